/- Part 11 of what the claim leans on. -/
import Derived.Test.YtpeihknododmlaaGreatDoorRRv10
set_option maxRecDepth 100000
set_option linter.unusedVariables false
set_option linter.unusedSimpArgs false
set_option maxHeartbeats 4000000
namespace Go.Proofs.YtpeihknododmlaaGreatDoor
open Go.Proofs.Tryz
structure Pd(n:Nat)(x:cJ):Prop where
 c0:0≤x.bo
 c1:x.bo<n
 p0:0≤x.pd
 p8:x.pd≤8
 n0:0≤x.gN
 n1:x.gN≤2147483647
 y0:0≤x.kV
 y1:x.kV≤1
 h0:0≤x.bM
 h7:x.bM≤7
 so:x.pB=4∨x.pB=5∨x.pB=6
 al:x.bR.length≤4
 args:∀a∈x.bR,I6 a
def xq(n:Nat)(a:aP):Prop:=∀e∈a.aW,Pd n e.qo
theorem Vl(t:Int)(x:cJ):Gw (vN t x):=by
 have K1:Gw (uF ()):=ah trivial;have K2:∀b,Gw (uE x b):=fun b=>ak (fun _=>ak (fun _=>ah trivial) (fun _=>ax K1)) (fun _=>ax K1)
 unfold vN;refine eI (fun _ _=>True) (by decide) trivial ?_ (fun _ _=>cS (ak (fun _=>ah trivial) (fun _=>cS (ak (fun _=>ax (K2 _)) (fun _=>ax (K2 _))))));intro j _ hj _;exact bJ (by simpa using hj) (fun v _ _=>aV (qj (ak (fun _=>ah (ah trivial)) (fun _=>ax (ah trivial)))))
theorem JK{x:cJ}(h:x.bR.length≤1000):tU x=some x:=by
 unfold tU;exact ca (aK (Ed (by omega) (by decide)) (cR (ah rfl)))
theorem YM(a b:Int):Gw (jB a b):=by
 unfold jB kt;exact od (ah (od (ah (ak (fun _=>ak (fun _=>ah trivial) (fun _=>ah trivial)) (fun _=>ak (fun _=>ah trivial) (fun _=>ak (fun _=>ah trivial) (fun _=>ak (fun _=>ah trivial) (fun _=>ah trivial))))))))
theorem Zj(x y:aD):Gw (tC x y):=by
 have c1:∀x,Gw (qS x):=fun x=>ak (fun _=>ah trivial) (fun _=>ak (fun _=>ah trivial) (fun _=>ah trivial))
 unfold tC;refine aA (qz _ _) (aA (qz _ _) (au (YM _ _) (fun e _=>aV (aA (BN (by simp)) (ak (fun _=>ah trivial) (fun _=>?_))))));exact au (c1 x) (fun a _=>au (c1 y) (fun b _=>aA (qz _ _) (aA (qz _ _) (aA (qz _ _) (aV (aA (BN (by simp)) (ah trivial)))))))
theorem QM{a:aP}{e:aD}(hl:a.aW.length≤1000000000000):Wp (uj (a.aW.length:Int) a e) fun r=>0≤r∧r≤(a.aW.length:Int):=by
 unfold uj;refine ly (fun t=>0≤t.1∧t.1≤t.2∧t.2≤(a.aW.length:Int)) (fun t=>(t.2-t.1).toNat) ⟨Int.le_refl _,by dsimp only;omega,Int.le_refl _⟩ (by dsimp only;omega) ?_;rintro⟨i,j⟩ ⟨i0,ij,jn⟩;dsimp only at i0 ij jn ⊢;refine ak (fun hb=>?_) (fun hb=>ah (aI (ah ⟨i0,by omega⟩)));have Dn:i<j:=by simpa using hb
 rw[ET i0 Dn (by omega)];refine au (P:=fun _=>True) (aQ ?_) (fun q _=>ak (fun _=>ax (ah ?_)) (fun _=>ax (ah ?_)))
 ·unfold pD
  exact fI (by omega) (by omega) (fun v _ _=>au (Zj _ _) (fun _ _=>aI (ah trivial)))
 ·rw[wrap_i64 (by omega) (by omega)]
  exact⟨⟨by dsimp only;omega,by dsimp only;omega,by dsimp only;omega⟩,by dsimp only;omega⟩
 ·exact⟨⟨by dsimp only;omega,by dsimp only;omega,by dsimp only;omega⟩,by dsimp only;omega⟩
theorem QL{a:aP}{k:Int}(hl:a.aW.length≤1000000000000):Wp (sZ (a.aW.length:Int) a k) fun r=>0≤r∧r≤(a.aW.length:Int):=by
 unfold sZ;refine ly (fun t=>0≤t.1∧t.1≤t.2∧t.2≤(a.aW.length:Int)) (fun t=>(t.2-t.1).toNat) ⟨Int.le_refl _,by dsimp only;omega,Int.le_refl _⟩ (by dsimp only;omega) ?_;rintro⟨i,j⟩ ⟨i0,ij,jn⟩;dsimp only at i0 ij jn ⊢;refine ak (fun hb=>?_) (fun hb=>ah (aI (ah ⟨i0,by omega⟩)));have Dn:i<j:=by simpa using hb
 rw[ET i0 Dn (by omega)];refine au (P:=fun _=>True) (aQ ?_) (fun q _=>ak (fun _=>ax (ah ?_)) (fun _=>ax (ah ?_)))
 ·unfold oz
  exact fI (by omega) (by omega) (fun v _ _=>aI (ah trivial))
 ·rw[wrap_i64 (by omega) (by omega)]
  exact⟨⟨by dsimp only;omega,by dsimp only;omega,by dsimp only;omega⟩,by dsimp only;omega⟩
 ·exact⟨⟨by dsimp only;omega,by dsimp only;omega,by dsimp only;omega⟩,by dsimp only;omega⟩
theorem QK{a:aP}{k t:Int}(hl:a.aW.length≤1000000000000):Wp (sY (a.aW.length:Int) a k t) fun r=>0≤r∧r≤(a.aW.length:Int):=by
 unfold sY;refine ly (fun t=>0≤t.1∧t.1≤t.2∧t.2≤(a.aW.length:Int)) (fun t=>(t.2-t.1).toNat) ⟨Int.le_refl _,by dsimp only;omega,Int.le_refl _⟩ (by dsimp only;omega) ?_;rintro⟨i,j⟩ ⟨i0,ij,jn⟩;dsimp only at i0 ij jn ⊢;refine ak (fun hb=>?_) (fun hb=>ah (aI (ah ⟨i0,by omega⟩)));have Dn:i<j:=by simpa using hb
 rw[ET i0 Dn (by omega)];refine au (P:=fun _=>True) (aQ ?_) (fun q _=>ak (fun _=>ax (ah ?_)) (fun _=>ax (ah ?_)))
 ·unfold oy
  exact fI (by omega) (by omega) (fun v _ _=>aI (ah trivial))
 ·rw[wrap_i64 (by omega) (by omega)]
  exact⟨⟨by dsimp only;omega,by dsimp only;omega,by dsimp only;omega⟩,by dsimp only;omega⟩
 ·exact⟨⟨by dsimp only;omega,by dsimp only;omega,by dsimp only;omega⟩,by dsimp only;omega⟩
section
variable {n:Nat} {a:aP}
theorem afq{t:Int}{x:cJ}(h:xq n a)(hx:Pd n x)(hl:a.aW.length≤1000000000000):Wp (nZ t x a) fun r=>xq n r.2∧r.2.aW.length≤a.aW.length+1:=by
 have al:=hx.al;unfold nZ;refine au (Vl t x) (fun v _=>ak (fun _=>aI (ah ⟨h,by dsimp only;omega⟩)) (fun _=>aA (JK (by omega)) (au (aQ (QM hl)) ?_)));rintro i ⟨i0,i1⟩;refine aV (au (P:=fun r=>r=a.aW.take i.toNat++[aD.mk t x]++a.aW.drop i.toNat) (aQ ?_) ?_)
 ·unfold Zh
  rw[tT ⟨i0,by omega,rfl,by omega⟩];exact ah rfl
 ·rintro r rfl
  refine aI (ah ⟨fun e he=>?_,?_⟩)
  ·rcases List.mem_append.1 he with he|he
   ·rcases List.mem_append.1 he with he|he
    ·exact h e (List.mem_of_mem_take he)
    ·simp at he;subst he;exact hx
   ·exact h e (List.mem_of_mem_drop he)
  ·simp only[List.length_append,List.length_take,List.length_drop,List.length_singleton];omega
theorem DQ{t:Int}{x:cJ}{m:ay}{o:aj}(h:xq n a)(hx:Pd n x)(hl:a.aW.length≤1000000000000):Wp (iw t x m o a) fun r=>xq n r∧r.aW.length≤a.aW.length+1:=by
 unfold iw;exact ak (fun _=>au (aQ (afq h hx hl)) (fun r hr=>aI (ah hr))) (fun _=>aI (ah ⟨h,by omega⟩))
theorem WY{α:Type}{xs:List α}{lo k:Nat}{z:α}(h:lo≤xs.length):(Tk xs lo k z).take lo=xs.take lo:=by
 unfold Tk;rw[List.append_assoc,List.take_append_of_le_length (by rw[List.length_take];omega),List.take_take,Nat.min_self]
theorem VE{k:Int}(h:xq n a)(hl:a.aW.length≤1000000000000):Wp (lf k a) fun r=>xq n r.2∧r.2.aW.length≤a.aW.length:=by
 have c1:∀x,Gw (jP x k):=fun x=>aI (ah trivial)
 unfold lf
 refine au (P:=fun r=>match r with
  |.inl l=>(∀e∈l,Pd n e.qo)∧l.length≤a.aW.length
  |.inr l=>l=a.aW) (aQ ?_) ?_
 ·unfold fi fk
  refine au (P:=fun v=>v = -1∨0≤v∧v<(a.aW.length:Int)) (aQ ?_) (fun v hv=>ak (fun _=>aI (ah rfl)) (fun hn=>?_))
  ·refine eI (fun _ _=>True) (gx (by omega)) trivial ?_ (fun _ _=>aI (ah (.inl rfl)))
   intro j _ hj _;exact bJ hj (fun x _ _=>au (aQ (c1 x)) (fun b _=>ak (fun _=>aI (ah (ah (.inr ⟨by omega,hj⟩)))) (fun _=>ax (ah trivial))))
  ·have TD:0≤v∧v<(a.aW.length:Int):=by
    have:v≠-1:=wC hn;rcases hv with h|h
    ·exact absurd h this
    ·exact h
   obtain⟨v0,v1⟩:=TD;rw[wrap_i64 (n:=v+1) (by omega) (by omega)];refine ly (fun s=>s.1.length=a.aW.length∧(∀e∈s.1,Pd n e.qo)∧0≤s.2.1∧s.2.1<s.2.2∧s.2.2≤(a.aW.length:Int)) (fun s=>((a.aW.length:Int)-s.2.2).toNat) ⟨rfl,h,v0,by dsimp only;omega,by dsimp only;omega⟩ (by dsimp only;omega) ?_;rintro⟨l,i,j⟩ ⟨q1,q2,i0,ij,jn⟩;dsimp only at q1 q2 i0 ij jn ⊢;refine ak (fun hb=>?_) (fun hb=>ah ?_)
   ·have hj:j<(l.length:Int):=of_decide_eq_true hb
    refine fI (by omega) hj (fun x _ xm=>au (aQ (c1 x)) (fun b _=>ak (fun _=>fI i0 (by omega) (fun y _ _=>aV (ax (ah ?_)))) (fun _=>ax (ah ?_))))
    ·rw[wrap_i64 (n:=i+1) (by omega) (by omega),wrap_i64 (n:=j+1) (by omega) (by omega)]
     exact⟨⟨by dsimp only;rw[List.length_set];exact q1,Ci q2 (q2 x xm),by dsimp only;omega,by dsimp only;omega,by dsimp only;omega⟩,by dsimp only;omega⟩
    ·rw[wrap_i64 (n:=j+1) (by omega) (by omega)]
     exact⟨⟨q1,q2,i0,by dsimp only;omega,by dsimp only;omega⟩,by dsimp only;omega⟩
   ·have hil:i.toNat≤l.length:=by omega
    refine aK ⟨i0,show i≤(l.length:Int) by omega,Int.le_refl _⟩ (aV (aK ⟨by decide,i0,?_⟩ (aI (ah ?_))))
    ·unfold Tk
     simp only[List.length_append,List.length_take,List.length_replicate,List.length_drop];omega
    ·dsimp only
     rw[WY hil];exact⟨fun e he=>q2 e (List.mem_of_mem_take he),by rw[List.length_take];omega⟩
 ·intro r hr
  refine CP (fun l e=>?_) (fun l e=>?_)
  ·subst e;exact aI (ah hr)
  ·subst e
   have hr:l=a.aW:=hr;subst hr;exact aI (ah ⟨h,Nat.le_refl _⟩)
theorem acz{t k:Int}(h:xq n a)(hl:a.aW.length≤100000000000):Wp (mS t k a) fun r=>(∀x∈r.1,Pd n x)∧xq n r.2∧r.1.length+r.2.aW.length=a.aW.length:=by
 unfold mS;refine au (aQ (QL (by omega))) ?_;rintro i ⟨i0,i1⟩;refine au (aQ (QK (by omega))) ?_;rintro j ⟨j0,j1⟩;refine ak (fun _=>aI (ah ⟨by simp,h,by simp⟩)) (fun hh=>?_);have Dn:i<j:=by simpa using hh
 rw[wrap_i64 (n:=j-i) (by omega) (by omega)];refine aK ⟨by omega,by omega,by omega,by omega⟩ (aV (aK ⟨i0,by omega,by omega⟩ ?_));refine cw (fun q s=>s.length=q∧∀x∈s,Pd n x) (gx (by omega)) ⟨rfl,by simp⟩ ?_ ?_
 ·rintro q s hq ⟨s1,s2⟩
  refine aK ⟨i0,by omega,by omega⟩ (fI (by omega) (by omega) (fun e _ em=>?_));have ho:=h e em;have al:=ho.al;exact aA (JK (by omega)) (aV (aK (by rw[s1];exact apB (by simp only[List.length_singleton];omega) (by decide)) (ax (ah ⟨by rw[rR];omega,uy s2 ho⟩))))
 ·rintro s ⟨s1,s2⟩
  rw[Int.toNat_natCast]at s1;refine au (P:=fun r=>r=a.aW.take i.toNat++a.aW.drop j.toNat) (aQ ?_) ?_
  ·unfold Zi
   rw[tT ⟨i0,Dn,j1⟩];exact ah rfl
  ·rintro r rfl
   refine cR (aI (ah ⟨s2,fun e he=>?_,?_⟩))
   ·rcases List.mem_append.1 he with he|he
    ·exact h e (List.mem_of_mem_take he)
    ·exact h e (List.mem_of_mem_drop he)
   ·simp only[List.length_append,List.length_take,List.length_drop];omega
end
structure EvB(e:AEv):Prop where
 c0:0≤e.bo
 c8:e.bo≤8
 k1:1≤e.bw
 k11:e.bw≤11
 p0:0≤e.pd
 p8:e.pd≤8
 n0:0≤e.gN
 n1:e.gN≤2147483647
 y0:0≤e.kV
 y1:e.kV≤1
 h0:0≤e.bM
 h7:e.bM≤7
 d:I6 e.gD
 al:e.bR.length≤4
 args:∀a∈e.bR,I6 a
structure Fj(e:AEv):Prop where
 t0:0≤e.vI
 t1:e.vI≤200
 b:EvB e
structure aff(p:aN):Prop where
 s3:p.dw.length≤3
 so:∀s∈p.dw,StL s
 f2:p.aR.length≤2
 v3:p.aX.length≤3
structure acM(I:dt)(c:aq):Prop where
 m:c∈I.je.aW
 f:Fits I.fx c
 k4:c.cG.bw≤4
structure MO0(I:dt)(tk:Int)(m:ay):Prop where
 UN:m.CJ=I
 fit:∀c∈m.mf,acM I c
 fl:m.mf.length≤10
 held:∀t∈m.sG,Zm t
 hl:m.sG.length≤6
 n0:0≤m.rH
 n1:m.rH≤13
 nw:m.rH=tk
structure tE(I:dt)(tk:Int)(m:ay):Prop where
 z:MO0 I tk m
 sl:m.ba.dw.length=fN I.fx
 so:∀s∈m.ba.dw,StL s
 fgl:m.ba.aR.length=I.fx.qn.aR.length
 vl:m.ba.aX.length=fN I.fx
 vr:∀v∈m.ba.aX,v≤1000
 pl:(m.dS.length:Int)≤tk
 po:∀p∈m.dS,aff p
 ev:∀e∈m.cj,Fj e
section
variable {I:dt} {tk:Int} {m:ay} {cs cd:Int} {o:aj} {a:aP}
theorem Az{e:AEv}(h:tE I tk m)(he:EvB e)(hl:m.cj.length<100000000000):Wp (fq e m o a) fun r=>tE I tk r∧r.cj.length=m.cj.length+1:=by
 have al:=he.al;have n0:=h.z.n0;have n1:=h.z.n1;unfold fq;refine aK (Ed (by omega) (by decide)) (cR (aV (aK (apB (by simp only[List.length_singleton];omega) (by decide)) (aI (ah ⟨?_,by dsimp only;rw[rR]⟩)))));refine⟨⟨h.z.UN,h.z.fit,h.z.fl,h.z.held,h.z.hl,h.z.n0,h.z.n1,h.z.nw⟩,h.sl,h.so,h.fgl,h.vl,h.vr,h.pl,h.po,uy h.ev ⟨n0,by dsimp only;omega,?_⟩⟩;exact⟨he.c0,he.c8,he.k1,he.k11,he.p0,he.p8,he.n0,he.n1,he.y0,he.y1,he.h0,he.h7,he.d,he.al,he.args⟩
theorem YE(x:Int):Wp (zF x) fun b=>b=true→x≤4:=by
 unfold zF;refine ah (fun h=>?_);simp at h;omega
theorem Yx{x3:Int}{a1:List aq}{a4:List aL}{a5:List Bool}{a6:List Int}{a7:List aN}{a8:List AEv}(H:yJ I)(h:xu I cs cd o):Wp (nP I x3 0 a o a1 a4 a5 a6 a7 a8) fun r=>MO0 I 0 r∧r.rH=0:=by
 have hl:=H.cl;unfold nP;refine aA (Ve H) (au (aQ (acK (h.hl H) (by rw[h.hs];exact H.hd))) ?_);rintro hs ⟨h1,h2⟩;refine cR (aA (afp (by omega) H.ch) ?_);refine cw (fun j s=>s.length≤j∧∀c∈s,acM I c) (gx (by omega)) ⟨by simp,by simp⟩ ?_ ?_
 ·rintro j s hj ⟨s1,s2⟩
  refine bJ hj (fun c c1 c2=>au (YE _) (fun b hb=>?_));refine au (P:=fun v=>b=true→v=0→Fits I.fx c) (ia (fun _=>(RA H.fl (H.ch c c2)).imp (fun v hv _=>hv)) (fun e e'=>by rw[e]at e';cases e')) (fun v hv=>ak (fun hh=>?_) (fun _=>ax (ah ⟨by omega,s2⟩)));rw[Bool.and_eq_true]at hh;exact aV (aK (xt (by omega) (by decide)) (ax (ah ⟨by rw[rR];omega,uy s2 ⟨c2,hv hh.1 (by simpa using hh.2),hb hh.1⟩⟩)))
 ·rintro s ⟨s1,s2⟩
  rw[Int.toNat_natCast]at s1;exact aI (ah ⟨⟨rfl,s2,by dsimp only;omega,h2,h1,Int.le_refl _,by dsimp only;decide,rfl⟩,rfl⟩)
theorem Zr(H:yJ I):Wp (zH I) fun r=>∃m o a,r = .inl (m,o,a)∧tE I 0 m∧xu I 0 0 o∧a.aW = []∧m.cj = []∧m.dS = []∧m.rH=0:=by
 have z0:=H.z0;have z1:=H.z1;have n3:=H.fl.n3;have f2:=H.fl.f2;unfold zH;refine ak (fun h=>?_) (fun _=>?_)
 ·rw[Bool.or_eq_true,decide_eq_true_eq,decide_eq_true_eq]at h
  omega
 refine au (aQ (VB H)) ?_;rintro _ ⟨o,rfl,ho⟩;refine CP (fun q hq=>?_) (fun q hq=>by cases hq);cases hq;refine aA (x:=⟨[]⟩) (by unfold cl Ay;exact ca (cR (aI (ah rfl)))) (cR (au (aQ (Yx H ho)) (fun m hm0=>aA Fcs ?_)));obtain⟨hm,apa⟩:=hm0;refine cw (fun j s=>s.1.length=j∧s.2.length=j∧(∀x∈s.1,StL x)∧∀x∈s.2,x≤1000) (gx (by omega)) ⟨rfl,rfl,by simp,by simp⟩ ?_ ?_
 ·rintro j ⟨s,t⟩ hj ⟨q1,q2,q3,q4⟩
  dsimp only at q1 q2 q3 q4;exact au (HM H.fl (by omega) hj) (fun x hx=>aV (aK (xt (by dsimp only;omega) (by decide)) (aV (aK (xt (by dsimp only;omega) (by decide)) (ax (ah ⟨by dsimp only;rw[rR];omega,by dsimp only;rw[rR];omega,uy q3 hx,uy q4 (by decide)⟩))))))
 ·rintro⟨s,t⟩ ⟨q1,q2,q3,q4⟩
  dsimp only at q1 q2 q3 q4;rw[Int.toNat_natCast]at q1 q2;refine aA Ffs ?_;refine cw (fun j s=>s.length=j) (gx (by omega)) rfl ?_ ?_
  ·intro j f hj hf
   exact au (Pe (by omega)) (fun x _=>aV (aK (xt (by omega) (by decide)) (ax (ah (by rw[rR];omega)))))
  ·intro f hf
   rw[Int.toNat_natCast]at hf;exact aI (ah ⟨_,_,_,rfl,⟨⟨hm.UN,hm.fit,hm.fl,hm.held,hm.hl,hm.n0,hm.n1,hm.nw⟩,q1,q3,hf,q2,q4,by simp,by simp,by simp⟩,ho,rfl,rfl,rfl,apa⟩)
theorem LP{k:Int}(H:yJ I)(h:tE I tk m)(ho:xu I cs cd o):Wp (jE k m o a) fun r=>(∀c∈r.1,acM I c∧c.cG.bw=k)∧r.1.length≤10∧xu I cs cd r.2:=by
 have Qf:=h.z.fl;unfold jE;refine cw (fun j s=>(∀c∈s.1,acM I c∧c.cG.bw=k)∧s.1.length≤j∧xu I cs cd (aj.mk (bS.mk s.2.2.2.2.1) s.2.2.2.2.2.1 s.2.1 s.2.2.1 s.2.2.2.1 s.2.2.2.2.2.2)) (gx (by omega)) ⟨by simp,by simp,ho⟩ ?_ ?_
 ·rintro j ⟨s,q⟩ hj ⟨s1,s2,s3⟩
  dsimp only at s1 s2;refine bJ hj (fun c c1 c2=>ak (fun hh=>?_) (fun _=>ax (ah ⟨s1,by dsimp only;omega,s3⟩)));rw[Bool.and_eq_true]at hh;exact au (aQ (RB H s3)) (fun o' Gz=>aV (aK (xt (by dsimp only;omega) (by decide)) (ax (ah ⟨uy s1 ⟨h.z.fit c c2,xR hh.1⟩,by dsimp only;rw[rR];omega,Gz⟩))))
 ·rintro⟨s,q⟩ ⟨s1,s2,s3⟩
  rw[Int.toNat_natCast]at s2;exact cR (aI (ah ⟨s1,by dsimp only at s2 ⊢;omega,s3⟩))
end
section
variable {I:dt} {tk:Int} {m:ay} {cs cd:Int} {o:aj} {a:aP}
theorem tE.flags(h:tE I tk m){l:List Bool}(hl:l.length=m.ba.aR.length):tE I tk { m with ba:={ m.ba with aR:=l } } :=
 ⟨⟨h.z.UN,h.z.fit,h.z.fl,h.z.held,h.z.hl,h.z.n0,h.z.n1,h.z.nw⟩,h.sl,h.so,hl.trans h.fgl,h.vl,h.vr,h.pl,h.po,h.ev⟩
theorem tE.state(h:tE I tk m){i:Nat}{s:aL}(hs:StL s):tE I tk { m with ba:={ m.ba with dw:=m.ba.dw.set i s } } :=
 ⟨⟨h.z.UN,h.z.fit,h.z.fl,h.z.held,h.z.hl,h.z.n0,h.z.n1,h.z.nw⟩,by dsimp only;rw[List.length_set];exact h.sl,Ci h.so hs,h.fgl,h.vl,h.vr,h.pl,h.po,h.ev⟩
theorem tE.anp(h:tE I tk m){i:Nat}{v:Int}(hv:v≤1000):tE I tk { m with ba:={ m.ba with aX:=m.ba.aX.set i v } } :=
 ⟨⟨h.z.UN,h.z.fit,h.z.fl,h.z.held,h.z.hl,h.z.n0,h.z.n1,h.z.nw⟩,h.sl,h.so,h.fgl,by dsimp only;rw[List.length_set];exact h.vl,Ci h.vr hv,h.pl,h.po,h.ev⟩
theorem abX(H:yJ I)(h:tE I tk m)(ho:xu I cs cd o)(hl:m.cj.length≤99999999000):Wp (oV m o a) fun r=>tE I tk r.1∧xu I cs cd r.2∧r.1.cj.length≤m.cj.length+10:=by
 have n3:=H.fl.n3;unfold oV;refine au (aQ (LP H h ho)) ?_;rintro⟨cl,o1⟩ ⟨d1,d2,d3⟩;dsimp only at d1 d2 d3 ⊢;refine cw (fun j s=>tE I tk (ay.mk s.1 s.2.1 s.2.2.1 () () s.2.2.2.1 (aN.mk s.2.2.2.2.1 s.2.2.2.2.2.1 s.2.2.2.2.2.2.1) s.2.2.2.2.2.2.2.1 s.2.2.2.2.2.2.2.2)∧s.2.2.2.2.2.2.2.2.length≤m.cj.length+j) (gx (by omega)) ⟨h,Nat.le_refl _⟩ ?_ ?_
 ·rintro j ⟨gi,ft,hd,nw,st,fg,vs,ps,es⟩ hj ⟨g,gl⟩
  dsimp only at g gl ⊢;refine bJ hj (fun c c1 c2=>?_);obtain⟨f1,f2⟩:=d1 c c2;have hc:=H.ch c f1.m;have hA:=f1.f.b f2;have a0:=hc.a0;have a1:=hc.a1;have n0:=hc.n0;have n1:=hc.n1;have e0:=hc.d0;have e1:=hc.d1;have hfg:fg.length=I.fx.qn.aR.length:=g.fgl;obtain rfl:gi=I:=g.z.UN;refine fI a0 (by omega) (fun _ _ _=>aV (aA Fcs ?_));have g':=g.flags (l:=List.set fg (Int.toNat c.cG.gA) (c.gD==1)) (by dsimp only;rw[List.length_set]);refine au (aQ (Az g' (e:=AEv.mk 0 (fN gi.fx:Int) 1 c.cG.gA c.cG.gN 0 0 c.gD []) ?_ (by dsimp only;omega))) (fun r hr=>ax (ah ⟨hr.1,by have:=hr.2;dsimp only at this ⊢;omega⟩));exact⟨by dsimp only;omega,by dsimp only;omega,by dsimp only;decide,by dsimp only;decide,a0,by dsimp only;omega,n0,by dsimp only;omega,by dsimp only;decide,by dsimp only;decide,by dsimp only;decide,by dsimp only;decide,I6.of (by dsimp only;omega),by simp,by simp⟩
 ·rintro⟨gi,ft,hd,nw,st,fg,vs,ps,es⟩ ⟨g,gl⟩
  rw[Int.toNat_natCast]at gl;exact aI (ah ⟨g,d3,by dsimp only at gl ⊢;omega⟩)
theorem YF{k:Int}(H:yJ I)(h:tE I tk m)(ho:xu I cs cd o)(ha:xq (fN I.fx) a)(k0:0≤k)(k1:k<(fN I.fx:Int))(hl:m.cj.length≤99999999000)(al:a.aW.length≤99999999000):Wp (nQ k m o a) fun r=>tE I tk r.1∧xu I cs cd r.2.1∧xq (fN I.fx) r.2.2∧r.1.cj.length≤m.cj.length+10∧r.2.2.aW.length≤a.aW.length:=by
 have n3:=H.fl.n3;unfold nQ;refine au (aQ (LP H h ho)) ?_;rintro⟨cl,o1⟩ ⟨d1,d2,d3⟩;dsimp only at d1 d2 d3 ⊢;refine cw (fun j s=>tE I tk (ay.mk s.1 s.2.1 s.2.2.1 () () s.2.2.2.1 (aN.mk s.2.2.2.2.1 s.2.2.2.2.2.1 s.2.2.2.2.2.2.1) s.2.2.2.2.2.2.2.1 s.2.2.2.2.2.2.2.2.1)∧s.2.2.2.2.2.2.2.2.1.length≤m.cj.length+j∧xq (fN I.fx) ⟨s.2.2.2.2.2.2.2.2.2⟩∧s.2.2.2.2.2.2.2.2.2.length≤a.aW.length) (gx (by omega)) ⟨h,Nat.le_refl _,ha,Nat.le_refl _⟩ ?_ ?_
 ·rintro j ⟨gi,ft,hd,nw,st,fg,vs,ps,es,ag⟩ hj ⟨g,gl,ga,gal⟩
  dsimp only at g gl ga gal ⊢;refine bJ hj (fun c c1 c2=>ak (fun _=>ax (ah ⟨g,by dsimp only;omega,ga,gal⟩)) (fun _=>?_));obtain⟨f1,f2⟩:=d1 c c2;have hc:=H.ch c f1.m;have n0:=hc.n0;have n1:=hc.n1;have yL:st.length=fN I.fx:=g.sl;obtain rfl:gi=I:=g.z.UN;refine au (HM H.fl k0 k1) (fun s0 hs0=>fI k0 (by omega) (fun s1 _ sm=>aV ?_));have Ms:StL s1:=g.so s1 sm;have hns:StL { s0 with dW:=s1.dW }:=⟨⟨hs0.ok.v,hs0.ok.t,Ms.ok.d⟩,hs0.v,hs0.t⟩;have g':=g.state (i:=Int.toNat k) hns;refine au (aQ (VE ga (by dsimp only;omega))) ?_;rintro⟨x,ag2⟩ ⟨ga2,apb⟩;dsimp only at ga2 apb ⊢;refine au (aQ (Az g' (e:=AEv.mk 0 k 3 0 c.cG.gN 0 0 0 []) ?_ (by dsimp only;omega))) (fun r hr=>ax (ah ⟨hr.1,by have:=hr.2;dsimp only at this ⊢;omega,ga2,by dsimp only;omega⟩));exact⟨k0,by dsimp only;omega,by dsimp only;decide,by dsimp only;decide,by dsimp only;decide,by dsimp only;decide,n0,by dsimp only;omega,by dsimp only;decide,by dsimp only;decide,by dsimp only;decide,by dsimp only;decide,I6.of (by dsimp only;decide),by simp,by simp⟩
 ·rintro⟨gi,ft,hd,nw,st,fg,vs,ps,es,ag⟩ ⟨g,gl,ga,gal⟩
  rw[Int.toNat_natCast]at gl;exact aI (ah ⟨g,d3,ga,by dsimp only at gl ⊢;omega,gal⟩)
theorem Vb{k:Int}(H:yJ I)(h:tE I tk m)(ho:xu I cs cd o)(k0:0≤k)(k1:k<(fN I.fx:Int))(hl:m.cj.length≤99999999000):Wp (mD k m o a) fun r=>tE I tk r.1∧xu I cs cd r.2∧r.1.cj.length≤m.cj.length+10:=by
 have n3:=H.fl.n3;unfold mD;refine au (aQ (LP H h ho)) ?_;rintro⟨cl,o1⟩ ⟨d1,d2,d3⟩;dsimp only at d1 d2 d3 ⊢;refine cw (fun j s=>tE I tk (ay.mk s.1 s.2.1 s.2.2.1 () () s.2.2.2.1 (aN.mk s.2.2.2.2.1 s.2.2.2.2.2.1 s.2.2.2.2.2.2.1) s.2.2.2.2.2.2.2.1 s.2.2.2.2.2.2.2.2)∧s.2.2.2.2.2.2.2.2.length≤m.cj.length+j) (gx (by omega)) ⟨h,Nat.le_refl _⟩ ?_ ?_
 ·rintro j ⟨gi,ft,hd,nw,st,fg,vs,ps,es⟩ hj ⟨g,gl⟩
  dsimp only at g gl ⊢;refine bJ hj (fun c c1 c2=>ak (fun _=>ax (ah ⟨g,by dsimp only;omega⟩)) (fun _=>?_));obtain⟨f1,f2⟩:=d1 c c2;have hc:=H.ch c f1.m;have n0:=hc.n0;have n1:=hc.n1;have e0:=hc.d0;have e1:=hc.d1;have Mt:vs.length=fN I.fx:=g.vl;refine fI k0 (by omega) (fun _ _ _=>aV ?_);have g':=g.anp (i:=Int.toNat k) (v:=c.gD) (by omega);refine au (aQ (Az g' (e:=AEv.mk 0 k 2 0 c.cG.gN 0 0 c.gD []) ?_ (by dsimp only;omega))) (fun r hr=>ax (ah ⟨hr.1,by have:=hr.2;dsimp only at this ⊢;omega⟩));exact⟨k0,by dsimp only;omega,by dsimp only;decide,by dsimp only;decide,by dsimp only;decide,by dsimp only;decide,n0,by dsimp only;omega,by dsimp only;decide,by dsimp only;decide,by dsimp only;decide,by dsimp only;decide,I6.of (by dsimp only;omega),by simp,by simp⟩
 ·rintro⟨gi,ft,hd,nw,st,fg,vs,ps,es⟩ ⟨g,gl⟩
  rw[Int.toNat_natCast]at gl;exact aI (ah ⟨g,d3,by dsimp only at gl ⊢;omega⟩)
theorem UR(H:yJ I)(h:tE I tk m)(ho:xu I cs cd o)(ha:xq (fN I.fx) a)(al:a.aW.length≤99999999000):Wp (mB m o a) fun r=>xu I cs cd r.1∧xq (fN I.fx) r.2∧r.2.aW.length≤a.aW.length+16:=by
 have n3:=H.fl.n3;have hhl:=h.z.hl;unfold mB;refine au (aQ (LP H h ho)) ?_;rintro⟨cl,o1⟩ ⟨d1,d2,d3⟩;dsimp only at d1 d2 d3 ⊢;refine cw (fun j s=>xq (fN I.fx) ⟨s⟩∧s.length≤a.aW.length+j) (gx (by omega)) ⟨ha,Nat.le_refl _⟩ ?_ ?_
 ·rintro j s hj ⟨g,gl⟩
  refine bJ hj (fun c c1 c2=>?_);obtain⟨f1,f2⟩:=d1 c c2;have hc:=H.ch c f1.m;have a0:=hc.a0;have b0:=hc.b0;have b1:=hc.b1;have n0:=hc.n0;have n1:=hc.n1;have al2:=hc.ar;refine au (aQ (DQ g (x:=cJ.mk 4 c.cG.gA 0 c.cG.gN 0 c.cG.gB c.bR) ?_ (by dsimp only;omega))) (fun r hr=>ax (ah ⟨hr.1,by have:=hr.2;dsimp only at this ⊢;omega⟩));exact⟨a0,f1.f.a (.inl f2),by dsimp only;decide,by dsimp only;decide,n0,by dsimp only;omega,by dsimp only;decide,by dsimp only;decide,b0,by dsimp only;omega,.inl rfl,by dsimp only;omega,hc.args⟩
 ·rintro s ⟨g,gl⟩
  rw[Int.toNat_natCast]at gl;refine cw (fun j s=>xq (fN I.fx) ⟨s⟩∧s.length≤a.aW.length+10+j) (gx (by omega)) ⟨g,by omega⟩ ?_ ?_
  ·rintro j s hj ⟨g,gl⟩
   refine bJ hj (fun t _ tm=>?_);have ht:=h.z.held t tm;have f0:=ht.f0;have f1:=ht.f1;have n0:=ht.n0;have n1:=ht.n1;have q0:=ht.ar.h0;have q1:=ht.ar.h1;have q2:=ht.ar.al;refine au (P:=fun v=>(t.qO.AN==m.rH)=true→v=(fN I.fx:Int)) (ia (fun _=>Wp.eq Fcs (fun _=>by rw[h.z.UN])) (fun e e'=>by rw[e]at e';cases e')) (fun v hv=>ak (fun hh=>?_) (fun _=>ax (ah ⟨g,by omega⟩)));rw[Bool.and_eq_true,decide_eq_true_eq]at hh;have:=hv hh.1;refine au (aQ (DQ g (x:=cJ.mk 5 t.cu.uS t.cu.gS t.cu.gN t.kV t.qO.bM t.qO.bR) ?_ (by dsimp only;omega))) (fun r hr=>ax (ah ⟨hr.1,by have:=hr.2;dsimp only at this ⊢;omega⟩));exact⟨ht.t0,by dsimp only;omega,f0,by dsimp only;omega,n0,by dsimp only;omega,ht.c0,ht.c1,q0,by dsimp only;omega,.inr (.inl rfl),by dsimp only;omega,ht.ar.args⟩
  ·rintro s ⟨g,gl⟩
   rw[Int.toNat_natCast]at gl;exact aI (ah ⟨d3,g,by dsimp only;omega⟩)
end
structure ER(I:dt)(tk cs cd:Int)(e g:Nat)(r:Bool×ay×aj×aP):Prop where
 m:tE I tk r.2.1
 o:xu I (cs+1) cd r.2.2.1
 a:xq (fN I.fx) r.2.2.2
 el:r.2.1.cj.length≤e+1
 gl:r.2.2.2.aW.length≤g+2
section
variable {I:dt} {tk:Int} {m:ay} {cs cd:Int} {o:aj} {a:aP}
theorem UZ{x1 x2 x3:Int}{x4:cq}(H:yJ I)(h:tE I tk m)(ho:xu I cs cd o)(ha:xq (fN I.fx) a)(hx:acO (fN I.fx) x4)(a0:0≤x1)(a1:x1<(fN I.fx:Int))(b0:0≤x2)(b1:x2≤7)(c0:0≤x3)(c1:x3≤2147483647)(yS:cs≤2147483647)(el:m.cj.length≤99999999000)(gl:a.aW.length≤99999999000):Wp (mC x1 x2 x3 x4 m o a) (ER I tk cs cd m.cj.length a.aW.length):=by
 have n3:=H.fl.n3;have xal:=hx.al;have n0:=h.z.n0;have n13:=h.z.n1;have Cf:=h.z.UN;have K1:∀(q:ay) (p:aj) (l:List aD),tE I tk q→xu I (cs+1) cd p→xq (fN I.fx) ⟨l⟩→q.cj.length≤m.cj.length+1→l.length≤a.aW.length+2→Wp (iP (q.CJ,q.mf,q.sG,q.rH,q.ba.dw,q.ba.aR,q.ba.aX,q.dS,q.cj,p.cY,p.eG,p.dh,p.gf.aW,p.df,p.bh,l)) (ER I tk cs cd m.cj.length a.aW.length):=fun q p l q1 q2 q3 q4 q5=>aI (ah ⟨q1,q2,q3,q4,q5⟩)
 unfold mC;refine cS (ak (fun e=>?_) (fun e1=>ak (fun e=>?_) (fun e2=>cS ?_)))
 ·have k:=xR e
  obtain⟨t0,t1⟩:=hx.to k;obtain⟨h0,h6⟩:=hx.h (.inl k);rw[Cf];refine au (Rz H.fl a0 a1 t0 t1) (fun lat _=>au (aQ (acC H ho yS a0 (by omega) t0 (by omega) (by omega))) ?_);rintro⟨sn,ar,o1⟩ ⟨s1,s2,s3,s4⟩;dsimp only at s1 s2 s3 s4 ⊢;have hse:=ho.se x1.toNat x4.uS.toNat (by omega) (by omega);have hsn:0≤sn∧sn≤2147483647:=by omega
  refine au (aQ (Az h (e:=AEv.mk 0 x1 8 x4.uS sn 0 x4.bM 0 x4.bR) ?_ (by omega))) ?_
  ·exact⟨a0,by dsimp only;omega,by dsimp only;decide,by dsimp only;decide,t0,by dsimp only;omega,hsn.1,hsn.2,by dsimp only;decide,by dsimp only;decide,h0,by dsimp only;omega,I6.of (by dsimp only;decide),xal,hx.args⟩
  rintro q ⟨q1,q2⟩;refine cw (fun j s=>xq (fN I.fx) ⟨s⟩∧s.length≤a.aW.length+j) (gx (by omega)) ⟨ha,Nat.le_refl _⟩ ?_ ?_
  ·rintro j s hj ⟨g,gl'⟩
   refine bJ hj (fun t _ tm=>?_);obtain⟨th,ta⟩:=s3 t tm;refine au (aQ (DQ g (x:=cJ.mk 5 x4.uS x1 sn (j:Int) t.bM t.bR) ?_ (by dsimp only;omega))) (fun r hr=>ax (ah ⟨hr.1,by have:=hr.2;dsimp only at this ⊢;omega⟩));exact⟨t0,t1,a0,by dsimp only;omega,hsn.1,hsn.2,by dsimp only;omega,by dsimp only;omega,by rw[th];exact h0,by show t.bM≤7;rw[th];omega,.inr (.inl rfl),by rw[ta];exact xal,by rw[ta];exact hx.args⟩
  ·rintro s ⟨g,gl'⟩
   rw[Int.toNat_natCast]at gl';exact ax (K1 q o1 s q1 s4 g (by omega) (by omega))
 ·have k:=xR e
  obtain⟨h0,h6⟩:=hx.h (.inr k)
  have K2:∀d:Int,I6 d→Wp (nj x1 x4 m o a d) (ER I tk cs cd m.cj.length a.aW.length):=by
   intro d hd;refine au (aQ (Zn H ho yS a0 (by omega) hd)) ?_;rintro⟨tn,td,o1⟩ ⟨s1,s2,s3⟩;dsimp only at s1 s2 s3 ⊢;have hti:=ho.ti x1.toNat (by omega);have htn:0≤tn∧tn≤2147483647:=by omega
   refine au (aQ (Az h (e:=AEv.mk 0 x1 9 0 tn 0 x4.bM d x4.bR) ?_ (by omega))) ?_
   ·exact⟨a0,by dsimp only;omega,by dsimp only;decide,by dsimp only;decide,by dsimp only;decide,by dsimp only;decide,htn.1,htn.2,by dsimp only;decide,by dsimp only;decide,h0,by dsimp only;omega,hd,xal,hx.args⟩
   rintro q ⟨q1,q2⟩;refine au (aQ (DQ ha (x:=cJ.mk 6 x1 0 tn 0 x4.bM x4.bR) ?_ (by omega))) (fun r hr=>ax (K1 q o1 r.aW q1 s3 hr.1 (by omega) (by have:=hr.2;omega)));exact⟨a0,a1,by dsimp only;decide,by dsimp only;decide,htn.1,htn.2,by dsimp only;decide,by dsimp only;decide,h0,by dsimp only;omega,.inr (.inr rfl),xal,hx.args⟩
  exact cS (ak (fun _=>ax (K2 _ (Ac _))) (fun _=>ax (K2 _ (by unfold I6;decide))))
 ·have K6:∀(p c:Int) (ar:List Int),(p=0∨p=1)→(c=0∨c=1)→ar.length≤4→(∀x∈ar,I6 x)→Wp (nb x1 x3 m o a p c ar) (ER I tk cs cd m.cj.length a.aW.length):=by
   intro p c ar hp hc hal Wo;refine cR (au (aQ (Az h (e:=AEv.mk 0 x1 10 p x3 c 0 0 ar) ?_ (by omega))) (fun r hr=>aI (ah ⟨hr.1,ho.mono (by omega) (Int.le_refl _),ha,by have:=hr.2;dsimp only;omega,by dsimp only;omega⟩)));exact⟨a0,by dsimp only;omega,by dsimp only;decide,by dsimp only;decide,by dsimp only;omega,by dsimp only;omega,c0,c1,by dsimp only;omega,by dsimp only;omega,by dsimp only;decide,by dsimp only;decide,I6.of (by dsimp only;decide),hal,Wo⟩
  have K5:∀(p c:Int),(p=0∨p=1)→(c=0∨c=1)→Wp (nc x1 x3 x4 m o a [x4.cG] p c) (ER I tk cs cd m.cj.length a.aW.length):=fun p c hp hc=>cS (ak (fun _=>aV (aK (xt (by simp) (by decide)) (ax (K6 p c _ hp hc (by simp) (fun x hh=>by
    simp at hh;rcases hh with rfl|rfl
    ·exact hx.k
    ·exact hx.v))))) (fun _=>ax (K6 p c _ hp hc (by simp) (fun x hh=>by
    simp at hh;subst hh;exact hx.k))))
  have K4:∀p:Int,(p=0∨p=1)→Wp (ng x1 x3 x4 m o a [x4.cG] p) (ER I tk cs cd m.cj.length a.aW.length):=fun p hp=>cS (ak (fun _=>ax (K5 p 1 hp (.inr rfl))) (fun _=>ax (K5 p 0 hp (.inl rfl))))
  have K3:∀b,Wp (ni x1 x2 x3 x4 m o a b) (ER I tk cs cd m.cj.length a.aW.length):=by
   intro b;have TK:xu I (cs+1) cd o:=ho.mono (by omega) (Int.le_refl _);refine ak (fun _=>aV (cS (ak (fun _=>ax (K4 1 (.inr rfl))) (fun _=>ax (K4 0 (.inl rfl)))))) (fun _=>ak (fun _=>?_) (fun _=>ax (K1 m o a.aW h TK ha (by omega) (by omega))));refine au (aQ (Az h (e:=AEv.mk 0 x1 11 0 0 0 x2 0 []) ?_ (by omega))) (fun r hr=>ax (K1 r o a.aW hr.1 TK ha (by have:=hr.2;omega) (by omega)));exact⟨a0,by dsimp only;omega,by dsimp only;decide,by dsimp only;decide,by dsimp only;decide,by dsimp only;decide,by dsimp only;decide,by dsimp only;decide,by dsimp only;decide,by dsimp only;decide,b0,b1,I6.of (by dsimp only;decide),by simp,by simp⟩
  exact ak (fun _=>ax (K3 _)) (fun _=>ax (K3 _))
def IZ(f:Nat→Int):Int:=f 0+f 1+f 2+f 3+f 4+f 5
def XO(f:Nat→Int):Prop:=∀h,h<8→0≤f h∧f h≤8
theorem XO.e{f:Nat→Int}(h:XO f):0≤IZ f∧IZ f≤48:=by
 have h0:=h 0 (by decide);have h1:=h 1 (by decide);have h2:=h 2 (by decide);have h3:=h 3 (by decide);have h4:=h 4 (by decide);have h5:=h 5 (by decide);unfold IZ;omega
theorem XO.up{f:Nat→Int}{k:Nat}(h:XO f)(hk:k<6)(h8:f k<8):XO (xJ f k (f k+1))∧IZ (xJ f k (f k+1))=IZ f+1:=by
 refine⟨fun j hj=>?_,?_⟩
 ·by_cases e:j=k
  ·subst e;rw[Ez];have:=h j hj;omega
  ·rw[CR e];exact h j hj
 ·have:k=0∨k=1∨k=2∨k=3∨k=4∨k=5:=by omega
  rcases this with rfl|rfl|rfl|rfl|rfl|rfl <;> (simp[IZ,xJ];omega)
end
structure AR(I:dt)(tk C:Int)(f:Nat→Int)(s:Nat)(r:ay×aj×aP×(Nat→Int)):Prop where
 m:tE I tk r.1
 x:XO r.2.2.2
 o:xu I (C+1048580*IZ r.2.2.2) (C+1048580*IZ r.2.2.2) r.2.1
 a:xq (fN I.fx) r.2.2.1
 sz:(r.1.cj.length:Int)+r.2.2.1.aW.length+3145741*IZ f≤s+1+3145741*IZ r.2.2.2
section
variable {I:dt} {tk:Int} {m:ay} {C:Int} {o:aj} {a:aP} {f:Nat→Int}
theorem Vr{x:cJ}(H:yJ I)(h:tE I tk m)(hf:XO f)(ho:xu I (C+1048580*IZ f) (C+1048580*IZ f) o)(ha:xq (fN I.fx) a)(hx:Pd (fN I.fx) x)(c0:0≤C)(c1:C+1048580*48≤2147483647)(sl:m.cj.length+a.aW.length≤90000000000):Wp (mE x m o a f) (AR I tk C f (m.cj.length+a.aW.length)):=by
 obtain⟨e0,e48⟩:=hf.e;have n3:=H.fl.n3;have Cf:=h.z.UN;have RH:=h.vl;have x0:=hx.c0;have x1:=hx.c1;have xh0:=hx.h0;have xh7:=hx.h7;have xal:=hx.al;have iA:qv 8 x.bM:=⟨xh0,by omega⟩;have fh:=hf x.bM.toNat (by omega);unfold mE;refine fI x0 (by omega) (fun v _ vm=>?_);have hv:=h.vr v vm;rw[Cf];refine au (VA H.fl x0 x1) (fun p hp=>aK (fun _=>iA) (iz (ak (fun _=>?_) (fun hh=>?_))))
 ·refine au (aQ (Az h (e:=AEv.mk 0 x.bo 7 x.pd x.gN x.kV x.bM (IntKind.wrap .i64 x.pB) x.bR) ?_ (by omega))) (fun r hr=>aI (ah ⟨hr.1,hf,ho,ha,by have:=hr.2;dsimp only;omega⟩))
  exact⟨x0,by dsimp only;omega,by dsimp only;decide,by dsimp only;decide,hx.p0,hx.p8,hx.n0,hx.n1,hx.y0,hx.y1,xh0,xh7,Ac _,xal,hx.args⟩
 simp only[Bool.or_eq_false_iff,decide_eq_false_iff_not,Bool.not_eq_false']at hh;obtain⟨q0,q6⟩:=hp hh.1.1;have f8:f x.bM.toNat<8:=by omega
 obtain⟨hf',hE⟩:=hf.up (k:=x.bM.toNat) (by omega) f8;obtain⟨g0,g48⟩:=hf'.e;rw[hE]at g48;rw[wrap_i64 (n:=f x.bM.toNat+1) (by omega) (by omega)];refine aK iA (iz (aK iA (iz (qj ?_))));refine au (aQ (Az h (e:=AEv.mk 0 x.bo x.pB x.pd x.gN x.kV x.bM 0 x.bR) ?_ (by omega))) ?_
 ·have:=hx.so
  exact⟨x0,by dsimp only;omega,by dsimp only;omega,by dsimp only;omega,hx.p0,hx.p8,hx.n0,hx.n1,hx.y0,hx.y1,xh0,xh7,I6.of (by dsimp only;decide),xal,hx.args⟩
 rintro m1 ⟨h1,h1l⟩;refine au (acx H.fl x0 x1 hv) (fun u hu=>?_);refine au (aQ (acP H ho x0 (by omega))) ?_;rintro⟨dk,fs⟩ ⟨d1,d2⟩;dsimp only at d1 d2 ⊢;have hdi:=ho.di x.bo.toNat (by omega);have Ba:=h1.sl;refine fI x0 (by omega) (fun st _ stm=>?_);have yL:=h1.so st stm;have nw0:=h1.z.n0;have nw1:=h1.z.n1;refine au (aQ (acN hu yL.ok hx.args (I6.of (by omega)) (by omega) yL.v yL.t)) ?_;rintro⟨res,er,fl⟩ ⟨xr,xl⟩;obtain rfl:fl=m1.ba.aR:=xr.fl;dsimp only at xl ⊢;refine ak (fun _=>aI (ah ⟨h1,hf',?_,ha,?_⟩)) (fun he=>?_)
 ·dsimp only;rw[hE];exact ho.mono (by omega) (by omega)
 ·dsimp only;rw[hE];omega
 have he:er=0:=by simpa using he
 have hso:=xr.st he;have RK:res.cZ.length≤1048580:=xr.el he;have hef:=xr.ef he;obtain⟨l1,l2⟩:=xl he;refine aV (au (Vv (by omega)) ?_);rintro d ⟨dd0,dd1⟩;refine au (aQ (Pf H ho (by omega) x0 (by omega) dd0 (by omega))) (fun o1 TK=>?_);have hns:StL res.bG:=⟨hso,by rw[l1];exact yL.v,by rw[l2];exact yL.t⟩;have h2:=h1.state (i:=Int.toNat x.bo) hns;refine cw (fun j s=>0≤s.1∧s.1≤C+1048580*IZ f+j∧tE I tk (ay.mk s.2.1 s.2.2.1 s.2.2.2.1 () () s.2.2.2.2.1 (aN.mk s.2.2.2.2.2.1 s.2.2.2.2.2.2.1 s.2.2.2.2.2.2.2.1) s.2.2.2.2.2.2.2.2.1 s.2.2.2.2.2.2.2.2.2.1)∧xu I (C+1048580*IZ f+j) (C+1048580*IZ f+d) (aj.mk (bS.mk s.2.2.2.2.2.2.2.2.2.2.2.2.2.1) s.2.2.2.2.2.2.2.2.2.2.2.2.2.2.1 s.2.2.2.2.2.2.2.2.2.2.1 s.2.2.2.2.2.2.2.2.2.2.2.1 s.2.2.2.2.2.2.2.2.2.2.2.2.1 s.2.2.2.2.2.2.2.2.2.2.2.2.2.2.2.1)∧xq (fN I.fx) (aP.mk s.2.2.2.2.2.2.2.2.2.2.2.2.2.2.2.2)∧s.2.2.2.2.2.2.2.2.2.1.length≤m1.cj.length+j∧s.2.2.2.2.2.2.2.2.2.2.2.2.2.2.2.2.length≤a.aW.length+2*j) (gx (by omega)) ⟨by dsimp only;omega,by dsimp only;omega,h2,TK.mono (by omega) (by omega),ha,Nat.le_refl _,Nat.le_refl _⟩ ?_ ?_
 ·rintro j ⟨xd,gi,ft,hd,nw,ss,fg,vs,ps,es,o1,o2,o3,o4,o5,o6,ag⟩ hj ⟨y0,y1,y2,y3,y4,y5,y6⟩
  dsimp only at y0 y1 y2 y3 y4 y5 y6 ⊢;refine bJ hj (fun e _ em=>?_);refine au (aQ (UZ H y2 y3 y4 (hef e em) x0 x1 xh0 xh7 y0 (by omega) (by omega) (by dsimp only;omega) (by dsimp only;omega))) ?_;rintro⟨b,m2,o2',a2⟩ ⟨z1,z2,z3,z4,z5⟩;dsimp only at z1 z2 z3 z4 z5 ⊢;have z2':xu I (C+1048580*IZ f+(j+1:Nat)) (C+1048580*IZ f+d) o2':=z2.mono (by omega) (Int.le_refl _);refine ak (fun _=>ax (ah ⟨?_,?_,z1,z2',z3,by dsimp only;omega,by dsimp only;omega⟩)) (fun _=>ax (ah ⟨y0,by dsimp only;omega,z1,z2',z3,by dsimp only;omega,by dsimp only;omega⟩))
  ·dsimp only;rw[wrap_i64 (by omega) (by omega)];omega
  ·dsimp only;rw[wrap_i64 (by omega) (by omega)];omega
 ·rintro⟨xd,gi,ft,hd,nw,ss,fg,vs,ps,es,o1,o2,o3,o4,o5,o6,ag⟩ ⟨y0,y1,y2,y3,y4,y5,y6⟩
  dsimp only at y0 y1 y2 y3 y4 y5 y6 ⊢;rw[Int.toNat_natCast]at y3 y5 y6;refine aI (ah ⟨y2,hf',?_,y4,?_⟩)
  ·dsimp only;rw[hE];exact y3.mono (by omega) (by omega)
  ·dsimp only;rw[hE];omega
end
theorem ze{α:Type}{l:List α}{z:α}:IU (List.replicate (Int.toNat (l.length:Int)) z) l=l:=by
 unfold IU yP;rw[Int.toNat_natCast,List.length_replicate,Nat.min_self,List.take_length,List.drop_of_length_le (by rw[List.length_replicate];exact Nat.le_refl _),List.append_nil]
structure TI(I:dt)(tk:Int)(m:ay)(o:aj)(a:aP):Prop where
 ma:tE I tk m
 no:xu I (150995520*tk) (150995520*tk) o
 ag:xq (fN I.fx) a
 sz:(m.cj.length:Int)+a.aW.length≤1000000000*tk
section
variable {I:dt} {tk:Int} {m:ay} {o:aj} {a:aP}
theorem Uj{st:List aL}{fg:List Bool}{vs:List Int}(h1:st.length≤1000)(h2:fg.length≤1000)(h3:vs.length≤1000):vz st fg vs=some ⟨st,fg,vs⟩:=by
 unfold vz;refine ca (aK (by unfold iJ;omega) (aV (aK (by unfold iJ;omega) (aV (aK (by unfold iJ;omega) (aV (cR (aI (ah ?_)))))))));rw[ze,ze,ze]
theorem acy(H:yJ I)(h:TI I tk m o a):Wp (oW m o a) fun r=>(r.1=false→TI I tk r.2.1 r.2.2.1 r.2.2.2)∧(r.1=true→tk≤12∧TI I (tk+1) r.2.1 r.2.2.1 r.2.2.2):=by
 have n3:=H.fl.n3;have Cf:=h.ma.z.UN;have nw:=h.ma.z.nw;have nw0:=h.ma.z.n0;have z1:=H.z1;have yQ:=h.sz;unfold oW;refine aA (x:=false) (by unfold cl;exact ca (aI (ah rfl))) (ak (fun _=>aI (ah ⟨fun _=>h,fun h=>by cases h⟩)) (fun hh=>aA Fcs ?_))
 have ht:tk≤12:=by
  rw[Bool.false_or,decide_eq_false_iff_not,Cf]at hh;omega
 rw[Cf];refine au (aQ (abX H h.ma h.no (by omega))) ?_;rintro⟨m1,o1⟩ ⟨a1,a2,a3⟩;dsimp only at a1 a2 a3 ⊢;refine cw (fun j s=>tE I tk (ay.mk s.1 s.2.1 s.2.2.1 () () s.2.2.2.1 (aN.mk s.2.2.2.2.1 s.2.2.2.2.2.1 s.2.2.2.2.2.2.1) s.2.2.2.2.2.2.2.1 s.2.2.2.2.2.2.2.2.1)∧xu I (150995520*tk) (150995520*tk) (aj.mk (bS.mk s.2.2.2.2.2.2.2.2.2.2.2.2.1) s.2.2.2.2.2.2.2.2.2.2.2.2.2.1 s.2.2.2.2.2.2.2.2.2.1 s.2.2.2.2.2.2.2.2.2.2.1 s.2.2.2.2.2.2.2.2.2.2.2.1 s.2.2.2.2.2.2.2.2.2.2.2.2.2.2.1)∧xq (fN I.fx) (aP.mk s.2.2.2.2.2.2.2.2.2.2.2.2.2.2.2)∧(s.2.2.2.2.2.2.2.2.1.length:Int)+s.2.2.2.2.2.2.2.2.2.2.2.2.2.2.2.length≤1000000000*tk+10+20*j) (gx (by omega)) ⟨a1,a2,h.ag,by dsimp only;omega⟩ ?_ ?_
 ·rintro j ⟨gi,ft,hd,nw,ss,fg,vs,ps,es,p1,p2,p3,p4,p5,p6,ag⟩ hj ⟨y1,y2,y3,y4⟩
  dsimp only at y1 y2 y3 y4 ⊢;refine au (aQ (YF H y1 y2 y3 (by omega) hj (by dsimp only;omega) (by dsimp only;omega))) ?_;rintro⟨m2,o2,a2⟩ ⟨x1,x2,x3,x4,x5⟩;dsimp only at x1 x2 x3 x4 x5 ⊢;refine au (aQ (Vb H x1 x2 (by omega) hj (by omega))) ?_;rintro⟨m3,o3⟩ ⟨w1,w2,w3⟩;dsimp only at w1 w2 w3 ⊢;exact ax (ah ⟨w1,w2,x3,by dsimp only;omega⟩)
 ·rintro⟨gi,ft,hd,nw,ss,fg,vs,ps,es,p1,p2,p3,p4,p5,p6,ag⟩ ⟨y1,y2,y3,y4⟩
  dsimp only at y1 y2 y3 y4 ⊢;rw[Int.toNat_natCast]at y4;refine au (aQ (UR H y1 y2 y3 (by dsimp only;omega))) ?_;rintro⟨o2,a2⟩ ⟨x1,x2,x3⟩;dsimp only at x1 x2 x3 ⊢;refine cw (fun j s=>tE I tk (ay.mk s.1 s.2.1 s.2.2.1 () () s.2.2.2.1 (aN.mk s.2.2.2.2.1 s.2.2.2.2.2.1 s.2.2.2.2.2.2.1) s.2.2.2.2.2.2.2.1 s.2.2.2.2.2.2.2.2.1)∧xu I (150995520*tk+50331840*j) (150995520*tk+50331840*j) (aj.mk (bS.mk s.2.2.2.2.2.2.2.2.2.2.2.2.1) s.2.2.2.2.2.2.2.2.2.2.2.2.2.1 s.2.2.2.2.2.2.2.2.2.1 s.2.2.2.2.2.2.2.2.2.2.1 s.2.2.2.2.2.2.2.2.2.2.2.1 s.2.2.2.2.2.2.2.2.2.2.2.2.2.2.1)∧xq (fN I.fx) (aP.mk s.2.2.2.2.2.2.2.2.2.2.2.2.2.2.2)∧(s.2.2.2.2.2.2.2.2.1.length:Int)+s.2.2.2.2.2.2.2.2.2.2.2.2.2.2.2.length≤1000000000*tk+100+150995568*j) (gx (by omega)) ⟨y1,x1.mono (by omega) (by omega),x2,by dsimp only;omega⟩ ?_ ?_
  ·rintro j ⟨gi,ft,hd,nw,ss,fg,vs,ps,es,p1,p2,p3,p4,p5,p6,ag⟩ hj ⟨y1,y2,y3,y4⟩
   dsimp only at y1 y2 y3 y4 ⊢;refine au (aQ (acz y3 (by dsimp only;omega))) ?_;rintro⟨its,a3⟩ ⟨w1,w2,w3⟩;dsimp only at w1 w2 w3 ⊢;have hz:IZ (arr 0 [0,0,0,0,0,0,0,0])=0:=by decide
   refine cw (fun q s=>tE I tk (ay.mk s.1 s.2.1 s.2.2.1 () () s.2.2.2.1 (aN.mk s.2.2.2.2.1 s.2.2.2.2.2.1 s.2.2.2.2.2.2.1) s.2.2.2.2.2.2.2.1 s.2.2.2.2.2.2.2.2.1)∧XO s.2.2.2.2.2.2.2.2.2.1∧xu I (150995520*tk+50331840*j+1048580*IZ s.2.2.2.2.2.2.2.2.2.1) (150995520*tk+50331840*j+1048580*IZ s.2.2.2.2.2.2.2.2.2.1) (aj.mk (bS.mk s.2.2.2.2.2.2.2.2.2.2.2.2.2.1) s.2.2.2.2.2.2.2.2.2.2.2.2.2.2.1 s.2.2.2.2.2.2.2.2.2.2.1 s.2.2.2.2.2.2.2.2.2.2.2.1 s.2.2.2.2.2.2.2.2.2.2.2.2.1 s.2.2.2.2.2.2.2.2.2.2.2.2.2.2.2.1)∧xq (fN I.fx) (aP.mk s.2.2.2.2.2.2.2.2.2.2.2.2.2.2.2.2)∧(s.2.2.2.2.2.2.2.2.1.length:Int)+s.2.2.2.2.2.2.2.2.2.2.2.2.2.2.2.2.length+its.length≤1000000000*tk+100+150995568*j+q+3145741*IZ s.2.2.2.2.2.2.2.2.2.1) (gx (by omega)) ⟨y1,fun k hk=>by dsimp only;rw[z8 k hk];decide,y2.mono (by dsimp only;rw[hz];omega) (by dsimp only;rw[hz];omega),w2,?_⟩ ?_ ?_
   ·dsimp only
    rw[hz];omega
   ·rintro q ⟨gi,ft,hd,nw,ss,fg,vs,ps,es,xo,p1,p2,p3,p4,p5,p6,ag⟩ hq ⟨u1,u2,u3,u4,u5⟩
    dsimp only at u1 u2 u3 u4 u5 ⊢;obtain⟨e0,e48⟩:=u2.e;refine bJ hq (fun it _ itm=>?_);refine au (aQ (Vr H u1 u2 u3 u4 (w1 it itm) (by omega) (by omega) (by dsimp only;omega))) ?_;rintro⟨m4,o4,a4,f4⟩ ⟨v1,v2,v3,v4,v5⟩;dsimp only at v1 v2 v3 v4 v5 ⊢;exact ax (ah ⟨v1,v2,v3,v4,by dsimp only;omega⟩)
   ·rintro⟨gi,ft,hd,nw,ss,fg,vs,ps,es,xo,p1,p2,p3,p4,p5,p6,ag⟩ ⟨u1,u2,u3,u4,u5⟩
    dsimp only at u1 u2 u3 u4 u5 ⊢;rw[Int.toNat_natCast]at u5;obtain⟨e0,e48⟩:=u2.e;exact ax (ah ⟨u1,u3.mono (by omega) (by omega),u4,by dsimp only;omega⟩)
  ·rintro⟨gi,ft,hd,nw,ss,fg,vs,ps,es,p1,p2,p3,p4,p5,p6,ag⟩ ⟨y1,y2,y3,y4⟩
   dsimp only at y1 y2 y3 y4 ⊢;rw[Int.toNat_natCast]at y2 y4;have Ba:ss.length=fN I.fx:=y1.sl;have RH:vs.length=fN I.fx:=y1.vl;have Qf:fg.length=I.fx.qn.aR.length:=y1.fgl;have hf2:=H.fl.f2;have Wn:(ps.length:Int)≤tk:=y1.pl;have hnw:nw=tk:=y1.z.nw;refine aA (by unfold cl;exact Uj (by omega) (by omega) (by omega)) (aV (aK (xt (by omega) (by decide)) (aI (ah ⟨(fun h=>by cases h),fun _=>⟨ht,?_,?_,y3,by dsimp only;omega⟩⟩))))
   ·dsimp only
    rw[wrap_i64 (by omega) (by omega)];exact⟨⟨y1.z.UN,y1.z.fit,y1.z.fl,y1.z.held,y1.z.hl,by dsimp only;omega,by dsimp only;omega,by dsimp only;omega⟩,y1.sl,y1.so,y1.fgl,y1.vl,y1.vr,by dsimp only;rw[rR];omega,uy y1.po ⟨by dsimp only;omega,y1.so,by dsimp only;omega,by dsimp only;omega⟩,y1.ev⟩
   ·exact y2.mono (by omega) (by omega)
end
open Go.RowKit
attribute [local irreducible] ik du bx iM oE dL eN iJ
theorem DK:∀(N:Nat) (l:List Nat),l.Nodup→(∀x∈l,x<N)→l.length≤N
 |0,l,_,h=>by
  cases l with
  |nil=>simp
  |cons x l=>exact absurd (h x (by simp)) (by omega)
 |N+1,l,hn,h=>by
  by_cases hm:N∈l
  ·have h1:=List.length_erase_of_mem hm
   have:=DK N (l.erase N) (hn.erase N) (fun x hx=>by
    have h2:x≠N:=fun e=>by subst e;exact hn.not_mem_erase hx
    have:=h x (List.mem_of_mem_erase hx)
    omega)
   have:=List.length_pos_of_mem hm;omega
  ·have:=DK N l hn (fun x hx=>by
    have h2:x≠N:=fun e=>hm (e ▸ hx)
    have:=h x hx
    omega)
   omega
noncomputable def acr(keys:List aH)(k:List aH→Option (List aH)):Option (List aH) :=
 open Classical in if h : ∃ r,∀ l : List aH,l.Perm keys→k l = some r then some h.choose else none
theorem Vs{keys:List aH}{k:List aH→Option (List aH)}{r:List aH}(h:acr keys k=some r){l:List aH}(hl:l.Perm keys):k l=some r:=by
 unfold acr at h
 split at h
 ·rename_i hx
  injection h with h
  rw[←h];exact hx.choose_spec l hl
 ·cases h
noncomputable def iI(o0:aj):Option (List aH) :=
 Ck (iJ 32 0 (o0.bh.length:Int))<|Ck (dL 32 (o0.bh.length))<|acr (o0.bh.map Prod.fst) fe
def Ph(xs:List (aH×Bool))(x:List Nat×List aH):Prop:=x.1.Nodup∧(∀j∈x.1,j<xs.length)∧x.2=x.1.filterMap fun j=>(xs.map Prod.fst)[j]?
theorem Yq{α:Type}(ys:List α):∀(seen:List Nat),(∀j∈seen,j<ys.length)→(seen.filterMap fun j=>ys[j]?).length=seen.length
 |[],_=>rfl
 |j::seen,h=>by
  have hj:=h j (by simp);rw[List.filterMap_cons,List.getElem?_eq_getElem hj];simp[Yq ys seen (fun x hx=>h x (by simp[hx]))]
theorem OG{α:Type}:∀(ys:List α),((List.range ys.length).filterMap fun j=>ys[j]?)=ys
 |[]=>rfl
 |y::ys=>by
  rw[List.length_cons,List.range_succ_eq_map,List.filterMap_cons];simp only[List.getElem?_cons_zero,List.filterMap_map];have:((fun j=>(y::ys)[j]?) ∘ Nat.succ)=fun j=>ys[j]? := by funext j;simp
  rw[this,OG ys]
theorem Ph.len{xs:List (aH×Bool)}{x:List Nat×List aH}(h:Ph xs x):x.2.length=x.1.length:=by
 rw[h.2.2];exact Yq _ _ (fun j hj=>by simpa using h.2.1 j hj)
theorem Ph.step{xs:List (aH×Bool)}{x:List Nat×List aH}(h:Ph xs x){j:Nat}{k:aH×Bool}(hk:xs[j]? = some k)(hj:j ∉ x.1):Ph xs (x.1++[j],x.2++[k.1]):=by
 obtain⟨h1,h2,h3⟩:=h;have hl:=(List.getElem?_eq_some_iff.1 hk).1;refine⟨?_,?_,?_⟩
 ·rw[List.nodup_append]
  exact⟨h1,by simp,fun a ha b hb=>by simp at hb;subst hb;intro e;subst e;exact hj ha⟩
 ·intro i hi
  rcases List.mem_append.1 hi with hi|hi
  ·exact h2 i hi
  ·simp at hi;subst hi;exact hl
 ·have:(xs.map Prod.fst)[j]? = some k.1:=by rw[List.getElem?_map,hk];rfl
  rw[List.filterMap_append,←h3];simp only[List.filterMap_cons,this,List.filterMap_nil]
theorem Ph.fin{xs:List (aH×Bool)}{x:List Nat×List aH}(h:Ph xs x)(ZG:∀j,j<xs.length→j∈x.1):x.2.Perm (xs.map Prod.fst):=by
 obtain⟨h1,h2,h3⟩:=h;have hp:x.1.Perm (List.range xs.length):=(List.perm_ext_iff_of_nodup h1 List.nodup_range).2 fun j=>⟨fun hj=>List.mem_range.2 (h2 j hj),fun hj=>ZG j (List.mem_range.1 hj)⟩
 rw[h3];refine(hp.filterMap _).trans ?_;have:=OG (xs.map Prod.fst);rw[List.length_map]at this;rw[this]
instance FA{o0:aj}:MA (iI o0) prog 61 (fun _=>1) fun r=>⟨[.ref 100000 0],[(100000,some (.bC 234 (aj.b0 o0 (.row 100001) (.row 100002)))),(100001,some (.R 130 4 da o0.df)),(100002,some (.mp (pN cM DV.bool o0.bh)))],.row 50000,[(50000,some (.R 121 4 nD r)),(100000,some (.bC 234 (aj.b0 o0 (.row 100001) (.row 100002)))),(100001,some (.R 130 4 da o0.df)),(100002,some (.mp (pN cM DV.bool o0.bh)))],[50000]⟩:=⟨fun {r} hM=>by
 unfold iI at hM;rw[TC]at hM;obtain⟨hmk,hM⟩:=tj hM;rw[TC]at hM;obtain⟨hap,hM⟩:=tj hM;refine ab func61 ntmps61 (h:=?_);have z12:=ev0 12 nD (aH.mk 0 0 0 0);apply rs0;exact tr;kernel_rfl;kernel_rfl;apply sq;apply rs0;exact tr;kernel_rfl;kernel_rfl;refine uc false rfl (fun h=>by cases h) (fun _=>?_);apply sk;show ik _ _ _ _ _;apply rs0;exact tr;kernel_rfl;kernel_rfl;apply sq;apply rs0
 ·iterate 4 (apply Trace.cg;exact op1;exact ap;exact ap;exact ap)
  apply Trace.cg;exact ag9 rfl rfl;exact ap;exact ap;exact ap;exact tn
 ·kernel_rfl
 ·kernel_rfl
 refine zg ?_
 refine HG (fun x:List Nat×List aH=>⟨[(3,.row 10001),(17,.ref 17 0)],[(10001,some (.R 121 4 nD x.2)),(17,some (.it 100002 (pN cM DV.bool o0.bh).length x.1)),(100000,some (.bC 234 (aj.b0 o0 (.row 100001) (.row 100002)))),(100001,some (.R 130 4 da o0.df)),(100002,some (.mp (pN cM DV.bool o0.bh)))],[10001,17,100000,100001,100002]⟩)
  (Ph o0.bh) (fun x=>o0.bh.length-x.1.length) ([],[]) ?_ ⟨List.nodup_nil,by simp,rfl⟩ ?_
 ·exact(il (l:=[(10001,12)]))
 ·rintro⟨seen,acc⟩ hI
  have hlen:=hI.len;have hle:acc.length≤o0.bh.length:=by rw[hlen];exact DK _ _ hI.1 hI.2.1
  have hml:(pN cM DV.bool o0.bh).length=o0.bh.length:=by simp[pN]
  refine iL ?_;refine ae7 rfl rfl rfl rfl (by decide) (by decide) (fun ZG=>?_) (fun j kd vd hj hns=>?_)
  ·show ik _ _ _ _ _
   refine iL ?_;refine uc false rfl (fun h=>by cases h) (fun _=>?_);refine Zk ?_;have hp:=hI.fin (fun j hj=>ZG j (by rw[hml];exact hj));have hS:=Vs hM hp;have hc:CH prog 114 27 [(100000,10001)] 1 _:=⟨(uq (o0:=acc)).h hS⟩;show ik _ _ _ _ _;dsimp only;apply rs0;exact tr;kernel_rfl;kernel_rfl;apply rs0;exact tr;kernel_rfl;kernel_rfl;exact ra' (⟨trivial⟩:HL [(50000,10001)])
  ·show ik _ _ _ _ _
   have Dt:=(List.getElem?_eq_some_iff.1 hj).1;rw[hml]at Dt;obtain⟨k,hk⟩:∃k,o0.bh[j]? = some k:=⟨_,List.getElem?_eq_getElem Dt⟩
   obtain⟨rfl,rfl⟩:kd=DV.agg (cM k.1)∧vd=DV.bool k.2:=by
    simp only[pN,List.getElem?_map,hk,Option.map_some,Option.some.injEq,Prod.mk.injEq]at hj;exact⟨hj.1.symm,hj.2.symm⟩
   have hI2:=hI.step hk hns
   have apg:acc.length+1≤o0.bh.length:=by
    have:=DK _ _ hI2.1 hI2.2.1;simp only[List.length_append,List.length_singleton]at this;rw[hlen];exact this
   have z24:=ev0 24 (bA 4 nD) [k.1]
   have aFb:dL 32 (acc.length + [k.1].length):=by
    unfold dL at hap ⊢;simp only[List.length_singleton];have:(acc.length+1)*32≤o0.bh.length*32:=Nat.mul_le_mul_right _ apg;omega
   dsimp only;refine iL ?_;refine uc true rfl (fun _=>?_) (fun h=>by cases h);apply sk;show ik _ _ _ _ _;refine zg ?_;apply rs0
   ·apply Trace.cg;exact ahf rfl rfl rfl rfl hj;exact ap;exact ap;exact ap
    exact tr
   ·kernel_rfl
   ·kernel_rfl
   apply rr0
   ·exact tr
   ·kernel_rfl
   ·kernel_rfl
   exact⟨(seen++[j],acc++[k.1]),hI2,by dsimp only at hlen ⊢;simp only[List.length_append,List.length_singleton];omega,il (l:=[(10001,25)])⟩⟩
end Go.Proofs.YtpeihknododmlaaGreatDoor
namespace Go.Proofs.YtpeihknododmlaaGreatDoor
open Go.Proofs.Tryz
theorem swap_perm{α:Type}{t:List α}{i j:Nat}{x y:α}(hx:t[i]? = some x)(hy:t[j]? = some y):((t.set i y).set j x).Perm t:=by
 obtain⟨hi,rfl⟩:=List.getElem?_eq_some_iff.1 hx;obtain⟨hj,rfl⟩:=List.getElem?_eq_some_iff.1 hy;have:=Array.swap_perm (xs:=t.toArray) (i:=i) (j:=j) hi hj;have h:=Array.perm_iff_toList_perm.1 this;simpa [Array.swap]using h
theorem JF{α:Type}[DecidableEq α]:∀(l m:List α),l.Nodup→(∀x∈l,x∈m)→l.length≤m.length
 |[],m,_,_=>Nat.zero_le _
 |a::t,m,hn,h=>by
  obtain⟨h1,h2⟩:=List.nodup_cons.1 hn;have ha:=h a (by simp);have:=JF t (m.erase a) h2 (fun x hx=>(List.mem_erase_of_ne (fun e=>by subst e;exact h1 hx)).2 (h x (by simp[hx])));rw[List.length_erase_of_mem ha]at this;have:=List.length_pos_of_mem ha;simp only[List.length_cons];omega
theorem Jv:∀(l m:List aH),l.Pairwise (fun a b=>pO a<pO b)→m.Pairwise (fun a b=>pO a<pO b)→(∀x,x∈l↔x∈m)→l=m
 |[],[],_,_,_=>rfl
 |[],b::m,_,_,h=>by have:=(h b).2 (by simp);cases this
 |a::l,[],_,_,h=>by have:=(h a).1 (by simp);cases this
 |a::l,b::m,h1,h2,h=>by
  obtain⟨p1,q1⟩:=List.pairwise_cons.1 h1;obtain⟨p2,q2⟩:=List.pairwise_cons.1 h2
  have hab:a=b:=by
   rcases List.mem_cons.1 ((h a).1 (by simp))with e|e
   ·exact e
   rcases List.mem_cons.1 ((h b).2 (by simp))with f|f
   ·exact f.symm
   ·have:=p1 b f;have:=p2 a e;omega
  subst hab;rw[Jv l m q1 q2 (fun x=>⟨fun hx=>?_,fun hx=>?_⟩)]
  ·rcases List.mem_cons.1 ((h x).1 (by simp[hx]))with e|e
   ·subst e;have:=p1 x hx;omega
   ·exact e
  ·rcases List.mem_cons.1 ((h x).2 (by simp[hx]))with e|e
   ·subst e;have:=p2 x hx;omega
   ·exact e
theorem Ox{x y:aH}(hx:KB x)(hy:KB y):uX x y=some (decide (pO x<pO y)):=by
 unfold uX;refine ca (au (Hz hx hy) (fun v hv=>ah ?_));exact decide_eq_decide.2 hv.1
theorem abP{x y:aH}(hx:KB x)(hy:KB y):Wp (jc x y) fun v=>(v<0↔pO x<pO y):=by
 unfold jc;rw[Ox hx hy,Ox hy hx];refine aA rfl (ak (fun h=>ah ?_) (fun h=>aA rfl (ak (fun _=>ah ?_) (fun _=>ah ?_))))
 ·have:=of_decide_eq_true h
  exact⟨fun _=>this,fun _=>by decide⟩
 ·have:=of_decide_eq_false h
  exact⟨fun h=>by omega,fun h=>absurd h this⟩
 ·have:=of_decide_eq_false h
  exact⟨fun h=>by omega,fun h=>absurd h this⟩
def Sd(t:List aH)(i j:Nat):Prop:=∀p q a b,p<q→q≤i→q≠j→t[p]? = some a→t[q]? = some b→pO a<pO b
theorem Sd.swap{t:List aH}{i j:Nat}{x y:aH}(h:Sd t i j)(hj:0<j)(hji:j≤i)(hx:t[j]? = some x)(hy:t[j-1]? = some y)(pE:pO x<pO y):Sd ((t.set j y).set (j-1) x) i (j-1):=by
 obtain⟨lj,_⟩:=List.getElem?_eq_some_iff.1 hx
 have g:∀p,((t.set j y).set (j-1) x)[p]? = if p=j-1 then some x else if p=j then some y else t[p]? := by
  intro p
  by_cases e:j-1=p
  ·subst e;rw[List.getElem?_set_self (by rw[List.length_set];omega),if_pos rfl]
  ·rw[List.getElem?_set_ne e,if_neg (show ¬p=j-1 from fun e'=>e e'.symm)]
   by_cases e2:j=p
   ·subst e2;rw[List.getElem?_set_self lj,if_pos rfl]
   ·rw[List.getElem?_set_ne e2,if_neg (show ¬p=j from fun e'=>e2 e'.symm)]
 intro p q a b hpq hqi hqj ha hb;rw[g]at ha hb;rw[if_neg hqj]at hb
 by_cases q1:q=j
 ·rw[if_pos q1]at hb
  obtain rfl:=Option.some.inj hb
  by_cases p1:p=j-1
  ·rw[if_pos p1]at ha
   obtain rfl:=Option.some.inj ha;exact pE
  ·rw[if_neg p1,if_neg (by omega)]at ha
   exact h p (j-1) a _ (by omega) (by omega) (by omega) ha hy
 ·rw[if_neg q1]at hb
  by_cases p1:p=j-1
  ·rw[if_pos p1]at ha
   obtain rfl:=Option.some.inj ha;exact h j q _ b (by omega) hqi (by omega) hx hb
  ·rw[if_neg p1]at ha
   by_cases p2:p=j
   ·rw[if_pos p2]at ha
    obtain rfl:=Option.some.inj ha;exact h (j-1) q _ b (by omega) hqi (by omega) hy hb
   ·rw[if_neg p2]at ha
    exact h p q a b hpq hqi (by omega) ha hb
theorem Sd.done{t:List aH}{i j:Nat}(h:Sd t i j)(hj:0<j→∀x y,t[j]? = some x→t[j-1]? = some y→pO y<pO x)(hl:j<t.length):∀p q a b,p<q→q<i+1→t[p]? = some a→t[q]? = some b→pO a<pO b:=by
 intro p q a b hpq hqi ha hb
 by_cases e:q=j
 ·subst e
  have hy:=List.getElem?_eq_getElem (show q-1<t.length by omega);have h1:=hj (by omega) b _ hb hy
  by_cases e2:p=q-1
  ·subst e2;rw[ha]at hy;obtain rfl:=Option.some.inj hy;exact h1
  ·have:=h p (q-1) a _ (by omega) (by omega) (by omega) ha hy
   omega
 ·exact h p q a b hpq (by omega) e ha hb
theorem NP{l:List aH}(hl:l.length≤12)(hk:∀k∈l,KB k)(hn:(l.map pO).Nodup):Wp (fe l) fun r=>r.Perm l∧r.Pairwise (fun a b=>pO a<pO b):=by
 have fin:∀t:List aH,t.Perm l→(∀p q a b,p<q→q<l.length→t[p]? = some a→t[q]? = some b→pO a<pO b)→t.Perm l∧t.Pairwise (fun a b=>pO a<pO b):=fun t h1 h2=>⟨h1,by
  rw[List.pairwise_iff_getElem];intro i j hi hj Dn;exact h2 i j _ _ Dn (by rw[←h1.length_eq];exact hj) (List.getElem?_eq_getElem hi) (List.getElem?_eq_getElem hj)⟩
 unfold fe;refine au (Ml _) (fun v _=>au (P:=fun r=>r.Perm l∧r.Pairwise (fun a b=>pO a<pO b)) (aQ ?_) (fun r h=>aI (ah h)));unfold iR;refine KM (ak (fun _=>au (P:=fun r=>r.Perm l∧r.Pairwise (fun a b=>pO a<pO b)) (aQ ?_) (fun r h=>aI (ah h))) (fun h=>?_))
 ·unfold gq
  refine ly (fun s=>s.1.Perm l∧(∀p q a b,p<q→q<s.2.toNat→s.1[p]? = some a→s.1[q]? = some b→pO a<pO b)∧1≤s.2∧s.2≤100) (fun s=>(100-s.2).toNat) ⟨List.Perm.refl _,?_,by dsimp only;decide,by dsimp only;decide⟩ (by dsimp only;decide) ?_
  ·intro p q a b h1 h2
   have:(IntKind.wrap .i64 ((0:Int)+1)).toNat=1:=by decide
   dsimp only at h2;rw[this]at h2;omega
  rintro⟨s,i⟩ ⟨s1,sp,i1,i2⟩;dsimp only at s1 sp i1 i2 ⊢;have aFc:=s1.length_eq;refine ak (fun hb=>?_) (fun hb=>ah (aI (ah (fin s s1 (fun p q a b h1 h2=>sp p q a b h1 (by have:=of_decide_eq_false hb;omega))))));have hi:i<(l.length:Int):=by simpa using hb
  refine ly (fun t=>t.1.Perm l∧Sd t.1 i.toNat t.2.toNat∧0≤t.2∧t.2≤i) (fun t=>t.2.toNat) ⟨s1,fun p q a b h1 h2 h3=>sp p q a b h1 (by dsimp only at h3;omega),by dsimp only;omega,by dsimp only;omega⟩ (by dsimp only;omega) ?_;rintro⟨t,j⟩ ⟨t1,tp,j0,j1⟩;dsimp only at t1 tp j0 j1 ⊢;have aFd:=t1.length_eq;have tk:∀k∈t,KB k:=fun k Ek=>hk k (t1.mem_iff.1 Ek)
  have tn:(t.map pO).Nodup:=(t1.map pO).nodup_iff.2 hn;rw[wrap_i64 (n:=j-1) (by omega) (by omega)]
  have nxt:∀p q a b,p<q→q<(IntKind.wrap .i64 (i+1)).toNat→(0<j.toNat→∀x y,t[j.toNat]? = some x→t[j.toNat-1]? = some y→pO y<pO x)→t[p]? = some a→t[q]? = some b→pO a<pO b:=by
   intro p q a b h1 h2 h3;rw[wrap_i64 (by omega) (by omega)]at h2;exact tp.done h3 (by omega) p q a b h1 (by omega)
  have dn:(0<j.toNat→∀x y,t[j.toNat]? = some x→t[j.toNat-1]? = some y→pO y<pO x)→(t.Perm l∧(∀p q a b,p<q→q<(IntKind.wrap .i64 (i+1)).toNat→t[p]? = some a→t[q]? = some b→pO a<pO b)∧1≤(IntKind.wrap .i64 (i+1))∧(IntKind.wrap .i64 (i+1))≤100)∧(100-(IntKind.wrap .i64 (i+1))).toNat<(100-i).toNat:=fun h3=>by
   refine⟨⟨t1,fun p q a b h1 h2=>nxt p q a b h1 h2 h3,?_,?_⟩,?_⟩
   all_goals (rw[wrap_i64 (by omega) (by omega)];omega)
  obtain⟨x,e1,x1,x2⟩:=mc (xs:=t) (i:=j) j0 (by omega)
  by_cases hj:0<j
  ·obtain⟨y,e2,y1,y2⟩:=mc (xs:=t) (i:=j-1) (by omega) (by omega)
   have ej:(j-1).toNat=j.toNat-1:=by omega
   rw[ej]at y1;refine gh (decide_eq_true hj) e1 (gh (decide_eq_true hj) e2 ?_);refine au (P:=fun v=>(v<0↔pO x<pO y)) (ia (fun _=>abP (tk x x2) (tk y y2)) (fun h=>absurd hj (of_decide_eq_false h))) (fun v hv=>ak (fun h=>?_) (fun h=>ah (ax (ah (dn (fun _ x' y' q1 q2=>?_))))))
   ·rw[Bool.and_eq_true,decide_eq_true_eq,decide_eq_true_eq]at h
    refine aA e2 (aA e1 (aV ?_));refine fI (by omega) (by rw[List.length_set];omega) (fun _ _ _=>aV (ax (ah ⟨⟨?_,?_,by dsimp only;omega,by dsimp only;omega⟩,by dsimp only;omega⟩)))
    ·dsimp only;rw[ej];exact(swap_perm x1 y1).trans t1
    ·dsimp only;rw[ej];exact tp.swap (by omega) (by omega) x1 y1 (hv.1 h.2)
   ·rw[Bool.and_eq_false_iff,decide_eq_false_iff_not,decide_eq_false_iff_not]at h
    rw[x1]at q1;obtain rfl:=Option.some.inj q1;rw[y1]at q2;obtain rfl:=Option.some.inj q2;obtain⟨l1,f1⟩:=List.getElem?_eq_some_iff.1 x1;obtain⟨l2,f2⟩:=List.getElem?_eq_some_iff.1 y1;have pQ:=(List.pairwise_iff_getElem.1 tn) (j.toNat-1) j.toNat (by rw[List.length_map];exact l2) (by rw[List.length_map];exact l1) (by omega);rw[List.getElem_map,List.getElem_map,f1,f2]at pQ
    have:¬pO x<pO y:=fun e=>by
     have:=hv.2 e;omega
    omega
  ·refine au (P:=fun _=>True) (ia (fun h=>absurd (of_decide_eq_true h) hj) (fun _=>trivial)) (fun a _=>au (P:=fun _=>True) (ia (fun h=>absurd (of_decide_eq_true h) hj) (fun _=>trivial)) (fun b _=>au (P:=fun _=>True) (ia (fun h=>absurd (of_decide_eq_true h) hj) (fun _=>trivial)) (fun c _=>ak (fun h=>?_) (fun h=>ah (ax (ah (dn (fun h=>by omega))))))))
   rw[Bool.and_eq_true,decide_eq_true_eq]at h;exact absurd h.1 hj
 ·rw[wrap_i64 (by omega) (by omega)]at h
  simp at h;omega
theorem Pg{I:dt}{cs cd:Int}{o:aj}(H:yJ I)(h:xu I cs cd o):Gw (iI o):=by
 have Cw:=H.cl
 have hlen:o.bh.length≤10:=by
  have:=JF (o.bh.map fun p=>pO p.1) (I.je.aW.map fun c=>pO c.cG) h.cn (fun x hx=>by
   obtain⟨p,hp,rfl⟩:=List.mem_map.1 hx;obtain⟨c,hc,e⟩:=h.cl p hp;exact List.mem_map.2 ⟨c,hc,by rw[e]⟩)
  rw[List.length_map,List.length_map]at this;omega
 have hkb:∀k∈o.bh.map Prod.fst,KB k:=fun k hk=>by
  obtain⟨p,hp,rfl⟩:=List.mem_map.1 hk;obtain⟨c,hc,e⟩:=h.cl p hp;rw[e];exact(H.ch c hc).kb
 have ZF:((o.bh.map Prod.fst).map pO).Nodup:=by
  rw[List.map_map];exact h.cn
 unfold iI;refine aK (by unfold iJ;omega) (aK (Ed (by omega) (by decide)) ?_);obtain⟨r,r1,r2,r3⟩:=NP (l:=o.bh.map Prod.fst) (by rw[List.length_map];omega) hkb ZF
 have hex:∃r,∀l:List aH,l.Perm (o.bh.map Prod.fst)→fe l=some r:=⟨r,fun l hl=>by
  obtain⟨r',q1,q2,q3⟩:=NP (l:=l) (by rw[hl.length_eq,List.length_map];omega) (fun k hk=>hkb k (hl.mem_iff.1 hk)) ((hl.map pO).nodup_iff.2 ZF);rw[q1,Jv r' r q3 r3 (fun x=>by rw[q2.mem_iff,hl.mem_iff,r2.mem_iff])]⟩
 unfold acr;rw[dif_pos hex];exact ah trivial
open Go.RowKit
attribute [local irreducible] ik du bx iM oE dL eN iJ
structure yn where
 DW:List AEv
 US:List aH
 dw:List aN
def yn.cs(x:yn):List DV:=[.sl 9 (List.map AEv.dv x.DW),.sl 4 (List.map nD x.US),.sl 3 (List.map fH x.dw)]
noncomputable def nq(o0:ay)(o2:aj)(o5:aP):Option (List aH) :=
 Bi (cl 4 [] (lY o0 o2 o5)) fun v2=>
 If v2 (
  rX [] (some ([]:List aH)))<|
 Bi (cl 9 [(100000,100002),(100001,100003),(100002,100004),(50000,9)] (iI o2)) fun v4=>
 wk [.z 9]<|rX [] (some v4)
instance Ia{o0 o2 o5}:MA (nq o0 o2 o5) prog 22 (fun _=>0) fun r=>⟨[.ref 100000 0],[(100000,some (.bC 145 (ay.b0 ({ o0 with ba:=(aN.mk [] [] []) }:ay) (.row 100001) (.ref 100002 0) (.ref 100005 0) (.row 100007) (.row 100008) (.row 100009) (.row 100010) (.row 100011)))),(100001,some (.R 123 7 cW o0.mf)),(100002,some (.bC 234 (aj.b0 o2 (.row 100003) (.row 100004)))),(100003,some (.R 130 4 da o2.df)),(100004,some (.mp (pN cM DV.bool o2.bh))),(100005,some (.bC 240 [.row 100006])),(100006,some (.R 255 8 dm o5.aW)),(100007,some (.R 152 3 ff o0.ba.dw)),(100008,some (.R 4 1 DV.bool o0.ba.aR)),(100009,some (.R 3 1 (DV.int .i64) o0.ba.aX)),(100010,some (.R 143 3 fH o0.dS)),(100011,some (.R 62 9 AEv.dv o0.cj))],.L 4 nD r,[(100000,some (.bC 145 (ay.b0 ({ o0 with ba:=(aN.mk [] [] []) }:ay) (.row 100001) (.ref 100002 0) (.ref 100005 0) (.row 100007) (.row 100008) (.row 100009) (.row 100010) (.row 100011)))),(100001,some (.R 123 7 cW o0.mf)),(100002,some (.bC 234 (aj.b0 o2 (.row 100003) (.row 100004)))),(100003,some (.R 130 4 da o2.df)),(100004,some (.mp (pN cM DV.bool o2.bh))),(100005,some (.bC 240 [.row 100006])),(100006,some (.R 255 8 dm o5.aW)),(100007,some (.R 152 3 ff o0.ba.dw)),(100008,some (.R 4 1 DV.bool o0.ba.aR)),(100009,some (.R 3 1 (DV.int .i64) o0.ba.aX)),(100010,some (.R 143 3 fH o0.dS)),(100011,some (.R 62 9 AEv.dv o0.cj))],[]⟩:=⟨fun hM=>by unfold nq at hM;exact ab func22 ntmps22⟩
noncomputable def yj(x0:aN):Option ((List aL)×(List Bool)×(List Int)) :=
 Ck (iJ 72 (x0.dw.length:Int) (x0.dw.length:Int))<|
 eT 7 ff (aL.mk [] [] (aO.mk [])) fun _=>
 Ck (iJ 1 (x0.aR.length:Int) (x0.aR.length:Int))<|
 eT 11 DV.bool false fun _=>
 Ck (iJ 8 (x0.aX.length:Int) (x0.aX.length:Int))<|
 eT 15 (DV.int .i64) 0 fun _=>
 rC [2] [2] [(50000,7),(50001,11),(50002,15)] (some ((IU (List.replicate (Int.toNat (x0.dw.length:Int)) (aL.mk [] [] (aO.mk []))) x0.dw),(IU (List.replicate (Int.toNat (x0.aR.length:Int)) false) x0.aR),(IU (List.replicate (Int.toNat (x0.aX.length:Int)) (0:Int)) x0.aX)))
instance abh{x0}:MA (yj x0) prog 60 (fun _=>3) fun r=>⟨[.agg (GH x0)],[],.agg [.row 50000,.row 50001,.row 50002],[(50000,some (.R 152 3 ff r.1)),(50001,some (.R 4 1 DV.bool r.2.1)),(50002,some (.R 3 1 (DV.int .i64) r.2.2))],[50000,50001,50002]⟩:=⟨fun hM=>by unfold yj at hM;exact ab func60 ntmps60⟩
noncomputable def ur(x0:aN):Option aN :=
 Bi (cl 9 [(50000,10001),(50001,10002),(50002,10003)] (yj x0)) fun v2=>
 fL v2.1 13 [] [2,3,12] [2] (fun _ t=>(11,.row 10004)::t) (fun s t=>(3,some (.bC 143 [.row 10004,.row 10005,.row 10006]))::(10004,some (.R 152 3 ff s))::(10005,some (.R 4 1 DV.bool v2.2.1))::(10006,some (.R 3 1 (DV.int .i64) v2.2.2))::t) [] [(10004,10001),(10005,10002),(10006,10003)] m64 (v2.1.length:Int) (fun k3 s5=>
  Bi (idx s5 (k3:Int)) fun v7=>
  Ck (iJ 8 (v7.ez.length:Int) (v7.ez.length:Int))<|
  eT 21 (DV.int .i64) 0 fun _=>
  Ck (iJ 24 (v7.cX.length:Int) (v7.cX.length:Int))<|
  eT 25 jm (aO.mk []) fun _=>
  wk [.z 21,.z 25]<|
  eT 42 ff (aL.mk (IU (List.replicate (Int.toNat (v7.ez.length:Int)) (0:Int)) v7.ez) (IU (List.replicate (Int.toNat (v7.cX.length:Int)) (aO.mk [])) v7.cX) v7.dW) fun v10=>
  nX [] [] (some (List.set s5 (Int.toNat (k3:Int)) v10))) fun s5=>
 wk [.z 10004,.z 10005,.z 10006]<|some (aN.mk s5 v2.2.1 v2.2.2)
instance VX{x0}:MC (ur x0) fun r=>bx prog 62 [.agg (GH x0)] (.agg (GH r)):=⟨fun hM=>by unfold ur at hM;exact pb func62 ntmps62⟩
noncomputable def mF(o0:ay)(o2:aj)(o5:aP):Option (List aN) :=
 Bi (cl 7 [] (lY o0 o2 o5)) fun v2=>
 If v2 (
  rX [] (some ([]:List aN)))<|
 Ck (iJ 72 (o0.dS.length:Int) (o0.dS.length:Int))<|
 eT 13 fH (aN.mk [] [] []) fun _=>
 fL (List.replicate (Int.toNat (o0.dS.length:Int)) (aN.mk [] [] [])) 19 [100000,100001,100002,100003,100004,100005,100006,100007,100008,100009,100010,100011] [17,18] [100000,100001,100002,100003,100004,100005,100006,100007,100008,100009,100010,100011] (fun _ t=>(3,.row 10001)::t) (fun s t=>(10001,some (.R 143 3 fH s))::t) [] [(10001,13)] m64 (o0.dS.length:Int) (fun k4 s6=>
  Bi (idx o0.dS (k4:Int)) fun v8=>
  Bi (ur v8) fun v10=>
  Bi (idx s6 (k4:Int)) fun v12=>
  eT 28 fH v10 fun mU=>
  nX [] [] (some (List.set s6 (Int.toNat (k4:Int)) mU))) fun s6=>
 wk [.z 10001]<|rX [] (some s6)
instance Li{o0 o2 o5}:MA (mF o0 o2 o5) prog 23 (fun _=>0) fun r=>⟨[.ref 100000 0],[(100000,some (.bC 145 (ay.b0 ({ o0 with ba:=(aN.mk [] [] []) }:ay) (.row 100001) (.ref 100002 0) (.ref 100005 0) (.row 100007) (.row 100008) (.row 100009) (.row 100010) (.row 100011)))),(100001,some (.R 123 7 cW o0.mf)),(100002,some (.bC 234 (aj.b0 o2 (.row 100003) (.row 100004)))),(100003,some (.R 130 4 da o2.df)),(100004,some (.mp (pN cM DV.bool o2.bh))),(100005,some (.bC 240 [.row 100006])),(100006,some (.R 255 8 dm o5.aW)),(100007,some (.R 152 3 ff o0.ba.dw)),(100008,some (.R 4 1 DV.bool o0.ba.aR)),(100009,some (.R 3 1 (DV.int .i64) o0.ba.aX)),(100010,some (.R 143 3 fH o0.dS)),(100011,some (.R 62 9 AEv.dv o0.cj))],.L 3 fH r,[(100000,some (.bC 145 (ay.b0 ({ o0 with ba:=(aN.mk [] [] []) }:ay) (.row 100001) (.ref 100002 0) (.ref 100005 0) (.row 100007) (.row 100008) (.row 100009) (.row 100010) (.row 100011)))),(100001,some (.R 123 7 cW o0.mf)),(100002,some (.bC 234 (aj.b0 o2 (.row 100003) (.row 100004)))),(100003,some (.R 130 4 da o2.df)),(100004,some (.mp (pN cM DV.bool o2.bh))),(100005,some (.bC 240 [.row 100006])),(100006,some (.R 255 8 dm o5.aW)),(100007,some (.R 152 3 ff o0.ba.dw)),(100008,some (.R 4 1 DV.bool o0.ba.aR)),(100009,some (.R 3 1 (DV.int .i64) o0.ba.aX)),(100010,some (.R 143 3 fH o0.dS)),(100011,some (.R 62 9 AEv.dv o0.cj))],[]⟩:=⟨fun hM=>by unfold mF at hM;exact ab func23 ntmps23⟩
noncomputable def yl(x0:dt):Option ((yn)⊕((Unit)⊕((Unit)⊕((Unit)⊕(Unit))))) :=
 Bi (cl 8 [(50000,10001),(50001,10002),(50002,10003),(50003,10004),(50004,10005),(50005,10006),(50006,10007),(50007,10008),(50008,10009),(50009,10010),(50010,10011),(50011,10012)] (zH x0)) fun v2=>
 sm v2 (fun ud=>
  wL (E:=(Bool×ay×aj×aP)) (ud.1.CJ,ud.1.mf,ud.1.sG,ud.1.rH,ud.1.ba.dw,ud.1.ba.aR,ud.1.ba.aX,ud.1.dS,ud.1.cj,ud.2.1.cY,ud.2.1.eG,ud.2.1.dh,ud.2.1.gf.aW,ud.2.1.df,ud.2.1.bh,ud.2.2.aW) [] [4] [] i2 (fun s t=>(10001,some (.bC 145 (ay.b0 (ay.mk s.1 [] s.2.2.1 () () s.2.2.2.1 (aN.mk [] [] []) [] []) (.row 10013) (.ref 10003 0) (.ref 10006 0) (.row 10014) (.row 10015) (.row 10016) (.row 10017) (.row 10018))))::(10003,some (.bC 234 (aj.b0 (aj.mk (bS.mk s.2.2.2.2.2.2.2.2.2.2.2.2.1) [] s.2.2.2.2.2.2.2.2.2.1 s.2.2.2.2.2.2.2.2.2.2.1 s.2.2.2.2.2.2.2.2.2.2.2.1 []) (.row 10019) (.row 10020))))::(10006,some (.bC 240 [.row 10021]))::(10013,some (.R 123 7 cW s.2.1))::(10014,some (.R 152 3 ff s.2.2.2.2.1))::(10015,some (.R 4 1 DV.bool s.2.2.2.2.2.1))::(10016,some (.R 3 1 (DV.int .i64) s.2.2.2.2.2.2.1))::(10017,some (.R 143 3 fH s.2.2.2.2.2.2.2.1))::(10018,some (.R 62 9 AEv.dv s.2.2.2.2.2.2.2.2.1))::(10019,some (.R 130 4 da s.2.2.2.2.2.2.2.2.2.2.2.2.2.1))::(10020,some (.mp (pN cM DV.bool s.2.2.2.2.2.2.2.2.2.2.2.2.2.2.1)))::(10021,some (.R 255 8 dm s.2.2.2.2.2.2.2.2.2.2.2.2.2.2.2))::t) [] [(10013,10002),(10014,10008),(10015,10009),(10016,10010),(10017,10011),(10018,10012),(10019,10004),(10020,10005),(10021,10007)] (fun Pr=>
   Bi (cl 15 [(100000,10001),(100001,10013),(100002,10003),(100003,10019),(100004,10020),(100005,10006),(100006,10021),(100007,10014),(100008,10015),(100009,10016),(100010,10017),(100011,10018),(50000,10022),(50001,10023),(50002,10024)] (oW (ay.mk Pr.1 Pr.2.1 Pr.2.2.1 () () Pr.2.2.2.1 (aN.mk Pr.2.2.2.2.1 Pr.2.2.2.2.2.1 Pr.2.2.2.2.2.2.1) Pr.2.2.2.2.2.2.2.1 Pr.2.2.2.2.2.2.2.2.1) (aj.mk (bS.mk Pr.2.2.2.2.2.2.2.2.2.2.2.2.1) Pr.2.2.2.2.2.2.2.2.2.2.2.2.2.1 Pr.2.2.2.2.2.2.2.2.2.1 Pr.2.2.2.2.2.2.2.2.2.2.1 Pr.2.2.2.2.2.2.2.2.2.2.2.1 Pr.2.2.2.2.2.2.2.2.2.2.2.2.2.2.1) (aP.mk Pr.2.2.2.2.2.2.2.2.2.2.2.2.2.2.2))) fun v21=>
   If v21.1 (
    nX [] [(10017,10022),(10018,10023),(10021,10024)] (some (.next (v21.2.1.CJ,v21.2.1.mf,v21.2.1.sG,v21.2.1.rH,v21.2.1.ba.dw,v21.2.1.ba.aR,v21.2.1.ba.aX,v21.2.1.dS,v21.2.1.cj,v21.2.2.1.cY,v21.2.2.1.eG,v21.2.2.1.dh,v21.2.2.1.gf.aW,v21.2.2.1.df,v21.2.2.1.bh,v21.2.2.2.aW))))<|
   some (.done v21)) fun e28=>
  Bi (cl 17 [(100000,10001),(100001,10013),(100002,10003),(100003,10019),(100004,10020),(100005,10006),(100006,10024),(100007,10014),(100008,10015),(100009,10016),(100010,10022),(100011,10023)] (mG e28.2.1 e28.2.2.1 e28.2.2.2)) fun uG=>
  Bi (cl 19 [(100000,10001),(100001,10013),(100002,10003),(100003,10019),(100004,10020),(100005,10006),(100006,10024),(100007,10014),(100008,10015),(100009,10016),(100010,10022),(100011,10023)] (nq e28.2.1 e28.2.2.1 e28.2.2.2)) fun vY=>
  Bi (cl 21 [(100000,10001),(100001,10013),(100002,10003),(100003,10019),(100004,10020),(100005,10006),(100006,10024),(100007,10014),(100008,10015),(100009,10016),(100010,10022),(100011,10023)] (mF e28.2.1 e28.2.2.1 e28.2.2.2)) fun FZ=>
  rX [(50000,23)] (some (.inl (yn.mk uG vY FZ)))) fun ZW=>
  sm ZW (fun Ps=>
   rX [] (some (.inr (.inl ())))) fun ZX=>
   sm ZX (fun aph=>
    rX [] (some (.inr (.inr (.inl ()))))) fun aiJ=>
    sm aiJ (fun api=>
     rX [] (some (.inr (.inr (.inr (.inl ())))))) fun aFf=>
     rX [] (some (.inr (.inr (.inr (.inr ())))))
instance abi{x0}:MA (yl x0) prog 6 (fun | .inl _=>1 | .inr (.inl _)=>0 | .inr (.inr (.inl _))=>0 | .inr (.inr (.inr (.inl _)))=>0 | .inr (.inr (.inr (.inr _)))=>0) fun | .inl r=>⟨[.agg (vh x0)],[],.gW [.ref 50000 0,.I 0],[(50000,some (.bC 58 (yn.cs r)))],[50000]⟩ | .inr (.inl r)=>⟨[.agg (vh x0)],[],.gW [.val (.pointer none),.I 1],[],[]⟩ | .inr (.inr (.inl r))=>⟨[.agg (vh x0)],[],.gW [.val (.pointer none),.I 2],[],[]⟩ | .inr (.inr (.inr (.inl r)))=>⟨[.agg (vh x0)],[],.gW [.val (.pointer none),.I 3],[],[]⟩ | .inr (.inr (.inr (.inr r)))=>⟨[.agg (vh x0)],[],.gW [.val (.pointer none),.I 5],[],[]⟩:=⟨fun {r} hM=>by unfold yl at hM;rcases r with r|r|r|r|r <;> exact ab func6 ntmps6⟩
end Go.Proofs.YtpeihknododmlaaGreatDoor
namespace Go.Proofs.YtpeihknododmlaaGreatDoor
open Go.Proofs.Tryz
theorem aer{α:Type}{P:α→Prop}{s:List α}{j:Nat}{v:α}(h:∀p e,p<j→s[p]? = some e→P e)(hv:P v):∀p e,p<j+1→(s.set j v)[p]? = some e→P e:=by
 intro p e hp he
 by_cases q:j=p
 ·subst q
  by_cases hl:j<s.length
  ·rw[List.getElem?_set_self hl]at he
   obtain rfl:=Option.some.inj he;exact hv
  ·rw[List.getElem?_eq_none (by rw[List.length_set];omega)]at he
   cases he
 ·rw[List.getElem?_set_ne q]at he
  exact h p e (by omega) he
section
variable {I:dt} {tk:Int} {m:ay} {o:aj} {a:aP}
theorem VC(h:tE I tk m)(hl:m.cj.length≤100000000000):Wp (mG m o a) fun r=>(∀e∈r,Fj e)∧r.length=m.cj.length:=by
 unfold mG;refine aA (x:=false) (by unfold cl;exact ca (aI (ah rfl))) (ak (fun h=>by cases h) (fun _=>aK (by unfold iJ;omega) (aV ?_)));refine cw (fun j s=>s.length=m.cj.length∧∀p e,p<j→s[p]? = some e→Fj e) (gx (by omega)) ⟨by rw[List.length_replicate,Int.toNat_natCast],fun p e hp=>by omega⟩ ?_ ?_
 ·rintro j s hj ⟨s1,s2⟩
  refine bJ hj (fun e _ em=>?_);have he:=h.ev e em;have al:=he.b.al;refine aK (Ed (by omega) (by decide)) (cR (bJ (by omega) (fun _ _ _=>aV (ax (ah ⟨by rw[List.length_set];exact s1,?_⟩)))));rw[Int.toNat_natCast];exact aer s2 he
 ·rintro s ⟨s1,s2⟩
  rw[Int.toNat_natCast]at s2;refine cR (aI (ah ⟨fun e he=>?_,s1⟩));obtain⟨p,hp,rfl⟩:=List.getElem_of_mem he;exact s2 p _ (by omega) (List.getElem?_eq_getElem hp)
theorem QJ{p:aN}(h:aff p):yj p=some (p.dw,p.aR,p.aX):=by
 have h1:=h.s3;have h2:=h.f2;have h3:=h.v3;unfold yj;refine ca (aK (by unfold iJ;omega) (aV (aK (by unfold iJ;omega) (aV (aK (by unfold iJ;omega) (aV (WK (ah ?_))))))));rw[ze,ze,ze]
theorem Vd{p:aN}(h:aff p):Gw (ur p):=by
 have h1:=h.s3;unfold ur;refine aA (by unfold cl;exact QJ h) ?_;refine cw (fun j s=>s.length=p.dw.length∧∀x∈s,StL x) (gx (by dsimp only;omega)) ⟨rfl,h.so⟩ ?_ (fun _ _=>cR (ah trivial));rintro j s hj ⟨s1,s2⟩;dsimp only at hj;refine bJ (by omega) (fun x _ xm=>?_);have hx:=s2 x xm;have hv:=hx.v;have ht:=hx.t;refine aK (by unfold iJ;omega) (aV (aK (by unfold iJ;omega) (aV (cR (aV (ax (ah ⟨by rw[List.length_set];exact s1,Ci s2 ?_⟩)))))));rw[ze,ze];exact hx
theorem Vz(h:tE I tk m)(ht:tk≤13):Gw (mF m o a):=by
 have Wn:=h.pl;unfold mF;refine aA (x:=false) (by unfold cl;exact ca (aI (ah rfl))) (ak (fun h=>by cases h) (fun _=>aK (by unfold iJ;omega) (aV ?_)));refine cw (fun j s=>s.length=m.dS.length) (gx (by omega)) (by rw[List.length_replicate,Int.toNat_natCast]) ?_ (fun _ _=>cR (aI (ah trivial)));intro j s hj hs;exact bJ hj (fun p _ pm=>au (Vd (h.po p pm)) (fun q _=>bJ (by omega) (fun _ _ _=>aV (ax (ah (by rw[List.length_set];exact hs))))))
theorem afe(H:yJ I):Wp (yl I) fun r=>∃q,r = .inl q∧(∀e∈q.DW,Fj e)∧q.DW.length≤100000000000:=by
 unfold yl;refine au (aQ (Zr H)) ?_;rintro _ ⟨m,o,a,rfl,h1,h2,h3,h4,h5,h6⟩;refine CP (fun q hq=>?_) (fun q hq=>by cases hq);cases hq;refine ly (fun s=>TI I s.2.2.2.1 (ay.mk s.1 s.2.1 s.2.2.1 () () s.2.2.2.1 (aN.mk s.2.2.2.2.1 s.2.2.2.2.2.1 s.2.2.2.2.2.2.1) s.2.2.2.2.2.2.2.1 s.2.2.2.2.2.2.2.2.1) (aj.mk (bS.mk s.2.2.2.2.2.2.2.2.2.2.2.2.1) s.2.2.2.2.2.2.2.2.2.2.2.2.2.1 s.2.2.2.2.2.2.2.2.2.1 s.2.2.2.2.2.2.2.2.2.2.1 s.2.2.2.2.2.2.2.2.2.2.2.1 s.2.2.2.2.2.2.2.2.2.2.2.2.2.2.1) (aP.mk s.2.2.2.2.2.2.2.2.2.2.2.2.2.2.2)) (fun s=>(100-s.2.2.2.1).toNat) ?_ (by dsimp only;omega) ?_
 ·dsimp only
  rw[h6];refine⟨⟨⟨h1.z.UN,h1.z.fit,h1.z.fl,h1.z.held,h1.z.hl,by dsimp only;omega,by dsimp only;omega,rfl⟩,h1.sl,h1.so,h1.fgl,h1.vl,h1.vr,h1.pl,h1.po,h1.ev⟩,h2,(by rw[h3];intro e he;cases he),(by rw[h3,h4];decide)⟩
 rintro⟨gi,ft,hd,nw,ss,fg,vs,ps,es,p1,p2,p3,p4,p5,p6,ag⟩ h;dsimp only at h ⊢;have nw0:0≤nw:=h.ma.z.n0;have nw1:nw≤13:=h.ma.z.n1;refine au (aQ (acy H h)) ?_;rintro⟨b,m1,o1,a1⟩ ⟨t1,t2⟩;dsimp only at t1 t2 ⊢;refine ak (fun hb=>?_) (fun hb=>?_)
 ·obtain⟨q1,q2⟩:=t2 hb
  have e:m1.rH=nw+1:=q2.ma.z.nw;refine ax (ah ⟨?_,by dsimp only;omega⟩);dsimp only;rw[←e]at q2;exact q2
 ·have q:=t1 hb
  have yQ:=q.sz;have Ky:m1.cj.length≤100000000000:=by omega
  refine ah (au (aQ (VC q.ma Ky)) ?_);rintro ev ⟨e1,e2⟩;refine au (P:=fun _=>True) (aQ ?_) (fun ks _=>au (aQ (Vz q.ma nw1)) (fun ps _=>aI (ah ⟨_,rfl,e1,e2 ▸ Ky⟩)));unfold nq;exact aA (x:=false) (by unfold cl;exact ca (aI (ah rfl))) (ak (fun h=>by cases h) (fun _=>au (aQ (Pg H q.no)) (fun _ _=>cR (aI (ah trivial)))))
end
open Go.RowKit
attribute [local irreducible] ik du bx iM oE dL eN iJ
structure cz where
 gp:List Int
 Yk:Int
def oL(x:cz):List DV:=[.sl 1 (List.map (DV.int .u8) x.gp),.int .i64 x.Yk]
structure oX where
 zb:Int
 bo:Int
 FR:Int
 yx:Int
 pg:List Int
 gM:AEv
def oX.cs(x:oX):List DV:=[.int .u8 x.zb,.int .i64 x.bo,.int .u64 x.FR,.int .u64 x.yx,.sl 1 (List.map (DV.int .u64) x.pg),.int .i64 x.gM.vI,.int .i64 x.gM.bo,.int .u8 x.gM.bw,.int .i64 x.gM.pd,.int .i64 x.gM.gN,.int .i64 x.gM.kV,.int .i64 x.gM.bM,.int .i64 x.gM.gD,.sl 1 (List.map (DV.int .i64) x.gM.bR)]
noncomputable def sj(x0:List Int):Option (VClk×Int) :=
 If (decide (16<(x0.length:Int))) (
  some ((VClk.mk (arr 0 [0,0,0,0,0,0,0,0,0,0,0,0,0,0,0,0])),1))<|
 ea 10 (fun x=>[(DV.int .u64) x]) (arr 0 [0,0,0,0,0,0,0,0,0,0,0,0,0,0,0,0])<|
 eb 10 (16:Nat)<|
 some ((VClk.mk (Vc (arr 0 [0,0,0,0,0,0,0,0,0,0,0,0,0,0,0,0]) 0 16 x0)),0)
instance adh{x0}:MC (sj x0) fun r=>bx prog 7 [.L 1 (DV.int .u64) x0] (.gW [.agg (VClk.cs r.1),.I r.2]):=⟨fun hM=>by unfold sj at hM;exact pb func7 ntmps7⟩
noncomputable def kG(x0:Int)(x1:Int):Option Bool :=
 some ((decide (0≤x0))&&(decide (x0≤x1)))
instance VZ{x0 x1}:MC (kG x0 x1) fun r=>bx prog 37 [.I x0,.I x1] (.bool r):=⟨fun hM=>by unfold kG at hM;exact pb func37 ntmps37⟩
noncomputable def pX(x0:AEv)(x1:Int):Option Bool :=
 Bi (gb (x0.bo==x1) (false) (kG x0.vI 200)) fun v2=>
 Bi (gb ((((x0.bo==x1)&&v2)&&(decide (1≤x0.bw)))&&(decide (x0.bw≤11))) (false) (kG x0.pd 8)) fun v4=>
 Bi (gb (((((x0.bo==x1)&&v2)&&(decide (1≤x0.bw)))&&(decide (x0.bw≤11)))&&v4) (false) (kG x0.gN 2147483647)) fun v6=>
 Bi (gb ((((((x0.bo==x1)&&v2)&&(decide (1≤x0.bw)))&&(decide (x0.bw≤11)))&&v4)&&v6) (false) (kG x0.kV 1)) fun v8=>
 Bi (gb (((((((x0.bo==x1)&&v2)&&(decide (1≤x0.bw)))&&(decide (x0.bw≤11)))&&v4)&&v6)&&v8) (false) (kG x0.bM 7)) fun v10=>
 some (((((((((x0.bo==x1)&&v2)&&(decide (1≤x0.bw)))&&(decide (x0.bw≤11)))&&v4)&&v6)&&v8)&&v10)&&(decide ((x0.bR.length:Int)≤4)))
instance PQ{x0 x1}:MC (pX x0 x1) fun r=>bx prog 35 [.agg (AEv.cs x0),.I x1] (.bool r):=⟨fun hM=>by unfold pX at hM;exact pb func35 ntmps35⟩
noncomputable def Ae(x0:VClk)(x1:VClk):Option Bool :=
 fO (E:=Bool) () 6 [] [2,3] [2,3] i2 i2 [] [] m64 16 (fun k1 _=>
  Ck (qv 16 (k1:Int))<|
  ea 11 (fun x=>[(DV.int .u64) x]) x0.lv<|
  Ck (qv 16 (k1:Int))<|
  ea 15 (fun x=>[(DV.int .u64) x]) x1.lv<|
  If (decide ((x1.lv (Int.toNat (k1:Int)))<(x0.lv (Int.toNat (k1:Int))))) (
   some (.done false))<|
  nX [] [] (some (.next ()))) fun
  |.next _=>
   some true
  |.done r=>some r
instance aaR{x0 x1}:MC (Ae x0 x1) fun r=>bx prog 71 [.agg (VClk.cs x0),.agg (VClk.cs x1)] (.bool r):=⟨fun hM=>by unfold Ae at hM;exact pb func71 ntmps71⟩
noncomputable def qC(x0:VClk)(x1:VClk):Option Int :=
 If (((x0.lv 0)==(x1.lv 0))&&(((x0.lv 1)==(x1.lv 1))&&(((x0.lv 2)==(x1.lv 2))&&(((x0.lv 3)==(x1.lv 3))&&(((x0.lv 4)==(x1.lv 4))&&(((x0.lv 5)==(x1.lv 5))&&(((x0.lv 6)==(x1.lv 6))&&(((x0.lv 7)==(x1.lv 7))&&(((x0.lv 8)==(x1.lv 8))&&(((x0.lv 9)==(x1.lv 9))&&(((x0.lv 10)==(x1.lv 10))&&(((x0.lv 11)==(x1.lv 11))&&(((x0.lv 12)==(x1.lv 12))&&(((x0.lv 13)==(x1.lv 13))&&(((x0.lv 14)==(x1.lv 14))&&(((x0.lv 15)==(x1.lv 15))&&true)))))))))))))))) (
  some 1)<|
 Bi (Ae x0 x1) fun v2=>
 If v2 (
  some 2)<|
 Bi (Ae x1 x0) fun v4=>
 If v4 (
  some 3)<|
 some 4
instance TS{x0 x1}:MC (qC x0 x1) fun r=>bx prog 38 [.agg (VClk.cs x0),.agg (VClk.cs x1)] (.int .u8 r):=⟨fun hM=>by unfold qC at hM;exact pb func38 ntmps38⟩
noncomputable def jK(x0:List Int)(x1:List Int):Option Bool :=
 If ((x0.length:Int) != (x1.length:Int)) (
  some false)<|
 fO (E:=Bool) () 13 [] [0,1,12] [] i2 i2 [] [] m64 (x0.length:Int) (fun k1 _=>
  Bi (idx x0 (k1:Int)) fun v4=>
  Bi (idx x1 (k1:Int)) fun v6=>
  If (v4 != v6) (
   some (.done false))<|
  nX [] [] (some (.next ()))) fun
  |.next _=>
   some true
  |.done r=>some r
instance GV{x0 x1}:MC (jK x0 x1) fun r=>bx prog 72 [.L 1 (DV.int .i64) x0,.L 1 (DV.int .i64) x1] (.bool r):=⟨fun hM=>by unfold jK at hM;exact pb func72 ntmps72⟩
noncomputable def nr(x0:AEv)(x1:AEv):Option Bool :=
 Bi (gb ((((((((x0.vI==x1.vI)&&(x0.bo==x1.bo))&&(x0.bw==x1.bw))&&(x0.pd==x1.pd))&&(x0.gN==x1.gN))&&(x0.kV==x1.kV))&&(x0.bM==x1.bM))&&(x0.gD==x1.gD)) (false) (jK x0.bR x1.bR)) fun v2=>
 some (((((((((x0.vI==x1.vI)&&(x0.bo==x1.bo))&&(x0.bw==x1.bw))&&(x0.pd==x1.pd))&&(x0.gN==x1.gN))&&(x0.kV==x1.kV))&&(x0.bM==x1.bM))&&(x0.gD==x1.gD))&&v2)
instance PO{x0 x1}:MC (nr x0 x1) fun r=>bx prog 39 [.agg (AEv.cs x0),.agg (AEv.cs x1)] (.bool r):=⟨fun hM=>by unfold nr at hM;exact pb func39 ntmps39⟩
noncomputable def yY(x0:RRec):Option Bool :=
 Bi (qC x0.pg (VClk.mk (arr 0 [0,0,0,0,0,0,0,0,0,0,0,0,0,0,0,0]))) fun v2=>
 Bi (gb (v2==1) (false) (nr x0.gM (AEv.mk 0 0 0 0 0 0 0 0 []))) fun v4=>
 some ((v2==1)&&v4)
instance aap{x0}:MC (yY x0) fun r=>bx prog 36 [.agg (RRec.cs x0)] (.bool r):=⟨fun hM=>by unfold yY at hM;exact pb func36 ntmps36⟩
@[reducible] noncomputable def rQ(x0:RRec)(s4:Bool):Option Int :=
 Bi (gb (!(!s4)) (false) (kG x0.bo 8)) fun v3=>
 If ((!s4)||(!v3)) (
  some 1)<|
 some 0
noncomputable def ry(x0:RRec):Option Int :=
 jn (rQ x0) 2 [] [1] [1] (fun s t=>(3,.bool s)::t) i2<|
 If (x0.zb==1) (
  Bi (pX x0.gM x0.bo) fun v6=>
  nX [] [] (rQ x0 (v6&&(x0.yx==0))))<|
 If (x0.zb==2) (
  Bi (yY x0) fun v8=>
  nX [] [] (rQ x0 ((v8&&(decide (0<x0.yx)))&&(decide (x0.yx≤(IntKind.wrap .u64 (18446744073709551615-x0.FR)))))))<|
 If (x0.zb==3) (
  Bi (yY x0) fun v10=>
  nX [] [] (rQ x0 (v10&&(x0.yx==0))))<|
 nX [] [] (rQ x0 false)
instance Xz{x0}:MC (ry x0) fun r=>bx prog 10 [.agg (RRec.cs x0)] (.I r):=⟨fun hM=>by unfold ry at hM;exact pb func10 ntmps10⟩
noncomputable def sr(x0:List Int):Option cz :=
 eT 3 (bA 1 (DV.int .u8)) ([]:List Int) fun _=>
 Ck (dL 1 (List.length ([]:List Int)+List.length x0))<|
 wk [.z 5]<|rX [(50000,7)] (some (cz.mk (([]:List Int)++x0) 0))
instance Wb{x0}:MA (sr x0) prog 24 (fun _=>1) fun r=>⟨[.L 1 (DV.int .u8) x0],[],.ref 50000 0,[(50000,some (.bC 165 (oL r)))],[50000]⟩:=⟨fun hM=>by unfold sr at hM;exact ab func24 ntmps24⟩
noncomputable def pY(o0:cz):Option Bool :=
 rX [] (some (o0.Yk==0))
instance PS{o0}:MA (pY o0) prog 63 (fun _=>0) fun r=>⟨[.ref 100000 0],[(100000,some (.bC 165 (oL o0)))],.bool r,[(100000,some (.bC 165 (oL o0)))],[]⟩:=⟨fun hM=>by unfold pY at hM;exact ab func63 ntmps63⟩
noncomputable def sE(o0:cz):Option (Int×cz) :=
 Bi (cl 5 [] (pY o0)) fun v2=>
 If (!v2) (
  rX [] (some (0,o0)))<|
 If ((o0.gp.length:Int)==0) (
  rX [] (some (0,(cz.mk o0.gp 6))))<|
 Bi (idx o0.gp 0) fun v4=>
 Ck (eN (o0.gp.length) 1 (o0.gp.length))<|
 rX [] (some (v4,(cz.mk (List.drop (Int.toNat 1) o0.gp) o0.Yk)))
instance PV{o0}:MA (sE o0) prog 25 (fun _=>1) fun r=>⟨[.ref 100000 0],[(100000,some (.bC 165 (oL o0)))],.int .u8 r.1,[(100000,some (.bC 165 (oL r.2)))],[]⟩:=⟨fun hM=>by unfold sE at hM;exact ab func25 ntmps25⟩
noncomputable def yq(x0:List Int):Option (Int×Int×Int) :=
 fO (E:=Int×Int×Int) 0 9 [] [7,8] [] (fun s t=>(2,.int .u64 s)::t) i2 [] [] m64 (x0.length:Int) (fun k1 s3=>
  Bi (idx x0 (k1:Int)) fun v5=>
  If (((k1:Int)==9)&&(decide (1<v5))) (
   some (.done (0,0,6)))<|
  Ck ((0:Int)≤(IntKind.wrap .i64 (7*(k1:Int))))<|
  If ((Int.fdiv v5 (2^min (Int.toNat 7) (IntKind.bits .u8)))==0) (
   If ((v5==0)&&(decide (0<(k1:Int)))) (
    some (.done (0,0,6)))<|
   some (.done ((jH .or .u64 s3 (IntKind.wrap .u64 ((IntKind.wrap .u64 (jH .and .u8 v5 127))*2^min (Int.toNat (IntKind.wrap .i64 (7*(k1:Int)))) (IntKind.bits .u64)))),((k1:Int)+1),0)))<|
  nX [] [] (some (.next (jH .or .u64 s3 (IntKind.wrap .u64 ((IntKind.wrap .u64 (jH .and .u8 v5 127))*2^min (Int.toNat (IntKind.wrap .i64 (7*(k1:Int)))) (IntKind.bits .u64))))))) fun
  |.next s3=>
   some (0,0,6)
  |.done r=>some r
instance aeL{x0}:MC (yq x0) fun r=>bx prog 64 [.L 1 (DV.int .u8) x0] (.gW [.int .u64 r.1,.I r.2.1,.I r.2.2]):=⟨fun hM=>by unfold yq at hM;exact pb func64 ntmps64⟩
noncomputable def nu(x1:Int)(x2:Int)(o0:cz):Option (Bool×cz) :=
 If (x2 != 0) (
  rX [] (some (false,(cz.mk o0.gp x2))))<|
 Ck (eN (o0.gp.length) x1 (o0.gp.length))<|
 rX [] (some (true,(cz.mk (List.drop (Int.toNat x1) o0.gp) o0.Yk)))
instance PR{x1 x2 o0}:MA (nu x1 x2 o0) prog 65 (fun _=>1) fun r=>⟨[.ref 100000 0,.I x1,.I x2],[(100000,some (.bC 165 (oL o0)))],.bool r.1,[(100000,some (.bC 165 (oL r.2)))],[]⟩:=⟨fun hM=>by unfold nu at hM;exact ab func65 ntmps65⟩
@[reducible] noncomputable def tq(o0:cz)(v4:Int×Int×Int)(s8:Int):Option (Int×cz) :=
 Bi (cl 30 [] (nu v4.2.1 s8 o0)) fun v7=>
 If (!v7.1) (
  rX [] (some (0,v7.2)))<|
 rX [] (some (v4.1,v7.2))
noncomputable def gQ(x1:Int)(o0:cz):Option (Int×cz) :=
 Bi (cl 9 [] (pY o0)) fun v2=>
 If (!v2) (
  rX [] (some (0,o0)))<|
 Bi (yq o0.gp) fun v4=>
 jn (tq o0 v4) 4 [100000] [0,5,6] [100000] (fun s t=>(7,.I s)::t) i2<|
 If ((v4.2.2==0)&&(decide (x1<v4.1))) (
  nX [] [] (tq o0 v4 2))<|
 nX [] [] (tq o0 v4 v4.2.2)
instance PT{x1 o0}:MA (gQ x1 o0) prog 26 (fun _=>1) fun r=>⟨[.ref 100000 0,.int .u64 x1],[(100000,some (.bC 165 (oL o0)))],.int .u64 r.1,[(100000,some (.bC 165 (oL r.2)))],[]⟩:=⟨fun hM=>by unfold gQ at hM;exact ab func26 ntmps26⟩
noncomputable def tL(o0:cz):Option Int :=
 rX [] (some o0.Yk)
instance Ra{o0}:MA (tL o0) prog 27 (fun _=>0) fun r=>⟨[.ref 100000 0],[(100000,some (.bC 165 (oL o0)))],.I r,[(100000,some (.bC 165 (oL o0)))],[]⟩:=⟨fun hM=>by unfold tL at hM;exact ab func27 ntmps27⟩
noncomputable def vF(o0:cz):Option Int :=
 rX [] (some (o0.gp.length:Int))
instance PU{o0}:MA (vF o0) prog 28 (fun _=>0) fun r=>⟨[.ref 100000 0],[(100000,some (.bC 165 (oL o0)))],.I r,[(100000,some (.bC 165 (oL o0)))],[]⟩:=⟨fun hM=>by unfold vF at hM;exact ab func28 ntmps28⟩
noncomputable def VClk_length(x0:VClk):Option Int :=
 fL 0 5 [] [1] [1] (fun s t=>(3,.I s)::t) i2 [] [] m64 16 (fun k1 s3=>
  Ck (qv 16 (k1:Int))<|
  ea 10 (fun x=>[(DV.int .u64) x]) x0.lv<|
  If ((x0.lv (Int.toNat (k1:Int))) != 0) (
   nX [] [] (some ((k1:Int)+1)))<|
  nX [] [] (some s3)) fun s3=>
 some s3
instance VClk_length_c{x0}:MC (VClk_length x0) fun r=>bx prog 66 [.agg (VClk.cs x0)] (.I r):=⟨fun hM=>by unfold VClk_length at hM;exact pb func66 ntmps66⟩
noncomputable def wS(x0:List Int):Option (VClk×Int×Int) :=
 Bi (gb (!((x0.length:Int)==0)) 0 (idx x0 0)) fun v2=>
 If (((x0.length:Int)==0)||(decide (16<v2))) (
  some ((VClk.mk (arr 0 [0,0,0,0,0,0,0,0,0,0,0,0,0,0,0,0])),0,6))<|
 Bi (idx x0 0) fun v4=>
 fO (E:=VClk×Int×Int) (1,(VClk.mk (arr 0 [0,0,0,0,0,0,0,0,0,0,0,0,0,0,0,0]))) 27 [] [0,2,5,6,26] [2] (fun s t=>(7,.I s.1)::t) (fun s t=>(5,some (.bC 51 (VClk.cs s.2)))::t) [] [] m64 (IntKind.wrap .i64 v4) (fun k5 s8=>
  Ck (eN (x0.length) s8.1 (x0.length))<|
  Bi (yq (List.drop (Int.toNat s8.1) x0)) fun mU=>
  If (mU.2.2 != 0) (
   some (.done ((VClk.mk (arr 0 [0,0,0,0,0,0,0,0,0,0,0,0,0,0,0,0])),0,6)))<|
  Ck (qv 16 (k5:Int))<|
  ea 44 (fun x=>[(DV.int .u64) x]) s8.2.lv<|
  eb 44 mU.1<|
  nX [] [] (some (.next ((IntKind.wrap .i64 (s8.1+mU.2.1)),(VClk.mk (xJ s8.2.lv (Int.toNat (k5:Int)) mU.1)))))) fun
  |.next s8=>
   Bi (VClk_length s8.2) fun v10=>
   If (v10 != (IntKind.wrap .i64 v4)) (
    some ((VClk.mk (arr 0 [0,0,0,0,0,0,0,0,0,0,0,0,0,0,0,0])),0,6))<|
   some (s8.2,s8.1,0)
  |.done r=>some r
instance aaj{x0}:MC (wS x0) fun r=>bx prog 29 [.L 1 (DV.int .u8) x0] (.gW [.agg (VClk.cs r.1),.I r.2.1,.I r.2.2]):=⟨fun hM=>by unfold wS at hM;exact pb func29 ntmps29⟩
noncomputable def fY(o1:cz):Option (Int×cz) :=
 Bi (cl 3 [(100000,100001)] (gQ 2147483647 o1)) fun v2=>
 rX [] (some ((IntKind.wrap .i64 v2.1),v2.2))
instance Lq{o1}:MA (fY o1) prog 67 (fun _=>1) fun r=>⟨[.ref 100000 0],[(100000,some (.bC 90 [.ref 100001 0])),(100001,some (.bC 165 (oL o1)))],.I r.1,[(100001,some (.bC 165 (oL r.2))),(100000,some (.bC 90 [.ref 100001 0]))],[]⟩:=⟨fun hM=>by unfold fY at hM;exact ab func67 ntmps67⟩
noncomputable def vE(x0:Int):Option Int :=
 If ((jH .and .u64 x0 1)==1) (
  some (jH .xor .i64 (if IntKind.signed .i64=true then -1 else IntKind.max .i64) (IntKind.wrap .i64 (Int.fdiv x0 (2^min (Int.toNat 1) (IntKind.bits .u64))))))<|
 some (IntKind.wrap .i64 (Int.fdiv x0 (2^min (Int.toNat 1) (IntKind.bits .u64))))
instance XM{x0}:MC (vE x0) fun r=>bx prog 170 [.int .u64 x0] (.I r):=⟨fun hM=>by unfold vE at hM;exact pb func170 ntmps170⟩
noncomputable def Gn(x0:List Int):Option (Int×Int×Int) :=
 Bi (yq x0) fun v2=>
 Bi (vE v2.1) fun v4=>
 some (v4,v2.2.1,v2.2.2)
instance agb{x0}:MC (Gn x0) fun r=>bx prog 117 [.L 1 (DV.int .u8) x0] (.gW [.I r.1,.I r.2.1,.I r.2.2]):=⟨fun hM=>by unfold Gn at hM;exact pb func117 ntmps117⟩
noncomputable def oH(o0:cz):Option (Int×cz) :=
 Bi (cl 7 [] (pY o0)) fun v2=>
 If (!v2) (
  rX [] (some (0,o0)))<|
 Bi (Gn o0.gp) fun v4=>
 Bi (cl 21 [] (nu v4.2.1 v4.2.2 o0)) fun v6=>
 If (!v6.1) (
  rX [] (some (0,v6.2)))<|
 rX [] (some (v4.1,v6.2))
instance QZ{o0}:MA (oH o0) prog 68 (fun _=>1) fun r=>⟨[.ref 100000 0],[(100000,some (.bC 165 (oL o0)))],.I r.1,[(100000,some (.bC 165 (oL r.2)))],[]⟩:=⟨fun hM=>by unfold oH at hM;exact ab func68 ntmps68⟩
noncomputable def oZ(x1:Int)(o0:cz):Option (AEv×cz) :=
 Bi (cl 10 [(100000,2),(100001,100000)] (fY o0)) fun v2=>
 Bi (cl 12 [] (gQ 255 v2.2)) fun v4=>
 Bi (cl 16 [(100000,2),(100001,100000)] (fY v4.2)) fun v6=>
 Bi (cl 18 [(100000,2),(100001,100000)] (fY v6.2)) fun v8=>
 Bi (cl 20 [(100000,2),(100001,100000)] (fY v8.2)) fun v10=>
 Bi (cl 22 [(100000,2),(100001,100000)] (fY v10.2)) fun v12=>
 Bi (cl 28 [] (oH v12.2)) fun qm=>
 Bi (cl 31 [] (gQ 4 qm.2)) fun pF=>
 fLu (([]:List Int),pF.2) 32 [100000] [2,4,6,31] [2,4] i2 (fun s t=>(6,some (.bC 62 [.I v2.1,.I x1,.int .u8 (IntKind.wrap .u8 v4.1),.I v6.1,.I v8.1,.I v10.1,.I v12.1,.I qm.1,.row 10001]))::(10001,some (.R 2 1 (DV.int .i64) s.1))::(100000,some (.bC 165 (oL s.2)))::t) [.c 6 10002 8 2 1] [(10001,10002)] 18446744073709551615 pF.1 (fun k17 Cn=>
  Bi (cl 37 [] (oH Cn.2)) fun vX=>
  eT 38 (bA 1 (DV.int .i64)) [vX.1] fun uG=>
  Ck (dL 8 (Cn.1.length+List.length uG))<|
  nX [] [(10001,39)] (some ((Cn.1++uG),vX.2))) fun Cn=>
 wk [.z 10001]<|rX [] (some ((AEv.mk v2.1 x1 (IntKind.wrap .u8 v4.1) v6.1 v8.1 v10.1 v12.1 qm.1 Cn.1),Cn.2))
instance Oc{x1 o0}:MA (oZ x1 o0) prog 30 (fun _=>1) fun r=>⟨[.ref 100000 0,.I x1],[(100000,some (.bC 165 (oL o0)))],.agg (AEv.cs r.1),[(100000,some (.bC 165 (oL r.2)))],[]⟩:=⟨fun hM=>by unfold oZ at hM;exact ab func30 ntmps30⟩
noncomputable def tM(o0:cz):Option Int :=
 Bi (cl 5 [] (tL o0)) fun v2=>
 If ((v2 != 0)||((o0.gp.length:Int)==0)) (
  rX [] (some v2))<|
 rX [] (some 6)
instance Rb{o0}:MA (tM o0) prog 31 (fun _=>0) fun r=>⟨[.ref 100000 0],[(100000,some (.bC 165 (oL o0)))],.I r,[(100000,some (.bC 165 (oL o0)))],[]⟩:=⟨fun hM=>by unfold tM at hM;exact ab func31 ntmps31⟩
@[reducible] noncomputable def vB(v4:Int×cz)(v6:Int×cz)(v8:Int×cz)(ue:cz×VClk×Int×Int×Int×Int×Int×Int×Int×Int×(List Int)×Int):Option (RRec×Int) :=
 Bi (cl 61 [(100000,10002)] (tM ue.1)) fun v24=>
 Bi (gb (!(v24 != 0)) (0) (ry (RRec.mk (IntKind.wrap .i64 v6.1) v8.1 ue.2.1 v4.1 (AEv.mk ue.2.2.1 ue.2.2.2.1 ue.2.2.2.2.1 ue.2.2.2.2.2.1 ue.2.2.2.2.2.2.1 ue.2.2.2.2.2.2.2.1 ue.2.2.2.2.2.2.2.2.1 ue.2.2.2.2.2.2.2.2.2.1 ue.2.2.2.2.2.2.2.2.2.2.1) ue.2.2.2.2.2.2.2.2.2.2.2))) fun yN=>
 If ((v24 != 0)||(yN != 0)) (
  some ((RRec.mk 0 0 (VClk.mk (arr 0 [0,0,0,0,0,0,0,0,0,0,0,0,0,0,0,0])) 0 (AEv.mk 0 0 0 0 0 0 0 0 []) 0),6))<|
 some ((RRec.mk (IntKind.wrap .i64 v6.1) v8.1 ue.2.1 v4.1 (AEv.mk ue.2.2.1 ue.2.2.2.1 ue.2.2.2.2.1 ue.2.2.2.2.2.1 ue.2.2.2.2.2.2.1 ue.2.2.2.2.2.2.2.1 ue.2.2.2.2.2.2.2.2.1 ue.2.2.2.2.2.2.2.2.2.1 ue.2.2.2.2.2.2.2.2.2.2.1) ue.2.2.2.2.2.2.2.2.2.2.2),0)
noncomputable def wV(x0:List Int):Option (RRec×Int) :=
 Bi (cl 11 [(50000,10001)] (sr x0)) fun v2=>
 Bi (cl 13 [(100000,10001)] (sE v2)) fun v4=>
 Bi (cl 15 [(100000,10001)] (gQ 8 v4.2)) fun v6=>
 Bi (cl 18 [(100000,10001)] (gQ 18446744073709551615 v6.2)) fun v8=>
 Bi (cl 21 [(100000,10001)] (tL v8.2)) fun v10=>
 If (v10 != 0) (
  some ((RRec.mk 0 0 (VClk.mk (arr 0 [0,0,0,0,0,0,0,0,0,0,0,0,0,0,0,0])) 0 (AEv.mk 0 0 0 0 0 0 0 0 []) 0),6))<|
 jn (vB v4 v6 v8) 5 [] [2,5] [2] (fun _ t=>(4,.ref 10002 0)::t) (fun s t=>(5,some (.bC 65 (RRec.cs (RRec.mk (IntKind.wrap .i64 v6.1) v8.1 s.2.1 v4.1 (AEv.mk s.2.2.1 s.2.2.2.1 s.2.2.2.2.1 s.2.2.2.2.2.1 s.2.2.2.2.2.2.1 s.2.2.2.2.2.2.2.1 s.2.2.2.2.2.2.2.2.1 s.2.2.2.2.2.2.2.2.2.1 s.2.2.2.2.2.2.2.2.2.2.1) s.2.2.2.2.2.2.2.2.2.2.2))))::(10002,some (.bC 165 (oL s.1)))::t)<|
 If (v4.1==1) (
  Bi (cl 32 [(100000,10001)] (vF v8.2)) fun GA=>
  Ck (eN (x0.length) (IntKind.wrap .i64 ((x0.length:Int)-GA)) (x0.length))<|
  Bi (wS (List.drop (Int.toNat (IntKind.wrap .i64 ((x0.length:Int)-GA))) x0)) fun Bh=>
  If (Bh.2.2 != 0) (
   some ((RRec.mk 0 0 (VClk.mk (arr 0 [0,0,0,0,0,0,0,0,0,0,0,0,0,0,0,0])) 0 (AEv.mk 0 0 0 0 0 0 0 0 []) 0),6))<|
  Ck (eN (List.length (List.drop (Int.toNat (IntKind.wrap .i64 ((x0.length:Int)-GA))) x0)) Bh.2.1 (List.length (List.drop (Int.toNat (IntKind.wrap .i64 ((x0.length:Int)-GA))) x0)))<|
  Bi (cl 49 [(50000,10003)] (sr (List.drop (Int.toNat Bh.2.1) (List.drop (Int.toNat (IntKind.wrap .i64 ((x0.length:Int)-GA))) x0)))) fun zh=>
  Bi (cl 53 [(100000,10003)] (oZ (IntKind.wrap .i64 v6.1) zh)) fun v37=>
  nX [] [(10002,10003)] (vB v4 v6 v8 (v37.2,Bh.1,v37.1.vI,v37.1.bo,v37.1.bw,v37.1.pd,v37.1.gN,v37.1.kV,v37.1.bM,v37.1.gD,v37.1.bR,0)))<|
 If (v4.1==2) (
  Bi (cl 58 [(100000,10001)] (gQ 18446744073709551615 v8.2)) fun Fl=>
  nX [] [(10002,10001)] (vB v4 v6 v8 (Fl.2,(VClk.mk (arr 0 [0,0,0,0,0,0,0,0,0,0,0,0,0,0,0,0])),0,0,0,0,0,0,0,0,([]:List Int),Fl.1)))<|
 nX [] [(10002,10001)] (vB v4 v6 v8 (v8.2,(VClk.mk (arr 0 [0,0,0,0,0,0,0,0,0,0,0,0,0,0,0,0])),0,0,0,0,0,0,0,0,([]:List Int),0))
instance aaq{x0}:MC (wV x0) fun r=>bx prog 8 [.L 1 (DV.int .u8) x0] (.gW [.agg (RRec.cs r.1),.I r.2]):=⟨fun hM=>by unfold wV at hM;exact pb func8 ntmps8⟩
noncomputable def zK(x1:Int)(o0:List Int):Option (List Int) :=
 wL (E:=(List Int)×Int) (o0,x1) [100000] [] [] (fun s t=>(0,.row 10001)::(1,.int .u64 s.2)::t) (fun s t=>(10001,some (.R 5 1 (DV.int .u8) s.1))::t) [] [(10001,100000)] (fun s3=>
  If (decide (128≤s3.2)) (
   eT 11 (bA 1 (DV.int .u8)) [(jH .or .u8 (IntKind.wrap .u8 s3.2) 128)] fun v4=>
   Ck (dL 1 (s3.1.length+List.length v4))<|
   nX [] [(10001,12)] (some (.next ((s3.1++v4),(Int.fdiv s3.2 (2^min (Int.toNat 7) (IntKind.bits .u64)))))))<|
  some (.done (s3.1,s3.2))) fun e8=>
 eT 18 (bA 1 (DV.int .u8)) [(IntKind.wrap .u8 e8.2)] fun v6=>
 Ck (dL 1 (e8.1.length+List.length v6))<|
 rX [(50000,19)] (some (e8.1++v6))
instance ady{x1 o0}:MA (zK x1 o0) prog 69 (fun _=>2) fun r=>⟨[.row 100000,.int .u64 x1],[(100000,some (.R 5 1 (DV.int .u8) o0))],.row 50000,[(50000,some (.R 5 1 (DV.int .u8) r)),(100000,none)],[50000]⟩:=⟨fun hM=>by unfold zK at hM;exact ab func69 ntmps69⟩
noncomputable def jM(x1:Int)(o0:List Int):Option (List Int) :=
 Ck (iJ 1 0 (IntKind.wrap .i64 ((o0.length:Int)+10)))<|
 eT 9 (DV.int .u8) 0 fun _=>
 Ck (dL 1 (List.length ([]:List Int)+List.length o0))<|
 Bi (cl 14 [(100000,12),(50000,10001)] (zK x1 (([]:List Int)++o0))) fun v4=>
 rX [(50000,10001)] (some v4)
instance Wa{x1 o0}:MA (jM x1 o0) prog 32 (fun _=>1) fun r=>⟨[.row 100000,.int .u64 x1],[(100000,some (.R 5 1 (DV.int .u8) o0))],.row 50000,[(50000,some (.R 5 1 (DV.int .u8) r)),(100000,some (.R 5 1 (DV.int .u8) o0))],[50000]⟩:=⟨fun hM=>by unfold jM at hM;exact ab func32 ntmps32⟩
noncomputable def VClk_Bytes_a(x0:VClk)(o0:List Int):Option (List Int) :=
 Bi (VClk_length x0) fun v2=>
 Ck (dL 1 (o0.length))<|
 eT 14 (bA 1 (DV.int .u8)) [(IntKind.wrap .u8 v2)] fun v4=>
 Ck (dL 1 (o0.length+List.length v4))<|
 fL (o0++v4) 17 [100000] [2,16] [2,100000] (fun _ t=>(6,.row 10001)::t) (fun s t=>(10001,some (.R 5 1 (DV.int .u8) s))::t) [] [(10001,15)] m64 v2 (fun k6 s8=>
  Ck (qv 16 (k6:Int))<|
  ea 23 (fun x=>[(DV.int .u64) x]) x0.lv<|
  Bi (cl 25 [(100000,10001),(50000,25)] (jM (x0.lv (Int.toNat (k6:Int))) s8)) fun v11=>
  nX [] [(10001,25)] (some v11)) fun s8=>
 rX [(50000,10001)] (some s8)
instance VClk_Bytes_a_c{x0 o0}:MA (VClk_Bytes_a x0 o0) prog 33 (fun _=>1) fun r=>⟨[.agg (VClk.cs x0),.row 100000],[(100000,some (.R 5 1 (DV.int .u8) o0))],.row 50000,[(50000,some (.R 5 1 (DV.int .u8) r)),(100000,some (.R 5 1 (DV.int .u8) o0))],[50000]⟩:=⟨fun hM=>by unfold VClk_Bytes_a at hM;exact ab func33 ntmps33⟩
noncomputable def yp(x0:Int):Option Int :=
 If (decide (x0<0)) (
  some (jH .xor .u64 (if IntKind.signed .u64=true then -1 else IntKind.max .u64) (IntKind.wrap .u64 ((IntKind.wrap .u64 x0)*2^min (Int.toNat 1) (IntKind.bits .u64)))))<|
 some (IntKind.wrap .u64 ((IntKind.wrap .u64 x0)*2^min (Int.toNat 1) (IntKind.bits .u64)))
instance abC{x0}:MC (yp x0) fun r=>bx prog 70 [.I x0] (.int .u64 r):=⟨fun hM=>by unfold yp at hM;exact pb func70 ntmps70⟩
noncomputable def tN(x1:Int)(o0:List Int):Option (List Int) :=
 Bi (yp x1) fun v2=>
 Bi (cl 8 [(50000,8)] (jM v2 o0)) fun v4=>
 rX [(50000,8)] (some v4)
instance XN{x1 o0}:MA (tN x1 o0) prog 34 (fun _=>1) fun r=>⟨[.row 100000,.I x1],[(100000,some (.R 5 1 (DV.int .u8) o0))],.row 50000,[(50000,some (.R 5 1 (DV.int .u8) r)),(100000,some (.R 5 1 (DV.int .u8) o0))],[50000]⟩:=⟨fun hM=>by unfold tN at hM;exact ab func34 ntmps34⟩
@[reducible] noncomputable def RRec_Bytes_K1(s9:(List Int)):Option (List Int) :=
 some s9
noncomputable def RRec_Bytes(x0:RRec):Option (List Int) :=
 Bi (ry x0) fun v2=>
 If (v2 != 0) (
  some ([]:List Int))<|
 eT 14 (bA 1 (DV.int .u8)) [x0.zb] fun v3=>
 Bi (cl 19 [(100000,14),(50000,19)] (jM (IntKind.wrap .u64 x0.bo) v3)) fun v5=>
 Bi (cl 23 [(100000,19),(50000,23)] (jM x0.FR v5)) fun v7=>
 jn RRec_Bytes_K1 6 [] [] [] (fun s t=>(3,.L 1 (DV.int .u8) s)::t) i2<|
 If (x0.zb==1) (
  Bi (cl 33 [(100000,23),(50000,33)] (VClk_Bytes_a x0.pg v7)) fun v11=>
  fL v11 48 [] [4,47] [4] (fun _ t=>(3,.row 10001)::t) (fun s t=>(10001,some (.R 5 1 (DV.int .u8) s))::t) [] [(10001,33)] m64 6 (fun AH sw=>
   Bi (idx ([x0.gM.vI,(IntKind.wrap .i64 x0.gM.bw),x0.gM.pd,x0.gM.gN,x0.gM.kV,x0.gM.bM]:List Int) (AH:Int)) fun FZ=>
   eT 50 (DV.int .i64) FZ fun _=>
   eb 50 ([x0.gM.vI,(IntKind.wrap .i64 x0.gM.bw),x0.gM.pd,x0.gM.gN,x0.gM.kV,x0.gM.bM]:List Int)<|
   Bi (cl 54 [(100000,10001),(50000,54)] (jM (IntKind.wrap .u64 FZ) sw)) fun GA=>
   nX [] [(10001,54)] (some GA)) fun sw=>
  Bi (cl 59 [(100000,10001),(50000,59)] (tN x0.gM.gD sw)) fun pF=>
  Bi (cl 65 [(100000,59),(50000,65)] (jM (IntKind.wrap .u64 (x0.gM.bR.length:Int)) pF)) fun ob=>
  fL ob 69 [] [67,68] [] (fun _ t=>(3,.row 10002)::t) (fun s t=>(10002,some (.R 5 1 (DV.int .u8) s))::t) [] [(10002,65)] m64 (x0.gM.bR.length:Int) (fun k19 Kx=>
   Bi (idx x0.gM.bR (k19:Int)) fun uG=>
   Bi (cl 75 [(100000,10002),(50000,75)] (tN uG Kx)) fun vY=>
   nX [] [(10002,75)] (some vY)) fun Kx=>
  nX [.z 10002] [] (RRec_Bytes_K1 Kx))<|
 If (x0.zb==2) (
  Bi (cl 82 [(100000,23),(50000,82)] (jM x0.yx v7)) fun v31=>
  nX [.z 82] [] (RRec_Bytes_K1 v31))<|
 nX [.z 23] [] (RRec_Bytes_K1 v7)
instance RRec_Bytes_c{x0}:MC (RRec_Bytes x0) fun r=>bx prog 9 [.agg (RRec.cs x0)] (.L 1 (DV.int .u8) r):=⟨fun hM=>by unfold RRec_Bytes at hM;exact pb func9 ntmps9⟩
noncomputable def vC(x0:RRec)(x1:RRec):Option Bool :=
 Bi (gb ((x0.bo==x1.bo)&&(x0.FR==x1.FR)) (0) (qC x0.pg x1.pg)) fun v2=>
 Bi (gb ((((x0.bo==x1.bo)&&(x0.FR==x1.FR))&&(v2==1))&&(x0.zb==x1.zb)) (false) (nr x0.gM x1.gM)) fun v4=>
 some ((((((x0.bo==x1.bo)&&(x0.FR==x1.FR))&&(v2==1))&&(x0.zb==x1.zb))&&v4)&&(x0.yx==x1.yx))
instance Xy{x0 x1}:MC (vC x0 x1) fun r=>bx prog 11 [.agg (RRec.cs x0),.agg (RRec.cs x1)] (.bool r):=⟨fun hM=>by unfold vC at hM;exact pb func11 ntmps11⟩
noncomputable def jL(x0:AEv)(x1:AEv):Option Bool :=
 If (((((((((x0.vI != x1.vI)||(x0.bo != x1.bo))||(x0.bw != x1.bw))||(x0.pd != x1.pd))||(x0.gN != x1.gN))||(x0.kV != x1.kV))||(x0.bM != x1.bM))||(x0.gD != x1.gD))||((x0.bR.length:Int) != (x1.bR.length:Int))) (
  some false)<|
 fO (E:=Bool) () 72 [] [2,3,71] [2,3] i2 i2 [] [] m64 (x0.bR.length:Int) (fun k1 _=>
  Bi (idx x0.bR (k1:Int)) fun v4=>
  Bi (idx x1.bR (k1:Int)) fun v6=>
  If (v4 != v6) (
   some (.done false))<|
  nX [] [] (some (.next ()))) fun
  |.next _=>
   some true
  |.done r=>some r
instance GZ{x0 x1}:MC (jL x0 x1) fun r=>bx prog 12 [.agg (AEv.cs x0),.agg (AEv.cs x1)] (.bool r):=⟨fun hM=>by unfold jL at hM;exact pb func12 ntmps12⟩
noncomputable def sA(x0:oX):Option (RRec×Bool) :=
 Bi (sj x0.pg) fun v2=>
 some ((RRec.mk x0.bo x0.FR v2.1 x0.zb x0.gM x0.yx),(v2.2==0))
instance Jx{x0}:MC (sA x0) fun r=>bx prog 13 [.agg (oX.cs x0)] (.gW [.agg (RRec.cs r.1),.bool r.2]):=⟨fun hM=>by unfold sA at hM;exact pb func13 ntmps13⟩
noncomputable def kP(x0:List Int)(x1:List Int):Option Bool :=
 If ((x0.length:Int) != (x1.length:Int)) (
  some false)<|
 fO (E:=Bool) () 13 [] [0,1,12] [] i2 i2 [] [] m64 (x0.length:Int) (fun k1 _=>
  Bi (idx x0 (k1:Int)) fun v4=>
  Bi (idx x1 (k1:Int)) fun v6=>
  If (v4 != v6) (
   some (.done false))<|
  nX [] [] (some (.next ()))) fun
  |.next _=>
   some true
  |.done r=>some r
instance Iw{x0 x1}:MC (kP x0 x1) fun r=>bx prog 14 [.L 1 (DV.int .u8) x0,.L 1 (DV.int .u8) x1] (.bool r):=⟨fun hM=>by unfold kP at hM;exact pb func14 ntmps14⟩
noncomputable def pW:Option Bool :=
 eT 6 (bA 1 (DV.int .u64)) [0,1] fun v1=>
 eT 7 (bA 1 (DV.int .i64)) [(-1)] fun v2=>
 Bi (sA (oX.mk 1 1 0 0 v1 (AEv.mk 3 1 4 0 0 0 2 0 v2))) fun v4=>
 Bi (gb v4.2 ([]) (RRec_Bytes (RRec.mk 2 300 (VClk.mk (arr 0 [0,0,0,0,0,0,0,0,0,0,0,0,0,0,0,0])) 3 (AEv.mk 0 0 0 0 0 0 0 0 []) 0))) fun v6=>
 If v4.2 (
  eT 17 (bA 1 (DV.int .u8)) [3,2,172,2] fun v7=>
  Bi (kP v6 v7) fun v9=>
  Bi (gb (v4.2&&v9) ([]) (RRec_Bytes v4.1)) fun v11=>
  If (v4.2&&v9) (
   eT 23 (bA 1 (DV.int .u8)) [1,1,0,2,0,1,3,4,0,0,0,2,0,1,1] fun v12=>
   Bi (kP v11 v12) fun qm=>
   some ((v4.2&&v9)&&qm))<|
  some ((v4.2&&v9)&&false))<|
 Bi (gb (v4.2&&false) ([]) (RRec_Bytes v4.1)) fun v8=>
 If (v4.2&&false) (
  eT 23 (bA 1 (DV.int .u8)) [1,1,0,2,0,1,3,4,0,0,0,2,0,1,1] fun v9=>
  Bi (kP v8 v9) fun v11=>
  some ((v4.2&&false)&&v11))<|
 some ((v4.2&&false)&&false)
instance:MC (pW) fun r=>bx prog 4 [] (.bool r):=⟨fun hM=>by unfold pW at hM;exact pbz func4 ntmps4 (wz [6,7,17,23])⟩
noncomputable def lB(x0:dA)(x1:List Int):Option Bool :=
 Bi (pW) fun v2=>
 If (!v2) (
  some false)<|
 Bi (nS x0) fun v4=>
 If (!v4.2.2) (
  some false)<|
 Bi (cl 29 [(50000,10001)] (yl v4.1)) fun v6=>
 sm v6 (fun ac4=>
  Ck (eN (x1.length) 0 (if 16<(x1.length:Int)then 16 else(x1.length:Int)))<|
  Bi (sj (List.take (Int.toNat (if 16<(x1.length:Int)then 16 else(x1.length:Int))) x1)) fun v9=>
  If (v9.2 != 0) (
   some false)<|
  fO (E:=Bool) () 52 [] [10,50,51] [10] i2 i2 [] [] m64 (ac4.DW.length:Int) (fun k10 _=>
   Bi (idx ac4.DW (k10:Int)) fun mU=>
   Bi (RRec_Bytes (RRec.mk mU.bo (IntKind.wrap .u64 (k10:Int)) v9.1 1 mU 0)) fun qs=>
   Bi (wV qs) fun qt=>
   Bi (ry (RRec.mk mU.bo (IntKind.wrap .u64 (k10:Int)) v9.1 1 mU 0)) fun xw=>
   Bi (gb (!((xw != 0)||(qt.2 != 0))) (false) (vC (RRec.mk mU.bo (IntKind.wrap .u64 (k10:Int)) v9.1 1 mU 0) qt.1)) fun v21=>
   Bi (gb (!(((xw != 0)||(qt.2 != 0))||(!v21))) (false) (jL qt.1.gM mU)) fun uG=>
   If ((((xw != 0)||(qt.2 != 0))||(!v21))||(!uG)) (
    some (.done false))<|
   nX [] [] (some (.next ()))) fun
   |.next _=>
    some true
   |.done r=>some r) fun aiK=>
  sm aiK (fun aiL=>
   Ck (eN (x1.length) 0 (if 16<(x1.length:Int)then 16 else(x1.length:Int)))<|
   Bi (sj (List.take (Int.toNat (if 16<(x1.length:Int)then 16 else(x1.length:Int))) x1)) fun v9=>
   some false) fun aiM=>
   sm aiM (fun aFh=>
    Ck (eN (x1.length) 0 (if 16<(x1.length:Int)then 16 else(x1.length:Int)))<|
    Bi (sj (List.take (Int.toNat (if 16<(x1.length:Int)then 16 else(x1.length:Int))) x1)) fun v9=>
    some false) fun aiN=>
    sm aiN (fun aFi=>
     Ck (eN (x1.length) 0 (if 16<(x1.length:Int)then 16 else(x1.length:Int)))<|
     Bi (sj (List.take (Int.toNat (if 16<(x1.length:Int)then 16 else(x1.length:Int))) x1)) fun v9=>
     some false) fun aFj=>
     Ck (eN (x1.length) 0 (if 16<(x1.length:Int)then 16 else(x1.length:Int)))<|
     Bi (sj (List.take (Int.toNat (if 16<(x1.length:Int)then 16 else(x1.length:Int))) x1)) fun v9=>
     some false
instance xM{x0 x1}:MC (lB x0 x1) fun r=>bx prog 3 [.agg (KA x0),.L 1 (DV.int .u64) x1] (.bool r):=⟨fun hM=>by unfold lB at hM;exact pb func3 ntmps3⟩
end Go.Proofs.YtpeihknododmlaaGreatDoor
namespace Go.Proofs.YtpeihknododmlaaGreatDoor
open Go.Proofs.Tryz
def fF(v:Int):List Int:=if h:128≤v then(v % 128+128)::fF (v / 128)else [v]
 termination_by v.toNat
 decreasing_by omega
theorem xZ{v:Int}(h:128≤v):fF v=(v % 128+128)::fF (v / 128):=by rw[fF];simp[h]
theorem uO{v:Int}(h:v<128):fF v = [v]:=by rw[fF];simp;omega
theorem Uq(n:Nat):∀v:Int,v<128^(n+1)→(fF v).length≤n+1:=by
 induction n with
 |zero=>intro v hv;rw[uO (by simpa using hv)];simp
 |succ n ih=>
  intro v hv
  by_cases h:128≤v
  ·rw[xZ h]
   have:v / 128<128^(n+1):=by
    rw[Int.ediv_lt_iff_lt_mul (by omega)];rw[Int.pow_succ]at hv;exact hv
   have:=ih _ this;simp;omega
  ·rw[uO (by omega)];simp
theorem gK{v:Int}(h:v<18446744073709551616):(fF v).length≤10:=by
 have:v<128^(9+1):=by
  have:(128:Int)^(9+1)=1180591620717411303424:=by decide
  omega
 exact Uq 9 v this
theorem JA(v:Int):0<(fF v).length:=by
 by_cases h:128≤v
 ·rw[xZ h];simp
 ·rw[uO (by omega)];simp
def GL(v:Int):Int:=if v<0 then 2*(-(v+1))+1 else 2*v
theorem WQ{v:Int}(h:0≤v):v*2=GL v:=by unfold GL;rw[if_neg (by omega)];omega
theorem CQ{v:Int}(h0:-9223372036854775808≤v)(h1:v≤9223372036854775807):0≤GL v∧GL v<18446744073709551616:=by unfold GL;split <;> omega
def vU(v:Int):List Int:=fF (GL v)
def aoK(b:Int):Prop:=0≤b∧b≤255
theorem zR{k:IntKind}{x:Int}(h0:0≤x)(h1:x<2^k.bits):(BitVec.ofInt k.bits x).toNat=x.toNat:=by
 rw[BitVec.toNat_ofInt];rw[Int.emod_eq_of_lt h0 (by exact_mod_cast h1)]
theorem Pa{b:Int}(h:aoK b):jH .and .u8 b 127=b % 128:=by
 have key:∀x:Fin 256,jH .and .u8 ((x.val:Nat):Int) 127=((x.val % 128:Nat):Int):=by decide +kernel
 have:=key ⟨b.toNat,by have:=h.2;omega⟩;simp only at this;rw[Int.toNat_of_nonneg h.1]at this;rw[this];have:=h.1;omega
theorem Sp{a c:Int}{i:Nat}(ha:0≤a)(ha':a<128^i)(hc:0≤c)(hs:a+c*128^i<18446744073709551616):jH .or .u64 a (c*128^i)=a+c*128^i:=by
 have hp:(0:Int)<128^i:=Int.pow_pos (by omega);have hcm:0≤c*128^i:=Int.mul_nonneg hc (by omega);have e64:(2:Int)^IntKind.u64.bits=18446744073709551616:=rfl;have n1:=zR (k:=.u64) ha (by rw[e64];omega);have n2:=zR (k:=.u64) hcm (by rw[e64];omega);unfold jH;simp only[BitVec.toNat_or,n1,n2];obtain⟨A,rfl⟩:=Int.eq_ofNat_of_zero_le ha;obtain⟨C,rfl⟩:=Int.eq_ofNat_of_zero_le hc
 have e1:((C:Int)*128^i)=((C*2^(7*i):Nat):Int):=by
  rw[Nat.pow_mul];simp
 rw[e1,Int.toNat_natCast,Int.toNat_natCast]
 have hA:A<2^(7*i):=by
  rw[Nat.pow_mul];have:(A:Int)<((128^i:Nat):Int):=by simpa using ha'
  exact_mod_cast this
 have hor:A ||| C*2^(7*i)=A+C*2^(7*i):=by
  rw[Nat.or_comm,Nat.mul_comm,←Nat.two_pow_add_eq_or_of_lt hA,Nat.add_comm]
 rw[hor];rw[xI (k:=.u64) ⟨by omega,by rw[e1]at hs;push_cast at hs ⊢;omega⟩]
 push_cast;rfl
theorem Xr{c:Int}{i:Nat}(hi:i≤9)(hc:0≤c)(hs:c*128^i<18446744073709551616):IntKind.u64.wrap (c*2^min ((7:Int)*(i:Int)).toNat IntKind.u64.bits)=c*128^i:=by
 have e:min ((7:Int)*(i:Int)).toNat IntKind.u64.bits=7*i:=by
  have:IntKind.u64.bits=64:=rfl;rw[this];omega
 have e2:(2:Int)^(7*i)=128^i:=by rw[Int.pow_mul];rfl
 rw[e,e2,xI];have hp:(0:Int)<128^i:=Int.pow_pos (by omega);exact⟨Int.mul_nonneg hc (by omega),by omega⟩
theorem Xo(b:Int):b.fdiv (2^min (7:Int).toNat IntKind.u8.bits)=b / 128:=by
 have:(2:Int)^min (7:Int).toNat IntKind.u8.bits=128:=rfl;rw[this,Int.fdiv_eq_ediv_of_nonneg _ (by omega)]
def GO(u:Int):Int:=if u % 2=1 then -(u / 2)-1 else u / 2
def zS(v:Int):Prop:=0≤v∧v<18446744073709551616
theorem ae5{u:Int}(h:zS u):jH .and .u64 u 1=u % 2:=by
 have h0:=h.1;have h1:=h.2;have e64:(2:Int)^IntKind.u64.bits=18446744073709551616:=rfl;have n1:=zR (k:=.u64) h0 (by rw[e64];omega);have n2:=zR (k:=.u64) (x:=1) (by omega) (by rw[e64];omega);unfold jH;simp only[BitVec.toNat_and,n1,n2];have:u.toNat &&& (1:Int).toNat=u.toNat % 2:=Nat.and_one_is_mod _;rw[this,xI (k:=.u64) (by simp only[xU];omega)];omega
theorem aeq(u:Int):u.fdiv (2^min (1:Int).toNat IntKind.u64.bits)=u / 2:=by
 have:(2:Int)^min (1:Int).toNat IntKind.u64.bits=2:=rfl;rw[this,Int.fdiv_eq_ediv_of_nonneg _ (by omega)]
theorem XP{x:Int}(h:0≤x∧x≤9223372036854775807):jH .xor .i64 (if IntKind.i64.signed then -1 else IntKind.i64.max) x = -x-1:=by
 have e64:(2:Int)^IntKind.i64.bits=18446744073709551616:=rfl;have n1:=zR (k:=.i64) h.1 (by rw[e64];omega);have e1:(BitVec.ofInt IntKind.i64.bits (-1)).toNat=2^64-1:=rfl;have es:(if IntKind.i64.signed=true then(-1:Int)else IntKind.i64.max) = -1:=rfl;rw[es];unfold jH;simp only[BitVec.toNat_xor,n1,e1];have hx:(2^64-1) ^^^ x.toNat=2^64-1-x.toNat:=Lib.xor_ones64 x.toNat (by omega);rw[hx];have hc:((2^64-1-x.toNat:Nat):Int)=18446744073709551615-x:=by omega
 rw[hc,IntKind.wrap_i64];omega
theorem abl{v:Int}(h:0≤v):jH .or .u8 (IntKind.wrap .u8 v) 128=v % 128+128:=by
 have key:∀x:Fin 256,jH .or .u8 ((x.val:Nat):Int) 128=((x.val % 128+128:Nat):Int):=by decide +kernel
 have:=key ⟨(v % 256).toNat,by omega⟩;simp only at this;rw[Int.toNat_of_nonneg (by omega)]at this;show jH .or .u8 (v % 256) 128=_;rw[this];omega
theorem abE{x:Int}(h0:0≤x)(h1:x<18446744073709551616):jH .xor .u64 (if IntKind.signed .u64=true then -1 else IntKind.max .u64) x=18446744073709551615-x:=by
 have e64:(2:Int)^IntKind.u64.bits=18446744073709551616:=rfl;have n1:=zR (k:=.u64) h0 (by rw[e64];omega);have es:(if IntKind.signed .u64=true then(-1:Int)else IntKind.max .u64)=18446744073709551615:=rfl;have e1:(BitVec.ofInt IntKind.u64.bits 18446744073709551615).toNat=2^64-1:=rfl;rw[es];unfold jH;simp only[BitVec.toNat_xor,n1,e1];have hx:(2^64-1) ^^^ x.toNat=2^64-1-x.toNat:=Lib.xor_ones64 x.toNat (by omega);rw[hx,xI (k:=.u64) (by simp only[xU];omega)];omega
theorem aew{k:Nat}(h:k≤9):(0:Int)<128^k∧(128:Int)^k≤9223372036854775808:=by
 have:k=0∨k=1∨k=2∨k=3∨k=4∨k=5∨k=6∨k=7∨k=8∨k=9:=by omega
 rcases this with rfl|rfl|rfl|rfl|rfl|rfl|rfl|rfl|rfl|rfl <;> decide
structure UI(v:Int)(s xs:List Int)(k:Nat)(acc u:Int):Prop where
 k9:k≤9
 a0:0≤acc
 a1:acc<128^k
 u0:0≤u
 uk:0<k→0<u
 e:v=acc+u*128^k
 d:xs.drop k=fF u++s
 l:k+(fF u).length=(fF v).length
theorem Mb{v:Int}{s:List Int}(hv:zS v)(hl:s.length≤1000000):yq (fF v++s)=some (v,((fF v).length:Int),0):=by
 have ht:=gK hv.2;unfold yq;refine ca (eI (fun k acc=>k<(fF v).length∧∃u,UI v s (fF v++s) k acc u) (gx (by rw[List.length_append];omega)) ⟨JA v,v,by decide,Int.le_refl _,by decide,hv.1,fun h=>by omega,by simp,rfl,by omega⟩ ?_ ?_)
 ·rintro k acc hk ⟨hkl,u,⟨k9,a0,a1,u0,uk,e,d,l⟩⟩
  have Ek:k<(fF v++s).length:=by omega
  have hp:=aew k9;rw[List.drop_eq_getElem_cons Ek]at d;refine bJ hk (fun b b1 _=>?_);obtain⟨_,rfl⟩:=List.getElem?_eq_some_iff.1 b1;generalize (fF v++s)[k]=b at d ⊢;have w7:IntKind.wrap .i64 (7*(k:Int))=7*(k:Int):=wrap_i64 (by omega) (by omega)
  have u1:k=9→u≤1:=by
   intro h;subst h;have:(128:Int)^9=9223372036854775808:=by decide
   rw[this]at e;have:=hv.2;omega
  have hs0:acc+u*128^k<18446744073709551616:=by rw[←e];exact hv.2
  by_cases hb:128≤u
  ·rw[xZ hb,List.cons_append]at d
   injection d with d1 d2
   subst d1
   have hk9:k<9:=by
    rcases Nat.lt_or_ge k 9 with h|h
    ·exact h
    ·have:=u1 (by omega);omega
   have e3:u*128^k=u % 128*128^k+u / 128*128^(k+1):=by
    rw[Int.pow_succ,Int.mul_comm (128^k) 128,←Int.mul_assoc,←Int.add_mul]
    congr 1;omega
   have e4:0≤u / 128*128^(k+1):=Int.mul_nonneg (by omega) (Int.le_of_lt (Int.pow_pos (by omega)));have e5:0≤u % 128*128^k:=Int.mul_nonneg (by omega) (by omega);have e6:u % 128*128^k≤127*128^k:=Int.mul_le_mul_of_nonneg_right (by omega) (by omega);refine ak (fun h=>?_) (fun _=>?_)
   ·simp only[Bool.and_eq_true,beq_iff_eq]at h
    omega
   rw[w7,Xo,Pa ⟨by omega,by omega⟩];have m1:(u % 128+128) % 128=u % 128:=by omega
   rw[m1,wrap_u64 (n:=u % 128) (by omega) (by omega),Xr k9 (by omega) (by omega),Sp a0 a1 (by omega) (by omega)];refine aK (by omega) (ak (fun h=>?_) (fun _=>ax (ah ⟨?_,u / 128,?_⟩)))
   ·simp only[beq_iff_eq]at h
    omega
   ·rw[xZ hb]at l
    have:=JA (u / 128);simp only[List.length_cons]at l;omega
   ·rw[xZ hb]at l
    simp only[List.length_cons]at l;exact⟨by omega,by omega,by rw[Int.pow_succ];omega,by omega,fun _=>by omega,by rw[e,e3,Int.add_assoc],d2,by omega⟩
  ·rw[uO (v:=u) (by omega),List.cons_append]at d
   injection d with d1 d2
   subst d1;refine ak (fun h=>?_) (fun _=>?_)
   ·simp only[Bool.and_eq_true,beq_iff_eq,decide_eq_true_eq]at h
    have:=u1 (by omega);omega
   have e5:0≤b*128^k:=Int.mul_nonneg (by omega) (by omega);rw[w7,Xo,Pa ⟨by omega,by omega⟩];have m1:b % 128=b:=by omega
   rw[m1,wrap_u64 (n:=b) (by omega) (by omega),Xr k9 (by omega) (by omega),Sp a0 a1 (by omega) (by omega)];refine aK (by omega) (ak (fun _=>ak (fun h=>?_) (fun _=>ah (ah ?_))) (fun h=>?_))
   ·simp only[Bool.and_eq_true,beq_iff_eq,decide_eq_true_eq]at h
    have:=uk (by omega);omega
   ·rw[uO (by omega)]at l
    simp only[List.length_singleton]at l;rw[←e,←l];rfl
   ·simp only[beq_eq_false_iff_ne]at h
    omega
 ·rintro acc ⟨h,_⟩
  rw[Int.toNat_natCast,List.length_append]at h;omega
theorem aeu{v:Int}{o:List Int}(hv:zS v)(hl:o.length≤1000000):zK v o=some (o++fF v):=by
 have ht:=gK hv.2;unfold zK;refine ca (ly (fun s=>zS s.2∧s.1++fF s.2=o++fF v) (fun s=>s.2.toNat) ⟨hv,rfl⟩ (by have:=hv.2;dsimp only;omega) ?_);rintro⟨l,x⟩ ⟨⟨x0,x1⟩,h⟩;dsimp only at x0 x1 h ⊢
 have hlen:l.length+(fF x).length≤1000010:=by
  rw[←List.length_append,h,List.length_append];omega
 refine ak (fun hb=>?_) (fun hb=>ah ?_)
 ·have hb:128≤x:=by simpa using hb
  have e2:Int.fdiv x (2^min (Int.toNat 7) (IntKind.bits .u64))=x / 128:=by
   have:(2:Int)^min (7:Int).toNat IntKind.u64.bits=128:=rfl;rw[this,Int.fdiv_eq_ediv_of_nonneg _ (by omega)]
  rw[abl x0,e2];refine aV (aK (xt (by omega) (by decide)) (ax (ah ⟨⟨⟨by dsimp only;omega,by dsimp only;omega⟩,?_⟩,by dsimp only;omega⟩)));dsimp only;rw[←h,xZ hb,List.append_assoc];rfl
 ·have hb:x<128:=by simpa using hb
  have w:IntKind.wrap .u8 x=x:=(show x % 256=x by omega);refine aV (aK (xt (by dsimp only;omega) (by decide)) (aI (ah ?_)));show l++[IntKind.wrap .u8 x]=o++fF v;rw[w,←h,uO hb]
theorem wG{v:Int}{o:List Int}(hv:zS v)(hl:o.length≤1000000):jM v o=some (o++fF v):=by
 unfold jM;rw[wrap_i64 (n:=(o.length:Int)+10) (by omega) (by omega)];refine ca (aK (by unfold iJ;omega) (aV (aK (Ed (by simp only[List.length_nil];omega) (by decide)) (aA (x:=o++fF v) ?_ (aI (ah rfl))))));unfold cl;rw[List.nil_append];exact aeu hv hl
theorem ae9{v:Int}(h:I6 v):yp v=some (GL v):=by
 obtain⟨h0,h1⟩:=h;have e1:(2:Int)^min (Int.toNat 1) (IntKind.bits .u64)=2:=rfl;unfold yp;rw[e1];refine ca (ak (fun hn=>ah ?_) (fun hn=>ah ?_))
 ·have hn:v<0:=by simpa using hn
  have w1:IntKind.wrap .u64 v=v+18446744073709551616:=by rw[IntKind.wrap_u64];omega
  have w2:IntKind.wrap .u64 (IntKind.wrap .u64 v*2)=2*v+18446744073709551616:=by rw[w1,IntKind.wrap_u64];omega
  rw[w2,abE (by omega) (by omega)];unfold GL;rw[if_pos hn];omega
 ·have hn:0≤v:=by simpa using hn
  rw[wrap_u64 (n:=v) (by omega) (by omega),wrap_u64 (by omega) (by omega)];exact WQ hn
theorem Kq{v:Int}{o:List Int}(hv:I6 v)(hl:o.length≤1000000):tN v o=some (o++vU v):=by
 unfold tN;refine ca (aA (ae9 hv) (aA (x:=o++vU v) ?_ (aI (ah rfl))));unfold cl;exact wG (CQ hv.1 hv.2) hl
theorem TU{v:Int}:GO (GL v)=v:=by
 unfold GL GO
 split <;> split <;> omega
theorem Zl{u:Int}(h:zS u):vE u=some (GO u):=by
 obtain⟨h0,h1⟩:=h;unfold vE;rw[ae5 ⟨h0,h1⟩,aeq,wrap_i64 (n:=u / 2) (by omega) (by omega)];refine ca (ak (fun hn=>ah ?_) (fun hn=>ah ?_))
 ·have hn:u % 2=1:=by simpa using hn
  rw[XP ⟨by omega,by omega⟩];unfold GO;rw[if_pos hn]
 ·have hn:¬u % 2=1:=by simpa using hn
  unfold GO;rw[if_neg hn]
section
variable {v m:Int} {s:List Int}
theorem NX{n:Nat}{xs:List Int}(h:n≤xs.length):nu (n:Int) 0 ⟨xs,0⟩=some (true,⟨xs.drop n,0⟩):=by
 unfold nu;refine ca (ak (fun h=>by cases h) (fun _=>aK ⟨by omega,by dsimp only;omega,Int.le_refl _⟩ (aI (ah ?_))));rw[Int.toNat_natCast]
theorem BQ(hv:zS v)(hm:v≤m)(hl:s.length≤1000000):gQ m ⟨fF v++s,0⟩=some (v,⟨s,0⟩):=by
 have ht:=gK hv.2;unfold gQ;refine ca (aA (x:=true) (by unfold cl;exact ca (aI (ah rfl))) (ak (fun h=>by cases h) (fun _=>aA (Mb hv hl) (cS ?_))));refine ak (fun h=>?_) (fun _=>ax ?_)
 ·simp at h;omega
 ·refine aA (x:=(true,⟨s,0⟩)) ?_ (ak (fun h=>by cases h) (fun _=>aI (ah rfl)))
  unfold cl;have:=NX (n:=(fF v).length) (xs:=fF v++s) (by rw[List.length_append];omega);rw[List.drop_left]at this;exact this
theorem Tx(hv:I6 v)(hl:s.length≤1000000):oH ⟨vU v++s,0⟩=some (v,⟨s,0⟩):=by
 have hz:zS (GL v):=CQ hv.1 hv.2;have ht:=gK hz.2;unfold oH;refine ca (aA (x:=true) (by unfold cl;exact ca (aI (ah rfl))) (ak (fun h=>by cases h) (fun _=>aA (x:=(v,((vU v).length:Int),0)) ?_ ?_)))
 ·unfold Gn
  refine ca (aA (Mb hz hl) (aA (Zl hz) (ah ?_)));rw[TU];rfl
 ·refine aA (x:=(true,⟨s,0⟩)) ?_ (ak (fun h=>by cases h) (fun _=>aI (ah rfl)))
  unfold cl;have:=NX (n:=(vU v).length) (xs:=vU v++s) (by rw[List.length_append];omega);rw[List.drop_left]at this;exact this
theorem Ei(h0:0≤v)(h1:v≤2147483647)(hl:s.length≤1000000):fY ⟨fF v++s,0⟩=some (v,⟨s,0⟩):=by
 unfold fY;refine ca (aA (by unfold cl;exact BQ ⟨h0,by omega⟩ h1 hl) (aI (ah ?_)));dsimp only;rw[wrap_i64 (by omega) (by omega)]
end
theorem zA{x b:Int}(h0:0≤x)(h1:x≤b):kG x b=some true:=by
 unfold kG;rw[decide_eq_true h0,decide_eq_true h1];rfl
theorem YS{e:AEv}(h:Fj e):pX e e.bo=some true:=by
 have b:=h.b;have t0:=h.t0;have t1:=h.t1;have k1:=b.k1;have k11:=b.k11;have al:=b.al;unfold pX;have c1:(e.bo==e.bo)=true:=by simp
 rw[c1,decide_eq_true k1,decide_eq_true k11,decide_eq_true (show(e.bR.length:Int)≤4 by omega)];exact ca (gh rfl (zA t0 t1) (gh rfl (zA b.p0 b.p8) (gh rfl (zA b.n0 b.n1) (gh rfl (zA b.y0 b.y1) (gh rfl (zA b.h0 b.h7) (ah rfl))))))
theorem Mo{e:AEv}{c:VClk}{s:Int}(h:Fj e):ry (RRec.mk e.bo s c 1 e 0)=some 0:=by
 unfold ry;exact ca (cS (ak (fun _=>aA (YS h) (ax (gh rfl (zA h.b.c0 h.b.c8) (ak (fun h=>by cases h) (fun _=>ah rfl))))) (fun h=>by cases h)))
theorem z16:∀a,a<16→(arr (0:Int) [0,0,0,0,0,0,0,0,0,0,0,0,0,0,0,0]) a=0:=by decide
structure Kr(c:Nat→Int)(n:Int):Prop where
 n0:0≤n
 n16:n≤16
 z:∀i:Nat,n≤i→i<16→c i=0
 nz:0<n→c (n-1).toNat≠0
theorem Kr.uniq{c d:Nat→Int}{n m:Int}(h:Kr c n)(k:Kr d m)(e:∀i,i<16→c i=d i):n=m:=by
 have h0:=h.n0;have k0:=k.n0;have h16:=h.n16;have k16:=k.n16;rcases Int.lt_trichotomy n m with q|q|q
 ·have:=k.nz (by omega)
  rw[←e _ (by omega)]at this;exact absurd (h.z (m-1).toNat (by omega) (by omega)) this
 ·exact q
 ·have:=h.nz (by omega)
  rw[e _ (by omega)]at this;exact absurd (k.z (n-1).toNat (by omega) (by omega)) this
theorem Cc(c:VClk):Wp (VClk_length c) (Kr c.lv):=by
 unfold VClk_length;refine cw (fun j s=>0≤s∧s≤(j:Int)∧(∀i:Nat,s≤i→i<j→c.lv i=0)∧(0<s→c.lv (s-1).toNat≠0)) (by decide) ⟨Int.le_refl _,Int.le_refl _,fun i _ h=>absurd h (Nat.not_lt_zero i),fun h=>absurd h (by decide)⟩ ?_ ?_
 ·rintro j s hj ⟨s0,s1,s2,s3⟩
  refine aK ⟨by omega,by omega⟩ (iz (ak (fun h=>ax (ah ⟨by omega,by omega,fun i h1 h2=>by omega,fun _=>?_⟩)) (fun h=>ax (ah ⟨s0,by omega,fun i h1 h2=>?_,s3⟩))))
  ·have e:((j:Int)+1-1).toNat=j:=by omega
   rw[e];rw[Int.toNat_natCast]at h;simpa using h
  ·rcases Nat.lt_or_ge i j with q|q
   ·exact s2 i h1 q
   ·obtain rfl:i=j:=by omega
    rw[Int.toNat_natCast]at h;simpa using h
 ·rintro s ⟨s0,s1,s2,s3⟩
  have e:(Int.toNat 16)=16:=rfl;rw[e]at s1 s2;exact ah ⟨s0,by omega,s2,s3⟩
def rT(c:Nat→Int)(k m:Nat):List Int:=(List.range' k m).flatMap fun i=>fF (c i)
theorem Hv(c:Nat→Int)(k m:Nat):rT c k (m+1)=fF (c k)++rT c (k+1) m:=by
 unfold rT;rw[List.range'_succ,List.flatMap_cons]
theorem UX(c:Nat→Int)(m:Nat):rT c 0 (m+1)=rT c 0 m++fF (c m):=by
 unfold rT;rw[List.range'_1_concat,List.flatMap_append,List.flatMap_cons,List.flatMap_nil,List.append_nil,Nat.zero_add]
theorem yc{c:Nat→Int}(h:∀i,i<16→zS (c i)):∀m k,k+m≤16→(rT c k m).length≤10*m
 |0,k,_=>by simp[rT]
 |m+1,k,hk=>by
  rw[Hv,List.length_append];have:=gK (h k (by omega)).2;have:=yc h m (k+1) (by omega);omega
theorem acS{c:VClk}{o:List Int}{n:Int}(hn:VClk_length c=some n)(h:∀i,i<16→zS (c.lv i))(ho:o.length≤1000):VClk_Bytes_a c o=some (o++[n]++rT c.lv 0 n.toNat):=by
 obtain⟨n',e,hl⟩:=Cc c;rw[hn]at e;obtain rfl:=Option.some.inj e;have n0:=hl.n0;have n16:=hl.n16;have w:IntKind.wrap .u8 n=n:=(show n % 256=n by omega);unfold VClk_Bytes_a;refine ca (aA hn (aK (Ed (by omega) (by decide)) ?_));rw[w];refine aV (aK (xt (by omega) (by decide)) ?_);refine cw (fun j s=>s=o++[n]++rT c.lv 0 j) (by unfold m64;omega) (by simp[rT]) ?_ (fun s hs=>aI (ah hs));rintro j s hj rfl;have RK:=yc h j 0 (by omega);have:(o++[n]++rT c.lv 0 j).length≤2000:=by simp only[List.length_append,List.length_singleton];omega
 refine aK ⟨by omega,by omega⟩ (iz (aA (by unfold cl;exact wG (h _ (by omega)) (by omega)) (ax (ah ?_))));rw[UX,Int.toNat_natCast,List.append_assoc]
theorem acR{c:VClk}{s:List Int}{n:Int}(hl:Kr c.lv n)(h:∀i,i<16→zS (c.lv i))(hs:s.length≤1000):Wp (wS ([n]++(rT c.lv 0 n.toNat++s))) fun r=>r.2.2=0∧0≤r.2.1∧r.2.1.toNat≤([n]++(rT c.lv 0 n.toNat++s)).length∧([n]++(rT c.lv 0 n.toNat++s)).drop r.2.1.toNat=s∧∀i,i<16→r.1.lv i=c.lv i:=by
 have n0:=hl.n0;have n16:=hl.n16;have RK:=yc h n.toNat 0 (by omega);have yM:([n]++(rT c.lv 0 n.toNat++s)).length≤2000:=by simp only[List.length_append,List.length_singleton];omega
 have hx0:((([n]++(rT c.lv 0 n.toNat++s)).length:Int)==0)=false:=by simp;omega
 have TL:idx ([n]++(rT c.lv 0 n.toNat++s)) 0=some n:=rfl;unfold wS;rw[hx0,TL];refine gh rfl rfl (ak (fun h=>?_) (fun _=>aA rfl ?_))
 ·simp at h;omega
 rw[wrap_i64 (n:=n) (by omega) (by omega)];generalize hX:[n]++(rT c.lv 0 n.toNat++s)=X at yM ⊢;refine eI (fun k t=>0≤t.1∧t.1.toNat≤X.length∧X.drop t.1.toNat=rT c.lv k (n.toNat-k)++s∧(∀i,i<k→t.2.lv i=c.lv i)∧∀i,k≤i→i<16→t.2.lv i=0) (by unfold m64;omega) ⟨by dsimp only;decide,by rw[←hX];simp,by rw[←hX];rfl,fun i hi=>by omega,fun i _ hi=>z16 i hi⟩ ?_ ?_
 ·rintro k ⟨p,d⟩ hk ⟨p0,p1,p2,p3,p4⟩
  dsimp only at p0 p1 p2 p3 p4 ⊢;have apj:k<16:=by omega
  obtain⟨m,hm⟩:∃m,n.toNat-k=m+1:=⟨n.toNat-k-1,by omega⟩;have hu:=h k apj;rw[hm,Hv,List.append_assoc]at p2;have aFn:=yc h m (k+1) (by omega);have aFo:=gK hu.2;have hlen:=congrArg List.length p2;rw[List.length_drop,List.length_append]at hlen;refine aK ⟨p0,by omega,Int.le_refl _⟩ ?_;rw[p2];refine aA (Mb hu (by rw[List.length_append];omega)) (ak (fun h=>by cases h) (fun _=>aK ⟨by omega,by omega⟩ (iz (qj (ax (ah ?_))))));dsimp only;rw[wrap_i64 (n:=p+((fF (c.lv k)).length:Int)) (by omega) (by omega),Int.toNat_natCast];have ep:(p+((fF (c.lv k)).length:Int)).toNat=p.toNat+(fF (c.lv k)).length:=by omega
  refine⟨by dsimp only;omega,by dsimp only;omega,?_,fun i hi=>?_,fun i h1 h2=>?_⟩
  ·dsimp only
   rw[ep,←List.drop_drop,p2,List.drop_left]
   congr 2;omega
  ·dsimp only
   by_cases e:i=k
   ·subst e;rw[Ez]
   ·rw[CR e];exact p3 i (by omega)
  ·dsimp only
   rw[CR (by omega)];exact p4 i (by omega) h2
 ·rintro⟨p,d⟩ ⟨p0,p1,p2,p3,p4⟩
  dsimp only at p0 p1 p2 p3 p4 ⊢
  have hc:∀i,i<16→d.lv i=c.lv i:=fun i hi=>by
   rcases Nat.lt_or_ge i n.toNat with q|q
   ·exact p3 i q
   ·rw[p4 i q hi,hl.z i (by omega) hi]
  refine au (Cc d) (fun m hm=>?_);have:=hm.uniq hl hc;subst this;refine ak (fun h=>by simp at h) (fun _=>ah ⟨rfl,p0,p1,?_,hc⟩);dsimp only;rw[p2,Nat.sub_self];rfl
def DJ(e:AEv):List Int:=[e.vI,e.bw,e.pd,e.gN,e.kV,e.bM]
def Yv(e:AEv):List Int:=(DJ e).flatMap fF++(vU e.gD++(fF (e.bR.length:Int)++e.bR.flatMap vU))
def XA(e:AEv)(q:Int)(c:Nat→Int)(n:Int):List Int:=[1]++(fF e.bo++(fF q++([n]++(rT c 0 n.toNat++Yv e))))
theorem Gm{e:AEv}(h:Fj e):∀x∈DJ e,0≤x∧x≤2147483647:=by
 have b:=h.b;have t0:=h.t0;have t1:=h.t1;have k1:=b.k1;have k11:=b.k11;have p0:=b.p0;have p8:=b.p8;have n0:=b.n0;have n1:=b.n1;have y0:=b.y0;have y1:=b.y1;have h0:=b.h0;have h7:=b.h7;intro x hx;simp only[DJ,List.mem_cons,List.not_mem_nil,or_false]at hx;rcases hx with rfl|rfl|rfl|rfl|rfl|rfl <;> omega
theorem yy{f:Int→List Int}{k:Nat}:∀(l:List Int),(∀x∈l,(f x).length≤k)→(l.flatMap f).length≤k*l.length
 |[],_=>by simp
 |x::l,h=>by
  have h1:=h x (by simp);have h2:=yy l (fun y hy=>h y (by simp[hy]));rw[List.flatMap_cons,List.length_append,List.length_cons,Nat.mul_succ];omega
theorem wx{v:Int}(h:I6 v):(vU v).length≤10:=gK (CQ h.1 h.2).2
theorem JR{f:Int→List Int}{l:List Int}{j:Nat}{x:Int}(h:l[j]? = some x):(l.take (j+1)).flatMap f=(l.take j).flatMap f++f x:=by
 rw[←RU h,List.flatMap_append,List.flatMap_cons,List.flatMap_nil,List.append_nil]
theorem take_len{f:Int→List Int}{l:List Int}{j:Nat}(h:∀x∈l,(f x).length≤10):((l.take j).flatMap f).length≤10*l.length:=by
 have:=yy (f:=f) (k:=10) (l.take j) (fun x hx=>h x (List.mem_of_mem_take hx));rw[List.length_take]at this;omega
theorem ab5{e:AEv}(h:Fj e):(Yv e).length≤200:=by
 have h1:=yy (f:=fF) (k:=10) (DJ e) (fun x hx=>gK (by have:=Gm h x hx;omega));have h2:=wx h.b.d;have h3:=gK (v:=(e.bR.length:Int)) (by have:=h.b.al;omega);have h4:=yy (f:=vU) (k:=10) e.bR (fun x hx=>wx (h.b.args x hx));have al:=h.b.al;have:(DJ e).length=6:=rfl;unfold Yv;simp only[List.length_append];omega
section
variable {e:AEv} {q:Int} {c:VClk} {n:Int}
theorem ZB(h:Fj e)(hq:zS q)(hn:VClk_length c=some n)(hc:∀i,i<16→zS (c.lv i)):RRec_Bytes (RRec.mk e.bo q c 1 e 0)=some (XA e q c.lv n):=by
 have b:=h.b;have c0:=b.c0;have c8:=b.c8;have k1:=b.k1;have k11:=b.k11;have al:=b.al;obtain⟨n',e',hl⟩:=Cc c;rw[hn]at e';obtain rfl:=Option.some.inj e';have n0:=hl.n0;have n16:=hl.n16;have RK:=yc hc n.toNat 0 (by omega);have l1:=gK (v:=e.bo) (by omega);have l2:=gK hq.2;have wc:IntKind.wrap .u64 e.bo=e.bo:=wrap_u64 (by omega) (by omega);have wk:IntKind.wrap .i64 e.bw=e.bw:=wrap_i64 (by omega) (by omega);unfold RRec_Bytes;refine ca (aA (Mo h) (ak (fun h=>by cases h) (fun _=>aV ?_)));dsimp only;rw[wc,wk];refine aA (by unfold cl;exact wG ⟨c0,by omega⟩ (by simp)) (aA (by unfold cl;exact wG hq (by simp only[List.length_append,List.length_singleton];omega)) (cS (ak (fun _=>?_) (fun h=>by cases h))));refine aA (by unfold cl;exact acS hn hc (by simp only[List.length_append,List.length_singleton];omega)) ?_;generalize hB:[(1:Int)]++fF e.bo++fF q++[n]++rT c.lv 0 n.toNat=B;have hBl:B.length≤200:=by rw[←hB];simp only[List.length_append,List.length_singleton];omega
 have hnl:(DJ e).length=6:=rfl;refine cw (fun j s=>s=B++((DJ e).take j).flatMap fF) (by decide) (by simp) ?_ ?_
 ·rintro j s hj rfl
  have tl:=take_len (f:=fF) (l:=DJ e) (j:=j) (fun x hx=>gK (by have:=Gm h x hx;omega));refine bJ (xs:=DJ e) (by rw[hnl];exact hj) (fun v v1 v2=>?_);obtain⟨a0,a1⟩:=Gm h v v2;rw[wrap_u64 (n:=v) a0 (by omega)];refine aV (qj (aA (by unfold cl;exact wG ⟨a0,by omega⟩ (by rw[List.length_append];omega)) (ax (ah ?_))));rw[JR v1,List.append_assoc]
 ·rintro s hs
  have e6:(DJ e).take (Int.toNat 6)=DJ e:=rfl;rw[e6]at hs;subst hs;have tl:=yy (f:=fF) (k:=10) (DJ e) (fun x hx=>gK (by have:=Gm h x hx;omega));have l3:=wx b.d;have l4:=gK (v:=(e.bR.length:Int)) (by omega);rw[wrap_u64 (n:=(e.bR.length:Int)) (by omega) (by omega)];refine aA (by unfold cl;exact Kq b.d (by rw[List.length_append];omega)) (aA (by unfold cl;exact wG ⟨by omega,by omega⟩ (by rw[List.length_append,List.length_append];omega)) ?_);generalize hC:B++(DJ e).flatMap fF++vU e.gD++fF (e.bR.length:Int)=C;have hCl:C.length≤400:=by rw[←hC];simp only[List.length_append];omega
  refine cw (fun j s=>s=C++(e.bR.take j).flatMap vU) (gx (by omega)) (by simp) ?_ ?_
  ·rintro j s hj rfl
   have tl:=take_len (f:=vU) (l:=e.bR) (j:=j) (fun x hx=>wx (b.args x hx));refine bJ hj (fun v v1 v2=>aA (by unfold cl;exact Kq (b.args v v2) (by rw[List.length_append];omega)) (ax (ah ?_)));rw[JR v1,List.append_assoc]
  ·rintro s hs
   rw[Int.toNat_natCast,List.take_length]at hs;refine ax (ah ?_);rw[hs,←hC,←hB];unfold XA Yv;simp only[List.append_assoc]
theorem Vy{x:Int}(h:Fj e)(hx:x=e.bo):oZ x ⟨Yv e,0⟩=some (e,⟨[],0⟩):=by
 have b:=h.b;have t0:=h.t0;have t1:=h.t1;have k1:=b.k1;have k11:=b.k11;have p0:=b.p0;have p8:=b.p8;have n0:=b.n0;have n1:=b.n1;have y0:=b.y0;have y1:=b.y1;have h0:=b.h0;have h7:=b.h7;have al:=b.al;have l1:=gK (v:=e.vI) (by omega);have l2:=gK (v:=e.bw) (by omega);have l3:=gK (v:=e.pd) (by omega);have l4:=gK (v:=e.gN) (by omega);have l5:=gK (v:=e.kV) (by omega);have l6:=gK (v:=e.bM) (by omega);have l7:=wx b.d;have l8:=gK (v:=(e.bR.length:Int)) (by omega);have l9:=yy (f:=vU) (k:=10) e.bR (fun x hx=>wx (b.args x hx))
 have eB:Yv e=fF e.vI++(fF e.bw++(fF e.pd++(fF e.gN++(fF e.kV++(fF e.bM++(vU e.gD++(fF (e.bR.length:Int)++e.bR.flatMap vU))))))):=by
  unfold Yv DJ;simp only[List.flatMap_cons,List.flatMap_nil,List.append_assoc,List.append_nil,List.nil_append]
 have w8:IntKind.wrap .u8 e.bw=e.bw:=(show e.bw % 256=e.bw by omega);rw[eB];unfold oZ;refine ca ?_;refine aA (by unfold cl;exact Ei t0 (by omega) (by simp only[List.length_append];omega)) ?_;refine aA (by unfold cl;exact BQ ⟨by omega,by omega⟩ (by omega) (by simp only[List.length_append];omega)) ?_;refine aA (by unfold cl;exact Ei p0 (by omega) (by simp only[List.length_append];omega)) ?_;refine aA (by unfold cl;exact Ei n0 (by omega) (by simp only[List.length_append];omega)) ?_;refine aA (by unfold cl;exact Ei y0 (by omega) (by simp only[List.length_append];omega)) ?_;refine aA (by unfold cl;exact Ei h0 (by omega) (by simp only[List.length_append];omega)) ?_;refine aA (by unfold cl;exact Tx b.d (by simp only[List.length_append];omega)) ?_;refine aA (by unfold cl;exact BQ ⟨by omega,by omega⟩ (by omega) (by omega)) ?_;refine Wp.fLu (fun j s=>s.1=e.bR.take j∧s.2=⟨(e.bR.drop j).flatMap vU,0⟩) (by dsimp only;omega) ⟨rfl,rfl⟩ ?_ ?_
 ·rintro j ⟨s,r⟩ hj ⟨s1,s2⟩
  dsimp only at hj s1 s2 ⊢;subst s2;have Nl:j<e.bR.length:=by omega
  have hd:e.bR.drop j=e.bR[j]::e.bR.drop (j+1):=List.drop_eq_getElem_cons Nl;have Ba:s.length≤4:=by rw[s1,List.length_take];omega
  have Qf:=yy (f:=vU) (k:=10) (e.bR.drop (j+1)) (fun x hx=>wx (b.args x (List.mem_of_mem_drop hx)));rw[List.length_drop]at Qf;rw[hd,List.flatMap_cons];refine aA (by unfold cl;exact Tx (b.args _ (List.getElem_mem Nl)) (by omega)) (aV (aK (xt (by omega) (by decide)) (ax (ah ⟨cpI s1 (List.getElem?_eq_getElem Nl),rfl⟩))))
 ·rintro⟨s,r⟩ ⟨s1,s2⟩
  dsimp only at s1 s2 ⊢;rw[Int.toNat_natCast]at s1 s2;rw[List.take_length]at s1;rw[List.drop_length]at s2;refine cR (aI (ah ?_));rw[s1,s2,w8,hx];rfl
theorem Ty{l:List Int}(h:l.length≤1000000):sr l=some ⟨l,0⟩:=by
 unfold sr;exact ca (aV (aK (Ed (by simp only[List.length_nil];omega) (by decide)) (cR (aI (ah rfl)))))
theorem acE(h:Fj e)(hq:zS q)(hl:Kr c.lv n)(hc:∀i,i<16→zS (c.lv i)):Wp (wV (XA e q c.lv n)) fun r=>r.2=0∧∃d:VClk,r.1=RRec.mk e.bo q d 1 e 0∧∀i,i<16→d.lv i=c.lv i:=by
 have b:=h.b;have c0:=b.c0;have c8:=b.c8;have n0:=hl.n0;have n16:=hl.n16;have RK:=yc hc n.toNat 0 (by omega);have l1:=gK (v:=e.bo) (by omega);have l2:=gK hq.2;have l3:=ab5 h;have hRl:([n]++(rT c.lv 0 n.toNat++Yv e)).length≤500:=by simp only[List.length_append,List.length_singleton];omega
 have wi:IntKind.wrap .i64 e.bo=e.bo:=wrap_i64 (by omega) (by omega);unfold wV;generalize hX:XA e q c.lv n=X;have hX':X=([1]++fF e.bo++fF q)++([n]++(rT c.lv 0 n.toNat++Yv e)):=by rw[←hX];unfold XA;simp only[List.append_assoc]
 have aiO:=acR hl hc (s:=Yv e) (by omega);generalize hR:[n]++(rT c.lv 0 n.toNat++Yv e)=R at hRl hX' aiO;have hX2:X=1::(fF e.bo++(fF q++R)):=by rw[hX'];simp only[List.append_assoc,List.cons_append,List.nil_append]
 have hXl:X.length=1+(fF e.bo).length+(fF q).length+R.length:=by rw[hX'];simp only[List.length_append,List.length_singleton]
 refine aA (by unfold cl;exact Ty (by omega)) ?_;refine aA (x:=(1,⟨fF e.bo++(fF q++R),0⟩)) ?_ ?_
 ·unfold cl sE
  rw[hX2];refine ca (aA (x:=true) (by unfold cl;exact ca (aI (ah rfl))) (ak (fun h=>by cases h) (fun _=>ak (fun h=>?_) (fun _=>aA rfl (aK ⟨by decide,by simp;omega,Int.le_refl _⟩ (aI (ah rfl)))))));simp at h;omega
 refine aA (by unfold cl;exact BQ ⟨c0,by omega⟩ c8 (by rw[List.length_append];omega)) ?_;refine aA (by unfold cl;exact BQ hq (by have:=hq.2;omega) (by omega)) ?_;refine aA (x:=0) (by unfold cl;exact ca (aI (ah rfl))) (ak (fun h=>by cases h) (fun _=>cS (ak (fun _=>?_) (fun h=>by cases h))));refine aA (x:=(R.length:Int)) (by unfold cl;exact ca (aI (ah rfl))) ?_;have wl:IntKind.wrap .i64 ((X.length:Int)-(R.length:Int))=(X.length:Int)-(R.length:Int):=wrap_i64 (by omega) (by omega)
 have hd:X.drop ((X.length:Int)-(R.length:Int)).toNat=R:=by
  have:((X.length:Int)-(R.length:Int)).toNat=([1]++fF e.bo++fF q).length:=by
   simp only[List.length_append,List.length_singleton];omega
  rw[this,hX',List.drop_left]
 dsimp only;rw[wl,hd,wi];refine aK ⟨by omega,by omega,Int.le_refl _⟩ (au aiO ?_);rintro⟨d,p,er⟩ ⟨r1,r2,r3,r4,r5⟩;dsimp only at r1 r2 r3 r4 r5 ⊢;subst r1;refine ak (fun h=>by cases h) (fun _=>aK ⟨r2,by omega,Int.le_refl _⟩ ?_);rw[r4];refine aA (by unfold cl;exact Ty (by omega)) (aA (by unfold cl;exact Vy h rfl) (ax ?_));refine aA (x:=0) (by unfold cl tM;exact ca (aA (x:=0) (by unfold cl;exact ca (aI (ah rfl))) (ak (fun _=>aI (ah rfl)) (fun h=>by cases h)))) ?_;dsimp only;rw[wi];exact gh rfl (Mo h) (ak (fun h=>by cases h) (fun _=>ah ⟨rfl,d,rfl,r5⟩))
theorem aeZ{l:List Int}(h:l.length≤1000):jK l l=some true:=by
 unfold jK;refine ca (ak (fun h=>by simp at h) (fun _=>eI (fun _ _=>True) (gx (by omega)) trivial ?_ (fun _ _=>ah rfl)));intro j _ hj _;refine bJ hj (fun x x1 _=>bJ hj (fun y y1 _=>ak (fun h=>?_) (fun _=>ax (ah trivial))));rw[x1]at y1;obtain rfl:=Option.some.inj y1;simp at h
theorem Zz{d:VClk}(h:Fj e)(hd:∀i,i<16→d.lv i=c.lv i):vC (RRec.mk e.bo q c 1 e 0) (RRec.mk e.bo q d 1 e 0)=some true:=by
 have al:=h.b.al;unfold vC
 have apk:qC c d=some 1:=by
  unfold qC;refine ca (ak (fun _=>ah rfl) (fun h=>?_));rw[hd 0 (by decide),hd 1 (by decide),hd 2 (by decide),hd 3 (by decide),hd 4 (by decide),hd 5 (by decide),hd 6 (by decide),hd 7 (by decide),hd 8 (by decide),hd 9 (by decide),hd 10 (by decide),hd 11 (by decide),hd 12 (by decide),hd 13 (by decide),hd 14 (by decide),hd 15 (by decide)]at h;simp at h
 have hev:nr e e=some true:=by
  unfold nr;exact ca (gh (by simp) (aeZ (by omega)) (ah (by simp)))
 exact ca (gh (by simp) apk (gh (by simp) hev (ah (by simp))))
theorem acD(h:Fj e):jL e e=some true:=by
 have al:=h.b.al;unfold jL;refine ca (ak (fun h=>by simp at h) (fun _=>eI (fun _ _=>True) (gx (by omega)) trivial ?_ (fun _ _=>ah rfl)));intro j _ hj _;refine bJ hj (fun x x1 _=>bJ hj (fun y y1 _=>ak (fun h=>?_) (fun _=>ax (ah trivial))));rw[x1]at y1;obtain rfl:=Option.some.inj y1;simp at h
end
theorem afh{l:List Int}(hl:l.length≤16)(h:∀x∈l,zS x):Wp (sj l) fun r=>r.2=0∧∀i,i<16→zS (r.1.lv i):=by
 unfold sj;refine ak (fun h=>by have:=of_decide_eq_true h;omega) (fun _=>iz (qj (ah ⟨rfl,fun i hi=>?_⟩)));dsimp only;unfold Vc;rw[if_pos ⟨Nat.zero_le _,by omega⟩,Nat.sub_zero];cases hx:l[i]? with
 |none=>rw[Option.getD_none,z16 i hi];exact⟨by decide,by decide⟩
 |some x=>exact h x (List.mem_of_getElem? hx)
theorem aco:pW=some true:=by kernel_rfl
theorem Jb{w:dA}{l:List Int}(hw:Ma w)(hl:∀x∈l,zS x):lB w l=some true:=by
 unfold lB;refine ca (aA aco (ak (fun h=>by cases h) (fun _=>au (acH hw) ?_)));rintro⟨I,x,b⟩ ⟨hI,hb⟩;dsimp only at hI hb ⊢;subst hb;refine ak (fun h=>by cases h) (fun _=>au (aQ (afe hI)) ?_);rintro _ ⟨r,rfl,hev,hlen⟩;refine CP (fun q hq=>?_) (fun q hq=>by cases hq);cases hq;refine aK ⟨by decide,by split <;> omega,by split <;> omega⟩ ?_
 have Nr:(List.take (Int.toNat (if 16<(l.length:Int)then 16 else(l.length:Int))) l).length≤16:=by
  rw[List.length_take];split <;> omega
 refine au (afh Nr (fun x hx=>hl x (List.mem_of_mem_take hx))) ?_;rintro⟨c,er⟩ ⟨rfl,hc⟩;refine ak (fun h=>by cases h) (fun _=>?_);refine eI (fun _ _=>True) (gx (by omega)) trivial ?_ (fun _ _=>ah rfl);intro k _ hk _;refine bJ hk (fun e _ em=>?_);have he:=hev e em;obtain⟨n,hn,hlo⟩:=Cc c;have hq:zS (k:Int):=⟨by omega,by omega⟩;dsimp only;rw[wrap_u64 (n:=(k:Int)) (by omega) (by omega)];refine aA (ZB he hq hn hc) (au (acE he hq hlo hc) ?_);rintro⟨y,er⟩ ⟨rfl,d,rfl,hd⟩;refine aA (Mo he) (gh rfl (Zz he hd) (gh rfl (acD he) (ak (fun h=>by cases h) (fun _=>ax (ah trivial)))))
end Go.Proofs.YtpeihknododmlaaGreatDoor
