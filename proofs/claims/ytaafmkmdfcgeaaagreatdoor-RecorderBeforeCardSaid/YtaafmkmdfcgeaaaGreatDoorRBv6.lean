/- Part 6 of what the claim leans on. -/
import Derived.Test.YtaafmkmdfcgeaaaGreatDoorRBv5
set_option maxRecDepth 100000
set_option linter.unusedVariables false
set_option linter.unusedSimpArgs false
set_option maxHeartbeats 4000000
noncomputable section
namespace Go.Proofs.YtaafmkmdfcgeaaaGreatDoor
open Go.Proofs.Tryz
structure IOk(N:Nat)(x:aC):Prop where
 op0:1<=x.cZ
 op1:x.cZ<=34
 a0:-1<=x.gA
 a1:x.gA<=1000000
 b0:-1<=x.gB
 b1:x.gB<=1000000
 n0:0<=x.gN
 n1:x.gN<=8
 snd:x.cZ=30->0<=x.gA∧x.gA<N∧x.gB<=6
 aft:x.cZ=31->x.gB<=6
def TOk(L:Nat)(x:aC):Prop:=∀t:Int,rZ x=some t->0<=t∧t<=L
def CI(N:Nat)(l:List aC):Prop:=∀x∈l,IOk N x∧TOk l.length x
theorem TOk.mono{L M:Nat}{x:aC}(h:TOk L x)(k:L<=M):TOk M x:=λt e=>by have:=h t e;omega
theorem CI.nil{N:Nat}:CI N []:=λx h=>AV
theorem CI.snoc{N:Nat}{l:List aC}{x:aC}(h:CI N l)(a:IOk N x)(b:TOk (l.length+1) x):CI N (l++[x]):=by
 intro y hy;rw[List.length_append,List.length_singleton];rcases List.mem_append.1 hy with hy|hy
 .exact⟨(h y hy).1,(h y hy).2.mono ah⟩
 simp_all
theorem mem_set{α:Type}{l:List α}{i:Nat}{v x:α}(h:x∈l.set i v):x∈l∨x=v:=List.mem_or_eq_of_mem_set h
theorem CI.set{N:Nat}{l:List aC}{i:Nat}{x:aC}(h:CI N l)(a:IOk N x)(b:TOk l.length x):CI N (l.set i x):=by
 intro y hy;rw[List.length_set];rcases mem_set hy with hy|rfl
 .exact h y hy
 simp_all
structure Cr(N:Nat)(c r:aA)(m:Nat):Prop where
 eq:r = { c with cM:=r.cM }
 ci:CI N r.cM
 ge:c.cM.length<=r.cM.length
 le:r.cM.length<=c.cM.length+m
 pre:∀(j:Nat),j<c.cM.length->r.cM[j]? = c.cM[j]?
theorem Cr.refl{N:Nat}{c:aA}(h:CI N c.cM):Cr N c c 0:=⟨rfl,h,Nat.le_refl _,Nat.le_refl _,λ_ _=>rfl⟩
theorem Cr.trans{N:Nat}{a b c:aA}{m n:Nat}(h:Cr N a b m)(k:Cr N b c n):Cr N a c (m+n):=by
 have h1:=h.le;have h2:=k.le;have h3:=h.ge;have h4:=k.ge;exact⟨by have e1:=k.eq;have e2:=h.eq;rw[e1,e2],k.ci,ah,ah,λj hj=>by rw[k.pre j ah,h.pre j hj]⟩
theorem Cr.mono{N:Nat}{a b:aA}{m n:Nat}(h:Cr N a b m)(k:m<=n):Cr N a b n:=⟨h.eq,h.ci,h.ge,by have:=h.le;omega,h.pre⟩
structure SCm(f:bu)(c:aA):Prop where
 fl:c.fT=f
 hl:c.cY.length=f.aG.length
 h6:∀l∈c.cY,l.length<=6
 akp:0<=c.kS
 ako:c.kS<f.aG.length
 v:c.ir.length<=1000
 t:c.cK.length<=1000
 g:c.dN.length<=1000
 p:c.eM.length<=1000
theorem Cr.WN{f:bu}{N:Nat}{c r:aA}{m:Nat}(h:Cr N c r m)(k:SCm f c):SCm f r:=by
 rw[h.eq];exact⟨k.fl,k.hl,k.h6,k.akp,k.ako,k.v,k.t,k.g,k.p⟩
theorem XB{N:Nat}{x:aC}{c:aA}(hc:CI N c.cM)(hl:c.cM.length<=100000)(a:IOk N x)(b:TOk (c.cM.length+1) x):Wp (cj x c) λq=>q.1=(c.cM.length:Int)∧q.2.cM=c.cM++[x]∧Cr N c q.2 1:=by
 refine aX (aK (yk ah aV) (aL (aj ⟨?_,rfl,rfl,hc.snoc a b,?_,?_,?_⟩)))
 .rw[List.length_append,List.length_singleton,wrap_i64 ah ah];omega
 .simp
 .simp
 .intro j hj;rw[List.getElem?_append_left hj]
theorem Eh{L:Nat}{x:aC}(h:x.cZ≠27∧x.cZ≠28∧x.cZ≠32∧x.cZ≠33):TOk L x:=by
 intro t e;unfold rZ at e
 simp_all
theorem wu{l:List ByteArray}{x:ByteArray}(hl:l.length<=1000):Wp (ep x l) λr=>-1<=r∧r<l.length∧(x∈l->0<=r):=by
 refine eS (λj _=>∀(k:Nat) (a:ByteArray),k<j->l[k]? = some a->a≠x) nV (λk a h=>ah) ?_ ?_
 .intro j _ hj hI
  refine bO hj (λa a1 a2=>?_);rw[Af];refine aq (λhb=>aL (aj ?_)) (λhb=>ay (aj ?_))
  .exact aj ⟨ah,hj,λ_=>ah⟩
  .intro k b hk je
   rcases Nat.lt_or_ge k j with h|h
   .exact hI k b h je
   .obtain rfl:k=j:=by omega
    rw[a1]at je;obtain rfl:=Option.some.inj je;exact λe=>of_decide_eq_false hb e.symm
 .intro _ hI
  refine aL (aj ⟨ah,ah,λha=>?_⟩);obtain⟨k,hk,e⟩:=List.getElem_of_mem ha
  simp_all
theorem DQ{l:List ByteArray}{x:ByteArray}(hl:l.length<=1000):Wp (eT l x) λr=>-1<=r∧r<l.length∧(x∈l->0<=r):=by
 refine(Rd hl).imp ?_
 grind
section
variable {N:Nat} {f:bu} {c:aA}
theorem KV{o a n:Int}(h1:1<=o)(h2:o<=34)(h3:o≠30∧o≠31)(ha:-1<=a∧a<=1000000)(hn:0<=n∧n<=8):IOk N ⟨o,a,0,n⟩:=⟨h1,h2,ha.1,ha.2,show(-1:Int)<=0 by decide,show(0:Int)<=1000000 by decide,hn.1,hn.2,λe=>absurd e h3.1,λe=>absurd e h3.2⟩
theorem yO{x:aC}{t:Nat}{l l2:Rn}(hc:CI N c.cM)(hl:c.cM.length<=100000)(a:IOk N x)(b:TOk (c.cM.length+1) x):Wp (Bi (cl t l (cj x c)) λv=>rX l2 (some v.2)) λr=>Cr N c r 1 :=
 av (aW (XB hc hl a b)) (λ_ h=>aL (aj h.2.2))
theorem ahl{x:ByteArray}(hs:SCm f c)(hc:CI N c.cM)(hl:c.cM.length<=100000):Wp (sU x c) λr=>Cr N c r 1:=by
 have:=hs.p;have:=hs.v;have:=hs.g;refine av (DQ hs.p) ?_;rintro v ⟨v1,v2,_⟩;refine aq (λ_=>yO hc hl (KV aV aV aV ah aV) (Eh aR)) (λ_=>?_);refine av (aW (wu hs.v)) ?_;rintro v ⟨v1,v2,_⟩;refine aq (λ_=>yO hc hl (KV aV aV aV ah aV) (Eh aR)) (λ_=>?_);refine av (aW (wu hs.g)) ?_;rintro v ⟨v1,v2,_⟩;exact yO hc hl (KV aV aV aV ah aV) (Eh aR)
theorem ac5{sf:List DV->aA->Option aA}{C:SN}{t u:Bool}{op n:Int}{s:ByteArray}{k m:Nat}{l:List DV}(sh:Sh C t op s n u k)(hs:SCm f c)(hl:c.cM.length+m<=100000)(h:Wp (sf l c) λr=>Cr N c r m):Wp (rO sf ⟨op,s,n,l⟩ c) λr=>Cr N c r (m+1):=by
 have ho:=sh.op;refine av (aW h) (λr hr=>?_);have hr1:=hr.le;have Fx:=hr.WN hs;have one:∀{o:Option aA},Wp o (λq=>Cr N r q 1)->Wp o (λq=>Cr N c q (m+1)):=λh=>h.imp λq k=>hr.trans k
 have hn:op=1->0<=n∧n<=8:=by
  cases sh <;> omega
 refine aq (λhb=>one (yO hr.ci ah (KV aV aV aV ah (hn eJ)) (Eh aR))) (λND=>?_);refine aq (λhb=>one (yO hr.ci ah (KV aV aV aV ah aV) (Eh aR))) (λAp=>?_);refine aq (λhb=>one (yO hr.ci ah (KV aV aV aV ah aV) (Eh aR))) (λGH=>?_);refine aq (λhb=>one (yO hr.ci ah (KV aV aV aV ah aV) (Eh aR))) (λHJ=>?_);refine aq (λhb=>one (av (aW (ahl Fx hr.ci ah)) (λq hq=>aL (aj hq)))) (λYD=>?_)
 have k1:∀b,Wp (jj ⟨op,s,n,l⟩ r b) (λq=>Cr N c q (m+1)):=by
  intro b;refine one (aq (λ_=>?_) (λ_=>?_))
  .have:=Fx.t
   refine av (aW (wu Fx.t)) ?_;rintro v ⟨v1,v2,_⟩;exact yO hr.ci ah (KV ho.1 bB bB ah aV) (Eh bB)
  .exact yO hr.ci ah (KV ho.1 bB bB aV aV) (Eh bB)
 exact cX (aq (λ_=>ay (k1 _)) (λ_=>aq (λ_=>ay (k1 _)) (λ_=>ay (k1 _))))
theorem ac3{C:SN}:∀(d fu:Nat) {l:List DV} {c:aA},d<fu->d<=6->(∀e∈l,∃t,WE C Ei d t e)->l.length<=3->SCm f c->CI N c.cM->c.cM.length+l.length*3^d<=90000->Wp (kU fu l c) λr=>Cr N c r (l.length*3^d):=by
 intro d
 induction d with
 |zero=>
  intro fu l c hf hd he hl hs hc Em;obtain⟨g,rfl⟩:∃g,fu=g+1:=⟨fu-1,ah⟩
  have:l = []:=by
   cases l with
   |nil=>rfl
   |cons a t=>obtain⟨_,h⟩:=he a aR;cases h
  subst this;refine cC (λ_ s=>aA.mk s.1 s.2.1 s.2.2.1 s.2.2.2.1 s.2.2.2.2.1 s.2.2.2.2.2.1 s.2.2.2.2.2.2.1 s.2.2.2.2.2.2.2=c) aR rfl (λj _ hj _=>DE) (λs h=>aL (aj ?_));rw[h];exact(Cr.refl hc).mono aR
 |succ d ih=>
  intro fu l c hf hd he hl hs hc Em;obtain⟨g,rfl⟩:∃g,fu=g+1:=⟨fu-1,ah⟩;have p2:3^d<=243:=Nat.pow_le_pow_right (n:=3) ah (show d<=5 by omega);have p1:1<=3^d:=Nat.one_le_pow _ _ ah;refine cC (λj s=>Cr N c (aA.mk s.1 s.2.1 s.2.2.1 s.2.2.2.1 s.2.2.2.2.1 s.2.2.2.2.2.1 s.2.2.2.2.2.2.1 s.2.2.2.2.2.2.2) (j*3^(d+1))) gx ((Cr.refl hc).mono aR) ?_ (λs h=>aL (aj eJ));intro j s hj hI;refine bO hj (λx x1 x2=>?_);obtain⟨t,hx⟩:=he x x2;obtain⟨sh,Tl,ha⟩:=hx;have hlk:=sh.c2;rw[<-Tl]at hlk;refine aF (CP _) ?_;generalize (aA.mk s.1 s.2.1 s.2.2.1 s.2.2.2.1 s.2.2.2.2.1 s.2.2.2.2.2.1 s.2.2.2.2.2.2.1 s.2.2.2.2.2.2.2)=q at hI |-;have hq:=hI.le;have hj4:(j+1)*3^(d+1)<=l.length*3^(d+1):=Nat.mul_le_mul_right _ ah;rw[Nat.add_mul,Nat.one_mul]at hj4;refine av (P:=λr=>Cr N q r (2*3^d+1)) (aW (ac5 (m:=2*3^d) sh (hI.WN hs) ah ?_)) (λr hr=>ay (aj ?_))
  .refine(ih g ah ah (λe he=>⟨_,ha e he⟩) ah (hI.WN hs) hI.ci ?_).imp (λr hr=>hr.mono ?_)
   .have:=Nat.mul_le_mul_right (3^d) hlk;omega
   .exact Nat.mul_le_mul_right _ hlk
  .refine(hI.trans hr).mono ?_
   rw[Nat.add_mul];omega
end
section
variable {N:Nat} {f:bu} {c:aA}
theorem Cr.patch{q:aA}{m i:Nat}{y:aC}(h:Cr N c q m)(hi:c.cM.length<=i)(a:IOk N y)(b:TOk q.cM.length y):Cr N c { q with cM:=q.cM.set i y } m:=by
 refine⟨by have:=h.eq;rw[this],h.ci.set a b,by rw[List.length_set];exact h.ge,by rw[List.length_set];exact h.le,λj hj=>?_⟩;rw[List.getElem?_set_ne ah];exact h.pre j hj
theorem Km{x:aC}{t:Nat}{l:Rn}{β:Type}{k:Int×aA->Option β}{Q:β->Prop}(hc:CI N c.cM)(hl:c.cM.length<=100000)(a:IOk N x)(b:TOk (c.cM.length+1) x)
  (g:∀r:aA,Cr N c r 1->r.cM[c.cM.length]? = some x->r.cM.length=c.cM.length+1->Wp (k ((c.cM.length:Int),r)) Q):Wp (Bi (cl t l (cj x c)) k) Q:=by
 refine av (aW (XB hc hl a b)) ?_
 simp_all
theorem adk{s:bo}(n3:f.aG.length<=1000)(hn:∃x∈f.aG,x.bx=s.bx):Wp (fB f.aG s) λr=>0<=r∧r<f.aG.length:=by
 refine eS (λj _=>∀(k:Nat) (a:aO),k<j->f.aG[k]? = some a->a.bx≠s.bx) nV (λk a h=>ah) ?_ ?_
 .intro j _ hj hI
  refine bO hj (λa a1 a2=>?_);refine mC (aW (aL (aj ?_)));rw[Af];refine aq (λhb=>aL (aj ?_)) (λhb=>ay (aj ?_))
  .exact aj ⟨ah,hj⟩
  .intro k b hk je
   rcases Nat.lt_or_ge k j with h|h
   .exact hI k b h je
   .obtain rfl:k=j:=by omega
    simp_all
 .intro _ hI
  obtain⟨x,hx,e⟩:=hn;obtain⟨k,hk,rfl⟩:=List.getElem_of_mem hx
  simp_all
def ak8(N:Nat)(f:bu)(B:Nat->List DV->Prop)(sf:List DV->aA->Option aA):Prop:=∀(a:Nat) (l:List DV) (c:aA),B a l->a<=12->SCm f c->CI N c.cM->c.cM.length+2200*a<=60000->Wp (sf l c) λr=>Cr N c r (2200*a)
theorem JI{B:Nat->List DV->Prop}{sf:List DV->aA->Option aA}(hB:ak8 N f B sf){a:Nat}{l:List DV}(hl:B a l)(ha:a<=12)(hs:SCm f c)(hc:CI N c.cM)(Em:c.cM.length+2200*a+1<=60000) :
  Wp (km sf l c) λq=>Cr N c q.2 (2200*a+1)∧0<=q.1∧q.1<=q.2.cM.length:=by
 refine aq (λ_=>aL (aj ⟨(Cr.refl hc).mono ah,ah,Int.le_refl _⟩)) (λ_=>?_);refine Km hc ah (KV aV aV aV aV aV) (λt e=>Nr) (λr hr hx hrl=>?_);refine av (aW (hB a l r hl ha (hr.WN hs) hr.ci ah)) (λq hq=>?_);have g1:=hq.ge;have g2:=hq.le;have hx2:q.cM[c.cM.length]? = some ⟨27,0,0,0⟩:=by rw[hq.pre _ ah];exact hx
 refine aF (fW _ _ |>.trans hx2) (aX (aL (aj ?_)));dsimp only;refine⟨((hr.trans hq).patch (Nat.le_refl _) ⟨aR,aR,aR,bB,aR,aR,aR,aR,λe=>ED,λe=>ED⟩ (λt e=>?_)).mono ah,ah,Np⟩;unfold rZ at e;simp at e;omega
theorem agU{C:SN}{B:Nat->List DV->Prop}{sf:List DV->aA->Option aA}(hB:ak8 f.aG.length f B sf)(hN:f.aG.length<=1000)(hnm:∀i,i<C.gw.length->∃x∈f.aG,x.bx=cn i){k:Int}{n h:ByteArray}{t:Bool}{m a b:Nat}{p q:Bool}{l s z:List DV}(sh:Ss C k n h t m p q)(hl:l.length=m)(he:∀e∈l,WE C Ei 6 t e)(h1:B a s)(h2:B b z)(hab:1+a+b<=12)(hs:SCm f c)(hc:CI f.aG.length c.cM)(Em:c.cM.length+2200*(1+a+b)<=60000) :
  Wp (kj sf ⟨k,n,h,l,s,z⟩ c) λr=>Cr f.aG.length c r (2200*(1+a+b)):=by
 have m3:=sh.c3;unfold kj;refine Km hc ah (KV aV aV aV aV aV) (Eh fF) (λr0 hr0 _ l0=>?_);have hll:l.length*3^6<=3*729:=Nat.mul_le_mul ah aV;refine av (aW (ac3 6 64 ah ah (λe h=>⟨t,he e h⟩) bB (hr0.WN hs) hr0.ci bB)) (λr1 apn=>?_);have hr1:Cr f.aG.length c r1 2188:=(hr0.trans apn).mono bB;clear apn;have s1:=hr1.WN hs;have c1:=hr1.ci;have e1:=hr1.le;have e1':=hr1.ge;have f1:=s1.v;have f2:=s1.t
 -- one emission ends the statement
 have one:∀{o:Option aA},Wp o (λq=>Cr f.aG.length r1 q 1)->Wp o (λq=>Cr f.aG.length c q (2200*(1+a+b))):=λh=>h.imp λq k=>(hr1.trans k).mono ah
 have two:∀{o:Option aA},Wp o (λq=>Cr f.aG.length r1 q (2200*(a+b)+3))->Wp o (λq=>Cr f.aG.length c q (2200*(1+a+b))):=λh=>h.imp λq k=>(hr1.trans k).mono ah
 refine aq (λ_=>?_) (λ_=>?_)
 .refine av (aW (wu f1)) ?_
  rintro v ⟨v1,v2,_⟩;exact one (yO c1 ah (KV aV aV aV ah aV) (Eh fF))
 refine aq (λ_=>?_) (λ_=>?_)
 .refine av (aW (wu f2)) ?_
  rintro v ⟨v1,v2,_⟩;exact one (yO c1 ah (KV aV aV aV ah aV) (Eh fF))
 refine aq (λ_=>?_) (λ_=>?_)
 .refine av (aW (wu f2)) ?_
  rintro v ⟨v1,v2,_⟩;exact one (yO c1 ah (KV aV aV aV ah aV) (Eh fF))
 refine aq (λ_=>two ?_) (λ_=>?_)
 .refine Km c1 ah (KV aV aV aV aV aV) (λt e=>Nr) (λr2 LR hx hl2=>?_)
  refine av (aW (hB a s r2 h1 ah (LR.WN s1) LR.ci ah)) (λr3 hr3=>?_);have g3:=hr3.ge;have g3':=hr3.le;refine av (aW (JI hB h2 ah (hr3.WN (LR.WN s1)) hr3.ci ah)) ?_;rintro⟨to,r4⟩ ⟨NB,to0,to1⟩;dsimp only at NB to0 to1 |-;have g4:=NB.ge;have g4':=NB.le;have hx2:r4.cM[r1.cM.length]? = some ⟨28,0,0,0⟩:=aeO;refine aF (fW _ _ |>.trans hx2) (aX (aL (aj ?_)));rw[Int.toNat_natCast];refine(((LR.trans hr3).trans NB).patch (Nat.le_refl _) (KV aV aV aV ah aV) (λt e=>?_)).mono ah;unfold rZ at e;simp at e;omega
 refine aq (λ_=>two ?_) (λ_=>?_)
 .refine Km c1 ah (KV aV aV aV aV aV) (λt e=>Nr) (λr2 LR hx hl2=>?_)
  refine av (aW (hB a s r2 h1 ah (LR.WN s1) LR.ci ah)) (λr3 hr3=>?_);have g3:=hr3.ge;have g3':=hr3.le;refine Km hr3.ci ah (KV aV aV aV ah aV) (λt e=>Nr) (λr4 NB _ hl4=>?_);have g4:=NB.ge;have g4':=NB.le;have hx2:r4.cM[r1.cM.length]? = some ⟨28,0,0,0⟩:=aeO;refine aF (fW _ _ |>.trans hx2) (aX (aL (aj ?_)));rw[Int.toNat_natCast];refine(((LR.trans hr3).trans NB).patch (Nat.le_refl _) (KV aV aV aV bB aV) (λt e=>?_)).mono ah;unfold rZ at e;simp at e;omega
 refine aq (λhb=>?_) (λ_=>?_)
 .have hk:k=6:=by simpa using hb
  subst hk;cases sh with
  | @send i hh _ r a1 a2 a3=>
   rw[s1.fl];refine av (aW (adk hN (hnm i (List.getElem?_eq_some_iff.1 a1).1))) ?_;rintro v ⟨v0,v1⟩;refine fE v0 (by rw[s1.hl];exact v1) (λhd d1 d2=>?_);have h6:=s1.h6 hd d2;refine av (DQ ah) ?_;rintro w ⟨w0,w1,_⟩;exact one (yO c1 ah ⟨fF,fF,bB,bB,bB,bB,bB,bB,λ_=>⟨v0,v1,bB⟩,λe=>ED⟩ (Eh fF))
 refine aq (λhb=>?_) (λ_=>?_)
 .have hk:k=7:=by simpa using hb
  subst hk;cases sh with
  | @aft hh cc r a1 a2 a3=>
   refine fE s1.akp (by rw[s1.hl];exact s1.ako) (λhd d1 d2=>?_);have h6:=s1.h6 hd d2;refine av (DQ ah) ?_;rintro w ⟨w0,w1,_⟩;dsimp only;rw[wrap_i64 ah ah];exact one (yO c1 ah ⟨fF,fF,bB,bB,bB,bB,bB,bB,λe=>ED,λ_=>bB⟩ (Eh fF))
 refine aq (λ_=>two ?_) (λ_=>?_)
 .refine Km c1 ah (KV aV aV aV aV aV) (λt e=>Nr) (λr2 LR hx hl2=>?_)
  refine av (aW (JI hB h2 ah (LR.WN s1) LR.ci bB)) ?_;rintro⟨to,r4⟩ ⟨NB,to0,to1⟩;dsimp only at NB to0 to1 |-;have g4:=NB.ge;have g4':=NB.le;have hx2:r4.cM[r1.cM.length]? = some ⟨32,0,0,0⟩:=aed;refine aF (fW _ _ |>.trans hx2) (aX (aL (aj ?_)));rw[Int.toNat_natCast];refine((LR.trans NB).patch (Nat.le_refl _) ⟨fF,fF,fF,fF,bB,bB,fF,fF,λe=>ED,λe=>ED⟩ (λt e=>?_)).mono ah;unfold rZ at e;simp at e;omega
 refine aq (λ_=>two ?_) (λ_=>?_)
 .refine av (aW (wu f1)) ?_
  rintro v ⟨v1,v2,_⟩;refine Km c1 ah (KV aV aV aV ah aV) (λt e=>Nr) (λr2 LR hx hl2=>?_);refine av (aW (JI hB h2 ah (LR.WN s1) LR.ci bB)) ?_;rintro⟨to,r4⟩ ⟨NB,to0,to1⟩;dsimp only at NB to0 to1 |-;have g4:=NB.ge;have g4':=NB.le;have hx2:r4.cM[r1.cM.length]? = some ⟨33,v,0,0⟩:=aed;refine aF (fW _ _ |>.trans hx2) (aX (aL (aj ?_)));rw[Int.toNat_natCast];refine((LR.trans NB).patch (Nat.le_refl _) ⟨fF,fF,bB,bB,bB,bB,fF,fF,λe=>ED,λe=>ED⟩ (λt e=>?_)).mono ah;unfold rZ at e;simp at e;omega
 refine aq (λ_=>one (yO c1 ah (KV aV aV aV aV aV) (Eh fF))) (λ_=>?_);exact aL (aj (hr1.mono ah))
end
def rowOf(j:Nat):ec:=(tb7[j]?).getD ⟨ByteArray.empty,ByteArray.empty,0,0⟩
theorem aca:∀j:Fin 35,(rowOf j).MH=mj (j:Nat)∧(rowOf j).qO=fq (j:Nat):=aV
theorem acb{o:Int}(h0:0<=o)(h1:o<=34):Wp (zE o) λr=>r=rowOf o.toNat∧r.MH=mj o∧r.qO=fq o:=by
 refine aq (λhb=>Sr) (λ_=>?_);obtain⟨j,rfl⟩:=Int.eq_ofNat_of_zero_le h0;have hj:j<tb7.length:=by show j<35;omega
 refine aF (fW _ _ |>.trans (List.getElem?_eq_getElem hj)) (aj ?_);have e:tb7[j]=rowOf j:=by unfold rowOf;simp_all
 have:=aca ⟨j,hj⟩
 simp_all
theorem GS{x:aC}:Wp (oI x) λr=>(r.2=true∧rZ x=some r.1)∨(r.2=false∧rZ x=none):=by
 have k3:∀b:Bool,b=(decide (x.cZ=32)||decide (x.cZ=33))->¬(x.cZ=27∨x.cZ=28)->Wp (oG x b) λr=>(r.2=true∧rZ x=some r.1)∨(r.2=false∧rZ x=none):=by
  intro b hb hn;refine aq (λh=>aj (.inl ⟨rfl,?_⟩)) (λh=>ay (aj (.inr ⟨rfl,?_⟩)))
  .unfold rZ
   simp_all
  .unfold rZ
   simp_all
 have k2:∀b:Bool,b=(decide (x.cZ=27)||decide (x.cZ=28))->Wp (oH x b) λr=>(r.2=true∧rZ x=some r.1)∨(r.2=false∧rZ x=none):=by
  intro b hb;refine aq (λh=>aj (.inl ⟨rfl,?_⟩)) (λh=>?_)
  .unfold rZ
   simp_all
  .have hn:¬(x.cZ=27∨x.cZ=28):=by simp_all
   refine cX (aq (λhc=>ay (k3 _ ?_ hn)) (λhc=>ay (k3 _ ?_ hn)))
   .simp_all
   .have:x.cZ≠32:=by simp_all
    simp[this]
    rfl
 refine cX (cX (aq (λhc=>ay (k2 _ ?_)) (λhc=>ay (k2 _ ?_))))
 .simp_all
 .have:x.cZ≠27:=by simp_all
  simp[this]
  rfl
structure HI(cs:List aC)(H:List Int)(top:Int)(k:Nat):Prop where
 len:H.length=cs.length+1
 hs:HS cs H top k
 lo:∀(j:Nat) (h:Int),H[j]? = some h->-1<=h∧h<=k
 t0:0<=top
 t1:top<=k
 z:0<k->H[0]? = some 0
theorem Oq{H:List Int}{i:Int}{v:Int}(h0:0<=i)(h1:i<H.length):Wp (pZ i v H) λr=>r.2=H.set i.toNat v∧(r.1=true->∃w,H[i.toNat]? = some w∧(w<0∨w=v)):=by
 refine fE h0 h1 (λw w1 _=>aX (aL (aj ⟨rfl,λh=>⟨w,w1,?_⟩⟩)))
 grind
theorem OY{H:List Int}{i:Nat}{v:Int}{a b:Int}(h:∀(j:Nat) (h:Int),H[j]? = some h->a<=h∧h<=b)(hv:a<=v∧v<=b):∀(j:Nat) (h:Int),(H.set i v)[j]? = some h->a<=h∧h<=b:=by
 grind
theorem Ka{N:Nat}{cs:List aC}(hc:CI N cs)(hl:cs.length<=100000):Wp (vz cs) λq=>q.2=true->∃H:List Int,H.length=cs.length+1∧HS cs H q.1 cs.length∧(0<cs.length->H[0]? = some 0)∧∀h,H[cs.length]? = some h->h<=0:=by
 unfold vz;rw[wrap_i64 (n:=(cs.length:Int)+1) ah ah];have e1:((cs.length:Int)+1).toNat=cs.length+1:=ah;rw[e1];refine aK qm (aX ?_);refine cC (λj s=>s.length=cs.length+1∧∀(i:Nat) (h:Int),i<j->s[i]? = some h->h = -1) XW ⟨aR,λi h hi=>ah⟩ ?_ ?_
 .rintro j s hj ⟨s1,s2⟩
  rw[List.length_replicate]at hj;refine bO ah (λv v1 v2=>aX (ay (aj ⟨VT,λi h hi hh=>?_⟩)));rw[Int.toNat_natCast,List.getElem?_set]at hh
  split at hh
  .split at hh
   .exact(Option.some.inj hh).symm
   .cases hh
  .exact s2 i h ah hh
 rintro s ⟨s1,s2⟩;rw[List.length_replicate,Int.toNat_natCast]at s2;refine eS (λk s=>HI cs s.2 s.1 k) gx ⟨s1,λi x hi=>ah,λj h hj=>?_,Int.le_refl _,aR,λh=>ah⟩ ?_ ?_
 .have:=(List.getElem?_eq_some_iff.1 hj).1
  dsimp only at this hj;have:=s2 j h ah hj;omega
 .rintro k ⟨top,H⟩ hk ⟨i1,i2,i3,i4,i5,i6⟩
  dsimp only at i1 i2 i3 i4 i5 i6 |-;have Cs:k<cs.length:=ah;refine bO hk (λx x1 x2=>?_);obtain⟨ix,tx⟩:=hc x x2;refine bO ah (λw w1 _=>aX ?_);have hw:=i3 k w w1;obtain⟨h0,hh0,hh1,EJ,hh3⟩:∃h0:Int,(if 0>w then 0 else w)=h0∧0<=h0∧h0<=k∧(w<0∨w=h0):=⟨_,rfl,Io,Io,Io⟩;rw[hh0];refine av (acb (by have:=ix.op0;omega) ix.op1) ?_;rintro row ⟨_,r1,r2⟩;have hE:=Fw.set w1 hh3;have hL:(H.set k h0).length=cs.length+1:=by rw[List.length_set];exact i1
  have hlo:=OY (i:=k) (v:=h0) i3 ah;have KH:(H.set k h0)[k]? = some h0:=by rw[List.getElem?_set_self ah]
  -- what follows the popping
  have fin:∀p:Int,p=fS x->Wp (rl k top H x h0 row p) (Rdn (λs=>HI cs s.2 s.1 (k+1)) λe=>Wp (some e) λq=>q.2=true->∃H:List Int,H.length=cs.length+1∧HS cs H q.1 cs.length∧(0<cs.length->H[0]? = some 0)∧∀h,H[cs.length]? = some h->h<=0):=by
   rintro p rfl;have hp0:0<=fS x:=by unfold fS;have:=EU x.cZ;have:=ix.n0;split <;> omega
   have bad:Wp (some (xy.done (S:=Int×List Int) ((0:Int),false))) (Rdn (λs:Int×List Int=>HI cs s.2 s.1 (k+1)) λe:Int×Bool=>Wp (some e) λq=>q.2=true->∃H:List Int,H.length=cs.length+1∧HS cs H q.1 cs.length∧(0<cs.length->H[0]? = some 0)∧∀h,H[cs.length]? = some h->h<=0):=aj (aj (λe=>by cases e));have p0:=HT x.cZ;have p1:=UL x.cZ;unfold rl;rw[Int.toNat_natCast];refine aF (fW _ _ |>.trans KH) ?_;refine aq (λ_=>bad) (λhb=>?_)
   have aaK:fS x<=h0∧(x.cZ=34->h0=0):=by
    simp only[Bool.or_eq_false_iff,decide_eq_false_iff_not,Bool.and_eq_false_iff,beq_eq_false_iff_ne,bne_eq_false_iff_eq]at hb;omega
   have hw1:IntKind.wrap .i64 (IntKind.wrap .i64 (h0-fS x)+row.qO)=h0-fS x+fq x.cZ:=by
    rw[r2,wrap_i64 (n:=h0-fS x) ah ah,wrap_i64 ah ah]
   rw[hw1]
   have aiN:∀{T:Int},(if (h0-fS x+fq x.cZ)>(if h0>top then h0 else top)then(h0-fS x+fq x.cZ)else(if h0>top then h0 else top))=T->top<=T∧h0<=T∧h0-fS x+fq x.cZ<=T∧0<=T∧T<=(k+1:Nat):=by
    rintro T rfl
    split <;> split <;> omega
   generalize hT:(if (h0-fS x+fq x.cZ)>(if h0>top then h0 else top)then(h0-fS x+fq x.cZ)else(if h0>top then h0 else top))=T;obtain⟨T1,T2,T3,T4,T5⟩:=aiN hT
   -- the end: J holds all that was set
   have done:∀J:List Int,Fw (H.set k h0) J->(∀(j:Nat) (h:Int),J[j]? = some h->-1<=h∧h<=(k+1:Nat))->(x.cZ≠27->x.cZ≠34->J[k+1]? = some (h0-fS x+fq x.cZ))->(∀t:Int,rZ x=some t->J[t.toNat]? = some (h0-fS x+fq x.cZ))->HI cs J T (k+1):=by
    intro J hJ hb hn ht;refine⟨by rw[hJ.1,hL],λi y hi hy=>?_,hb,T4,ah,λ_=>?_⟩
    rotate_left
    .rcases Nat.eq_zero_or_pos k with h|h
     .subst h
      have:h0=0:=ah;have:=hJ.2 _ _ KH hh1;rw[this];congr 1
     .exact hJ.2 _ _ (hE.2 _ _ (i6 h) ah) ah
    rcases Nat.lt_or_ge i k with my|hge
    .obtain⟨h,g⟩:=i2 i y my hy
     exact⟨h,g.ext (hE.trans hJ) T1 (HT _)⟩
    .obtain rfl:i=k:=by omega
     rw[x1]at hy;obtain rfl:=Option.some.inj hy;exact⟨h0,hJ.2 _ _ KH hh1,hh1,aaK.1,aaK.2,T2,T3,hn,ht⟩
   have alZ:∀(j:Nat) (h:Int),(H.set k h0)[j]? = some h->-1<=h∧h<=(k+1:Nat):=λj h e=>by have:=hlo j h e;omega
   refine aq (λhc1=>?_) (λhc1=>?_)
   .refine av (aW (Oq ah PB)) ?_
    rintro⟨b,J⟩ ⟨hJ,hbt⟩;dsimp only at hJ hbt |-;have ek:((k:Int)+1).toNat=k+1:=ah;rw[ek]at hJ hbt;refine aq (λ_=>bad) (λhc2=>?_)
    have awh:b=true:=by
     rw[hc1]at hc2;simpa using hc2
    obtain⟨w',w2,w3⟩:=hbt awh;have hE2:=Fw.set w2 w3;rw[<-hJ]at hE2;have apr:∀(j:Nat) (h:Int),J[j]? = some h->-1<=h∧h<=(k+1:Nat):=by rw[hJ];exact OY alZ ah
    have hn2:J[k+1]? = some (h0-fS x+fq x.cZ):=by rw[hJ,List.getElem?_set_self PB]
    have hJL:J.length=cs.length+1:=by rw[hJ,List.length_set];exact hL
    refine av GS ?_;rintro⟨t,bt⟩ (⟨rfl,ht⟩|⟨rfl,ht⟩)
    .dsimp only at ht |-
     have htr:=tx t ht;refine aq (λ_=>?_) (λh=>dI);refine av (aW (Oq htr.1 (by rw[hJL];omega))) ?_;rintro⟨b',J'⟩ ⟨Wn,afM⟩;dsimp only at Wn afM |-;refine aq (λ_=>bad) (λhc3=>?_);obtain⟨w'',w4,w5⟩:=afM (by simpa using hc3);have hE3:=Fw.set w4 w5;rw[<-Wn]at hE3;refine ay (aj (done J' (hE2.trans hE3) (by rw[Wn];exact OY apr ah) (λ_ _=>hE3.2 _ _ hn2 ah) (λt' PW=>?_)));rw[ht]at PW;obtain rfl:=Option.some.inj PW;rw[Wn,List.getElem?_set_self (by rw[hJL];omega)]
    .refine aq (λh=>dI) (λ_=>aq (λh=>dI) (λ_=>?_))
     exact ay (aj (done J hE2 apr (λ_ _=>hn2) (λt' PW=>by rw[ht]at PW;cases PW)))
   .have hno:¬(x.cZ≠27∧x.cZ≠34):=by
     intro h;simp[h.1,h.2]at hc1
    refine aq (λh=>AV) (λ_=>?_);refine av GS ?_;rintro⟨t,bt⟩ (⟨rfl,ht⟩|⟨rfl,ht⟩)
    .dsimp only at ht |-
     have htr:=tx t ht;refine aq (λ_=>?_) (λh=>dI);refine av (aW (Oq htr.1 PB)) ?_;rintro⟨b',J'⟩ ⟨Wn,afM⟩;dsimp only at Wn afM |-;refine aq (λ_=>bad) (λhc3=>?_);obtain⟨w'',w4,w5⟩:=afM (by simpa using hc3);have hE3:=Fw.set w4 w5;rw[<-Wn]at hE3;refine ay (aj (done J' hE3 (by rw[Wn];exact OY alZ ah) (λa b=>absurd ⟨a,b⟩ hno) (λt' PW=>?_)));rw[ht]at PW;obtain rfl:=Option.some.inj PW;rw[Wn,List.getElem?_set_self PB]
    .refine aq (λh=>dI) (λ_=>aq (λh=>dI) (λ_=>?_))
     exact ay (aj (done (H.set k h0) (Fw.refl _) alZ (λa b=>absurd ⟨a,b⟩ hno) (λt' PW=>by rw[ht]at PW;cases PW)))
  refine cX (aq (λhb=>ay (fin _ ?_)) (λhb=>ay (fin _ ?_)))
  .have:x.cZ=30∨x.cZ=31:=by simpa using hb
   unfold fS;rw[if_pos this,r1];have:=ix.n0;have:=ix.n1;have:=EU x.cZ;have:mj x.cZ<=2:=aey;rw[wrap_i64 ah ah]
  .have:¬(x.cZ=30∨x.cZ=31):=by simpa using hb
   unfold fS;rw[if_neg this,r1];omega
 .rintro⟨top,H⟩ ⟨i1,i2,i3,i4,i5,i6⟩
  dsimp only at i1 i2 i6 |-;rw[Int.toNat_natCast]at i2 i6;refine mC (Jt ah (λv v1 _=>aj (λhv=>⟨H,i1,i2,i6,λh hh=>?_⟩)));rw[v1]at hh;obtain rfl:=Option.some.inj hh;simpa using hv
abbrev mkC(s:bu×List (List ByteArray)×Int×List ByteArray×List ByteArray×List ByteArray×List ByteArray×List aC):aA:=aA.mk s.1 s.2.1 s.2.2.1 s.2.2.2.1 s.2.2.2.2.1 s.2.2.2.2.2.1 s.2.2.2.2.2.2.1 s.2.2.2.2.2.2.2
theorem ah9{C:SN}{f:bu}(hN:f.aG.length<=1000)(hnm:∀i,i<C.gw.length->∃x∈f.aG,x.bx=cn i):∀(d fu:Nat),d<fu->ak8 f.aG.length f (WB C Ei Vb d) (lG fu):=by
 intro d
 induction d with
 |zero=>
  rintro fu hf n l c ⟨rfl,rfl⟩ _ hs hc Em;obtain⟨g,rfl⟩:∃g,fu=g+1:=⟨fu-1,ah⟩;refine cC (λ_ s=>mkC s=c) aR rfl (λj _ hj _=>DE) (λs h=>aL (aj ?_));rw[show(aA.mk s.1 s.2.1 s.2.2.1 s.2.2.2.1 s.2.2.2.2.1 s.2.2.2.2.2.1 s.2.2.2.2.2.2.1 s.2.2.2.2.2.2.2)=c from h];exact Cr.refl hc
 |succ d ih=>
  intro fu hf n l c h hn hs hc Em;obtain⟨g,rfl⟩:∃g,fu=g+1:=⟨fu-1,ah⟩;have hl:=h.len;obtain⟨m,m0,m1,m2,m3⟩:=NS h (λ_ _=>WF.pos);refine cC (λj s=>Cr f.aG.length c (mkC s) (2200*m j)) gx ((Cr.refl hc).mono ah) ?_ (λs h=>aL (aj eJ));intro j s hj hI;refine bO hj (λx x1 x2=>?_);obtain⟨a,ha,hw⟩:=m3 j x x1;have b2:=m2 (j+1) ah;obtain⟨sh,Tl,he,ht,hz,hp1,hq1⟩:=hw;refine aF (zO _) ?_;have hq:=hI.le;refine av (aW (agU (c:=mkC s) (ih g ah) hN hnm sh Tl he ht hz ah (hI.WN hs) hI.ci ah)) (λr hr=>ay (aj ((hI.trans hr).mono ?_)));omega
structure TY(N:Nat)(u:cL):Prop where
 ci:CI N u.ri
 len:u.ri.length<=50000
 p0:0<=u.dY
 p4:u.dY<=4
theorem TY.zero{N:Nat}:TY N ⟨0,0,[]⟩:=⟨CI.nil,aR,aV,aV⟩
theorem agD{f:bu}{gw:List (List Int)}(hf:Fu gw f){I T F own:Nat}{r:List Int}{k:Nat}{h:bG}(hh:LN I T F gw own r k h){c:aA}(hs:SCm f c):Wp (rN h c) λq=>TY f.aG.length q.1∧SCm f q.2∧q.2.cY=c.cY:=by
 obtain⟨p,p2,rp,k3,FY,LV,a,a12,hb⟩:=hh;have n3:=hf.n3;have al:=hf.al;have hpl:h.dY.length=p:=eJ;refine cV ?_;have jI:SCm f { c with eM:=h.dY,cM:=[] }:=⟨hs.fl,hs.hl,hs.h6,hs.akp,hs.ako,hs.v,hs.t,hs.g,bB⟩
 have hnm:∀i,i<gw.length->∃x∈f.aG,x.bx=cn i:=by
  intro i hi;obtain⟨_,_,_,g⟩:=hf.cs i _ (List.getElem?_eq_getElem ah);exact⟨_,List.getElem_mem ah,g.name⟩
 refine av (aW (ah9 (C:=⟨I,T,F,p,gw,own⟩) ah hnm 4 64 ah a h.uM { c with eM:=h.dY,cM:=[] } hb a12 jI CI.nil iC)) (λq hq=>?_);have hle:=hq.le;rw[List.length_nil]at hle;refine cV (av (Ka hq.ci ah) (λv _=>aL (aj ⟨⟨hq.ci,bB,aR,bB⟩,hq.WN jI,by rw[hq.eq]⟩)))
theorem agQ{l:List ByteArray}{x:ByteArray}(hl:l.length<=1000):Wp (kB x l) λr=>r=false∨x∈l:=by
 refine av (P:=λr=>r = -1∨x∈l) (aW ?_) ?_
 .refine eS (λ_ _=>True) nV trivial ?_ (λ_ _=>aL (aj (.inl rfl)))
  intro j _ hj _;refine bO hj (λa a1 a2=>?_);rw[Af];refine aq (λhb=>aL (aj ?_)) (λhb=>ay (aj trivial));exact aj (.inr eJ)
 .rintro r (rfl|h)
  .exact aL (aj (.inl rfl))
  .exact aL (aj (.inr h))
def alc(x:aO)(l:List ByteArray):Prop:=l.length<=6∧∀u∈x.bf,∀h∈u.bR,h.bx∈l
theorem acz{x:aO}(h2:x.bf.length<=2)(h3:∀u∈x.bf,u.bR.length<=3):Wp (BJ x) (alc x):=by
 unfold BJ;refine cC (λj s=>s.length<=3*j∧∀(i:Nat) (u:bS),i<j->x.bf[i]? = some u->∀h∈u.bR,h.bx∈s) gx ⟨aR,λi u hi=>ah⟩ ?_ ?_
 .rintro j s hj ⟨s1,s2⟩
  refine bO hj (λu u1 u2=>?_);have hu:=h3 u u2;refine cC (λk s=>s.length<=3*j+k∧(∀(i:Nat) (u:bS),i<j->x.bf[i]? = some u->∀h∈u.bR,h.bx∈s)∧∀(i:Nat) (h:bG),i<k->u.bR[i]? = some h->h.bx∈s) gx ⟨ah,s2,λi h hi=>ah⟩ ?_ ?_
  .rintro k s hk ⟨t1,t2,t3⟩
   refine bO hk (λh e1 e2=>?_);refine av (aW (agQ ah)) (λb hb=>?_);refine aq (λhnb=>?_) (λhnb=>?_)
   .refine aX (aK (yk ah aV) (ay (aj ⟨aeN,λi u hi hh g hg=>List.mem_append.2 (.inl (t2 i u hi hh g hg)),λi g hi hg=>?_⟩)))
    rcases Nat.lt_or_ge i k with my|hge
    .exact List.mem_append.2 (.inl (t3 i g my hg))
    .obtain rfl:i=k:=by omega
     simp_all
   .have hm:h.bx∈s:=by
     simp_all
    refine ay (aj ⟨ah,t2,λi g hi hg=>?_⟩);rcases Nat.lt_or_ge i k with my|hge
    .exact t3 i g my hg
    .obtain rfl:i=k:=by omega
     simp_all
  .rintro s ⟨t1,t2,t3⟩
   rw[Int.toNat_natCast]at t1 t3;refine ay (aj ⟨ah,λi v hi hv h hh=>?_⟩);rcases Nat.lt_or_ge i j with my|hge
   .exact t2 i v my hv h hh
   .obtain rfl:i=j:=by omega
    rw[u1]at hv;obtain rfl:=Option.some.inj hv;obtain⟨k,hk,rfl⟩:=List.getElem_of_mem hh;exact t3 k _ hk (List.getElem?_eq_getElem hk)
 .rintro s ⟨s1,s2⟩
  rw[Int.toNat_natCast]at s1 s2;refine cV (aj ⟨ah,λu hu h hh=>?_⟩);obtain⟨k,hk,rfl⟩:=List.getElem_of_mem hu;exact s2 k _ hk (List.getElem?_eq_getElem hk) h hh
structure aiq(N:Nat)(x:fY):Prop where
 n6:x.Ad.length<=6
 uf:x.Ds.length=x.Kd.length
 us:∀l∈x.Ds,l.length=x.Ad.length∧∀u∈l,TY N u
 fs:∀l∈x.Kd,l.length=x.Ad.length
theorem akW{l:List cL}(h:l.length<=1000):fc l=some l:=by
 unfold fc;rw[tA (Iu iC aV)];simp
theorem akX{l:List Bool}(h:l.length<=1000):ia l=some l:=by
 unfold ia;rw[tA (Iu iC aV)];simp
theorem ahZ{f:bu}{gw:List (List Int)}(hf:Fu gw f){i:Nat}(hi:i<f.aG.length){c:aA}(hfl:c.fT=f)(hhl:c.cY.length=f.aG.length)(hh:∀(k:Nat) (l:List ByteArray) (x:aO),c.cY[k]? = some l->f.aG[k]? = some x->alc x l)(hp:c.eM.length<=1000) :
  Wp (iO (i:Int) c) λq=>aiq f.aG.length q.1∧q.2.fT=f∧q.2.cY=c.cY∧q.2.eM.length<=1000:=by
 obtain⟨I,T,r0,hx⟩:=hf.cs i _ (List.getElem?_eq_getElem hi);have n3:=hf.n3;have f2:=hf.f2;have v2:=hx.v2;have vl:=hx.Ur;have i3:=hx.i3;have t1:=hx.t1;have r3:=(hf.ar r0 (List.mem_of_getElem? hx.ar)).2.1;unfold iO;rw[hfl];refine aF (fW _ _ |>.trans (List.getElem?_eq_getElem hi)) (cV ?_);obtain⟨nl,hnl⟩:∃nl,c.cY[i]? = some nl:=⟨_,List.getElem?_eq_getElem ah⟩;have hnm:=hh i nl _ hnl (List.getElem?_eq_getElem hi);generalize f.aG[i]=x at hx v2 vl hnm |-;refine cC (λj s=>s.length<=j) gx aR ?_ ?_
 .intro j s hj hs
  exact bO hj (λy _ _=>aX (aK (yk ah aV) (ay (aj aeN))))
 intro fl alX;rw[Int.toNat_natCast]at alX;refine cC (λj s=>s.1.length<=j∧s.2.length<=j) gx ⟨aR,aR⟩ ?_ ?_
 .rintro j ⟨a,b⟩ hj ⟨LP,EI⟩
  dsimp only at LP EI |-;refine bO hj (λy _ _=>aq (λ_=>?_) (λ_=>?_))
  .exact aX (aK (yk ah aV) (ay (aj ⟨bB,Ye⟩)))
  .exact aX (aK (yk ah aV) (ay (aj ⟨Ye,bB⟩)))
 rintro⟨vs,ts⟩ ⟨hv1,hv2⟩;dsimp only at hv1 hv2 |-;rw[Int.toNat_natCast]at hv1 hv2
 have hh6:∀l∈c.cY,l.length<=6:=by
  intro l hl;obtain⟨k,hk,rfl⟩:=List.getElem_of_mem hl;exact(hh k _ _ (List.getElem?_eq_getElem hk) (List.getElem?_eq_getElem ah)).1
 refine aF (fW _ _ |>.trans hnl) ?_;have n6:=hnm.1;refine aK qm (aX (aK qm (aX ?_)));rw[Int.toNat_natCast]
 have awk:∀u∈List.replicate nl.length (cL.mk 0 0 []),TY f.aG.length u:=by
  intro u hu;rw[(List.mem_replicate.1 hu).2];exact TY.zero
 refine cC (λj s=>s.1.length=nl.length∧(∀u∈s.1,TY f.aG.length u)∧s.2.1.length=nl.length∧SCm f (mkC (s.2.2.1,s.2.2.2.1,s.2.2.2.2.1,s.2.2.2.2.2.1,s.2.2.2.2.2.2.1,s.2.2.2.2.2.2.2.1,s.2.2.2.2.2.2.2.2.1,s.2.2.2.2.2.2.2.2.2.1))∧s.2.2.2.1=c.cY∧s.2.2.2.2.2.2.2.2.2.2.1.length=j∧s.2.2.2.2.2.2.2.2.2.2.2.length=j∧(∀l∈s.2.2.2.2.2.2.2.2.2.2.1,l.length=nl.length∧∀u∈l,TY f.aG.length u)∧∀l∈s.2.2.2.2.2.2.2.2.2.2.2,l.length=nl.length) gx ⟨aR,awk,aR,⟨rfl,hhl,hh6,Nn,Nn,Nn,Nn,Nn,Nn⟩,rfl,rfl,rfl,aR,aR⟩ ?_ ?_
 .rintro j ⟨us,fs,s1,s2,s3,s4,s5,s6,s7,s8,ul,fo⟩ hj ⟨g1,g2,g3,g4,g5,g6,g7,g8,g9⟩
  dsimp only at g1 g2 g3 g4 g5 g6 g7 g8 g9 |-;refine bO hj (λu u1 u2=>?_);have hul:=(hx.h1 u u2).2;refine cC (λk s=>s.1.length=nl.length∧(∀u∈s.1,TY f.aG.length u)∧s.2.1.length=nl.length∧SCm f (mkC s.2.2)∧s.2.2.2.1=c.cY) gx ⟨g1,g2,g3,g4,g5⟩ ?_ ?_
  .rintro k ⟨us,fs,s1,s2,s3,s4,s5,s6,s7,s8⟩ hk ⟨k1,k2,k3,k4,k5⟩
   dsimp only at k1 k2 k3 k4 k5 |-;refine bO hk (λh e1 e2=>?_);refine av (DQ ah) ?_;rintro w ⟨w0,w1,w2⟩;have w3:=w2 (hnm.2 u u2 h e2);refine av (aW (agD hf (hx.hs u u2 k h e1) k4)) ?_;rintro⟨un,cc⟩ ⟨q1,q2,q3⟩;dsimp only at q1 q2 q3 |-;refine fE w3 ah (λ_ _ _=>aX (fE w3 ah (λ_ _ _=>aX (ay (aj ⟨by dsimp only;rw[List.length_set];exact k1,λy hy=>?_,by dsimp only;rw[List.length_set];exact k3,q2,by dsimp only;rw[q3];exact k5⟩)))));rcases mem_set hy with hy|rfl
   .exact k2 y hy
   .exact q1
  .rintro⟨us,fs,s1,s2,s3,s4,s5,s6,s7,s8⟩ ⟨k1,k2,k3,k4,k5⟩
   dsimp only at k1 k2 k3 k4 k5 |-;refine aF (by unfold cl;exact akW ah) (aX (aK (yk ah aV) ?_));refine aF (by unfold cl;exact akX ah) (aX (aK (yk ah aV) (ay (aj ⟨k1,k2,k3,k4,k5,Ye,Ye,λl hl=>?_,λl hl=>?_⟩))))
   .rcases List.mem_append.1 hl with hl|hl
    .exact g8 l hl
    .simp at hl;subst hl;exact⟨k1,k2⟩
   .rcases List.mem_append.1 hl with hl|hl
    .exact g9 l hl
    .simp at hl;subst hl;exact k3
 .rintro⟨us,fs,s1,s2,s3,s4,s5,s6,s7,s8,ul,fo⟩ ⟨g1,g2,g3,g4,g5,g6,g7,g8,g9⟩
  dsimp only at g1 g2 g3 g4 g5 g6 g7 g8 g9 |-;exact cV (abB (aj ⟨⟨n6,bB,g8,g9⟩,g4.fl,g5,g4.p⟩))
structure aol(N:Nat)(p:iY):Prop where
 n:p.nc.length=N
 cs:∀x∈p.nc,aiq N x
theorem We{f:bu}{gw:List (List Int)}(hf:Fu gw f):Wp (vB f) λq=>∃p,q = .inl p∧aol f.aG.length p:=by
 have n3:=hf.n3;unfold vB;refine aF (KG hf) (aq (λh=>dI) (λ_=>?_));refine av (abH hf) ?_;rintro⟨a,b⟩ rfl;refine aq (λh=>dI) (λ_=>cV ?_);refine cC (λj s=>MI alc f.aG j s) gx MI.zero ?_ ?_
 .intro j s hj hs
  refine bO hj (λx x1 x2=>?_);obtain⟨I,T,r,g⟩:=hf.cs j x x1;have r3:=(hf.ar r (List.mem_of_getElem? g.ar)).2.1;refine av (acz g.v2 (λu hu=>by have:=(g.h1 u hu).2;omega)) (λl hl=>?_);exact aX (aK (yk Ip aV) (ay (aj (hs.snoc x1 hl))))
 intro hd hhd;rw[Int.toNat_natCast]at hhd;refine cC (λj s=>s.1=f∧s.2.1=hd∧s.2.2.2.2.2.2.1.length<=1000∧s.2.2.2.2.2.2.2.2.length=j∧∀x∈s.2.2.2.2.2.2.2.2,aiq f.aG.length x) gx ⟨rfl,rfl,aR,rfl,aR⟩ ?_ ?_
 .rintro j ⟨s1,s2,s3,s4,s5,s6,s7,s8,s9⟩ hj ⟨g1,g2,g3,g4,g5⟩
  dsimp only at g1 g2 g3 g4 g5 |-;subst g1 g2;refine av (aW (ahZ hf ah rfl hhd.1 (λk l x hl hx=>?_) g3)) ?_
  .obtain⟨b,b1,b2⟩:=hhd.at hx
   simp_all
  .rintro⟨pc,cc⟩ ⟨q1,q2,q3,q4⟩
   dsimp only at q1 q2 q3 q4 |-;refine aX (aK (yk ah aV) (ay (aj ⟨q2,q3,q4,eJ,λx hx=>?_⟩)));rcases List.mem_append.1 hx with hx|hx
   all_goals simp_all
 .rintro⟨s1,s2,s3,s4,s5,s6,s7,s8,s9⟩ ⟨g1,g2,g3,g4,g5⟩
  dsimp only at g4 g5 |-;rw[Int.toNat_natCast]at g4;exact cV (aL (aj ⟨_,rfl,g4,g5⟩))
end Go.Proofs.YtaafmkmdfcgeaaaGreatDoor
namespace Go.Proofs
open Go.Shelf Go.RowKit Go.Lib
def Tryz.Gb:Ren:={ f:=λx=>match x with|156=>22|165=>40|166=>41|169=>42|240=>88|241=>89|276=>157|277=>158|n=>n,t:=λx=>match x with|31=>94|9=>9|3=>3|4=>4|0=>0|20=>20|72=>134|76=>138|70=>132|37=>22|75=>137|127=>218|164=>350|5=>5|80=>54|n=>n,g:=λn=>n }
theorem Tryz.RJ:Lays.n156 prog Tryz.Gb where
 mixed:=by kernel_rfl
 f156:=Eq.trans func22 (congrArg some (by kernel_rfl))
 f165:=Eq.trans func40 (congrArg some (by kernel_rfl))
 f166:=Eq.trans func41 (congrArg some (by kernel_rfl))
 f169:=Eq.trans func42 (congrArg some (by kernel_rfl))
 f240:=Eq.trans func88 (congrArg some (by kernel_rfl))
 f241:=Eq.trans func89 (congrArg some (by kernel_rfl))
 f276:=Eq.trans func157 (congrArg some (by kernel_rfl))
 f277:=Eq.trans func158 (congrArg some (by kernel_rfl))
 t0:=underlying0
 a0:=Tryz.isAgg0
 z0:=Tryz.sizeOf0
 v0:=Tryz.zeroValue0
 t3:=underlying3
 a3:=Tryz.isAgg3
 z3:=Tryz.sizeOf3
 v3:=Tryz.zeroValue3
 t4:=underlying4
 a4:=Tryz.isAgg4
 z4:=Tryz.sizeOf4
 v4:=Tryz.zeroValue4
 t9:=underlying9
 a9:=Tryz.isAgg9
 z9:=Tryz.sizeOf9
 v9:=Tryz.zeroValue9
 t20:=underlying20
 a20:=Tryz.isAgg20
 z20:=Tryz.sizeOf20
 v20:=Tryz.zeroValue20
 t31:=underlying94
 a31:=Tryz.isAgg94
 z31:=Tryz.sizeOf94
 v31:=Tryz.zeroValue94
 t37:=underlying22
 a37:=Tryz.isAgg22
 z37:=Tryz.sizeOf22
 v37:=Tryz.zeroValue22
 t70:=underlying132
 a70:=Tryz.isAgg132
 z70:=Tryz.sizeOf132
 v70:=Tryz.zeroValue132
 t72:=underlying134
 a72:=Tryz.isAgg134
 z72:=Tryz.sizeOf134
 v72:=Tryz.zeroValue134
 t75:=underlying137
 a75:=Tryz.isAgg137
 z75:=Tryz.sizeOf137
 v75:=Tryz.zeroValue137
 t76:=underlying138
 a76:=Tryz.isAgg138
 z76:=Tryz.sizeOf138
 v76:=Tryz.zeroValue138
 t127:=underlying218
 a127:=Tryz.isAgg218
 z127:=Tryz.sizeOf218
 v127:=Tryz.zeroValue218
 t164:=underlying350
 a164:=Tryz.isAgg350
 z164:=Tryz.sizeOf350
 v164:=Tryz.zeroValue350
end Go.Proofs
namespace Go.Proofs.YtaafmkmdfcgeaaaGreatDoor
open Go.Proofs.Tryz
open Go.RowKit Go.Shelf
theorem joX:Builder.Extra prog Tryz.Gb where
 sizeBuilder:=bp
 liesBuilder:=bp
 t5:=underlying5
 a5:=Tryz.isAgg5
 z5:=Tryz.sizeOf5
 v5:=Tryz.zeroValue5
 infoByte:=bp
 cellsByte:=bp
 sizeByte:=bp
 neB5:=aV
def RM(xs:List ByteArray)(sep:ByteArray):ByteArray:=⟨(Lib.join (xs.map (·.data.toList)) sep.data.toList).toArray⟩
def Bo(xs:List ByteArray)(sep:ByteArray):Option ByteArray :=Hu (xs.length<=140737488355328∧(Lib.join (xs.map (·.data.toList)) sep.data.toList).length<=140737488355328) (some (RM xs sep))
theorem SM{F:dj}:∀{xs:List ByteArray} {vs:List Value},rm F 1 (xs.map DV.str) vs->vs=xs.map Value.string
 |[],vs,h=>by simp only[List.map_nil,rm]at h;exact h
 |x::xs,vs,h=>by
  simp only[List.map_cons,rm]at h;obtain⟨v,rest,rfl,_,_,h1,h2⟩:=h;simp only[Rs]at h1;subst h1;rw[SM h2]
  rfl
instance ame{x0:List ByteArray}{x1:ByteArray}:MC (Bo x0 x1) λr=>br prog 22 [.L 1 DV.str x0,.str x1] (.str r):=⟨fun {r} hM=>by
 obtain⟨⟨hN,hlen⟩,hM⟩:=mP hM;obtain rfl:=Option.some.inj hM;intro C F γ heap used w vs H hv;simp only[tQ]at hv;obtain⟨v,rest,rfl,h1,u,KN,rfl,h2,rfl⟩:=hv;simp only[Rs,List.length_map]at h1 h2;subst h2;obtain⟨A,c,rfl,Ao,hd⟩:=h1
 have fin:∀(e:Ending) (w':World),(e = .returned (.string (RM x0 x1))∧Below w.heap.size w w')->∃v F',e = .returned v∧lJ F F'∧WS C F' γ heap used w'∧Rs F' eD.no (.str (RM x0 x1)) v:=by
  rintro e w' ⟨rfl,b⟩;exact⟨_,F,rfl,lJ.refl _,H.quiet ⟨b.os,b.tape,b.output,b.size,λk hk _=>b.block k hk⟩,Cn⟩
 rcases x0 with _|⟨y,ys⟩
 .refine(Any.strings_Join_none Tryz.RJ joX A c x1 w).mono λe w' ⟨he,hw⟩=>fin e w' ⟨he,hw ▸ Below.refl _ _⟩
 .obtain⟨b,o,cs,vs,rest,rfl,hF,hdr,hE⟩:=hd aR
  obtain⟨t,fz,hb⟩:=H.fs b cs hF;have PY:=SM hE
  have Wm:∀(j:Nat) x,(y::ys)[j]? = some x->w.cell? ⟨b,o+j,none⟩=some (.string x):=by
   intro j x hj;have:=yj hb o;rw[hdr,PY]at this;exact this j _ (by rw[List.getElem?_append_left (by rw[List.length_map];exact(List.getElem?_eq_some_iff.1 hj).1),List.getElem?_map,hj];rfl)
  exact(Any.strings_Join Tryz.RJ joX b o c (y::ys) x1 w Wm (by obtain⟨h,_⟩:=Array.getElem?_eq_some_iff.1 hb;exact h) hN Ao.2.1 hlen).mono λe w' h=>fin e w' h⟩
end Go.Proofs.YtaafmkmdfcgeaaaGreatDoor
namespace Go.Proofs.YtaafmkmdfcgeaaaGreatDoor
open Go.Proofs.Tryz
open Go.RowKit
attribute [local irreducible] gL dH br gY jP dK fC kY
structure dS where
 aCb:Unit
 jl:List Int
structure bj where
 eF:dS
 dZ:Int
def ik(o0:bj):Option Unit :=npU 9000 0 (rX [] (some ()))<|rX [] (some ())
instance HM{o0}:MA (ik o0) prog 88 (λ_=>0) λr=>⟨[.ref 9000 0],[(9000,some (.bJ 377 [.np 9000 0,.row 9001,.I o0.dZ])),(9001,some (.R 5 1 (DV.int .u8) o0.eF.jl))],.gh [],[(9000,some (.bJ 377 [.np 9000 0,.row 9001,.I o0.dZ])),(9001,some (.R 5 1 (DV.int .u8) o0.eF.jl))],[]⟩:=.e func88 ntmps88
def gI(x1:ByteArray)(o0:bj):Option (Int×bj) :=Bi (cl 7 [] (ik o0)) λv2=>Ck (dK 1 (o0.eF.jl.length+List.length (bytesOf x1)))<|rX [(5000,14)] (some ((ByteArray.size x1:Int),(bj.mk (dS.mk () (o0.eF.jl++(bytesOf x1))) o0.dZ)))
instance GJ{x1 o0}:MA (gI x1 o0) prog 41 (λ_=>3) λr=>⟨[.ref 9000 0,.str x1],[(9000,some (.bJ 377 [.np 9000 0,.row 9001,.I o0.dZ])),(9001,some (.R 5 1 (DV.int .u8) o0.eF.jl))],.gh [.I r.1,.val .nilIface],[(9000,some (.bJ 377 [.np 9000 0,.row 5000,.I r.2.dZ])),(5000,some (.R 5 1 (DV.int .u8) r.2.eF.jl)),(9001,none)],[5000]⟩:=.b func41 ntmps41
def mH(x1:Int)(o0:bj):Option bj :=Bi (cl 6 [] (ik o0)) λv2=>eE 13 (bA 1 (DV.int .u8)) [x1] λv3=>Ck (dK 1 (o0.eF.jl.length+List.length v3))<|rX [(5000,14)] (some (bj.mk (dS.mk () (o0.eF.jl++v3)) o0.dZ))
instance HO{x1 o0}:MA (mH x1 o0) prog 233 (λ_=>3) λr=>⟨[.ref 9000 0,.int .u8 x1],[(9000,some (.bJ 377 [.np 9000 0,.row 9001,.I o0.dZ])),(9001,some (.R 5 1 (DV.int .u8) o0.eF.jl))],.val .nilIface,[(9000,some (.bJ 377 [.np 9000 0,.row 5000,.I r.dZ])),(5000,some (.R 5 1 (DV.int .u8) r.eF.jl)),(9001,none)],[5000]⟩:=.b func233 ntmps233
def bN(x1:List ByteArray)(o0:bj):Option bj :=fL (o0.eF.jl,o0.dZ) 10 [9000,9001] [0,1,9] [] i2 (λs t=>(1001,some (.R 5 1 (DV.int .u8) s.1))::(9000,some (.bJ 377 [.np 9000 0,.row 1001,.I s.2]))::t) [] [(1001,9001)] m64 o0.dZ (λk1 s4=>Bi (cl 15 [(9001,1001),(5000,1005)] (gI ⟨#[32,32]⟩ (bj.mk (dS.mk () s4.1) s4.2))) λmA=>nX [] [(1001,1005)] (some (mA.2.eF.jl,mA.2.dZ))) λs4=>fL (s4.1,s4.2) 19 [9000,9001] [0,17,18] [] i2 (λs t=>(1002,some (.R 5 1 (DV.int .u8) s.1))::(9000,some (.bJ 377 [.np 9000 0,.row 1002,.I s.2]))::t) [] [(1002,1001)] m64 (x1.length:Int) (λk5 s8=>Bi (idx x1 (k5:Int)) λv12=>Bi (cl 27 [(9001,1002),(5000,1004)] (gI v12 (bj.mk (dS.mk () s8.1) s8.2))) λll=>nX [] [(1002,1004)] (some (ll.2.eF.jl,ll.2.dZ))) λs8=>Bi (cl 32 [(9001,1002),(5000,1003)] (mH 10 (bj.mk (dS.mk () s8.1) s8.2))) λv10=>rX [(5000,1003)] (some v10)
instance Oi{x1 o0}:MA (bN x1 o0) prog 167 (λ_=>3) λr=>⟨[.ref 9000 0,.L 1 DV.str x1],[(9000,some (.bJ 377 [.np 9000 0,.row 9001,.I o0.dZ])),(9001,some (.R 5 1 (DV.int .u8) o0.eF.jl))],.gh [],[(9000,some (.bJ 377 [.np 9000 0,.row 5000,.I r.dZ])),(5000,some (.R 5 1 (DV.int .u8) r.eF.jl)),(9001,none)],[5000]⟩:=.e func167 ntmps167
def mT(x0:Bool):Option ByteArray :=If x0 (some ⟨#[116,114,117,101]⟩)<|some ⟨#[102,97,108,115,101]⟩
instance Ih{x0}:MC (mT x0) λr=>br prog 234 [.bool x0] (.str r):=.p func234 ntmps234
def ny(x0:Bool):Option ByteArray :=Bi (mT x0) λv2=>some v2
instance Rc{x0}:MC (ny x0) λr=>br prog 168 [.bool x0] (.str r):=.p func168 ntmps168
def ou(x0:Int)(x1:Int):Option ByteArray :=Bi (iK x0 x1) λv2=>some v2
instance TD{x0 x1}:MC (ou x0 x1) λr=>br prog 236 [.I x0,.I x1] (.str r):=.p func236 ntmps236
def pM(zfah:aB->Option ByteArray)(x0:aB)(x1:Int):Option ByteArray :=Bi (mi x0.cZ) λv2=>If (decide (v2.1.Fg<x1)) (Bi (zfah x0) λv4=>Ck ((ByteArray.mk #[40]).size+v4.size<=9223372036854775807)<|Ck ((⟨#[40]⟩++v4).size+(ByteArray.mk #[41]).size<=9223372036854775807)<|some ((⟨#[40]⟩++v4)++⟨#[41]⟩))<|Bi (zfah x0) λv8=>some v8
instance YU{zfah:aB->Option ByteArray}[zhah:∀{x0},MC (zfah x0) λr=>br prog 399 [.agg (jQ x0)] (.str r)]{x0 x1}:MC (pM zfah x0 x1) λr=>br prog 416 [.agg (jQ x0),.I x1] (.str r):=.p func416 ntmps416
@[reducible] def uZ(zfah:aB->Option ByteArray)(x0:aB)(v2:cO×Bool)(rz:Int):Option ByteArray :=Bi (idx x0.cE 0) λv5=>Bi (aB.dec v5) λv6=>Bi ((pM zfah) v6 rz) λv9=>Ck (v9.size+v2.1.eF.size<=9223372036854775807)<|Bi (idx x0.cE 1) λv12=>Bi (aB.dec v12) λkG=>Bi ((pM zfah) kG (IntKind.wrap .i64 (v2.1.Fg+1))) λmA=>Ck ((v9++v2.1.eF).size+mA.size<=9223372036854775807)<|some ((v9++v2.1.eF)++mA)
@[reducible] def CZ(zfah:aB->Option ByteArray)(x0:aB)(v2:cO×Bool)(Lb:Unit):Option ByteArray :=If (v2.1.yh==0) (some v2.1.eF)<|jn (uZ zfah x0 v2) 17 [] [1,3] [1,3] (λs t=>(5,.I s)::t) i2<|If (v2.1.Fg==3) (nX [] [] (uZ zfah x0 v2 (IntKind.wrap .i64 (v2.1.Fg+1))))<|nX [] [] (uZ zfah x0 v2 v2.1.Fg)
@[reducible] def uW(zfah:aB->Option ByteArray)(x0:aB)(v2:cO×Bool)(Cw:Bool):Option ByteArray :=If Cw (Bi (idx x0.cE 0) λv37=>Bi (aB.dec v37) λHG=>Bi ((pM zfah) HG v2.1.Fg) λFE=>Ck (v2.1.eF.size+FE.size<=9223372036854775807)<|some (v2.1.eF++FE))<|nX [] [] (CZ zfah x0 v2 ())
@[reducible] def uX(zfah:aB->Option ByteArray)(x0:aB)(v2:cO×Bool)(AZ:Bool):Option ByteArray :=If AZ (Ck (v2.1.eF.size+x0.bx.size<=9223372036854775807)<|Ck ((v2.1.eF++x0.bx).size+(ByteArray.mk #[91]).size<=9223372036854775807)<|Bi (idx x0.cE 0) λv28=>Bi (aB.dec v28) λzJ=>Bi (zfah zJ) λCJ=>Ck (((v2.1.eF++x0.bx)++⟨#[91]⟩).size+CJ.size<=9223372036854775807)<|Ck ((((v2.1.eF++x0.bx)++⟨#[91]⟩)++CJ).size+(ByteArray.mk #[93]).size<=9223372036854775807)<|some ((((v2.1.eF++x0.bx)++⟨#[91]⟩)++CJ)++⟨#[93]⟩))<|jn (uW zfah x0 v2) 11 [] [1,3] [1,3] (λs t=>(43,.bool s)::t) i2<|If (x0.cZ==9) (nX [] [] (uW zfah x0 v2 (x0.cZ==9)))<|nX [] [] (uW zfah x0 v2 (x0.cZ==10))
@[reducible] def uY(zfah:aB->Option ByteArray)(x0:aB)(v2:cO×Bool)(s45:Bool):Option ByteArray :=If s45 (Ck (v2.1.eF.size+x0.bx.size<=9223372036854775807)<|some (v2.1.eF++x0.bx))<|jn (uX zfah x0 v2) 8 [] [1,3,13] [1,3] (λs t=>(27,.bool s)::t) i2<|If (x0.cZ==6) (nX [] [] (uX zfah x0 v2 (x0.cZ==6)))<|nX [] [] (uX zfah x0 v2 (x0.cZ==7))
def zR(zfah:aB->Option ByteArray)(x0:aB):Option ByteArray :=Bi (mi x0.cZ) λv2=>jn (CZ zfah x0 v2) 2 [] [1,3] [1,3] i2 i2<|If (x0.cZ==1) (Bi (ou x0.gN 10) λv21=>some v21)<|jn (uY zfah x0 v2) 5 [] [1,3,13] [1,3] (λs t=>(19,.bool s)::t) i2<|If (x0.cZ==5) (nX [] [] (uY zfah x0 v2 (x0.cZ==5)))<|nX [] [] (uY zfah x0 v2 (x0.cZ==8))
theorem Lj{zfah:aB->Option ByteArray}[zhah:∀{x0},MC (zfah x0) λr=>br prog 399 [.agg (jQ x0)] (.str r)]{x0}:MC (zR zfah x0) λr=>br prog 399 [.agg (jQ x0)] (.str r):=.p func399 ntmps399
def lx:Nat->aB->Option ByteArray
 |0,_=>none
 |fu+1,x0=>zR (lx fu) x0
instance afY(fu:Nat){x0}:MC (lx fu x0) λr=>br prog 399 [.agg (jQ x0)] (.str r):=by
 induction fu generalizing x0 with
 |zero=>exact⟨λh=>dI⟩
 |succ fu ih=>exact Lj (zfah:=lx fu)
def kO(zfaj:(List DV)->bj->Option bj)(x1:ByteArray)(x2:List DV)(o0:bj):Option bj :=If ((x2.length:Int)==0) (eE 11 (bA 1 DV.str) [x1,⟨#[59]⟩] λv1=>Bi (cl 12 [(5000,1001)] (bN v1 o0)) λv3=>rX [(5000,1001)] (some v3))<|eE 15 (bA 1 DV.str) [x1,⟨#[32,101,108,115,101,32,123]⟩] λv4=>Bi (cl 16 [(5000,1002)] (bN v4 o0)) λv6=>Bi (cl 19 [(9001,1002),(5000,1003)] (zfaj x2 v6)) λv8=>eE 21 (bA 1 DV.str) [⟨#[125]⟩] λv9=>Bi (cl 22 [(9001,1003),(5000,1004)] (bN v9 v8)) λv11=>rX [(5000,1004)] (some v11)
instance Mj{zfaj:(List DV)->bj->Option bj}[zhaj:∀{x1 o0},MA (zfaj x1 o0) prog 302 (λ_=>3) λr=>⟨[.ref 9000 0,.L 6 lg x1],[(9000,some (.bJ 377 [.np 9000 0,.row 9001,.I o0.dZ])),(9001,some (.R 5 1 (DV.int .u8) o0.eF.jl))],.gh [],[(9000,some (.bJ 377 [.np 9000 0,.row 5000,.I r.dZ])),(5000,some (.R 5 1 (DV.int .u8) r.eF.jl)),(9001,none)],[5000]⟩]{x1 x2 o0}:MA (kO zfaj x1 x2 o0) prog 400 (λ_=>3) λr=>⟨[.ref 9000 0,.str x1,.L 6 lg x2],[(9000,some (.bJ 377 [.np 9000 0,.row 9001,.I o0.dZ])),(9001,some (.R 5 1 (DV.int .u8) o0.eF.jl))],.gh [],[(9000,some (.bJ 377 [.np 9000 0,.row 5000,.I r.dZ])),(5000,some (.R 5 1 (DV.int .u8) r.eF.jl)),(9001,none)],[5000]⟩:=⟨λhM=>by unfold kO at hM;exact aez func400 ntmps400 (wz [11,15,21])⟩
@[reducible] def lu(s34:(List Int)×Int):Option bj :=eE 84 (bA 1 DV.str) [⟨#[125]⟩] λv31=>Bi (cl 85 [(9001,1007),(5000,1008)] (bN v31 (bj.mk (dS.mk () s34.1) s34.2))) λKM=>rX [(5000,1008)] (some KM)
def iH(zfaj:(List DV)->bj->Option bj)(x1:bo)(o0:bj):Option bj :=Ck (kY 16 (x1.js.length:Int) (x1.js.length:Int))<|eE 10 DV.str ByteArray.empty λ_=>fL (List.replicate (Int.toNat (x1.js.length:Int)) ByteArray.empty) 14 [9000,9001] [0,3,12,13] [3,9000,9001] (λ_ t=>(4,.row 1001)::t) (λs t=>(1001,some (.R 9 1 DV.str s))::t) [] [(1001,10)] m64 (x1.js.length:Int) (λk2 s4=>Bi (idx x1.js (k2:Int)) λv83=>Bi (aB.dec v83) λv84=>Bi ((lx 64) v84) λv87=>Bi (idx s4 (k2:Int)) λv89=>eE 23 DV.str v87 λv90=>nX [] [] (some (List.set s4 (Int.toNat (k2:Int)) v90))) λs4=>If (x1.bC==1) (Bi (idx s4 0) λv6=>eE 35 (bA 1 DV.str) [x1.bx,⟨#[32,61,32]⟩,v6,⟨#[59]⟩] λv7=>Bi (cl 36 [(5000,1002)] (bN v7 o0)) λv9=>rX [(5000,1002)] (some v9))<|If (x1.bC==2) (Bi (idx s4 0) λv11=>Bi (idx s4 1) λkG=>eE 48 (bA 1 DV.str) [x1.bx,⟨#[91]⟩,v11,⟨#[93,32,61,32]⟩,kG,⟨#[59]⟩] λll=>Bi (cl 49 [(5000,1003)] (bN ll o0)) λmA=>rX [(5000,1003)] (some mA))<|If (x1.bC==3) (Bi (idx s4 0) λlI=>eE 58 (bA 1 DV.str) [⟨#[100,101,108,101,116,101,32]⟩,x1.bx,⟨#[91]⟩,lI,⟨#[93,59]⟩] λxa=>Bi (cl 59 [(5000,1004)] (bN xa o0)) λv21=>rX [(5000,1004)] (some v21))<|If (x1.bC==4) (Bi (idx s4 0) λuj=>eE 66 (bA 1 DV.str) [⟨#[105,102,32]⟩,uj,⟨#[32,123]⟩] λv24=>Bi (cl 67 [(5000,1005)] (bN v24 o0)) λxz=>Bi (cl 71 [(9001,1005),(5000,1006)] (zfaj x1.vZ xz)) λv28=>jn lu 17 [9000,9001] [0] [] i2 (λs t=>(1007,some (.R 5 1 (DV.int .u8) s.1))::(9000,some (.bJ 377 [.np 9000 0,.row 1007,.I s.2]))::t)<|If (decide (0<(x1.uL.length:Int))) (eE 77 (bA 1 DV.str) [⟨#[125,32,101,108,115,101,32,123]⟩] λzK=>Bi (cl 78 [(9001,1006),(5000,1009)] (bN zK v28)) λv37=>Bi (cl 82 [(9001,1009),(5000,1010)] (zfaj x1.uL v37)) λAY=>nX [] [(1007,1010)] (lu (AY.eF.jl,AY.dZ)))<|nX [] [(1007,1006)] (lu (v28.eF.jl,v28.dZ)))<|If (x1.bC==5) (Bi (idx s4 0) λFE=>eE 92 (bA 1 DV.str) [⟨#[119,104,105,108,101,32]⟩,FE,⟨#[32,123]⟩] λGG=>Bi (cl 93 [(5000,1011)] (bN GG o0)) λYA=>Bi (cl 97 [(9001,1011),(5000,1012)] (zfaj x1.vZ YA)) λv46=>eE 99 (bA 1 DV.str) [⟨#[125]⟩] λxA=>Bi (cl 100 [(9001,1012),(5000,1013)] (bN xA v46)) λv49=>rX [(5000,1013)] (some v49))<|If (x1.bC==6) (wk [.z 1001]<|Bi (Bo s4 ⟨#[44,32]⟩) λv51=>eE 110 (bA 1 DV.str) [⟨#[115,101,110,100,32]⟩,x1.bx,⟨#[46]⟩,x1.bU,⟨#[40]⟩,v51,⟨#[41,59]⟩] λJm=>Bi (cl 111 [(5000,1014)] (bN Jm o0)) λv54=>rX [(5000,1014)] (some v54))<|If (x1.bC==7) (wk [.z 1001]<|Bi (idx s4 0) λv56=>Ck (fC (s4.length) 1 (s4.length))<|Bi (Bo (List.drop (Int.toNat 1) s4) ⟨#[44,32]⟩) λv59=>eE 123 (bA 1 DV.str) [⟨#[97,102,116,101,114,32]⟩,v56,⟨#[32,100,111,32]⟩,x1.bU,⟨#[40]⟩,v59,⟨#[41,59]⟩] λv60=>Bi (cl 124 [(5000,1015)] (bN v60 o0)) λv62=>rX [(5000,1015)] (some v62))<|If (x1.bC==8) (Bi (idx s4 0) λYB=>Ck ((ByteArray.mk #[115,116,111,114,101,32]).size+YB.size<=9223372036854775807)<|Ck ((⟨#[115,116,111,114,101,32]⟩++YB).size+(ByteArray.mk #[32,61,32]).size<=9223372036854775807)<|Bi (idx s4 1) λv68=>Ck (((⟨#[115,116,111,114,101,32]⟩++YB)++⟨#[32,61,32]⟩).size+v68.size<=9223372036854775807)<|Bi (cl 139 [(5000,1016)] ((kO zfaj) (((⟨#[115,116,111,114,101,32]⟩++YB)++⟨#[32,61,32]⟩)++v68) x1.uL o0)) λv71=>rX [(5000,1016)] (some v71))<|If (x1.bC==9) (Ck ((ByteArray.mk #[102,101,116,99,104,32]).size+x1.bx.size<=9223372036854775807)<|Ck ((⟨#[102,101,116,99,104,32]⟩++x1.bx).size+(ByteArray.mk #[32,61,32]).size<=9223372036854775807)<|Bi (idx s4 0) λv75=>Ck (((⟨#[102,101,116,99,104,32]⟩++x1.bx)++⟨#[32,61,32]⟩).size+v75.size<=9223372036854775807)<|Bi (cl 153 [(5000,1017)] ((kO zfaj) (((⟨#[102,101,116,99,104,32]⟩++x1.bx)++⟨#[32,61,32]⟩)++v75) x1.uL o0)) λv78=>rX [(5000,1017)] (some v78))<|If (x1.bC==10) (eE 157 (bA 1 DV.str) [⟨#[115,116,111,112,59]⟩] λv79=>Bi (cl 158 [(5000,1018)] (bN v79 o0)) λv81=>rX [(5000,1018)] (some v81))<|rX [(5000,9001)] (some o0)
instance Ix{zfaj:(List DV)->bj->Option bj}[zhaj:∀{x1 o0},MA (zfaj x1 o0) prog 302 (λ_=>3) λr=>⟨[.ref 9000 0,.L 6 lg x1],[(9000,some (.bJ 377 [.np 9000 0,.row 9001,.I o0.dZ])),(9001,some (.R 5 1 (DV.int .u8) o0.eF.jl))],.gh [],[(9000,some (.bJ 377 [.np 9000 0,.row 5000,.I r.dZ])),(5000,some (.R 5 1 (DV.int .u8) r.eF.jl)),(9001,none)],[5000]⟩]{x1 o0}:MA (iH zfaj x1 o0) prog 363 (λ_=>3) λr=>⟨[.ref 9000 0,.agg (sB x1)],[(9000,some (.bJ 377 [.np 9000 0,.row 9001,.I o0.dZ])),(9001,some (.R 5 1 (DV.int .u8) o0.eF.jl))],.gh [],[(9000,some (.bJ 377 [.np 9000 0,.row 5000,.I r.dZ])),(5000,some (.R 5 1 (DV.int .u8) r.eF.jl)),(9001,none)],[5000]⟩:=⟨λhM=>by unfold iH at hM;exact aez func363 ntmps363 (wz [35,48,58,66,77,84,92,99,110,123,157])⟩
def uV(zfaj:(List DV)->bj->Option bj)(x1:List DV)(o0:bj):Option bj :=fL (o0.eF.jl,(IntKind.wrap .i64 (o0.dZ+1))) 15 [9000,9001] [0,13,14] [] i2 (λs t=>(1001,some (.R 5 1 (DV.int .u8) s.1))::(9000,some (.bJ 377 [.np 9000 0,.row 1001,.I s.2]))::t) [] [(1001,9001)] m64 (x1.length:Int) (λk1 s4=>Bi (idx x1 (k1:Int)) λv6=>Bi (bo.dec v6) λv7=>Bi (cl 21 [(9001,1001),(5000,1002)] ((iH zfaj) v7 (bj.mk (dS.mk () s4.1) s4.2))) λv10=>nX [] [(1001,1002)] (some (v10.eF.jl,v10.dZ))) λs4=>rX [(5000,1001)] (some (bj.mk (dS.mk () s4.1) (IntKind.wrap .i64 (s4.2-1))))
theorem Bl{zfaj:(List DV)->bj->Option bj}[zhaj:∀{x1 o0},MA (zfaj x1 o0) prog 302 (λ_=>3) λr=>⟨[.ref 9000 0,.L 6 lg x1],[(9000,some (.bJ 377 [.np 9000 0,.row 9001,.I o0.dZ])),(9001,some (.R 5 1 (DV.int .u8) o0.eF.jl))],.gh [],[(9000,some (.bJ 377 [.np 9000 0,.row 5000,.I r.dZ])),(5000,some (.R 5 1 (DV.int .u8) r.eF.jl)),(9001,none)],[5000]⟩]{x1 o0}:MA (uV zfaj x1 o0) prog 302 (λ_=>3) λr=>⟨[.ref 9000 0,.L 6 lg x1],[(9000,some (.bJ 377 [.np 9000 0,.row 9001,.I o0.dZ])),(9001,some (.R 5 1 (DV.int .u8) o0.eF.jl))],.gh [],[(9000,some (.bJ 377 [.np 9000 0,.row 5000,.I r.dZ])),(5000,some (.R 5 1 (DV.int .u8) r.eF.jl)),(9001,none)],[5000]⟩:=.e func302 ntmps302
def lv:Nat->(List DV)->bj->Option bj
 |0,_,_=>none
 |fu+1,x1,o0=>uV (lv fu) x1 o0
instance Oj(fu:Nat){x1 o0}:MA (lv fu x1 o0) prog 302 (λ_=>3) λr=>⟨[.ref 9000 0,.L 6 lg x1],[(9000,some (.bJ 377 [.np 9000 0,.row 9001,.I o0.dZ])),(9001,some (.R 5 1 (DV.int .u8) o0.eF.jl))],.gh [],[(9000,some (.bJ 377 [.np 9000 0,.row 5000,.I r.dZ])),(5000,some (.R 5 1 (DV.int .u8) r.eF.jl)),(9001,none)],[5000]⟩:=by
 induction fu generalizing x1 o0 with
 |zero=>exact⟨λh=>dI⟩
 |succ fu ih=>exact Bl (zfaj:=lv fu)
def jh(x1:bS)(o0:bj):Option bj :=fL (o0.eF.jl,o0.dZ) 9 [9000,9001] [0,7,8] [] i2 (λs t=>(1001,some (.R 5 1 (DV.int .u8) s.1))::(9000,some (.bJ 377 [.np 9000 0,.row 1001,.I s.2]))::t) [] [(1001,9001)] m64 (x1.bR.length:Int) (λk1 s4=>Bi (idx x1.bR (k1:Int)) λv6=>Bi (Bo v6.dY ⟨#[44,32]⟩) λv8=>eE 19 (bA 1 DV.str) [⟨#[111,110,32]⟩,v6.bx,⟨#[40]⟩,v8,⟨#[41,32,123]⟩] λv9=>Bi (cl 20 [(9001,1001),(5000,1002)] (bN v9 (bj.mk (dS.mk () s4.1) s4.2))) λv11=>Bi (cl 24 [(9001,1002),(5000,1003)] ((lv 64) v6.uM v11)) λkG=>eE 26 (bA 1 DV.str) [⟨#[125]⟩] λll=>Bi (cl 27 [(9001,1003),(5000,1004)] (bN ll kG)) λmA=>nX [] [(1001,1004)] (some (mA.eF.jl,mA.dZ))) λs4=>rX [(5000,1001)] (some (bj.mk (dS.mk () s4.1) s4.2))
instance JB{x1 o0}:MA (jh x1 o0) prog 237 (λ_=>3) λr=>⟨[.ref 9000 0,.agg (NJ x1)],[(9000,some (.bJ 377 [.np 9000 0,.row 9001,.I o0.dZ])),(9001,some (.R 5 1 (DV.int .u8) o0.eF.jl))],.gh [],[(9000,some (.bJ 377 [.np 9000 0,.row 5000,.I r.dZ])),(5000,some (.R 5 1 (DV.int .u8) r.eF.jl)),(9001,none)],[5000]⟩:=⟨λhM=>by unfold jh at hM;exact aez func237 ntmps237 (wz [19,26])⟩
def kI(x1:aO)(o0:bj):Option bj :=eE 11 (bA 1 DV.str) [⟨#[99,111,109,112,111,110,101,110,116,32]⟩,x1.bx,⟨#[32,123]⟩] λv1=>Bi (cl 12 [(5000,1001)] (bN v1 o0)) λv3=>fL (v3.eF.jl,(IntKind.wrap .i64 (v3.dZ+1))) 23 [9000,9001] [0,3,21,22] [3] i2 (λs t=>(1002,some (.R 5 1 (DV.int .u8) s.1))::(9000,some (.bJ 377 [.np 9000 0,.row 1002,.I s.2]))::t) [] [(1002,1001)] m64 (x1.eG.length:Int) (λk4 s7=>Bi (idx x1.eG (k4:Int)) λv30=>If (v30.sQ==1) (Bi (ou v30.uK 10) λCJ=>eE 37 (bA 1 DV.str) [⟨#[118,97,114,32]⟩,v30.bx,⟨#[58,32,105,110,116,32,61,32]⟩,CJ,⟨#[59]⟩] λKM=>Bi (cl 38 [(9001,1002),(5000,1009)] (bN KM (bj.mk (dS.mk () s7.1) s7.2))) λzK=>nX [] [(1002,1009)] (some (zK.eF.jl,zK.dZ)))<|If (v30.sQ==2) (Bi (ny (v30.uK==1)) λv37=>eE 48 (bA 1 DV.str) [⟨#[118,97,114,32]⟩,v30.bx,⟨#[58,32,98,111,111,108,32,61,32]⟩,v37,⟨#[59]⟩] λHG=>Bi (cl 49 [(9001,1002),(5000,1010)] (bN HG (bj.mk (dS.mk () s7.1) s7.2))) λv40=>nX [] [(1002,1010)] (some (v40.eF.jl,v40.dZ)))<|If (v30.sQ==3) (eE 55 (bA 1 DV.str) [⟨#[118,97,114,32]⟩,v30.bx,⟨#[58,32,116,97,98,108,101,59]⟩] λFE=>Bi (cl 56 [(9001,1002),(5000,1011)] (bN FE (bj.mk (dS.mk () s7.1) s7.2))) λLU=>nX [] [(1002,1011)] (some (LU.eF.jl,LU.dZ)))<|nX [] [] (some (s7.1,s7.2))) λs7=>fL (s7.1,s7.2) 61 [9000,9001] [0,59,60] [] i2 (λs t=>(1003,some (.R 5 1 (DV.int .u8) s.1))::(9000,some (.bJ 377 [.np 9000 0,.row 1003,.I s.2]))::t) [] [(1003,1002)] m64 (x1.bf.length:Int) (λk8 rG=>Bi (idx x1.bf (k8:Int)) λmA=>If ((k8:Int)==0) (Bi (cl 70 [(9001,1003),(5000,1005)] (jh mA (bj.mk (dS.mk () rG.1) rG.2))) λlI=>nX [] [(1003,1005)] (some (lI.eF.jl,lI.dZ)))<|Bi (mI ((k8:Int)+1)) λv20=>eE 75 (bA 1 DV.str) [⟨#[118,101,114,115,105,111,110,32]⟩,v20,⟨#[32,123]⟩] λv21=>Bi (cl 76 [(9001,1003),(5000,1006)] (bN v21 (bj.mk (dS.mk () rG.1) rG.2))) λuj=>Bi (cl 86 [(9001,1006),(5000,1007)] (jh mA (bj.mk uj.eF (IntKind.wrap .i64 (uj.dZ+1))))) λua=>eE 95 (bA 1 DV.str) [⟨#[125]⟩] λxz=>Bi (cl 96 [(9001,1007),(5000,1008)] (bN xz (bj.mk ua.eF (IntKind.wrap .i64 (ua.dZ-1))))) λv28=>nX [] [(1003,1008)] (some (v28.eF.jl,v28.dZ))) λrG=>eE 106 (bA 1 DV.str) [⟨#[125]⟩] λv12=>Bi (cl 107 [(9001,1003),(5000,1004)] (bN v12 (bj.mk (dS.mk () rG.1) (IntKind.wrap .i64 (rG.2-1))))) λll=>rX [(5000,1004)] (some ll)
instance IW{x1 o0}:MA (kI x1 o0) prog 170 (λ_=>3) λr=>⟨[.ref 9000 0,.agg (zN x1)],[(9000,some (.bJ 377 [.np 9000 0,.row 9001,.I o0.dZ])),(9001,some (.R 5 1 (DV.int .u8) o0.eF.jl))],.gh [],[(9000,some (.bJ 377 [.np 9000 0,.row 5000,.I r.dZ])),(5000,some (.R 5 1 (DV.int .u8) r.eF.jl)),(9001,none)],[5000]⟩:=⟨λhM=>by unfold kI at hM;exact aez func170 ntmps170 (wz [11,37,48,55,75,95,106])⟩
def tS(o0:bj):Option ByteArray :=Ck (0<List.length o0.eF.jl)<|Ck (bOk o0.eF.jl=true)<|rX [] (some (strOfNums o0.eF.jl))
instance JD{o0}:MA (tS o0) prog 42 (λ_=>1) λr=>⟨[.ref 9000 0],[(9000,some (.bJ 377 [.np 9000 0,.row 9001,.I o0.dZ])),(9001,some (.R 5 1 (DV.int .u8) o0.eF.jl))],.str r,[(9001,none),(9000,some (.bJ 377 [.np 9000 0,.row 9001,.I o0.dZ]))],[]⟩:=.b func42 ntmps42
def vf(x0:bu):Option ByteArray :=Bi (vh x0) λv2=>If (v2 != 0) (some ByteArray.empty)<|wk [.p 14 0 14 0,.c 14 2000 1 5 1]<|eE 18 (bA 1 DV.str) [⟨#[102,108,101,101,116,32]⟩,x0.bx,⟨#[32,123]⟩] λv3=>Bi (cl 19 [(9000,14),(9001,2000),(5000,1001)] (bN v3 (bj.mk (dS.mk () ([]:List Int)) 0))) λv5=>fL (v5.eF.jl,(IntKind.wrap .i64 (v5.dZ+1))) 30 [] [1,3,28,29] [1] i2 (λs t=>(14,some (.bJ 377 [.np 14 0,.row 1002,.I s.2]))::(1002,some (.R 5 1 (DV.int .u8) s.1))::t) [] [(1002,1001)] m64 (x0.aY.length:Int) (λk6 s9=>Bi (idx x0.aY (k6:Int)) λzK=>Bi (ny zK.uK) λv37=>eE 40 (bA 1 DV.str) [⟨#[102,108,97,103,32]⟩,zK.bx,⟨#[32,61,32]⟩,v37,⟨#[59]⟩] λHG=>Bi (cl 41 [(9000,14),(9001,1002),(5000,1008)] (bN HG (bj.mk (dS.mk () s9.1) s9.2))) λv40=>nX [] [(1002,1008)] (some (v40.eF.jl,v40.dZ))) λs9=>fL (s9.1,s9.2) 46 [] [1,3,44,45] [1] i2 (λs t=>(14,some (.bJ 377 [.np 14 0,.row 1003,.I s.2]))::(1003,some (.R 5 1 (DV.int .u8) s.1))::t) [] [(1003,1002)] m64 (x0.fJ.length:Int) (λTj pD=>Bi (idx x0.fJ (Tj:Int)) λv28=>Bi (mI v28.pW) λv30=>eE 58 (bA 1 DV.str) [⟨#[108,105,110,107,32]⟩,v28.gz,⟨#[32,45,62,32]⟩,v28.uJ,⟨#[32,108,97,116,101,110,99,121,32]⟩,v30,⟨#[59]⟩] λv31=>Bi (cl 59 [(9000,14),(9001,1003),(5000,1007)] (bN v31 (bj.mk (dS.mk () pD.1) pD.2))) λKM=>nX [] [(1003,1007)] (some (KM.eF.jl,KM.dZ))) λpD=>fL (pD.1,pD.2) 64 [] [3,62,63] [] i2 (λs t=>(14,some (.bJ 377 [.np 14 0,.row 1004,.I s.2]))::(1004,some (.R 5 1 (DV.int .u8) s.1))::t) [] [(1004,1003)] m64 (x0.aG.length:Int) (λk14 CK=>Bi (idx x0.aG (k14:Int)) λv24=>Bi (cl 70 [(9000,14),(9001,1004),(5000,1006)] (kI v24 (bj.mk (dS.mk () CK.1) CK.2))) λxz=>nX [] [(1004,1006)] (some (xz.eF.jl,xz.dZ))) λCK=>eE 80 (bA 1 DV.str) [⟨#[125]⟩] λlI=>Bi (cl 81 [(9000,14),(9001,1004),(5000,1005)] (bN lI (bj.mk (dS.mk () CK.1) (IntKind.wrap .i64 (CK.2-1))))) λv20=>Bi (cl 85 [(9000,14),(9001,1005)] (tS v20)) λuQ=>some uQ
instance abV{x0}:MC (vf x0) λr=>br prog 113 [.agg (tF x0)] (.str r):=⟨λhM=>by unfold vf at hM;exact pbz func113 ntmps113 (wz [18,40,58,80])⟩
end Go.Proofs.YtaafmkmdfcgeaaaGreatDoor
namespace Go.Proofs.YtaafmkmdfcgeaaaGreatDoor
open Go.Proofs.Tryz
theorem Xz{n:Int}(h0:0<=n)(h1:n<100):Wp (ou n 10) λs=>s.size<=2:=by
 have:=DU h0 h1;unfold mI nR at this;unfold ou;obtain⟨r,e,h⟩:=this;rw[NA]at e |-;cases hq:iK n 10 with
 |none=>rw[hq]at e;simp[NA]at e
 |some v=>
  rw[hq]at e;simp only[NA,Option.bind_some,Option.some.injEq]at e;exact⟨v,rfl,by rw[e];exact h⟩
theorem RZ(b:Bool):Wp (ny b) λs=>s.size<=5:=by
 unfold ny mT;refine av (P:=λs=>s.size<=5) (aq (λ_=>aj ?_) (λ_=>aj ?_)) (λ_ h=>aj h) <;> simp only[szc,List.length_cons,List.length_nil] <;> omega
theorem Xp{k:Nat}:∀(l:List (List UInt8)),(∀x∈l,x.length<=k)->Lib.lens l<=l.length*k
 |[],_=>by simp[Lib.lens]
 |x::l,h=>by
  have h1:=h x aR;have h2:=Xp l (λy hy=>h y (by simp[hy]));simp only[Lib.lens,List.length_cons,Nat.add_mul,Nat.one_mul]at h2 |-;simp at h2 |-;omega
theorem OZ{xs:List ByteArray}{sep:ByteArray}(h:xs.length<=4)(hs:sep.size<=2)(hx:∀x∈xs,x.size<=30000):Wp (Bo xs sep) λr=>r.size<=150000:=by
 have hl:(Lib.join (xs.map (·.data.toList)) sep.data.toList).length<=150000:=by
  cases xs with
  |nil=>simp[Lib.join_nil]
  |cons x r=>
   rw[List.map_cons,Lib.join_length]
   have h1:=Xp (k:=30000) ((x::r).map (·.data.toList)) (λy hy=>by
    obtain⟨z,hz,rfl⟩:=List.mem_map.1 hy;have:=hx z hz;simpa using this)
   rw[List.length_map]at h1;rw[List.map_cons]at h1;have h2:sep.data.toList.length<=2:=by simpa using hs
   have h3:=Nat.mul_le_mul h2 (show(r.map (·.data.toList)).length<=3 by simp at h |-;omega);have h4:=Nat.mul_le_mul_right 30000 h;omega
 unfold Bo;rw[tA ⟨ah,ah⟩]
 exact aj (by
  show(RM xs sep).data.size<=150000;unfold RM;simpa using hl)
structure qd(B:Nat)(i:Int)(s:bj):Prop where
 b:bOk s.eF.jl=true
 len:s.eF.jl.length<=B
 ind:s.dZ=i
theorem Yi{a b:List Int}(ha:bOk a=true)(hb:bOk b=true):bOk (a++b)=true:=by
 unfold bOk at *;rw[List.all_append,ha,hb];rfl
theorem aai(x:ByteArray):bOk (bytesOf x)=true:=by
 unfold bOk bytesOf;rw[List.all_eq_true];intro y hy;obtain⟨b,_,rfl⟩:=List.mem_map.1 hy;have:=b.toNat_lt;simp;omega
theorem Hx(x:ByteArray):(bytesOf x).length=x.size:=by unfold bytesOf;simp
theorem Wu{x:ByteArray}{s:bj}{B:Nat}{i:Int}(h:qd B i s)(hB:B+x.size<=100000000000):Wp (gI x s) λq=>qd (B+x.size) i q.2:=by
 unfold gI ik;have hl:=h.len;refine aF (x:=()) (by unfold cl npU rX;rfl) (aK ?_ (aL (aj ⟨Yi h.b (aai x),?_,h.ind⟩)))
 .unfold dK;rw[Hx];omega
 .dsimp only;rw[List.length_append,Hx];omega
theorem ahr{l:List ByteArray}{s:bj}{B:Nat}{i:Int}(h:qd B i s)(i0:0<=i)(i1:i<=1000)(hl:l.length<=7)(hx:∀x∈l,x.size<=150000)(hB:B+2000000<=100000000000):Wp (bN l s) λq=>qd (B+2000000) i q∧q.eF.jl≠[]:=by
 unfold bN;refine cC (λj s=>qd (B+2*j) i ⟨⟨(),s.1⟩,s.2⟩) (by rw[h.ind];unfold m64;omega) (by rw[Nat.mul_zero,Nat.add_zero];exact⟨h.b,h.len,h.ind⟩) ?_ ?_
 .intro j s hj hs
  rw[h.ind]at hj
  exact av (aW (Wu hs (by show B+2*j+2<=_;omega))) (λq hq=>ay (aj (by
   refine⟨hq.b,?_,hq.ind⟩;have:q.2.eF.jl.length<=B+2*j+2:=hq.len;dsimp only;omega)))
 intro s2 EI;rw[h.ind]at EI;refine cC (λj s=>qd (B+2000+150000*j) i ⟨⟨(),s.1⟩,s.2⟩) gx ⟨EI.b,by have:=EI.len;dsimp only at this |-;omega,EI.ind⟩ ?_ ?_
 .intro j s hj hs
  refine bO hj (λx _ x2=>?_);have:=hx x x2
  exact av (aW (Wu hs ah)) (λq hq=>ay (aj (by
   refine⟨hq.b,?_,hq.ind⟩;have:=hq.len;dsimp only;omega)))
 intro s3 hs3;rw[Int.toNat_natCast]at hs3;have l3:=hs3.len;dsimp only at l3;unfold mH ik;refine mC (aW (aF (x:=()) (by unfold cl npU rX;rfl) (aX (aK yT (aL (aj (aL (aj ⟨⟨Yi hs3.b rfl,?_,hs3.ind⟩,aR⟩))))))));dsimp only;rw[List.length_append,List.length_singleton];have:l.length*150000<=7*150000:=Nat.mul_le_mul_right _ hl;omega
theorem GI{β:Type}{l:List ByteArray}{s:bj}{B:Nat}{i:Int}{t:Nat}{r:Rn}{k:bj->Option β}{Q:β->Prop}(h:qd B i s)(i0:0<=i)(i1:i<=1000)(hl:l.length<=7)(hx:∀x∈l,x.size<=150000)(hB:B+2000000<=100000000000)(g:∀q,qd (B+2000000) i q->q.eF.jl≠[]->Wp (k q) Q):Wp (Bi (cl t r (bN l s)) k) Q :=
 av (aW (ahr h i0 i1 hl hx hB)) (λq hq=>g q hq.1 hq.2)
theorem ab4:∀j:Fin 24,((abL[(j:Nat)]?).getD ⟨0,false,0,ByteArray.empty⟩).eF.size<=6:=aV
theorem ab5{op:Int}(h:1<=op∧op<=23):(Zb op).eF.size<=6:=by
 unfold Zb;exact ab4 ⟨op.toNat,ah⟩
theorem Sh.nsz{C:SN}{t u:Bool}{op n:Int}{s:ByteArray}{c:Nat}(h:Sh C t op s n u c):s.size<=2:=by
 cases h <;> first|exact Nat.zero_le _|exact Nat.le_refl _
theorem EY{sf:aB->Option ByteArray}{e:aB}{x:Int}{X:Nat}(ho:1<=e.cZ∧e.cZ<=23)(hX:X<=100000)(h:Wp (sf e) λs=>s.size<=X):Wp (pM sf e x) λs=>s.size<=X+2:=by
 unfold pM;refine aF (Oo ho) (aq (λ_=>?_) (λ_=>?_))
 .refine av h (λs hs=>aK ?_ (aK ?_ (aj ?_))) <;> simp only[ByteArray.size_append,szc,List.length_cons,List.length_nil] <;> omega
 .exact av h (λs hs=>aj ah)
theorem agG{C:SN}(hC:HB C):∀{d:Nat} {t:Bool} {x:DV},WE C Ei d t x->d<=6->∀{fu:Nat},d<=fu->∃e,aB.dec x=some e∧(1<=e.cZ∧e.cZ<=23)∧Wp (lx fu e) λs=>s.size<=40*3^d:=by
 intro d t x h
 induction h with
 | @node d t u op n s c l sh hl _ ih=>
  intro hd fu hf;obtain⟨g,rfl⟩:∃g,fu=g+1:=⟨fu-1,ah⟩;have hc:=sh.c2;have ho:=sh.op;have yl:=sh.nsz;have LS:=(sh.ok hC).ops;have htx:=ab5 ho;refine⟨_,CP _,ho,?_⟩;have p1:1<=3^d:=Nat.one_le_pow _ _ ah;have p2:3^d<=243:=Nat.pow_le_pow_right (n:=3) ah (show d<=5 by omega);have p3:3^(d+1)=3*3^d:=by rw[Nat.pow_succ,Nat.mul_comm]
  rw[p3]
  have at_:∀i:Nat,i<l.length->∃a e,idx l (i:Int)=some a∧aB.dec a=some e∧(1<=e.cZ∧e.cZ<=23)∧Wp (lx g e) λs=>s.size<=40*3^d:=by
   intro i hi;obtain⟨e,e1,e2,e3⟩:=ih l[i] (List.getElem_mem hi) ah (fu:=g) ah;exact⟨_,e,fW _ _ |>.trans (List.getElem?_eq_getElem hi),e1,e2,e3⟩
  unfold lx zR;refine aF (Oo ho) (cX (aq (λhb=>?_) (λND=>cX ?_)))
  .have:op=1:=by simpa using hb
   subst this;cases sh with
   |lit a b=>exact av (Xz (n:=n) a ah) (λr hr=>aj ah)
   |bin a b=>omega
   |tf a b=>omega
   |con a b=>omega
   |cmp a b=>omega
  have k5:∀b:Bool,b=(decide (op=9)||decide (op=10))->¬(op=6∨op=7)->Wp (uW (lx g) ⟨op,s,n,l⟩ (Zb op,true) b) λs=>s.size<=40*(3*3^d):=by
   intro b hb hn;refine aq (λh=>?_) (λh=>ay (aq (λ_=>aj bB) (λhz=>?_)))
   .rw[h]at hb
    have ho2:op=9∨op=10:=by simpa using hb.symm
    have hc1:c=1:=PC;obtain⟨a,e,e1,e2,e3,e4⟩:=at_ 0 ah;refine aF e1 (aF e2 (av (EY e3 ah e4) (λr hr=>aK ?_ (aj ?_))))
    .dsimp only;omega
    .simp only[ByteArray.size_append];omega
   .rw[h]at hb
    have ho2:¬(op=9∨op=10):=aeb
    have hz2:c≠0:=by
     intro e;rw[e]at LS;dsimp only at hz;rw[LS]at hz;simp at hz
    have hc2:c=2:=PC;obtain⟨a,e,e1,e2,e3,e4⟩:=at_ 0 ah;obtain⟨a',e',e1',e2',e3',e4'⟩:=at_ 1 ah
    have k2:∀z,Wp (uZ (lx g) ⟨op,s,n,l⟩ (Zb op,true) z) λs=>s.size<=40*(3*3^d):=by
     intro z;refine aF e1 (aF e2 (av (EY e3 ah e4) (λr hr=>aK bB (aF e1' (aF e2' (av (EY e3' ah e4') (λr2 LR=>aK ?_ (aj ?_))))))))
     .simp only[ByteArray.size_append];omega
     .simp only[ByteArray.size_append];omega
    exact cX (aq (λ_=>ay (k2 _)) (λ_=>ay (k2 _)))
  have k4:∀b:Bool,b=(decide (op=6)||decide (op=7))->Wp (uX (lx g) ⟨op,s,n,l⟩ (Zb op,true) b) λs=>s.size<=40*(3*3^d):=by
   intro b hb;refine aq (λh=>?_) (λh=>?_)
   .rw[h]at hb
    have ho2:op=6∨op=7:=by simpa using hb.symm
    have hc1:c=1:=PC;obtain⟨a,e,e1,e2,e3,e4⟩:=at_ 0 ah;refine aK bB (aK uR (aF e1 (aF e2 (av e4 (λr hr=>aK ?_ (aK ?_ (aj ?_))))))) <;> simp only[ByteArray.size_append,szc,List.length_cons,List.length_nil] <;> omega
   .rw[h]at hb
    have hn:¬(op=6∨op=7):=aeb;refine cX (aq (λh=>ay (k5 _ ?_ hn)) (λh=>ay (k5 _ ?_ hn)))
    .have:op=9:=by simpa using h
     subst this;rfl
    .have:op≠9:=by simpa using h
     simp[this];rfl
  have k3:∀b:Bool,Wp (uY (lx g) ⟨op,s,n,l⟩ (Zb op,true) b) λs=>s.size<=40*(3*3^d):=by
   intro b;refine aq (λh=>aK bB (aj (by simp only[ByteArray.size_append];omega))) (λh=>?_);refine cX (aq (λh=>ay (k4 _ ?_)) (λh=>ay (k4 _ ?_)))
   .have:op=6:=by simpa using h
    subst this;rfl
   .have:op≠6:=by simpa using h
    simp[this];rfl
  exact aq (λ_=>ay (k3 _)) (λ_=>ay (k3 _))
theorem Ss.nsz{C:SN}{k:Int}{n h:ByteArray}{t:Bool}{c:Nat}{p q:Bool}(x:Ss C k n h t c p q):n.size<=2∧h.size<=2:=by
 cases x <;> exact⟨by first|simp|exact Nat.le_refl _|exact Nat.le_succ _,by first|simp|exact Nat.le_refl _⟩
theorem vT{a:ByteArray}(h:a.size<=150000):∀x∈[a],x.size<=150000:=eJ
theorem jO{a:ByteArray}{l:List ByteArray}(h:a.size<=150000)(g:∀x∈l,x.size<=150000):∀x∈a::l,x.size<=150000:=by
 simp_all
theorem kC(l:List UInt8)(h:l.length<=1000):(ByteArray.mk (List.toArray l)).size<=150000:=by rw[szc];omega
def alb(M:Int)(B:Nat->List DV->Prop)(sf:List DV->bj->Option bj):Prop:=∀(a:Nat) (l:List DV) (w:bj) (X:Nat) (i:Int),B a l->a<=12->qd X i w->0<=i->i<=M->X+10000000*a+10000000<=90000000000->Wp (sf l w) λr=>qd (X+10000000*a) i r
section
variable {B:Nat->List DV->Prop} {sf:List DV->bj->Option bj} {w:bj} {X:Nat} {i M:Int}
theorem qd.up{Y:Nat}(h:qd X i w)(k:X<=Y):qd Y i w:=⟨h.b,Nat.le_trans h.len k,h.ind⟩
theorem qd.re{Y:Nat}(h:qd X i w)(k:X<=Y):qd Y i ⟨⟨(),w.eF.jl⟩,w.dZ⟩:=⟨h.b,Nat.le_trans h.len k,h.ind⟩
theorem qd.inc{Y:Nat}{m:Int}(h:qd X i w)(k:X<=Y)(hm:IntKind.wrap .i64 (i+1)=m):qd Y m ⟨⟨(),w.eF.jl⟩,IntKind.wrap .i64 (w.dZ+1)⟩:=⟨h.b,Nat.le_trans h.len k,by rw[h.ind,hm]⟩
theorem qd.dec{Y:Nat}{m:Int}(h:qd X i w)(k:X<=Y)(hm:IntKind.wrap .i64 (i-1)=m):qd Y m ⟨⟨(),w.eF.jl⟩,IntKind.wrap .i64 (w.dZ-1)⟩:=⟨h.b,Nat.le_trans h.len k,by rw[h.ind,hm]⟩
theorem XD(hM:M<=100)(hB:alb M B sf){a:Nat}{l:List DV}{x:ByteArray}(hl:B a l)(ha:a<=12)(h:qd X i w)(hx:x.size<=100000)(i0:0<=i)(i1:i<=M)(hX:X+10000000*a+20000000<=90000000000):Wp (kO sf x l w) λr=>qd (X+10000000*a+4000000) i r:=by
 refine aq (λ_=>aX (GI h i0 ah aR (jO ah (vT (kC _ aR))) ah (λq hq _=>aL (aj (hq.up ah))))) (λ_=>?_);refine aX (GI h i0 ah aR (jO ah (vT (kC _ aR))) ah (λq hq _=>?_));refine av (aW (hB a l q _ i hl ha hq i0 i1 ah)) (λr hr=>?_);exact aX (GI hr i0 ah aR (vT (kC _ aR)) ah (λq hq _=>aL (aj (hq.up ah))))
theorem agS{C:SN}(hC:HB C)(hM:M<=100)(hB:alb M B sf){k:Int}{n h:ByteArray}{t:Bool}{m a b:Nat}{p q:Bool}{l s z:List DV}(sh:Ss C k n h t m p q)(hl:l.length=m)(he:∀e∈l,WE C Ei 6 t e)(h1:B a s)(h2:B b z)(hab:1+a+b<=12)(hw:qd X i w)(i0:0<=i)(i1:i<=M)(hX:X+10000000*(1+a+b)+10000000<=90000000000) :
  Wp (iH sf ⟨k,n,h,l,s,z⟩ w) λr=>qd (X+10000000*(1+a+b)) i r:=by
 have m3:=sh.c3;obtain⟨z1,z2⟩:=sh.nsz;unfold iH;refine aK (by unfold kY;dsimp only;omega) (aX ?_);refine cC (λj y=>y.length=l.length∧∀x∈y,x.size<=30000) Ir ⟨aR,λx hx=>by rw[(List.mem_replicate.1 hx).2];exact Nat.zero_le _⟩ ?_ ?_
 .rintro j y hj ⟨y1,y2⟩
  dsimp only at hj;refine bO hj (λe e1 e2=>?_);obtain⟨e',e3,_,e4⟩:=agG hC (he e e2) ah (fu:=64) ah;refine aF e3 (av e4 (λr hr=>bO ah (λ_ _ _=>aX (ay (aj ⟨by rw[List.length_set];exact y1,λx hx=>?_⟩)))));rcases mem_set hx with hx|rfl
  .exact y2 x hx
  .exact Nat.le_trans hr aV
 rintro y ⟨y1,y2⟩
 have ix:∀j:Nat,j<m->∃v,idx y (j:Int)=some v∧v.size<=30000:=λj hj=>by
  obtain⟨v,v1,_,v2⟩:=ahC (xs:=y) (j:=j) ah;exact⟨v,v1,y2 v v2⟩
 have hk:∀v:Int,(k==v)=true->k=v:=λv h=>DB
 refine aq (λhb=>?_) (λ_=>?_)
 .have:=hk 1 hb;subst this
  obtain⟨v,v1,v2⟩:=ix 0 PC;exact aF v1 (aX (GI hw i0 ah aR (jO bB (jO (kC _ aR) (jO ah (vT (kC _ aR))))) ah (λq hq _=>aL (aj (hq.up ah)))))
 refine aq (λhb=>?_) (λ_=>?_)
 .have:=hk 2 hb;subst this
  obtain⟨v,v1,v2⟩:=ix 0 Gq;obtain⟨u,u1,u2⟩:=ix 1 Gq;exact aF v1 (aF u1 (aX (GI hw i0 ah aR (jO bB (jO (kC _ aR) (jO ah (jO (kC _ aR) (jO ah (vT (kC _ aR))))))) ah (λq hq _=>aL (aj (hq.up ah))))))
 refine aq (λhb=>?_) (λ_=>?_)
 .have:=hk 3 hb;subst this
  obtain⟨v,v1,v2⟩:=ix 0 Gq;exact aF v1 (aX (GI hw i0 ah aR (jO (kC _ aR) (jO bB (jO (kC _ aR) (jO ah (vT (kC _ aR)))))) ah (λq hq _=>aL (aj (hq.up ah)))))
 refine aq (λhb=>?_) (λ_=>?_)
 .have:=hk 4 hb;subst this
  obtain⟨v,v1,v2⟩:=ix 0 Gq;refine aF v1 (aX (GI hw i0 ah aR (jO (kC _ aR) (jO ah (vT (kC _ aR)))) ah (λq hq _=>?_)));refine av (aW (hB a s q _ i h1 ah hq i0 i1 ah)) (λr hr=>?_);refine cX (aq (λ_=>?_) (λ_=>?_))
  .refine aX (GI hr i0 ah aR (vT (kC _ aR)) ah (λq hq _=>?_))
   refine av (aW (hB b z q _ i h2 ah hq i0 i1 ah)) (λr hr=>?_);exact ay (aX (GI (s:=⟨⟨(),r.eF.jl⟩,r.dZ⟩) ⟨hr.b,hr.len,hr.ind⟩ i0 ah aR (vT (kC _ aR)) ah (λq hq _=>aL (aj (hq.up ah)))))
  .exact ay (aX (GI (s:=⟨⟨(),r.eF.jl⟩,r.dZ⟩) ⟨hr.b,hr.len,hr.ind⟩ i0 ah aR (vT (kC _ aR)) ah (λq hq _=>aL (aj (hq.up ah)))))
 refine aq (λhb=>?_) (λ_=>?_)
 .have:=hk 5 hb;subst this
  obtain⟨v,v1,v2⟩:=ix 0 Gq;refine aF v1 (aX (GI hw i0 ah aR (jO (kC _ aR) (jO ah (vT (kC _ aR)))) ah (λq hq _=>?_)));refine av (aW (hB a s q _ i h1 ah hq i0 i1 ah)) (λr hr=>?_);exact aX (GI hr i0 ah aR (vT (kC _ aR)) ah (λq hq _=>aL (aj (hq.up ah))))
 refine aq (λhb=>?_) (λ_=>?_)
 .refine cV (av (OZ ah adL y2) (λv hv=>?_))
  exact aX (GI hw i0 ah aR (jO (kC _ aR) (jO bB (jO (kC _ aR) (jO bB (jO (kC _ aR) (jO ah (vT (kC _ aR)))))))) ah (λq hq _=>aL (aj (hq.up ah))))
 refine aq (λhb=>?_) (λ_=>?_)
 .have:=hk 7 hb;subst this
  have hm:1<=m:=Gq;obtain⟨v,v1,v2⟩:=ix 0 ah;refine cV (aF v1 (aK vI (av (OZ (by rw[List.length_drop];omega) adL (λx hx=>y2 x (List.mem_of_mem_drop hx))) (λu hu=>?_))));exact aX (GI hw i0 ah aR (jO (kC _ aR) (jO ah (jO (kC _ aR) (jO bB (jO (kC _ aR) (jO ah (vT (kC _ aR)))))))) ah (λq hq _=>aL (aj (hq.up ah))))
 refine aq (λhb=>?_) (λ_=>?_)
 .have:=hk 8 hb;subst this
  obtain⟨v,v1,v2⟩:=ix 0 Gq;obtain⟨u,u1,u2⟩:=ix 1 Gq;refine aF v1 (aK uR (aK uR (aF u1 (aK uR (av (aW (XD hM hB h2 ah hw uR i0 i1 ah)) (λq hq=>aL (aj (hq.up ah))))))))
 refine aq (λhb=>?_) (λ_=>?_)
 .have:=hk 9 hb;subst this
  obtain⟨v,v1,v2⟩:=ix 0 Gq;refine aK uR (aK uR (aF v1 (aK uR (av (aW (XD hM hB h2 ah hw uR i0 i1 ah)) (λq hq=>aL (aj (hq.up ah)))))))
 refine aq (λhb=>?_) (λ_=>aL (aj (hw.up ah)));exact aX (GI hw i0 ah aR (vT (kC _ aR)) ah (λq hq _=>aL (aj (hq.up ah))))
end
theorem ah8{C:SN}(hC:HB C):∀(d fu:Nat),d<fu->d<=5->alb (50-d) (WB C Ei Vb d) (lv fu):=by
 intro d
 induction d with
 |zero=>
  rintro fu hf _ n l w X i ⟨rfl,rfl⟩ _ hw h0 hi hX;obtain⟨g,rfl⟩:∃g,fu=g+1:=⟨fu-1,ah⟩;have hwi:=hw.ind;refine cC (λ_ s=>qd X (i+1) ⟨⟨(),s.1⟩,s.2⟩) aR ⟨hw.b,hw.len,aeI⟩ (λj _ hj _=>DE) (λs h=>aL (aj ⟨h.b,h.len,?_⟩));have:=h.ind;dsimp only at this |-;rw[this,wrap_i64 ah ah];omega
 |succ d ih=>
  intro fu hf hd n l w X i h hn hw h0 hi hX;obtain⟨g,rfl⟩:∃g,fu=g+1:=⟨fu-1,ah⟩;have hl:=h.len;have hwi:=hw.ind;obtain⟨m,m0,m1,m2,m3⟩:=NS h (λ_ _=>WF.pos);refine cC (λj s=>qd (X+10000000*m j) (i+1) ⟨⟨(),s.1⟩,s.2⟩) gx ⟨hw.b,by have:=hw.len;simp_all,aeI⟩ ?_ (λs h=>aL (aj ?_))
  .intro j s hj hI
   refine bO hj (λx x1 x2=>?_);obtain⟨a,ha,hx⟩:=m3 j x x1;have b2:=m2 (j+1) ah;obtain⟨sh,Tl,he,ht,hz,hp1,hq1⟩:=hx;refine aF (zO _) ?_;refine av (aW (agS hC (M:=50-(d:Int)) ah (ih g ah ah) sh Tl he ht hz ah hI ah ah ah)) (λr hr=>ay (aj ⟨hr.b,by have:=hr.len;dsimp only;omega,hr.ind⟩))
  .rw[Int.toNat_natCast,m1]at h
   refine⟨h.b,h.len,?_⟩;have:=h.ind;dsimp only at this |-;rw[this,wrap_i64 ah ah];omega
theorem Ju{I T F own:Nat}{gw:List (List Int)}{r:List Int}(cx:Cx5 I T F gw){u:bS}(hl:u.bR.length<=3)(hh:∀(k:Nat) (y:bG),u.bR[k]? = some y->LN I T F gw own r k y){w:bj}{X:Nat}{i:Int}(hw:qd X i w)(i0:0<=i)(i1:i<=20)(hX:X+1000000000<=50000000000) :
  Wp (jh u w) λq=>qd (X+1000000000) i q:=by
 refine cC (λj s=>qd (X+200000000*j) i ⟨⟨(),s.1⟩,s.2⟩) gx (hw.re ah) ?_ (λs h=>aL (aj ?_))
 .intro j s hj hI
  refine bO hj (λy y1 y2=>?_);obtain⟨p,p2,rp,k3,FY,LV,a,a12,hb⟩:=hh j y y1;have hpl:y.dY.length=p:=eJ;have z2:y.bx.size=2:=by rw[FY];rfl
  refine av (OZ ah adL (λx hx=>?_)) (λv hv=>?_)
  .rw[LV]at hx
   obtain⟨k,_,rfl⟩:=List.mem_map.1 hx;rw[OV];omega
  refine aX (GI hI i0 ah aR (jO (kC _ aR) (jO ah (jO (kC _ aR) (jO ah (vT (kC _ aR)))))) ah (λq hq _=>?_));refine av (aW (ah8 (cx.sn p2) 4 64 ah ah a y.uM q _ i hb a12 hq i0 ah ah)) (λq hq=>?_);exact aX (GI hq i0 ah aR (vT (kC _ aR)) ah (λq hq _=>ay (aj (hq.re ah))))
 .exact h.up ah
theorem ahY{gw:List (List Int)}{f:bu}(hf:Fu gw f){x:aO}(hx:x∈f.aG){w:bj}{X:Nat}(hw:qd X 1 w)(hX:X+5000000000<=50000000000):Wp (kI x w) λq=>qd (X+4000000000) 1 q:=by
 obtain⟨i,I,T,r,c1,cx,g,r3⟩:=hf.each hx;have v2:=g.v2;have vl:=g.Ur;have i3:=g.i3;have t1:=g.t1;have z1:x.bx.size=1:=by rw[g.name];rfl
 refine aX (GI hw ah ah aR (jO (kC _ aR) (jO ah (vT (kC _ aR)))) ah (λq hq _=>?_));refine cC (λj s=>qd (X+2000000+3000000*j) 2 ⟨⟨(),s.1⟩,s.2⟩) gx (hq.inc ah aV) ?_ ?_
 .intro j s hj hI
  refine bO hj (λv v1' v2'=>?_);have up:∀{q:bj},qd (X+2000000+3000000*j+2000000) 2 q->qd (X+2000000+3000000*(j+1)) 2 ⟨⟨(),q.eF.jl⟩,q.dZ⟩:=λh=>h.re ah
  rw[g.vars]at v2';rcases Av v2' with⟨k,hk,rfl⟩ | rfl|⟨k,hk,rfl⟩
  .refine aq (λ_=>av (Xz (n:=(k:Int)) ah ah) (λv hv=>aX (GI hI ah ah aR (jO (kC _ aR) (jO adC (jO (kC _ aR) (jO ah (vT (kC _ aR)))))) ah (λq hq _=>ay (aj (up hq)))))) (λh=>dI)
  .refine aq (λh=>dI) (λ_=>aq (λ_=>av (RZ _) (λv hv=>aX (GI hI ah ah aR (jO (kC _ aR) (jO adC (jO (kC _ aR) (jO ah (vT (kC _ aR)))))) ah (λq hq _=>ay (aj (up hq)))))) (λh=>dI))
  .refine aq (λh=>dI) (λ_=>aq (λh=>dI) (λ_=>aq (λ_=>aX (GI hI ah ah aR (jO (kC _ aR) (jO adC (vT (kC _ aR)))) ah (λq hq _=>ay (aj (up hq))))) (λh=>dI)))
 intro s hs;refine cC (λj s=>qd (X+20000000+1500000000*j) 2 ⟨⟨(),s.1⟩,s.2⟩) gx (hs.re ah) ?_ ?_
 .intro j s hj hI
  refine bO hj (λu u1 u2=>?_);have hul:=(g.h1 u u2).2;refine aq (λ_=>?_) (λ_=>?_)
  .exact av (aW (Ju cx ah (g.hs u u2) hI ah ah ah)) (λq hq=>ay (aj (hq.re ah)))
  .refine av (DU ah ah) (λv hv=>?_)
   refine aX (GI hI ah ah aR (jO (kC _ aR) (jO ah (vT (kC _ aR)))) ah (λq hq _=>?_));refine av (aW (Ju (i:=3) cx ah (g.hs u u2) (hq.inc (Nat.le_refl _) aV) ah ah ah)) (λq hq=>?_);exact aX (GI (i:=2) (hq.dec (Nat.le_refl _) aV) ah ah aR (vT (kC _ aR)) ah (λq hq _=>ay (aj (hq.re ah))))
 .intro s hs
  exact aX (GI (i:=1) (B:=X+3100000000) (hs.dec ah aV) ah ah aR (vT (kC _ aR)) ah (λq hq _=>aL (aj (hq.up ah))))
theorem aff{gw:List (List Int)}{f:bu}(hf:Fu gw f):Wp (vf f) λs=>s.size<=60000000000:=by
 have n3:=hf.n3;have f2:=hf.f2;have l9:=hf.MB;refine aF (KG hf) (aq (λh=>dI) (λ_=>cV (aX ?_)));have h0:qd 0 0 (bj.mk (dS.mk () ([]:List Int)) 0):=⟨rfl,Nat.le_refl _,rfl⟩;refine GI h0 ah ah aR (jO (kC _ aR) (jO (by rw[hf.name];exact kC _ aR) (vT (kC _ aR)))) ah (λq hq _=>?_);refine cC (λj s=>qd (2000000+2000000*j) 1 ⟨⟨(),s.1⟩,s.2⟩) gx (hq.inc ah aV) ?_ ?_
 .intro j s hj hI
  refine bO hj (λx x1 x2=>?_);have z:x.bx.size=2:=by rw[hf.fn j x x1];rfl
  exact av (RZ _) (λv hv=>aX (GI hI ah ah aR (jO (kC _ aR) (jO ah (jO (kC _ aR) (jO ah (vT (kC _ aR)))))) ah (λq hq _=>ay (aj (hq.re ah)))))
 intro s hs;refine cC (λj s=>qd (20000000+2000000*j) 1 ⟨⟨(),s.1⟩,s.2⟩) gx (hs.re ah) ?_ ?_
 .intro j s hj hI
  refine bO hj (λx x1 x2=>?_);obtain⟨a,b,ha,hb,hfr,hto,g1,g2⟩:=l9.2 x x2;have z1:x.gz.size=1:=by rw[hfr];rfl
  have z2:x.uJ.size=1:=by rw[hto];rfl
  exact av (DU ah ah) (λv hv=>aX (GI hI ah ah aR (jO (kC _ aR) (jO ah (jO (kC _ aR) (jO ah (jO (kC _ aR) (jO ah (vT (kC _ aR)))))))) ah (λq hq _=>ay (aj (hq.re ah)))))
 intro s hs;refine cC (λj s=>qd (100000000+4000000000*j) 1 ⟨⟨(),s.1⟩,s.2⟩) gx (hs.re ah) ?_ ?_
 .intro j s hj hI
  refine bO hj (λx x1 x2=>?_);exact av (aW (ahY hf x2 hI ah)) (λq hq=>ay (aj (hq.re ah)))
 intro s hs;refine aX (GI (i:=0) (B:=13000000000) (hs.dec ah aV) ah ah aR (vT (kC _ aR)) ah (λq hq nq=>?_));refine mC (aW (aK (List.length_pos_iff.2 nq) (aK hq.b (aL (aj (aj ?_))))));have:=hq.len;show(List.toArray _).size<=_;simp;omega
open Go.RowKit
attribute [local irreducible] gL dH br gY jP dK fC kY
def Kw.cs(x:Nat->Int):List DV:=[.int .u32 (x 0),.int .u32 (x 1),.int .u32 (x 2),.int .u32 (x 3),.int .u32 (x 4),.int .u32 (x 5),.int .u32 (x 6),.int .u32 (x 7)]
structure eO where
 ji:Nat->Int
 dP:Nat->Int
 iL:Int
def Bf(x:eO):List DV:=[.int .u32 (x.ji 0),.int .u32 (x.ji 1),.int .u32 (x.ji 2),.int .u32 (x.ji 3),.int .u32 (x.ji 4),.int .u32 (x.ji 5),.int .u32 (x.ji 6),.int .u32 (x.ji 7),.int .u8 (x.dP 0),.int .u8 (x.dP 1),.int .u8 (x.dP 2),.int .u8 (x.dP 3),.int .u8 (x.dP 4),.int .u8 (x.dP 5),.int .u8 (x.dP 6),.int .u8 (x.dP 7),.int .u8 (x.dP 8),.int .u8 (x.dP 9),.int .u8 (x.dP 10),.int .u8 (x.dP 11),.int .u8 (x.dP 12),.int .u8 (x.dP 13),.int .u8 (x.dP 14),.int .u8 (x.dP 15),.int .u8 (x.dP 16),.int .u8 (x.dP 17),.int .u8 (x.dP 18),.int .u8 (x.dP 19),.int .u8 (x.dP 20),.int .u8 (x.dP 21),.int .u8 (x.dP 22),.int .u8 (x.dP 23),.int .u8 (x.dP 24),.int .u8 (x.dP 25),.int .u8 (x.dP 26),.int .u8 (x.dP 27),.int .u8 (x.dP 28),.int .u8 (x.dP 29),.int .u8 (x.dP 30),.int .u8 (x.dP 31),.int .u8 (x.dP 32),.int .u8 (x.dP 33),.int .u8 (x.dP 34),.int .u8 (x.dP 35),.int .u8 (x.dP 36),.int .u8 (x.dP 37),.int .u8 (x.dP 38),.int .u8 (x.dP 39),.int .u8 (x.dP 40),.int .u8 (x.dP 41),.int .u8 (x.dP 42),.int .u8 (x.dP 43),.int .u8 (x.dP 44),.int .u8 (x.dP 45),.int .u8 (x.dP 46),.int .u8 (x.dP 47),.int .u8 (x.dP 48),.int .u8 (x.dP 49),.int .u8 (x.dP 50),.int .u8 (x.dP 51),.int .u8 (x.dP 52),.int .u8 (x.dP 53),.int .u8 (x.dP 54),.int .u8 (x.dP 55),.int .u8 (x.dP 56),.int .u8 (x.dP 57),.int .u8 (x.dP 58),.int .u8 (x.dP 59),.int .u8 (x.dP 60),.int .u8 (x.dP 61),.int .u8 (x.dP 62),.int .u8 (x.dP 63),.int .u64 x.iL]
def abm(x:Nat->Int):List DV:=[.int .u32 (x 0),.int .u32 (x 1),.int .u32 (x 2),.int .u32 (x 3),.int .u32 (x 4),.int .u32 (x 5),.int .u32 (x 6),.int .u32 (x 7),.int .u32 (x 8),.int .u32 (x 9),.int .u32 (x 10),.int .u32 (x 11),.int .u32 (x 12),.int .u32 (x 13),.int .u32 (x 14),.int .u32 (x 15),.int .u32 (x 16),.int .u32 (x 17),.int .u32 (x 18),.int .u32 (x 19),.int .u32 (x 20),.int .u32 (x 21),.int .u32 (x 22),.int .u32 (x 23),.int .u32 (x 24),.int .u32 (x 25),.int .u32 (x 26),.int .u32 (x 27),.int .u32 (x 28),.int .u32 (x 29),.int .u32 (x 30),.int .u32 (x 31),.int .u32 (x 32),.int .u32 (x 33),.int .u32 (x 34),.int .u32 (x 35),.int .u32 (x 36),.int .u32 (x 37),.int .u32 (x 38),.int .u32 (x 39),.int .u32 (x 40),.int .u32 (x 41),.int .u32 (x 42),.int .u32 (x 43),.int .u32 (x 44),.int .u32 (x 45),.int .u32 (x 46),.int .u32 (x 47),.int .u32 (x 48),.int .u32 (x 49),.int .u32 (x 50),.int .u32 (x 51),.int .u32 (x 52),.int .u32 (x 53),.int .u32 (x 54),.int .u32 (x 55),.int .u32 (x 56),.int .u32 (x 57),.int .u32 (x 58),.int .u32 (x 59),.int .u32 (x 60),.int .u32 (x 61),.int .u32 (x 62),.int .u32 (x 63)]
def tb6:List Int:=[1116352408,1899447441,3049323471,3921009573,961987163,1508970993,2453635748,2870763221,3624381080,310598401,607225278,1426881987,1925078388,2162078206,2614888103,3248222580,3835390401,4022224774,264347078,604807628,770255983,1249150122,1555081692,1996064986,2554220882,2821834349,2952996808,3210313671,3336571891,3584528711,113926993,338241895,666307205,773529912,1294757372,1396182291,1695183700,1986661051,2177026350,2456956037,2730485921,2820302411,3259730800,3345764771,3516065817,3600352804,4094571909,275423344,430227734,506948616,659060556,883997877,958139571,1322822218,1537002063,1747873779,1955562222,2024104815,2227730452,2361852424,2428436474,2756734187,3204031479,3329325298]
instance:Tb 6 1 (DV.int .u32) tb6:=⟨bp,bp⟩
def Fl:Option eO :=rX [(5000,3)] (some (eO.mk (arr 0 [1779033703,3144134277,1013904242,2773480762,1359893119,2600822924,528734635,1541459225]) (arr 0 []) 0))
instance:MA (Fl) prog 177 (λ_=>1) λr=>⟨[],[],.ref 5000 0,[(5000,some (.bJ 460 (Bf r)))],[5000]⟩:=.b func177 ntmps177
def qJ(x0:Int)(x1:Int):Option Int :=Ck ((0:Int)<=(iw .and .u64 (IntKind.wrap .u64 x1) 31))<|Ck ((0:Int)<=(IntKind.wrap .u64 (32-(iw .and .u64 (IntKind.wrap .u64 x1) 31))))<|some (iw .or .u32 (IntKind.wrap .u32 (x0*2^min (Int.toNat (iw .and .u64 (IntKind.wrap .u64 x1) 31)) (IntKind.bits .u32))) (Int.fdiv x0 (2^min (Int.toNat (IntKind.wrap .u64 (32-(iw .and .u64 (IntKind.wrap .u64 x1) 31)))) (IntKind.bits .u32))))
instance LB{x0 x1}:MC (qJ x0 x1) λr=>br prog 364 [.int .u32 x0,.I x1] (.int .u32 r):=.p func364 ntmps364
def jD(x0:Int)(x1:Int):Option Int :=Bi (qJ x0 (IntKind.wrap .i64 (0-x1))) λv2=>some v2
instance agb{x0 x1}:MC (jD x0 x1) λr=>br prog 305 [.int .u32 x0,.I x1] (.int .u32 r):=.p func305 ntmps305
def sj(o0:eO):Option eO :=fL (arr 0 []) 22 [9000] [0,2] [9000] i2 (λs t=>(2,some (.bJ 509 (abm s)))::t) [] [] m64 16 (λk1 s3=>Ck (fC 64 (IntKind.wrap .i64 (4*(k1:Int))) (IntKind.wrap .i64 ((IntKind.wrap .i64 (4*(k1:Int)))+4)))<|Ck ((IntKind.wrap .i64 (4*(k1:Int)))<64)<|Ck ((0:Int)<=0∧0<((IntKind.wrap .i64 ((IntKind.wrap .i64 (4*(k1:Int)))+4))-(IntKind.wrap .i64 (4*(k1:Int)))))<|Ck (inB 64 (IntKind.wrap .i64 (4*(k1:Int))) 0)<|ea 36 (λx=>[(DV.int .u8) x]) o0.dP<|Ck ((0:Int)<=1∧1<((IntKind.wrap .i64 ((IntKind.wrap .i64 (4*(k1:Int)))+4))-(IntKind.wrap .i64 (4*(k1:Int)))))<|Ck (inB 64 (IntKind.wrap .i64 (4*(k1:Int))) 1)<|ea 41 (λx=>[(DV.int .u8) x]) o0.dP<|Ck ((0:Int)<=2∧2<((IntKind.wrap .i64 ((IntKind.wrap .i64 (4*(k1:Int)))+4))-(IntKind.wrap .i64 (4*(k1:Int)))))<|Ck (inB 64 (IntKind.wrap .i64 (4*(k1:Int))) 2)<|ea 47 (λx=>[(DV.int .u8) x]) o0.dP<|Ck ((0:Int)<=3∧3<((IntKind.wrap .i64 ((IntKind.wrap .i64 (4*(k1:Int)))+4))-(IntKind.wrap .i64 (4*(k1:Int)))))<|Ck (inB 64 (IntKind.wrap .i64 (4*(k1:Int))) 3)<|ea 53 (λx=>[(DV.int .u8) x]) o0.dP<|Ck (oO 64 (k1:Int))<|ea 57 (λx=>[(DV.int .u32) x]) s3<|eb 57 (iw .or .u32 (iw .or .u32 (iw .or .u32 (IntKind.wrap .u32 ((IntKind.wrap .u32 (o0.dP (Int.toNat ((IntKind.wrap .i64 (4*(k1:Int)))+0))))*2^min (Int.toNat 24) (IntKind.bits .u32))) (IntKind.wrap .u32 ((IntKind.wrap .u32 (o0.dP (Int.toNat ((IntKind.wrap .i64 (4*(k1:Int)))+1))))*2^min (Int.toNat 16) (IntKind.bits .u32)))) (IntKind.wrap .u32 ((IntKind.wrap .u32 (o0.dP (Int.toNat ((IntKind.wrap .i64 (4*(k1:Int)))+2))))*2^min (Int.toNat 8) (IntKind.bits .u32)))) (IntKind.wrap .u32 (o0.dP (Int.toNat ((IntKind.wrap .i64 (4*(k1:Int)))+3)))))<|nX [] [] (some (tP s3 (Int.toNat (k1:Int)) (iw .or .u32 (iw .or .u32 (iw .or .u32 (IntKind.wrap .u32 ((IntKind.wrap .u32 (o0.dP (Int.toNat ((IntKind.wrap .i64 (4*(k1:Int)))+0))))*2^min (Int.toNat 24) (IntKind.bits .u32))) (IntKind.wrap .u32 ((IntKind.wrap .u32 (o0.dP (Int.toNat ((IntKind.wrap .i64 (4*(k1:Int)))+1))))*2^min (Int.toNat 16) (IntKind.bits .u32)))) (IntKind.wrap .u32 ((IntKind.wrap .u32 (o0.dP (Int.toNat ((IntKind.wrap .i64 (4*(k1:Int)))+2))))*2^min (Int.toNat 8) (IntKind.bits .u32)))) (IntKind.wrap .u32 (o0.dP (Int.toNat ((IntKind.wrap .i64 (4*(k1:Int)))+3)))))))) λs3=>wL (E:=(Nat->Int)) (16,s3) [9000] [0,2] [9000] (λs t=>(5,.I s.1)::t) (λs t=>(2,some (.bJ 509 (abm s.2)))::t) [] [] (λs6=>If (decide (s6.1<64)) (Ck (oO 64 (IntKind.wrap .i64 (s6.1-15)))<|ea 65 (λx=>[(DV.int .u32) x]) s6.2<|Ck (oO 64 (IntKind.wrap .i64 (s6.1-2)))<|ea 69 (λx=>[(DV.int .u32) x]) s6.2<|Bi (jD (s6.2 (Int.toNat (IntKind.wrap .i64 (s6.1-15)))) 7) λv10=>Bi (jD (s6.2 (Int.toNat (IntKind.wrap .i64 (s6.1-15)))) 18) λv12=>Bi (jD (s6.2 (Int.toNat (IntKind.wrap .i64 (s6.1-2)))) 17) λll=>Bi (jD (s6.2 (Int.toNat (IntKind.wrap .i64 (s6.1-2)))) 19) λmA=>Ck (oO 64 (IntKind.wrap .i64 (s6.1-16)))<|ea 90 (λx=>[(DV.int .u32) x]) s6.2<|Ck (oO 64 (IntKind.wrap .i64 (s6.1-7)))<|ea 96 (λx=>[(DV.int .u32) x]) s6.2<|Ck (oO 64 s6.1)<|ea 101 (λx=>[(DV.int .u32) x]) s6.2<|eb 101 (IntKind.wrap .u32 ((IntKind.wrap .u32 ((IntKind.wrap .u32 ((s6.2 (Int.toNat (IntKind.wrap .i64 (s6.1-16))))+(iw .xor .u32 (iw .xor .u32 v10 v12) (Int.fdiv (s6.2 (Int.toNat (IntKind.wrap .i64 (s6.1-15)))) (2^min (Int.toNat 3) (IntKind.bits .u32))))))+(s6.2 (Int.toNat (IntKind.wrap .i64 (s6.1-7))))))+(iw .xor .u32 (iw .xor .u32 ll mA) (Int.fdiv (s6.2 (Int.toNat (IntKind.wrap .i64 (s6.1-2)))) (2^min (Int.toNat 10) (IntKind.bits .u32))))))<|nX [] [] (some (.next ((IntKind.wrap .i64 (s6.1+1)),(tP s6.2 (Int.toNat s6.1) (IntKind.wrap .u32 ((IntKind.wrap .u32 ((IntKind.wrap .u32 ((s6.2 (Int.toNat (IntKind.wrap .i64 (s6.1-16))))+(iw .xor .u32 (iw .xor .u32 v10 v12) (Int.fdiv (s6.2 (Int.toNat (IntKind.wrap .i64 (s6.1-15)))) (2^min (Int.toNat 3) (IntKind.bits .u32))))))+(s6.2 (Int.toNat (IntKind.wrap .i64 (s6.1-7))))))+(iw .xor .u32 (iw .xor .u32 ll mA) (Int.fdiv (s6.2 (Int.toNat (IntKind.wrap .i64 (s6.1-2)))) (2^min (Int.toNat 10) (IntKind.bits .u32)))))))))))<|some (.done s6.2)) λe44=>fL o0.ji 106 [9000] [0,2,10] [2,9000] i2 (λs t=>(10,some (.bJ 457 (Kw.cs s)))::t) [] [] m64 64 (λk20 En=>Bi (jD (En 4) 6) λv30=>Bi (jD (En 4) 11) λCJ=>Bi (jD (En 4) 25) λCt=>Bi (idx tb6 (k20:Int)) λCu=>Ck (oO 64 (k20:Int))<|ea 146 (λx=>[(DV.int .u32) x]) e44<|Bi (jD (En 0) 2) λAY=>Bi (jD (En 0) 13) λFE=>Bi (jD (En 0) 22) λLU=>nX [] [] (some (arr 0 [(IntKind.wrap .u32 ((IntKind.wrap .u32 ((IntKind.wrap .u32 ((IntKind.wrap .u32 ((IntKind.wrap .u32 ((En 7)+(iw .xor .u32 (iw .xor .u32 v30 CJ) Ct)))+(iw .xor .u32 (iw .and .u32 (En 4) (En 5)) (iw .and .u32 (iw .xor .u32 (if IntKind.signed .u32=true then -1 else IntKind.max .u32) (En 4)) (En 6)))))+Cu))+(e44 (Int.toNat (k20:Int)))))+(IntKind.wrap .u32 ((iw .xor .u32 (iw .xor .u32 AY FE) LU)+(iw .xor .u32 (iw .xor .u32 (iw .and .u32 (En 0) (En 1)) (iw .and .u32 (En 0) (En 2))) (iw .and .u32 (En 1) (En 2))))))),(En 0),(En 1),(En 2),(IntKind.wrap .u32 ((En 3)+(IntKind.wrap .u32 ((IntKind.wrap .u32 ((IntKind.wrap .u32 ((IntKind.wrap .u32 ((En 7)+(iw .xor .u32 (iw .xor .u32 v30 CJ) Ct)))+(iw .xor .u32 (iw .and .u32 (En 4) (En 5)) (iw .and .u32 (iw .xor .u32 (if IntKind.signed .u32=true then -1 else IntKind.max .u32) (En 4)) (En 6)))))+Cu))+(e44 (Int.toNat (k20:Int))))))),(En 4),(En 5),(En 6)]))) λEn=>fL o0 185 [9000] [0,184] [] i2 (λs t=>(9000,some (.bJ 460 (Bf s)))::t) [] [] m64 8 (λk23 Yy=>Ck (oO 8 (k23:Int))<|eb 188 (λj=>(.int .u32 (En j):DV))<|Ck (oO 8 (k23:Int))<|ea 193 (λx=>[(DV.int .u32) x]) Yy.ji<|Ck (oO 8 (k23:Int))<|ea 199 (λx=>[(DV.int .u32) x]) Yy.ji<|eb 199 (IntKind.wrap .u32 ((Yy.ji (Int.toNat (k23:Int)))+(En (Int.toNat (k23:Int)))))<|nX [] [] (some ({ Yy with ji:=(tP Yy.ji (Int.toNat (k23:Int)) (IntKind.wrap .u32 ((Yy.ji (Int.toNat (k23:Int)))+(En (Int.toNat (k23:Int)))))) }:eO))) λYy=>rX [] (some Yy)
instance TS{o0}:MA (sj o0) prog 240 (λ_=>1) λr=>⟨[.ref 9000 0],[(9000,some (.bJ 460 (Bf o0)))],.gh [],[(9000,some (.bJ 460 (Bf r)))],[]⟩:=.e func240 ntmps240
def mu(x1:List Int)(o0:eO):Option eO :=wL (E:=eO) (x1,o0) [9000] [0] [] (λs t=>(1,.L 1 (DV.int .u8) s.1)::t) (λs t=>(9000,some (.bJ 460 (Bf s.2)))::t) [] [] (λs3=>If (decide (0<(s3.1.length:Int))) (Ck ((0:Int)<=s3.2.iL∧(0:Int)<64)<|Ck (fC 64 (IntKind.wrap .i64 (s3.2.iL % 64)) 64)<|Ck ((IntKind.wrap .i64 (s3.2.iL % 64))<64)<|ea 21 (λx=>[(DV.int .u8) x]) s3.2.dP<|eb 21 (64:Nat)<|Ck (fC (s3.1.length) (cpL (Int.toNat (64-(IntKind.wrap .i64 (s3.2.iL % 64)))) s3.1:Int) (s3.1.length))<|If ((IntKind.wrap .i64 ((IntKind.wrap .i64 (s3.2.iL % 64))+(cpL (Int.toNat (64-(IntKind.wrap .i64 (s3.2.iL % 64)))) s3.1:Int)))==64) (Bi (cl 41 [] (sj (eO.mk s3.2.ji (cpA s3.2.dP (Int.toNat (IntKind.wrap .i64 (s3.2.iL % 64))) (Int.toNat (64-(IntKind.wrap .i64 (s3.2.iL % 64)))) s3.1) (IntKind.wrap .u64 (s3.2.iL+(IntKind.wrap .u64 (cpL (Int.toNat (64-(IntKind.wrap .i64 (s3.2.iL % 64)))) s3.1:Int))))))) λv9=>nX [] [] (some (.next ((List.drop (Int.toNat (cpL (Int.toNat (64-(IntKind.wrap .i64 (s3.2.iL % 64)))) s3.1:Int)) s3.1),v9))))<|nX [] [] (some (.next ((List.drop (Int.toNat (cpL (Int.toNat (64-(IntKind.wrap .i64 (s3.2.iL % 64)))) s3.1:Int)) s3.1),(eO.mk s3.2.ji (cpA s3.2.dP (Int.toNat (IntKind.wrap .i64 (s3.2.iL % 64))) (Int.toNat (64-(IntKind.wrap .i64 (s3.2.iL % 64)))) s3.1) (IntKind.wrap .u64 (s3.2.iL+(IntKind.wrap .u64 (cpL (Int.toNat (64-(IntKind.wrap .i64 (s3.2.iL % 64)))) s3.1:Int)))))))))<|some (.done s3.2)) λe10=>rX [] (some e10)
instance QB{x1 o0}:MA (mu x1 o0) prog 178 (λ_=>1) λr=>⟨[.ref 9000 0,.L 1 (DV.int .u8) x1],[(9000,some (.bJ 460 (Bf o0)))],.gh [],[(9000,some (.bJ 460 (Bf r)))],[]⟩:=.e func178 ntmps178
def xY(x0:Int):Option (List Int) :=Ck (kY 1 8 8)<|eE 5 (DV.int .u8) 0 λ_=>fL (List.replicate (Int.toNat 8) (0:Int)) 8 [] [0,7] [] (λ_ t=>(3,.row 1001)::t) (λs t=>(1001,some (.R 5 1 (DV.int .u8) s))::t) [] [(1001,5)] m64 (List.length (List.replicate (Int.toNat 8) (0:Int)):Int) (λk2 s4=>Ck ((0:Int)<=(IntKind.wrap .i64 (56-(IntKind.wrap .i64 (8*(k2:Int))))))<|Bi (idx s4 (k2:Int)) λv7=>eE 19 (DV.int .u8) (IntKind.wrap .u8 (Int.fdiv x0 (2^min (Int.toNat (IntKind.wrap .i64 (56-(IntKind.wrap .i64 (8*(k2:Int)))))) (IntKind.bits .u64)))) λv8=>nX [] [] (some (List.set s4 (Int.toNat (k2:Int)) v8))) λs4=>wk [.z 1001]<|some s4
instance adf{x0}:MC (xY x0) λr=>br prog 241 [.int .u64 x0] (.L 1 (DV.int .u8) r):=.p func241 ntmps241
@[reducible] def lD(o0:eO)(CL:Int):Option (Nat->Int) :=Ck (kY 1 CL (IntKind.wrap .i64 (CL+8)))<|eE 29 (DV.int .u8) 0 λ_=>Bi (idx (List.replicate (Int.toNat CL) (0:Int)) 0) λv5=>eE 31 (DV.int .u8) 128 λv6=>Bi (xY (IntKind.wrap .u64 (o0.iL*2^min (Int.toNat 3) (IntKind.bits .u64)))) λv8=>Ck (dK 1 (List.length (List.set (List.replicate (Int.toNat CL) (0:Int)) (Int.toNat 0) v6)+List.length v8))<|Bi (cl 40 [(9000,3)] (mu ((List.set (List.replicate (Int.toNat CL) (0:Int)) (Int.toNat 0) v6)++v8) o0)) λv11=>fL (arr 0 []) 43 [9000] [2,7,42] [2,9000] i2 (λs t=>(7,some (.bJ 128 (Ui s)))::t) [] [] m64 8 (λBZ rH=>Ck (oO 8 (BZ:Int))<|eb 46 (λj=>(.int .u32 (v11.ji j):DV))<|Ck (oO 32 (IntKind.wrap .i64 (4*(BZ:Int))))<|ea 69 (λx=>[(DV.int .u8) x]) rH<|eb 69 (IntKind.wrap .u8 (Int.fdiv (v11.ji (Int.toNat (BZ:Int))) (2^min (Int.toNat 24) (IntKind.bits .u32))))<|Ck (oO 32 (IntKind.wrap .i64 ((IntKind.wrap .i64 (4*(BZ:Int)))+1)))<|ea 70 (λx=>[(DV.int .u8) x]) (tP rH (Int.toNat (IntKind.wrap .i64 (4*(BZ:Int)))) (IntKind.wrap .u8 (Int.fdiv (v11.ji (Int.toNat (BZ:Int))) (2^min (Int.toNat 24) (IntKind.bits .u32)))))<|eb 70 (IntKind.wrap .u8 (Int.fdiv (v11.ji (Int.toNat (BZ:Int))) (2^min (Int.toNat 16) (IntKind.bits .u32))))<|Ck (oO 32 (IntKind.wrap .i64 ((IntKind.wrap .i64 (4*(BZ:Int)))+2)))<|ea 71 (λx=>[(DV.int .u8) x]) (tP (tP rH (Int.toNat (IntKind.wrap .i64 (4*(BZ:Int)))) (IntKind.wrap .u8 (Int.fdiv (v11.ji (Int.toNat (BZ:Int))) (2^min (Int.toNat 24) (IntKind.bits .u32))))) (Int.toNat (IntKind.wrap .i64 ((IntKind.wrap .i64 (4*(BZ:Int)))+1))) (IntKind.wrap .u8 (Int.fdiv (v11.ji (Int.toNat (BZ:Int))) (2^min (Int.toNat 16) (IntKind.bits .u32)))))<|eb 71 (IntKind.wrap .u8 (Int.fdiv (v11.ji (Int.toNat (BZ:Int))) (2^min (Int.toNat 8) (IntKind.bits .u32))))<|Ck (oO 32 (IntKind.wrap .i64 ((IntKind.wrap .i64 (4*(BZ:Int)))+3)))<|ea 72 (λx=>[(DV.int .u8) x]) (tP (tP (tP rH (Int.toNat (IntKind.wrap .i64 (4*(BZ:Int)))) (IntKind.wrap .u8 (Int.fdiv (v11.ji (Int.toNat (BZ:Int))) (2^min (Int.toNat 24) (IntKind.bits .u32))))) (Int.toNat (IntKind.wrap .i64 ((IntKind.wrap .i64 (4*(BZ:Int)))+1))) (IntKind.wrap .u8 (Int.fdiv (v11.ji (Int.toNat (BZ:Int))) (2^min (Int.toNat 16) (IntKind.bits .u32))))) (Int.toNat (IntKind.wrap .i64 ((IntKind.wrap .i64 (4*(BZ:Int)))+2))) (IntKind.wrap .u8 (Int.fdiv (v11.ji (Int.toNat (BZ:Int))) (2^min (Int.toNat 8) (IntKind.bits .u32)))))<|eb 72 (IntKind.wrap .u8 (v11.ji (Int.toNat (BZ:Int))))<|nX [] [] (some (tP (tP (tP (tP rH (Int.toNat (IntKind.wrap .i64 (4*(BZ:Int)))) (IntKind.wrap .u8 (Int.fdiv (v11.ji (Int.toNat (BZ:Int))) (2^min (Int.toNat 24) (IntKind.bits .u32))))) (Int.toNat (IntKind.wrap .i64 ((IntKind.wrap .i64 (4*(BZ:Int)))+1))) (IntKind.wrap .u8 (Int.fdiv (v11.ji (Int.toNat (BZ:Int))) (2^min (Int.toNat 16) (IntKind.bits .u32))))) (Int.toNat (IntKind.wrap .i64 ((IntKind.wrap .i64 (4*(BZ:Int)))+2))) (IntKind.wrap .u8 (Int.fdiv (v11.ji (Int.toNat (BZ:Int))) (2^min (Int.toNat 8) (IntKind.bits .u32))))) (Int.toNat (IntKind.wrap .i64 ((IntKind.wrap .i64 (4*(BZ:Int)))+3))) (IntKind.wrap .u8 (v11.ji (Int.toNat (BZ:Int))))))) λrH=>rX [] (some rH)
def sr(o0:eO):Option (Nat->Int) :=Ck ((0:Int)<=o0.iL∧(0:Int)<64)<|jn (lD o0) 6 [9000] [0,2,3] [2,3,9000] (λs t=>(5,.I s)::t) i2<|If (decide ((IntKind.wrap .i64 (56-(IntKind.wrap .i64 (o0.iL % 64))))<=0)) (nX [] [] (lD o0 (IntKind.wrap .i64 ((IntKind.wrap .i64 (56-(IntKind.wrap .i64 (o0.iL % 64))))+64))))<|nX [] [] (lD o0 (IntKind.wrap .i64 (56-(IntKind.wrap .i64 (o0.iL % 64)))))
instance TT{o0}:MA (sr o0) prog 179 (λ_=>0) λr=>⟨[.ref 9000 0],[(9000,some (.bJ 460 (Bf o0)))],.agg (Ui r),[(9000,some (.bJ 460 (Bf o0)))],[]⟩:=⟨λhM=>by unfold sr at hM;exact abz func179 ntmps179 (wz [39])⟩
def yP(x0:List Int):Option (Nat->Int) :=Bi (cl 4 [(5000,1001)] (Fl)) λv2=>Bi (cl 7 [(9000,1001)] (mu x0 v2)) λv4=>Bi (cl 9 [(9000,1001)] (sr v4)) λv6=>some v6
instance ahS{x0}:MC (yP x0) λr=>br prog 115 [.L 1 (DV.int .u8) x0] (.agg (Ui r)):=.p func115 ntmps115
end Go.Proofs.YtaafmkmdfcgeaaaGreatDoor
namespace Go.Proofs.YtaafmkmdfcgeaaaGreatDoor
open Go.Proofs.Tryz
abbrev Ji{α:Type}(o:Option α):Prop:=Wp o λ_=>True
theorem wU{x n:Int}(h:(0:Int)<=iw .and .u64 (IntKind.wrap .u64 (IntKind.wrap .i64 (0-n))) 31∧(0:Int)<=IntKind.wrap .u64 (32-iw .and .u64 (IntKind.wrap .u64 (IntKind.wrap .i64 (0-n))) 31)):Ji (jD x n):=by
 unfold jD qJ;exact av (P:=λ_=>True) (aK h.1 (aK h.2 (aj trivial))) (λ_ _=>aj trivial)
theorem akG(o:eO):Wp (sj o) λq=>q.iL=o.iL:=by
 unfold sj;have wk:∀{k:Nat},(k:Int)<16->IntKind.wrap .i64 (4*(k:Int))=4*k∧IntKind.wrap .i64 (4*(k:Int)+4)=4*k+4:=λh=>⟨wrap_i64 ah ah,wrap_i64 ah ah⟩
 refine cC (λ_ _=>True) Sv trivial ?_ ?_
 .intro k s hk _
  obtain⟨w1,w2⟩:=wk hk;rw[w1,w2];exact aK vI (aK ah (aK ah (aK PD (fH (aK ah (aK PD (fH (aK ah (aK PD (fH (aK ah (aK PD (fH (aK xM (fH (nY (ay (aj trivial))))))))))))))))))
 intro s _;refine jR (λs=>16<=s.1∧s.1<=64) (λs=>(64-s.1).toNat) ⟨fF,fF⟩ fF ?_
 .rintro⟨t,w⟩ ⟨t0,t1⟩
  dsimp only at t0 t1 |-;refine aq (λhb=>?_) (λhb=>aj ?_)
  .have ht:t<64:=by simpa using hb
   rw[wrap_i64 (n:=t-15) ah ah,wrap_i64 (n:=t-2) ah ah,wrap_i64 (n:=t-16) ah ah,wrap_i64 (n:=t-7) ah ah,wrap_i64 (n:=t+1) ah ah];refine aK xM (fH (aK xM (fH ?_)));refine av (wU aV) (λa _=>av (wU aV) (λb _=>av (wU aV) (λc _=>av (wU aV) (λd _=>?_))));exact aK xM (fH (aK xM (fH (aK xM (fH (nY (ay (aj ⟨⟨bB,bB⟩,bB⟩))))))))
  .refine cC (λ_ _=>True) Sv trivial ?_ ?_
   .intro k s hk _
    refine av (wU aV) (λa _=>av (wU aV) (λb _=>av (wU aV) (λc _=>?_)));refine bO (by show(k:Int)<64;exact hk) (λv _ _=>aK xM (fH ?_));refine av (wU aV) (λa _=>av (wU aV) (λb _=>av (wU aV) (λc _=>ay (aj trivial))))
   intro s _;refine cC (λ_ s=>s.iL=o.iL) Sv rfl ?_ (λs h=>aL (aj h));intro k s hk hs;exact aK xM (nY (aK xM (fH (aK xM (fH (nY (ay (aj hs))))))))
theorem QM{l:List Int}{o:eO}(hl:l.length<=1000000000000)(h0:0<=o.iL):Wp (mu l o) λq=>0<=q.iL:=by
 unfold mu;refine jR (λs=>s.1.length<=l.length∧0<=s.2.iL) (λs=>s.1.length) ⟨Nat.le_refl _,h0⟩ bB ?_;rintro⟨m,h⟩ ⟨e1,e2⟩;dsimp only at e1 e2 |-;refine aq (λhb=>?_) (λ_=>aj (aL (aj e2)));have hm:0<m.length:=DD;rw[wrap_i64 (n:=h.iL % 64) ah ah];obtain⟨a,ha,ha2⟩:∃a:Int,h.iL % 64=a∧0<=a∧a<64:=⟨_,rfl,ah,ah⟩;rw[ha];have hc:0<cpL (64-a).toNat m∧cpL (64-a).toNat m<=m.length:=by unfold cpL;omega
 have u0:∀x:Int,0<=IntKind.wrap .u64 x:=λx=>by
  show 0<=x % 18446744073709551616;omega
 refine aK ⟨e2,aV⟩ (aK vI (aK ah (fH (nY (aK vI (aq (λ_=>?_) (λ_=>?_)))))))
 .refine av (aW (akG _)) (λq hq=>ay (aj ⟨⟨?_,?_⟩,?_⟩))
  .dsimp only;rw[List.length_drop];omega
  .dsimp only;rw[hq];exact u0 _
  .dsimp only;rw[List.length_drop,Int.toNat_natCast];omega
 .refine ay (aj ⟨⟨?_,?_⟩,?_⟩)
  .dsimp only;rw[List.length_drop];omega
  .exact u0 _
  .dsimp only;rw[List.length_drop,Int.toNat_natCast];omega
theorem ac9(x:Int):Wp (xY x) λl=>l.length=8:=by
 unfold xY;refine aK qm (aX ?_);refine cC (λ_ s=>s.length=8) Sv rfl ?_ (λs h=>cV (aj h));intro k s hk hs;have hk9:(k:Int)<8:=by simpa using hk
 have hk8:k<8:=ah;refine aK ?_ (bO ah (λv _ _=>aX (ay (aj aea))));rw[wrap_i64 (n:=8*(k:Int)) ah ah,wrap_i64 ah ah];omega
theorem WK{o:eO}{s:Int}(h0:0<=o.iL)(h1:1<=s)(h2:s<=64):Ji (lD o s):=by
 unfold lD;rw[wrap_i64 (n:=s+8) ah ah];refine aK qm (aX ?_);refine mC (Jt (j:=0) iC (λv _ _=>aX ?_));refine av (ac9 _) (λl hl=>?_);refine aK (Iu iC aV) ?_;refine av (aW (QM iC h0)) (λq _=>?_);refine cC (λ_ _=>True) Sv trivial ?_ (λ_ _=>aL (aj trivial));intro k s hk _;rw[wrap_i64 (n:=4*(k:Int)) ah ah,wrap_i64 (n:=4*(k:Int)+1) ah ah,wrap_i64 (n:=4*(k:Int)+2) ah ah,wrap_i64 (n:=4*(k:Int)+3) ah ah];exact aK xM (nY (aK xM (fH (nY (aK xM (fH (nY (aK xM (fH (nY (aK xM (fH (nY (ay (aj trivial)))))))))))))))
theorem ak6{l:List Int}(hl:l.length<=1000000000000):Ji (yP l):=by
 unfold yP Fl;refine mC (aW (aL (aj ?_)));refine av (aW (QM hl (Int.le_refl _))) (λq hq=>?_);refine av (P:=λ_=>True) (aW ?_) (λ_ _=>aj trivial);unfold sr;rw[wrap_i64 (n:=q.iL % 64) ah ah,wrap_i64 (n:=56-q.iL % 64) ah ah];refine aK ⟨hq,aV⟩ (cX (aq (λhb=>ay ?_) (λhb=>ay (WK hq (by have:¬_:=of_decide_eq_false hb;omega) ah))));have:56-q.iL % 64<=0:=of_decide_eq_true hb;rw[wrap_i64 ah ah];exact WK hq ah ah
def KY{α:Type}(z:α)(xs:List α)(j:Nat)(s:List α):Prop:=s=xs.take j++List.replicate (xs.length-j) z
section
variable {α:Type} {z x:α} {xs s:List α} {j:Nat}
theorem KY.zero:KY z xs 0 (List.replicate (Int.toNat (xs.length:Int)) z):=by unfold KY;simp
theorem KY.at(h:KY z xs j s)(hj:j<xs.length):s[j]? = some z:=by
 rw[h,List.getElem?_append_right iC,List.getElem?_replicate];rw[if_pos iC]
theorem KY.set(h:KY z xs j s)(hx:xs[j]? = some x):KY z xs (j+1) (s.set j x):=by
 have hj:=(List.getElem?_eq_some_iff.1 hx).1;unfold KY at *;rw[h,List.set_append_right _ _ iC];have e1:j-(xs.take j).length=0:=iC;obtain⟨m,hm⟩:∃m,xs.length-j=m+1:=⟨xs.length-j-1,ah⟩;rw[e1,hm,List.replicate_succ,List.set_cons_zero,show xs.length-(j+1)=m by omega,List.take_add_one,hx];simp
theorem KY.all(h:KY z xs xs.length s):s=xs:=by unfold KY at h;rw[h];simp
end
theorem adb{C:SN}:∀(d fu:Nat) {l:List DV},d<fu->(∀a∈l,∃t,WE C Ei d t a)->l.length<=3->fR fu l=some l:=by
 intro d
 induction d with
 |zero=>
  intro fu l hf h hl;obtain⟨g,rfl⟩:∃g,fu=g+1:=⟨fu-1,ah⟩
  have:l = []:=by
   cases l with
   |nil=>rfl
   |cons a t=>obtain⟨_,h⟩:=h a aR;cases h
  subst this;unfold fR jF;exact dD (aK (by unfold kY;simp) (aX (cC (λ_ s=>s = []) Su rfl (λj _ hj _=>DE) (λs h=>cV (aL (aj h))))))
 |succ d ih=>
  intro fu l hf h hl;obtain⟨g,rfl⟩:∃g,fu=g+1:=⟨fu-1,ah⟩;unfold fR jF;refine dD (aK qm (aX (cC (λj s=>KY _ l j s) gx KY.zero ?_ (λs h=>cV (aL (aj SB))))));intro j s hj hs;refine bO hj (λa a1 a2=>?_);obtain⟨t,ha⟩:=h a a2;obtain⟨sh,Tl,apt⟩:=ha;have hc:=sh.c2;refine aF (CP _) ?_;have hz:=hs.at ah
  refine aF (x:=⟨_,_,_,_⟩) (by
   unfold ux;exact dD (aF (by unfold cl;exact ih g ah (λa ha=>⟨_,apt a ha⟩) bB) (aj rfl))) ?_
  refine aF (fW _ _ |>.trans hz) (aF (CP _) (aX (ay (aj ?_))));rw[Int.toNat_natCast];exact hs.set a1
theorem ada{C:SN}:∀(d fu:Nat) {n:Nat} {l:List DV},d<fu->WB C Ei Vb d n l->n<=12->fQ fu l=some l:=by
 intro d
 induction d with
 |zero=>
  rintro fu n l hf ⟨rfl,rfl⟩ _;obtain⟨g,rfl⟩:∃g,fu=g+1:=⟨fu-1,ah⟩;unfold fQ jE;exact dD (aK (by unfold kY;simp) (aX (cC (λ_ s=>s = []) Su rfl (λj _ hj _=>DE) (λs h=>cV (aL (aj h))))))
 |succ d ih=>
  intro fu n l hf h hn;obtain⟨g,rfl⟩:∃g,fu=g+1:=⟨fu-1,ah⟩;have hl:=h.len;unfold fQ jE;refine dD (aK qm (aX (cC (λj s=>KY _ l j s) gx KY.zero ?_ (λs h=>cV (aL (aj SB))))));intro j s hj hs;refine bO hj (λx x1 x2=>?_);obtain⟨a,a1,hx⟩:=WL.get h x2;obtain⟨sh,Tl,he,ht,Tc,hp1,hq1⟩:=hx;have hc:=sh.c3;refine aF (zO _) ?_;have hz:=hs.at ah
  refine aF (x:=⟨_,_,_,_,_,_⟩) (by
   unfold uv;exact dD (aF (by unfold cl;exact adb 6 64 ah (λa ha=>⟨_,he a ha⟩) bB) (aF (by unfold cl;exact ih g ah ht ah) (aF (by unfold cl;exact ih g ah Tc ah) (aj rfl))))) ?_
  refine aF (fW _ _ |>.trans hz) (aF (zO _) (aX (ay (aj ?_))));rw[Int.toNat_natCast];exact hs.set x1
theorem aiB{gw:List (List Int)}{f:bu}(hf:Fu gw f):xb f=some f:=by
 have n3:=hf.n3;have f2:=hf.f2;have l9:=hf.MB.1
 have hH:∀{I T own:Nat} {r:List Int} {u:bS},u.bR.length<=3->(∀(k:Nat) (y:bG),u.bR[k]? = some y->LN I T f.aY.length gw own r k y)->uc u=some u:=by
  intro I T own r u hu hh;unfold uc;refine dD (aF (x:=u.bR) ?_ (aj rfl));unfold cl mh;refine dD (aK qm (aX (cC (λj s=>KY _ u.bR j s) gx KY.zero ?_ (λs h=>cV (aL (aj SB))))));intro j s hj hs;refine bO hj (λx x1 x2=>?_);obtain⟨p,p2,rp,k3,FY,LV,a,a12,hb⟩:=hh j x x1;have hz:=hs.at ah;have hpl:x.dY.length=p:=by rw[LV];simp
  refine aF (x:=x) (by
   unfold uw;exact dD (aX (aK (Iu iC aV) (aF (by unfold cl;exact ada 4 64 ah hb a12) (cV (aj aR)))))) ?_
  refine aF (fW _ _ |>.trans hz) (aX (ay (aj ?_)));rw[Int.toNat_natCast];exact hs.set x1
 have hC:∀c∈f.aG,wP c=some c:=by
  intro c hc;obtain⟨i,I,T,r,c1,cx,g,r3⟩:=hf.each hc;have v2:=g.v2;have vl:=g.Ur;have i3:=g.i3;have t1:=g.t1;unfold wP;refine dD (aX (aK (Iu iC aV) (aF (x:=c.bf) ?_ (cV (aj aR)))));unfold cl mg;refine dD (aK qm (aX (cC (λj s=>KY _ c.bf j s) gx KY.zero ?_ (λs h=>cV (aL (aj SB))))));intro j s hj hs;refine bO hj (λx x1 x2=>?_);have hz:=hs.at ah;refine aF (hH (by have:=(g.h1 x x2).2;omega) (g.hs x x2)) (aF (fW _ _ |>.trans hz) (aX (ay (aj ?_))));rw[Int.toNat_natCast];exact hs.set x1
 unfold xb;refine dD (aX (aK (Iu iC aV) (aX (aK (Iu iC aV) (aF (x:=f.aG) ?_ (cV (aj aR)))))));unfold cl kW;refine dD (aK qm (aX (cC (λj s=>KY _ f.aG j s) gx KY.zero ?_ (λs h=>cV (aL (aj SB))))));intro j s hj hs;refine bO hj (λx x1 x2=>?_);have hz:=hs.at ah;refine aF (hC x x2) (aF (fW _ _ |>.trans hz) (aX (ay (aj ?_))));rw[Int.toNat_natCast];exact hs.set x1
open Go.RowKit
attribute [local irreducible] gL dH br gY jP dK fC kY
structure de where
 MJ:dC
 iM:List au
 oT:List aZ
 lB:Int
def Jp(x:de):List DV:=[.int .u8 x.MJ.aY,.sl 1 (List.map (DV.int .u8) x.MJ.fJ),.sl 4 (List.map Jq x.MJ.aG),.sl 7 (List.map df x.iM),.sl 4 (List.map du x.oT),.int .u8 x.lB]
structure dJ where
 eX:cR
 iM:bW
 oT:List aZ
 lB:Int
def uT(x:dJ):List DV:=[.iv (sC x.eX),.sl 7 (List.map df x.iM.ba),.sl 4 (List.map du x.oT),.int .i64 x.lB]
@[reducible] def qK(s9:Int×Int):Option Int :=Bi (Bp ⟨#[0,1,2,2,3,3,3,3,4,4,4,4,4,4,4,4,5,5,5,5,5,5,5,5,5,5,5,5,5,5,5,5,6,6,6,6,6,6,6,6,6,6,6,6,6,6,6,6,6,6,6,6,6,6,6,6,6,6,6,6,6,6,6,6,7,7,7,7,7,7,7,7,7,7,7,7,7,7,7,7,7,7,7,7,7,7,7,7,7,7,7,7,7,7,7,7,7,7,7,7,7,7,7,7,7,7,7,7,7,7,7,7,7,7,7,7,7,7,7,7,7,7,7,7,7,7,7,7,8,8,8,8,8,8,8,8,8,8,8,8,8,8,8,8,8,8,8,8,8,8,8,8,8,8,8,8,8,8,8,8,8,8,8,8,8,8,8,8,8,8,8,8,8,8,8,8,8,8,8,8,8,8,8,8,8,8,8,8,8,8,8,8,8,8,8,8,8,8,8,8,8,8,8,8,8,8,8,8,8,8,8,8,8,8,8,8,8,8,8,8,8,8,8,8,8,8,8,8,8,8,8,8,8,8,8,8,8,8,8,8,8,8,8,8,8,8,8,8,8,8,8,8,8,8,8,8]⟩ (IntKind.wrap .u8 s9.1)) λv8=>some (IntKind.wrap .i64 (s9.2+(IntKind.wrap .i64 v8)))
@[reducible] def qL(wN:Int×Int):Option Int :=jn qK 7 [] [] [] (λs t=>(0,.int .u64 s.1)::(2,.I s.2)::t) i2<|If (decide (256<=wN.1)) (nX [] [] (qK ((Int.fdiv wN.1 (2^min (Int.toNat 8) (IntKind.bits .u64))),(IntKind.wrap .i64 (wN.2+8)))))<|nX [] [] (qK (wN.1,wN.2))
@[reducible] def qM(rG:Int×Int):Option Int :=jn qL 4 [] [] [] (λs t=>(0,.int .u64 s.1)::(2,.I s.2)::t) i2<|If (decide (65536<=rG.1)) (nX [] [] (qL ((Int.fdiv rG.1 (2^min (Int.toNat 16) (IntKind.bits .u64))),(IntKind.wrap .i64 (rG.2+16)))))<|nX [] [] (qL (rG.1,rG.2))
def Cg(x0:Int):Option Int :=jn qM 1 [] [] [] (λs t=>(0,.int .u64 s.1)::(2,.I s.2)::t) i2<|If (decide (4294967296<=x0)) (nX [] [] (qM ((Int.fdiv x0 (2^min (Int.toNat 32) (IntKind.bits .u64))),32)))<|nX [] [] (qM (x0,0))
instance Xl{x0}:MC (Cg x0) λr=>br prog 153 [.int .u64 x0] (.I r):=.p func153 ntmps153
def rB(x0:Int):Option Int :=Bi (Cg x0) λv2=>some v2
instance aa2{x0}:MC (rB x0) λr=>br prog 185 [.int .u64 x0] (.I r):=.p func185 ntmps185
def qS(x0:Int):Option Bool :=some (x0 != x0)
instance Sj{x0}:MC (qS x0) λr=>br prog 251 [.int .u8 x0] (.bool r):=.p func251 ntmps251
def oJ(x0:Int)(x1:Int):Option Int :=Bi (qS x0) λv2=>Bi (qS x1) λv4=>If v2 (If v4 (some 0)<|some (-1))<|If v4 (some 1)<|If (decide (x0<x1)) (some (-1))<|If (decide (x1<x0)) (some 1)<|some 0
instance Ps{x0 x1}:MC (oJ x0 x1) λr=>br prog 187 [.int .u8 x0,.int .u8 x1] (.I r):=.p func187 ntmps187
def rD(x0:Int):Option Bool :=some (x0 != x0)
instance aa5{x0}:MC (rD x0) λr=>br prog 252 [.I x0] (.bool r):=.p func252 ntmps252
def ff(x0:Int)(x1:Int):Option Int :=Bi (rD x0) λv2=>Bi (rD x1) λv4=>If v2 (If v4 (some 0)<|some (-1))<|If v4 (some 1)<|If (decide (x0<x1)) (some (-1))<|If (decide (x1<x0)) (some 1)<|some 0
instance XJ{x0 x1}:MC (ff x0 x1) λr=>br prog 188 [.I x0,.I x1] (.I r):=.p func188 ntmps188
def wJ(x0:List Int):Option Int :=fO (E:=Int) () 8 [] [3,6,7] [] i2 i2 [] [] m64 (x0.length:Int) (λk1 _=>Bi (idx x0 (k1:Int)) λv4=>If (v4 != 0) (some (.done v4))<|nX [] [] (some (.next ()))) fun
  |.next _=>some 0
  |.done r=>some r
instance ah3{x0}:MC (wJ x0) λr=>br prog 186 [.L 1 (DV.int .i64) x0] (.I r):=.p func186 ntmps186
def ko(x0:aI)(x1:aI):Option Int :=Bi (oJ x0.bC x1.bC) λv2=>Bi (ff x0.gA x1.gA) λv4=>Bi (ff x0.gB x1.gB) λv6=>Bi (ff x0.gN x1.gN) λv8=>eE 25 (bA 1 (DV.int .i64)) [v2,v4,v6,v8] λv9=>Bi (wJ v9) λv11=>some v11
instance ZZ{x0 x1}:MC (ko x0 x1) λr=>br prog 121 [.agg (cU x0),.agg (cU x1)] (.I r):=⟨λhM=>by unfold ko at hM;exact pbz func121 ntmps121 (wz [25])⟩
def Gm(x0:au)(x1:au):Option Int :=Bi (ko x0.cQ x1.cQ) λv2=>some v2
instance adt{x0 x1}:MC (Gm x0 x1) λr=>br prog 120 [.agg (yo x0),.agg (yo x1)] (.I r):=.p func120 ntmps120
def ic(x1:Int)(x2:Int)(o0:List au):Option (List au) :=wL (E:=(List au)) (o0,(IntKind.wrap .i64 (x1+1))) [9000] [0,1,2,3] [] (λs t=>(8,.I s.2)::t) (λs t=>(9000,some (.R 176 7 df s.1))::t) [] [] (λs3=>If (decide (s3.2<x2)) (wL (E:=(List au)) (s3.1,s3.2) [9000] [0,1,2,3,8] [] (λs t=>(9,.I s.2)::t) (λs t=>(9000,some (.R 176 7 df s.1))::t) [] [] (λs6=>Bi (gb (decide (x1<s6.2)) (au.mk (aI.mk 0 0 0 0) 0 0 []) (idx s6.1 s6.2)) λv8=>Bi (gb (decide (x1<s6.2)) (au.mk (aI.mk 0 0 0 0) 0 0 []) (idx s6.1 (IntKind.wrap .i64 (s6.2-1)))) λv10=>Bi (gb (decide (x1<s6.2)) (0) (Gm v8 v10)) λv12=>If ((decide (x1<s6.2))&&(decide (v12<0))) (Bi (idx s6.1 (IntKind.wrap .i64 (s6.2-1))) λll=>Bi (idx s6.1 s6.2) λmA=>eE 51 df ll λoi=>Bi (idx (List.set s6.1 (Int.toNat s6.2) oi) (IntKind.wrap .i64 (s6.2-1))) λxa=>eE 52 df mA λv20=>nX [] [] (some (.next ((List.set (List.set s6.1 (Int.toNat s6.2) oi) (Int.toNat (IntKind.wrap .i64 (s6.2-1))) v20),(IntKind.wrap .i64 (s6.2-1))))))<|some (.done s6.1)) λe21=>nX [] [] (some (.next (e21,(IntKind.wrap .i64 (s3.2+1))))))<|some (.done s3.1)) λe22=>rX [] (some e22)
instance Bq{x1 x2 o0}:MA (ic x1 x2 o0) prog 242 (λ_=>1) λr=>⟨[.row 9000,.I x1,.I x2,.val (.func (.func 120) #[] #[])],[(9000,some (.R 176 7 df o0))],.gh [],[(9000,some (.R 176 7 df r))],[]⟩:=.e func242 ntmps242
@[reducible] def lO(s3:Unit):Option (List au) :=none
def jr(x1:Int)(x2:Int)(x3:Int)(o0:List au):Option (List au) :=o1<|If (decide ((IntKind.wrap .i64 (x2-x1))<=12)) (Bi (cl 30 [] (ic x1 x2 o0)) λv2=>rX [] (some v2))<|If (x3==0) (none)<|jn lO 7 [9000] [0,1,2,3,4,10,11,12] [9000] i2 i2<|If (!true) (none)<|nX [] [] (lO ())
instance Eg{x1 x2 x3 o0}:MA (jr x1 x2 x3 o0) prog 184 (λ_=>1) λr=>⟨[.row 9000,.I x1,.I x2,.I x3,.val (.func (.func 120) #[] #[])],[(9000,some (.R 176 7 df o0))],.gh [],[(9000,some (.R 176 7 df r))],[]⟩:=.e func184 ntmps184
def iu(o0:List au):Option (List au) :=Bi (rB (IntKind.wrap .u64 (o0.length:Int))) λv2=>Bi (cl 13 [] (jr 0 (o0.length:Int) v2 o0)) λv4=>rX [] (some v4)
instance Cc{o0}:MA (iu o0) prog 119 (λ_=>1) λr=>⟨[.row 9000,.val (.func (.func 120) #[] #[])],[(9000,some (.R 176 7 df o0))],.gh [],[(9000,some (.R 176 7 df r))],[]⟩:=.e func119 ntmps119
def Fp(x0:List au):Option (bW×Int) :=fO (E:=bW×Int) () 13 [] [0,2,11,12] [2] i2 i2 [] [] m64 (x0.length:Int) (λk1 _=>Bi (idx x0 (k1:Int)) λuj=>Bi (vG uj) λua=>If (ua != 0) (some (.done ((bW.mk []),ua)))<|nX [] [] (some (.next ()))) fun
  |.next _=>Ck (kY 72 0 (x0.length:Int))<|eE 26 df (au.mk (aI.mk 0 0 0 0) 0 0 []) λ_=>fL ([]:List au) 29 [] [2,27,28] [2] (λ_ t=>(7,.row 1001)::t) (λs t=>(1001,some (.R 176 7 df s))::t) [] [(1001,26)] m64 (x0.length:Int) (λk4 s6=>Bi (idx x0 (k4:Int)) λoi=>Bi (vD oi) λxa=>eE 36 (bA 7 df) [xa] λv20=>Ck (dK 72 (s6.length+List.length v20))<|nX [] [(1001,37)] (some (s6++v20))) λs6=>Bi (cl 40 [(9000,1001)] (iu s6)) λv8=>wL (E:=(Unit)⊕(bW×Int)) 1 [] [2] [2] (λs t=>(7,.L 7 df v8)::(10,.I s)::t) i2 [.z 1001] [] (λwN=>If (decide (wN<(v8.length:Int))) (Bi (idx v8 wN) λv12=>Bi (idx v8 (IntKind.wrap .i64 (wN-1))) λll=>If ((v12.cQ.bC==ll.cQ.bC)&&((v12.cQ.gA==ll.cQ.gA)&&((v12.cQ.gB==ll.cQ.gB)&&((v12.cQ.gN==ll.cQ.gN)&&true)))) (some (.done (.inr ((bW.mk []),5))))<|nX [] [] (some (.next (IntKind.wrap .i64 (wN+1)))))<|some (.done (.inl ()))) fun
    |.inl _=>If (decide (96<(v8.length:Int))) (some ((bW.mk []),3))<|some ((bW.mk v8),0)
    |.inr r=>some r
  |.done r=>some r
instance ah5{x0}:MC (Fp x0) λr=>br prog 65 [.L 7 df x0] (.gh [.agg (zQ r.1),.I r.2]):=.p func65 ntmps65
def Du(x0:bu):Option ((cR)⊕(Int)) :=Bi (cl 9 [] (vB x0)) λv2=>sm v2 (λtN=>Bi (vf x0) λv4=>Bi (xb x0) λv6=>Ck (ByteArray.size v4<=9223372036854775807)<|Bi (yP (bytesOf v4)) λv9=>wk [.b 25]<|rX [] (some (.inl (cR.mk v6 v4 v9 tN)))) λTr=>If (Tr != 0) (rX [] (some (.inr Tr)))<|Bi (vf x0) λv4=>Bi (xb x0) λv6=>Ck (ByteArray.size v4<=9223372036854775807)<|Bi (yP (bytesOf v4)) λv9=>none
instance akQ{x0}:MA (Du x0) prog 63 (λ| .inl _=>0 | .inr _=>0) λ| .inl r=>⟨[.agg (tF x0)],[],.gh [.iv (sC r),.I 0],[],[]⟩ | .inr r=>⟨[.agg (tF x0)],[],.gh [.val (.pointer none),.I r],[],[]⟩:=⟨fun {r} hM=>by unfold Du at hM;rcases r with r|r <;> exact ab func63 ntmps63⟩
def pq(x0:dC):Option ((cR×dW)⊕(dW)) :=Bi (sL x0) λv2=>Bi (kR v2) λv4=>Bi (cl 12 [] (Du v4)) λv6=>sm v6 (λawm=>rX [] (some (.inl (awm,v2)))) λawn=>If (awn != 0) (rX [] (some (.inr v2)))<|rX [] (some (.inr v2))
instance Qs{x0}:MA (pq x0) prog 30 (λ| .inl _=>0 | .inr _=>0) λ| .inl r=>⟨[.agg (NI x0)],[],.gh [.iv (sC r.1),.agg (Jo r.2)],[],[]⟩ | .inr r=>⟨[.agg (NI x0)],[],.gh [.val (.pointer none),.agg (Jo r)],[],[]⟩:=⟨fun {r} hM=>by unfold pq at hM;rcases r with r|r <;> exact ab func30 ntmps30⟩
def qC(x0:List au):Option (bW×Bool) :=Bi (Fp x0) λv2=>some (v2.1,(v2.2==0))
instance Ru{x0}:MC (qC x0) λr=>br prog 31 [.L 7 df x0] (.gh [.agg (zQ r.1),.bool r.2]):=.p func31 ntmps31
def pj(x0:de):Option (dJ×dW×Bool) :=Bi (cl 12 [] (pq x0.MJ)) λv2=>sm v2 (λtN=>Bi (jV x0.iM 10) λv4=>Bi (qC v4) λv6=>Bi (jA x0.oT 3) λv8=>Ck ((0:Int)<=x0.lB∧(0:Int)<13)<|some ((dJ.mk tN.1 v6.1 v8 (IntKind.wrap .i64 (x0.lB % 13))),tN.2,v6.2)) λTr=>Bi (jV x0.iM 10) λv4=>Bi (qC v4) λv6=>Bi (jA x0.oT 3) λv8=>Ck ((0:Int)<=x0.lB∧(0:Int)<13)<|none
instance Qr{x0}:MC (pj x0) λr=>br prog 13 [.agg (Jp x0)] (.gh [.agg (uT r.1),.agg (Jo r.2.1),.bool r.2.2]):=.p func13 ntmps13
end Go.Proofs.YtaafmkmdfcgeaaaGreatDoor
namespace Go.Proofs.YtaafmkmdfcgeaaaGreatDoor
open Go.Proofs.Tryz
def I6(x:Int):Prop:=-9223372036854775808<=x∧x<=9223372036854775807
structure ChD(c:au):Prop where
 k0:0<=c.cQ.bC
 k1:c.cQ.bC<=255
 a:I6 c.cQ.gA
 b:I6 c.cQ.gB
 n:I6 c.cQ.gN
 at_:I6 c.Cl
 d:I6 c.gD
 args:∀x∈c.cE,I6 x
structure BV(c:au):Prop where
 k0:1<=c.cQ.bC
 k1:c.cQ.bC<=9
 a0:0<=c.cQ.gA
 a1:c.cQ.gA<=2
 b0:0<=c.cQ.gB
 b1:c.cQ.gB<=2
 n0:0<=c.cQ.gN
 n1:c.cQ.gN<=3
 bz:c.cQ.bC=2∨c.cQ.bC=3∨c.cQ.bC=4∨c.cQ.bC=8∨c.cQ.bC=9->c.cQ.gB=0
 t0:0<=c.Cl
 t1:c.Cl<=12
 tz:5<=c.cQ.bC->c.Cl=0
 d0:0<=c.gD
 d1:c.gD<=5
 dz:c.cQ.bC=1∨c.cQ.bC=4∨c.cQ.bC=5∨c.cQ.bC=8->c.gD=0
 dp:c.cQ.bC=3∨c.cQ.bC=6∨c.cQ.bC=9->1<=c.gD
 d2:c.cQ.bC=2->c.gD<=1
 d3:c.cQ.bC=3->c.gD<=3
 ar:c.cE.length<=2
 arz:c.cQ.bC≠1->c.cE = []
 args:∀x∈c.cE,I6 x
theorem pT{x n:Int}(hx:I6 x)(n0:0<n)(n1:n<=1000):Wp (dm x n) λr=>0<=r∧r<n:=by
 refine aK ah (aK ah (aj ?_));have h1:=Int.tmod_lt_of_pos x n0;have h2:-n<x.tmod n:=Int.lt_tmod_of_pos x n0;rw[wrap_i64 (n:=x.tmod n+n) ah ah];exact⟨Int.tmod_nonneg _ ah,Int.tmod_lt_of_pos _ n0⟩
def oM(k:aI):Int:=k.bC*1000000+k.gA*10000+k.gB*100+k.gN
structure KB(k:aI):Prop where
 a0:0<=k.gA
 a1:k.gA<=9
 b0:0<=k.gB
 b1:k.gB<=9
 n0:0<=k.gN
 n1:k.gN<=9
theorem BV.kb{c:au}(h:BV c):KB c.cQ:=by
 obtain⟨_,_,a0,a1,b0,b1,n0,n1,_⟩:=h;exact⟨a0,ah,b0,ah,n0,ah⟩
theorem aht{x y:aI}(hx:KB x)(hy:KB y):ph x y=some (decide (oM x<oM y)):=by
 obtain⟨a0,a1,b0,b1,n0,n1⟩:=hx;obtain⟨c0,c1,d0,d1,m0,m1⟩:=hy;unfold ph oM;refine dD (aq (λh=>aj ?_) (λh=>aq (λh2=>aj ?_) (λh2=>aq (λh3=>aj ?_) (λh3=>aj ?_))))
 .have:x.bC≠y.bC:=by grind
  exact decide_eq_decide.2 ⟨λ_=>ah,λ_=>ah⟩
 .have:x.bC=y.bC:=by grind
  have:x.gA≠y.gA:=eJ;exact decide_eq_decide.2 ⟨λ_=>ah,λ_=>ah⟩
 .have:x.bC=y.bC:=by grind
  have:x.gA=y.gA:=eJ;have:x.gB≠y.gB:=eJ;exact decide_eq_decide.2 ⟨λ_=>ah,λ_=>ah⟩
 simp_all
theorem acM{x y:aI}(hx:KB x)(hy:KB y):((x.bC==y.bC)&&((x.gA==y.gA)&&((x.gB==y.gB)&&((x.gN==y.gN)&&true))))=decide (oM x=oM y):=by
 obtain⟨a0,a1,b0,b1,n0,n1⟩:=hx;obtain⟨c0,c1,d0,d1,m0,m1⟩:=hy;unfold oM
 by_cases h:x.bC=y.bC∧x.gA=y.gA∧x.gB=y.gB∧x.gN=y.gN
 .simp_all
 .rw[decide_eq_false ah]
  simp_all
def VY(l:List au):Prop:=l.Pairwise λa b=>oM a.cQ<oM b.cQ
structure Ins(s:List au)(c:au)(j:Nat)(t:List au×Bool):Prop where
 mem:∀x∈t.1,x∈s∨x=c
 srt:VY t.1
 len:t.1.length<=j+1
 aJZ:t.2=false->t.1.length<=j
 lt:t.2=false->∀x∈t.1,oM x.cQ<oM c.cQ
 rest:∀(i:Nat) (x:au),j<=i->s[i]? = some x->∀y∈t.1,oM y.cQ<oM x.cQ
theorem VY.snoc{l:List au}{x:au}(h:VY l)(k:∀y∈l,oM y.cQ<oM x.cQ):VY (l++[x]):=by
 unfold VY;rw[List.pairwise_append];exact⟨h,aR,λa ha b hb=>eJ⟩
theorem VY.ix{l:List au}(h:VY l){i j:Nat}{x y:au}(hx:l[i]? = some x)(hy:l[j]? = some y)(DM:i<j):oM x.cQ<oM y.cQ:=by
 obtain⟨hi,rfl⟩:=List.getElem?_eq_some_iff.1 hx;obtain⟨hj,rfl⟩:=List.getElem?_eq_some_iff.1 hy;exact(List.pairwise_iff_getElem.1 h) i j hi hj DM
theorem aio{l:List au}(hl:l.length<=1000)(hk:∀x∈l,KB x.cQ):Wp (mo l) λr=>VY r∧(∀x∈r,x∈l)∧r.length<=l.length:=by
 unfold mo;refine cC (λj s=>VY s∧(∀x∈s,x∈l)∧s.length<=j) gx ⟨List.Pairwise.nil,aR,aR⟩ ?_ (λs h=>aj aep);rintro j s hj ⟨s1,s2,s3⟩;refine cX (bO hj (λc c1 c2=>?_));have kc0:=hk c c2;refine cC (λi t=>Ins s c i t) gx ⟨aR,List.Pairwise.nil,aR,aR,aR,aR⟩ ?_ ?_
 .rintro i ⟨t,dn⟩ hi ⟨g1,g2,g3,g4,g5,g6⟩
  dsimp only at g1 g2 g3 g4 g5 g6 |-;refine bO hi (λx x1 x2=>?_);have kx:=hk x (s2 x x2);rw[acM kx kc0]
  -- x is put behind what there is
  have put:∀(t':List au) (d':Bool),(∀y∈t',y∈s∨y=c)->VY t'->t'.length<=i+1->(d'=false->t'.length<=i∧∀y∈t',oM y.cQ<oM c.cQ)->(d'=false->oM x.cQ<oM c.cQ)->(∀y∈t',oM y.cQ<oM x.cQ)->Wp (mN x (t',d')) (Ins s c (i+1)):=by
   intro t' d' h1 h2 h3 h4 h5 h6;refine aX (aK (yk bB aV) (ay (aj ⟨λy hy=>?_,h2.snoc h6,iC,λe=>by have:=(h4 e).1;simp;omega,λe y hy=>?_,λm y hm hy z hz=>?_⟩)))
   .rcases List.mem_append.1 hy with hy|hy
    .exact h1 y hy
    .simp at hy;subst hy;exact .inl x2
   .rcases List.mem_append.1 hy with hy|hy
    all_goals simp_all
   .have hxy:=s1.ix x1 hy ah
    rcases List.mem_append.1 hz with hz|hz
    .have:=h6 z hz;omega
    .simp at hz;subst hz;exact hxy
  have hx6:=g6 i x (Nat.le_refl _) x1
  have k3:∀d':Bool,(d'=false->dn=false∧oM x.cQ≠oM c.cQ)->Wp (mO c t x d') (Ins s c (i+1)):=by
   intro d' hd;refine cX ?_;refine av (P:=λb=>d'=false->b=decide (oM c.cQ<oM x.cQ)) (gX (λ_=>⟨_,aht kc0 kx,λ_=>rfl⟩) (λh e=>VF)) (λb hb=>?_);refine aq (λh=>?_) (λh=>?_)
   .have hd':d'=false:=by simp_all
    have my:oM c.cQ<oM x.cQ:=by rw[hb hd',hd']at h;simpa using h
    obtain⟨h1,h2⟩:=hd hd';refine aX (aK (yk ah aV) (ay (put _ true (λy hy=>?_) (g2.snoc (g5 h1)) (by have:=g4 h1;simp;omega) aR aR (λy hy=>?_))))
    .rcases List.mem_append.1 hy with hy|hy
     .exact g1 y hy
     .simp at hy;exact .inr hy
    .rcases List.mem_append.1 hy with hy|hy
     .exact hx6 y hy
     .simp at hy;subst hy;exact my
   .refine ay (put t d' g1 g2 g3 (λe=>?_) (λe=>?_) hx6)
    .obtain⟨h1,h2⟩:=hd e
     exact⟨g4 h1,g5 h1⟩
    .obtain⟨h1,h2⟩:=hd e
     rw[hb e,e]at h;have:¬oM c.cQ<oM x.cQ:=DB;omega
  refine cX (aq (λh=>ay (k3 true aR)) (λh=>ay (k3 dn (λe=>⟨e,of_decide_eq_false h⟩))))
 .rintro⟨t,dn⟩ ⟨g1,g2,g3,g4,g5,g6⟩
  dsimp only at g1 g2 g3 g4 g5 g6 |-;rw[Int.toNat_natCast]at g3 g4
  have mem:∀x∈t,x∈l:=λx hx=>by
   rcases g1 x hx with h|rfl
   .exact s2 x h
   .exact c2
  refine cX (aq (λh=>?_) (λh=>?_))
  .have hd:dn=false:=by simpa using h
   have:=g4 hd;refine aX (aK (yk ah aV) (ay (ay (ay (aj ⟨g2.snoc (g5 hd),λx hx=>?_,iC⟩)))));rcases List.mem_append.1 hx with hx|hx
   .exact mem x hx
   .simp at hx;subst hx;exact c2
  .exact ay (ay (ay (aj ⟨g2,mem,ah⟩)))
theorem Wh{l:List au}(hl:l.length<=9223372036854775807)(hd:∀c∈l,ChD c):Wp (jV l 10) λr=>VY r∧(∀c∈r,BV c)∧r.length<=10:=by
 unfold jV;refine jR (λs=>0<=s.2∧s.2<=10∧s.1.length<=s.2.toNat∧∀c∈s.1,BV c) (λs=>(10-s.2).toNat) ⟨Int.le_refl _,fF,aR,aR⟩ fF ?_;rintro⟨out,k⟩ ⟨k0,k1,k2,k3⟩;dsimp only at k0 k1 k2 k3 |-;refine aq (λhb=>?_) (λhb=>aj (cV ?_))
 .obtain⟨ND,Ap⟩:k<(l.length:Int)∧k<10:=by simpa using hb
  refine cX (fE k0 ND (λc c1 c2=>?_));have h:=hd c c2;have q0:=h.k0;have q1:=h.k1;have u8a:IntKind.wrap .u8 (c.cQ.bC % 9+9)=c.cQ.bC % 9+9:=wrap_u8 ah ah;rw[u8a];obtain⟨kd,hkd,kd1,kd9⟩:∃kd:Int,IntKind.wrap .u8 (1+(c.cQ.bC % 9+9) % 9)=kd∧1<=kd∧kd<=9:=⟨_,rfl,aeq,aeq⟩;refine aK ⟨q0,aV⟩ (aK ah ?_);refine av (pT h.a aV aV) (λa ha=>?_);refine av (pT h.n aV aV) (λn hn=>?_)
  have fin:∀(b t d:Int) (ar:List Int),BV ⟨⟨kd,a,b,n⟩,t,d,ar⟩->Wp (ed out k c a n (b,t,d,ar)) (Rdn (λs=>(0<=s.2∧s.2<=10∧s.1.length<=s.2.toNat∧∀c∈s.1,BV c)∧(10-s.2).toNat<(10-k).toNat) λe=>Wp (wk [.z 1001]<|Bi (mo e) λQK=>some QK) λr=>VY r∧(∀c∈r,BV c)∧r.length<=10):=by
   intro b t d ar Ao;unfold ed;rw[u8a,hkd];refine cV (aX (aK (yk ah aV) (ay (ay (aj ?_)))));rw[wrap_i64 (n:=k+1) ah ah];refine⟨⟨bB,bB,iC,λx hx=>?_⟩,bB⟩;rcases List.mem_append.1 hx with hx|hx
   .exact k3 x hx
   .simp at hx;subst hx;exact Ao
  have mk:∀{b t d:Int} {ar:List Int},0<=b∧b<3->(kd=2∨kd=3∨kd=4∨kd=8∨kd=9->b=0)->0<=t∧t<13->(5<=kd->t=0)->0<=d∧d<=5->(kd=1∨kd=4∨kd=5∨kd=8->d=0)->(kd=3∨kd=6∨kd=9->1<=d)->(kd=2->d<=1)->(kd=3->d<=3)->ar.length<=2->(kd≠1->ar = [])->(∀x∈ar,I6 x)->BV ⟨⟨kd,a,b,n⟩,t,d,ar⟩:=by
   intro b t d ar hb hbz ht htz hd hdz hdp hd2 hd3 har harz hari;exact⟨kd1,kd9,ha.1,bB,hb.1,bB,hn.1,bB,hbz,ht.1,bB,htz,hd.1,hd.2,hdz,hdp,hd2,hd3,har,harz,hari⟩
  rw[hkd];have eqk:∀{v:Int},(kd==v)=true->kd=v:=λh=>DB
  have nek:∀{v:Int},(kd==v)=false->kd≠v:=λh=>DB
  refine cX (aq (λh1=>?_) (λh1=>?_))
  .have:=eqk h1
   have Em:c.cE.length<=c.cE.length:=Nat.le_refl _;refine av (pT h.b aV aV) (λb hb=>?_);refine av (pT h.at_ aV aV) (λt ht=>?_)
   have hal:(List.take (Int.toNat (if 2<(c.cE.length:Int)then 2 else(c.cE.length:Int))) c.cE).length<=2:=by
    rw[List.length_take];split <;> omega
   refine aK Nq (aK (Iu ah aV) (ay (fin _ _ _ _ (mk hb ah ht ah ah ah ah ah ah hal ah (λx hx=>h.args x (List.mem_of_mem_take hx))))))
  have e1:=nek h1;refine aq (λh2=>?_) (λh2=>?_)
  .have:=eqk h2
   refine av (pT h.at_ aV aV) (λt ht=>av (pT h.d aV aV) (λd hd=>ay (fin _ _ _ _ (mk ah ah ht ah ah ah ah ah ah aR aR aR))))
  have e2:=nek h2;refine aq (λh3=>?_) (λh3=>?_)
  .have:=eqk h3
   refine av (pT h.at_ aV aV) (λt ht=>av (pT h.d aV aV) (λd hd=>?_));rw[wrap_i64 (n:=1+d) ah ah];exact ay (fin _ _ _ _ (mk ah ah ht ah ah ah ah ah ah aR aR aR))
  have e3:=nek h3;refine aq (λh4=>?_) (λh4=>?_)
  .have:=eqk h4
   refine av (pT h.at_ aV aV) (λt ht=>ay (fin _ _ _ _ (mk ah ah ht ah ah ah ah ah ah aR aR aR)))
  have e4:=nek h4;refine aq (λh5=>?_) (λh5=>?_)
  .have:=eqk h5
   refine av (pT h.b aV aV) (λb hb=>ay (fin _ _ _ _ (mk ah ah ah ah ah ah ah ah ah aR aR aR)))
  have e5:=nek h5;refine aq (λh6=>?_) (λh6=>?_)
  .have:=eqk h6
   refine av (pT h.b aV aV) (λb hb=>av (pT h.d aV aV) (λd hd=>?_));rw[wrap_i64 (n:=1+d) ah ah];exact ay (fin _ _ _ _ (mk ah ah ah ah ah ah ah ah ah aR aR aR))
  have e6:=nek h6;refine aq (λh7=>?_) (λh7=>?_)
  .have:=eqk h7
   refine av (pT h.b aV aV) (λb hb=>av (pT h.d aV aV) (λd hd=>ay (fin _ _ _ _ (mk ah ah ah ah ah ah ah ah ah aR aR aR))))
  have e7:=nek h7;refine aq (λh9=>?_) (λh9=>?_)
  .have:=eqk h9
   refine av (pT h.d aV aV) (λd hd=>?_);rw[wrap_i64 (n:=1+d) ah ah];exact ay (fin _ _ _ _ (mk ah ah ah ah ah ah ah ah ah aR aR aR))
  have e9:=nek h9;exact ay (fin _ _ _ _ (mk ah ah ah ah ah ah ah ah ah aR aR aR))
 .refine av (aio ah (λx hx=>(k3 x hx).kb)) ?_
  rintro r ⟨r1,r2,r3⟩;exact aj ⟨r1,λc hc=>k3 c (r2 c hc),ah⟩
theorem Au{x a b:Int}(h:a<=x∧x<=b):ng x a b=some true:=by
 unfold ng
 simp_all
theorem Sk{k:aI}{b:Int}(ha:0<=k.gA∧k.gA<=7)(hb:0<=k.gB∧k.gB<=b)(hn:0<=k.gN∧k.gN<=65535):iP k b=some 0 :=
 dD (aF (Au ha) (jK rfl (Au hb) (jK rfl (Au hn) (aq (λh=>dI) (λ_=>aj rfl)))))
theorem yY{x v:Int}(h:(x==v)=true):x=v:=nV
theorem xj{x v:Int}(h:(x==v)=false):x≠v:=nV
theorem SY{c:au}(h:BV c):xJ c.cQ=some 0:=by
 obtain⟨k0,k1,a0,a1,b0,b1,n0,n1,bz,_⟩:=h;have k7:iP c.cQ 7=some 0:=Sk ⟨a0,ah⟩ ⟨b0,ah⟩ ⟨n0,ah⟩;have kz:c.cQ.gB=0->iP c.cQ 0=some 0:=λe=>Sk ⟨a0,ah⟩ ⟨b0,ah⟩ ⟨n0,ah⟩
 have k2:∀b:Bool,(b=false->c.cQ.gB=0)->Wp (nG c.cQ b) (· = 0):=λb hb=>aq (λ_=>ay (pG k7)) (λh=>ay (pG (kz (hb h))))
 refine dD (aq (λh=>EE) (λ_=>cX (aq (λ_=>ay (pG k7)) (λh1=>aq (λh2=>ay (pG (kz ?_))) (λh2=>cX ?_)))))
 .simp_all
 .have:=xj h1;refine aq (λh5=>ay (k2 _ ?_)) (λh5=>aq (λh6=>ay (k2 _ ?_)) (λh6=>ay (k2 _ ?_)))
  .simp_all
  .simp_all
  .intro e;have:=xj e;have:=xj h5;have:=xj h6;omega
theorem DZ{c:au}{a:Int}{s:Int×Int×Int}(ha:0<=c.Cl∧c.Cl<=a)(hd:s.1<=c.gD∧c.gD<=s.2.1)(hl:(c.cE.length:Int)<=s.2.2):ky c a s=some 0 :=
 dD (aF (Au ha) (jK rfl (Au hd) (aq (λh=>EE) (λ_=>aj rfl))))
theorem afn{c:au}(h:BV c):vG c=some 0:=by
 have hk:=SY h;obtain⟨k0,k1,a0,a1,b0,b1,n0,n1,bz,t0,t1,tz,d0,d1,dz,dp,d2,d3,ar,arz,_⟩:=h;have l0:c.cQ.bC≠1->(c.cE.length:Int)<=0:=λe=>by rw[arz e];exact Int.le_refl _
 unfold vG
 have K3:∀(a:Int) (b:Bool),c.Cl<=a->b=(decide (c.cQ.bC=6)||decide (c.cQ.bC=9))->c.cQ.bC≠1->c.cQ.bC≠2->c.cQ.bC≠3->Wp (ue c a b) (· = 0):=by
  intro a b ha hb h1 h2 h3;have l0:=l0 h1;refine aq (λh=>ay (pG (DZ ⟨t0,ha⟩ ⟨?_,?_⟩ l0))) (λh=>aq (λh7=>ay (pG (DZ ⟨t0,ha⟩ ⟨d0,bB⟩ l0))) (λh7=>ay (pG (DZ ⟨t0,ha⟩ ⟨d0,?_⟩ l0))))
  .simp_all
  .dsimp only;omega
  .rw[h]at hb
   have:¬(c.cQ.bC=6∨c.cQ.bC=9):=eJ;have:=xj h7;dsimp only;omega
 have K1:∀a:Int,c.Cl<=a->Wp (ug c a) (· = 0):=by
  intro a ha;refine cX (aq (λh=>ay (pG (DZ ⟨t0,ha⟩ ⟨d0,?_⟩ bB))) (λh1=>aq (λh=>ay (pG (DZ ⟨t0,ha⟩ ⟨d0,?_⟩ (l0 (xj h1))))) (λh2=>aq (λh=>ay (pG (DZ ⟨t0,ha⟩ ⟨?_,?_⟩ (l0 (xj h1))))) (λh3=>cX ?_))))
  .have:=yY h;dsimp only;omega
  .simp_all
  .have:=yY h;dsimp only;omega
  .have:=yY h;dsimp only;omega
  .have e1:=xj h1;have e2:=xj h2;have e3:=xj h3
   refine aq (λh=>ay (K3 a _ ha ?_ e1 e2 e3)) (λh=>ay (K3 a _ ha ?_ e1 e2 e3))
   .rw[yY h];rfl
   .have:=xj h;simp[this];rfl
 refine dD (aF hk (aq (λh=>dI) (λ_=>cX ?_)));unfold BL;refine mC (aj (aq (λh=>ay (K1 200 ah)) (λh=>ay (K1 0 ?_))));have:¬(c.cQ.bC=1∨c.cQ.bC=2∨c.cQ.bC=3∨c.cQ.bC=4):=EE;have:=tz ah;omega
theorem pC(a b:Int):ff a b=some (if a<b then -1 else if b<a then 1 else 0):=by
 unfold ff rD;refine dD (aF (x:=false) aR (aF (x:=false) aR (aq (λh=>dI) (λ_=>aq (λh=>dI) (λ_=>aq (λh=>?_) (λh=>aq (λh2=>?_) (λh2=>?_)))))))
 .have:a<b:=by grind
  exact aj ah
 .have h2:b<a:=by simp_all
  exact aj ah
 .have h1:¬a<b:=by grind
  have h2:¬b<a:=eJ;exact aj ah
theorem XK(a b:Int):oJ a b=some (if a<b then -1 else if b<a then 1 else 0):=by
 unfold oJ qS;refine dD (aF (x:=false) aR (aF (x:=false) aR (aq (λh=>dI) (λ_=>aq (λh=>dI) (λ_=>aq (λh=>?_) (λh=>aq (λh2=>?_) (λh2=>?_)))))))
 .have:a<b:=by grind
  exact aj ah
 .have h2:b<a:=by simp_all
  exact aj ah
 .have h1:¬a<b:=by grind
  have h2:¬b<a:=eJ;exact aj ah
def or0:List Int->Int
 |[]=>0
 |a::l=>if a≠0 then a else or0 l
theorem acg:∀(l:List Int) (j:Nat) (v:Int),(∀k<j,l[k]? = some 0)->l[j]? = some v->v≠0->or0 l=v
 |[],j,v,_,h,_=>AV
 |a::l,0,v,_,h,hv=>by simp at h;unfold or0;omega
 |a::l,j+1,v,h0,h,hv=>by
  have:=h0 0 ah;simp at this;subst this;exact acg l j v (λk hk=>by have:=h0 (k+1) ah;simpa using this) (by trivial) hv
theorem ai3:∀(l:List Int),(∀a∈l,a=0)->or0 l=0
 |[],_=>rfl
 |a::l,h=>by
  have:=h a aR;subst this;exact ai3 l (λb hb=>h b (by simp[hb]))
theorem Dz{l:List Int}(hl:l.length<=1000):wJ l=some (or0 l):=by
 refine dD (eS (λj _=>∀k,k<j->l[k]? = some 0) nV (λk h=>ah) ?_ ?_)
 .intro j _ hj hI
  refine bO hj (λv v1 v2=>aq (λh=>aj (aj ?_)) (λh=>ay (aj ?_)))
  .have:v≠0:=by grind
   exact(acg l j v hI v1 this).symm
  .have hv:v=0:=by grind
   intro k hk;rcases Nat.lt_or_ge k j with h|h
   .grind
   .obtain rfl:k=j:=by omega
    grind
 .intro _ hI
  refine aj (ai3 l (λa ha=>?_)).symm;obtain⟨k,hk,rfl⟩:=List.getElem_of_mem ha
  simp_all
theorem Kp{x y:aI}(hx:KB x)(hy:KB y):Wp (ko x y) λv=>(v<0↔oM x<oM y)∧(v=0↔oM x=oM y):=by
 obtain⟨a0,a1,b0,b1,n0,n1⟩:=hx;obtain⟨c0,c1,d0,d1,m0,m1⟩:=hy;have sg:∀a b:Int,∃v:Int,(if a<b then(-1:Int)else if b<a then 1 else 0)=v∧(v<0↔a<b)∧(v=0↔a=b):=λa b=>⟨_,rfl,ah,ah⟩
 obtain⟨v1,e1,f1,g1⟩:=sg x.bC y.bC;obtain⟨v2,e2,f2,g2⟩:=sg x.gA y.gA;obtain⟨v3,e3,f3,g3⟩:=sg x.gB y.gB;obtain⟨v4,e4,f4,g4⟩:=sg x.gN y.gN;unfold ko;rw[XK,pC,pC,pC,e1,e2,e3,e4];refine aF rfl (aF rfl (aF rfl (aF rfl (aX (aF (Dz aR) (aj ?_))))));unfold oM
 by_cases h1:v1=0
 .by_cases h2:v2=0
  .by_cases h3:v3=0
   .by_cases h4:v4=0
    .simp only[or0,h1,h2,h3,h4];simp;omega
    .simp only[or0,h1,h2,h3];simp[h4];omega
   .simp only[or0,h1,h2];omega
  .simp only[or0,h1];omega
 .simp only[or0];simp[h1];omega
theorem Kq{c:au}(h:BV c):vD c=some c:=by
 have:=h.ar;exact dD (aK (Iu ah aV) (cV (aj rfl)))
theorem atV{b:ByteArray}{i:Int}(h0:0<=i)(h1:i<b.size):Wp (Bp b i) λ_=>True:=by
 unfold Bp;rw[if_pos h0,getElem?_pos b i.toNat ah];exact⟨_,rfl,trivial⟩
theorem u8r(x:Int):0<=IntKind.wrap .u8 x∧IntKind.wrap .u8 x<256:=by
 show 0<=x % 256∧x % 256<256;omega
theorem PS(x:Int):Ji (rB x):=by
 have k3:∀s,Wp (qK s) λ_=>True:=λs=>av (atV (u8r _).1 (u8r _).2) (λ_ _=>aj trivial)
 have k2:∀s,Wp (qL s) λ_=>True:=λs=>cX (aq (λ_=>ay (k3 _)) (λ_=>ay (k3 _)))
 have k1:∀s,Wp (qM s) λ_=>True:=λs=>cX (aq (λ_=>ay (k2 _)) (λ_=>ay (k2 _)))
 exact av (P:=λ_=>True) (cX (aq (λ_=>ay (k1 _)) (λ_=>ay (k1 _)))) (λ_ _=>aj trivial)
theorem YX{l:List au}(hl:l.length<=10)(hs:VY l)(hk:∀c∈l,BV c):iu l=some l:=by
 refine dD (av (PS _) (λv _=>aF (x:=l) ?_ (aL (aj rfl))));unfold cl jr;refine dD (NT (aq (λ_=>aF (x:=l) ?_ (aL (aj rfl))) (λh=>?_)))
 .unfold cl ic
  refine dD (jR (λs=>s.1=l∧1<=s.2∧s.2<=100) (λs=>(100-s.2).toNat) ⟨rfl,fF,fF⟩ fF ?_);rintro⟨s,i⟩ ⟨rfl,i1,i2⟩;dsimp only at i1 i2 hl hs hk |-;refine aq (λhb=>?_) (λ_=>aj (aL (aj rfl)));have hi:i<(s.length:Int):=DD;refine jR (λt=>t=(s,i)) (λ_=>0) rfl aV ?_;rintro _ rfl;dsimp only;rw[wrap_i64 (n:=i-1) ah ah];obtain⟨x,x1,x2,x3⟩:=la (xs:=s) (i:=i) ah hi;obtain⟨y,y1,y2,y3⟩:=la (xs:=s) (i:=i-1) ah ah;have my:=hs.ix y2 x2 ah;refine jK iC x1 (jK iC y1 ?_);refine av (P:=λv=>¬v<0) (gX (λ_=>?_) (λh=>EE)) (λv hv=>?_)
  .exact av (Kp (hk x x3).kb (hk y y3).kb) (λv hv=>aj ah)
  .refine aq (λh=>EE) (λ_=>aj ?_)
   rw[wrap_i64 (n:=i+1) ah ah];exact ay (aj ⟨⟨rfl,ah,ah⟩,ah⟩)
 .rw[wrap_i64 ah ah]at h
  simp at h;omega
theorem ald{l:List au}(hl:l.length<=10)(hs:VY l)(hk:∀c∈l,BV c):Fp l=some (⟨l⟩,0):=by
 refine dD (eS (λ_ _=>True) nV trivial ?_ ?_)
 .intro j _ hj _
  exact bO hj (λc _ c2=>aF (afn (hk c c2)) (aq (λh=>dI) (λ_=>ay (aj trivial))))
 intro _ _;refine aK qm (aX ?_);refine cC (λj s=>MI (λa b=>b=a) l j s) gx MI.zero ?_ ?_
 .intro j s hj h
  exact bO hj (λc c1 c2=>aF (Kq (hk c c2)) (aX (aK (yk VE aV) (ay (aj (h.snoc c1 rfl))))))
 intro s hm;have:=Vh (f:=id) hm (λa b _ h=>h);rw[List.map_id]at this;subst this;refine aF (by unfold cl;exact YX hl hs hk) ?_;refine jR (λs'=>1<=s'∧s'<=100) (λs'=>(100-s').toNat) ⟨aV,aV⟩ aV ?_;rintro i ⟨i1,i2⟩;refine aq (λhb=>?_) (λ_=>aj (aq (λh=>EE) (λ_=>aj rfl)));have hi:i<(s.length:Int):=eJ;rw[wrap_i64 (n:=i-1) ah ah];obtain⟨x,x1,x2,x3⟩:=la (xs:=s) (i:=i) ah hi;obtain⟨y,y1,y2,y3⟩:=la (xs:=s) (i:=i-1) ah ah;have my:=hs.ix y2 x2 ah;refine aF x1 (aF y1 ?_);rw[acM (hk x x3).kb (hk y y3).kb,decide_eq_false ah];refine aq (λh=>dI) (λ_=>ay (aj ?_));rw[wrap_i64 (n:=i+1) ah ah];exact⟨ah,ah⟩
def ArD(a:cm):Prop:=I6 a.Cl∧I6 a.bU∧∀x∈a.cE,I6 x
def HdD(h:aZ):Prop:=I6 h.cA.gz∧I6 h.cA.uJ∧I6 h.cA.gN∧∀a∈h.gP,ArD a
structure afp(a:cm):Prop where
 t0:1<=a.Cl
 t1:a.Cl<=100
 h0:0<=a.bU
 h1:a.bU<=3
 al:a.cE.length<=2
 args:∀x∈a.cE,I6 x
structure afl(h:aZ):Prop where
 f0:0<=h.cA.gz
 f1:h.cA.gz<=2
 t0:0<=h.cA.uJ
 t1:h.cA.uJ<=2
 n0:0<=h.cA.gN
 n1:h.cA.gN<=3
 al:h.gP.length<=2
 ar:∀a∈h.gP,afp a
 up:h.gP.Pairwise λa b=>a.Cl<=b.Cl
def alf(a b:aZ):Prop:=¬(a.cA.gz=b.cA.gz∧a.cA.uJ=b.cA.uJ∧a.cA.gN=b.cA.gN)
theorem afj{l:List aZ}(hl:l.length<=9223372036854775807)(hd:∀h∈l,HdD h):Wp (jA l 3) λr=>(∀h∈r,afl h)∧r.length<=3∧r.Pairwise alf:=by
 unfold jA;refine jR (λs=>0<=s.2∧s.2<=3∧s.1.length<=s.2.toNat∧(∀h∈s.1,afl h)∧s.1.Pairwise alf) (λs=>(3-s.2).toNat) ⟨Int.le_refl _,fF,aR,aR,List.Pairwise.nil⟩ fF ?_;rintro⟨out,k⟩ ⟨k0,k1,k2,k3,k4⟩;dsimp only at k0 k1 k2 k3 k4 |-;refine aq (λhb=>?_) (λhb=>aj (cV (aj ⟨k3,ah,k4⟩)));obtain⟨ND,Ap⟩:k<(l.length:Int)∧k<3:=DD;have wk1:IntKind.wrap .i64 (k+1)=k+1:=wrap_i64 ah ah;obtain⟨h,h1,_,h3⟩:=la (xs:=l) k0 ND;obtain⟨d1,d2,d3,d4⟩:=hd h h3;refine cX (aF h1 ?_);refine av (pT d1 aV aV) (λf hf=>av (pT d2 aV aV) (λt ht=>av (pT d3 aV aV) (λn hn=>?_)));refine cC (λj s=>s=false->∀(i:Nat) (x:aZ),i<j->out[i]? = some x->¬(x.cA.gz=f∧x.cA.uJ=t∧x.cA.gN=n)) gx (λ_ i x hi=>ah) ?_ ?_
 .intro j s hj hs
  refine bO hj (λx x1 x2=>ay (aj (λe i y hi hy=>?_)));rw[Bool.or_eq_false_iff]at e;rcases Nat.lt_or_ge i j with my|hge
  .exact hs e.1 i y my hy
  .obtain rfl:i=j:=by omega
   rw[x1]at hy;obtain rfl:=Option.some.inj hy;rintro⟨q1,q2,q3⟩;have:=e.2;rw[q1,q2,q3]at this;simp at this
 intro s hs;rw[Int.toNat_natCast]at hs;refine aq (λh'=>?_) (λh'=>?_)
 .refine ay (ay (aj ?_))
  rw[wk1];exact⟨⟨bB,bB,bB,k3,k4⟩,bB⟩
 have nq:=hs h';refine jR (λq=>1<=q.1∧q.1<=1+7*q.2.1∧0<=q.2.1∧q.2.1<=2∧q.2.2.length=q.2.1.toNat∧(∀a∈q.2.2,afp a∧a.Cl<=q.1)∧q.2.2.Pairwise λa b=>a.Cl<=b.Cl) (λq=>(2-q.2.1).toNat) ⟨Int.le_refl _,fF,Int.le_refl _,fF,rfl,aR,List.Pairwise.nil⟩ fF ?_;rintro⟨last,i,ar⟩ ⟨l0,l1,i0,i1,al,aok,aup⟩;dsimp only at l0 l1 i0 i1 al aok aup |-;refine aF h1 ?_;refine aq (λhb=>?_) (λhb=>?_)
 .obtain⟨ND,Ap⟩:i<(h.gP.length:Int)∧i<2:=by simpa using hb
  refine fE i0 ND (λa a1 a2=>?_);obtain⟨e1,e2,e3⟩:=d4 a a2;refine av (pT e1 aV aV) (λat_ KH=>av (pT e2 aV aV) (λhd hhd=>?_))
  have YE:(List.take (Int.toNat (if 2<(a.cE.length:Int)then 2 else(a.cE.length:Int))) a.cE).length<=2:=by
   rw[List.length_take];split <;> omega
  rw[wrap_i64 (n:=last+at_) ah ah,wrap_i64 (n:=i+1) ah ah];refine aK Nq (aK (Iu ah aV) (aX (aK (yk ah aV) (ay (aj ⟨⟨bB,bB,bB,bB,iC,λx hx=>?_,?_⟩,bB⟩)))))
  .rcases List.mem_append.1 hx with hx|hx
   .have:=aok x hx
    exact⟨this.1,bB⟩
   .simp at hx;subst hx
    exact⟨⟨bB,bB,hhd.1,bB,YE,λy hy=>e3 y (List.mem_of_mem_take hy)⟩,Int.le_refl _⟩
  .dsimp only
   rw[List.pairwise_append];refine⟨aup,aR,λx hx y hy=>?_⟩;simp at hy;subst hy;have:=(aok x hx).2;dsimp only;omega
 .refine aj (cV (aX (aK (yk ah aV) (ay (ay (aj ?_))))))
  rw[wk1];refine⟨⟨bB,bB,iC,λx hx=>?_,?_⟩,bB⟩
  .rcases List.mem_append.1 hx with hx|hx
   .exact k3 x hx
   .simp at hx;subst hx
    exact⟨hf.1,bB,ht.1,bB,hn.1,bB,bB,λa ha=>(aok a ha).1,aup⟩
  .dsimp only
   rw[List.pairwise_append];refine⟨k4,aR,λx hx y hy=>?_⟩;simp at hy;subst hy;obtain⟨m,hm,rfl⟩:=List.getElem_of_mem hx;exact nq m _ hm (List.getElem?_eq_getElem hm)
structure Ak(F:cR):Prop where
 tree:∃gw,Fu gw F.oW
 prog:aol F.oW.aG.length F.yL
theorem aom{gw:List (List Int)}{f:bu}(hf:Fu gw f):Wp (Du f) λr=>∃F,r = .inl F∧Ak F:=by
 unfold Du;refine av (aW (We hf)) ?_;rintro _ ⟨p,rfl,hp⟩;refine EO (λq hq=>?_) (λq hq=>Hy);cases hq;refine av (aff hf) (λs hs=>?_);refine aF (aiB hf) (aK ah ?_);exact av (ak6 (by rw[Hx];omega)) (λd _=>cV (aL (aj ⟨_,rfl,⟨gw,hf⟩,hp⟩)))
structure Jh(w:de):Prop where
 at0:PN w.MJ
 cl:w.iM.length<=9223372036854775807
 cs:∀c∈w.iM,ChD c
 hl:w.oT.length<=9223372036854775807
 hs:∀h∈w.oT,HdD h
 z0:0<=w.lB
 z1:w.lB<=255
structure yV(i:dJ):Prop where
 fl:Ak i.eX
 srt:VY i.iM.ba
 ch:∀c∈i.iM.ba,BV c
 cl:i.iM.ba.length<=10
 hd:∀h∈i.oT,afl h
 hl:i.oT.length<=3
 hn:i.oT.Pairwise alf
 z0:0<=i.lB
 z1:i.lB<=12
theorem ais{w:de}(hw:Jh w):Wp (pj w) λr=>yV r.1∧r.2.2=true:=by
 have z0:=hw.z0;have z1:=hw.z1;unfold pj;refine av (P:=λr=>∃F t,r = .inl (F,t)∧Ak F) (aW ?_) ?_
 .unfold pq
  refine av (afo hw.at0) (λt ht=>av (aaq ht) ?_);rintro f ⟨gw,hf⟩;refine av (aW (aom hf)) ?_;rintro _ ⟨F,rfl,hF⟩;refine EO (λq hq=>?_) (λq hq=>Hy);cases hq;exact aL (aj ⟨F,t,rfl,hF⟩)
 .rintro _ ⟨F,t,rfl,hF⟩
  refine EO (λq hq=>?_) (λq hq=>Hy);cases hq;refine av (Wh hw.cl hw.cs) ?_;rintro c ⟨c1,c2,c3⟩;refine aF (x:=(⟨c⟩,true)) ?_ ?_
  .unfold qC
   exact dD (aF (ald c3 c1 c2) (aj rfl))
  refine av (afj hw.hl hw.hs) ?_;rintro h ⟨h1,h2,h3⟩;refine aK ⟨z0,aV⟩ (aj ⟨?_,rfl⟩);rw[wrap_i64 ah ah];exact⟨hF,c1,c2,c3,h1,h2,h3,bB,bB⟩
end Go.Proofs.YtaafmkmdfcgeaaaGreatDoor
