/- Part 9 of what the claim leans on. -/
import Derived.Test.YtaafmkmdfcgeaaaGreatDoorRBv8
set_option maxRecDepth 100000
set_option linter.unusedVariables false
set_option linter.unusedSimpArgs false
set_option maxHeartbeats 4000000
noncomputable section
namespace Go.Proofs.YtaafmkmdfcgeaaaGreatDoor
open Go.Proofs.Tryz
theorem agI{α:Type}{xs:List α}{j:Nat}{x:α}(h:xs[j]? = some x):xs.take j++[x]=xs.take (j+1):=by
 rw[List.take_add_one,h];rfl
theorem cpI{α:Type}{xs:List α}{j:Nat}{x:α}{s:List α}(hs:s=xs.take j)(h:xs[j]? = some x):s++[x]=xs.take (j+1):=by
 rw[hs];exact agI h
theorem DY{a:cm}(h:a.cE.length<=1000):jC a=some a:=by
 exact dD (aK (Iu ah aV) (cV (aj rfl)))
theorem acy{x:Int}:gy x=some (decide (0<=x)&&decide (x<8)):=rfl
theorem BB{x:Int}(h0:0<=x)(h1:x<8):gy x=some true:=by
 rw[acy,decide_eq_true h0,decide_eq_true h1];rfl
theorem abF{h:aZ}(H:afl h):Ab h=some true:=by
 have f0:=H.f0;have f1:=H.f1;have t0:=H.t0;have t1:=H.t1;have n0:=H.n0;have n1:=H.n1;have al:=H.al;refine dD ?_;refine aF (BB f0 ah) (jK rfl (BB t0 ah) (aq (λhh=>?_) (λ_=>?_)))
 .simp only[Bool.or_eq_true,decide_eq_true_eq,Bool.not_true,Bool.false_eq_true,false_or]at hh
  omega
 refine eS (λj s=>∀(i:Nat) (x:cm),j<=i->h.gP[i]? = some x->s<=x.Cl) (gq ah) ?_ ?_ (λ_ _=>aj rfl)
 .intro i x _ hx
  exact(H.ar x (List.mem_of_getElem? hx)).t0
 .intro j s hj hs
  refine bO hj (λx x1 x2=>?_);have a:=H.ar x x2;have h0:=a.h0;have h1:=a.h1;have al:=a.al;have:=hs j x (Nat.le_refl _) x1;refine aq (λhh=>?_) (λ_=>ay (aj (λi y hi hy=>?_)))
  .simp only[Bool.or_eq_true,decide_eq_true_eq]at hh
   omega
  .obtain⟨Yu,rfl⟩:=List.getElem?_eq_some_iff.1 x1
   obtain⟨EH,rfl⟩:=List.getElem?_eq_some_iff.1 hy;exact(List.pairwise_iff_getElem.1 H.up) j i Yu EH ah
theorem acN{m:bw}{l:List aZ}(hl:l.length<=1000):Wp (jc m l) λv=>0<=v->∃h∈l,h.cA.gz=m.gz∧h.cA.uJ=m.uJ∧h.cA.gN=m.gN:=by
 refine eS (λ_ _=>True) (gq ah) trivial ?_ (λ_ _=>aL (aj (λh=>dI)));intro j _ hj _;refine bO hj (λx x1 x2=>aF (x:=(x.cA.gz==m.gz)&&((x.cA.uJ==m.uJ)&&((x.cA.gN==m.gN)&&true))) ?_ (aq (λh=>aL (aj (aj (λ_=>⟨x,x2,?_⟩)))) (λ_=>ay (aj trivial))))
 .exact dD (aW (by exact aL (aj rfl)))
 simp_all
def afk(m:bw)(l:List aZ):Prop:=∃h∈l,h.cA.gz=m.gz∧h.cA.uJ=m.uJ∧h.cA.gN=m.gN
theorem Xu{m:bw}{o:ak}(hl:o.dB.length<=1000):Wp (mQ m o) λv=>v=true->afk m o.dB:=by
 refine av (P:=λv=>v=true->afk m o.dB) (aW (av (aW (acN hl)) (λv hv=>aL (aj (λh=>hv (of_decide_eq_true h)))))) (λv hv=>aL (aj hv))
structure xx(I:dJ)(cs cd:Int)(o:ak):Prop where
 ch:o.fX.ba=I.iM.ba
 hs:o.dB=I.oT
 se:∀a b,a<8->b<8->0<=o.dq a b∧o.dq a b<=cs
 ti:∀a,a<8->0<=o.eL a∧o.eL a<=cs
 di:∀a,a<8->0<=o.dE a∧o.dE a<=cd
 cl:∀p∈o.bq,∃c∈I.iM.ba,p.1=c.cQ
 cn:(o.bq.map λp=>oM p.1).Nodup
theorem z8:∀a,a<8->(arr (0:Int) []) a=0:=aV
theorem z88:∀a,a<8->∀b,b<8->(arr (arr (0:Int) []) []) a b=0:=aV
theorem aav{I:dJ}(H:yV I):Wp (zu I.iM I.oT) λr=>∃o,r = .inl o∧xx I 0 0 o:=by
 have hl:=H.hl;refine aq (λh=>by have:=of_decide_eq_true h;omega) (λ_=>Um (cV ?_));refine eS (λj s=>s=I.oT.take j) (gq ah) rfl ?_ ?_
 .intro j s hj hs
  have DP:s.length<=3:=adZ;refine bO hj (λh h1 h2=>?_);have ho:=H.hd h h2;have al:=ho.al;refine aF (abF ho) (aq (λh=>dI) (λ_=>av (aW (Xu bB)) (λv hv=>aq (λe=>?_) (λ_=>?_))))
  .obtain⟨g,g1,g2⟩:=hv e
   rw[hs]at g1;obtain⟨i,hi,rfl⟩:=List.getElem_of_mem g1;rw[List.length_take]at hi;rw[List.getElem_take]at g2;obtain⟨Yu,rfl⟩:=List.getElem?_eq_some_iff.1 h1;exact absurd g2 ((List.pairwise_iff_getElem.1 H.hn) i j ah Yu ah)
  .refine cC (λj s=>s=h.gP.take j) (gq ah) rfl ?_ ?_
   .intro q t hq ht
    have YE:t.length<=2:=VW;refine bO hq (λa a1 a2=>?_);have aal:=(ho.ar a a2).al;exact aF (DY ah) (aX (aK (yk ah aV) (ay (aj (cpI ht a1)))))
   .intro t ht
    rw[Int.toNat_natCast,List.take_length]at ht;subst ht;exact cV (aX (aK (yk ah aV) (ay (aj (cpI hs h1)))))
 .intro s hs
  rw[Int.toNat_natCast,List.take_length]at hs;subst hs;refine aL (aj ⟨_,rfl,rfl,rfl,λa b ha hb=>?_,λa ha=>?_,λa ha=>?_,aR,aR⟩)
  .have:=z88 a ha b hb
   simp_all
  .have:=z8 a ha
   simp_all
  .have:=z8 a ha
   simp_all
theorem ZX{I:dJ}(H:yV I):zY I=some I:=by
 have hl:=H.hl;refine dD (cC (λj s=>s=I.oT.take j) (gq ah) rfl ?_ ?_)
 .intro j s hj hs
  have DP:s.length<=3:=adZ;refine bO hj (λh h1 h2=>?_);have ho:=H.hd h h2;have al:=ho.al;refine cC (λj s=>s=h.gP.take j) (gq ah) rfl ?_ ?_
  .intro q t hq ht
   have YE:t.length<=2:=VW;refine bO hq (λa a1 a2=>?_);have aal:=(ho.ar a a2).al;exact aK (Iu ah aV) (cV (aX (aK (yk ah aV) (ay (aj (cpI ht a1))))))
  .intro t ht
   rw[Int.toNat_natCast,List.take_length]at ht;subst ht;exact cV (aX (aK (yk ah aV) (ay (aj (cpI hs h1)))))
 .intro s hs
  rw[Int.toNat_natCast,List.take_length]at hs;subst hs;exact cV (aj rfl)
structure ae2(t:bX):Prop where
 f0:0<=t.cA.gz
 f1:t.cA.gz<=2
 t0:0<=t.cA.uJ
 t1:t.cA.uJ<=2
 n0:0<=t.cA.gN
 n1:t.cA.gN<=3
 c0:0<=t.lX
 c1:t.lX<=1
 ar:afp t.pX
theorem Eb{α:Type}{P:α->Prop}{l:List α}{i:Nat}{v:α}(h:∀x∈l,P x)(hv:P v):∀x∈l.set i v,P x:=λx hx=>by
 grind
theorem tY{α:Type}{P:α->Prop}{l:List α}{v:α}(h:∀x∈l,P x)(hv:P v):∀x∈l++[v],P x:=λx hx=>by
 rcases List.mem_append.1 hx with h' | h'
 all_goals simp_all
theorem JX{α:Type}{l:List α}{v:α}:(l++[v]).length=l.length+1:=aR
theorem ZE(a b:bX):Ji (mR a b):=by
 exact aF (pC _ _) (aF (pC _ _) (aF (pC _ _) (aF (pC _ _) (aF (pC _ _) (aX (aF (Dz aR) (aj trivial)))))))
theorem ab1{P:bX->Prop}{l:List bX}(hl:l.length<=12)(hp:∀x∈l,P x):Wp (gj l) λr=>r.length=l.length∧∀x∈r,P x:=by
 refine av (PS _) (λv _=>av (P:=λr=>r.length=l.length∧∀x∈r,P x) (aW ?_) (λr h=>aL (aj h)));refine NT (aq (λ_=>av (P:=λr=>r.length=l.length∧∀x∈r,P x) (aW ?_) (λr h=>aL (aj h))) (λh=>?_))
 .refine jR (λs=>s.1.length=l.length∧(∀x∈s.1,P x)∧1<=s.2∧s.2<=100) (λs=>(100-s.2).toNat) ⟨rfl,hp,fF,fF⟩ fF ?_
  rintro⟨s,i⟩ ⟨s1,sp,i1,i2⟩;refine aq (λhb=>?_) (λ_=>aj (aL (aj ⟨s1,sp⟩)));have hi:i<(l.length:Int):=eJ;refine jR (λt=>t.1.length=l.length∧(∀x∈t.1,P x)∧0<=t.2∧t.2<=i) (λt=>t.2.toNat) ⟨s1,sp,ah,aR⟩ ah ?_;rintro⟨t,j⟩ ⟨t1,tp,j0,j1⟩;rw[wrap_i64 (n:=j-1) ah ah];refine av (P:=λ_=>True) (gX (λh=>CW j0 ah (λ_ _ _=>trivial)) (λ_=>trivial)) (λa _=>?_);refine av (P:=λ_=>True) (gX (λh=>CW aeJ ah (λ_ _ _=>trivial)) (λ_=>trivial)) (λb _=>?_);refine av (P:=λ_=>True) (gX (λ_=>ZE _ _) (λ_=>trivial)) (λc _=>?_);refine aq (λh=>?_) (λ_=>aj (ay (aj ⟨⟨t1,tp,?_,?_⟩,?_⟩)))
  .have hj:0<j:=by simp_all
   refine fE ah ah (λx _ xm=>fE j0 ah (λy _ ym=>aX (fE ah Np (λ_ _ _=>aX (ay (aj ⟨⟨eJ,Eb (Eb tp (tp x xm)) (tp y ym),ah,ah⟩,ah⟩))))))
  all_goals (rw[wrap_i64 ah ah];omega)
 .rw[wrap_i64 ah ah]at h
  simp at h;omega
theorem aiv{o:ak}(hl:o.dB.length<=3)(hd:∀h∈o.dB,afl h):Wp (qH o) λr=>r.length<=6∧∀t∈r,ae2 t:=by
 refine cC (λj s=>s.length<=2*j∧∀t∈s,ae2 t) (gq ah) ⟨aR,aR⟩ ?_ ?_
 .rintro j s hj ⟨s1,s2⟩
  refine bO hj (λh h1 h2=>?_);have ho:=hd h h2;have al:=ho.al;refine cC (λq s=>s.length<=2*j+q∧∀t∈s,ae2 t) (gq ah) ⟨ah,s2⟩ ?_ ?_
  .rintro q t hq ⟨t1,t2⟩
   refine bO hq (λa a1 a2=>?_);have ao:=ho.ar a a2;have aal:=ao.al;refine aF (DY ah) (aX (aK (yk ah aV) (ay (aj ⟨VH,tY t2 ?_⟩))));exact⟨ho.f0,ho.f1,ho.t0,ho.t1,ho.n0,ho.n1,aR,bB,ao⟩
  .rintro t ⟨t1,t2⟩
   exact ay (aj ⟨ah,t2⟩)
 .rintro s ⟨s1,s2⟩
  exact av (aW (ab1 (P:=ae2) ah s2)) (λr hr=>cV (aL (aj ⟨ah,hr.2⟩)))
theorem aln{s:bW}(hl:s.ba.length<=1000)(h:∀c∈s.ba,BV c):yR s=some s.ba:=by
 refine dD (aK qm (aX (cC (λj t=>t=s.ba.take j) (gq ah) rfl ?_ ?_)))
 .intro j t hj ht
  have YE:t.length<=1000:=VW;exact bO hj (λc c1 c2=>aF (Kq (h c c2)) (aX (aK (yk ah aV) (ay (aj (cpI ht c1))))))
 .intro t ht
  rw[Int.toNat_natCast,List.take_length]at ht;exact cV (aj ht)
theorem Xq{a b:aI}:wI (cU a) (cU b)=true↔a=b:=by
 obtain⟨a1,a2,a3,a4⟩:=a;obtain⟨b1,b2,b3,b4⟩:=b;simp[cU,wI,eqD]
theorem JT{k:aI}:∀(xs:List (aI×Bool)) (i:Nat) {q:Nat×Bool},rV cU k xs i=some q->∃j v,q=(i+j,v)∧xs[j]? = some (k,v)
 |[],_,_,h=>dI
 |p::l,i,q,h=>by
  unfold rV at h
  split at h
  .rename_i hh
   obtain rfl:=Option.some.inj h;exact⟨0,p.2,rfl,by rw[Xq.1 hh];rfl⟩
  .obtain⟨j,v,rfl,h2⟩:=JT l (i+1) h
   exact⟨j+1,v,by rw[Nat.add_assoc,Nat.add_comm 1],by simpa using h2⟩
theorem JU{k:aI}:∀(xs:List (aI×Bool)) (i:Nat),rV cU k xs i=none->∀p∈xs,p.1≠k
 |[],_,_,p,hp=>by cases hp
 |p::l,i,h,q,hq=>by
  unfold rV at h
  split at h
  .cases h
  .rename_i hh
   rcases List.mem_cons.1 hq with rfl|hq
   .intro e;exact hh (Xq.2 e.symm)
   .exact JU l (i+1) h q hq
theorem ahw{a b:aI}(ha:KB a)(hb:KB b)(h:oM a=oM b):a=b:=by
 obtain⟨a1,a2,a3,a4⟩:=a;obtain⟨b1,b2,b3,b4⟩:=b;obtain⟨q1,q2,q3,q4,q5,q6⟩:=ha;obtain⟨r1,r2,r3,r4,r5,r6⟩:=hb;unfold oM at h;dsimp only at *;obtain rfl:a1=b1:=ah;obtain rfl:a2=b2:=ah;obtain rfl:a3=b3:=ah;obtain rfl:a4=b4:=ah
 rfl
structure aax(l:List au)(xs:List (aI×Bool)):Prop where
 cl:∀p∈xs,∃c∈l,p.1=c.cQ
 cn:(xs.map λp=>oM p.1).Nodup
theorem aax.put{l:List au}{xs:List (aI×Bool)}{k:aI}(hl:∀c∈l,BV c)(h:aax l xs)(hk:∃c∈l,k=c.cQ):aax l (Fb cU xs k true):=by
 have kb:∀k,(∃c∈l,k=c.cQ)->KB k:=λk ⟨c,hc,e⟩=>e ▸ (hl c hc).kb
 unfold Fb
 split
 .rename_i i v hm
  obtain⟨j,v',e,hj⟩:=JT xs 0 hm;rw[Nat.zero_add]at e;obtain⟨rfl,rfl⟩:=Prod.mk.inj e;refine⟨λp hp=>?_,?_⟩
  .rcases List.mem_or_eq_of_mem_set hp with hp|rfl
   .exact h.cl p hp
   .exact hk
  .rw[List.map_set]
   obtain⟨Yu,e'⟩:=List.getElem?_eq_some_iff.1 hj
   have:(xs.map λp=>oM p.1).set i (oM k)=xs.map λp=>oM p.1:=by
    apply List.ext_getElem?;intro q;rw[List.getElem?_set]
    split
    .rename_i hq;subst hq
     rw[List.getElem?_map,hj];simp[Yu]
    .rfl
   have h1:=h.cn;rw[<-this]at h1;exact h1
 .rename_i hm
  have hn:=JU xs 0 hm;refine⟨λp hp=>?_,?_⟩
  .rcases List.mem_append.1 hp with hp|hp
   .exact h.cl p hp
   .simp at hp;subst hp;exact hk
  .rw[List.map_append,List.nodup_append]
   refine⟨h.cn,aR,λa ha b hb=>?_⟩;simp at hb;subst hb;obtain⟨p,hp,rfl⟩:=List.mem_map.1 ha;exact λe=>hn p hp (ahw (kb _ (h.cl p hp)) (kb _ hk) e)
theorem Dj:∀(l:List Int),or0 l=0->∀a∈l,a=0
 |[],_,a,h=>dI
 |x::l,h,a,ha=>by
  unfold or0 at h
  split at h
  .rename_i hx;exact absurd h hx
  .rename_i hx
   rcases List.mem_cons.1 ha with rfl|ha
   .simpa using hx
   .exact Dj l h a ha
theorem ah4{a b:Int}(h:(if a<b then(-1:Int)else if b<a then 1 else 0)=0):a=b:=by
 split at h
 .cases h
 .split at h
  .cases h
  .omega
theorem Sg(x y:aI):Wp (ko x y) λv=>v=0->x=y:=by
 unfold ko;rw[XK,pC,pC,pC];refine aF rfl (aF rfl (aF rfl (aF rfl (aX (aF (Dz aR) (aj (λh=>?_)))))));have e1:=ah4 (Dj _ h _ (List.mem_cons_self));have e2:=ah4 (Dj _ h _ (List.mem_cons_of_mem _ (List.mem_cons_self)));have e3:=ah4 (Dj _ h _ (List.mem_cons_of_mem _ (List.mem_cons_of_mem _ (List.mem_cons_self))));have e4:=ah4 (Dj _ h _ (List.mem_cons_of_mem _ (List.mem_cons_of_mem _ (List.mem_cons_of_mem _ (List.mem_cons_self)))));obtain⟨a1,a2,a3,a4⟩:=x;obtain⟨b1,b2,b3,b4⟩:=y;dsimp only at e1 e2 e3 e4;subst e1 e2 e3 e4
 rfl
theorem ahJ{s:bW}{k:aI}(hl:s.ba.length<=1000):Wp (ud s k) λr=>r.2=true->0<=r.1∧∃c,s.ba[r.1.toNat]? = some c∧c.cQ=k∧r.1<(s.ba.length:Int):=by
 have f1:∀c,Wp (sx c k) λv=>v=0->c.cQ=k:=λc=>av (Sg _ _) (λv h=>aj h)
 unfold ud fw;refine av (P:=λr=>r.2=true->0<=r.1∧∃c,s.ba[r.1.toNat]? = some c∧c.cQ=k∧r.1<(s.ba.length:Int)) (aW ?_) (λr h=>aj h);refine jR (λt=>0<=t.1∧t.1<=t.2∧t.2<=(s.ba.length:Int)) (λt=>(t.2-t.1).toNat) ⟨Int.le_refl _,bB,Int.le_refl _⟩ bB ?_;rintro⟨i,j⟩ ⟨i0,ij,jn⟩;dsimp only at i0 ij jn |-;refine aq (λhb=>?_) (λhb=>aj ?_)
 .have DM:i<j:=by simpa using hb
  rw[Hi i0 DM ah];refine fE ah ah (λv _ _=>av (f1 _) (λq _=>aq (λ_=>ay (aj ?_)) (λ_=>ay (aj ?_))))
  .rw[wrap_i64 ah ah]
   exact⟨⟨bB,bB,bB⟩,bB⟩
  .exact⟨⟨bB,bB,bB⟩,bB⟩
 .by_cases hi:i<(s.ba.length:Int)
  .obtain⟨c,c1,c2,_⟩:=la (xs:=s.ba) i0 hi
   refine jK (decide_eq_true hi) c1 ?_;refine av (P:=λv=>v=0->c.cQ=k) (gX (λ_=>f1 c) (λh=>absurd hi (of_decide_eq_false h))) (λv hv=>aL (aj (λh=>?_)));dsimp only at h |-;rw[Bool.and_eq_true]at h;exact⟨i0,c,c2,hv (by simpa using h.2),hi⟩
  .refine av (P:=λ_=>True) (gX (λh=>absurd (of_decide_eq_true h) hi) (λ_=>trivial)) (λv _=>av (P:=λ_=>True) (gX (λh=>absurd (of_decide_eq_true h) hi) (λ_=>trivial)) (λv _=>aL (aj (λh=>?_))))
   dsimp only at h;rw[Bool.and_eq_true]at h;exact absurd (of_decide_eq_true h.1) hi
theorem alg{s:bW}{k:aI}(hl:s.ba.length<=1000)(h:∀c∈s.ba,BV c):Wp (vE s k) λr=>0<=r.1.gD∧r.1.gD<=5∧(r.2=true->∃c∈s.ba,k=c.cQ):=by
 unfold vE;refine av (ahJ hl) (λr hr=>aq (λ_=>aj ⟨show(0:Int)<=0 by decide,show(0:Int)<=5 by decide,λh=>dI⟩) (λhf=>?_));obtain⟨r0,c,c1,c2,c3⟩:=hr (by simpa using hf);refine fE r0 c3 (λd d1 d2=>?_);rw[c1]at d1;obtain rfl:=Option.some.inj d1;exact aF (Kq (h c d2)) (aj ⟨(h c d2).d0,(h c d2).d1,λ_=>⟨c,d2,c2.symm⟩⟩)
section
variable {I:dJ} {cs cd:Int} {o:ak}
theorem FH{a b c d:Int}(H:yV I)(h:xx I cs cd o):Wp (fV a b c d o) λr=>0<=r.1.gD∧r.1.gD<=5∧xx I cs cd r.2.2:=by
 have hl:=H.cl;have hch:=h.ch;have hk:∀c∈o.fX.ba,BV c:=by rw[hch];exact H.ch
 unfold fV;refine av (alg (by rw[hch];omega) hk) ?_;rintro⟨c,f⟩ ⟨d0,d1,hf⟩;dsimp only at d0 d1 hf |-;refine cX (aq (λe=>aX (aX (ay (aL (aj ⟨d0,d1,?_⟩))))) (λ_=>ay (aL (aj ⟨d0,d1,h⟩))));have:=aax.put H.ch ⟨h.cl,h.cn⟩ (by rw[hch]at hf;exact hf e);exact⟨h.ch,h.hs,h.se,h.ti,h.di,this.cl,this.cn⟩
theorem Wd{k:aI}(H:yV I)(h:xx I cs cd o):Wp (kM k o) (xx I cs cd):=by
 unfold kM;exact av (aW (FH H h)) (λr hr=>aL (aj hr.2.2))
theorem xx.mono{cs' cd':Int}(h:xx I cs cd o)(h1:cs<=cs')(h2:cd<=cd'):xx I cs' cd' o :=
 ⟨h.ch,h.hs,λa b ha hb=>⟨(h.se a b ha hb).1,Int.le_trans (h.se a b ha hb).2 h1⟩,λa ha=>⟨(h.ti a ha).1,Int.le_trans (h.ti a ha).2 h1⟩,λa ha=>⟨(h.di a ha).1,Int.le_trans (h.di a ha).2 h2⟩,h.cl,h.cn⟩
end
theorem Jx{α:Type}{f:Nat->α}{i:Nat}{v:α}:tP f i v i=v:=by unfold tP;rw[if_pos rfl]
theorem Jw{α:Type}{f:Nat->α}{i j:Nat}{v:α}(h:j≠i):tP f i v j=f j:=by unfold tP;rw[if_neg h]
section
variable {I:dJ} {cs cd:Int} {o:ak}
theorem xx.hl(H:yV I)(h:xx I cs cd o):o.dB.length<=3:=by rw[h.hs];exact H.hl
theorem ang{x y:Nat}{v:Int}(h:xx I cs cd o)(hx:x<8)(hv:v=o.dq x y+1):xx I (cs+1) cd { o with dq:=tP o.dq x (tP (o.dq x) y v) }:=by
 have hm:=h.mono (cs':=cs+1) (cd':=cd) ah ah;refine⟨h.ch,h.hs,λa b ha hb=>?_,hm.ti,hm.di,h.cl,h.cn⟩;dsimp only
 by_cases ea:a=x
 .subst ea
  rw[Jx]
  by_cases eb:b=y
  .subst eb
   rw[Jx,hv];have:=h.se a b ha hb;omega
  .rw[Jw eb];exact hm.se a b ha hb
 .rw[Jw ea];exact hm.se a b ha hb
theorem anf{x:Nat}{v:Int}(h:xx I cs cd o)(hx:x<8)(hv:v=o.eL x+1):xx I (cs+1) cd { o with eL:=tP o.eL x v }:=by
 have hm:=h.mono (cs':=cs+1) (cd':=cd) ah ah;refine⟨h.ch,h.hs,hm.se,λa ha=>?_,hm.di,h.cl,h.cn⟩;dsimp only
 by_cases ea:a=x
 .subst ea
  rw[Jx,hv];have:=h.ti a ha;omega
 .rw[Jw ea];exact hm.ti a ha
theorem anh{x:Nat}{v d:Int}(h:xx I cs cd o)(hx:x<8)(hd:0<=d)(hv:v=o.dE x+d):xx I cs (cd+d) { o with dE:=tP o.dE x v }:=by
 have hm:=h.mono (cs':=cs) (cd':=cd+d) ah ah;refine⟨h.ch,h.hs,hm.se,hm.ti,λa ha=>?_,h.cl,h.cn⟩;dsimp only
 by_cases ea:a=x
 .subst ea
  rw[Jx,hv];have:=h.di a ha;omega
 .rw[Jw ea];exact hm.di a ha
structure SR(I:dJ)(cs cd:Int)(n:Int)(h:Int)(ag:List Int)(r:Int×List cm×ak):Prop where
 n:r.1=n
 l:r.2.1.length<=2
 ar:∀x∈r.2.1,x.bU=h∧x.cE=ag
 o:xx I (cs+1) cd r.2.2
theorem aip{x1 x2 x3 x5 x6:Int}{x4:List Int}(H:yV I)(h:xx I cs cd o)(hc:cs<=2147483647)(a0:0<=x1)(a1:x1<8)(b0:0<=x2)(b1:x2<8)(al:x4.length<=1000):Wp (qG x1 x2 x3 x4 x5 x6 o) (SR I cs cd (o.dq x1.toNat x2.toNat) x3 x4):=by
 have hl:=h.hl H;have hse:=h.se x1.toNat x2.toNat ah ah;have i1:oO 8 x1:=⟨a0,ah⟩;have i2:oO 8 x2:=⟨b0,ah⟩;refine aF (BB a0 a1) (jK rfl (BB b0 b1) (aq (λh=>dI) (λ_=>?_)));refine aK i1 (aK i2 (fH (nY (aK i1 (aK i2 (fH (nY (aK i1 (aK i2 (fH (nY (nY ?_))))))))))));rw[wrap_i64 (n:=o.dq x1.toNat x2.toNat+1) ah ah];have h1:=ang (x:=x1.toNat) (y:=x2.toNat) h ah rfl;refine av (aW (Xu bB)) (λv _=>aq (λ_=>aL (aj ⟨rfl,aR,aR,h1⟩)) (λ_=>?_));refine av (aW (FH H h1)) ?_;rintro⟨c,f,o1⟩ ⟨_,_,ho1⟩;refine aq (λ_=>aL (aj ⟨rfl,aR,aR,ho1⟩)) (λ_=>cX ?_);refine av (aW (FH H ho1)) ?_;rintro⟨c2,f2,o2⟩ ⟨_,_,ho2⟩;have K2:∀(ar:List cm) (q:ak),ar.length<=2->(∀x∈ar,x.bU=x3∧x.cE=x4)->xx I (cs+1) cd q->Wp (kK x1 x2 o (ar,q.dq,q.eL,q.dE,q.fX.ba,q.dB,q.bq)) (SR I cs cd (o.dq x1.toNat x2.toNat) x3 x4):=λar q q1 q2 q3=>aL (aj ⟨rfl,q1,q2,q3⟩)
 have K1:∀(t:Int),Wp (kL x1 x2 x3 x4 o (t,o2.dq,o2.eL,o2.dE,o2.fX.ba,o2.dB,o2.bq)) (SR I cs cd (o.dq x1.toNat x2.toNat) x3 x4):=by
  intro t;refine aF (DY al) (aX (aK (Iu aR aV) (cX ?_)));refine av (P:=λr=>xx I (cs+1) cd r.2.2) (aW ((FH H ho2).imp (λr hr=>hr.2.2))) ?_;rintro⟨c3,f3,o3⟩ ho3;refine aq (λ_=>aF (DY al) (aX (aK (yk aR aV) (ay (K2 _ o3 aR ?_ ho3))))) (λ_=>ay (K2 _ o3 aR ?_ ho3))
  all_goals simp
 exact aq (λ_=>ay (K1 _)) (λ_=>ay (K1 _))
theorem ae3{x1 x2:Int}(H:yV I)(h:xx I cs cd o)(hc:cs<=2147483647)(a0:0<=x1)(a1:x1<8)(hx:I6 x2):Wp (pS x1 x2 o) λr=>r.1=o.eL x1.toNat∧I6 r.2.1∧xx I (cs+1) cd r.2.2:=by
 have hti:=h.ti x1.toNat ah;have i1:oO 8 x1:=⟨a0,ah⟩;refine aF (BB a0 a1) (aq (λh=>dI) (λ_=>?_));refine aK i1 (fH (aK i1 (fH (aK i1 (fH (nY ?_))))));rw[wrap_i64 (n:=o.eL x1.toNat+1) ah ah];have h1:=anf (x:=x1.toNat) h ah rfl;refine cX (av (aW (FH H h1)) ?_);rintro⟨c,f,o1⟩ ⟨_,_,ho1⟩;exact aq (λ_=>ay (aL (aj ⟨rfl,Bj _,ho1⟩))) (λ_=>ay (aL (aj ⟨rfl,hx,ho1⟩)))
theorem ait{s:bW}(hl:s.ba.length<=1000):Wp (xI s) λr=>r.length=s.ba.length∧∀k∈r,∃c∈s.ba,k=c.cQ:=by
 refine aK qm (aX (cC (λj t=>t.length=j∧∀k∈t,∃c∈s.ba,k=c.cQ) (gq ah) ⟨rfl,aR⟩ ?_ ?_))
 .rintro j t hj ⟨t1,t2⟩
  exact bO hj (λc c1 c2=>aX (aK (yk ah aV) (ay (aj ⟨eJ,tY t2 ⟨c,c2,rfl⟩⟩))))
 .rintro t ⟨t1,t2⟩
  exact cV (aj ⟨t1,t2⟩)
theorem Ki{x1 x2:Int}(H:yV I)(h:xx I cs cd o)(a0:0<=x1)(a1:x1<8):Wp (kJ x1 x2 o) λr=>r.length<=10∧∀k∈r,∃c∈I.iM.ba,k=c.cQ:=by
 have hl:=H.cl;have hch:=h.ch;have i1:oO 8 x1:=⟨a0,ah⟩;refine av (ait (by rw[hch];omega)) ?_;rintro ks ⟨k1,k2⟩;rw[hch]at k1 k2;refine cC (λj t=>t.length<=j∧∀k∈t,∃c∈I.iM.ba,k=c.cQ) (gq ah) ⟨aR,aR⟩ ?_ ?_
 .rintro j t hj ⟨t1,t2⟩
  refine bO hj (λc c1 c2=>aK (λ_=>i1) (fH (aK (λ_=>i1) (fH (aq (λ_=>aX (aK (yk ah aV) (ay (aj ⟨eJ,tY t2 (k2 c c2)⟩)))) (λ_=>ay (aj ⟨ah,t2⟩)))))))
 .rintro t ⟨t1,t2⟩
  exact cV (aL (aj ⟨ah,t2⟩))
theorem aiA{x1 x2:Int}(H:yV I)(h:xx I cs cd o)(a0:0<=x1)(a1:x1<8):Wp (qI x1 x2 o) λr=>r.1=o.dE x1.toNat∧r.2.length<=10:=by
 have i1:oO 8 x1:=⟨a0,ah⟩;refine aF (BB a0 a1) (aq (λh=>dI) (λ_=>av (aW (Ki H h a0 a1)) ?_));rintro ks ⟨k1,_⟩;refine cC (λj t=>t.length=j) (gq ah) rfl ?_ ?_
 .rintro j t hj ht
  exact bO hj (λc c1 c2=>aX (aK (yk ah aV) (ay (aj eJ))))
 .intro t ht
  exact aK i1 (fH (cV (aL (aj ⟨rfl,eJ⟩))))
theorem SS{x1 x2:Int}(H:yV I)(h:xx I cs cd o)(hc:cd<=2147483647)(a0:0<=x1)(a1:x1<8)(d0:0<=x2)(d1:x2<=1000000000000):Wp (nD x1 x2 o) (xx I cs (cd+x2)):=by
 have hdi:=h.di x1.toNat ah;have i1:oO 8 x1:=⟨a0,ah⟩;refine aF (BB a0 a1) (aq (λ_=>aL (aj (h.mono (Int.le_refl _) ah))) (λ_=>?_));refine av (aW (Ki H h a0 a1)) ?_;rintro ks ⟨k1,k2⟩;refine cC (λj t=>aax I.iM.ba t) (gq ah) ⟨h.cl,h.cn⟩ ?_ ?_
 .rintro j t hj ht
  exact bO hj (λc c1 c2=>aX (aX (ay (aj (aax.put H.ch ht (k2 c c2))))))
 .intro t ht
  refine aK i1 (fH (aK i1 (fH (aK i1 (fH (nY (aL (aj ?_))))))));rw[wrap_i64 (n:=9223372036854775807-o.dE x1.toNat) ah ah,if_neg ah,wrap_i64 ah ah];have h2:=anh (x:=x1.toNat) (d:=x2) h ah d0 rfl;exact⟨h2.ch,h2.hs,h2.se,h2.ti,h2.di,ht.cl,ht.cn⟩
end
theorem aao{l:List cw}(hl:l.length<=1000000000):Wp (Fi l) λr=>0<=r∧r<=l.length:=by
 refine cC (λj s=>0<=s∧s<=(j:Int)) (gq ah) ⟨Int.le_refl _,aV⟩ ?_ ?_
 .rintro j s hj ⟨s0,s1⟩
  refine bO hj (λe _ _=>aq (λ_=>ay (aj ?_)) (λ_=>ay (aj ⟨s0,ah⟩)));rw[wrap_i64 ah ah];omega
 .rintro s ⟨s0,s1⟩
  exact aj ⟨s0,ah⟩
structure SO(n:Nat)(x:cS):Prop where
 c0:0<=x.aN
 c1:x.aN<n
 p0:0<=x.lW
 p8:x.lW<=8
 n0:0<=x.gN
 n1:x.gN<=2147483647
 y0:0<=x.lX
 y1:x.lX<=1
 h0:0<=x.bU
 h7:x.bU<=7
 so:x.nS=4∨x.nS=5∨x.nS=6
 al:x.cE.length<=4
 args:∀a∈x.cE,I6 a
def xw(n:Nat)(a:aU):Prop:=∀e∈a.ba,SO n e.oX
theorem aad(t:Int)(x:cS):Ji (BQ t x):=by
 have K1:Ji (ui ()):=aj trivial;have K2:∀b,Ji (uh x b):=λb=>aq (λ_=>aq (λ_=>aj trivial) (λ_=>ay K1)) (λ_=>ay K1)
 refine eS (λ_ _=>True) aV trivial ?_ (λ_ _=>cX (aq (λ_=>aj trivial) (λ_=>cX (aq (λ_=>ay (K2 _)) (λ_=>ay (K2 _))))));intro j _ hj _;exact bO ah (λv _ _=>aX (nY (aq (λ_=>aj (aj trivial)) (λ_=>ay (aj trivial)))))
theorem MG{x:cS}(h:x.cE.length<=1000):yb x=some x:=by
 exact dD (aK (Iu ah aV) (cV (aj rfl)))
theorem adp(a b:Int):Ji (oe a b):=by
 exact mC (aj (mC (aj (aq (λ_=>aq (λ_=>aj trivial) (λ_=>aj trivial)) (λ_=>aq (λ_=>aj trivial) (λ_=>aq (λ_=>aj trivial) (λ_=>aq (λ_=>aj trivial) (λ_=>aj trivial))))))))
theorem ae0(x y:aD):Ji (vJ x y):=by
 have c1:∀x,Ji (tC x):=λx=>aq (λ_=>aj trivial) (λ_=>aq (λ_=>aj trivial) (λ_=>aj trivial))
 refine aF (pC _ _) (aF (pC _ _) (av (adp _ _) (λe _=>aX (aF (Dz aR) (aq (λ_=>aj trivial) (λ_=>?_))))));exact av (c1 x) (λa _=>av (c1 y) (λb _=>aF (pC _ _) (aF (pC _ _) (aF (pC _ _) (aX (aF (Dz aR) (aj trivial)))))))
theorem UG{a:aU}{e:aD}(hl:a.ba.length<=1000000000000):Wp (zV (a.ba.length:Int) a e) λr=>0<=r∧r<=(a.ba.length:Int):=by
 refine jR (λt=>0<=t.1∧t.1<=t.2∧t.2<=(a.ba.length:Int)) (λt=>(t.2-t.1).toNat) ⟨Int.le_refl _,aR,Int.le_refl _⟩ ah ?_;rintro⟨i,j⟩ ⟨i0,ij,jn⟩;refine aq (λhb=>?_) (λhb=>aj (aL (aj ⟨i0,ah⟩)));have DM:i<j:=DD;rw[Hi i0 DM ah];refine av (P:=λ_=>True) (aW ?_) (λq _=>aq (λ_=>ay (aj ?_)) (λ_=>ay (aj ?_)))
 .exact fE ah ah (λv _ _=>av (ae0 _ _) (λ_ _=>aL (aj trivial)))
 .rw[wrap_i64 ah ah]
  exact⟨⟨ah,ah,ah⟩,ah⟩
 .exact⟨⟨ah,ah,ah⟩,ah⟩
theorem UF{a:aU}{k:Int}(hl:a.ba.length<=1000000000000):Wp (yx (a.ba.length:Int) a k) λr=>0<=r∧r<=(a.ba.length:Int):=by
 refine jR (λt=>0<=t.1∧t.1<=t.2∧t.2<=(a.ba.length:Int)) (λt=>(t.2-t.1).toNat) ⟨Int.le_refl _,aR,Int.le_refl _⟩ ah ?_;rintro⟨i,j⟩ ⟨i0,ij,jn⟩;refine aq (λhb=>?_) (λhb=>aj (aL (aj ⟨i0,ah⟩)));have DM:i<j:=DD;rw[Hi i0 DM ah];refine av (P:=λ_=>True) (aW ?_) (λq _=>aq (λ_=>ay (aj ?_)) (λ_=>ay (aj ?_)))
 .exact fE ah ah (λv _ _=>aL (aj trivial))
 .rw[wrap_i64 ah ah]
  exact⟨⟨ah,ah,ah⟩,ah⟩
 .exact⟨⟨bB,bB,bB⟩,bB⟩
theorem UE{a:aU}{k t:Int}(hl:a.ba.length<=1000000000000):Wp (yw (a.ba.length:Int) a k t) λr=>0<=r∧r<=(a.ba.length:Int):=by
 refine jR (λt=>0<=t.1∧t.1<=t.2∧t.2<=(a.ba.length:Int)) (λt=>(t.2-t.1).toNat) ⟨Int.le_refl _,aR,Int.le_refl _⟩ ah ?_;rintro⟨i,j⟩ ⟨i0,ij,jn⟩;refine aq (λhb=>?_) (λhb=>aj (aL (aj ⟨i0,ah⟩)));have DM:i<j:=DD;rw[Hi i0 DM ah];refine av (P:=λ_=>True) (aW ?_) (λq _=>aq (λ_=>ay (aj ?_)) (λ_=>ay (aj ?_)))
 .exact fE ah ah (λv _ _=>aL (aj trivial))
 .rw[wrap_i64 ah ah]
  exact⟨⟨ah,ah,ah⟩,ah⟩
 .exact⟨⟨bB,bB,bB⟩,bB⟩
section
variable {n:Nat} {a:aU}
theorem alo{t:Int}{x:cS}(h:xw n a)(hx:SO n x)(hl:a.ba.length<=1000000000000):Wp (tM t x a) λr=>xw n r.2∧r.2.ba.length<=a.ba.length+1:=by
 have al:=hx.al;refine av (aad t x) (λv _=>aq (λ_=>aL (aj ⟨h,aR⟩)) (λ_=>aF (MG ah) (av (aW (UG hl)) ?_)));rintro i ⟨i0,i1⟩;refine aX (av (P:=λr=>r=a.ba.take i.toNat++[aD.mk t x]++a.ba.drop i.toNat) (aW ?_) ?_)
 .unfold aeY
  rw[tA ⟨i0,ah,rfl,ah⟩];exact aj rfl
 .rintro r rfl
  refine aL (aj ⟨λe he=>?_,?_⟩)
  .rcases List.mem_append.1 he with he|he
   .rcases List.mem_append.1 he with he|he
    .exact h e (List.mem_of_mem_take he)
    simp_all
   .exact h e (List.mem_of_mem_drop he)
  .simp only[List.length_append,List.length_take,List.length_drop,List.length_singleton];omega
theorem Gc{t:Int}{x:cS}{m:az}{o:ak}(h:xw n a)(hx:SO n x)(hl:a.ba.length<=1000000000000):Wp (kr t x m o a) λr=>xw n r∧r.ba.length<=a.ba.length+1:=by
 exact aq (λ_=>av (aW (alo h hx hl)) (λr hr=>aL (aj hr))) (λ_=>aL (aj ⟨h,ah⟩))
theorem abM{α:Type}{xs:List α}{lo k:Nat}{z:α}(h:lo<=xs.length):(XL xs lo k z).take lo=xs.take lo:=by
 unfold XL
 simp_all
theorem aaz{k:Int}(h:xw n a)(hl:a.ba.length<=1000000000000):Wp (qT k a) λr=>xw n r.2∧r.2.ba.length<=a.ba.length:=by
 have c1:∀x,Ji (lp x k):=λx=>aL (aj trivial)
 refine av (P:=λr=>match r with
  |.inl l=>(∀e∈l,SO n e.oX)∧l.length<=a.ba.length
  |.inr l=>l=a.ba) (aW ?_) ?_
 .refine av (P:=λv=>v = -1∨0<=v∧v<(a.ba.length:Int)) (aW ?_) (λv hv=>aq (λ_=>aL (aj rfl)) (λhn=>?_))
  .refine eS (λ_ _=>True) (gq ah) trivial ?_ (λ_ _=>aL (aj (.inl rfl)))
   intro j _ hj _;exact bO hj (λx _ _=>av (aW (c1 x)) (λb _=>aq (λ_=>aL (aj (aj (.inr ⟨ah,hj⟩)))) (λ_=>ay (aj trivial))))
  .have QI:0<=v∧v<(a.ba.length:Int):=by
    simp_all
   obtain⟨v0,v1⟩:=QI;rw[wrap_i64 (n:=v+1) ah ah];refine jR (λs=>s.1.length=a.ba.length∧(∀e∈s.1,SO n e.oX)∧0<=s.2.1∧s.2.1<s.2.2∧s.2.2<=(a.ba.length:Int)) (λs=>((a.ba.length:Int)-s.2.2).toNat) ⟨rfl,h,v0,bB,bB⟩ bB ?_;rintro⟨l,i,j⟩ ⟨q1,q2,i0,ij,jn⟩;dsimp only at q1 q2 i0 ij jn |-;refine aq (λhb=>?_) (λhb=>aj ?_)
   .have hj:j<(l.length:Int):=of_decide_eq_true hb
    refine fE ah hj (λx _ xm=>av (aW (c1 x)) (λb _=>aq (λ_=>fE i0 ah (λy _ _=>aX (ay (aj ?_)))) (λ_=>ay (aj ?_))))
    .rw[wrap_i64 (n:=i+1) ah ah,wrap_i64 (n:=j+1) ah ah]
     exact⟨⟨eJ,Eb q2 (q2 x xm),bB,bB,bB⟩,bB⟩
    .rw[wrap_i64 (n:=j+1) ah ah]
     exact⟨⟨q1,q2,i0,bB,bB⟩,bB⟩
   .have hil:i.toNat<=l.length:=by omega
    refine aK ⟨i0,show i<=(l.length:Int) by omega,Int.le_refl _⟩ (aX (aK ⟨aV,i0,?_⟩ (aL (aj ?_))))
    .unfold XL
     simp only[List.length_append,List.length_take,List.length_replicate,List.length_drop];omega
    .dsimp only
     rw[abM hil];exact⟨λe he=>q2 e (List.mem_of_mem_take he),eJ⟩
 .intro r hr
  refine EO (λl e=>?_) (λl e=>?_)
  .subst e;exact aL (aj hr)
  .subst e
   subst hr;exact aL (aj ⟨h,Nat.le_refl _⟩)
theorem aim{t k:Int}(h:xw n a)(hl:a.ba.length<=100000000000):Wp (sV t k a) λr=>(∀x∈r.1,SO n x)∧xw n r.2∧r.1.length+r.2.ba.length=a.ba.length:=by
 refine av (aW (UF ah)) ?_;rintro i ⟨i0,i1⟩;refine av (aW (UE ah)) ?_;rintro j ⟨j0,j1⟩;refine aq (λ_=>aL (aj ⟨aR,h,aR⟩)) (λhh=>?_);have DM:i<j:=eJ;rw[wrap_i64 (n:=j-i) ah ah];refine aK ⟨ah,ah,ah,ah⟩ (aX (aK ⟨i0,ah,ah⟩ ?_));refine cC (λq s=>s.length=q∧∀x∈s,SO n x) (gq ah) ⟨rfl,aR⟩ ?_ ?_
 .rintro q s hq ⟨s1,s2⟩
  refine aK ⟨i0,ah,ah⟩ (fE ah ah (λe _ em=>?_));have ho:=h e em;have al:=ho.al;exact aF (MG ah) (aX (aK (by exact apB SA aV) (ay (aj ⟨eJ,tY s2 ho⟩))))
 .rintro s ⟨s1,s2⟩
  refine av (P:=λr=>r=a.ba.take i.toNat++a.ba.drop j.toNat) (aW ?_) ?_
  .unfold aeZ
   rw[tA ⟨i0,DM,j1⟩];exact aj rfl
  .rintro r rfl
   refine cV (aL (aj ⟨s2,λe he=>?_,?_⟩))
   .rcases List.mem_append.1 he with he|he
    .exact h e (List.mem_of_mem_take he)
    .exact h e (List.mem_of_mem_drop he)
   .simp only[List.length_append,List.length_take,List.length_drop];omega
end
structure EvB(N:Nat)(e:AEv):Prop where
 c0:0<=e.aN
 cN:e.aN<=N
 c8:e.aN<=8
 k1:1<=e.bC
 k11:e.bC<=11
 p0:0<=e.lW
 p8:e.lW<=8
 n0:0<=e.gN
 n1:e.gN<=2147483647
 y0:0<=e.lX
 y1:e.lX<=1
 h0:0<=e.bU
 h7:e.bU<=7
 d:I6 e.gD
 al:e.cE.length<=4
 args:∀a∈e.cE,I6 a
structure afm(N:Nat)(e:AEv):Prop where
 t0:0<=e.AM
 t1:e.AM<=200
 b:EvB N e
structure ala(p:aP):Prop where
 s3:p.dL.length<=3
 so:∀s∈p.dL,StL s
 f2:p.aY.length<=2
 v3:p.bf.length<=3
structure aix(I:dJ)(c:au):Prop where
 m:c∈I.iM.ba
 f:Fits I.eX c
 k4:c.cQ.bC<=4
structure MO0(I:dJ)(tk:Int)(m:az):Prop where
 ZC:m.EC=I
 fit:∀c∈m.ld,aix I c
 fl:m.ld.length<=10
 held:∀t∈m.sd,ae2 t
 hl:m.sd.length<=6
 n0:0<=m.qP
 n1:m.qP<=13
 nw:m.qP=tk
structure sZ(I:dJ)(tk:Int)(m:az):Prop where
 z:MO0 I tk m
 sl:m.bn.dL.length=fN I.eX
 so:∀s∈m.bn.dL,StL s
 fgl:m.bn.aY.length=I.eX.oW.aY.length
 vl:m.bn.bf.length=fN I.eX
 vr:∀v∈m.bn.bf,v<=1000
 pl:(m.eh.length:Int)<=tk
 po:∀p∈m.eh,ala p
 ev:∀e∈m.cr,afm (fN I.eX) e
section
variable {I:dJ} {tk:Int} {m:az} {cs cd:Int} {o:ak} {a:aU}
theorem BR{e:AEv}(h:sZ I tk m)(he:EvB (fN I.eX) e)(hl:m.cr.length<100000000000):Wp (fG e m o a) λr=>sZ I tk r∧r.cr.length=m.cr.length+1:=by
 have al:=he.al;have n0:=h.z.n0;have n1:=h.z.n1;unfold fG;refine aK (Iu ah aV) (cV (aX (aK (apB SA aV) (aL (aj ⟨?_,by dsimp only;rw[JX]⟩)))));refine⟨⟨h.z.ZC,h.z.fit,h.z.fl,h.z.held,h.z.hl,h.z.n0,h.z.n1,h.z.nw⟩,h.sl,h.so,h.fgl,h.vl,h.vr,h.pl,h.po,tY h.ev ⟨n0,bB,?_⟩⟩;exact⟨he.c0,he.cN,he.c8,he.k1,he.k11,he.p0,he.p8,he.n0,he.n1,he.y0,he.y1,he.h0,he.h7,he.d,he.al,he.args⟩
theorem adh(x:Int):Wp (DR x) λb=>b=true->x<=4:=by
 unfold DR;refine aj (λh=>?_);simp at h;omega
theorem ac8{x3:Int}{a1:List au}{a4:List aM}{a5:List Bool}{a6:List Int}{a7:List aP}{a8:List AEv}(H:yV I)(h:xx I cs cd o):Wp (pd I x3 0 a o a1 a4 a5 a6 a7 a8) λr=>MO0 I 0 r∧r.qP=0:=by
 have hl:=H.cl;unfold pd;refine aF (ZX H) (av (aW (aiv (h.hl H) (by rw[h.hs];exact H.hd))) ?_);rintro hs ⟨h1,h2⟩;refine cV (aF (aln ah H.ch) ?_);refine cC (λj s=>s.length<=j∧∀c∈s,aix I c) (gq ah) ⟨aR,aR⟩ ?_ ?_
 .rintro j s hj ⟨s1,s2⟩
  refine bO hj (λc c1 c2=>av (adh _) (λb hb=>?_));refine av (P:=λv=>b=true->v=0->Fits I.eX c) (gX (λ_=>(Wc H.fl (H.ch c c2)).imp (λv hv _=>hv)) (λe e'=>by rw[e]at e';cases e')) (λv hv=>aq (λhh=>?_) (λ_=>ay (aj ⟨ah,s2⟩)));rw[Bool.and_eq_true]at hh;exact aX (aK (yk ah aV) (ay (aj ⟨VH,tY s2 ⟨c2,hv hh.1 (by simpa using hh.2),hb hh.1⟩⟩)))
 .rintro s ⟨s1,s2⟩
  rw[Int.toNat_natCast]at s1;exact aL (aj ⟨⟨rfl,s2,bB,h2,h1,Int.le_refl _,fF,rfl⟩,rfl⟩)
theorem ae8(H:yV I):Wp (AB I) λr=>∃m o a,r = .inl (m,o,a)∧sZ I 0 m∧xx I 0 0 o∧a.ba = []∧m.cr = []∧m.eh = []∧m.qP=0:=by
 have z0:=H.z0;have z1:=H.z1;have n3:=H.fl.n3;have f2:=H.fl.f2;unfold AB;refine aq (λh=>?_) (λ_=>?_)
 .rw[Bool.or_eq_true,decide_eq_true_eq,decide_eq_true_eq]at h
  omega
 refine av (aW (aav H)) ?_;rintro _ ⟨o,rfl,ho⟩;refine EO (λq hq=>?_) (λq hq=>Hy);cases hq;refine aF (x:=⟨[]⟩) (by unfold cl Fs;exact dD (cV (aL (aj rfl)))) (cV (av (aW (ac8 H ho)) (λm hm0=>aF Fcs ?_)));obtain⟨hm,awL⟩:=hm0;refine cC (λj s=>s.1.length=j∧s.2.length=j∧(∀x∈s.1,StL x)∧∀x∈s.2,x<=1000) (gq ah) ⟨rfl,rfl,aR,aR⟩ ?_ ?_
 .rintro j ⟨s,t⟩ hj ⟨q1,q2,q3,q4⟩
  dsimp only at q1 q2 q3 q4;exact av (KF H.fl ah hj) (λx hx=>aX (aK (yk bB aV) (aX (aK (yk bB aV) (ay (aj ⟨Yb,Yb,tY q3 hx,tY q4 aV⟩))))))
 .rintro⟨s,t⟩ ⟨q1,q2,q3,q4⟩
  dsimp only at q1 q2 q3 q4;rw[Int.toNat_natCast]at q1 q2;refine aF Ffs ?_;refine cC (λj s=>s.length=j) (gq ah) rfl ?_ ?_
  .intro j f hj hf
   exact av (SQ ah) (λx _=>aX (aK (yk ah aV) (ay (aj VH))))
  .intro f hf
   rw[Int.toNat_natCast]at hf;exact aL (aj ⟨_,_,_,rfl,⟨⟨hm.ZC,hm.fit,hm.fl,hm.held,hm.hl,hm.n0,hm.n1,hm.nw⟩,q1,q3,hf,q2,q4,aR,aR,aR⟩,ho,rfl,rfl,rfl,awL⟩)
theorem Pk{k:Int}(H:yV I)(h:sZ I tk m)(ho:xx I cs cd o):Wp (jU k m o a) λr=>(∀c∈r.1,aix I c∧c.cQ.bC=k)∧r.1.length<=10∧xx I cs cd r.2:=by
 have hfl:=h.z.fl;unfold jU;refine cC (λj s=>(∀c∈s.1,aix I c∧c.cQ.bC=k)∧s.1.length<=j∧xx I cs cd (ak.mk (bW.mk s.2.2.2.2.1) s.2.2.2.2.2.1 s.2.1 s.2.2.1 s.2.2.2.1 s.2.2.2.2.2.2)) (gq ah) ⟨aR,aR,ho⟩ ?_ ?_
 .rintro j ⟨s,q⟩ hj ⟨s1,s2,s3⟩
  dsimp only at s1 s2;refine bO hj (λc c1 c2=>aq (λhh=>?_) (λ_=>ay (aj ⟨s1,bB,s3⟩)));rw[Bool.and_eq_true]at hh;exact av (aW (Wd H s3)) (λo' Jk=>aX (aK (yk bB aV) (ay (aj ⟨tY s1 ⟨h.z.fit c c2,yY hh.1⟩,Yb,Jk⟩))))
 .rintro⟨s,q⟩ ⟨s1,s2,s3⟩
  rw[Int.toNat_natCast]at s2;exact cV (aL (aj ⟨s1,by dsimp only at s2 |-;omega,s3⟩))
end
section
variable {I:dJ} {tk:Int} {m:az} {cs cd:Int} {o:ak} {a:aU}
theorem sZ.flags(h:sZ I tk m){l:List Bool}(hl:l.length=m.bn.aY.length):sZ I tk { m with bn:={ m.bn with aY:=l } } :=
 ⟨⟨h.z.ZC,h.z.fit,h.z.fl,h.z.held,h.z.hl,h.z.n0,h.z.n1,h.z.nw⟩,h.sl,h.so,hl.trans h.fgl,h.vl,h.vr,h.pl,h.po,h.ev⟩
theorem sZ.state(h:sZ I tk m){i:Nat}{s:aM}(hs:StL s):sZ I tk { m with bn:={ m.bn with dL:=m.bn.dL.set i s } } :=
 ⟨⟨h.z.ZC,h.z.fit,h.z.fl,h.z.held,h.z.hl,h.z.n0,h.z.n1,h.z.nw⟩,by rw[List.length_set];exact h.sl,Eb h.so hs,h.fgl,h.vl,h.vr,h.pl,h.po,h.ev⟩
theorem sZ.atK(h:sZ I tk m){i:Nat}{v:Int}(hv:v<=1000):sZ I tk { m with bn:={ m.bn with bf:=m.bn.bf.set i v } } :=
 ⟨⟨h.z.ZC,h.z.fit,h.z.fl,h.z.held,h.z.hl,h.z.n0,h.z.n1,h.z.nw⟩,h.sl,h.so,h.fgl,by rw[List.length_set];exact h.vl,Eb h.vr hv,h.pl,h.po,h.ev⟩
theorem ahI(H:yV I)(h:sZ I tk m)(ho:xx I cs cd o)(hl:m.cr.length<=99999999000):Wp (uz m o a) λr=>sZ I tk r.1∧xx I cs cd r.2∧r.1.cr.length<=m.cr.length+10:=by
 have n3:=H.fl.n3;refine av (aW (Pk H h ho)) ?_;rintro⟨cl,o1⟩ ⟨d1,d2,d3⟩;dsimp only at d1 d2 d3 |-;refine cC (λj s=>sZ I tk (az.mk s.1 s.2.1 s.2.2.1 () () s.2.2.2.1 (aP.mk s.2.2.2.2.1 s.2.2.2.2.2.1 s.2.2.2.2.2.2.1) s.2.2.2.2.2.2.2.1 s.2.2.2.2.2.2.2.2)∧s.2.2.2.2.2.2.2.2.length<=m.cr.length+j) (gq ah) ⟨h,Nat.le_refl _⟩ ?_ ?_
 .rintro j ⟨gi,ft,hd,nw,st,fg,vs,ps,es⟩ hj ⟨g,gl⟩
  dsimp only at g gl |-;refine bO hj (λc c1 c2=>?_);obtain⟨f1,f2⟩:=d1 c c2;have hc:=H.ch c f1.m;have hA:=f1.f.b f2;have a0:=hc.a0;have a1:=hc.a1;have n0:=hc.n0;have n1:=hc.n1;have e0:=hc.d0;have e1:=hc.d1;have hfg:fg.length=I.eX.oW.aY.length:=g.fgl;obtain rfl:gi=I:=g.z.ZC;refine fE a0 ah (λ_ _ _=>aX (aF Fcs ?_));have g':=g.flags (l:=List.set fg (Int.toNat c.cQ.gA) (c.gD==1)) aR;refine av (aW (BR g' (e:=AEv.mk 0 (fN gi.eX:Int) 1 c.cQ.gA c.cQ.gN 0 0 c.gD []) ?_ bB)) (λr hr=>ay (aj ⟨hr.1,Nt⟩));exact⟨bB,bB,bB,fF,aR,a0,bB,n0,bB,aR,fF,fF,fF,I6.of bB,aR,aR⟩
 .rintro⟨gi,ft,hd,nw,st,fg,vs,ps,es⟩ ⟨g,gl⟩
  exact aL (aj ⟨g,d3,VR⟩)
theorem adj{k:Int}(H:yV I)(h:sZ I tk m)(ho:xx I cs cd o)(ha:xw (fN I.eX) a)(k0:0<=k)(k1:k<(fN I.eX:Int))(hl:m.cr.length<=99999999000)(al:a.ba.length<=99999999000):Wp (tJ k m o a) λr=>sZ I tk r.1∧xx I cs cd r.2.1∧xw (fN I.eX) r.2.2∧r.1.cr.length<=m.cr.length+10∧r.2.2.ba.length<=a.ba.length:=by
 have n3:=H.fl.n3;refine av (aW (Pk H h ho)) ?_;rintro⟨cl,o1⟩ ⟨d1,d2,d3⟩;dsimp only at d1 d2 d3 |-;refine cC (λj s=>sZ I tk (az.mk s.1 s.2.1 s.2.2.1 () () s.2.2.2.1 (aP.mk s.2.2.2.2.1 s.2.2.2.2.2.1 s.2.2.2.2.2.2.1) s.2.2.2.2.2.2.2.1 s.2.2.2.2.2.2.2.2.1)∧s.2.2.2.2.2.2.2.2.1.length<=m.cr.length+j∧xw (fN I.eX) ⟨s.2.2.2.2.2.2.2.2.2⟩∧s.2.2.2.2.2.2.2.2.2.length<=a.ba.length) (gq ah) ⟨h,Nat.le_refl _,ha,Nat.le_refl _⟩ ?_ ?_
 .rintro j ⟨gi,ft,hd,nw,st,fg,vs,ps,es,ag⟩ hj ⟨g,gl,ga,gal⟩
  dsimp only at g gl ga gal |-;refine bO hj (λc c1 c2=>aq (λ_=>ay (aj ⟨g,bB,ga,gal⟩)) (λ_=>?_));obtain⟨f1,f2⟩:=d1 c c2;have hc:=H.ch c f1.m;have n0:=hc.n0;have n1:=hc.n1;have zb:st.length=fN I.eX:=g.sl;obtain rfl:gi=I:=g.z.ZC;refine av (KF H.fl k0 k1) (λs0 hs0=>fE k0 ah (λs1 _ sm=>aX ?_));have LP:StL s1:=g.so s1 sm;have hns:StL { s0 with ez:=s1.ez }:=⟨⟨hs0.ok.v,hs0.ok.t,LP.ok.d⟩,hs0.v,hs0.t⟩;have g':=g.state (i:=Int.toNat k) hns;refine av (aW (aaz ga bB)) ?_;rintro⟨x,ag2⟩ ⟨ga2,awM⟩;dsimp only at ga2 awM |-;refine av (aW (BR g' (e:=AEv.mk 0 k 3 0 c.cQ.gN 0 0 0 []) ?_ bB)) (λr hr=>ay (aj ⟨hr.1,Nt,ga2,bB⟩));exact⟨k0,bB,bB,aR,fF,fF,aR,n0,bB,aR,fF,fF,fF,I6.of fF,aR,aR⟩
 .rintro⟨gi,ft,hd,nw,st,fg,vs,ps,es,ag⟩ ⟨g,gl,ga,gal⟩
  exact aL (aj ⟨g,d3,ga,VR,gal⟩)
theorem ZV{k:Int}(H:yV I)(h:sZ I tk m)(ho:xx I cs cd o)(k0:0<=k)(k1:k<(fN I.eX:Int))(hl:m.cr.length<=99999999000):Wp (sK k m o a) λr=>sZ I tk r.1∧xx I cs cd r.2∧r.1.cr.length<=m.cr.length+10:=by
 have n3:=H.fl.n3;refine av (aW (Pk H h ho)) ?_;rintro⟨cl,o1⟩ ⟨d1,d2,d3⟩;dsimp only at d1 d2 d3 |-;refine cC (λj s=>sZ I tk (az.mk s.1 s.2.1 s.2.2.1 () () s.2.2.2.1 (aP.mk s.2.2.2.2.1 s.2.2.2.2.2.1 s.2.2.2.2.2.2.1) s.2.2.2.2.2.2.2.1 s.2.2.2.2.2.2.2.2)∧s.2.2.2.2.2.2.2.2.length<=m.cr.length+j) (gq ah) ⟨h,Nat.le_refl _⟩ ?_ ?_
 .rintro j ⟨gi,ft,hd,nw,st,fg,vs,ps,es⟩ hj ⟨g,gl⟩
  dsimp only at g gl |-;refine bO hj (λc c1 c2=>aq (λ_=>ay (aj ⟨g,bB⟩)) (λ_=>?_));obtain⟨f1,f2⟩:=d1 c c2;have hc:=H.ch c f1.m;have n0:=hc.n0;have n1:=hc.n1;have e0:=hc.d0;have e1:=hc.d1;have PY:vs.length=fN I.eX:=g.vl;refine fE k0 ah (λ_ _ _=>aX ?_);have g':=g.atK (i:=Int.toNat k) (v:=c.gD) ah;refine av (aW (BR g' (e:=AEv.mk 0 k 2 0 c.cQ.gN 0 0 c.gD []) ?_ bB)) (λr hr=>ay (aj ⟨hr.1,Nt⟩));exact⟨k0,bB,bB,fF,fF,fF,aR,n0,bB,aR,aR,aR,fF,I6.of bB,aR,aR⟩
 .rintro⟨gi,ft,hd,nw,st,fg,vs,ps,es⟩ ⟨g,gl⟩
  exact aL (aj ⟨g,d3,VR⟩)
theorem ZG(H:yV I)(h:sZ I tk m)(ho:xx I cs cd o)(ha:xw (fN I.eX) a)(al:a.ba.length<=99999999000):Wp (sJ m o a) λr=>xx I cs cd r.1∧xw (fN I.eX) r.2∧r.2.ba.length<=a.ba.length+16:=by
 have hhl:=h.z.hl;refine av (aW (Pk H h ho)) ?_;rintro⟨cl,o1⟩ ⟨d1,d2,d3⟩;refine cC (λj s=>xw (fN I.eX) ⟨s⟩∧s.length<=a.ba.length+j) (gq ah) ⟨ha,Nat.le_refl _⟩ ?_ ?_
 .rintro j s hj ⟨g,gl⟩
  refine bO hj (λc c1 c2=>?_);obtain⟨f1,f2⟩:=d1 c c2;have hc:=H.ch c f1.m;have a0:=hc.a0;have b0:=hc.b0;have b1:=hc.b1;have n0:=hc.n0;have n1:=hc.n1;have al2:=hc.ar;refine av (aW (Gc g (x:=cS.mk 4 c.cQ.gA 0 c.cQ.gN 0 c.cQ.gB c.cE) ?_ bB)) (λr hr=>ay (aj ⟨hr.1,Nt⟩));exact⟨a0,f1.f.a (.inl f2),fF,fF,n0,bB,aR,fF,b0,bB,.inl rfl,bB,hc.args⟩
 .rintro s ⟨g,gl⟩
  refine cC (λj s=>xw (fN I.eX) ⟨s⟩∧s.length<=a.ba.length+10+j) (gq ah) ⟨g,ah⟩ ?_ ?_
  .rintro j s hj ⟨g,gl⟩
   refine bO hj (λt _ tm=>?_);have ht:=h.z.held t tm;have f0:=ht.f0;have f1:=ht.f1;have n0:=ht.n0;have n1:=ht.n1;have q0:=ht.ar.h0;have q1:=ht.ar.h1;have q2:=ht.ar.al;refine av (P:=λv=>(t.pX.Cl==m.qP)=true->v=(fN I.eX:Int)) (gX (λ_=>Un Fcs (λ_=>by rw[h.z.ZC])) (λe e'=>eJ)) (λv hv=>aq (λhh=>?_) (λ_=>ay (aj ⟨g,ah⟩)));rw[Bool.and_eq_true,decide_eq_true_eq]at hh;have:=hv hh.1;refine av (aW (Gc g (x:=cS.mk 5 t.cA.uJ t.cA.gz t.cA.gN t.lX t.pX.bU t.pX.cE) ?_ bB)) (λr hr=>ay (aj ⟨hr.1,Nt⟩));exact⟨ht.t0,bB,f0,bB,n0,bB,ht.c0,ht.c1,q0,bB,.inr (.inl rfl),bB,ht.ar.args⟩
  .rintro s ⟨g,gl⟩
   exact aL (aj ⟨d3,g,bB⟩)
end
structure ER(I:dJ)(tk cs cd:Int)(e g:Nat)(r:Bool×az×ak×aU):Prop where
 m:sZ I tk r.2.1
 o:xx I (cs+1) cd r.2.2.1
 a:xw (fN I.eX) r.2.2.2
 el:r.2.1.cr.length<=e+1
 gl:r.2.2.2.ba.length<=g+2
section
variable {I:dJ} {tk:Int} {m:az} {cs cd:Int} {o:ak} {a:aU}
theorem ZT{x1 x2 x3:Int}{x4:cw}(H:yV I)(h:sZ I tk m)(ho:xx I cs cd o)(ha:xw (fN I.eX) a)(hx:aiz (fN I.eX) x4)(a0:0<=x1)(a1:x1<(fN I.eX:Int))(b0:0<=x2)(b1:x2<=7)(c0:0<=x3)(c1:x3<=2147483647)(BW:cs<=2147483647)(el:m.cr.length<=99999999000)(gl:a.ba.length<=99999999000):Wp (ov x1 x2 x3 x4 m o a) (ER I tk cs cd m.cr.length a.ba.length):=by
 have n3:=H.fl.n3;have xal:=hx.al;have n0:=h.z.n0;have n13:=h.z.n1;have xW:=h.z.ZC;have K1:∀(q:az) (p:ak) (l:List aD),sZ I tk q->xx I (cs+1) cd p->xw (fN I.eX) ⟨l⟩->q.cr.length<=m.cr.length+1->l.length<=a.ba.length+2->Wp (iz (q.EC,q.ld,q.sd,q.qP,q.bn.dL,q.bn.aY,q.bn.bf,q.eh,q.cr,p.dq,p.eL,p.dE,p.fX.ba,p.dB,p.bq,l)) (ER I tk cs cd m.cr.length a.ba.length):=λq p l q1 q2 q3 q4 q5=>aL (aj ⟨q1,q2,q3,q4,q5⟩)
 unfold ov;refine cX (aq (λe=>?_) (λe1=>aq (λe=>?_) (λe2=>cX ?_)))
 .have k:=yY e
  obtain⟨t0,t1⟩:=hx.to k;obtain⟨h0,h6⟩:=hx.h (.inl k);rw[xW];refine av (Wb H.fl a0 a1 t0 t1) (λlat _=>av (aW (aip H ho BW a0 ah t0 ah ah)) ?_);rintro⟨sn,ar,o1⟩ ⟨s1,s2,s3,s4⟩;dsimp only at s1 s2 s3 s4 |-;have hse:=ho.se x1.toNat x4.uJ.toNat ah ah;have hsn:0<=sn∧sn<=2147483647:=ah;refine av (aW (BR h (e:=AEv.mk 0 x1 8 x4.uJ sn 0 x4.bU 0 x4.cE) ?_ ah)) ?_
  .exact⟨a0,bB,bB,fF,fF,t0,bB,hsn.1,hsn.2,fF,fF,h0,bB,I6.of fF,xal,hx.args⟩
  rintro q ⟨q1,q2⟩;refine cC (λj s=>xw (fN I.eX) ⟨s⟩∧s.length<=a.ba.length+j) (gq ah) ⟨ha,Nat.le_refl _⟩ ?_ ?_
  .rintro j s hj ⟨g,gl'⟩
   refine bO hj (λt _ tm=>?_);obtain⟨th,ta⟩:=s3 t tm;refine av (aW (Gc g (x:=cS.mk 5 x4.uJ x1 sn (j:Int) t.bU t.cE) ?_ bB)) (λr hr=>ay (aj ⟨hr.1,Nt⟩));exact⟨t0,t1,a0,bB,hsn.1,hsn.2,bB,bB,by rw[th];exact h0,by show t.bU<=7;rw[th];omega,.inr (.inl rfl),by rw[ta];exact xal,by rw[ta];exact hx.args⟩
  .rintro s ⟨g,gl'⟩
   rw[Int.toNat_natCast]at gl';exact ay (K1 q o1 s q1 s4 g ah ah)
 .have k:=yY e
  obtain⟨h0,h6⟩:=hx.h (.inr k)
  have K2:∀d:Int,I6 d->Wp (lU x1 x4 m o a d) (ER I tk cs cd m.cr.length a.ba.length):=by
   intro d hd;refine av (aW (ae3 H ho BW a0 ah hd)) ?_;rintro⟨tn,td,o1⟩ ⟨s1,s2,s3⟩;dsimp only at s1 s2 s3 |-;have hti:=ho.ti x1.toNat ah;have htn:0<=tn∧tn<=2147483647:=ah;refine av (aW (BR h (e:=AEv.mk 0 x1 9 0 tn 0 x4.bU d x4.cE) ?_ ah)) ?_
   .exact⟨a0,bB,bB,fF,fF,fF,fF,htn.1,htn.2,fF,fF,h0,bB,hd,xal,hx.args⟩
   rintro q ⟨q1,q2⟩;refine av (aW (Gc ha (x:=cS.mk 6 x1 0 tn 0 x4.bU x4.cE) ?_ ah)) (λr hr=>ay (K1 q o1 r.ba q1 s3 hr.1 ah (by have:=hr.2;omega)));exact⟨a0,a1,fF,fF,htn.1,htn.2,fF,fF,h0,bB,.inr (.inr rfl),xal,hx.args⟩
  exact cX (aq (λ_=>ay (K2 _ (Bj _))) (λ_=>ay (K2 _ (by unfold I6;decide))))
 .have K6:∀(p c:Int) (ar:List Int),(p=0∨p=1)->(c=0∨c=1)->ar.length<=4->(∀x∈ar,I6 x)->Wp (lP x1 x3 m o a p c ar) (ER I tk cs cd m.cr.length a.ba.length):=by
   intro p c ar hp hc hal har;refine cV (av (aW (BR h (e:=AEv.mk 0 x1 10 p x3 c 0 0 ar) ?_ ah)) (λr hr=>aL (aj ⟨hr.1,ho.mono ah (Int.le_refl _),ha,adR,bB⟩)));exact⟨a0,bB,bB,fF,fF,bB,bB,c0,c1,bB,bB,fF,fF,I6.of fF,hal,har⟩
  have K5:∀(p c:Int),(p=0∨p=1)->(c=0∨c=1)->Wp (lQ x1 x3 x4 m o a [x4.cQ] p c) (ER I tk cs cd m.cr.length a.ba.length):=λp c hp hc=>cX (aq (λ_=>aX (aK (yk aR aV) (ay (K6 p c _ hp hc aR (λx hh=>by
    simp at hh;rcases hh with rfl|rfl
    .exact hx.k
    .exact hx.v))))) (λ_=>ay (K6 p c _ hp hc aR (λx hh=>by
    simp at hh;subst hh;exact hx.k))))
  have K4:∀p:Int,(p=0∨p=1)->Wp (lR x1 x3 x4 m o a [x4.cQ] p) (ER I tk cs cd m.cr.length a.ba.length):=λp hp=>cX (aq (λ_=>ay (K5 p 1 hp (.inr rfl))) (λ_=>ay (K5 p 0 hp (.inl rfl))))
  have K3:∀b,Wp (lS x1 x2 x3 x4 m o a b) (ER I tk cs cd m.cr.length a.ba.length):=by
   intro b;have ho1:xx I (cs+1) cd o:=ho.mono ah (Int.le_refl _);refine aq (λ_=>aX (cX (aq (λ_=>ay (K4 1 (.inr rfl))) (λ_=>ay (K4 0 (.inl rfl)))))) (λ_=>aq (λ_=>?_) (λ_=>ay (K1 m o a.ba h ho1 ha ah ah)));refine av (aW (BR h (e:=AEv.mk 0 x1 11 0 0 0 x2 0 []) ?_ ah)) (λr hr=>ay (K1 r o a.ba hr.1 ho1 ha (by have:=hr.2;omega) ah));exact⟨a0,bB,bB,fF,fF,fF,fF,fF,fF,fF,fF,b0,b1,I6.of fF,aR,aR⟩
  exact aq (λ_=>ay (K3 _)) (λ_=>ay (K3 _))
def LM(f:Nat->Int):Int:=f 0+f 1+f 2+f 3+f 4+f 5
def XO(f:Nat->Int):Prop:=∀h,h<8->0<=f h∧f h<=8
theorem XO.e{f:Nat->Int}(h:XO f):0<=LM f∧LM f<=48:=by
 have h0:=h 0 aV;have h1:=h 1 aV;have h2:=h 2 aV;have h3:=h 3 aV;have h4:=h 4 aV;have h5:=h 5 aV;unfold LM;omega
theorem XO.up{f:Nat->Int}{k:Nat}(h:XO f)(hk:k<6)(h8:f k<8):XO (tP f k (f k+1))∧LM (tP f k (f k+1))=LM f+1:=by
 refine⟨λj hj=>?_,?_⟩
 .by_cases e:j=k
  .subst e;rw[Jx];have:=h j hj;omega
  .rw[Jw e];exact h j hj
 .have:k=0∨k=1∨k=2∨k=3∨k=4∨k=5:=by omega
  rcases this with rfl|rfl|rfl|rfl|rfl|rfl <;> (simp[LM,tP];omega)
end
structure AR(I:dJ)(tk C:Int)(f:Nat->Int)(s:Nat)(r:az×ak×aU×(Nat->Int)):Prop where
 m:sZ I tk r.1
 x:XO r.2.2.2
 o:xx I (C+1048580*LM r.2.2.2) (C+1048580*LM r.2.2.2) r.2.1
 a:xw (fN I.eX) r.2.2.1
 sz:(r.1.cr.length:Int)+r.2.2.1.ba.length+3145741*LM f<=s+1+3145741*LM r.2.2.2
section
variable {I:dJ} {tk:Int} {m:az} {C:Int} {o:ak} {a:aU} {f:Nat->Int}
theorem aaj{x:cS}(H:yV I)(h:sZ I tk m)(hf:XO f)(ho:xx I (C+1048580*LM f) (C+1048580*LM f) o)(ha:xw (fN I.eX) a)(hx:SO (fN I.eX) x)(c0:0<=C)(c1:C+1048580*48<=2147483647)(sl:m.cr.length+a.ba.length<=90000000000):Wp (ox x m o a f) (AR I tk C f (m.cr.length+a.ba.length)):=by
 obtain⟨e0,e48⟩:=hf.e;have n3:=H.fl.n3;have xW:=h.z.ZC;have Yt:=h.vl;have x0:=hx.c0;have x1:=hx.c1;have xh0:=hx.h0;have xh7:=hx.h7;have xal:=hx.al;have iA:oO 8 x.bU:=⟨xh0,ah⟩;have fh:=hf x.bU.toNat ah;unfold ox;refine fE x0 ah (λv _ vm=>?_);have hv:=h.vr v vm;rw[xW];refine av (aau H.fl x0 x1) (λp hp=>aK (λ_=>iA) (fH (aq (λ_=>?_) (λhh=>?_))))
 .refine av (aW (BR h (e:=AEv.mk 0 x.aN 7 x.lW x.gN x.lX x.bU (IntKind.wrap .i64 x.nS) x.cE) ?_ ah)) (λr hr=>aL (aj ⟨hr.1,hf,ho,ha,adR⟩))
  exact⟨x0,bB,bB,fF,fF,hx.p0,hx.p8,hx.n0,hx.n1,hx.y0,hx.y1,xh0,xh7,Bj _,xal,hx.args⟩
 simp only[Bool.or_eq_false_iff,decide_eq_false_iff_not,Bool.not_eq_false']at hh;obtain⟨q0,q6⟩:=hp hh.1.1;have f8:f x.bU.toNat<8:=ah;obtain⟨hf',hE⟩:=hf.up (k:=x.bU.toNat) ah f8;obtain⟨g0,g48⟩:=hf'.e;rw[hE]at g48;rw[wrap_i64 (n:=f x.bU.toNat+1) ah ah];refine aK iA (fH (aK iA (fH (nY ?_))));refine av (aW (BR h (e:=AEv.mk 0 x.aN x.nS x.lW x.gN x.lX x.bU 0 x.cE) ?_ ah)) ?_
 .have:=hx.so
  exact⟨x0,bB,bB,bB,bB,hx.p0,hx.p8,hx.n0,hx.n1,hx.y0,hx.y1,xh0,xh7,I6.of fF,xal,hx.args⟩
 rintro m1 ⟨h1,h1l⟩;refine av (aik H.fl x0 x1 hv) (λu hu=>?_);refine av (aW (aiA H ho x0 ah)) ?_;rintro⟨dk,fs⟩ ⟨d1,d2⟩;dsimp only at d1 d2 |-;have hdi:=ho.di x.aN.toNat ah;have DP:=h1.sl;refine fE x0 ah (λst _ stm=>?_);have zb:=h1.so st stm;have nw0:=h1.z.n0;have nw1:=h1.z.n1;refine av (aW (aiy hu zb.ok hx.args (I6.of ah) ah zb.v zb.t)) ?_;rintro⟨res,er,fl⟩ ⟨xr,xl⟩;obtain rfl:fl=m1.bn.aY:=xr.fl;dsimp only at xl |-;refine aq (λ_=>aL (aj ⟨h1,hf',?_,ha,?_⟩)) (λhe=>?_)
 .dsimp only;rw[hE];exact ho.mono ah ah
 .dsimp only;rw[hE];omega
 have he:er=0:=by simpa using he
 have hso:=xr.st he;have Yx:res.dt.length<=1048580:=xr.el he;have hef:=xr.ef he;obtain⟨l1,l2⟩:=xl he;refine aX (av (aao ah) ?_);rintro d ⟨dd0,dd1⟩;refine av (aW (SS H ho ah x0 ah dd0 ah)) (λo1 ho1=>?_);have hns:StL res.bL:=⟨hso,by rw[l1];exact zb.v,by rw[l2];exact zb.t⟩;have h2:=h1.state (i:=Int.toNat x.aN) hns;refine cC (λj s=>0<=s.1∧s.1<=C+1048580*LM f+j∧sZ I tk (az.mk s.2.1 s.2.2.1 s.2.2.2.1 () () s.2.2.2.2.1 (aP.mk s.2.2.2.2.2.1 s.2.2.2.2.2.2.1 s.2.2.2.2.2.2.2.1) s.2.2.2.2.2.2.2.2.1 s.2.2.2.2.2.2.2.2.2.1)∧xx I (C+1048580*LM f+j) (C+1048580*LM f+d) (ak.mk (bW.mk s.2.2.2.2.2.2.2.2.2.2.2.2.2.1) s.2.2.2.2.2.2.2.2.2.2.2.2.2.2.1 s.2.2.2.2.2.2.2.2.2.2.1 s.2.2.2.2.2.2.2.2.2.2.2.1 s.2.2.2.2.2.2.2.2.2.2.2.2.1 s.2.2.2.2.2.2.2.2.2.2.2.2.2.2.2.1)∧xw (fN I.eX) (aU.mk s.2.2.2.2.2.2.2.2.2.2.2.2.2.2.2.2)∧s.2.2.2.2.2.2.2.2.2.1.length<=m1.cr.length+j∧s.2.2.2.2.2.2.2.2.2.2.2.2.2.2.2.2.length<=a.ba.length+2*j) (gq ah) ⟨bB,bB,h2,ho1.mono ah ah,ha,Nat.le_refl _,Nat.le_refl _⟩ ?_ ?_
 .rintro j ⟨xd,gi,ft,hd,nw,ss,fg,vs,ps,es,o1,o2,o3,o4,o5,o6,ag⟩ hj ⟨y0,y1,y2,y3,y4,y5,y6⟩
  dsimp only at y0 y1 y2 y3 y4 y5 y6 |-;refine bO hj (λe _ em=>?_);refine av (aW (ZT H y2 y3 y4 (hef e em) x0 x1 xh0 xh7 y0 ah ah bB bB)) ?_;rintro⟨b,m2,o2',a2⟩ ⟨z1,z2,z3,z4,z5⟩;dsimp only at z1 z2 z3 z4 z5 |-;have z2':xx I (C+1048580*LM f+(j+1:Nat)) (C+1048580*LM f+d) o2':=z2.mono ah (Int.le_refl _);refine aq (λ_=>ay (aj ⟨?_,?_,z1,z2',z3,bB,bB⟩)) (λ_=>ay (aj ⟨y0,bB,z1,z2',z3,bB,bB⟩))
  .dsimp only;rw[wrap_i64 ah ah];omega
  .dsimp only;rw[wrap_i64 ah ah];omega
 .rintro⟨xd,gi,ft,hd,nw,ss,fg,vs,ps,es,o1,o2,o3,o4,o5,o6,ag⟩ ⟨y0,y1,y2,y3,y4,y5,y6⟩
  dsimp only at y0 y1 y2 y3 y4 y5 y6 |-;rw[Int.toNat_natCast]at y3 y5 y6;refine aL (aj ⟨y2,hf',?_,y4,?_⟩)
  .dsimp only;rw[hE];exact y3.mono ah ah
  .dsimp only;rw[hE];omega
end
theorem zB{α:Type}{l:List α}{z:α}:LG (List.replicate (Int.toNat (l.length:Int)) z) l=l:=by
 unfold LG za;rw[Int.toNat_natCast,List.length_replicate,Nat.min_self,List.take_length,List.drop_of_length_le (by rw[List.length_replicate];exact Nat.le_refl _),List.append_nil]
structure TI(I:dJ)(tk:Int)(m:az)(o:ak)(a:aU):Prop where
 ma:sZ I tk m
 no:xx I (150995520*tk) (150995520*tk) o
 ag:xw (fN I.eX) a
 sz:(m.cr.length:Int)+a.ba.length<=1000000000*tk
section
variable {I:dJ} {tk:Int} {m:az} {o:ak} {a:aU}
theorem Za{st:List aM}{fg:List Bool}{vs:List Int}(h1:st.length<=1000)(h2:fg.length<=1000)(h3:vs.length<=1000):xR st fg vs=some ⟨st,fg,vs⟩:=by
 unfold xR;refine dD (aK qm (aX (aK qm (aX (aK qm (aX (cV (aL (aj ?_)))))))));rw[zB,zB,zB]
theorem ail(H:yV I)(h:TI I tk m o a):Wp (qz m o a) λr=>(r.1=false->TI I tk r.2.1 r.2.2.1 r.2.2.2)∧(r.1=true->tk<=12∧TI I (tk+1) r.2.1 r.2.2.1 r.2.2.2):=by
 have n3:=H.fl.n3;have xW:=h.ma.z.ZC;have nw:=h.ma.z.nw;have nw0:=h.ma.z.n0;have z1:=H.z1;have yl:=h.sz;unfold qz;refine aF (x:=false) Yd (aq (λ_=>aL (aj ⟨λ_=>h,λh=>dI⟩)) (λhh=>aF Fcs ?_))
 have ht:tk<=12:=by
  rw[Bool.false_or,decide_eq_false_iff_not,xW]at hh;omega
 rw[xW];refine av (aW (ahI H h.ma h.no ah)) ?_;rintro⟨m1,o1⟩ ⟨a1,a2,a3⟩;dsimp only at a1 a2 a3 |-;refine cC (λj s=>sZ I tk (az.mk s.1 s.2.1 s.2.2.1 () () s.2.2.2.1 (aP.mk s.2.2.2.2.1 s.2.2.2.2.2.1 s.2.2.2.2.2.2.1) s.2.2.2.2.2.2.2.1 s.2.2.2.2.2.2.2.2.1)∧xx I (150995520*tk) (150995520*tk) (ak.mk (bW.mk s.2.2.2.2.2.2.2.2.2.2.2.2.1) s.2.2.2.2.2.2.2.2.2.2.2.2.2.1 s.2.2.2.2.2.2.2.2.2.1 s.2.2.2.2.2.2.2.2.2.2.1 s.2.2.2.2.2.2.2.2.2.2.2.1 s.2.2.2.2.2.2.2.2.2.2.2.2.2.2.1)∧xw (fN I.eX) (aU.mk s.2.2.2.2.2.2.2.2.2.2.2.2.2.2.2)∧(s.2.2.2.2.2.2.2.2.1.length:Int)+s.2.2.2.2.2.2.2.2.2.2.2.2.2.2.2.length<=1000000000*tk+10+20*j) (gq ah) ⟨a1,a2,h.ag,bB⟩ ?_ ?_
 .rintro j ⟨gi,ft,hd,nw,ss,fg,vs,ps,es,p1,p2,p3,p4,p5,p6,ag⟩ hj ⟨y1,y2,y3,y4⟩
  dsimp only at y1 y2 y3 y4 |-;refine av (aW (adj H y1 y2 y3 ah hj bB bB)) ?_;rintro⟨m2,o2,a2⟩ ⟨x1,x2,x3,x4,x5⟩;dsimp only at x1 x2 x3 x4 x5 |-;refine av (aW (ZV H x1 x2 ah hj ah)) ?_;rintro⟨m3,o3⟩ ⟨w1,w2,w3⟩;dsimp only at w1 w2 w3 |-;exact ay (aj ⟨w1,w2,x3,bB⟩)
 .rintro⟨gi,ft,hd,nw,ss,fg,vs,ps,es,p1,p2,p3,p4,p5,p6,ag⟩ ⟨y1,y2,y3,y4⟩
  dsimp only at y1 y2 y3 y4 |-;rw[Int.toNat_natCast]at y4;refine av (aW (ZG H y1 y2 y3 bB)) ?_;rintro⟨o2,a2⟩ ⟨x1,x2,x3⟩;dsimp only at x1 x2 x3 |-;refine cC (λj s=>sZ I tk (az.mk s.1 s.2.1 s.2.2.1 () () s.2.2.2.1 (aP.mk s.2.2.2.2.1 s.2.2.2.2.2.1 s.2.2.2.2.2.2.1) s.2.2.2.2.2.2.2.1 s.2.2.2.2.2.2.2.2.1)∧xx I (150995520*tk+50331840*j) (150995520*tk+50331840*j) (ak.mk (bW.mk s.2.2.2.2.2.2.2.2.2.2.2.2.1) s.2.2.2.2.2.2.2.2.2.2.2.2.2.1 s.2.2.2.2.2.2.2.2.2.1 s.2.2.2.2.2.2.2.2.2.2.1 s.2.2.2.2.2.2.2.2.2.2.2.1 s.2.2.2.2.2.2.2.2.2.2.2.2.2.2.1)∧xw (fN I.eX) (aU.mk s.2.2.2.2.2.2.2.2.2.2.2.2.2.2.2)∧(s.2.2.2.2.2.2.2.2.1.length:Int)+s.2.2.2.2.2.2.2.2.2.2.2.2.2.2.2.length<=1000000000*tk+100+150995568*j) (gq ah) ⟨y1,x1.mono ah ah,x2,bB⟩ ?_ ?_
  .rintro j ⟨gi,ft,hd,nw,ss,fg,vs,ps,es,p1,p2,p3,p4,p5,p6,ag⟩ hj ⟨y1,y2,y3,y4⟩
   dsimp only at y1 y2 y3 y4 |-;refine av (aW (aim y3 bB)) ?_;rintro⟨its,a3⟩ ⟨w1,w2,w3⟩;dsimp only at w1 w2 w3 |-;have hz:LM (arr 0 [])=0:=aV;refine cC (λq s=>sZ I tk (az.mk s.1 s.2.1 s.2.2.1 () () s.2.2.2.1 (aP.mk s.2.2.2.2.1 s.2.2.2.2.2.1 s.2.2.2.2.2.2.1) s.2.2.2.2.2.2.2.1 s.2.2.2.2.2.2.2.2.1)∧XO s.2.2.2.2.2.2.2.2.2.1∧xx I (150995520*tk+50331840*j+1048580*LM s.2.2.2.2.2.2.2.2.2.1) (150995520*tk+50331840*j+1048580*LM s.2.2.2.2.2.2.2.2.2.1) (ak.mk (bW.mk s.2.2.2.2.2.2.2.2.2.2.2.2.2.1) s.2.2.2.2.2.2.2.2.2.2.2.2.2.2.1 s.2.2.2.2.2.2.2.2.2.2.1 s.2.2.2.2.2.2.2.2.2.2.2.1 s.2.2.2.2.2.2.2.2.2.2.2.2.1 s.2.2.2.2.2.2.2.2.2.2.2.2.2.2.2.1)∧xw (fN I.eX) (aU.mk s.2.2.2.2.2.2.2.2.2.2.2.2.2.2.2.2)∧(s.2.2.2.2.2.2.2.2.1.length:Int)+s.2.2.2.2.2.2.2.2.2.2.2.2.2.2.2.2.length+its.length<=1000000000*tk+100+150995568*j+q+3145741*LM s.2.2.2.2.2.2.2.2.2.1) (gq ah) ⟨y1,λk hk=>by dsimp only;rw[z8 k hk];decide,y2.mono adU adU,w2,?_⟩ ?_ ?_
   .dsimp only
    rw[hz];omega
   .rintro q ⟨gi,ft,hd,nw,ss,fg,vs,ps,es,xo,p1,p2,p3,p4,p5,p6,ag⟩ hq ⟨u1,u2,u3,u4,u5⟩
    dsimp only at u1 u2 u3 u4 u5 |-;obtain⟨e0,e48⟩:=u2.e;refine bO hq (λit _ itm=>?_);refine av (aW (aaj H u1 u2 u3 u4 (w1 it itm) ah ah bB)) ?_;rintro⟨m4,o4,a4,f4⟩ ⟨v1,v2,v3,v4,v5⟩;dsimp only at v1 v2 v3 v4 v5 |-;exact ay (aj ⟨v1,v2,v3,v4,bB⟩)
   .rintro⟨gi,ft,hd,nw,ss,fg,vs,ps,es,xo,p1,p2,p3,p4,p5,p6,ag⟩ ⟨u1,u2,u3,u4,u5⟩
    dsimp only at u1 u2 u3 u4 u5 |-;rw[Int.toNat_natCast]at u5;obtain⟨e0,e48⟩:=u2.e;exact ay (aj ⟨u1,u3.mono ah ah,u4,bB⟩)
  .rintro⟨gi,ft,hd,nw,ss,fg,vs,ps,es,p1,p2,p3,p4,p5,p6,ag⟩ ⟨y1,y2,y3,y4⟩
   dsimp only at y1 y2 y3 y4 |-;rw[Int.toNat_natCast]at y2 y4;have DP:ss.length=fN I.eX:=y1.sl;have Yt:vs.length=fN I.eX:=y1.vl;have hfl:fg.length=I.eX.oW.aY.length:=y1.fgl;have hf2:=H.fl.f2;have hpl:(ps.length:Int)<=tk:=y1.pl;have hnw:nw=tk:=y1.z.nw;refine aF (by unfold cl;exact Za ah ah ah) (aX (aK (yk ah aV) (aL (aj ⟨(λh=>dI),λ_=>⟨ht,?_,?_,y3,bB⟩⟩))))
   .dsimp only
    rw[wrap_i64 ah ah];exact⟨⟨y1.z.ZC,y1.z.fit,y1.z.fl,y1.z.held,y1.z.hl,bB,bB,bB⟩,y1.sl,y1.so,y1.fgl,y1.vl,y1.vr,Yb,tY y1.po ⟨bB,y1.so,bB,bB⟩,y1.ev⟩
   .exact y2.mono ah ah
end
open Go.RowKit
attribute [local irreducible] gL dH br gY jP dK fC kY
theorem FX:∀(N:Nat) (l:List Nat),l.Nodup->(∀x∈l,x<N)->l.length<=N
 |0,l,_,h=>by
  cases l with
  |nil=>simp
  |cons x l=>exact absurd (h x aR) ah
 |N+1,l,hn,h=>by
  by_cases hm:N∈l
  .have h1:=List.length_erase_of_mem hm
   have:=FX N (l.erase N) (hn.erase N) (λx hx=>by
    have h2:x≠N:=λe=>by subst e;exact hn.not_mem_erase hx
    have:=h x (List.mem_of_mem_erase hx)
    omega)
   have:=List.length_pos_of_mem hm;omega
  .have:=FX N l hn (λx hx=>by
    have h2:x≠N:=λe=>hm (e ▸ hx)
    have:=h x hx
    omega)
   omega
def aie(keys:List aI)(k:List aI->Option (List aI)):Option (List aI) :=open Classical in if h : ∃ r,∀ l : List aI,l.Perm keys->k l = some r then some h.choose else none
theorem aak{keys:List aI}{k:List aI->Option (List aI)}{r:List aI}(h:aie keys k=some r){l:List aI}(hl:l.Perm keys):k l=some r:=by
 unfold aie at h
 split at h
 .rename_i hx
  injection h with h
  rw[<-h];exact hx.choose_spec l hl
 .cases h
def jG(o0:ak):Option (List aI) :=Ck (kY 32 0 (o0.bq.length:Int))<|Ck (dK 32 (o0.bq.length))<|aie (o0.bq.map Prod.fst) fP
def SX(xs:List (aI×Bool))(x:List Nat×List aI):Prop:=x.1.Nodup∧(∀j∈x.1,j<xs.length)∧x.2=x.1.filterMap λj=>(xs.map Prod.fst)[j]?
theorem acZ{α:Type}(ys:List α):∀(seen:List Nat),(∀j∈seen,j<ys.length)->(seen.filterMap λj=>ys[j]?).length=seen.length
 |[],_=>rfl
 |j::seen,h=>by
  have hj:=h j aR;rw[List.filterMap_cons,List.getElem?_eq_getElem hj];simp[acZ ys seen (λx hx=>h x Gp)]
theorem RV{α:Type}:∀(ys:List α),((List.range ys.length).filterMap λj=>ys[j]?)=ys
 |[]=>rfl
 |y::ys=>by
  rw[List.length_cons,List.range_succ_eq_map,List.filterMap_cons];simp only[List.getElem?_cons_zero,List.filterMap_map];have:((λj=>(y::ys)[j]?) ∘ Nat.succ)=λj=>ys[j]? := by funext j;simp
  rw[this,RV ys]
theorem SX.len{xs:List (aI×Bool)}{x:List Nat×List aI}(h:SX xs x):x.2.length=x.1.length:=by
 rw[h.2.2];exact acZ _ _ (λj hj=>by simpa using h.2.1 j hj)
theorem SX.step{xs:List (aI×Bool)}{x:List Nat×List aI}(h:SX xs x){j:Nat}{k:aI×Bool}(hk:xs[j]? = some k)(hj:j ∉ x.1):SX xs (x.1++[j],x.2++[k.1]):=by
 obtain⟨h1,h2,h3⟩:=h;have hl:=(List.getElem?_eq_some_iff.1 hk).1;refine⟨?_,?_,?_⟩
 .rw[List.nodup_append]
  exact⟨h1,aR,λa ha b hb=>by simp at hb;subst hb;intro e;subst e;exact hj ha⟩
 .intro i hi
  rcases List.mem_append.1 hi with hi|hi
  .exact h2 i hi
  .simp at hi;subst hi;exact hl
 .have:(xs.map Prod.fst)[j]? = some k.1:=by rw[List.getElem?_map,hk];rfl
  rw[List.filterMap_append,<-h3];simp only[List.filterMap_cons,this,List.filterMap_nil]
theorem SX.fin{xs:List (aI×Bool)}{x:List Nat×List aI}(h:SX xs x)(aaF:∀j,j<xs.length->j∈x.1):x.2.Perm (xs.map Prod.fst):=by
 obtain⟨h1,h2,h3⟩:=h;have hp:x.1.Perm (List.range xs.length):=(List.perm_ext_iff_of_nodup h1 List.nodup_range).2 λj=>⟨λhj=>List.mem_range.2 (h2 j hj),λhj=>aaF j (List.mem_range.1 hj)⟩
 rw[h3];refine(hp.filterMap _).trans ?_;have:=RV (xs.map Prod.fst);rw[List.length_map]at this;rw[this]
instance HZ{o0:ak}:MA (jG o0) prog 82 (λ_=>1) λr=>⟨[.ref 9000 0],[(9000,some (.bJ 299 (ak.b0 o0 (.row 9001) (.row 9002)))),(9001,some (.R 181 4 du o0.dB)),(9002,some (.mp (nU cU DV.bool o0.bq)))],.row 5000,[(5000,some (.R 174 4 mb r)),(9000,some (.bJ 299 (ak.b0 o0 (.row 9001) (.row 9002)))),(9001,some (.R 181 4 du o0.dB)),(9002,some (.mp (nU cU DV.bool o0.bq)))],[5000]⟩:=⟨fun {r} hM=>by
 unfold jG at hM;rw[Yr]at hM;obtain⟨hmk,hM⟩:=mP hM;rw[Yr]at hM;obtain⟨hap,hM⟩:=mP hM;refine ab func82 ntmps82 (h:=?_);have z12:=ev0 12 mb (aI.mk 0 0 0 0);apply rs0;exact tr;kernel_rfl;kernel_rfl;apply sq;apply rs0;exact tr;kernel_rfl;kernel_rfl;refine qc false rfl (λh=>dI) (λ_=>?_);apply sk;show gL _ _ _ _ _;apply rs0;exact tr;kernel_rfl;kernel_rfl;apply sq;apply rs0
 .iterate 4 (apply Trace.cg;exact op1;exact ap;exact ap;exact ap)
  apply Trace.cg;exact am7 rfl rfl;exact ap;exact ap;exact ap;exact tn
 .kernel_rfl
 .kernel_rfl
 refine vM ?_
 refine Kz (λx:List Nat×List aI=>⟨[(3,.row 1001),(17,.ref 17 0)],[(1001,some (.R 174 4 mb x.2)),(17,some (.it 9002 (nU cU DV.bool o0.bq).length x.1)),(9000,some (.bJ 299 (ak.b0 o0 (.row 9001) (.row 9002)))),(9001,some (.R 181 4 du o0.dB)),(9002,some (.mp (nU cU DV.bool o0.bq)))],[1001,17,9000,9001,9002]⟩)
  (SX o0.bq) (λx=>o0.bq.length-x.1.length) ([],[]) ?_ ⟨List.nodup_nil,aR,rfl⟩ ?_
 .exact(il (l:=[(1001,12)]))
 .rintro⟨seen,acc⟩ hI
  have hlen:=hI.len;have hle:acc.length<=o0.bq.length:=by rw[hlen];exact FX _ _ hI.1 hI.2.1
  have hml:(nU cU DV.bool o0.bq).length=o0.bq.length:=by simp[nU]
  refine fK ?_;refine ak3 rfl rfl rfl rfl aV aV (λaaF=>?_) (λj kd vd hj hns=>?_)
  .show gL _ _ _ _ _
   refine fK ?_;refine qc false rfl (λh=>dI) (λ_=>?_);refine HA ?_;have hp:=hI.fin (λj hj=>aaF j (by rw[hml];exact hj));have hS:=aak hM hp;have hc:CH prog 149 27 [(9000,1001)] 1 _:=⟨(tT (o0:=acc)).h hS⟩;show gL _ _ _ _ _;dsimp only;apply rs0;exact tr;kernel_rfl;kernel_rfl;apply rs0;exact tr;kernel_rfl;kernel_rfl;exact ra' (⟨trivial⟩:HL [(5000,1001)])
  .show gL _ _ _ _ _
   have IP:=(List.getElem?_eq_some_iff.1 hj).1;rw[hml]at IP;obtain⟨k,hk⟩:∃k,o0.bq[j]? = some k:=⟨_,List.getElem?_eq_getElem IP⟩
   obtain⟨rfl,rfl⟩:kd=DV.agg (cU k.1)∧vd=DV.bool k.2:=by
    simp only[nU,List.getElem?_map,hk,Option.map_some,Option.some.injEq,Prod.mk.injEq]at hj;exact⟨hj.1.symm,hj.2.symm⟩
   have hI2:=hI.step hk hns
   have awP:acc.length+1<=o0.bq.length:=by
    have:=FX _ _ hI2.1 hI2.2.1;simp only[List.length_append,List.length_singleton]at this;rw[hlen];exact this
   have z24:=ev0 24 (bA 4 mb) [k.1]
   have aNC:dK 32 (acc.length + [k.1].length):=by
    unfold dK at hap |-;simp only[List.length_singleton];have:(acc.length+1)*32<=o0.bq.length*32:=Nat.mul_le_mul_right _ awP;omega
   dsimp only;refine fK ?_;refine qc true rfl (λ_=>?_) (λh=>dI);apply sk;show gL _ _ _ _ _;refine vM ?_;apply rs0
   .apply Trace.cg;exact ane rfl rfl rfl rfl hj;exact ap;exact ap;exact ap
    exact tr
   .kernel_rfl
   .kernel_rfl
   apply rr0
   .exact tr
   .kernel_rfl
   .kernel_rfl
   exact⟨(seen++[j],acc++[k.1]),hI2,by dsimp only at hlen |-;simp only[List.length_append,List.length_singleton];omega,il (l:=[(1001,25)])⟩⟩
end Go.Proofs.YtaafmkmdfcgeaaaGreatDoor
namespace Go.Proofs.YtaafmkmdfcgeaaaGreatDoor
open Go.Proofs.Tryz
theorem swap_perm{α:Type}{t:List α}{i j:Nat}{x y:α}(hx:t[i]? = some x)(hy:t[j]? = some y):((t.set i y).set j x).Perm t:=by
 obtain⟨hi,rfl⟩:=List.getElem?_eq_some_iff.1 hx;obtain⟨hj,rfl⟩:=List.getElem?_eq_some_iff.1 hy;have:=Array.swap_perm (xs:=t.toArray) (i:=i) (j:=j) hi hj;have h:=Array.perm_iff_toList_perm.1 this
 simp_all
theorem Mz{α:Type}[DecidableEq α]:∀(l m:List α),l.Nodup->(∀x∈l,x∈m)->l.length<=m.length
 |[],m,_,_=>Nat.zero_le _
 |a::t,m,hn,h=>by
  obtain⟨h1,h2⟩:=List.nodup_cons.1 hn;have ha:=h a aR;have:=Mz t (m.erase a) h2 (λx hx=>(List.mem_erase_of_ne (λe=>eJ)).2 (h x Gp));rw[List.length_erase_of_mem ha]at this;have:=List.length_pos_of_mem ha;simp only[List.length_cons];omega
theorem Mm:∀(l m:List aI),l.Pairwise (λa b=>oM a<oM b)->m.Pairwise (λa b=>oM a<oM b)->(∀x,x∈l↔x∈m)->l=m
 |[],[],_,_,_=>rfl
 |[],b::m,_,_,h=>by have:=(h b).2 aR;cases this
 |a::l,[],_,_,h=>by have:=(h a).1 aR;cases this
 |a::l,b::m,h1,h2,h=>by
  obtain⟨p1,q1⟩:=List.pairwise_cons.1 h1;obtain⟨p2,q2⟩:=List.pairwise_cons.1 h2
  have hab:a=b:=by
   rcases List.mem_cons.1 ((h a).1 aR)with e|e
   .exact e
   rcases List.mem_cons.1 ((h b).2 aR)with f|f
   .grind
   .have:=p1 b f;have:=p2 a e;omega
  subst hab;rw[Mm l m q1 q2 (λx=>⟨λhx=>?_,λhx=>?_⟩)]
  .rcases List.mem_cons.1 ((h x).1 Gp)with e|e
   .subst e;have:=p1 x hx;omega
   .exact e
  .rcases List.mem_cons.1 ((h x).2 Gp)with e|e
   .subst e;have:=p2 x hx;omega
   .exact e
theorem RL{x y:aI}(hx:KB x)(hy:KB y):zF x y=some (decide (oM x<oM y)):=by
 refine dD (av (Kp hx hy) (λv hv=>aj ?_))
 simp_all
theorem ahx{x y:aI}(hx:KB x)(hy:KB y):Wp (jX x y) λv=>(v<0↔oM x<oM y):=by
 unfold jX;rw[RL hx hy,RL hy hx];refine aF rfl (aq (λh=>aj ?_) (λh=>aF rfl (aq (λ_=>aj ?_) (λ_=>aj ?_))))
 all_goals simp_all
def Sd(t:List aI)(i j:Nat):Prop:=∀p q a b,p<q->q<=i->q≠j->t[p]? = some a->t[q]? = some b->oM a<oM b
theorem Sd.swap{t:List aI}{i j:Nat}{x y:aI}(h:Sd t i j)(hj:0<j)(hji:j<=i)(hx:t[j]? = some x)(hy:t[j-1]? = some y)(my:oM x<oM y):Sd ((t.set j y).set (j-1) x) i (j-1):=by
 obtain⟨lj,_⟩:=List.getElem?_eq_some_iff.1 hx
 have g:∀p,((t.set j y).set (j-1) x)[p]? = if p=j-1 then some x else if p=j then some y else t[p]? := by
  intro p
  by_cases e:j-1=p
  .subst e;rw[List.getElem?_set_self Np,if_pos rfl]
  .rw[List.getElem?_set_ne e,if_neg (show ¬p=j-1 from λe'=>e e'.symm)]
   by_cases e2:j=p
   .subst e2;simp_all
   .rw[List.getElem?_set_ne e2,if_neg (show ¬p=j from λe'=>e2 e'.symm)]
 intro p q a b hpq hqi hqj ha hb;rw[g]at ha hb;rw[if_neg hqj]at hb
 by_cases q1:q=j
 .rw[if_pos q1]at hb
  obtain rfl:=Option.some.inj hb
  by_cases p1:p=j-1
  .simp_all
  .rw[if_neg p1,if_neg ah]at ha
   exact h p (j-1) a _ ah ah ah ha hy
 .rw[if_neg q1]at hb
  by_cases p1:p=j-1
  .rw[if_pos p1]at ha
   obtain rfl:=Option.some.inj ha;exact h j q _ b ah hqi ah hx hb
  .rw[if_neg p1]at ha
   by_cases p2:p=j
   .rw[if_pos p2]at ha
    obtain rfl:=Option.some.inj ha;exact h (j-1) q _ b ah hqi ah hy hb
   .rw[if_neg p2]at ha
    exact h p q a b hpq hqi ah ha hb
theorem Sd.done{t:List aI}{i j:Nat}(h:Sd t i j)(hj:0<j->∀x y,t[j]? = some x->t[j-1]? = some y->oM y<oM x)(hl:j<t.length):∀p q a b,p<q->q<i+1->t[p]? = some a->t[q]? = some b->oM a<oM b:=by
 intro p q a b hpq hqi ha hb
 by_cases e:q=j
 .subst e
  have hy:=List.getElem?_eq_getElem (show q-1<t.length by omega);have h1:=hj ah b _ hb hy
  by_cases e2:p=q-1
  .simp_all
  .have:=h p (q-1) a _ ah ah ah ha hy
   omega
 .exact h p q a b hpq ah e ha hb
theorem Rg{l:List aI}(hl:l.length<=12)(hk:∀k∈l,KB k)(hn:(l.map oM).Nodup):Wp (fP l) λr=>r.Perm l∧r.Pairwise (λa b=>oM a<oM b):=by
 have fin:∀t:List aI,t.Perm l->(∀p q a b,p<q->q<l.length->t[p]? = some a->t[q]? = some b->oM a<oM b)->t.Perm l∧t.Pairwise (λa b=>oM a<oM b):=λt h1 h2=>⟨h1,by
  rw[List.pairwise_iff_getElem];intro i j hi hj DM;exact h2 i j _ _ DM (by rw[<-h1.length_eq];exact hj) (List.getElem?_eq_getElem hi) (List.getElem?_eq_getElem hj)⟩
 unfold fP;refine av (PS _) (λv _=>av (P:=λr=>r.Perm l∧r.Pairwise (λa b=>oM a<oM b)) (aW ?_) (λr h=>aL (aj h)));unfold kA;refine NT (aq (λ_=>av (P:=λr=>r.Perm l∧r.Pairwise (λa b=>oM a<oM b)) (aW ?_) (λr h=>aL (aj h))) (λh=>?_))
 .unfold iV
  refine jR (λs=>s.1.Perm l∧(∀p q a b,p<q->q<s.2.toNat->s.1[p]? = some a->s.1[q]? = some b->oM a<oM b)∧1<=s.2∧s.2<=100) (λs=>(100-s.2).toNat) ⟨List.Perm.refl _,?_,fF,fF⟩ fF ?_
  .intro p q a b h1 h2
   have:(IntKind.wrap .i64 ((0:Int)+1)).toNat=1:=aV;dsimp only at h2;rw[this]at h2;omega
  rintro⟨s,i⟩ ⟨s1,sp,i1,i2⟩;dsimp only at s1 sp i1 i2 |-;have aNE:=s1.length_eq;refine aq (λhb=>?_) (λhb=>aj (aL (aj (fin s s1 (λp q a b h1 h2=>sp p q a b h1 (by have:=of_decide_eq_false hb;omega))))));have hi:i<(l.length:Int):=DD;refine jR (λt=>t.1.Perm l∧Sd t.1 i.toNat t.2.toNat∧0<=t.2∧t.2<=i) (λt=>t.2.toNat) ⟨s1,λp q a b h1 h2 h3=>sp p q a b h1 (by dsimp only at h3;omega),bB,bB⟩ bB ?_;rintro⟨t,j⟩ ⟨t1,tp,j0,j1⟩;dsimp only at t1 tp j0 j1 |-;have aNF:=t1.length_eq;have tk:∀k∈t,KB k:=λk Cs=>hk k (t1.mem_iff.1 Cs)
  have tn:(t.map oM).Nodup:=(t1.map oM).nodup_iff.2 hn;rw[wrap_i64 (n:=j-1) ah ah]
  have nxt:∀p q a b,p<q->q<(IntKind.wrap .i64 (i+1)).toNat->(0<j.toNat->∀x y,t[j.toNat]? = some x->t[j.toNat-1]? = some y->oM y<oM x)->t[p]? = some a->t[q]? = some b->oM a<oM b:=by
   intro p q a b h1 h2 h3;rw[wrap_i64 ah ah]at h2;exact tp.done h3 ah p q a b h1 ah
  have dn:(0<j.toNat->∀x y,t[j.toNat]? = some x->t[j.toNat-1]? = some y->oM y<oM x)->(t.Perm l∧(∀p q a b,p<q->q<(IntKind.wrap .i64 (i+1)).toNat->t[p]? = some a->t[q]? = some b->oM a<oM b)∧1<=(IntKind.wrap .i64 (i+1))∧(IntKind.wrap .i64 (i+1))<=100)∧(100-(IntKind.wrap .i64 (i+1))).toNat<(100-i).toNat:=λh3=>by
   refine⟨⟨t1,λp q a b h1 h2=>nxt p q a b h1 h2 h3,?_,?_⟩,?_⟩
   all_goals (rw[wrap_i64 ah ah];omega)
  obtain⟨x,e1,x1,x2⟩:=la (xs:=t) (i:=j) j0 ah
  by_cases hj:0<j
  .obtain⟨y,e2,y1,y2⟩:=la (xs:=t) (i:=j-1) ah ah
   have ej:(j-1).toNat=j.toNat-1:=ah;rw[ej]at y1;refine jK (decide_eq_true hj) e1 (jK (decide_eq_true hj) e2 ?_);refine av (P:=λv=>(v<0↔oM x<oM y)) (gX (λ_=>ahx (tk x x2) (tk y y2)) (λh=>absurd hj (of_decide_eq_false h))) (λv hv=>aq (λh=>?_) (λh=>aj (ay (aj (dn (λ_ x' y' q1 q2=>?_))))))
   .rw[Bool.and_eq_true,decide_eq_true_eq,decide_eq_true_eq]at h
    refine aF e2 (aF e1 (aX ?_));refine fE ah Np (λ_ _ _=>aX (ay (aj ⟨⟨?_,?_,bB,bB⟩,bB⟩)))
    .dsimp only;rw[ej];exact(swap_perm x1 y1).trans t1
    .dsimp only;rw[ej];exact tp.swap ah ah x1 y1 (hv.1 h.2)
   .rw[Bool.and_eq_false_iff,decide_eq_false_iff_not,decide_eq_false_iff_not]at h
    rw[x1]at q1;obtain rfl:=Option.some.inj q1;rw[y1]at q2;obtain rfl:=Option.some.inj q2;obtain⟨l1,f1⟩:=List.getElem?_eq_some_iff.1 x1;obtain⟨l2,f2⟩:=List.getElem?_eq_some_iff.1 y1;have nq:=(List.pairwise_iff_getElem.1 tn) (j.toNat-1) j.toNat (by rw[List.length_map];exact l2) (by rw[List.length_map];exact l1) ah;rw[List.getElem_map,List.getElem_map,f1,f2]at nq;omega
  .refine av (P:=λ_=>True) (gX (λh=>absurd (of_decide_eq_true h) hj) (λ_=>trivial)) (λa _=>av (P:=λ_=>True) (gX (λh=>absurd (of_decide_eq_true h) hj) (λ_=>trivial)) (λb _=>av (P:=λ_=>True) (gX (λh=>absurd (of_decide_eq_true h) hj) (λ_=>trivial)) (λc _=>aq (λh=>?_) (λh=>aj (ay (aj (dn (λh=>ah))))))))
   rw[Bool.and_eq_true,decide_eq_true_eq]at h;exact absurd h.1 hj
 .rw[wrap_i64 ah ah]at h
  simp at h;omega
theorem SW{I:dJ}{cs cd:Int}{o:ak}(H:yV I)(h:xx I cs cd o):Ji (jG o):=by
 have Em:=H.cl
 have hlen:o.bq.length<=10:=by
  have:=Mz (o.bq.map λp=>oM p.1) (I.iM.ba.map λc=>oM c.cQ) h.cn (λx hx=>by
   obtain⟨p,hp,rfl⟩:=List.mem_map.1 hx;obtain⟨c,hc,e⟩:=h.cl p hp;exact List.mem_map.2 ⟨c,hc,by rw[e]⟩)
  rw[List.length_map,List.length_map]at this;omega
 have hkb:∀k∈o.bq.map Prod.fst,KB k:=λk hk=>by
  obtain⟨p,hp,rfl⟩:=List.mem_map.1 hk;obtain⟨c,hc,e⟩:=h.cl p hp;rw[e];exact(H.ch c hc).kb
 have hnd:((o.bq.map Prod.fst).map oM).Nodup:=by
  rw[List.map_map];exact h.cn
 refine aK qm (aK (Iu ah aV) ?_);obtain⟨r,r1,r2,r3⟩:=Rg (l:=o.bq.map Prod.fst) ad0 hkb hnd
 have hex:∃r,∀l:List aI,l.Perm (o.bq.map Prod.fst)->fP l=some r:=⟨r,λl hl=>by
  obtain⟨r',q1,q2,q3⟩:=Rg (l:=l) (by rw[hl.length_eq,List.length_map];omega) (λk hk=>hkb k (hl.mem_iff.1 hk)) ((hl.map oM).nodup_iff.2 hnd);rw[q1,Mm r' r q3 r3 (λx=>by rw[q2.mem_iff,hl.mem_iff,r2.mem_iff])]⟩
 unfold aie;rw[dif_pos hex];exact aj trivial
open Go.RowKit
attribute [local irreducible] gL dH br gY jP dK fC kY
structure yB where
 xX:List AEv
 ZH:List aI
 dL:List aP
def yB.cs(x:yB):List DV:=[.sl 9 (List.map AEv.dv x.xX),.sl 4 (List.map mb x.ZH),.sl 3 (List.map fD x.dL)]
def pO(o0:az)(o2:ak)(o5:aU):Option (List aI) :=Bi (cl 4 [] (nB o0 o2 o5)) λv2=>If v2 (rX [] (some ([]:List aI)))<|Bi (cl 9 [(9000,9002),(9001,9003),(9002,9004),(5000,9)] (jG o2)) λv4=>wk [.z 9]<|rX [] (some v4)
instance KT{o0 o2 o5}:MA (pO o0 o2 o5) prog 37 (λ_=>0) λr=>⟨[.ref 9000 0],[(9000,some (.bJ 194 (az.b0 ({ o0 with bn:=(aP.mk [] [] []) }:az) (.row 9001) (.ref 9002 0) (.ref 9005 0) (.row 9007) (.row 9008) (.row 9009) (.row 9010) (.row 9011)))),(9001,some (.R 176 7 df o0.ld)),(9002,some (.bJ 299 (ak.b0 o2 (.row 9003) (.row 9004)))),(9003,some (.R 181 4 du o2.dB)),(9004,some (.mp (nU cU DV.bool o2.bq))),(9005,some (.bJ 305 [.row 9006])),(9006,some (.R 320 8 dG o5.ba)),(9007,some (.R 201 3 fk o0.bn.dL)),(9008,some (.R 4 1 DV.bool o0.bn.aY)),(9009,some (.R 3 1 (DV.int .i64) o0.bn.bf)),(9010,some (.R 192 3 fD o0.eh)),(9011,some (.R 45 9 AEv.dv o0.cr))],.L 4 mb r,[(9000,some (.bJ 194 (az.b0 ({ o0 with bn:=(aP.mk [] [] []) }:az) (.row 9001) (.ref 9002 0) (.ref 9005 0) (.row 9007) (.row 9008) (.row 9009) (.row 9010) (.row 9011)))),(9001,some (.R 176 7 df o0.ld)),(9002,some (.bJ 299 (ak.b0 o2 (.row 9003) (.row 9004)))),(9003,some (.R 181 4 du o2.dB)),(9004,some (.mp (nU cU DV.bool o2.bq))),(9005,some (.bJ 305 [.row 9006])),(9006,some (.R 320 8 dG o5.ba)),(9007,some (.R 201 3 fk o0.bn.dL)),(9008,some (.R 4 1 DV.bool o0.bn.aY)),(9009,some (.R 3 1 (DV.int .i64) o0.bn.bf)),(9010,some (.R 192 3 fD o0.eh)),(9011,some (.R 45 9 AEv.dv o0.cr))],[]⟩:=.b func37 ntmps37
def Bs(x0:aP):Option ((List aM)×(List Bool)×(List Int)) :=Ck (kY 72 (x0.dL.length:Int) (x0.dL.length:Int))<|eE 7 fk (aM.mk [] [] (aQ.mk [])) λ_=>Ck (kY 1 (x0.aY.length:Int) (x0.aY.length:Int))<|eE 11 DV.bool false λ_=>Ck (kY 8 (x0.bf.length:Int) (x0.bf.length:Int))<|eE 15 (DV.int .i64) 0 λ_=>rC [2] [2] [(5000,7),(5001,11),(5002,15)] (some ((LG (List.replicate (Int.toNat (x0.dL.length:Int)) (aM.mk [] [] (aQ.mk []))) x0.dL),(LG (List.replicate (Int.toNat (x0.aY.length:Int)) false) x0.aY),(LG (List.replicate (Int.toNat (x0.bf.length:Int)) (0:Int)) x0.bf)))
instance ag0{x0}:MA (Bs x0) prog 81 (λ_=>3) λr=>⟨[.agg (Jr x0)],[],.agg [.row 5000,.row 5001,.row 5002],[(5000,some (.R 201 3 fk r.1)),(5001,some (.R 4 1 DV.bool r.2.1)),(5002,some (.R 3 1 (DV.int .i64) r.2.2))],[5000,5001,5002]⟩:=.b func81 ntmps81
def wT(x0:aP):Option aP :=Bi (cl 9 [(5000,1001),(5001,1002),(5002,1003)] (Bs x0)) λv2=>fL v2.1 13 [] [2,3,12] [2] (λ_ t=>(11,.row 1004)::t) (λs t=>(3,some (.bJ 192 [.row 1004,.row 1005,.row 1006]))::(1004,some (.R 201 3 fk s))::(1005,some (.R 4 1 DV.bool v2.2.1))::(1006,some (.R 3 1 (DV.int .i64) v2.2.2))::t) [] [(1004,1001),(1005,1002),(1006,1003)] m64 (v2.1.length:Int) (λk3 s5=>Bi (idx s5 (k3:Int)) λv7=>Ck (kY 8 (v7.eG.length:Int) (v7.eG.length:Int))<|eE 21 (DV.int .i64) 0 λ_=>Ck (kY 24 (v7.dh.length:Int) (v7.dh.length:Int))<|eE 25 iU (aQ.mk []) λ_=>wk [.z 21,.z 25]<|eE 42 fk (aM.mk (LG (List.replicate (Int.toNat (v7.eG.length:Int)) (0:Int)) v7.eG) (LG (List.replicate (Int.toNat (v7.dh.length:Int)) (aQ.mk [])) v7.dh) v7.ez) λv10=>nX [] [] (some (List.set s5 (Int.toNat (k3:Int)) v10))) λs5=>wk [.z 1004,.z 1005,.z 1006]<|some (aP.mk s5 v2.2.1 v2.2.2)
instance aaT{x0}:MC (wT x0) λr=>br prog 83 [.agg (Jr x0)] (.agg (Jr r)):=.p func83 ntmps83
def oy(o0:az)(o2:ak)(o5:aU):Option (List aP) :=Bi (cl 7 [] (nB o0 o2 o5)) λv2=>If v2 (rX [] (some ([]:List aP)))<|Ck (kY 72 (o0.eh.length:Int) (o0.eh.length:Int))<|eE 13 fD (aP.mk [] [] []) λ_=>fL (List.replicate (Int.toNat (o0.eh.length:Int)) (aP.mk [] [] [])) 19 [9000,9001,9002,9003,9004,9005,9006,9007,9008,9009,9010,9011] [17,18] [9000,9001,9002,9003,9004,9005,9006,9007,9008,9009,9010,9011] (λ_ t=>(3,.row 1001)::t) (λs t=>(1001,some (.R 192 3 fD s))::t) [] [(1001,13)] m64 (o0.eh.length:Int) (λk4 s6=>Bi (idx o0.eh (k4:Int)) λv8=>Bi (wT v8) λv10=>Bi (idx s6 (k4:Int)) λv12=>eE 28 fD v10 λkG=>nX [] [] (some (List.set s6 (Int.toNat (k4:Int)) kG))) λs6=>wk [.z 1001]<|rX [] (some s6)
instance Oy{o0 o2 o5}:MA (oy o0 o2 o5) prog 38 (λ_=>0) λr=>⟨[.ref 9000 0],[(9000,some (.bJ 194 (az.b0 ({ o0 with bn:=(aP.mk [] [] []) }:az) (.row 9001) (.ref 9002 0) (.ref 9005 0) (.row 9007) (.row 9008) (.row 9009) (.row 9010) (.row 9011)))),(9001,some (.R 176 7 df o0.ld)),(9002,some (.bJ 299 (ak.b0 o2 (.row 9003) (.row 9004)))),(9003,some (.R 181 4 du o2.dB)),(9004,some (.mp (nU cU DV.bool o2.bq))),(9005,some (.bJ 305 [.row 9006])),(9006,some (.R 320 8 dG o5.ba)),(9007,some (.R 201 3 fk o0.bn.dL)),(9008,some (.R 4 1 DV.bool o0.bn.aY)),(9009,some (.R 3 1 (DV.int .i64) o0.bn.bf)),(9010,some (.R 192 3 fD o0.eh)),(9011,some (.R 45 9 AEv.dv o0.cr))],.L 3 fD r,[(9000,some (.bJ 194 (az.b0 ({ o0 with bn:=(aP.mk [] [] []) }:az) (.row 9001) (.ref 9002 0) (.ref 9005 0) (.row 9007) (.row 9008) (.row 9009) (.row 9010) (.row 9011)))),(9001,some (.R 176 7 df o0.ld)),(9002,some (.bJ 299 (ak.b0 o2 (.row 9003) (.row 9004)))),(9003,some (.R 181 4 du o2.dB)),(9004,some (.mp (nU cU DV.bool o2.bq))),(9005,some (.bJ 305 [.row 9006])),(9006,some (.R 320 8 dG o5.ba)),(9007,some (.R 201 3 fk o0.bn.dL)),(9008,some (.R 4 1 DV.bool o0.bn.aY)),(9009,some (.R 3 1 (DV.int .i64) o0.bn.bf)),(9010,some (.R 192 3 fD o0.eh)),(9011,some (.R 45 9 AEv.dv o0.cr))],[]⟩:=.b func38 ntmps38
def yA(x0:dJ):Option ((yB)⊕((Unit)⊕((Unit)⊕((Unit)⊕(Unit))))) :=Bi (cl 8 [(5000,1001),(5001,1002),(5002,1003),(5003,1004),(5004,1005),(5005,1006),(5006,1007),(5007,1008),(5008,1009),(5009,1010),(5010,1011),(5011,1012)] (AB x0)) λv2=>sm v2 (λtN=>wL (E:=(Bool×az×ak×aU)) (tN.1.EC,tN.1.ld,tN.1.sd,tN.1.qP,tN.1.bn.dL,tN.1.bn.aY,tN.1.bn.bf,tN.1.eh,tN.1.cr,tN.2.1.dq,tN.2.1.eL,tN.2.1.dE,tN.2.1.fX.ba,tN.2.1.dB,tN.2.1.bq,tN.2.2.ba) [] [4] [] i2 (λs t=>(1001,some (.bJ 194 (az.b0 (az.mk s.1 [] s.2.2.1 () () s.2.2.2.1 (aP.mk [] [] []) [] []) (.row 1013) (.ref 1003 0) (.ref 1006 0) (.row 1014) (.row 1015) (.row 1016) (.row 1017) (.row 1018))))::(1003,some (.bJ 299 (ak.b0 (ak.mk (bW.mk s.2.2.2.2.2.2.2.2.2.2.2.2.1) [] s.2.2.2.2.2.2.2.2.2.1 s.2.2.2.2.2.2.2.2.2.2.1 s.2.2.2.2.2.2.2.2.2.2.2.1 []) (.row 1019) (.row 1020))))::(1006,some (.bJ 305 [.row 1021]))::(1013,some (.R 176 7 df s.2.1))::(1014,some (.R 201 3 fk s.2.2.2.2.1))::(1015,some (.R 4 1 DV.bool s.2.2.2.2.2.1))::(1016,some (.R 3 1 (DV.int .i64) s.2.2.2.2.2.2.1))::(1017,some (.R 192 3 fD s.2.2.2.2.2.2.2.1))::(1018,some (.R 45 9 AEv.dv s.2.2.2.2.2.2.2.2.1))::(1019,some (.R 181 4 du s.2.2.2.2.2.2.2.2.2.2.2.2.2.1))::(1020,some (.mp (nU cU DV.bool s.2.2.2.2.2.2.2.2.2.2.2.2.2.2.1)))::(1021,some (.R 320 8 dG s.2.2.2.2.2.2.2.2.2.2.2.2.2.2.2))::t) [] [(1013,1002),(1014,1008),(1015,1009),(1016,1010),(1017,1011),(1018,1012),(1019,1004),(1020,1005),(1021,1007)] (λLb=>Bi (cl 15 [(9000,1001),(9001,1013),(9002,1003),(9003,1019),(9004,1020),(9005,1006),(9006,1021),(9007,1014),(9008,1015),(9009,1016),(9010,1017),(9011,1018),(5000,1022),(5001,1023),(5002,1024)] (qz (az.mk Lb.1 Lb.2.1 Lb.2.2.1 () () Lb.2.2.2.1 (aP.mk Lb.2.2.2.2.1 Lb.2.2.2.2.2.1 Lb.2.2.2.2.2.2.1) Lb.2.2.2.2.2.2.2.1 Lb.2.2.2.2.2.2.2.2.1) (ak.mk (bW.mk Lb.2.2.2.2.2.2.2.2.2.2.2.2.1) Lb.2.2.2.2.2.2.2.2.2.2.2.2.2.1 Lb.2.2.2.2.2.2.2.2.2.1 Lb.2.2.2.2.2.2.2.2.2.2.1 Lb.2.2.2.2.2.2.2.2.2.2.2.1 Lb.2.2.2.2.2.2.2.2.2.2.2.2.2.2.1) (aU.mk Lb.2.2.2.2.2.2.2.2.2.2.2.2.2.2.2))) λv21=>If v21.1 (nX [] [(1017,1022),(1018,1023),(1021,1024)] (some (.next (v21.2.1.EC,v21.2.1.ld,v21.2.1.sd,v21.2.1.qP,v21.2.1.bn.dL,v21.2.1.bn.aY,v21.2.1.bn.bf,v21.2.1.eh,v21.2.1.cr,v21.2.2.1.dq,v21.2.2.1.eL,v21.2.2.1.dE,v21.2.2.1.fX.ba,v21.2.2.1.dB,v21.2.2.1.bq,v21.2.2.2.ba))))<|some (.done v21)) λe28=>Bi (cl 17 [(9000,1001),(9001,1013),(9002,1003),(9003,1019),(9004,1020),(9005,1006),(9006,1024),(9007,1014),(9008,1015),(9009,1016),(9010,1022),(9011,1023)] (oz e28.2.1 e28.2.2.1 e28.2.2.2)) λuj=>Bi (cl 19 [(9000,1001),(9001,1013),(9002,1003),(9003,1019),(9004,1020),(9005,1006),(9006,1024),(9007,1014),(9008,1015),(9009,1016),(9010,1022),(9011,1023)] (pO e28.2.1 e28.2.2.1 e28.2.2.2)) λua=>Bi (cl 21 [(9000,1001),(9001,1013),(9002,1003),(9003,1019),(9004,1020),(9005,1006),(9006,1024),(9007,1014),(9008,1015),(9009,1016),(9010,1022),(9011,1023)] (oy e28.2.1 e28.2.2.1 e28.2.2.2)) λvV=>rX [(5000,23)] (some (.inl (yB.mk uj ua vV)))) λafR=>sm afR (λTr=>rX [] (some (.inr (.inl ())))) λafS=>sm afS (λawE=>rX [] (some (.inr (.inr (.inl ()))))) λapG=>sm apG (λawF=>rX [] (some (.inr (.inr (.inr (.inl ())))))) λaNH=>rX [] (some (.inr (.inr (.inr (.inr ())))))
instance ag1{x0}:MA (yA x0) prog 14 (λ| .inl _=>1 | .inr (.inl _)=>0 | .inr (.inr (.inl _))=>0 | .inr (.inr (.inr (.inl _)))=>0 | .inr (.inr (.inr (.inr _)))=>0) λ| .inl r=>⟨[.agg (uT x0)],[],.gh [.ref 5000 0,.I 0],[(5000,some (.bJ 83 (yB.cs r)))],[5000]⟩ | .inr (.inl r)=>⟨[.agg (uT x0)],[],.gh [.val (.pointer none),.I 1],[],[]⟩ | .inr (.inr (.inl r))=>⟨[.agg (uT x0)],[],.gh [.val (.pointer none),.I 2],[],[]⟩ | .inr (.inr (.inr (.inl r)))=>⟨[.agg (uT x0)],[],.gh [.val (.pointer none),.I 3],[],[]⟩ | .inr (.inr (.inr (.inr r)))=>⟨[.agg (uT x0)],[],.gh [.val (.pointer none),.I 5],[],[]⟩:=⟨fun {r} hM=>by unfold yA at hM;rcases r with r|r|r|r|r <;> exact ab func14 ntmps14⟩
end Go.Proofs.YtaafmkmdfcgeaaaGreatDoor
namespace Go.Proofs.YtaafmkmdfcgeaaaGreatDoor
open Go.Proofs.Tryz
theorem akg{α:Type}{P:α->Prop}{s:List α}{j:Nat}{v:α}(h:∀p e,p<j->s[p]? = some e->P e)(hv:P v):∀p e,p<j+1->(s.set j v)[p]? = some e->P e:=by
 intro p e hp he
 by_cases q:j=p
 .subst q
  by_cases hl:j<s.length
  .rw[List.getElem?_set_self hl]at he
   obtain rfl:=Option.some.inj he;exact hv
  .rw[List.getElem?_eq_none Np]at he
   cases he
 .rw[List.getElem?_set_ne q]at he
  exact h p e ah he
section
variable {I:dJ} {tk:Int} {m:az} {o:ak} {a:aU}
theorem aaw(h:sZ I tk m)(hl:m.cr.length<=100000000000):Wp (oz m o a) λr=>(∀e∈r,afm (fN I.eX) e)∧r.length=m.cr.length:=by
 unfold oz;refine aF (x:=false) Yd (aq (λh=>dI) (λ_=>aK qm (aX ?_)));refine cC (λj s=>s.length=m.cr.length∧∀p e,p<j->s[p]? = some e->afm (fN I.eX) e) (gq ah) ⟨aeE,λp e hp=>ah⟩ ?_ ?_
 .rintro j s hj ⟨s1,s2⟩
  refine bO hj (λe _ em=>?_);have he:=h.ev e em;have al:=he.b.al;refine aK (Iu ah aV) (cV (bO ah (λ_ _ _=>aX (ay (aj ⟨VT,?_⟩)))));rw[Int.toNat_natCast];exact akg s2 he
 .rintro s ⟨s1,s2⟩
  rw[Int.toNat_natCast]at s2;refine cV (aL (aj ⟨λe he=>?_,s1⟩));obtain⟨p,hp,rfl⟩:=List.getElem_of_mem he;exact s2 p _ ah (List.getElem?_eq_getElem hp)
theorem UD{p:aP}(h:ala p):Bs p=some (p.dL,p.aY,p.bf):=by
 have h1:=h.s3;have h2:=h.f2;have h3:=h.v3;unfold Bs;refine dD (aK qm (aX (aK qm (aX (aK qm (aX (abB (aj ?_))))))));rw[zB,zB,zB]
theorem ZW{p:aP}(h:ala p):Ji (wT p):=by
 have h1:=h.s3;unfold wT;refine aF (by unfold cl;exact UD h) ?_;refine cC (λj s=>s.length=p.dL.length∧∀x∈s,StL x) (gq bB) ⟨rfl,h.so⟩ ?_ (λ_ _=>cV (aj trivial));rintro j s hj ⟨s1,s2⟩;dsimp only at hj;refine bO ah (λx _ xm=>?_);have hx:=s2 x xm;have hv:=hx.v;have ht:=hx.t;refine aK qm (aX (aK qm (aX (cV (aX (ay (aj ⟨VT,Eb s2 ?_⟩)))))));rw[zB,zB];exact hx
theorem aas(h:sZ I tk m)(ht:tk<=13):Ji (oy m o a):=by
 have hpl:=h.pl;unfold oy;refine aF (x:=false) Yd (aq (λh=>dI) (λ_=>aK qm (aX ?_)));refine cC (λj s=>s.length=m.eh.length) (gq ah) aeE ?_ (λ_ _=>cV (aL (aj trivial)));intro j s hj hs;exact bO hj (λp _ pm=>av (ZW (h.po p pm)) (λq _=>bO ah (λ_ _ _=>aX (ay (aj aea)))))
theorem ak9(H:yV I):Wp (yA I) λr=>∃q,r = .inl q∧(∀e∈q.xX,afm (fN I.eX) e)∧q.xX.length<=100000000000:=by
 unfold yA;refine av (aW (ae8 H)) ?_;rintro _ ⟨m,o,a,rfl,h1,h2,h3,h4,h5,h6⟩;refine EO (λq hq=>?_) (λq hq=>Hy);cases hq;refine jR (λs=>TI I s.2.2.2.1 (az.mk s.1 s.2.1 s.2.2.1 () () s.2.2.2.1 (aP.mk s.2.2.2.2.1 s.2.2.2.2.2.1 s.2.2.2.2.2.2.1) s.2.2.2.2.2.2.2.1 s.2.2.2.2.2.2.2.2.1) (ak.mk (bW.mk s.2.2.2.2.2.2.2.2.2.2.2.2.1) s.2.2.2.2.2.2.2.2.2.2.2.2.2.1 s.2.2.2.2.2.2.2.2.2.1 s.2.2.2.2.2.2.2.2.2.2.1 s.2.2.2.2.2.2.2.2.2.2.2.1 s.2.2.2.2.2.2.2.2.2.2.2.2.2.2.1) (aU.mk s.2.2.2.2.2.2.2.2.2.2.2.2.2.2.2)) (λs=>(100-s.2.2.2.1).toNat) ?_ bB ?_
 .dsimp only
  rw[h6];refine⟨⟨⟨h1.z.ZC,h1.z.fit,h1.z.fl,h1.z.held,h1.z.hl,bB,bB,rfl⟩,h1.sl,h1.so,h1.fgl,h1.vl,h1.vr,h1.pl,h1.po,h1.ev⟩,h2,(by rw[h3];intro e he;cases he),(by rw[h3,h4];decide)⟩
 rintro⟨gi,ft,hd,nw,ss,fg,vs,ps,es,p1,p2,p3,p4,p5,p6,ag⟩ h;dsimp only at h |-;have nw0:0<=nw:=h.ma.z.n0;have nw1:nw<=13:=h.ma.z.n1;refine av (aW (ail H h)) ?_;rintro⟨b,m1,o1,a1⟩ ⟨t1,t2⟩;dsimp only at t1 t2 |-;refine aq (λhb=>?_) (λhb=>?_)
 .obtain⟨q1,q2⟩:=t2 hb
  have e:m1.qP=nw+1:=q2.ma.z.nw;refine ay (aj ⟨?_,bB⟩);dsimp only;rw[<-e]at q2;exact q2
 .have q:=t1 hb
  have yl:=q.sz;have ND:m1.cr.length<=100000000000:=ah;refine aj (av (aW (aaw q.ma ND)) ?_);rintro ev ⟨e1,e2⟩;refine av (P:=λ_=>True) (aW ?_) (λks _=>av (aW (aas q.ma nw1)) (λps _=>aL (aj ⟨_,rfl,e1,e2 ▸ ND⟩)));unfold pO;exact aF (x:=false) Yd (aq (λh=>dI) (λ_=>av (aW (SW H q.no)) (λ_ _=>cV (aL (aj trivial)))))
end
open Go.RowKit
attribute [local irreducible] gL dH br gY jP dK fC kY
structure cD where
 gp:List Int
 acP:Int
def nu(x:cD):List DV:=[.sl 1 (List.map (DV.int .u8) x.gp),.int .i64 x.acP]
def oQ(x0:Int)(x1:Int):Option Bool :=some ((decide (0<=x0))&&(decide (x0<=x1)))
instance aaX{x0 x1}:MC (oQ x0 x1) λr=>br prog 92 [.I x0,.I x1] (.bool r):=.p func92 ntmps92
def zo(x0:AEv)(x1:Int):Option Bool :=Bi (gb (x0.aN==x1) (false) (oQ x0.AM 200)) λv2=>Bi (gb ((((x0.aN==x1)&&v2)&&(decide (1<=x0.bC)))&&(decide (x0.bC<=11))) (false) (oQ x0.lW 8)) λv4=>Bi (gb (((((x0.aN==x1)&&v2)&&(decide (1<=x0.bC)))&&(decide (x0.bC<=11)))&&v4) (false) (oQ x0.gN 2147483647)) λv6=>Bi (gb ((((((x0.aN==x1)&&v2)&&(decide (1<=x0.bC)))&&(decide (x0.bC<=11)))&&v4)&&v6) (false) (oQ x0.lX 1)) λv8=>Bi (gb (((((((x0.aN==x1)&&v2)&&(decide (1<=x0.bC)))&&(decide (x0.bC<=11)))&&v4)&&v6)&&v8) (false) (oQ x0.bU 7)) λv10=>some (((((((((x0.aN==x1)&&v2)&&(decide (1<=x0.bC)))&&(decide (x0.bC<=11)))&&v4)&&v6)&&v8)&&v10)&&(decide ((x0.cE.length:Int)<=4)))
instance TJ{x0 x1}:MC (zo x0 x1) λr=>br prog 90 [.agg (AEv.cs x0),.I x1] (.bool r):=.p func90 ntmps90
def yq(x0:VClk)(x1:VClk):Option Bool :=fO (E:=Bool) () 6 [] [2,3] [2,3] i2 i2 [] [] m64 16 (λk1 _=>Ck (oO 16 (k1:Int))<|ea 11 (λx=>[(DV.int .u64) x]) x0.ei<|Ck (oO 16 (k1:Int))<|ea 15 (λx=>[(DV.int .u64) x]) x1.ei<|If (decide ((x1.ei (Int.toNat (k1:Int)))<(x0.ei (Int.toNat (k1:Int))))) (some (.done false))<|nX [] [] (some (.next ()))) fun
  |.next _=>some true
  |.done r=>some r
instance agy{x0 x1}:MC (yq x0 x1) λr=>br prog 19 [.agg (VClk.cs x0),.agg (VClk.cs x1)] (.bool r):=.p func19 ntmps19
def pH(x0:VClk)(x1:VClk):Option Int :=If (((x0.ei 0)==(x1.ei 0))&&(((x0.ei 1)==(x1.ei 1))&&(((x0.ei 2)==(x1.ei 2))&&(((x0.ei 3)==(x1.ei 3))&&(((x0.ei 4)==(x1.ei 4))&&(((x0.ei 5)==(x1.ei 5))&&(((x0.ei 6)==(x1.ei 6))&&(((x0.ei 7)==(x1.ei 7))&&(((x0.ei 8)==(x1.ei 8))&&(((x0.ei 9)==(x1.ei 9))&&(((x0.ei 10)==(x1.ei 10))&&(((x0.ei 11)==(x1.ei 11))&&(((x0.ei 12)==(x1.ei 12))&&(((x0.ei 13)==(x1.ei 13))&&(((x0.ei 14)==(x1.ei 14))&&(((x0.ei 15)==(x1.ei 15))&&true)))))))))))))))) (some 1)<|Bi (yq x0 x1) λv2=>If v2 (some 2)<|Bi (yq x1 x0) λv4=>If v4 (some 3)<|some 4
instance YJ{x0 x1}:MC (pH x0 x1) λr=>br prog 9 [.agg (VClk.cs x0),.agg (VClk.cs x1)] (.int .u8 r):=.p func9 ntmps9
def tU(x0:List Int)(x1:List Int):Option Bool :=If ((x0.length:Int) != (x1.length:Int)) (some false)<|fO (E:=Bool) () 13 [] [0,1,12] [] i2 i2 [] [] m64 (x0.length:Int) (λk1 _=>Bi (idx x0 (k1:Int)) λv4=>Bi (idx x1 (k1:Int)) λv6=>If (v4 != v6) (some (.done false))<|nX [] [] (some (.next ()))) fun
  |.next _=>some true
  |.done r=>some r
instance JE{x0 x1}:MC (tU x0 x1) λr=>br prog 215 [.L 1 (DV.int .i64) x0,.L 1 (DV.int .i64) x1] (.bool r):=.p func215 ntmps215
def zn(x0:AEv)(x1:AEv):Option Bool :=Bi (gb ((((((((x0.AM==x1.AM)&&(x0.aN==x1.aN))&&(x0.bC==x1.bC))&&(x0.lW==x1.lW))&&(x0.gN==x1.gN))&&(x0.lX==x1.lX))&&(x0.bU==x1.bU))&&(x0.gD==x1.gD)) (false) (tU x0.cE x1.cE)) λv2=>some (((((((((x0.AM==x1.AM)&&(x0.aN==x1.aN))&&(x0.bC==x1.bC))&&(x0.lW==x1.lW))&&(x0.gN==x1.gN))&&(x0.lX==x1.lX))&&(x0.bU==x1.bU))&&(x0.gD==x1.gD))&&v2)
instance TH{x0 x1}:MC (zn x0 x1) λr=>br prog 159 [.agg (AEv.cs x0),.agg (AEv.cs x1)] (.bool r):=.p func159 ntmps159
def Di(x0:RRec):Option Bool :=Bi (pH x0.rL (VClk.mk (arr 0 []))) λv2=>Bi (gb (v2==1) (false) (zn x0.kD (AEv.mk 0 0 0 0 0 0 0 0 []))) λv4=>some ((v2==1)&&v4)
instance af4{x0}:MC (Di x0) λr=>br prog 91 [.agg (RRec.cs x0)] (.bool r):=.p func91 ntmps91
@[reducible] def qZ(x0:RRec)(s4:Bool):Option Int :=Bi (gb (!(!s4)) (false) (oQ x0.aN 8)) λv3=>If ((!s4)||(!v3)) (some 1)<|some 0
def xU(x0:RRec):Option Int :=jn (qZ x0) 2 [] [1] [1] (λs t=>(3,.bool s)::t) i2<|If (x0.zy==1) (Bi (zo x0.kD x0.aN) λv6=>nX [] [] (qZ x0 (v6&&(x0.yM==0))))<|If (x0.zy==2) (Bi (Di x0) λv8=>nX [] [] (qZ x0 ((v8&&(decide (0<x0.yM)))&&(decide (x0.yM<=(IntKind.wrap .u64 (18446744073709551615-x0.acR)))))))<|If (x0.zy==3) (Bi (Di x0) λv10=>nX [] [] (qZ x0 (v10&&(x0.yM==0))))<|nX [] [] (qZ x0 false)
instance acd{x0}:MC (xU x0) λr=>br prog 43 [.agg (RRec.cs x0)] (.I r):=.p func43 ntmps43
def Aa(x0:List Int):Option cD :=eE 3 (bA 1 (DV.int .u8)) ([]:List Int) λ_=>Ck (dK 1 (List.length ([]:List Int)+List.length x0))<|wk [.z 5]<|rX [(5000,7)] (some (cD.mk (([]:List Int)++x0) 0))
instance aa0{x0}:MA (Aa x0) prog 54 (λ_=>1) λr=>⟨[.L 1 (DV.int .u8) x0],[],.ref 5000 0,[(5000,some (.bJ 239 (nu r)))],[5000]⟩:=.b func54 ntmps54
def rU(o0:cD):Option Bool :=rX [] (some (o0.acP==0))
instance TL{o0}:MA (rU o0) prog 103 (λ_=>0) λr=>⟨[.ref 9000 0],[(9000,some (.bJ 239 (nu o0)))],.bool r,[(9000,some (.bJ 239 (nu o0)))],[]⟩:=.b func103 ntmps103
def zq(o0:cD):Option (Int×cD) :=Bi (cl 5 [] (rU o0)) λv2=>If (!v2) (rX [] (some (0,o0)))<|If ((o0.gp.length:Int)==0) (rX [] (some (0,(cD.mk o0.gp 6))))<|Bi (idx o0.gp 0) λv4=>Ck (fC (o0.gp.length) 1 (o0.gp.length))<|rX [] (some (v4,(cD.mk (List.drop (Int.toNat 1) o0.gp) o0.acP)))
instance TP{o0}:MA (zq o0) prog 55 (λ_=>1) λr=>⟨[.ref 9000 0],[(9000,some (.bJ 239 (nu o0)))],.int .u8 r.1,[(9000,some (.bJ 239 (nu r.2)))],[]⟩:=.b func55 ntmps55
def FV(x0:List Int):Option (Int×Int×Int) :=fO (E:=Int×Int×Int) 0 9 [] [7,8] [] (λs t=>(2,.int .u64 s)::t) i2 [] [] m64 (x0.length:Int) (λk1 s3=>Bi (idx x0 (k1:Int)) λv5=>If (((k1:Int)==9)&&(decide (1<v5))) (some (.done (0,0,6)))<|Ck ((0:Int)<=(IntKind.wrap .i64 (7*(k1:Int))))<|If ((Int.fdiv v5 (2^min (Int.toNat 7) (IntKind.bits .u8)))==0) (If ((v5==0)&&(decide (0<(k1:Int)))) (some (.done (0,0,6)))<|some (.done ((iw .or .u64 s3 (IntKind.wrap .u64 ((IntKind.wrap .u64 (iw .and .u8 v5 127))*2^min (Int.toNat (IntKind.wrap .i64 (7*(k1:Int)))) (IntKind.bits .u64)))),((k1:Int)+1),0)))<|nX [] [] (some (.next (iw .or .u64 s3 (IntKind.wrap .u64 ((IntKind.wrap .u64 (iw .and .u8 v5 127))*2^min (Int.toNat (IntKind.wrap .i64 (7*(k1:Int)))) (IntKind.bits .u64))))))) fun
  |.next s3=>some (0,0,6)
  |.done r=>some r
instance aky{x0}:MC (FV x0) λr=>br prog 104 [.L 1 (DV.int .u8) x0] (.gh [.int .u64 r.1,.I r.2.1,.I r.2.2]):=.p func104 ntmps104
def vt(x1:Int)(x2:Int)(o0:cD):Option (Bool×cD) :=If (x2 != 0) (rX [] (some (false,(cD.mk o0.gp x2))))<|Ck (fC (o0.gp.length) x1 (o0.gp.length))<|rX [] (some (true,(cD.mk (List.drop (Int.toNat x1) o0.gp) o0.acP)))
instance TK{x1 x2 o0}:MA (vt x1 x2 o0) prog 105 (λ_=>1) λr=>⟨[.ref 9000 0,.I x1,.I x2],[(9000,some (.bJ 239 (nu o0)))],.bool r.1,[(9000,some (.bJ 239 (nu r.2)))],[]⟩:=.b func105 ntmps105
@[reducible] def sO(o0:cD)(v4:Int×Int×Int)(s8:Int):Option (Int×cD) :=Bi (cl 30 [] (vt v4.2.1 s8 o0)) λv7=>If (!v7.1) (rX [] (some (0,v7.2)))<|rX [] (some (v4.1,v7.2))
def jW(x1:Int)(o0:cD):Option (Int×cD) :=Bi (cl 9 [] (rU o0)) λv2=>If (!v2) (rX [] (some (0,o0)))<|Bi (FV o0.gp) λv4=>jn (sO o0 v4) 4 [9000] [0,5,6] [9000] (λs t=>(7,.I s)::t) i2<|If ((v4.2.2==0)&&(decide (x1<v4.1))) (nX [] [] (sO o0 v4 2))<|nX [] [] (sO o0 v4 v4.2.2)
instance TM{x1 o0}:MA (jW x1 o0) prog 56 (λ_=>1) λr=>⟨[.ref 9000 0,.int .u64 x1],[(9000,some (.bJ 239 (nu o0)))],.int .u64 r.1,[(9000,some (.bJ 239 (nu r.2)))],[]⟩:=.b func56 ntmps56
def wE(o0:cD):Option Int :=rX [] (some o0.acP)
instance UZ{o0}:MA (wE o0) prog 57 (λ_=>0) λr=>⟨[.ref 9000 0],[(9000,some (.bJ 239 (nu o0)))],.I r,[(9000,some (.bJ 239 (nu o0)))],[]⟩:=.b func57 ntmps57
def zp(o0:cD):Option Int :=rX [] (some (o0.gp.length:Int))
instance TN{o0}:MA (zp o0) prog 58 (λ_=>0) λr=>⟨[.ref 9000 0],[(9000,some (.bJ 239 (nu o0)))],.I r,[(9000,some (.bJ 239 (nu o0)))],[]⟩:=.b func58 ntmps58
def VClk_length(x0:VClk):Option Int :=fL 0 5 [] [1] [1] (λs t=>(3,.I s)::t) i2 [] [] m64 16 (λk1 s3=>Ck (oO 16 (k1:Int))<|ea 10 (λx=>[(DV.int .u64) x]) x0.ei<|If ((x0.ei (Int.toNat (k1:Int))) != 0) (nX [] [] (some ((k1:Int)+1)))<|nX [] [] (some s3)) λs3=>some s3
instance VClk_length_c{x0}:MC (VClk_length x0) λr=>br prog 20 [.agg (VClk.cs x0)] (.I r):=.p func20 ntmps20
def HK(x0:List Int):Option (VClk×Int×Int) :=Bi (gb (!((x0.length:Int)==0)) 0 (idx x0 0)) λv2=>If (((x0.length:Int)==0)||(decide (16<v2))) (some ((VClk.mk (arr 0 [])),0,6))<|Bi (idx x0 0) λv4=>fO (E:=VClk×Int×Int) (1,(VClk.mk (arr 0 []))) 27 [] [0,2,5,6,26] [2] (λs t=>(7,.I s.1)::t) (λs t=>(5,some (.bJ 48 (VClk.cs s.2)))::t) [] [] m64 (IntKind.wrap .i64 v4) (λk5 s8=>Ck (fC (x0.length) s8.1 (x0.length))<|Bi (FV (List.drop (Int.toNat s8.1) x0)) λkG=>If (kG.2.2 != 0) (some (.done ((VClk.mk (arr 0 [])),0,6)))<|Ck (oO 16 (k5:Int))<|ea 44 (λx=>[(DV.int .u64) x]) s8.2.ei<|eb 44 kG.1<|nX [] [] (some (.next ((IntKind.wrap .i64 (s8.1+kG.2.1)),(VClk.mk (tP s8.2.ei (Int.toNat (k5:Int)) kG.1)))))) fun
  |.next s8=>Bi (VClk_length s8.2) λv10=>If (v10 != (IntKind.wrap .i64 v4)) (some ((VClk.mk (arr 0 [])),0,6))<|some (s8.2,s8.1,0)
  |.done r=>some r
instance afW{x0}:MC (HK x0) λr=>br prog 59 [.L 1 (DV.int .u8) x0] (.gh [.agg (VClk.cs r.1),.I r.2.1,.I r.2.2]):=.p func59 ntmps59
def jB(o1:cD):Option (Int×cD) :=Bi (cl 3 [(9000,9001)] (jW 2147483647 o1)) λv2=>rX [] (some ((IntKind.wrap .i64 v2.1),v2.2))
instance OH{o1}:MA (jB o1) prog 106 (λ_=>1) λr=>⟨[.ref 9000 0],[(9000,some (.bJ 158 [.ref 9001 0])),(9001,some (.bJ 239 (nu o1)))],.I r.1,[(9001,some (.bJ 239 (nu r.2))),(9000,some (.bJ 158 [.ref 9001 0]))],[]⟩:=.b func106 ntmps106
def FU(x0:Int):Option Int :=If ((iw .and .u64 x0 1)==1) (some (iw .xor .i64 (if IntKind.signed .i64=true then -1 else IntKind.max .i64) (IntKind.wrap .i64 (Int.fdiv x0 (2^min (Int.toNat 1) (IntKind.bits .u64))))))<|some (IntKind.wrap .i64 (Int.fdiv x0 (2^min (Int.toNat 1) (IntKind.bits .u64))))
instance acu{x0}:MC (FU x0) λr=>br prog 218 [.int .u64 x0] (.I r):=.p func218 ntmps218
def Xg(x0:List Int):Option (Int×Int×Int) :=Bi (FV x0) λv2=>Bi (FU v2.1) λv4=>some (v4,v2.2.1,v2.2.2)
instance amg{x0}:MC (Xg x0) λr=>br prog 161 [.L 1 (DV.int .u8) x0] (.gh [.I r.1,.I r.2.1,.I r.2.2]):=.p func161 ntmps161
def wD(o0:cD):Option (Int×cD) :=Bi (cl 7 [] (rU o0)) λv2=>If (!v2) (rX [] (some (0,o0)))<|Bi (Xg o0.gp) λv4=>Bi (cl 21 [] (vt v4.2.1 v4.2.2 o0)) λv6=>If (!v6.1) (rX [] (some (0,v6.2)))<|rX [] (some (v4.1,v6.2))
instance UY{o0}:MA (wD o0) prog 107 (λ_=>1) λr=>⟨[.ref 9000 0],[(9000,some (.bJ 239 (nu o0)))],.I r.1,[(9000,some (.bJ 239 (nu r.2)))],[]⟩:=.b func107 ntmps107
def yD(x1:Int)(o0:cD):Option (AEv×cD) :=Bi (cl 10 [(9000,2),(9001,9000)] (jB o0)) λv2=>Bi (cl 12 [] (jW 255 v2.2)) λv4=>Bi (cl 16 [(9000,2),(9001,9000)] (jB v4.2)) λv6=>Bi (cl 18 [(9000,2),(9001,9000)] (jB v6.2)) λv8=>Bi (cl 20 [(9000,2),(9001,9000)] (jB v8.2)) λv10=>Bi (cl 22 [(9000,2),(9001,9000)] (jB v10.2)) λv12=>Bi (cl 28 [] (wD v12.2)) λll=>Bi (cl 31 [] (jW 4 ll.2)) λmA=>fLu (([]:List Int),mA.2) 32 [9000] [2,4,6,31] [2,4] i2 (λs t=>(6,some (.bJ 45 [.I v2.1,.I x1,.int .u8 (IntKind.wrap .u8 v4.1),.I v6.1,.I v8.1,.I v10.1,.I v12.1,.I ll.1,.row 1001]))::(1001,some (.R 2 1 (DV.int .i64) s.1))::(9000,some (.bJ 239 (nu s.2)))::t) [.c 6 1002 8 2 1] [(1001,1002)] 18446744073709551615 mA.1 (λk17 CL=>Bi (cl 37 [] (wD CL.2)) λuQ=>eE 38 (bA 1 (DV.int .i64)) [uQ.1] λuj=>Ck (dK 8 (CL.1.length+List.length uj))<|nX [] [(1001,39)] (some ((CL.1++uj),uQ.2))) λCL=>wk [.z 1001]<|rX [] (some ((AEv.mk v2.1 x1 (IntKind.wrap .u8 v4.1) v6.1 v8.1 v10.1 v12.1 ll.1 CL.1),CL.2))
instance Rv{x1 o0}:MA (yD x1 o0) prog 60 (λ_=>1) λr=>⟨[.ref 9000 0,.I x1],[(9000,some (.bJ 239 (nu o0)))],.agg (AEv.cs r.1),[(9000,some (.bJ 239 (nu r.2)))],[]⟩:=.b func60 ntmps60
def AI(o0:cD):Option Int :=Bi (cl 5 [] (wE o0)) λv2=>If ((v2 != 0)||((o0.gp.length:Int)==0)) (rX [] (some v2))<|rX [] (some 6)
instance Va{o0}:MA (AI o0) prog 61 (λ_=>0) λr=>⟨[.ref 9000 0],[(9000,some (.bJ 239 (nu o0)))],.I r,[(9000,some (.bJ 239 (nu o0)))],[]⟩:=.b func61 ntmps61
@[reducible] def vo(v4:Int×cD)(v6:Int×cD)(v8:Int×cD)(tR:cD×VClk×Int×Int×Int×Int×Int×Int×Int×Int×(List Int)×Int):Option (RRec×Int) :=Bi (cl 61 [(9000,1002)] (AI tR.1)) λv24=>Bi (gb (!(v24 != 0)) (0) (xU (RRec.mk (IntKind.wrap .i64 v6.1) v8.1 tR.2.1 v4.1 (AEv.mk tR.2.2.1 tR.2.2.2.1 tR.2.2.2.2.1 tR.2.2.2.2.2.1 tR.2.2.2.2.2.2.1 tR.2.2.2.2.2.2.2.1 tR.2.2.2.2.2.2.2.2.1 tR.2.2.2.2.2.2.2.2.2.1 tR.2.2.2.2.2.2.2.2.2.2.1) tR.2.2.2.2.2.2.2.2.2.2.2))) λxz=>If ((v24 != 0)||(xz != 0)) (some ((RRec.mk 0 0 (VClk.mk (arr 0 [])) 0 (AEv.mk 0 0 0 0 0 0 0 0 []) 0),6))<|some ((RRec.mk (IntKind.wrap .i64 v6.1) v8.1 tR.2.1 v4.1 (AEv.mk tR.2.2.1 tR.2.2.2.1 tR.2.2.2.2.1 tR.2.2.2.2.2.1 tR.2.2.2.2.2.2.1 tR.2.2.2.2.2.2.2.1 tR.2.2.2.2.2.2.2.2.1 tR.2.2.2.2.2.2.2.2.2.1 tR.2.2.2.2.2.2.2.2.2.2.1) tR.2.2.2.2.2.2.2.2.2.2.2),0)
def HX(x0:List Int):Option (RRec×Int) :=Bi (cl 11 [(5000,1001)] (Aa x0)) λv2=>Bi (cl 13 [(9000,1001)] (zq v2)) λv4=>Bi (cl 15 [(9000,1001)] (jW 8 v4.2)) λv6=>Bi (cl 18 [(9000,1001)] (jW 18446744073709551615 v6.2)) λv8=>Bi (cl 21 [(9000,1001)] (wE v8.2)) λv10=>If (v10 != 0) (some ((RRec.mk 0 0 (VClk.mk (arr 0 [])) 0 (AEv.mk 0 0 0 0 0 0 0 0 []) 0),6))<|jn (vo v4 v6 v8) 5 [] [2,5] [2] (λ_ t=>(4,.ref 1002 0)::t) (λs t=>(5,some (.bJ 64 (RRec.cs (RRec.mk (IntKind.wrap .i64 v6.1) v8.1 s.2.1 v4.1 (AEv.mk s.2.2.1 s.2.2.2.1 s.2.2.2.2.1 s.2.2.2.2.2.1 s.2.2.2.2.2.2.1 s.2.2.2.2.2.2.2.1 s.2.2.2.2.2.2.2.2.1 s.2.2.2.2.2.2.2.2.2.1 s.2.2.2.2.2.2.2.2.2.2.1) s.2.2.2.2.2.2.2.2.2.2.2))))::(1002,some (.bJ 239 (nu s.1)))::t)<|If (v4.1==1) (Bi (cl 32 [(9000,1001)] (zp v8.2)) λzJ=>Ck (fC (x0.length) (IntKind.wrap .i64 ((x0.length:Int)-zJ)) (x0.length))<|Bi (HK (List.drop (Int.toNat (IntKind.wrap .i64 ((x0.length:Int)-zJ))) x0)) λCJ=>If (CJ.2.2 != 0) (some ((RRec.mk 0 0 (VClk.mk (arr 0 [])) 0 (AEv.mk 0 0 0 0 0 0 0 0 []) 0),6))<|Ck (fC (List.length (List.drop (Int.toNat (IntKind.wrap .i64 ((x0.length:Int)-zJ))) x0)) CJ.2.1 (List.length (List.drop (Int.toNat (IntKind.wrap .i64 ((x0.length:Int)-zJ))) x0)))<|Bi (cl 49 [(5000,1003)] (Aa (List.drop (Int.toNat CJ.2.1) (List.drop (Int.toNat (IntKind.wrap .i64 ((x0.length:Int)-zJ))) x0)))) λzK=>Bi (cl 53 [(9000,1003)] (yD (IntKind.wrap .i64 v6.1) zK)) λv37=>nX [] [(1002,1003)] (vo v4 v6 v8 (v37.2,CJ.1,v37.1.AM,v37.1.aN,v37.1.bC,v37.1.lW,v37.1.gN,v37.1.lX,v37.1.bU,v37.1.gD,v37.1.cE,0)))<|If (v4.1==2) (Bi (cl 58 [(9000,1001)] (jW 18446744073709551615 v8.2)) λAY=>nX [] [(1002,1001)] (vo v4 v6 v8 (AY.2,(VClk.mk (arr 0 [])),0,0,0,0,0,0,0,0,([]:List Int),AY.1)))<|nX [] [(1002,1001)] (vo v4 v6 v8 (v8.2,(VClk.mk (arr 0 [])),0,0,0,0,0,0,0,0,([]:List Int),0))
instance Lp{x0}:MC (HX x0) λr=>br prog 29 [.L 1 (DV.int .u8) x0] (.gh [.agg (RRec.cs r.1),.I r.2]):=.p func29 ntmps29
def Mx(x1:Int)(o0:List Int):Option (List Int) :=wL (E:=(List Int)×Int) (o0,x1) [9000] [] [] (λs t=>(0,.row 1001)::(1,.int .u64 s.2)::t) (λs t=>(1001,some (.R 5 1 (DV.int .u8) s.1))::t) [] [(1001,9000)] (λs3=>If (decide (128<=s3.2)) (eE 11 (bA 1 (DV.int .u8)) [(iw .or .u8 (IntKind.wrap .u8 s3.2) 128)] λv4=>Ck (dK 1 (s3.1.length+List.length v4))<|nX [] [(1001,12)] (some (.next ((s3.1++v4),(Int.fdiv s3.2 (2^min (Int.toNat 7) (IntKind.bits .u64)))))))<|some (.done (s3.1,s3.2))) λe8=>eE 18 (bA 1 (DV.int .u8)) [(IntKind.wrap .u8 e8.2)] λv6=>Ck (dK 1 (e8.1.length+List.length v6))<|rX [(5000,19)] (some (e8.1++v6))
instance ai9{x1 o0}:MA (Mx x1 o0) prog 100 (λ_=>2) λr=>⟨[.row 9000,.int .u64 x1],[(9000,some (.R 5 1 (DV.int .u8) o0))],.row 5000,[(5000,some (.R 5 1 (DV.int .u8) r)),(9000,none)],[5000]⟩:=.b func100 ntmps100
def nb(x1:Int)(o0:List Int):Option (List Int) :=Ck (kY 1 0 (IntKind.wrap .i64 ((o0.length:Int)+10)))<|eE 9 (DV.int .u8) 0 λ_=>Ck (dK 1 (List.length ([]:List Int)+List.length o0))<|Bi (cl 14 [(9000,12),(5000,1001)] (Mx x1 (([]:List Int)++o0))) λv4=>rX [(5000,1001)] (some v4)
instance aaZ{x1 o0}:MA (nb x1 o0) prog 49 (λ_=>1) λr=>⟨[.row 9000,.int .u64 x1],[(9000,some (.R 5 1 (DV.int .u8) o0))],.row 5000,[(5000,some (.R 5 1 (DV.int .u8) r)),(9000,some (.R 5 1 (DV.int .u8) o0))],[5000]⟩:=.b func49 ntmps49
def VClk_Bytes_a(x0:VClk)(o0:List Int):Option (List Int) :=Bi (VClk_length x0) λv2=>Ck (dK 1 (o0.length))<|eE 14 (bA 1 (DV.int .u8)) [(IntKind.wrap .u8 v2)] λv4=>Ck (dK 1 (o0.length+List.length v4))<|fL (o0++v4) 17 [9000] [2,16] [2,9000] (λ_ t=>(6,.row 1001)::t) (λs t=>(1001,some (.R 5 1 (DV.int .u8) s))::t) [] [(1001,15)] m64 v2 (λk6 s8=>Ck (oO 16 (k6:Int))<|ea 23 (λx=>[(DV.int .u64) x]) x0.ei<|Bi (cl 25 [(9000,1001),(5000,25)] (nb (x0.ei (Int.toNat (k6:Int))) s8)) λv11=>nX [] [(1001,25)] (some v11)) λs8=>rX [(5000,1001)] (some s8)
instance VClk_Bytes_a_c{x0 o0}:MA (VClk_Bytes_a x0 o0) prog 50 (λ_=>1) λr=>⟨[.agg (VClk.cs x0),.row 9000],[(9000,some (.R 5 1 (DV.int .u8) o0))],.row 5000,[(5000,some (.R 5 1 (DV.int .u8) r)),(9000,some (.R 5 1 (DV.int .u8) o0))],[5000]⟩:=.b func50 ntmps50
def JR(x0:Int):Option Int :=If (decide (x0<0)) (some (iw .xor .u64 (if IntKind.signed .u64=true then -1 else IntKind.max .u64) (IntKind.wrap .u64 ((IntKind.wrap .u64 x0)*2^min (Int.toNat 1) (IntKind.bits .u64)))))<|some (IntKind.wrap .u64 ((IntKind.wrap .u64 x0)*2^min (Int.toNat 1) (IntKind.bits .u64)))
instance ahi{x0}:MC (JR x0) λr=>br prog 101 [.I x0] (.int .u64 r):=.p func101 ntmps101
def BA(x1:Int)(o0:List Int):Option (List Int) :=Bi (JR x1) λv2=>Bi (cl 8 [(5000,8)] (nb v2 o0)) λv4=>rX [(5000,8)] (some v4)
instance acv{x1 o0}:MA (BA x1 o0) prog 51 (λ_=>1) λr=>⟨[.row 9000,.I x1],[(9000,some (.R 5 1 (DV.int .u8) o0))],.row 5000,[(5000,some (.R 5 1 (DV.int .u8) r)),(9000,some (.R 5 1 (DV.int .u8) o0))],[5000]⟩:=.b func51 ntmps51
@[reducible] def RRec_Bytes_K1(s9:(List Int)):Option (List Int) :=some s9
def RRec_Bytes(x0:RRec):Option (List Int) :=Bi (xU x0) λv2=>If (v2 != 0) (some ([]:List Int))<|eE 14 (bA 1 (DV.int .u8)) [x0.zy] λv3=>Bi (cl 19 [(9000,14),(5000,19)] (nb (IntKind.wrap .u64 x0.aN) v3)) λv5=>Bi (cl 23 [(9000,19),(5000,23)] (nb x0.acR v5)) λv7=>jn RRec_Bytes_K1 6 [] [] [] (λs t=>(3,.L 1 (DV.int .u8) s)::t) i2<|If (x0.zy==1) (Bi (cl 33 [(9000,23),(5000,33)] (VClk_Bytes_a x0.rL v7)) λv11=>fL v11 48 [] [4,47] [4] (λ_ t=>(3,.row 1001)::t) (λs t=>(1001,some (.R 5 1 (DV.int .u8) s))::t) [] [(1001,33)] m64 6 (λBZ rH=>Bi (idx ([x0.kD.AM,(IntKind.wrap .i64 x0.kD.bC),x0.kD.lW,x0.kD.gN,x0.kD.lX,x0.kD.bU]:List Int) (BZ:Int)) λvV=>eE 50 (DV.int .i64) vV λ_=>eb 50 ([x0.kD.AM,(IntKind.wrap .i64 x0.kD.bC),x0.kD.lW,x0.kD.gN,x0.kD.lX,x0.kD.bU]:List Int)<|Bi (cl 54 [(9000,1001),(5000,54)] (nb (IntKind.wrap .u64 vV) rH)) λzJ=>nX [] [(1001,54)] (some zJ)) λrH=>Bi (cl 59 [(9000,1001),(5000,59)] (BA x0.kD.gD rH)) λmA=>Bi (cl 65 [(9000,59),(5000,65)] (nb (IntKind.wrap .u64 (x0.kD.cE.length:Int)) mA)) λlI=>fL lI 69 [] [67,68] [] (λ_ t=>(3,.row 1002)::t) (λs t=>(1002,some (.R 5 1 (DV.int .u8) s))::t) [] [(1002,65)] m64 (x0.kD.cE.length:Int) (λk19 NG=>Bi (idx x0.kD.cE (k19:Int)) λuj=>Bi (cl 75 [(9000,1002),(5000,75)] (BA uj NG)) λua=>nX [] [(1002,75)] (some ua)) λNG=>nX [.z 1002] [] (RRec_Bytes_K1 NG))<|If (x0.zy==2) (Bi (cl 82 [(9000,23),(5000,82)] (nb x0.yM v7)) λv31=>nX [.z 82] [] (RRec_Bytes_K1 v31))<|nX [.z 23] [] (RRec_Bytes_K1 v7)
instance RRec_Bytes_c{x0}:MC (RRec_Bytes x0) λr=>br prog 27 [.agg (RRec.cs x0)] (.L 1 (DV.int .u8) r):=.p func27 ntmps27
def HW(x0:RRec):Option Int :=Bi (RRec_Bytes x0) λv2=>some (v2.length:Int)
instance af5{x0}:MC (HW x0) λr=>br prog 93 [.agg (RRec.cs x0)] (.I r):=.p func93 ntmps93
end Go.Proofs.YtaafmkmdfcgeaaaGreatDoor
namespace Go.Proofs.YtaafmkmdfcgeaaaGreatDoor
open Go.Proofs.Tryz
theorem acf(p q:Nat->Bool)(l:List Nat)(h:(∀k∈l,p k=true->q k=true)∨(∀k∈l,q k=true->p k=true)):l.countP (λk=>p k||q k)=max (l.countP p) (l.countP q):=by
 rcases h with h|h
 .have e:l.countP (λk=>p k||q k)=l.countP q:=by
   apply List.countP_congr;intro k hk;have:=h k hk;cases hp:p k <;> simp_all
  have le:l.countP p<=l.countP q:=List.countP_mono_left (λk hk hp=>h k hk hp);omega
 .have e:l.countP (λk=>p k||q k)=l.countP p:=by
   apply List.countP_congr;intro k hk;have:=h k hk;cases hp:q k <;> simp_all
  have le:l.countP q<=l.countP p:=List.countP_mono_left (λk hk hp=>h k hk hp);omega
section
variable {n:Nat} {KP Ld:Nat->Option Nat} {comp:Nat->Int} {p:Nat->Nat->Bool} {C:Nat->Int->Nat}
structure nH(n:Nat)(KP Ld:Nat->Option Nat)(comp:Nat->Int)(p:Nat->Nat->Bool):Prop where
 b1:∀j,j<n->∀i,KP j=some i->i<j∧comp i=comp j∧∀k,i<k->k<j->comp k≠comp j
 b0:∀j,j<n->KP j=none->∀k,k<j->comp k≠comp j
 s1:∀j,j<n->∀i,Ld j=some i->i<j
 p:∀j,j<n->∀k,p j k=(decide (k=j)||(decide (k<j)&&((KP j).any (p · k)||(Ld j).any (p · k))))
theorem nH.self(H:nH n KP Ld comp p){j:Nat}(hj:j<n):p j j=true:=by rw[H.p j hj];simp
theorem nH.le(H:nH n KP Ld comp p){j k:Nat}(hj:j<n)(h:p j k=true):k<=j:=by
 rw[H.p j hj]at h;simp only[Bool.or_eq_true,Bool.and_eq_true,decide_eq_true_eq]at h;omega
theorem nH.down(H:nH n KP Ld comp p):∀j,j<n->∀k k',p j k=true->k'<k->comp k'=comp k->p j k'=true:=by
 intro j
 induction j using Nat.strongRecOn with
 |ind j ih=>
  intro hj k k' hk my hc;have hle:=H.le hj hk;rw[H.p j hj]at hk;rw[H.p j hj];simp only[Bool.or_eq_true,Bool.and_eq_true,decide_eq_true_eq]at hk |-
  right
  refine⟨ah,?_⟩;rcases hk with rfl|⟨h1,h2⟩
  .cases hb:KP k with
   |none=>exact absurd hc (H.b0 k hj hb k' my)
   |some i=>
    obtain⟨a1,a2,a3⟩:=H.b1 k hj i hb
    left
    simp only[Option.any_some];rcases Nat.lt_trichotomy k' i with h|h|h
    .exact ih i a1 ah i k' (H.self ah) h (by rw[hc,a2])
    .subst h;exact H.self ah
    .exact absurd hc (a3 k' h my)
  .rcases h2 with h2|h2
   .cases hb:KP j with
    |none=>simp[hb]at h2
    |some i=>
     simp only[hb,Option.any_some]at h2 |-;exact .inl (ih i (H.b1 j hj i hb).1 (by have:=(H.b1 j hj i hb).1;omega) k k' h2 my hc)
   .cases hb:Ld j with
    |none=>simp[hb]at h2
    |some i=>
     simp only[hb,Option.any_some]at h2 |-;exact .inr (ih i (H.s1 j hj i hb) (by have:=H.s1 j hj i hb;omega) k k' h2 my hc)
theorem nH.nest(H:nH n KP Ld comp p){i j:Nat}(hi:i<n)(hj:j<n)(c:Int)(l:List Nat) :
  (∀k∈l,(p i k&&comp k==c)=true->(p j k&&comp k==c)=true)∨(∀k∈l,(p j k&&comp k==c)=true->(p i k&&comp k==c)=true):=by
 by_cases h:∃k,p i k=true∧comp k=c∧p j k=false
 .right
  obtain⟨k,h1,h2,h3⟩:=h;intro k' _ Cs;simp only[Bool.and_eq_true,beq_iff_eq]at Cs |-;refine⟨?_,Cs.2⟩;rcases Nat.lt_trichotomy k' k with h|h|h
  .exact H.down i hi k k' h1 h (by rw[Cs.2,h2])
  .subst h;exact h1
  .have:=H.down j hj k' k Cs.1 h (by rw[Cs.2,h2])
   rw[h3]at this;cases this
 .left
  intro k _ hk;simp only[Bool.and_eq_true,beq_iff_eq]at hk |-;refine⟨?_,hk.2⟩;cases hq:p j k with
  |true=>rfl
  |false=>exact absurd ⟨k,hk.1,hk.2,hq⟩ h
def xf(comp:Nat->Int)(p:Nat->Nat->Bool)(m j:Nat)(c:Int):Nat:=(List.range m).countP (λk=>p j k&&comp k==c)
theorem WW(f:Nat->Bool)(m m':Nat)(h:m<=m')(hf:∀k,m<=k->f k=false):(List.range m').countP f=(List.range m).countP f:=by
 induction m' with
 |zero=>
  have:m=0:=ah;subst this;rfl
 |succ q ih=>
  by_cases e:m=q+1
  .subst e;rfl
  .rw[List.range_succ,List.countP_append,ih ah]
   simp[hf q ah]
theorem nH.cnt(H:nH n KP Ld comp p)(hC:∀j,j<n->∀c,C j c=max ((KP j).elim 0 (C · c)) ((Ld j).elim 0 (C · c))+if c=comp j then 1 else 0) :
  ∀j,j<n->∀m c,j<m->C j c=xf comp p m j c:=by
 intro j
 induction j using Nat.strongRecOn with
 |ind j ih=>
  intro hj m c hm;rw[hC j hj c]
  have e1:xf comp p m j c=xf comp p (j+1) j c:=by
   refine WW _ (j+1) m hm (λk hk=>?_);cases hp:p j k with
   |false=>rfl
   |true=>exact absurd (H.le hj hp) ah
  rw[e1];unfold xf;rw[List.range_succ,List.countP_append]
  have e2:List.countP (λk=>p j k&&comp k==c) [j]=if c=comp j then 1 else 0:=by
   by_cases hc:c=comp j <;> simp[H.self hj,hc,Ne.symm]
  rw[e2]
  congr 1
  have e3:(List.range j).countP (λk=>p j k&&comp k==c)=(List.range j).countP (λk=>((KP j).any (p · k)&&comp k==c)||((Ld j).any (p · k)&&comp k==c)):=by
   apply List.countP_congr;intro k hk;have Cs:k<j:=List.mem_range.1 hk;rw[H.p j hj k];have h1:decide (k=j)=false:=iC;have h2:decide (k<j)=true:=by simp[Cs]
   rw[h1,h2];cases(KP j).any (p · k) <;> cases(Ld j).any (p · k) <;> cases(comp k==c) <;> rfl
  rw[e3];cases hb:KP j with
  |none=>
   cases hs:Ld j with
   |none=>simp
   |some i=>
    have hi:=H.s1 j hj i hs;simp only[Option.any_none,Option.any_some,Bool.false_and,Bool.false_or,Option.elim_none,Option.elim_some];rw[ih i hi ah j c hi];unfold xf;omega
  |some i=>
   have hi:=(H.b1 j hj i hb).1;cases hs:Ld j with
   |none=>
    simp only[Option.any_none,Option.any_some,Bool.false_and,Bool.or_false,Option.elim_none,Option.elim_some];rw[ih i hi ah j c hi];unfold xf;omega
   |some i'=>
    have EH:=H.s1 j hj i' hs;simp only[Option.any_some,Option.elim_some];rw[acf _ _ _ (H.nest ah ah c _),ih i hi ah j c hi,ih i' EH ah j c EH]
    rfl
end
section
variable {n:Nat} {KP Ld:Nat->Option Nat} {comp:Nat->Int} {p:Nat->Nat->Bool}
theorem nH.tr(H:nH n KP Ld comp p):∀j,j<n->∀i k,p j i=true->p i k=true->p j k=true:=by
 intro j
 induction j using Nat.strongRecOn with
 |ind j ih=>
  intro hj i k hi hk;have hle:=H.le hj hi
  by_cases e:i=j
  .subst e;exact hk
  have Cs:=H.le (show i<n by omega) hk;rw[H.p j hj]at hi;rw[H.p j hj];simp only[Bool.or_eq_true,Bool.and_eq_true,decide_eq_true_eq]at hi |-
  right
  refine⟨ah,?_⟩;rcases hi with hi|⟨h1,h2⟩
  .exact absurd hi e
  rcases h2 with h2|h2
  .cases hb:KP j with
   |none=>simp[hb]at h2
   |some b=>
    have:=(H.b1 j hj b hb).1;simp only[hb,Option.any_some]at h2 |-;exact .inl (ih b this ah i k h2 hk)
  .cases hb:Ld j with
   |none=>simp[hb]at h2
   |some b=>
    have:=H.s1 j hj b hb;simp only[hb,Option.any_some]at h2 |-;exact .inr (ih b this ah i k h2 hk)
theorem MX{f g:Nat->Bool}{l:List Nat}(h:∀k∈l,f k=true->g k=true){x:Nat}(hx:x∈l)(h1:f x=false)(h2:g x=true):l.countP f<l.countP g:=by
 induction l with
 |nil=>cases hx
 |cons y l ih=>
  have hle:=List.countP_mono_left (l:=l) (λk hk hp=>h k (List.mem_cons_of_mem _ hk) hp);rw[List.countP_cons,List.countP_cons];rcases List.mem_cons.1 hx with rfl|hm
  .rw[h1,h2];simp;omega
  .have:=ih (λk hk=>h k (List.mem_cons_of_mem _ hk)) hm
   have:=h y (List.mem_cons_self ..)
   by_cases hf:f y=true
   .rw[hf,this hf];omega
   .rw[Bool.not_eq_true]at hf;rw[hf];simp;omega
theorem nH.own(H:nH n KP Ld comp p){j:Nat}(hj:j<n):xf comp p n j (comp j)=(List.range (j+1)).countP (λk=>comp k==comp j):=by
 unfold xf
 rw[WW (λk=>p j k&&comp k==comp j) (j+1) n hj (λk hk=>by
  cases hp:p j k with
  |false=>rfl
  |true=>exact absurd (H.le hj hp) ah)]
 apply List.countP_congr;intro k hk;have hk:=List.mem_range.1 hk;simp only[Bool.and_eq_true,beq_iff_eq];refine⟨λh=>h.2,λh=>⟨?_,h⟩⟩
 by_cases e:k=j
 .subst e;exact H.self hj
 .exact H.down j hj j k (H.self hj) ah h
theorem nH.mono(H:nH n KP Ld comp p){i j:Nat}(hj:j<n)(h:p j i=true)(c:Int):xf comp p n i c<=xf comp p n j c:=by
 unfold xf;refine List.countP_mono_left (λk _ hk=>?_);simp only[Bool.and_eq_true]at hk |-;exact⟨H.tr j hj i k h hk.1,hk.2⟩
theorem nH.ne(H:nH n KP Ld comp p){i j:Nat}(hj:j<n)(h:p j i=true)(DM:i≠j):xf comp p n i (comp j)<xf comp p n j (comp j):=by
 have hle:=H.le hj h;unfold xf;refine MX (λk _ hk=>?_) (List.mem_range.2 hj) ?_ ?_
 .simp only[Bool.and_eq_true]at hk |-
  exact⟨H.tr j hj i k h hk.1,hk.2⟩
 .cases hp:p i j with
  |false=>rfl
  |true=>exact absurd (H.le ah hp) ah
 .simp[H.self hj]
theorem nH.of_le(H:nH n KP Ld comp p){i j:Nat}(hi:i<n)(hj:j<n)(h:xf comp p n i (comp i)<=xf comp p n j (comp i)):p j i=true:=by
 cases hp:p j i with
 |true=>rfl
 |false=>
  refine absurd h (Nat.not_le.2 ?_);unfold xf;refine MX (λk _ hk=>?_) (List.mem_range.2 hi) (by simp[hp]) (by simp[H.self hi]);simp only[Bool.and_eq_true,beq_iff_eq]at hk |-;refine⟨?_,hk.2⟩;rcases Nat.lt_trichotomy k i with h|h|h
  .exact H.down i hi i k (H.self hi) h hk.2
  .subst h;rw[hk.1]at hp;cases hp
  .have:=H.down j hj k i hk.1 h hk.2.symm
   rw[hp]at this;cases this
theorem nH.iff(H:nH n KP Ld comp p){i j:Nat}(hi:i<n)(hj:j<n)(DM:i≠j){A B:Int->Nat}(hA:∀c,A c=xf comp p n i c)(hB:∀c,B c=xf comp p n j c) :
  ((∀c,A c<=B c)↔i<j∧p j i=true)∧((∀c,A c<=B c)->A (comp j)≠B (comp j)):=by
 have k:(∀c,A c<=B c)->p j i=true:=λh=>H.of_le hi hj (by have:=h (comp i);rw[hA,hB]at this;exact this)
 refine⟨⟨λh=>⟨?_,k h⟩,λh c=>by rw[hA,hB];exact H.mono hj h.2 c⟩,λh=>?_⟩
 .have:=H.le hj (k h);omega
 .rw[hA,hB];have:=H.ne hj (k h) DM;omega
end
section
variable {a b:VClk}
def ale(a b:VClk):Prop:=∀i,i<16->a.ei i<=b.ei i
theorem afi(a b:VClk):Wp (yq a b) λr=>r=true↔ale a b:=by
 unfold yq;refine eS (λj _=>∀i,i<j->a.ei i<=b.ei i) aV (λi h=>absurd h (Nat.not_lt_zero i)) ?_ (λ_ h=>aj ⟨λ_=>h,λ_=>rfl⟩);intro j _ hj h;rw[Int.toNat_natCast];have h16:j<16:=ah;refine aK ⟨ah,ah⟩ (fH (aK ⟨ah,ah⟩ (fH (aq (λhb=>aj ?_) (λhb=>ay (aj ?_))))))
 .refine aj ⟨(λh=>dI),λhl=>?_⟩
  have:=hl j h16;simp at hb;omega
 .intro i hi
  rcases Nat.lt_or_ge i j with q|q
  .exact h i q
  .obtain rfl:i=j:=by omega
   simpa using hb
theorem Wf(a b:VClk):Wp (pH a b) λr=>r=2↔ale a b∧∃i,i<16∧a.ei i≠b.ei i:=by
 unfold pH;refine aq (λh=>aj ⟨(λh=>dI),λ⟨_,i,hi,hn⟩=>absurd ?_ hn⟩) (λh=>?_)
 .simp only[Bool.and_eq_true,beq_iff_eq]at h
  obtain⟨h0,h1,h2,h3,h4,h5,h6,h7,h8,h9,h10,h11,h12,h13,h14,h15⟩:=h;have h15:=h15.1;have e:i=0∨i=1∨i=2∨i=3∨i=4∨i=5∨i=6∨i=7∨i=8∨i=9∨i=10∨i=11∨i=12∨i=13∨i=14∨i=15:=ah;rcases e with rfl|rfl|rfl|rfl|rfl|rfl|rfl|rfl|rfl|rfl|rfl|rfl|rfl|rfl|rfl|rfl <;> assumption
 .have hx:∃i,i<16∧a.ei i≠b.ei i:=by
   refine Classical.byContradiction λhc=>?_
   have e:∀i,i<16->a.ei i=b.ei i:=λi hi=>Classical.byContradiction λhn=>hc ⟨i,hi,hn⟩
   rw[e 0 aV,e 1 aV,e 2 aV,e 3 aV,e 4 aV,e 5 aV,e 6 aV,e 7 aV,e 8 aV,e 9 aV,e 10 aV,e 11 aV,e 12 aV,e 13 aV,e 14 aV,e 15 aV]at h;simp at h
  refine av (afi a b) (λv hv=>aq (λe=>aj ⟨λ_=>⟨hv.1 e,hx⟩,λ_=>rfl⟩) (λe=>?_));have hn:¬ale a b:=λhl=>by rw[hv.2 hl]at e;cases e
  exact av (afi b a) (λw _=>aq (λ_=>aj ⟨(λh=>dI),λh=>absurd h.1 hn⟩) (λ_=>aj ⟨(λh=>dI),λh=>absurd h.1 hn⟩))
end
def qi(q:AEv->Bool)(l:List AEv):Nat->Option Nat
 |0=>none
 |k+1=>if (l[k]?).any q=true then some k else qi q l k
theorem uB{q:AEv->Bool}{l:List AEv}:∀{k i:Nat},qi q l k=some i->i<k∧(∃x,l[i]? = some x∧q x=true)∧∀j,i<j->j<k->∀x,l[j]? = some x->q x=false
 |0,i,h=>dI
 |k+1,i,h=>by
  unfold qi at h
  split at h
  .rename_i hq
   injection h with h;subst h
   refine⟨ah,?_,λj h1 h2=>ah⟩;cases hl:l[k]? with
   |none=>rw[hl]at hq;cases hq
   |some x=>rw[hl]at hq;exact⟨x,rfl,hq⟩
  .rename_i hq
   obtain⟨a1,a2,a3⟩:=uB h;refine⟨ah,a2,λj h1 h2 x hx=>?_⟩
   by_cases e:j=k
   .subst e
    rw[hx]at hq;simpa using hq
   .exact a3 j h1 ah x hx
theorem JY{q:AEv->Bool}{l:List AEv}:∀{k:Nat},qi q l k=none->∀j,j<k->∀x,l[j]? = some x->q x=false
 |0,_,j,hj,_,_=>ah
 |k+1,h,j,hj,x,hx=>by
  unfold qi at h
  split at h
  .cases h
  .rename_i hq
   by_cases e:j=k
   .subst e;rw[hx]at hq;simpa using hq
   .exact JY h j ah x hx
theorem yK{q:AEv->Bool}{l:List AEv}{k:Nat}{x:AEv}(h:l[k]? = some x):qi q l (k+1)=if q x=true then some k else qi q l k:=by
 show(if (l[k]?).any q=true then some k else qi q l k)=_;rw[h];rfl
def SJ(a s:AEv):Bool:=((((s.bC==8)&&((a.bC==5)||((a.bC==7)&&(a.gD==5))))&&(a.aN==s.lW))&&(a.lW==s.aN))&&(a.gN==s.gN)
def Xs(a:AEv):Bool:=(a.bC==5)||((a.bC==7)&&(a.gD==5))
abbrev VC:=VClk
def zc:VC:=⟨λ_=>0⟩
def BC(a b:VC):VC:=⟨λi=>if i<16 then(if b.ei i>a.ei i then b.ei i else a.ei i)else a.ei i⟩
def abK(a:VC)(c:Int):VC:=⟨tP a.ei c.toNat (a.ei c.toNat+1)⟩
def ya(cs:List VC):Option Nat->VC
 |none=>zc
 |some i=>cs.getD i zc
theorem DA{cs:List VC}{c:VC}{o:Option Nat}(h:∀i,o=some i->i<cs.length):ya (cs++[c]) o=ya cs o:=by
 cases o with
 |none=>rfl
 |some i=>
  have:=h i rfl;simp[ya,List.getD_eq_getElem?_getD,List.getElem?_append_left this]
def keyOf(e:AEv):bw:=⟨e.aN,e.lW,e.gN⟩
def vS(l:List AEv)(j:Nat):Option Nat:=match l[j]? with
 |none=>none
 |some e=>qi (λx=>x.aN==e.aN) l j
def xc(l:List AEv)(j:Nat):Option Nat:=match l[j]? with
 |none=>none
 |some e=>qi (λx=>SJ e x) l j
def xh(l:List AEv)(cs:List VC)(j:Nat)(e:AEv):VC:=abK (BC (ya cs (vS l j)) (ya cs (xc l j))) e.aN
theorem eqK(a b:bw):wI (jJ a) (jJ b)=true↔a=b:=by
 cases a;cases b;simp[jJ,wI,eqD]
theorem aho{V:Type}{q:bw}:∀{xs:List (bw×V)} {i:Nat},rV jJ q xs i=none->∀p∈xs,p.1≠q
 |[],i,_,p,hp=>by cases hp
 |x::xs,i,h,p,hp=>by
  unfold rV at h
  split at h
  .cases h
  .rename_i hq
   cases hp with
   |head=>intro e;exact hq ((eqK _ _).2 e.symm)
   |tail _ hp=>exact aho h p hp
theorem ahn{V:Type}{q:bw}:∀{xs:List (bw×V)} {i j:Nat} {v:V},rV jJ q xs i=some (j,v)->i<=j∧xs[j-i]? = some (q,v)∧∀m,m<j-i->∀p,xs[m]? = some p->p.1≠q
 |[],i,j,v,h=>dI
 |x::xs,i,j,v,h=>by
  unfold rV at h
  split at h
  .rename_i hq
   injection h with h;injection h with h1 h2
   subst h1;subst h2;have:=(eqK _ _).1 hq;refine⟨Nat.le_refl _,?_,λm hm=>ah⟩;simp[this]
  .rename_i hq
   obtain⟨a1,a2,a3⟩:=ahn h;refine⟨ah,?_,λm hm p hp=>?_⟩
   .rw[show j-i=(j-(i+1))+1 by omega,List.getElem?_cons_succ];exact a2
   .cases m with
    |zero=>
     simp at hp;subst hp;exact λe=>hq ((eqK _ _).2 e.symm)
    |succ m=>exact a3 m ah p Vv
theorem Dk{V:Type}{q:bw}{v:V}:∀{xs:List (bw×V)} {i m:Nat},xs[m]? = some (q,v)->(∀k,k<m->∀p,xs[k]? = some p->p.1≠q)->rV jJ q xs i=some (i+m,v)
 |[],i,m,h,_=>dI
 |x::xs,i,0,h,_=>by
  simp at h;subst h;unfold rV;rw[if_pos ((eqK _ _).2 rfl)]
  rfl
 |x::xs,i,m+1,h,hn=>by
  unfold rV;have h0:=hn 0 ah x aR;rw[if_neg (λe=>h0 ((eqK _ _).1 e).symm),Dk (m:=m) DB (λk hk p hp=>hn (k+1) ah p Vv)]
  congr 2
  omega
theorem JV{V:Type}{q:bw}:∀{xs:List (bw×V)} {i:Nat},(∀p∈xs,p.1≠q)->rV jJ q xs i=none
 |[],i,_=>rfl
 |x::xs,i,h=>by
  unfold rV;rw[if_neg (λe=>h x (.head _) ((eqK _ _).1 e).symm)];exact JV λp hp=>h p (.tail _ hp)
theorem Zy{V:Type}(xs:List (bw×V))(q r:bw)(v z:V):IG jJ (Fb jJ xs q v) r z=if wI (jJ q) (jJ r)=true then v else IG jJ xs r z:=by
 have K:=eqK q r;unfold Fb;cases hf:rV jJ q xs 0 with
 |none=>
  have hn:=aho hf
  by_cases e:q=r
  .rw[if_pos (K.2 e)]
   subst e
   have:=Dk (xs:=xs++[(q,v)]) (i:=0) (m:=xs.length) (q:=q) (v:=v) aR (λk hk p hp=>by
    rw[List.getElem?_append_left hk]at hp;exact hn p (List.mem_of_getElem? hp))
   simp only[IG,this]
  .rw[if_neg (λh=>e (K.1 h))]
   unfold IG;cases hg:rV jJ r xs 0 with
   |none=>
    have:=aho hg
    rw[JV (λp hp=>by
     rcases List.mem_append.1 hp with h|h
     .exact this p h
     .simp at h;subst h;exact e)]
   |some t=>
    obtain⟨j,u⟩:=t;obtain⟨a1,a2,a3⟩:=ahn hg;have hj:j-0<xs.length:=(List.getElem?_eq_some_iff.1 a2).1
    rw[Dk (m:=j) (v:=u) (by rw[List.getElem?_append_left ah];exact a2) (λk hk p hp=>by
     rw[List.getElem?_append_left ah]at hp;exact a3 k ah p hp)]
 |some t=>
  obtain⟨i,u⟩:=t;obtain⟨a1,a2,a3⟩:=ahn hf;have hi:i-0<xs.length:=(List.getElem?_eq_some_iff.1 a2).1;simp only[Nat.sub_zero]at a2 a3 hi;show IG jJ (xs.set i (q,v)) r z=_
  by_cases e:q=r
  .rw[if_pos (K.2 e)]
   subst e;unfold IG
   rw[Dk (m:=i) (v:=v) Pv (λk hk p hp=>by
    rw[List.getElem?_set_ne ah]at hp;exact a3 k hk p hp)]
  .rw[if_neg (λh=>e (K.1 h))]
   unfold IG;cases hg:rV jJ r xs 0 with
   |none=>
    have:=aho hg
    rw[JV (λp hp=>by
     rcases List.mem_or_eq_of_mem_set hp with h|h
     .exact this p h
     .subst h;exact e)]
   |some t=>
    obtain⟨j,w⟩:=t;obtain⟨b1,b2,b3⟩:=ahn hg;simp only[Nat.sub_zero]at b2 b3
    have nq:i≠j:=by
     intro h;subst h;rw[a2]at b2;injection b2 with b2;injection b2 with b2;exact e b2
    rw[Dk (m:=j) (v:=w) (by rw[List.getElem?_set_ne nq];exact b2) (λk hk p hp=>by
     by_cases hk2:i=k
     .subst hk2
      rw[List.getElem?_set_self hi]at hp;injection hp with hp;subst hp;exact e
     .rw[List.getElem?_set_ne hk2]at hp
      exact b3 k hk p hp)]
theorem Ic{q r:AEv->Bool}{l:List AEv}(h:∀x,q x=r x):∀k,qi q l k=qi r l k:=by
 have:q=r:=funext h;intro k;rw[this]
theorem Ib{q:AEv->Bool}{l:List AEv}(h:∀x,q x=false):∀k,qi q l k=none
 |0=>rfl
 |k+1=>by
  unfold qi;rw[if_neg]
  .exact Ib h k
  .cases l[k]? <;> simp[h]
def ZB(q:bw)(x:AEv):Bool:=(x.bC==8)&&wI (jJ (keyOf x)) (jJ q)
def Si(c:Nat)(x:AEv):Bool:=x.aN==(c:Int)
structure afc(l:List AEv)(k:Nat)(s:List (bw×VC)×List VC×(Nat->VC)):Prop where
 len:s.2.1.length=k
 last:∀c,c<9->s.2.2 c=ya s.2.1 (qi (Si c) l k)
 atW:∀q,IG jJ s.1 q zc=ya s.2.1 (qi (ZB q) l k)
 at':∀j e,j<k->l[j]? = some e->s.2.1[j]? = some (xh l s.2.1 j e)
 bnd:∀c∈s.2.1,∀i,0<=c.ei i∧c.ei i<=k
theorem Gl{cs:List VC}{k:Nat}(h:∀c∈cs,∀i,0<=c.ei i∧c.ei i<=(k:Int))(o:Option Nat)(i:Nat):0<=(ya cs o).ei i∧(ya cs o).ei i<=(k:Int):=by
 cases o with
 |none=>simp[ya,zc]
 |some j=>
  show 0<=(cs.getD j zc).ei i∧(cs.getD j zc).ei i<=(k:Int);rw[List.getD_eq_getElem?_getD];cases hj:cs[j]? with
  |none=>simp[zc]
  |some c=>exact h c (List.mem_of_getElem? hj) i
theorem acC{a:VC}(h:∀i,0<=a.ei i):BC a zc=a:=by
 cases a with
 |mk g=>
  unfold BC zc
  congr 1
  funext i
  have:=h i;simp only at this |-
  split
  .rw[if_neg ah]
  .rfl
theorem agX{l:List AEv}{k:Nat}{e:AEv}(h:l[k]? = some e)(ha:Xs e=true):xc l k=qi (ZB ⟨e.lW,e.aN,e.gN⟩) l k:=by
 unfold xc;rw[h];refine Ic (λx=>?_) k;unfold SJ ZB keyOf Xs at *;simp only[ha,Bool.and_true,jJ,wI,eqD];cases h1:x.bC==8 <;> simp;rw[Bool.eq_iff_iff];simp only[Bool.and_eq_true,beq_iff_eq]
 constructor
 .rintro⟨⟨a1,a2⟩,a3⟩;exact⟨a2.symm,a1.symm,a3.symm⟩
 .rintro⟨a1,a2,a3⟩;exact⟨⟨a2.symm,a1.symm⟩,a3.symm⟩
theorem akd{l:List AEv}{k:Nat}{e:AEv}(h:l[k]? = some e)(ha:Xs e=false):xc l k=none:=by
 unfold xc;rw[h];refine Ib (λx=>?_) k;unfold SJ Xs at *;simp[ha]
theorem ak0{l:List AEv}{k:Nat}{e:AEv}(h:l[k]? = some e)(h0:0<=e.aN):vS l k=qi (Si e.aN.toNat) l k:=by
 unfold vS;rw[h];refine Ic (λx=>?_) k;unfold Si;rw[Int.toNat_of_nonneg h0]
theorem OW{l:List AEv}{cs:List VC}{c:VC}{j:Nat}{e:AEv}(hj:j<=cs.length):xh l (cs++[c]) j e=xh l cs j e:=by
 unfold xh;rw[DA,DA]
 .intro i hi
  unfold xc at hi
  split at hi
  .cases hi
  .have:=(uB hi).1;omega
 .intro i hi
  unfold vS at hi
  split at hi
  .cases hi
  .have:=(uB hi).1;omega
theorem ajc{l:List AEv}{k:Nat}{M:List (bw×VC)}{cs:List VC}{last:Nat->VC}(I:afc l k (M,cs,last))(i:Nat):0<=(BC (ya cs (vS l k)) (ya cs (xc l k))).ei i∧(BC (ya cs (vS l k)) (ya cs (xc l k))).ei i<=k:=by
 have a1:=Gl I.bnd (vS l k) i;have a2:=Gl I.bnd (xc l k) i;unfold BC;simp only
 split
 .split
  .exact a2
  .exact a1
 .exact a1
theorem ab0{l:List AEv}{k:Nat}{e:AEv}(he:l[k]? = some e)(h0:0<=e.aN)(h8:e.aN<=8){M:List (bw×VC)}{cs:List VC}{last:Nat->VC}(I:afc l k (M,cs,last)):afc l (k+1) (if (e.bC==8)=true then Fb jJ M (keyOf e) (xh l cs k e)else M,cs++[xh l cs k e],tP last e.aN.toNat (xh l cs k e)):=by
 have hm:=ajc I;obtain⟨i1,i2,i3,i4,i5⟩:=I;simp only at i1 i2 i3 i4 i5
 have mz:ya (cs++[xh l cs k e]) (some k)=xh l cs k e:=by
  subst i1;simp[ya,List.getD_eq_getElem?_getD]
 have hold:∀q,ya (cs++[xh l cs k e]) (qi q l k)=ya cs (qi q l k):=λq=>DA λi hi=>by have:=(uB hi).1;omega
 refine⟨by simp[i1],λc hc=>?_,λq=>?_,λj e' hj he'=>?_,λc hc i=>?_⟩
 .simp only[yK he,tP]
  by_cases hce:c=e.aN.toNat
  .rw[if_pos hce,if_pos (by unfold Si;rw[hce,Int.toNat_of_nonneg h0];simp),mz]
  .rw[if_neg hce,if_neg (by unfold Si;simp;omega),hold,i2 c hc]
 .simp only[yK he]
  by_cases h8':(e.bC==8)=true
  .rw[if_pos h8',Zy]
   by_cases hq:wI (jJ (keyOf e)) (jJ q)=true
   .rw[if_pos hq,if_pos (by unfold ZB;rw[h8',hq];rfl),mz]
   .rw[if_neg hq,if_neg (by unfold ZB;simp[hq]),hold,i3]
  .rw[if_neg h8',if_neg (by unfold ZB;simp at h8';simp[h8']),hold,i3]
 .rw[OW ah]
  by_cases hjk:j=k
  .subst hjk
   rw[he]at he';injection he' with he';subst he'
   rw[<-i1];simp
  .rw[List.getElem?_append_left ah]
   exact i4 j e' ah he'
 .rcases List.mem_append.1 hc with h|h
  .have:=i5 c h i;exact⟨this.1,ah⟩
  .simp at h
   subst h;show 0<=(if i=e.aN.toNat then _ else _)∧(if i=e.aN.toNat then _ else _)<=((k+1:Nat):Int);have a1:=hm i;have a2:=hm e.aN.toNat
   split
   .exact⟨ah,ah⟩
   .exact⟨a1.1,ah⟩
open Go.RowKit
attribute [local irreducible] gL dH br gY jP dK fC kY
structure gv where
 auc:Int
 akO:Int
 uM:List Int
 aje:Bool
def gv.cs(x:gv):List DV:=[.int .i64 x.auc,.int .i64 x.akO,.sl 1 (List.map (DV.int .u8) x.uM),.bool x.aje]
def Bg(x:gv):DV:=.agg (gv.cs x)
def BF(x0:Int)(x1:List Int):Option Int :=fL x0 10 [] [8,9] [] (λs t=>(0,.int .u32 s)::t) i2 [] [] m64 (x1.length:Int) (λk1 s3=>Bi (idx x1 (k1:Int)) λv5=>fL (iw .xor .u32 s3 (IntKind.wrap .u32 v5)) 18 [] [8,9,10] [] (λs t=>(0,.int .u32 s)::t) i2 [] [] m64 8 (λk6 s8=>If ((iw .and .u32 s8 1)==1) (nX [] [] (some (iw .xor .u32 (Int.fdiv s8 (2^min (Int.toNat 1) (IntKind.bits .u32))) 2197175160)))<|nX [] [] (some (Int.fdiv s8 (2^min (Int.toNat 1) (IntKind.bits .u32))))) λs8=>nX [] [] (some s8)) λs3=>some s3
instance acT{x0 x1}:MC (BF x0 x1) λr=>br prog 99 [.int .u32 x0,.L 1 (DV.int .u8) x1] (.int .u32 r):=.p func99 ntmps99
def yN(x0:List Int)(x1:List Int):Option Int :=Bi (BF 4294967295 x0) λv2=>Bi (BF v2 x1) λv4=>some (iw .xor .u32 (if IntKind.signed .u32=true then -1 else IntKind.max .u32) v4)
instance ZK{x0 x1}:MC (yN x0 x1) λr=>br prog 48 [.L 1 (DV.int .u8) x0,.L 1 (DV.int .u8) x1] (.int .u32 r):=.p func48 ntmps48
def Gi(x0:List Int):Option (Int×Bool) :=Bi (gb (!(decide ((x0.length:Int)<8))) 0 (idx x0 0)) λv2=>Bi (gb (!((decide ((x0.length:Int)<8))||(v2 != 165))) 0 (idx x0 1)) λv4=>If (((decide ((x0.length:Int)<8))||(v2 != 165))||(v4 != 90)) (some (0,false))<|Bi (idx x0 2) λv6=>Bi (idx x0 3) λv8=>If ((decide (4000<(iw .or .i64 (IntKind.wrap .i64 v6) (IntKind.wrap .i64 ((IntKind.wrap .i64 v8)*2^min (Int.toNat 8) (IntKind.bits .i64))))))||(decide ((IntKind.wrap .i64 ((x0.length:Int)-8))<(iw .or .i64 (IntKind.wrap .i64 v6) (IntKind.wrap .i64 ((IntKind.wrap .i64 v8)*2^min (Int.toNat 8) (IntKind.bits .i64))))))) (some (0,false))<|Bi (idx x0 4) λv10=>Bi (idx x0 5) λv12=>Bi (idx x0 6) λll=>Bi (idx x0 7) λmA=>Ck (fC (x0.length) 2 4)<|Ck (fC (x0.length) 8 (IntKind.wrap .i64 (8+(iw .or .i64 (IntKind.wrap .i64 v6) (IntKind.wrap .i64 ((IntKind.wrap .i64 v8)*2^min (Int.toNat 8) (IntKind.bits .i64)))))))<|Bi (yN (slc x0 2 4) (slc x0 8 (IntKind.wrap .i64 (8+(iw .or .i64 (IntKind.wrap .i64 v6) (IntKind.wrap .i64 ((IntKind.wrap .i64 v8)*2^min (Int.toNat 8) (IntKind.bits .i64)))))))) λv20=>If ((iw .or .u32 (iw .or .u32 (iw .or .u32 (IntKind.wrap .u32 v10) (IntKind.wrap .u32 ((IntKind.wrap .u32 v12)*2^min (Int.toNat 8) (IntKind.bits .u32)))) (IntKind.wrap .u32 ((IntKind.wrap .u32 ll)*2^min (Int.toNat 16) (IntKind.bits .u32)))) (IntKind.wrap .u32 ((IntKind.wrap .u32 mA)*2^min (Int.toNat 24) (IntKind.bits .u32)))) != v20) (some (0,false))<|some ((IntKind.wrap .i64 (8+(iw .or .i64 (IntKind.wrap .i64 v6) (IntKind.wrap .i64 ((IntKind.wrap .i64 v8)*2^min (Int.toNat 8) (IntKind.bits .i64)))))),true)
instance Kf{x0}:MC (Gi x0) λr=>br prog 102 [.L 1 (DV.int .u8) x0] (.gh [.I r.1,.bool r.2]):=.p func102 ntmps102
def Gj(x0:List Int)(x1:List Int):Option ((List Int)×Int) :=If (decide (4000<(x1.length:Int))) (wk [.r 4 4004 5 1]<|rX [(5000,4004)] (some (([]:List Int),3)))<|eE 19 (bA 1 (DV.int .u8)) [(IntKind.wrap .u8 (x1.length:Int)),(IntKind.wrap .u8 (Int.fdiv (x1.length:Int) (2^min (Int.toNat 8) (IntKind.bits .i64))))] λv1=>wk [.z 19]<|Bi (yN v1 x1) λv3=>Ck (kY 1 0 (IntKind.wrap .i64 ((IntKind.wrap .i64 ((x0.length:Int)+8))+(x1.length:Int))))<|eE 29 (DV.int .u8) 0 λ_=>Ck (dK 1 (List.length ([]:List Int)+List.length x0))<|Bi (idx v1 0) λv7=>Bi (idx v1 1) λv9=>eE 39 (bA 1 (DV.int .u8)) [165,90,v7,v9] λv10=>Ck (dK 1 (List.length (([]:List Int)++x0)+List.length v10))<|eE 53 (bA 1 (DV.int .u8)) [(IntKind.wrap .u8 v3),(IntKind.wrap .u8 (Int.fdiv v3 (2^min (Int.toNat 8) (IntKind.bits .u32)))),(IntKind.wrap .u8 (Int.fdiv v3 (2^min (Int.toNat 16) (IntKind.bits .u32)))),(IntKind.wrap .u8 (Int.fdiv v3 (2^min (Int.toNat 24) (IntKind.bits .u32))))] λv12=>Ck (dK 1 (List.length ((([]:List Int)++x0)++v10)+List.length v12))<|Ck (dK 1 (List.length (((([]:List Int)++x0)++v10)++v12)+List.length x1))<|rX [(5000,57)] (some (((((([]:List Int)++x0)++v10)++v12)++x1),0))
instance acU{x0 x1}:MA (Gj x0 x1) prog 26 (λ_=>1) λr=>⟨[.L 1 (DV.int .u8) x0,.L 1 (DV.int .u8) x1],[],.gh [.row 5000,.I r.2],[(5000,some (.R 5 1 (DV.int .u8) r.1))],[5000]⟩:=.b func26 ntmps26
def DF.cs(x:Nat->VClk):List DV:=[.int .u64 (((x 0).ei) 0),.int .u64 (((x 0).ei) 1),.int .u64 (((x 0).ei) 2),.int .u64 (((x 0).ei) 3),.int .u64 (((x 0).ei) 4),.int .u64 (((x 0).ei) 5),.int .u64 (((x 0).ei) 6),.int .u64 (((x 0).ei) 7),.int .u64 (((x 0).ei) 8),.int .u64 (((x 0).ei) 9),.int .u64 (((x 0).ei) 10),.int .u64 (((x 0).ei) 11),.int .u64 (((x 0).ei) 12),.int .u64 (((x 0).ei) 13),.int .u64 (((x 0).ei) 14),.int .u64 (((x 0).ei) 15),.int .u64 (((x 1).ei) 0),.int .u64 (((x 1).ei) 1),.int .u64 (((x 1).ei) 2),.int .u64 (((x 1).ei) 3),.int .u64 (((x 1).ei) 4),.int .u64 (((x 1).ei) 5),.int .u64 (((x 1).ei) 6),.int .u64 (((x 1).ei) 7),.int .u64 (((x 1).ei) 8),.int .u64 (((x 1).ei) 9),.int .u64 (((x 1).ei) 10),.int .u64 (((x 1).ei) 11),.int .u64 (((x 1).ei) 12),.int .u64 (((x 1).ei) 13),.int .u64 (((x 1).ei) 14),.int .u64 (((x 1).ei) 15),.int .u64 (((x 2).ei) 0),.int .u64 (((x 2).ei) 1),.int .u64 (((x 2).ei) 2),.int .u64 (((x 2).ei) 3),.int .u64 (((x 2).ei) 4),.int .u64 (((x 2).ei) 5),.int .u64 (((x 2).ei) 6),.int .u64 (((x 2).ei) 7),.int .u64 (((x 2).ei) 8),.int .u64 (((x 2).ei) 9),.int .u64 (((x 2).ei) 10),.int .u64 (((x 2).ei) 11),.int .u64 (((x 2).ei) 12),.int .u64 (((x 2).ei) 13),.int .u64 (((x 2).ei) 14),.int .u64 (((x 2).ei) 15),.int .u64 (((x 3).ei) 0),.int .u64 (((x 3).ei) 1),.int .u64 (((x 3).ei) 2),.int .u64 (((x 3).ei) 3),.int .u64 (((x 3).ei) 4),.int .u64 (((x 3).ei) 5),.int .u64 (((x 3).ei) 6),.int .u64 (((x 3).ei) 7),.int .u64 (((x 3).ei) 8),.int .u64 (((x 3).ei) 9),.int .u64 (((x 3).ei) 10),.int .u64 (((x 3).ei) 11),.int .u64 (((x 3).ei) 12),.int .u64 (((x 3).ei) 13),.int .u64 (((x 3).ei) 14),.int .u64 (((x 3).ei) 15),.int .u64 (((x 4).ei) 0),.int .u64 (((x 4).ei) 1),.int .u64 (((x 4).ei) 2),.int .u64 (((x 4).ei) 3),.int .u64 (((x 4).ei) 4),.int .u64 (((x 4).ei) 5),.int .u64 (((x 4).ei) 6),.int .u64 (((x 4).ei) 7),.int .u64 (((x 4).ei) 8),.int .u64 (((x 4).ei) 9),.int .u64 (((x 4).ei) 10),.int .u64 (((x 4).ei) 11),.int .u64 (((x 4).ei) 12),.int .u64 (((x 4).ei) 13),.int .u64 (((x 4).ei) 14),.int .u64 (((x 4).ei) 15),.int .u64 (((x 5).ei) 0),.int .u64 (((x 5).ei) 1),.int .u64 (((x 5).ei) 2),.int .u64 (((x 5).ei) 3),.int .u64 (((x 5).ei) 4),.int .u64 (((x 5).ei) 5),.int .u64 (((x 5).ei) 6),.int .u64 (((x 5).ei) 7),.int .u64 (((x 5).ei) 8),.int .u64 (((x 5).ei) 9),.int .u64 (((x 5).ei) 10),.int .u64 (((x 5).ei) 11),.int .u64 (((x 5).ei) 12),.int .u64 (((x 5).ei) 13),.int .u64 (((x 5).ei) 14),.int .u64 (((x 5).ei) 15),.int .u64 (((x 6).ei) 0),.int .u64 (((x 6).ei) 1),.int .u64 (((x 6).ei) 2),.int .u64 (((x 6).ei) 3),.int .u64 (((x 6).ei) 4),.int .u64 (((x 6).ei) 5),.int .u64 (((x 6).ei) 6),.int .u64 (((x 6).ei) 7),.int .u64 (((x 6).ei) 8),.int .u64 (((x 6).ei) 9),.int .u64 (((x 6).ei) 10),.int .u64 (((x 6).ei) 11),.int .u64 (((x 6).ei) 12),.int .u64 (((x 6).ei) 13),.int .u64 (((x 6).ei) 14),.int .u64 (((x 6).ei) 15),.int .u64 (((x 7).ei) 0),.int .u64 (((x 7).ei) 1),.int .u64 (((x 7).ei) 2),.int .u64 (((x 7).ei) 3),.int .u64 (((x 7).ei) 4),.int .u64 (((x 7).ei) 5),.int .u64 (((x 7).ei) 6),.int .u64 (((x 7).ei) 7),.int .u64 (((x 7).ei) 8),.int .u64 (((x 7).ei) 9),.int .u64 (((x 7).ei) 10),.int .u64 (((x 7).ei) 11),.int .u64 (((x 7).ei) 12),.int .u64 (((x 7).ei) 13),.int .u64 (((x 7).ei) 14),.int .u64 (((x 7).ei) 15),.int .u64 (((x 8).ei) 0),.int .u64 (((x 8).ei) 1),.int .u64 (((x 8).ei) 2),.int .u64 (((x 8).ei) 3),.int .u64 (((x 8).ei) 4),.int .u64 (((x 8).ei) 5),.int .u64 (((x 8).ei) 6),.int .u64 (((x 8).ei) 7),.int .u64 (((x 8).ei) 8),.int .u64 (((x 8).ei) 9),.int .u64 (((x 8).ei) 10),.int .u64 (((x 8).ei) 11),.int .u64 (((x 8).ei) 12),.int .u64 (((x 8).ei) 13),.int .u64 (((x 8).ei) 14),.int .u64 (((x 8).ei) 15)]
structure og where
 Hm:Int
 Jd:Int
def og.cs(x:og):List DV:=[.int .i64 x.Hm,.int .i64 x.Jd]
def xO(x0:VClk)(x1:VClk):Option VClk :=fL x0 6 [] [2,3,4] [3,4] i2 (λs t=>(2,some (.bJ 48 (VClk.cs s)))::t) [] [] m64 16 (λk1 s3=>Ck (oO 16 (k1:Int))<|ea 12 (λx=>[(DV.int .u64) x]) s3.ei<|Ck (oO 16 (k1:Int))<|ea 16 (λx=>[(DV.int .u64) x]) x1.ei<|Ck (oO 16 (k1:Int))<|ea 20 (λx=>[(DV.int .u64) x]) s3.ei<|eb 20 (if (x1.ei (Int.toNat (k1:Int)))>(s3.ei (Int.toNat (k1:Int)))then(x1.ei (Int.toNat (k1:Int)))else(s3.ei (Int.toNat (k1:Int))))<|nX [] [] (some (VClk.mk (tP s3.ei (Int.toNat (k1:Int)) (if (x1.ei (Int.toNat (k1:Int)))>(s3.ei (Int.toNat (k1:Int)))then(x1.ei (Int.toNat (k1:Int)))else(s3.ei (Int.toNat (k1:Int)))))))) λs3=>some s3
instance abD{x0 x1}:MC (xO x0 x1) λr=>br prog 16 [.agg (VClk.cs x0),.agg (VClk.cs x1)] (.agg (VClk.cs r)):=.p func16 ntmps16
@[reducible] def VClk_Tick_K1(s2:VClk):Option VClk :=some s2
def VClk_Tick(x0:VClk)(x1:Int):Option VClk :=jn VClk_Tick_K1 1 [] [2,4] [4] i2 (λs t=>(2,some (.bJ 48 (VClk.cs s)))::t)<|Ck (((decide (0<=x1))&&(decide (x1<16)))=true->oO 16 x1)<|ea 14 (λx=>[(DV.int .u64) x]) x0.ei<|If (((decide (0<=x1))&&(decide (x1<16)))&&(decide ((x0.ei (Int.toNat x1))<18446744073709551615))) (Ck (oO 16 x1)<|ea 20 (λx=>[(DV.int .u64) x]) x0.ei<|Ck (oO 16 x1)<|ea 24 (λx=>[(DV.int .u64) x]) x0.ei<|eb 24 (IntKind.wrap .u64 ((x0.ei (Int.toNat x1))+1))<|nX [] [] (VClk_Tick_K1 (VClk.mk (tP x0.ei (Int.toNat x1) (IntKind.wrap .u64 ((x0.ei (Int.toNat x1))+1))))))<|nX [] [] (VClk_Tick_K1 x0)
instance VClk_Tick_c{x0 x1}:MC (VClk_Tick x0 x1) λr=>br prog 17 [.agg (VClk.cs x0),.I x1] (.agg (VClk.cs r)):=.p func17 ntmps17
@[reducible] def qD(a6:List VClk)(a7:Nat->VClk)(v10:AEv)(ll:VClk)(Lb:(List (bw×VClk))):Option ((List (bw×VClk))×(List VClk)×(Nat->VClk)) :=Ck (oO 9 v10.aN)<|ea 93 VClk.cs a7<|eb 93 ll<|eE 96 (bA 16 VClk.dv) [ll] λoi=>Ck (dK 128 (a6.length+List.length oi))<|nX [] [(1001,1005),(1002,97)] (some (Lb,(a6++oi),(tP a7 (Int.toNat v10.aN) ll)))
@[reducible] def qE(a5:List (bw×VClk))(a6:List VClk)(a7:Nat->VClk)(v10:AEv)(CL:VClk):Option ((List (bw×VClk))×(List VClk)×(Nat->VClk)) :=Bi (VClk_Tick CL v10.aN) λll=>jn (qD a6 a7 v10 ll) 19 [] [8,12,13,40,41,42] [8,12,13] (λ_ t=>(9,.row 1005)::(10,.row 1006)::t) (λs t=>(1005,some (.mp (nU jJ VClk.dv s)))::(1006,some (.R 48 16 VClk.dv a6))::t)<|If (v10.bC==8) (eE 0 bw.dv (bw.mk v10.aN v10.lW v10.gN) λ_=>eE 1 VClk.dv ll λ_=>nX [] [(1005,1003),(1006,1004)] (qD a6 a7 v10 ll (Fb jJ a5 (bw.mk v10.aN v10.lW v10.gN) ll)))<|nX [] [(1005,1003),(1006,1004)] (qD a6 a7 v10 ll a5)
def oh(x0:List AEv)(x1:Int):Option ((List VClk)×Int) :=If ((decide (x1<1))||(decide (8<x1))) (some (([]:List VClk),1))<|fO (E:=(List VClk)×Int) () 22 [] [0,1,20,21] [] i2 i2 [] [] m64 (x0.length:Int) (λk1 _=>Bi (idx x0 (k1:Int)) λxz=>If ((decide (xz.aN<0))||(decide (x1<xz.aN))) (some (.done (([]:List VClk),1)))<|nX [] [] (some (.next ()))) fun
  |.next _=>mv (nU jJ VClk.dv) []<|Ck (kY 128 0 (x0.length:Int))<|eE 39 VClk.dv (VClk.mk (arr 0 [])) λ_=>fL (([]:List (bw×VClk)),([]:List VClk),(arr (VClk.mk (arr 0 [])) [])) 42 [] [8,40,41] [] (λ_ t=>(9,.row 1001)::(10,.row 1002)::t) (λs t=>(8,some (.bJ 85 (DF.cs s.2.2)))::(1001,some (.mp (nU jJ VClk.dv s.1)))::(1002,some (.R 48 16 VClk.dv s.2.1))::t) [] [(1001,36),(1002,39)] m64 (x0.length:Int) (λk4 s8=>Bi (idx x0 (k4:Int)) λv10=>Ck (oO 9 v10.aN)<|ea 48 VClk.cs s8.2.2<|jn (qE s8.1 s8.2.1 s8.2.2 v10) 16 [] [8,12,13,40,41,42] [8,12] (λ_ t=>(9,.row 1003)::(10,.row 1004)::t) (λs t=>(13,some (.bJ 48 (VClk.cs s)))::(1003,some (.mp (nU jJ VClk.dv s8.1)))::(1004,some (.R 48 16 VClk.dv s8.2.1))::t)<|If ((v10.bC==5)||((v10.bC==7)&&(v10.gD==5))) (Bi (some (IG jJ s8.1 (bw.mk v10.lW v10.aN v10.gN) (VClk.mk (arr 0 [])))) λuQ=>Bi (xO (s8.2.2 (Int.toNat v10.aN)) uQ) λv24=>nX [] [(1003,1001),(1004,1002)] (qE s8.1 s8.2.1 s8.2.2 v10 v24))<|nX [] [(1003,1001),(1004,1002)] (qE s8.1 s8.2.1 s8.2.2 v10 (s8.2.2 (Int.toNat v10.aN)))) λs8=>wk [.z 1002]<|some (s8.2.1,0)
  |.done r=>some r
instance WV{x0 x1}:MC (oh x0 x1) λr=>br prog 6 [.L 9 AEv.dv x0,.I x1] (.gh [.L 16 VClk.dv r.1,.I r.2]):=.p func6 ntmps6
def Ce(x0:List AEv)(x1:Int)(x2:Int):Option ((List RRec)×Int) :=Bi (oh x0 x1) λv2=>If (v2.2 != 0) (some (([]:List RRec),v2.2))<|If ((decide (x2<0))||(decide (x1<x2))) (some (([]:List RRec),1))<|fO (E:=(List RRec)×Int) ([]:List RRec) 32 [] [2,8,30,31] [] (λ_ t=>(10,.row 1001)::t) (λs t=>(1001,some (.R 64 29 RRec.dv s))::t) [.r 10 1002 64 29] [(1001,1002)] m64 (x0.length:Int) (λk3 s5=>Bi (idx x0 (k3:Int)) λv7=>If (v7.aN != x2) (nX [] [] (some (.next s5)))<|Ck (dK 8 (v7.cE.length))<|Bi (idx v2.1 (k3:Int)) λv10=>wk [.z 43]<|Bi (xU (RRec.mk x2 (IntKind.wrap .u64 (s5.length:Int)) v10 1 v7 0)) λv12=>If (v12 != 0) (some (.done (([]:List RRec),6)))<|eE 60 (bA 29 RRec.dv) [(RRec.mk x2 (IntKind.wrap .u64 (s5.length:Int)) v10 1 v7 0)] λkG=>Ck (dK 248 (s5.length+List.length kG))<|nX [] [(1001,61)] (some (.next (s5++kG)))) fun
  |.next s5=>wk [.z 1001]<|some (s5,0)
  |.done r=>some r
instance WU{x0 x1 x2}:MC (Ce x0 x1 x2) λr=>br prog 23 [.L 9 AEv.dv x0,.I x1,.I x2] (.gh [.L 29 RRec.dv r.1,.I r.2]):=.p func23 ntmps23
@[reducible] def Gs(s1:Unit):Option Int :=some 0
@[reducible] def BO(x0:AEv)(s5:Bool):Option Int :=If s5 (some 3)<|If (x0.bC==10) (If (x0.lX==1) (some 1)<|some 3)<|If (x0.bC==7) (some 4)<|nX [] [] (Gs ())
@[reducible] def BP(x0:AEv)(s6:Bool):Option Int :=If s6 (some 2)<|jn (BO x0) 11 [] [1,4] [1] (λs t=>(14,.bool s)::t) i2<|If (x0.bC==8) (nX [] [] (BO x0 (x0.bC==8)))<|nX [] [] (BO x0 (x0.bC==9))
@[reducible] def tB(x0:AEv)(s7:Bool):Option Int :=If s7 (some 1)<|jn (BP x0) 8 [] [1,4] [1] (λs t=>(11,.bool s)::t) i2<|If (x0.bC==5) (nX [] [] (BP x0 (x0.bC==5)))<|nX [] [] (BP x0 (x0.bC==6))
def Nv(x0:AEv):Option Int :=jn Gs 1 [] [] [] i2 i2<|jn (tB x0) 2 [] [1,4] [1] (λs t=>(5,.bool s)::t) i2<|If (x0.bC==1) (nX [] [] (tB x0 (x0.bC==1)))<|If (x0.bC==2) (nX [] [] (tB x0 (x0.bC==2)))<|If (x0.bC==3) (nX [] [] (tB x0 (x0.bC==3)))<|If (x0.bC==4) (nX [] [] (tB x0 (x0.bC==4)))<|nX [] [] (tB x0 (x0.bC==11))
instance aju{x0}:MC (Nv x0) λr=>br prog 94 [.agg (AEv.cs x0)] (.int .u8 r):=.p func94 ntmps94
def Cf(x0:Int)(x1:Int):Option (Int×Int) :=some ((IntKind.wrap .u64 ((IntKind.wrap .u64 ((IntKind.wrap .u64 ((Int.fdiv x0 (2^min (Int.toNat 32) (IntKind.bits .u64)))*(Int.fdiv x1 (2^min (Int.toNat 32) (IntKind.bits .u64)))))+(Int.fdiv (IntKind.wrap .u64 ((IntKind.wrap .u64 ((Int.fdiv x0 (2^min (Int.toNat 32) (IntKind.bits .u64)))*(iw .and .u64 x1 4294967295)))+(Int.fdiv (IntKind.wrap .u64 ((iw .and .u64 x0 4294967295)*(iw .and .u64 x1 4294967295))) (2^min (Int.toNat 32) (IntKind.bits .u64))))) (2^min (Int.toNat 32) (IntKind.bits .u64)))))+(Int.fdiv (IntKind.wrap .u64 ((iw .and .u64 (IntKind.wrap .u64 ((IntKind.wrap .u64 ((Int.fdiv x0 (2^min (Int.toNat 32) (IntKind.bits .u64)))*(iw .and .u64 x1 4294967295)))+(Int.fdiv (IntKind.wrap .u64 ((iw .and .u64 x0 4294967295)*(iw .and .u64 x1 4294967295))) (2^min (Int.toNat 32) (IntKind.bits .u64))))) 4294967295)+(IntKind.wrap .u64 ((iw .and .u64 x0 4294967295)*(Int.fdiv x1 (2^min (Int.toNat 32) (IntKind.bits .u64))))))) (2^min (Int.toNat 32) (IntKind.bits .u64))))),(IntKind.wrap .u64 (x0*x1)))
instance Xk{x0 x1}:MC (Cf x0 x1) λr=>br prog 216 [.int .u64 x0,.int .u64 x1] (.gh [.int .u64 r.1,.int .u64 r.2]):=.p func216 ntmps216
@[reducible] def yH(x0:Int)(x1:Int)(x2:Int)(s3:Unit):Option (Int×Int) :=If (x0==0) (Ck (akT .u64 x1 x2)<|Ck ((0:Int)<=x1∧(0:Int)<x2)<|some ((x1 / x2),(x1 % x2)))<|none
@[reducible] def yI(x0:Int)(x1:Int)(x2:Int)(s4:Unit):Option (Int×Int) :=jn (yH x0 x1 x2) 3 [] [0,1,2] [] i2 i2<|If (decide (x2<=x0)) (none)<|nX [] [] (yH x0 x1 x2 ())
def Ch(x0:Int)(x1:Int)(x2:Int):Option (Int×Int) :=jn (yI x0 x1 x2) 1 [] [0,1,2] [] i2 i2<|If (x2==0) (none)<|nX [] [] (yI x0 x1 x2 ())
instance Xm{x0 x1 x2}:MC (Ch x0 x1 x2) λr=>br prog 217 [.int .u64 x0,.int .u64 x1,.int .u64 x2] (.gh [.int .u64 r.1,.int .u64 r.2]):=.p func217 ntmps217
def BN(x0:Int)(x1:Int)(x2:Int):Option Int :=Bi (Cf (IntKind.wrap .u64 x0) (IntKind.wrap .u64 x1)) λv2=>Bi (Ch v2.1 v2.2 (IntKind.wrap .u64 x2)) λv4=>some (IntKind.wrap .i64 v4.1)
instance aeP{x0 x1 x2}:MC (BN x0 x1 x2) λr=>br prog 160 [.I x0,.I x1,.I x2] (.I r):=.p func160 ntmps160
def uO(x0:List Int)(x1:Int):Option (Int×Int) :=wL (E:=(Unit)⊕(Int×Int)) (x0.length:Int) [] [0,1,6] [] (λs t=>(7,.I s)::t) i2 [] [] (λs2=>If (decide (0<s2)) (wL (E:=Int) (0,0) [] [0,1,6,7] [] (λs t=>(8,.I s.1)::(9,.I s.2)::t) i2 [] [] (λs5=>If ((decide (s5.2<s2))&&(decide (s5.1<=x1))) (Bi (BN s5.2 (x0.length:Int) s2) λv7=>Bi (idx x0 v7) λv9=>nX [] [] (some (.next ((IntKind.wrap .i64 (s5.1+v9)),(IntKind.wrap .i64 (s5.2+1))))))<|some (.done s5.1)) λe10=>If (decide (e10<=x1)) (some (.done (.inr (s2,e10))))<|nX [] [] (some (.next (IntKind.wrap .i64 (s2-1)))))<|some (.done (.inl ()))) fun
  |.inl _=>some (0,0)
  |.inr r=>some r
instance agi{x0 x1}:MC (uO x0 x1) λr=>br prog 95 [.L 1 (DV.int .i64) x0,.I x1] (.gh [.I r.1,.I r.2]):=.p func95 ntmps95
def rF(x0:Int)(x1:Int):Option (List Int) :=If ((decide (x0<1))||(decide (x1<1))) (some ([]:List Int))<|Ck (kY 8 0 (if x1<x0 then x1 else x0))<|eE 17 (DV.int .i64) 0 λ_=>fL ([]:List Int) 19 [] [0,1,18] [] (λ_ t=>(5,.row 1001)::t) (λs t=>(1001,some (.R 3 1 (DV.int .i64) s))::t) [] [(1001,17)] m64 (if x1<x0 then x1 else x0) (λk2 s4=>Bi (BN (k2:Int) x0 (if x1<x0 then x1 else x0)) λv6=>eE 27 (bA 1 (DV.int .i64)) [v6] λv7=>Ck (dK 8 (s4.length+List.length v7))<|nX [] [(1001,28)] (some (s4++v7))) λs4=>wk [.z 1001]<|some s4
instance aa7{x0 x1}:MC (rF x0 x1) λr=>br prog 96 [.I x0,.I x1] (.L 1 (DV.int .i64) r):=.p func96 ntmps96
@[reducible] def yU(rz:(List Bool)×Int):Option ((List Bool)×Int) :=some (rz.1,rz.2)
def It(x0:List RRec)(x1:Int):Option ((List Bool)×Int) :=Ck (kY 1 (x0.length:Int) (x0.length:Int))<|eE 21 DV.bool false λ_=>wk [.c 6 2000 0 3 1,.c 6 2001 1 3 1,.c 6 2002 2 3 1,.c 6 2003 3 3 1,.c 6 2004 4 3 1,.c 7 2005 0 3 1,.c 7 2006 1 3 1,.c 7 2007 2 3 1,.c 7 2008 3 3 1,.c 7 2009 4 3 1]<|fL ((List.replicate (Int.toNat (x0.length:Int)) false),0,([]:List Int),([]:List Int),([]:List Int),([]:List Int),([]:List Int),([]:List Int),([]:List Int),([]:List Int),([]:List Int),([]:List Int)) 24 [] [1,6,7,22,23] [] (λs t=>(4,.row 1001)::(5,.I s.2.1)::t) (λs t=>(6,some (.bJ 222 [.row 1002,.row 1003,.row 1004,.row 1005,.row 1006]))::(7,some (.bJ 222 [.row 1007,.row 1008,.row 1009,.row 1010,.row 1011]))::(1001,some (.R 4 1 DV.bool s.1))::(1002,some (.R 3 1 (DV.int .i64) s.2.2.1))::(1003,some (.R 3 1 (DV.int .i64) s.2.2.2.1))::(1004,some (.R 3 1 (DV.int .i64) s.2.2.2.2.1))::(1005,some (.R 3 1 (DV.int .i64) s.2.2.2.2.2.1))::(1006,some (.R 3 1 (DV.int .i64) s.2.2.2.2.2.2.1))::(1007,some (.R 3 1 (DV.int .i64) s.2.2.2.2.2.2.2.1))::(1008,some (.R 3 1 (DV.int .i64) s.2.2.2.2.2.2.2.2.1))::(1009,some (.R 3 1 (DV.int .i64) s.2.2.2.2.2.2.2.2.2.1))::(1010,some (.R 3 1 (DV.int .i64) s.2.2.2.2.2.2.2.2.2.2.1))::(1011,some (.R 3 1 (DV.int .i64) s.2.2.2.2.2.2.2.2.2.2.2))::t) [] [(1001,21),(1002,2000),(1003,2001),(1004,2002),(1005,2003),(1006,2004),(1007,2005),(1008,2006),(1009,2007),(1010,2008),(1011,2009)] m64 (x0.length:Int) (λk2 gH=>Bi (idx x0 (k2:Int)) λFE=>Bi (HW FE) λLU=>If (FE.zy != 1) (Bi (idx gH.1 (k2:Int)) λYF=>eE 36 DV.bool true λv46=>nX [] [] (some ((List.set gH.1 (Int.toNat (k2:Int)) v46),(IntKind.wrap .i64 (gH.2.1+LU)),gH.2.2.1,gH.2.2.2.1,gH.2.2.2.2.1,gH.2.2.2.2.2.1,gH.2.2.2.2.2.2.1,gH.2.2.2.2.2.2.2.1,gH.2.2.2.2.2.2.2.2.1,gH.2.2.2.2.2.2.2.2.2.1,gH.2.2.2.2.2.2.2.2.2.2.1,gH.2.2.2.2.2.2.2.2.2.2.2)))<|Bi (Nv FE.kD) λFy=>cz Fy 0 (eE 48 (bA 1 (DV.int .i64)) [(k2:Int)] λv49=>Ck (dK 8 (gH.2.2.1.length+List.length v49))<|eE 56 (bA 1 (DV.int .i64)) [LU] λv51=>Ck (dK 8 (gH.2.2.2.2.2.2.2.1.length+List.length v51))<|nX [] [(1002,49),(1007,57)] (some (gH.1,gH.2.1,(gH.2.2.1++v49),gH.2.2.2.1,gH.2.2.2.2.1,gH.2.2.2.2.2.1,gH.2.2.2.2.2.2.1,(gH.2.2.2.2.2.2.2.1++v51),gH.2.2.2.2.2.2.2.2.1,gH.2.2.2.2.2.2.2.2.2.1,gH.2.2.2.2.2.2.2.2.2.2.1,gH.2.2.2.2.2.2.2.2.2.2.2)))<|cz Fy 1 (eE 48 (bA 1 (DV.int .i64)) [(k2:Int)] λv49=>Ck (dK 8 (gH.2.2.2.1.length+List.length v49))<|eE 56 (bA 1 (DV.int .i64)) [LU] λv51=>Ck (dK 8 (gH.2.2.2.2.2.2.2.2.1.length+List.length v51))<|nX [] [(1003,49),(1008,57)] (some (gH.1,gH.2.1,gH.2.2.1,(gH.2.2.2.1++v49),gH.2.2.2.2.1,gH.2.2.2.2.2.1,gH.2.2.2.2.2.2.1,gH.2.2.2.2.2.2.2.1,(gH.2.2.2.2.2.2.2.2.1++v51),gH.2.2.2.2.2.2.2.2.2.1,gH.2.2.2.2.2.2.2.2.2.2.1,gH.2.2.2.2.2.2.2.2.2.2.2)))<|cz Fy 2 (eE 48 (bA 1 (DV.int .i64)) [(k2:Int)] λv49=>Ck (dK 8 (gH.2.2.2.2.1.length+List.length v49))<|eE 56 (bA 1 (DV.int .i64)) [LU] λv51=>Ck (dK 8 (gH.2.2.2.2.2.2.2.2.2.1.length+List.length v51))<|nX [] [(1004,49),(1009,57)] (some (gH.1,gH.2.1,gH.2.2.1,gH.2.2.2.1,(gH.2.2.2.2.1++v49),gH.2.2.2.2.2.1,gH.2.2.2.2.2.2.1,gH.2.2.2.2.2.2.2.1,gH.2.2.2.2.2.2.2.2.1,(gH.2.2.2.2.2.2.2.2.2.1++v51),gH.2.2.2.2.2.2.2.2.2.2.1,gH.2.2.2.2.2.2.2.2.2.2.2)))<|cz Fy 3 (eE 48 (bA 1 (DV.int .i64)) [(k2:Int)] λv49=>Ck (dK 8 (gH.2.2.2.2.2.1.length+List.length v49))<|eE 56 (bA 1 (DV.int .i64)) [LU] λv51=>Ck (dK 8 (gH.2.2.2.2.2.2.2.2.2.2.1.length+List.length v51))<|nX [] [(1005,49),(1010,57)] (some (gH.1,gH.2.1,gH.2.2.1,gH.2.2.2.1,gH.2.2.2.2.1,(gH.2.2.2.2.2.1++v49),gH.2.2.2.2.2.2.1,gH.2.2.2.2.2.2.2.1,gH.2.2.2.2.2.2.2.2.1,gH.2.2.2.2.2.2.2.2.2.1,(gH.2.2.2.2.2.2.2.2.2.2.1++v51),gH.2.2.2.2.2.2.2.2.2.2.2)))<|cz Fy 4 (eE 48 (bA 1 (DV.int .i64)) [(k2:Int)] λv49=>Ck (dK 8 (gH.2.2.2.2.2.2.1.length+List.length v49))<|eE 56 (bA 1 (DV.int .i64)) [LU] λv51=>Ck (dK 8 (gH.2.2.2.2.2.2.2.2.2.2.2.length+List.length v51))<|nX [] [(1006,49),(1011,57)] (some (gH.1,gH.2.1,gH.2.2.1,gH.2.2.2.1,gH.2.2.2.2.1,gH.2.2.2.2.2.1,(gH.2.2.2.2.2.2.1++v49),gH.2.2.2.2.2.2.2.1,gH.2.2.2.2.2.2.2.2.1,gH.2.2.2.2.2.2.2.2.2.1,gH.2.2.2.2.2.2.2.2.2.2.1,(gH.2.2.2.2.2.2.2.2.2.2.2++v51))))<|none) λgH=>jn yU 15 [] [] [] (λs t=>(4,.L 1 DV.bool s.1)::(5,.I s.2)::t) i2<|fO (E:=(List Bool)×Int) (gH.1,gH.2.1,(if (IntKind.wrap .i64 ((if x1>0 then x1 else 0)-gH.2.1))>0 then(IntKind.wrap .i64 ((if x1>0 then x1 else 0)-gH.2.1))else 0)) 66 [] [6,7,65] [] (λs t=>(4,.row 1012)::(5,.I s.2.1)::(12,.I s.2.2)::t) (λs t=>(6,some (.bJ 222 [.row 1013,.row 1014,.row 1015,.row 1016,.row 1017]))::(7,some (.bJ 222 [.L 1 (DV.int .i64) gH.2.2.2.2.2.2.2.1,.L 1 (DV.int .i64) gH.2.2.2.2.2.2.2.2.1,.L 1 (DV.int .i64) gH.2.2.2.2.2.2.2.2.2.1,.L 1 (DV.int .i64) gH.2.2.2.2.2.2.2.2.2.2.1,.L 1 (DV.int .i64) gH.2.2.2.2.2.2.2.2.2.2.2]))::(1012,some (.R 4 1 DV.bool s.1))::(1013,some (.R 3 1 (DV.int .i64) gH.2.2.1))::(1014,some (.R 3 1 (DV.int .i64) gH.2.2.2.1))::(1015,some (.R 3 1 (DV.int .i64) gH.2.2.2.2.1))::(1016,some (.R 3 1 (DV.int .i64) gH.2.2.2.2.2.1))::(1017,some (.R 3 1 (DV.int .i64) gH.2.2.2.2.2.2.1))::t) [.z 1007,.z 1008,.z 1009,.z 1010,.z 1011] [(1012,1001),(1013,1002),(1014,1003),(1015,1004),(1016,1005),(1017,1006)] m64 5 (λk19 Cv=>Bi (idx ([1,2,3,4,0]:List Int) (k19:Int)) λua=>eE 68 (DV.int .u8) ua λ_=>eb 68 ([1,2,3,4,0]:List Int)<|cz ua 0 (Bi (uO gH.2.2.2.2.2.2.2.1 Cv.2.2) λvV=>Bi (rF (gH.2.2.1.length:Int) vV.1) λzJ=>fL Cv.1 84 [] [5,6,7,12,14,15,16,65,66,82,83] [7] (λ_ t=>(4,.row 1023)::t) (λs t=>(6,some (.bJ 222 [.row 1024,.row 1025,.row 1026,.row 1027,.row 1028]))::(1023,some (.R 4 1 DV.bool s))::(1024,some (.R 3 1 (DV.int .i64) gH.2.2.1))::(1025,some (.R 3 1 (DV.int .i64) gH.2.2.2.1))::(1026,some (.R 3 1 (DV.int .i64) gH.2.2.2.2.1))::(1027,some (.R 3 1 (DV.int .i64) gH.2.2.2.2.2.1))::(1028,some (.R 3 1 (DV.int .i64) gH.2.2.2.2.2.2.1))::t) [] [(1023,1012),(1024,1013),(1025,1014),(1026,1015),(1027,1016),(1028,1017)] m64 (zJ.length:Int) (λk30 yX=>Bi (idx zJ (k30:Int)) λCt=>Bi (idx gH.2.2.1 Ct) λCu=>Bi (idx yX Cu) λHG=>eE 95 DV.bool true λAY=>nX [] [] (some (List.set yX (Int.toNat Cu) AY))) λyX=>If (decide (vV.1<(gH.2.2.1.length:Int))) (nX [.z 1023] [] (some (.done (yX,(IntKind.wrap .i64 (Cv.2.1+vV.2))))))<|nX [] [(1012,1023),(1013,1024),(1014,1025),(1015,1026),(1016,1027),(1017,1028)] (some (.next (yX,(IntKind.wrap .i64 (Cv.2.1+vV.2)),(IntKind.wrap .i64 (Cv.2.2-vV.2))))))<|cz ua 1 (Bi (uO gH.2.2.2.2.2.2.2.2.1 Cv.2.2) λvV=>Bi (rF (gH.2.2.2.1.length:Int) vV.1) λzJ=>fL Cv.1 84 [] [5,6,7,12,14,15,16,65,66,82,83] [7] (λ_ t=>(4,.row 1023)::t) (λs t=>(6,some (.bJ 222 [.row 1024,.row 1025,.row 1026,.row 1027,.row 1028]))::(1023,some (.R 4 1 DV.bool s))::(1024,some (.R 3 1 (DV.int .i64) gH.2.2.1))::(1025,some (.R 3 1 (DV.int .i64) gH.2.2.2.1))::(1026,some (.R 3 1 (DV.int .i64) gH.2.2.2.2.1))::(1027,some (.R 3 1 (DV.int .i64) gH.2.2.2.2.2.1))::(1028,some (.R 3 1 (DV.int .i64) gH.2.2.2.2.2.2.1))::t) [] [(1023,1012),(1024,1013),(1025,1014),(1026,1015),(1027,1016),(1028,1017)] m64 (zJ.length:Int) (λk30 yX=>Bi (idx zJ (k30:Int)) λCt=>Bi (idx gH.2.2.2.1 Ct) λCu=>Bi (idx yX Cu) λHG=>eE 95 DV.bool true λAY=>nX [] [] (some (List.set yX (Int.toNat Cu) AY))) λyX=>If (decide (vV.1<(gH.2.2.2.1.length:Int))) (nX [.z 1023] [] (some (.done (yX,(IntKind.wrap .i64 (Cv.2.1+vV.2))))))<|nX [] [(1012,1023),(1013,1024),(1014,1025),(1015,1026),(1016,1027),(1017,1028)] (some (.next (yX,(IntKind.wrap .i64 (Cv.2.1+vV.2)),(IntKind.wrap .i64 (Cv.2.2-vV.2))))))<|cz ua 2 (Bi (uO gH.2.2.2.2.2.2.2.2.2.1 Cv.2.2) λvV=>Bi (rF (gH.2.2.2.2.1.length:Int) vV.1) λzJ=>fL Cv.1 84 [] [5,6,7,12,14,15,16,65,66,82,83] [7] (λ_ t=>(4,.row 1023)::t) (λs t=>(6,some (.bJ 222 [.row 1024,.row 1025,.row 1026,.row 1027,.row 1028]))::(1023,some (.R 4 1 DV.bool s))::(1024,some (.R 3 1 (DV.int .i64) gH.2.2.1))::(1025,some (.R 3 1 (DV.int .i64) gH.2.2.2.1))::(1026,some (.R 3 1 (DV.int .i64) gH.2.2.2.2.1))::(1027,some (.R 3 1 (DV.int .i64) gH.2.2.2.2.2.1))::(1028,some (.R 3 1 (DV.int .i64) gH.2.2.2.2.2.2.1))::t) [] [(1023,1012),(1024,1013),(1025,1014),(1026,1015),(1027,1016),(1028,1017)] m64 (zJ.length:Int) (λk30 yX=>Bi (idx zJ (k30:Int)) λCt=>Bi (idx gH.2.2.2.2.1 Ct) λCu=>Bi (idx yX Cu) λHG=>eE 95 DV.bool true λAY=>nX [] [] (some (List.set yX (Int.toNat Cu) AY))) λyX=>If (decide (vV.1<(gH.2.2.2.2.1.length:Int))) (nX [.z 1023] [] (some (.done (yX,(IntKind.wrap .i64 (Cv.2.1+vV.2))))))<|nX [] [(1012,1023),(1013,1024),(1014,1025),(1015,1026),(1016,1027),(1017,1028)] (some (.next (yX,(IntKind.wrap .i64 (Cv.2.1+vV.2)),(IntKind.wrap .i64 (Cv.2.2-vV.2))))))<|cz ua 3 (Bi (uO gH.2.2.2.2.2.2.2.2.2.2.1 Cv.2.2) λvV=>Bi (rF (gH.2.2.2.2.2.1.length:Int) vV.1) λzJ=>fL Cv.1 84 [] [5,6,7,12,14,15,16,65,66,82,83] [7] (λ_ t=>(4,.row 1023)::t) (λs t=>(6,some (.bJ 222 [.row 1024,.row 1025,.row 1026,.row 1027,.row 1028]))::(1023,some (.R 4 1 DV.bool s))::(1024,some (.R 3 1 (DV.int .i64) gH.2.2.1))::(1025,some (.R 3 1 (DV.int .i64) gH.2.2.2.1))::(1026,some (.R 3 1 (DV.int .i64) gH.2.2.2.2.1))::(1027,some (.R 3 1 (DV.int .i64) gH.2.2.2.2.2.1))::(1028,some (.R 3 1 (DV.int .i64) gH.2.2.2.2.2.2.1))::t) [] [(1023,1012),(1024,1013),(1025,1014),(1026,1015),(1027,1016),(1028,1017)] m64 (zJ.length:Int) (λk30 yX=>Bi (idx zJ (k30:Int)) λCt=>Bi (idx gH.2.2.2.2.2.1 Ct) λCu=>Bi (idx yX Cu) λHG=>eE 95 DV.bool true λAY=>nX [] [] (some (List.set yX (Int.toNat Cu) AY))) λyX=>If (decide (vV.1<(gH.2.2.2.2.2.1.length:Int))) (nX [.z 1023] [] (some (.done (yX,(IntKind.wrap .i64 (Cv.2.1+vV.2))))))<|nX [] [(1012,1023),(1013,1024),(1014,1025),(1015,1026),(1016,1027),(1017,1028)] (some (.next (yX,(IntKind.wrap .i64 (Cv.2.1+vV.2)),(IntKind.wrap .i64 (Cv.2.2-vV.2))))))<|cz ua 4 (Bi (uO gH.2.2.2.2.2.2.2.2.2.2.2 Cv.2.2) λvV=>Bi (rF (gH.2.2.2.2.2.2.1.length:Int) vV.1) λzJ=>fL Cv.1 84 [] [5,6,7,12,14,15,16,65,66,82,83] [7] (λ_ t=>(4,.row 1023)::t) (λs t=>(6,some (.bJ 222 [.row 1024,.row 1025,.row 1026,.row 1027,.row 1028]))::(1023,some (.R 4 1 DV.bool s))::(1024,some (.R 3 1 (DV.int .i64) gH.2.2.1))::(1025,some (.R 3 1 (DV.int .i64) gH.2.2.2.1))::(1026,some (.R 3 1 (DV.int .i64) gH.2.2.2.2.1))::(1027,some (.R 3 1 (DV.int .i64) gH.2.2.2.2.2.1))::(1028,some (.R 3 1 (DV.int .i64) gH.2.2.2.2.2.2.1))::t) [] [(1023,1012),(1024,1013),(1025,1014),(1026,1015),(1027,1016),(1028,1017)] m64 (zJ.length:Int) (λk30 yX=>Bi (idx zJ (k30:Int)) λCt=>Bi (idx gH.2.2.2.2.2.2.1 Ct) λCu=>Bi (idx yX Cu) λHG=>eE 95 DV.bool true λAY=>nX [] [] (some (List.set yX (Int.toNat Cu) AY))) λyX=>If (decide (vV.1<(gH.2.2.2.2.2.2.1.length:Int))) (nX [.z 1023] [] (some (.done (yX,(IntKind.wrap .i64 (Cv.2.1+vV.2))))))<|nX [] [(1012,1023),(1013,1024),(1014,1025),(1015,1026),(1016,1027),(1017,1028)] (some (.next (yX,(IntKind.wrap .i64 (Cv.2.1+vV.2)),(IntKind.wrap .i64 (Cv.2.2-vV.2))))))<|none) fun
  |.next Cv=>nX [.z 1012] [] (yU (Cv.1,Cv.2.1))
  |.done e=>yU e
instance agj{x0 x1}:MC (It x0 x1) λr=>br prog 44 [.L 29 RRec.dv x0,.I x1] (.gh [.L 1 DV.bool r.1,.I r.2]):=.p func44 ntmps44
def Ex(x0:List RRec)(x1:Int):Option (List RRec) :=Bi (It x0 x1) λv2=>fL ([]:List RRec) 18 [] [5,16,17] [] (λ_ t=>(7,.row 1001)::t) (λs t=>(1001,some (.R 64 29 RRec.dv s))::t) [.r 7 1002 64 29] [(1001,1002)] m64 (x0.length:Int) (λk3 s5=>Bi (idx x0 (k3:Int)) λv7=>Bi (idx v2.1 (k3:Int)) λv9=>If v9 (eE 38 (bA 29 RRec.dv) [v7] λv10=>Ck (dK 248 (s5.length+List.length v10))<|nX [] [(1001,39)] (some (s5++v10)))<|Bi (gb (decide (0<(k3:Int))) false (idx v2.1 (IntKind.wrap .i64 ((k3:Int)-1)))) λkG=>If ((decide (0<(k3:Int)))&&(!kG)) (Bi (idx s5 (IntKind.wrap .i64 ((s5.length:Int)-1))) λlL=>eE 60 RRec.dv ({ lL with yM:=(IntKind.wrap .u64 (lL.yM+1)) }:RRec) λmA=>nX [] [] (some (List.set s5 (Int.toNat (IntKind.wrap .i64 ((s5.length:Int)-1))) mA)))<|eE 29 (bA 29 RRec.dv) [(RRec.mk v7.aN v7.acR (VClk.mk (arr 0 [])) 2 (AEv.mk 0 0 0 0 0 0 0 0 []) 1)] λoi=>Ck (dK 248 (s5.length+List.length oi))<|nX [] [(1001,30)] (some (s5++oi))) λs5=>wk [.z 1001]<|some s5
instance aaV{x0 x1}:MC (Ex x0 x1) λr=>br prog 24 [.L 29 RRec.dv x0,.I x1] (.L 29 RRec.dv r):=.p func24 ntmps24
@[reducible] def zm(x2:Int)(v2:(List RRec)×Int)(a3:List RRec)(s16:Unit):Option ((List Int)×Int) :=Ck ((a3.length:Int)=(a3.length:Int)∧(a3.length:Int)=(a3.length:Int))<|eE 66 (bA 29 RRec.dv) [(RRec.mk x2 (IntKind.wrap .u64 (v2.1.length:Int)) (VClk.mk (arr 0 [])) 3 (AEv.mk 0 0 0 0 0 0 0 0 []) 0)] λv5=>Ck (0<List.length v5∧dK 248 (a3.length+List.length v5))<|fO (E:=(List Int)×Int) ([]:List Int) 69 [] [68] [] (λs t=>(13,.L 1 (DV.int .u8) s)::(67,.L 29 RRec.dv (a3++v5))::t) i2 [.z 67] [] m64 (List.length (a3++v5):Int) (λk7 s9=>Bi (idx (a3++v5) (k7:Int)) λv11=>Bi (RRec_Bytes v11) λkG=>Bi (cl 77 [(5000,1001)] (Gj s9 kG)) λlL=>If (lL.2 != 0) (some (.done (([]:List Int),lL.2)))<|nX [.z 1001] [] (some (.next lL.1))) fun
  |.next s9=>some (s9,0)
  |.done r=>some r
@[reducible] def vn(x2:Int)(x3:og)(v2:(List RRec)×Int)(CK:(List RRec)):Option ((List Int)×Int) :=jn (zm x2 v2 CK) 9 [] [10,12] [12] i2 i2<|If (decide (0<x3.Hm)) (none)<|nX [] [] (zm x2 v2 CK ())
def Dg(x0:List AEv)(x1:Int)(x2:Int)(x3:og):Option ((List Int)×Int) :=Bi (Ce x0 x1 x2) λv2=>If (v2.2 != 0) (some (([]:List Int),v2.2))<|If ((decide (x3.Hm<0))||(decide (x3.Jd<0))) (some (([]:List Int),1))<|jn (vn x2 x3 v2) 7 [] [7,12] [7,12] (λs t=>(10,.L 29 RRec.dv s)::t) i2<|If (decide (0<x3.Jd)) (Bi (Ex v2.1 x3.Jd) λxa=>nX [] [] (vn x2 x3 v2 xa))<|nX [] [] (vn x2 x3 v2 v2.1)
instance Zh{x0 x1 x2 x3}:MC (Dg x0 x1 x2 x3) λr=>br prog 11 [.L 9 AEv.dv x0,.I x1,.I x2,.agg (og.cs x3)] (.gh [.L 1 (DV.int .u8) r.1,.I r.2]):=.p func11 ntmps11
def rY(x0:Int)(x1:Int):Option ByteArray :=If (x1==10) (If (decide (x0<100)) (Bi (mS (IntKind.wrap .i64 x0)) λv2=>some v2)<|none)<|none
instance Ig{x0 x1}:MC (rY x0 x1) λr=>br prog 39 [.int .u64 x0,.I x1] (.str r):=.p func39 ntmps39
def yu(x0:Int)(x1:Int):Option ByteArray :=Bi (rY x0 x1) λv2=>some v2
instance Rb{x0 x1}:MC (yu x0 x1) λr=>br prog 21 [.int .u64 x0,.I x1] (.str r):=.p func21 ntmps21
def VClk_Text(x0:VClk):Option ByteArray :=Bi (VClk_length x0) λv2=>fL ([]:List ByteArray) 7 [] [1,6] [1] (λ_ t=>(3,.row 1001)::t) (λs t=>(1001,some (.R 9 1 DV.str s))::t) [.r 3 1002 9 1] [(1001,1002)] m64 v2 (λk3 s5=>Ck (oO 16 (k3:Int))<|ea 13 (λx=>[(DV.int .u64) x]) x0.ei<|Bi (yu (x0.ei (Int.toNat (k3:Int))) 10) λv12=>eE 16 (bA 1 DV.str) [v12] λkG=>Ck (dK 16 (s5.length+List.length kG))<|nX [] [(1001,17)] (some (s5++kG))) λs5=>wk [.z 1001]<|Bi (Bo s5 ⟨#[44]⟩) λv7=>Ck ((ByteArray.mk #[91]).size+v7.size<=9223372036854775807)<|Ck ((⟨#[91]⟩++v7).size+(ByteArray.mk #[93]).size<=9223372036854775807)<|some ((⟨#[91]⟩++v7)++⟨#[93]⟩)
instance VClk_Text_c{x0}:MC (VClk_Text x0) λr=>br prog 10 [.agg (VClk.cs x0)] (.str r):=.p func10 ntmps10
end Go.Proofs.YtaafmkmdfcgeaaaGreatDoor
namespace Go.Proofs.YtaafmkmdfcgeaaaGreatDoor
open Go.Proofs.Tryz
theorem afh(a b:VC):Wp (xO a b) λr=>r=BC a b:=by
 unfold xO;refine cC (λk s=>s=⟨λi=>if i<k then(if b.ei i>a.ei i then b.ei i else a.ei i)else a.ei i⟩) aV (by cases a;simp) ?_ (λs h=>aj h);rintro j s hj rfl;have xW:oO 16 (j:Int):=⟨ah,ah⟩;refine aK xW (fH (aK xW (fH (aK xW (fH (nY (ay (aj ?_))))))))
 congr 1
 funext i
 simp only[tP,Int.toNat_natCast]
 by_cases e:i=j
 .subst e;simp
 .by_cases e2:i<j
  .simp[e,e2,show i<j+1 by omega]
  .simp[e,e2,show ¬i<j+1 by omega]
theorem ae4(a:VC)(c:Int)(h0:0<=c)(h1:c<16)(h2:0<=a.ei c.toNat)(h3:a.ei c.toNat<18446744073709551615):Wp (VClk_Tick a c) λr=>r=abK a c:=by
 unfold VClk_Tick;have xW:oO 16 c:=⟨h0,ah⟩;refine cX (aK (λ_=>xW) (fH (aq (λ_=>aK xW (fH (aK xW (fH (nY (ay (aj ?_))))))) (λh=>by simp[h0,h1,h3]at h))));rw[wrap_u64 ah ah]
 rfl
structure alk(l:List AEv)(cs:List VC):Prop where
 len:cs.length=l.length
 at':∀j e,l[j]? = some e->cs[j]? = some (xh l cs j e)
 bnd:∀c∈cs,∀i,0<=c.ei i∧c.ei i<=l.length
theorem aay{l:List AEv}{n:Int}(hl:l.length<=100000000000)(h1:1<=n)(h2:n<=8)(hc:∀e∈l,0<=e.aN∧e.aN<=n):Wp (oh l n) λr=>∃cs,r=(cs,0)∧alk l cs:=by
 unfold oh;refine aq (λh=>EE) (λ_=>?_);refine eS (λ_ _=>True) (gq ah) trivial ?_ (λ_ _=>Um (aK qm (aX ?_)))
 .intro j _ hj _
  refine bO ah (λe _ em=>aq (λh=>?_) (λ_=>ay (aj trivial)));have:=hc e em;simp at h;omega
 refine cC (λk s=>afc l k s) (gq ah) ⟨rfl,λc _=>rfl,λq=>rfl,λj e hj=>absurd hj (Nat.not_lt_zero _),λc hc=>absurd hc aR⟩ ?_ (λs h=>cV (aj ⟨_,rfl,?_⟩))
 .rintro k ⟨M,cs,last⟩ hk I
  dsimp only;refine bO ah (λe he em=>?_);obtain⟨h0,hn⟩:=hc e em;have xW:oO 9 e.aN:=⟨h0,ah⟩;have hm:=ajc I;have hlen:cs.length=k:=I.len;have ajX:last e.aN.toNat=ya cs (vS l k):=by rw[ak0 he h0];exact I.last _ ah
  have S:=ab0 he h0 ah I
  have K2:∀M',Wp (qD cs last e (xh l cs k e) M') λr=>r=(M',cs++[xh l cs k e],tP last e.aN.toNat (xh l cs k e)):=λM'=>
   aK xW (fH (nY (aX (aK (apB SA aV) (ay (aj rfl))))))
  have K1:∀c:VC,c=BC (ya cs (vS l k)) (ya cs (xc l k))->Wp (qE M cs last e c) (afc l (k+1)):=by
   rintro c rfl;refine av (ae4 _ e.aN h0 ah (hm _).1 (by have:=(hm e.aN.toNat).2;omega)) ?_;rintro _ rfl;refine cX (aq (λh8=>aX (aX (ay ?_))) (λh8=>ay ?_))
   .refine(K2 _).imp ?_
    rintro _ rfl;rw[if_pos h8]at S;exact S
   .refine(K2 _).imp ?_
    rintro _ rfl;rw[if_neg (by rw[h8];simp)]at S;exact S
  refine aK xW (fH (cX (aq (λha=>?_) (λha=>ay (K1 _ ?_)))))
  .refine av (aj rfl) ?_
   rintro _ rfl;refine av (afh _ _) ?_;rintro _ rfl;refine ay (K1 _ ?_);rw[ajX,agX he ha,<-I.atW]
   rfl
  .rw[ajX,akd he ha]
   exact(acC (λi=>(Gl I.bnd (vS l k) i).1)).symm
 .rw[Int.toNat_natCast]at h
  exact⟨h.len,λj e he=>h.at' j e (List.getElem?_eq_some_iff.1 he).1 he,h.bnd⟩
open Go.RowKit
structure Grw(F:dj)(w:World)(F':dj)(w':World):Prop where
 stp:uF w w' none
 fle:lJ F F'
 new:∀b cs,F' b=some cs->F b=some cs∨w.heap.size<=b
 sat:∀b cs,F' b=some cs->∃t fz,w'.heap[b]? = some (.cells cs t fz)
structure JOk(J:Nat->dj->World->Prop):Prop where
 grw:∀k F w F' w',J k F w->Grw F w F' w'->J k F' w'
 sat:∀k F w,J k F w->∀b cs,F b=some cs->∃t fz,w.heap[b]? = some (.cells cs t fz)
 kn:∀k F w,J k F w->Tbs F
def aij(P:Program)(l:Nat)(J:Nat->dj->World->Prop)(ds:List DV):Prop :=∀k d v F w,ds[k]? = some d->J k F w->Rs F eD.no d v->YieldAt (FW none) 0 P l #[v] w (λe w'=>∃F',e = .returned (.bool true)∧lJ F F'∧J (k+1) F' w')
def Iter(P:Program)(f:FuncId)(DN ds:List DV):Prop :=∀(l:Nat) (J:Nat->dj->World->Prop) (F:dj) (w:World) (vs:List Value),JOk J->aij P l J ds->J 0 F w->tQ F eD.no DN vs ->CallsIn (FW none) 0 P f (#[.func (.yield l) #[] #[]]++vs.toArray) w (λe w'=>∃v F',e = .returned v∧lJ F F'∧J ds.length F' w')
def bare(w:World)(F:dj)(n:Nat):Ctx:=⟨w,λ_=>False,F,n,eD.no,none,[]⟩
theorem Sat.grw{w0 w:World}{F0 F:dj}{n:Nat}{γ:eD}{σ:AS}{a:Act}(h:Sat (bare w0 F0 n) F γ σ a w):Grw F0 w0 F w where
 stp:=⟨h.ws.os,h.ws.tape,h.ws.output,h.ws.size,λk hk _=>h.ws.qh k hk (λh=>h)⟩
 fle:=h.ws.f0
 new:=λb cs hb=>by
  rcases h.ws.rj b cs hb with h|h|h
  .exact .inl h
  .exact h.elim
  .exact .inr h
 sat:=h.ws.fs
theorem WS.bare{w:World}{F:dj}(n:Nat)(h:∀b cs,F b=some cs->∃t fz,w.heap[b]? = some (.cells cs t fz))(hk:Tbs F):WS (bare w F n) F eD.no [] [] w where
 si:=λid e h=>yS
 own:=λid e g b h=>yS
 apart:=λid uS e e' g g' b h=>yS
 fs:=h
 f0:=lJ.refl _
 rj:=λb cs h=>.inl h
 os:=rfl
 tape:=rfl
 output:=rfl
 size:=Nat.le_refl _
 qh:=λ_ _ _=>rfl
 us:=λid g h=>dI
 gone:=HD.no
 g0:=nW.refl _
 gk:=λid g h=>dI
 kn:=hk
def Ag(P:Program)(J:Nat->dj->World->Prop)(n:Nat)(c:Code)(Q:Exit->Nat->AS->Prop)(k:Nat)(σ:AS):Prop :=∀(w0:World) (F0 F:dj) (γ:eD) (a:Act) (w:World),J k F0 w0->Sat (bare w0 F0 n) F γ σ a w ->c.wpIn (FW none) 0 P (λe a' w'=>∃w0' F0' F' γ' k' σ',J k' F0' w0'∧lJ F0 F0'∧Sat (bare w0' F0' n) F' γ' σ' a' w'∧Q e k' σ') a w
section
variable {P:Program} {J:Nat->dj->World->Prop} {n:Nat} {Q:Exit->Nat->AS->Prop} {σ:AS} {k:Nat}
theorem Gd{c:Code}(h:gL P n c (λe σ'=>Q e k σ') σ):Ag P J n c Q k σ:=λw0 F0 F γ a w hJ hs=>
 wpIn_mono (h (bare w0 F0 n) F γ a w rfl hs) λe a' w' ⟨F',γ',σ',h1,h2⟩=>⟨w0,F0,F',γ',k,σ',hJ,lJ.refl _,h1,h2⟩
theorem an1{c:Code}{σ':AS}(hi:jP σ σ')(h:Ag P J n c Q k σ'):Ag P J n c Q k σ:=λw0 F0 F γ a w hJ hs=>by
 obtain⟨F1,γ1,h1⟩:=hi _ F γ a w hs;exact h w0 F0 F1 γ1 a w hJ h1
def aon(P:Program)(J:Nat->dj->World->Prop)(n:Nat)(y:Code)(Q:Exit->Nat->AS->Prop):Exit->Nat->AS->Prop
 |.normal,k,σ=>Ag P J n y Q k σ
 |e,k,σ=>Q e k σ
theorem Cj{x y:Code}(h:Ag P J n x (aon P J n y Q) k σ):Ag P J n (.seq x y) Q k σ:=λw0 F0 F γ a w hJ hs=>
 wpIn_seq (wpIn_mono (h w0 F0 F γ a w hJ hs) λe a' w' ⟨w1,F1,F',γ',k',σ',j1,j2,h1,h2⟩=>by
  cases e with
  |normal=>
   refine wpIn_mono (h2 w1 F1 F' γ' a' w' j1 h1) λe a2 w2 ⟨w3,F3,F4,γ4,k4,σ4,q1,q2,q3,q4⟩=>⟨w3,F3,F4,γ4,k4,σ4,q1,j2.trans q2,q3,q4⟩
  |exit id=>exact⟨w1,F1,F',γ',k',σ',j1,j2,h1,h2⟩
  |goto l=>exact⟨w1,F1,F',γ',k',σ',j1,j2,h1,h2⟩
  |ret=>exact⟨w1,F1,F',γ',k',σ',j1,j2,h1,h2⟩
  |panic c=>exact⟨w1,F1,F',γ',k',σ',j1,j2,h1,h2⟩
  |outgrown=>exact⟨w1,F1,F',γ',k',σ',j1,j2,h1,h2⟩)
theorem Pa{c:Operand}{x y:Code}(b:Bool)(hc:ev σ.env c=some (.bool b))(ht:b=true->Ag P J n x Q k σ)(hf:b=false->Ag P J n y Q k σ):Ag P J n (.cond c x y) Q k σ:=λw0 F0 F γ a w hJ hs=>by
 have:=hs.ev hc;simp only[Rs]at this;exact wpIn_cond_split this (λe=>ht e w0 F0 F γ a w hJ hs) (λe=>hf e w0 F0 F γ a w hJ hs)
def aop(id:Nat)(Q:Exit->Nat->AS->Prop):Exit->Nat->AS->Prop
 |.exit uS,k,σ=>bif Nat.beq uS id then Q .normal k σ else Q (.exit uS) k σ
 |e,k,σ=>Q e k σ
theorem Xr{id:Nat}{c:Code}(h:Ag P J n c (aop id Q) k σ):Ag P J n (.block id c) Q k σ:=λw0 F0 F γ a w hJ hs=>
 wpIn_block (wpIn_mono (h w0 F0 F γ a w hJ hs) λe a' w' ⟨w1,F1,F',γ',k',σ',j1,j2,h1,h2⟩=>by
  cases e with
  |exit uS=>
   simp only[aop]at h2;simp only[Exit.inBlock]
   by_cases hid:uS=id
   .subst hid;simp at h2;rw[if_pos rfl];exact⟨w1,F1,F',γ',k',σ',j1,j2,h1,h2⟩
   .have:Nat.beq uS id=false:=by rw[Bool.eq_false_iff];intro e;exact hid (Nat.eq_of_beq_eq_true e)
    rw[this]at h2;rw[if_neg hid];exact⟨w1,F1,F',γ',k',σ',j1,j2,h1,h2⟩
  |normal=>exact⟨w1,F1,F',γ',k',σ',j1,j2,h1,h2⟩
  |goto l=>exact⟨w1,F1,F',γ',k',σ',j1,j2,h1,h2⟩
  |ret=>exact⟨w1,F1,F',γ',k',σ',j1,j2,h1,h2⟩
  |panic c=>exact⟨w1,F1,F',γ',k',σ',j1,j2,h1,h2⟩
  |outgrown=>exact⟨w1,F1,F',γ',k',σ',j1,j2,h1,h2⟩)
def aoo{α:Type}(S:α->AS)(I:Nat->α->Prop)(μ:α->Nat)(x:α)(Q:Exit->Nat->AS->Prop):Exit->Nat->AS->Prop
 |.normal,k,σ=>∃x',I k x'∧μ x'<μ x∧jP σ (S x')
 |e,k,σ=>Q e k σ
theorem akJ{c:Code}{α:Type}(S:α->AS)(I:Nat->α->Prop)(μ:α->Nat)(x0:α)(h0:jP σ (S x0))(hI:I k x0)(round:∀k x,I k x->Ag P J n c (aoo S I μ x Q) k (S x)):Ag P J n (.loop c) Q k σ:=λw0 F0 F γ a w hJ hs=>by
 obtain⟨F1,γ1,h1⟩:=h0 _ F γ a w hs;refine wpIn_loop_ghost (λm a w=>∃x k w1 F1 F γ,I k x∧μ x=m∧J k F1 w1∧lJ F0 F1∧Sat (bare w1 F1 n) F γ (S x) a w) (μ x0) ⟨x0,k,w0,F0,F1,γ1,hI,rfl,hJ,lJ.refl _,h1⟩ ?_;rintro m a w ⟨x,k,w1,F1,F,γ,hx,rfl,hJ,hF,hs⟩;refine wpIn_mono (round k x hx w1 F1 F γ a w hJ hs) λe a' w' ⟨w2,F2,F',γ',k',σ',j1,j2,h1,h2⟩=>?_
 cases e with
 |normal=>
  obtain⟨x',i1,i2,i3⟩:=h2;obtain⟨F3,γ3,h3⟩:=i3 _ F' γ' a' w' h1;exact⟨μ x',i2,x',k',w2,F2,F3,γ3,i1,rfl,j1,hF.trans j2,h3⟩
 |exit id=>exact⟨w2,F2,F',γ',k',σ',j1,hF.trans j2,h1,h2⟩
 |goto l=>exact⟨w2,F2,F',γ',k',σ',j1,hF.trans j2,h1,h2⟩
 |ret=>exact⟨w2,F2,F',γ',k',σ',j1,hF.trans j2,h1,h2⟩
 |panic c=>exact⟨w2,F2,F',γ',k',σ',j1,hF.trans j2,h1,h2⟩
 |outgrown=>exact⟨w2,F2,F',γ',k',σ',j1,hF.trans j2,h1,h2⟩
end
def OpJ(P:Program)(J:Nat->dj->World->Prop)(n:Nat)(ops:Array Oper)(o:Oper)(k:Nat)(σ:AS)(k':Nat)(σ':AS):Prop :=∀(w0:World) (F0 F:dj) (γ:eD) (a:Act) (w:World),J k F0 w0->Sat (bare w0 F0 n) F γ σ a w->(∀d,o.dst=some d->d<n) ->∀(K:Act->World->Prop) (Q:Exit->Act->World->Prop),(∀w1 F1 F' γ' a' w',J k' F1 w1->lJ F0 F1->Sat (bare w1 F1 n) F' γ' σ' a' w'->K a' w') ->if Region.wanted o (yielded ops a.tmps)then o.wpIn (FW none) 0 P a w K Q else K (a.put o.dst undef) w
inductive Ft(P:Program)(J:Nat->dj->World->Prop)(n:Nat)(ops:Array Oper):List Oper->Nat->AS->Nat->AS->Prop
 |nil (k:Nat) (σ:AS):Ft P J n ops [] k σ k σ
 |cons {o:Oper} {rest:List Oper} {k:Nat} {σ:AS} {k1:Nat} {σ1:AS} {k2:Nat} {σ2:AS} (h:OpJ P J n ops o k σ k1 σ1) (t:Ft P J n ops rest k1 σ1 k2 σ2):Ft P J n ops (o::rest) k σ k2 σ2
section
variable {P:Program} {J:Nat->dj->World->Prop} {n:Nat} {Q:Exit->Nat->AS->Prop} {σ:AS} {k:Nat} {ops:Array Oper}
theorem dH.Mc{o:Oper}{rt rh:List Nat}{E:An}(h:dH P ops o rt rh σ E)(hn:kX σ.used [E.new]=true):OpJ P J n ops o k σ k (σ.app E):=λw0 F0 F γ a w hJ hs hd K Q hK=>
 h (bare w0 F0 n) F γ σ a w (λ_ _=>rfl) (λ_ _=>rfl) (λid hi=>(zt _ _ hn).1 E.new aR id hi) hd hs K Q (λF' γ' a' w' _ jI=>hK w0 F0 F' γ' a' w' hJ (lJ.refl _) jI)
theorem Ft.seq{Q:Exit->Act->World->Prop}:∀(l:List Oper) (i:Nat) (k:Nat) (σ:AS) (k':Nat) (σ':AS),Ft P J n ops l k σ k' σ'->(∀j o,l[j]? = some o->ops[i+j]? = some o) ->
  (∀o∈l,∀d,o.dst=some d->d<n)->∀(w0:World) (F0 F:dj) (γ:eD) (a:Act) (w:World),J k F0 w0->Sat (bare w0 F0 n) F γ σ a w ->
   (∀w1 F1 F' γ' a' w',J k' F1 w1->lJ F0 F1->Sat (bare w1 F1 n) F' γ' σ' a' w'->Q .normal a' w')->wpOpsIn (FW none) 0 P ops Q ((List.range l.length).map (i + ·)) a w:=by
 intro l
 induction l with
 |nil=>
  intro i k σ k' σ' ht _ _ w0 F0 F γ a w hJ hs hq;cases ht;exact hq w0 F0 F γ a w hJ (lJ.refl _) hs
 |cons o rest ih=>
  intro i k σ k' σ' ht hops hn w0 F0 F γ a w hJ hs hq;cases ht with
  |cons h t=>
   rename_i k1 σ1
   have e:(List.range (o::rest).length).map (i + ·)=i::(List.range rest.length).map (i+1 + ·):=by
    rw[List.length_cons,List.range_succ_eq_map,List.map_cons,List.map_map]
    congr 1
    apply List.map_congr_left;intro x _;simp only[Function.comp];omega
   rw[e,wpOpsIn_cons];unfold wpOpIn;have ho:ops[i]? = some o:=by simpa using hops 0 o rfl
   rw[ho];have key:=h w0 F0 F γ a w hJ hs (λd hd=>hn o (List.mem_cons_self ..) d hd) (wpOpsIn (FW none) 0 P ops Q ((List.range rest.length).map (i+1 + ·))) Q (λw1 F1 F' γ' a' w' j1 j2 jI=>?_)
   .simp only
    split
    .rename_i hw;rw[if_pos hw]at key;exact key
    .rename_i hw;rw[if_neg hw]at key;exact⟨λ_ _=>trivial,key⟩
   .refine ih (i+1) k1 σ1 k' σ' t (λj o' hj=>?_) (λo' Jk=>hn o' (List.mem_cons_of_mem _ Jk)) w1 F1 F' γ' a' w' j1 jI (λw2 F2 F3 γ3 a3 w3 q1 q2 q3=>hq w2 F2 F3 γ3 a3 w3 q1 (j2.trans q2) q3)
    have:=hops (j+1) o' Pz;rw[<-this];congr 1;omega
theorem JZ{id:Nat}{k':Nat}{σ':AS}(ht:Ft P J n ops ops.toList k σ k' σ')(hd:qk n ops=true)(hq:Q .normal k' σ'):Ag P J n (.region id ops false) Q k σ:=λw0 F0 F γ a w hJ hs=>by
 refine wpIn_region ?_;have:=Ft.seq (Q:=λe a' w'=>∃w0' F0' F' γ' k' σ',J k' F0' w0'∧lJ F0 F0'∧Sat (bare w0' F0' n) F' γ' σ' a' w'∧Q e k' σ') ops.toList 0 k σ k' σ' ht (λj o hj=>Pz) (λo ho d hd'=>?_) w0 F0 F γ a w hJ hs (λw1 F1 F' γ' a' w' j1 j2 h=>⟨w1,F1,F',γ',k',σ',j1,j2,h,hq⟩)
 .simpa using this
 .simp only[qk,List.all_eq_true]at hd
  have:=hd o ho;rw[hd']at this;exact Nat.blt_eq ▸ this
theorem Sat.ajv{w0 w w':World}{F0 F F':dj}{γ:eD}{σ:AS}{a:Act}(hs:Sat (bare w0 F0 n) F γ σ a w)(hF:lJ F F')(hJ:∀b cs,F' b=some cs->∃t fz,w'.heap[b]? = some (.cells cs t fz)){ye:List (Nat×DV)}(hE:∀t d,look ye t=some d->look σ.env t=some d∧d.ids = []) :
  Sat (bare w' F' n) F' eD.no ⟨ye,[],[]⟩ a w' where
 env:=λt d ht=>by
  obtain⟨h1,h2⟩:=hE t d ht;have:=hs.env t d h1;exact⟨this.1,wK d _ (by rw[h2];intro i hi;cases hi) (this.2.mono hF (nW.refl _))⟩
 ws:=WS.bare n hJ ((hs.ws.kn.mono hs.ws.f0).mono hF)
 size:=hs.size
 defers:=hs.defers
theorem Xb{o:Oper}{x y:Operand}{ats:Array TypeId}{t l:Nat}{ds:List DV}{d dx dy r:DV}(ho:o.op = .call ⟨.value x,#[y],ats⟩)(hd:o.dst=some t)
  (hw:∀w0 F0 F γ a w,Sat (bare w0 F0 n) F γ σ a w->Region.wanted o (yielded ops a.tmps)=true) (ex:ev σ.env x=some dx) (hx:∀F γ v,Rs F γ dx v->v = .func (.yield l) #[] #[])
  (ey:ev σ.env y=some dy) (hy:∀F γ v,Rs F γ dy v->Rs F eD.no d v) (JO:JOk J) (Y:aij P l J ds) (hk:ds[k]? = some d)
  (ye:List (Nat×DV)) (hE:∀t d,look ye t=some d->look σ.env t=some d∧d.ids = []) (hr:∀F γ,Rs F γ r (.bool true)):OpJ P J n ops o k σ (k+1) ⟨(t,r)::ye,[],[]⟩:=by
 intro w0 F0 F γ a w hJ hs hdn K Q hK;rw[if_pos (hw w0 F0 F γ a w hs)];have hv:=hx _ _ _ (hs.ev ex);obtain⟨fn,tmps,assign,body,kp,Ws⟩:=Y k d (a.eval y) F w hk (JO.grw k F0 w0 F w hJ hs.grw) (hy _ _ _ (hs.ev ey));refine⟨λ_ _=>trivial,?_⟩
 have he:(execOp a.eval o).run P w = .ok (.round l fn tmps assign body) w:=by
  simp[execOp,ho,resolve,hv,Deferred.ofValue,invoke,kp]
 rw[Oper.semAt_eq _ _ _ (λc hc=>by rw[ho]at hc;cases hc),he];refine⟨λh=>XU,Ws.mono ?_⟩;rintro e w' ⟨F',rfl,hF,Wn⟩;show K (a.put o.dst (.bool true)) w';rw[hd];exact hK w' F' F' eD.no _ w' Wn (hs.ws.f0.trans hF) ((hs.ajv hF (JO.sat _ _ _ Wn) hE).put (hdn t hd) (hr _ _))
theorem ahf{o:Oper}{f:FuncId}[hf:dg P f]{xs:Array Operand}{ats:Array TypeId}{t:Nat}{dxs args:List DV}{k':Nat}(ho:o.op = .call ⟨.value (.func f),xs,ats⟩)(hd:o.dst=some t)(hg:o.guard=none)
  (ha:KW σ.env xs.toList=some dxs) (hle:lH dxs args) (hi:vv args = []) (JO:JOk J)
  (hc:∀(F:dj) (w:World) (vs:List Value),J k F w->tQ F eD.no args vs->CallsIn (FW none) 0 P f vs.toArray w (λe w'=>∃F',e = .returned (.tuple #[])∧lJ F F'∧J k' F' w'))
  (ye:List (Nat×DV)) (hE:∀t d,look ye t=some d->look σ.env t=some d∧d.ids = []):OpJ P J n ops o k σ k' ⟨(t,.gh [])::ye,[],[]⟩:=by
 intro w0 F0 F γ a w hJ hs hdn K Q hK;rw[if_pos Sw];have hv:=hle.rsT (hs.evs ha);have QI:tQ F eD.no args (xs.toList.map a.eval):=Ec args _ (by rw[hi];simp) hv;refine⟨λ_ _=>trivial,?_⟩;rw[Oper.semAt_eq _ _ _ (λc hc=>by rw[ho]at hc;cases hc),JG o xs ats ho a w];refine⟨λh=>XU,?_⟩;have e:(xs.toList.map a.eval).toArray=xs.map a.eval:=XV;have:=hc F w _ (JO.grw k F0 w0 F w hJ hs.grw) QI;rw[e]at this;refine this.mono ?_;rintro e w' ⟨F',rfl,hF,Wn⟩;show K (a.put o.dst (.tuple #[])) w';rw[hd];exact hK w' F' F' eD.no _ w' Wn (hs.ws.f0.trans hF) ((hs.ajv hF (JO.sat _ _ _ Wn) hE).put (hdn t hd) (by simp[Rs,tQ]))
theorem adA{f:FuncId}{fn:Func}{c:Code}{args:List DV}{vs:List Value}{k':Nat}{F:dj}{w:World}(JO:JOk J)(hf:P.funcs[f]? = some fn)(hb:fn.body=some c)(hn:fn.ntmps=n)(Fx:fn.results = #[])(ha:args.length<=n)
  (h:Ag P J n c (λe m _=>(e = .normal∨e = .ret)∧m=k') k ⟨params 0 args,[],[]⟩) (hJ:J k F w) (hv:tQ F eD.no args vs) :
  CallsIn (FW none) 0 P f vs.toArray w (λe w'=>∃F',e = .returned (.tuple #[])∧lJ F F'∧J k' F' w'):=by
 subst hn;refine callsIn_of_wp hf hb trivial ?_
 have hs:Sat (bare w F fn.ntmps) F eD.no ⟨params 0 args,[],[]⟩ { tmps:=vs.toArray++Array.replicate (fn.ntmps-vs.toArray.size) undef,defers:=[] } w :=
  ⟨Bv hv ha,WS.bare _ (JO.sat _ _ _ hJ) (JO.kn _ _ _ hJ),by
   have:=hv.len;simp[bare];omega,rfl⟩
 refine wpIn_mono (h w F F eD.no _ w hJ hs) ?_;rintro e a' w' ⟨w1,F1,F',γ',m,σ',j1,j2,h1,h2,rfl⟩
 have main:a'.defers = []∧∃v,(results fn a'.tmps).run P w' = .ok v w'∧(∃F',Ending.returned v = .returned (.tuple #[])∧lJ F F'∧J m F' w') :=
  ⟨h1.defers,.tuple #[],results0 Fx,F',rfl,j2.trans h1.ws.f0,JO.grw _ _ _ _ _ j1 h1.grw⟩
 rcases h2 with rfl|rfl
 .exact main
 .exact main
end
section
variable {C C':Ctx} {F F':dj} {γ:eD} {h:eW} {used:List Nat} {w w':World}
theorem WS.ctx(H:WS C F γ h used w)(h1:C'.w0=C.w0)(h2:C'.T=C.T)(h3:C'.F0=C.F0)(h4:nW C'.G0 γ)(h5:∀id g,C'.G0 id=some g->9000<=id):WS C' F γ h used w where
 si:=H.si
 own:=by rw[h1,h2];exact H.own
 apart:=H.apart
 fs:=H.fs
 f0:=by rw[h3];exact H.f0
 rj:=by rw[h1,h2,h3];exact H.rj
 os:=by rw[h1];exact H.os
 tape:=by rw[h1];exact H.tape
 output:=by rw[h1];exact H.output
 size:=by rw[h1];exact H.size
 qh:=by rw[h1,h2];exact H.qh
 us:=H.us
 gone:=H.gone
 g0:=h4
 gk:=h5
 kn:=by rw[h3];exact H.kn
theorem WS.reF(H:WS C F γ h used w):WS { C with F0:=F } F γ h used w:={ H with f0:=lJ.refl _,rj:=λb cs hb=>.inl hb,kn:=H.kn.mono H.f0 }
theorem WS.unF{γ':eD}{h':eW}{Ys:List Nat}(H:WS C F γ h used w)(K:WS { C with F0:=F } F' γ' h' Ys w'):WS C F' γ' h' Ys w' :=
 { K with
  f0:=H.f0.trans K.f0
  kn:=H.kn
  rj:=λb cs hb=>(K.rj b cs hb).elim (λq=>H.rj b cs q) .inr }
theorem WS.grown(H:WS C F γ h used w)(G:Grw F w F' w'):WS C F' γ h used w':=by
 have Q:=H.quiet G.stp
 exact { Q with
  si:=λid e hi=>by obtain⟨g,h1,h2⟩:=Q.si id e hi;exact⟨g,h1,h2.mono G.fle (nW.refl _)⟩
  own:=λid e g b hi hg hb=>by
   refine⟨?_,(H.own id e g b hi hg hb).2⟩;cases hF:F' b with
   |none=>rfl
   |some cs=>
    obtain⟨g',k1,k2⟩:=H.si id e hi;rw[hg]at k1;injection k1 with k1;subst k1
    have my:=k2.lt b hb;rcases G.new b cs hF with q|q
    .rw[(H.own id e g b hi hg hb).1]at q;cases q
    .omega
  fs:=G.sat
  f0:=H.f0.trans G.fle
  rj:=λb cs hb=>by
   rcases G.new b cs hb with q|q
   .exact H.rj b cs q
   .exact .inr (.inr (Nat.le_trans H.size q)) }
theorem WS.setObj(H:WS C F γ h used w){id l:Nat}{o:Obj}(o':Obj)(hi:cF h id=some (.obj o))(hg:γ id=some (.pointer (some ⟨l,0,none⟩))):WS C F γ ((id,some (.obj o'))::h) used (w.putObj l o'):=by
 obtain⟨g,k1,b,k2,k3⟩:=H.si id _ hi;rw[hg]at k1;injection k1 with k1;subst k1
 injection k2 with k2;injection k2 with k2;injection k2 with k2 _ _;subst k2
 have my:=(Array.getElem?_eq_some_iff.1 k3).1;have S:uF w (w.putObj l o') (fA (.pointer (some ⟨l,0,none⟩))):=⟨rfl,rfl,rfl,aR,λk hk nq=>World.putObj_heap_other (λe=>nq Cm)⟩;have T:=H.GQ hi hg S
 have P:=T.put (e0:=.obj o') hg ⟨l,rfl,World.putObj_heap_same my⟩ (λb hb=>by
  obtain⟨q1,q2⟩:=H.own id _ _ b hi hg hb;refine⟨q1,q2,λuS e' g' nq hh oV je=>?_⟩;rw[cH]at hh
  split at hh
  .cases hh
  .exact nq (H.apart uS id e' _ g' _ b hh hi oV hg je hb))
 refine P.congr (λi e he=>?_) (λ_ h=>h);rw[cH]at he |-
 split at he
 .rename_i e1;rw[if_pos e1];exact he
 .rename_i e1;rw[if_neg e1,cH,if_neg e1];exact he
end
def Xn(D:Nat):Deferred:={ target:=.collected D,args:=#[] }
def Dq:Nat:=100004
def CF:Nat:=100005
def ptrTo(b:Nat):Value:=.pointer (some ⟨b,0,none⟩)
def rb:HE:=.obj (.deferred (some []))
def au6(C C':Ctx):Prop:=C'=C∨∃D,C'.w0=C.w0∧C'.T=C.T∧C'.F0=C.F0∧C'.n=C.n∧C'.ro=none∧C'.defs = [Xn D]∧C'.G0 CF=some (ptrTo D)
def SG(P:Program)(n:Nat)(c:Code)(Q:Exit->AS->Prop)(σ:AS):Prop :=∀(C:Ctx) (F:dj) (γ:eD) (a:Act) (w:World),C.n=n->C.ro=none->C.defs = []->C.G0=eD.no->Sat C F γ σ a w ->c.wpIn (FW none) 0 P (λe a' w'=>∃C' F' γ' σ',au6 C C'∧Sat C' F' γ' σ' a' w'∧Q e σ') a w
section
variable {P:Program} {n:Nat} {Q:Exit->AS->Prop} {σ:AS}
def alj(P:Program)(n:Nat)(y:Code)(Q:Exit->AS->Prop):Exit->AS->Prop
 |.normal,σ=>SG P n y Q σ
 |_,_=>False
theorem adi{x y:Code}(h:gL P n x (alj P n y Q) σ):SG P n (.seq x y) Q σ:=λC F γ a w hn hr hd hg hs=>by
 have:=h C F γ a w hn hs;rw[hr]at this;refine wpIn_seq (wpIn_mono this λe a' w' ⟨F',γ',σ',h1,h2⟩=>?_);cases e with
 |normal=>exact h2 C F' γ' a' w' hn hr hd hg h1
 |exit id=>exact h2.elim
 |goto l=>exact h2.elim
 |ret=>exact h2.elim
 |panic c=>exact h2.elim
 |outgrown=>exact h2.elim
theorem akU{x y:Code}(h:SG P n x (afd P n y Q) σ):SG P n (.seq x y) Q σ:=λC F γ a w hn hr hd hg hs=>by
 refine wpIn_seq (wpIn_mono (h C F γ a w hn hr hd hg hs) λe a' w' ⟨C',F',γ',σ',hC,h1,h2⟩=>?_);cases e with
 |normal=>
  have hn':C'.n=n:=by
   rcases hC with rfl|⟨D,_,_,_,q,_⟩
   .exact hn
   .rw[q];exact hn
  have hr':C'.ro=none:=by
   rcases hC with rfl|⟨D,_,_,_,_,q,_⟩
   .exact hr
   .exact q
  have:=h2 C' F' γ' a' w' hn' h1;rw[hr']at this;exact wpIn_mono this λe a' w' ⟨F',γ',σ',h1,h2⟩=>⟨C',F',γ',σ',hC,h1,h2⟩
 |exit id=>exact⟨C',F',γ',σ',hC,h1,h2⟩
 |goto l=>exact⟨C',F',γ',σ',hC,h1,h2⟩
 |ret=>exact⟨C',F',γ',σ',hC,h1,h2⟩
 |panic c=>exact⟨C',F',γ',σ',hC,h1,h2⟩
 |outgrown=>exact⟨C',F',γ',σ',hC,h1,h2⟩
theorem ahW{id:Nat}{c:Code}(h:SG P n c (BU id Q) σ):SG P n (.block id c) Q σ:=λC F γ a w hn hr hd hg hs=>
 wpIn_block (wpIn_mono (h C F γ a w hn hr hd hg hs) λe a' w' ⟨C',F',γ',σ',hC,h1,h2⟩=>by
  cases e with
  |exit uS=>
   simp only[BU]at h2;simp only[Exit.inBlock]
   by_cases hid:uS=id
   .subst hid;simp at h2;rw[if_pos rfl];exact⟨C',F',γ',σ',hC,h1,h2⟩
   .have:Nat.beq uS id=false:=by rw[Bool.eq_false_iff];intro e;exact hid (Nat.eq_of_beq_eq_true e)
    rw[this]at h2;rw[if_neg hid];exact⟨C',F',γ',σ',hC,h1,h2⟩
  |normal=>exact⟨C',F',γ',σ',hC,h1,h2⟩
  |goto l=>exact⟨C',F',γ',σ',hC,h1,h2⟩
  |ret=>exact⟨C',F',γ',σ',hC,h1,h2⟩
  |panic c=>exact⟨C',F',γ',σ',hC,h1,h2⟩
  |outgrown=>exact⟨C',F',γ',σ',hC,h1,h2⟩)
def aos(P:Program)(rs:Array ResultVar)(res:DV):Exit->AS->Prop
 |.ret,σ | .normal,σ=>∃d,vU P ⟨σ.env,(CF,none)::σ.heap,σ.used⟩ rs d∧iy d res∧cF σ.heap CF=some rb
 |_,_=>False
theorem br.ofD{fn:FuncId}{func:Func}{c:Code}{args:List DV}{r:DV}{rs:Array ResultVar}(hf:P.funcs[fn]? = some func)(hn:func.ntmps=n)(hb:func.body=some c)(Fx:func.results=rs)(ha:Nat.ble args.length n=true)(hr:r.ids = [])
  (h:SG P n c (aos P rs r) ⟨params 0 args,[],[]⟩):br P fn args r:=by
 subst hn Fx;intro C F γ heap used w vs H hv;have HE:=H.enter func.ntmps id [] (λi e h=>yS) aR aR aR (λi e h=>yS);have hG:Ac γ id (List.map (·.1) ([]:eW))=eD.no:=by funext i;simp[Ac,eD.no]
 rw[hG]at HE;refine(callsIn_wide (n:=0)).1 (callsIn_of_wp_marks hf hb trivial ?_)
 have hs:Sat (inner w F func.ntmps γ id []) F eD.no ⟨params 0 args,[],[]⟩ { tmps:=vs.toArray++Array.replicate (func.ntmps-vs.toArray.size) undef,defers:=[] } w :=
  ⟨Bv hv (Nat.le_of_ble_eq_true ha),HE,by
   have:=hv.len;have:=Nat.le_of_ble_eq_true ha;simp[inner];omega,rfl⟩
 refine wpIn_mono (h (inner w F func.ntmps γ id []) F eD.no _ w rfl rfl rfl (by funext i;simp[inner,eD.no]) hs) ?_;rintro e a' w' ⟨C',F',γ',σ',hC,jI,hq⟩
 -- the results,read in a world where the mark is shut
 have fin:∀(w2:World) (d:DV),Sat C' F' γ' ⟨σ'.env,(CF,none)::σ'.heap,σ'.used⟩ a' w2->vU P ⟨σ'.env,(CF,none)::σ'.heap,σ'.used⟩ func.results d->iy d r ->
   ∃v,(results func a'.tmps).run P w2 = .ok v w2∧(∃v' F',Ending.returned v = .returned v'∧lJ F F'∧WS C F' γ heap used w2∧Rs F' eD.no r v'):=by
  intro w2 d EI h1 h2;obtain⟨v,k1,k2⟩:=h1.run EI
  have hI:WS (inner w F func.ntmps γ id []) F' γ' ((CF,none)::σ'.heap) σ'.used w2:=by
   rcases hC with rfl|⟨D,c1,c2,c3,c4,c5,c6,c7⟩
   .exact EI.ws
   .exact EI.ws.ctx c1.symm c2.symm c3.symm (λi g h=>by simp[inner]at h) (λi g h=>by simp[inner]at h)
  obtain⟨_,_,j⟩:=H.join (f:=id) (pre:=[]) (new:=[]) hI [] aR aR aR (λi e h=>yS) aR aR (λi e h=>yS);have hg:vp γ γ' id []=γ:=aeu;rw[hg]at j;exact⟨v,k1,v,F',rfl,hI.f0,by simpa [sN]using j,wK r v (by rw[hr];simp) (h2 _ _ _ k2)⟩
 have main:(∃d,vU P ⟨σ'.env,(CF,none)::σ'.heap,σ'.used⟩ func.results d∧iy d r∧cF σ'.heap CF=some rb)->LeavesInM Fence.wide 0 P func a'.tmps (λe w'=>∃v F',e = .returned v∧lJ F F'∧WS C F' γ heap used w'∧Rs F' eD.no r v) a'.defers .returning w':=by
  rintro⟨d,h1,h2,h3⟩;rcases id hC with rfl|⟨D,c1,c2,c3,c4,c5,c6,c7⟩
  .rw[show a'.defers = [] from jI.defers]
   exact fin w' d (jI.congr (λ_ _ h=>h) (λi e he=>by
    rw[cH]at he
    split at he
    .cases he
    .exact he) (λ_ h=>h)) h1 h2
  .rw[jI.defers,c6]
   have hg:γ' CF=some (ptrTo D):=jI.ws.g0 _ _ c7;have hW:=jI.ws.setObj (.deferred none) h3 hg;obtain⟨g,k1,b,k2,k3⟩:=jI.ws.si CF _ h3;rw[hg]at k1;injection k1 with k1;subst k1
   injection k2 with k2;injection k2 with k2;injection k2 with k2 _ _;subst k2
   refine⟨aR,.inl ⟨D,_,rfl,run_takeDeferred k3,?_⟩⟩;refine fin _ d ⟨jI.env,hW.congr (λi e he=>?_) (λ_ h=>h),jI.size,jI.defers⟩ h1 h2;simp only at he;rw[cH]at he |-
   split at he
   .cases he
   .rename_i e1;rw[if_neg e1];exact he
 cases e with
 |ret=>exact main hq
 |normal=>exact main hq
 |exit id=>exact hq.elim
 |goto l=>exact hq.elim
 |panic c=>exact hq.elim
 |outgrown=>exact hq.elim
def aoj(P:Program)(n:Nat)(body:Code)(R R':Obj)(Hn:eW)(U:List Nat):Exit->AS->Prop
 |.normal,σ=>cF σ.heap Dq=some (.obj R)∧gL P n body (λe σ'=>e = .normal∧jP σ' ⟨[],(Dq,some (.obj R'))::(CF,some rb)::Hn,Dq::CF::U⟩) ⟨σ.env,(Dq,some (.obj R'))::σ.heap,σ.used⟩
 |_,_=>False
theorem ZD{id:Nat}{x y:Option HE}{h:eW}{i:Nat}{e:HE}(he:cF ((id,x)::h) i=some e):cF ((id,x)::(id,y)::h) i=some e:=by
 rw[cH]at he |-
 split at he
 .rename_i e1;rw[if_pos e1];exact he
 .rename_i e1;rw[if_neg e1,cH,if_neg e1];exact he
theorem ahV{g:Operand}{t:Nat}{assign body:Code}{gf:FuncId}[hgf:dg P gf]{DN ds:List DV}(hI:Iter P gf DN ds)(env:List (Nat×DV))(H:Nat->eW)(U:List Nat)(h0:jP σ ⟨env,H 0,U⟩)
  (hg:ev env g=some (.CG gf DN)) (hc:vv DN = []) (hE:∀t d,look env t=some d->∀i∈d.ids,9000<=i) (hU:Dq ∉ U) (hU':CF ∉ U) (ht:t<n)
  (Ws:∀k d (R R':Obj),ds[k]? = some d->gL P n assign (aoj P n body R R' (H (k+1)) U) ⟨(t,d)::env,(Dq,some (.obj R))::(CF,some rb)::H k,Dq::CF::U⟩)
  (hq:Q .normal ⟨env,(Dq,none)::(CF,some rb)::H ds.length,Dq::CF::U⟩):SG P n (.rangeFunc g #[t] assign body) Q σ:=by
 intro C F γ a w hn hr hd hG hs;obtain⟨F1,γ1,h1⟩:=h0 C F γ a w hs;have kg:=h1.ev hg;simp only[Rs]at kg;obtain⟨lb,eg,hlb⟩:=kg;have awR:tQ F1 eD.no DN lb.toList:=Ec DN _ (by rw[hc];intro i hi;cases hi) hlb;refine wpIn_rangeFunc ?_;intro fn _;obtain⟨rec,Wt⟩:∃rec:LoopState->Option Code->Loop,rec=λst pe=>{ state:=st,pending:=pe,fn,tmps:=a.tmps,params:=#[t],assign,body,defers:=w.heap.size }:=⟨_,rfl⟩
 obtain⟨W1,hW1⟩:∃W1,(w.alloc (.deferred (some []))).alloc (.loop (rec .ready none))=W1:=⟨_,rfl⟩;have A1:=h1.ws.Ah hU' (.deferred (some [])) (e0:=rb) (g:=ptrTo w.heap.size) (λb hb=>by simp[ptrTo,fA]at hb;exact hb.symm) ⟨w.heap.size,rfl,World.alloc_heap_new w _⟩
 have hR1:Dq ∉ CF::U:=by
  intro h;rcases List.mem_cons.1 h with h|h
  .exact absurd h aV
  .exact hU h
 have A2:=A1.Ah hR1 (.loop (rec .ready none)) (e0:=.obj (.loop (rec .ready none))) (g:=ptrTo (w.heap.size+1)) (λb hb=>by simp[ptrTo,fA]at hb;rw[<-hb];simp) ⟨w.heap.size+1,rfl,by
  have:=World.alloc_heap_new (w.alloc (.deferred (some []))) (.loop (rec .ready none))
  rwa [World.size_alloc]at this⟩
 rw[hW1]at A2;have ajY:nW γ1 ((γ1.up CF (ptrTo w.heap.size)).up Dq (ptrTo (w.heap.size+1))):=(pF _ (h1.ws.fresh hU')).trans (pF _ (A1.fresh hR1));obtain⟨γ2,hγ2⟩:∃γ2,(γ1.up CF (ptrTo w.heap.size)).up Dq (ptrTo (w.heap.size+1))=γ2:=⟨_,rfl⟩;have gR:γ2 Dq=some (ptrTo (w.heap.size+1)):=by rw[<-hγ2];exact uu _ _ _
 have gM:γ2 CF=some (ptrTo w.heap.size):=by rw[<-hγ2];simp[eD.up,CF,Dq]
 rw[hγ2]at A2 ajY;obtain⟨γr,hγr⟩:∃γr:eD,γr=λi=>if 9000<=i then γ2 i else none:=⟨_,rfl⟩
 have rR:γr Dq=some (ptrTo (w.heap.size+1)):=by rw[hγr];simp only[if_pos (show 9000<=Dq by decide)];exact gR
 have rM:γr CF=some (ptrTo w.heap.size):=by rw[hγr];simp only[if_pos (show 9000<=CF by decide)];exact gM
 have rk:∀id g,γr id=some g->9000<=id:=λid g h=>by
  rw[hγr]at h;simp only at h
  split at h
  .assumption
  .cases h
 have r2:nW γr γ2:=λid g h=>by
  have:=rk id g h;rw[hγr]at h;simpa [this]using h
 -- what the slots hold
 have lift:∀(F':dj) (γ':eD),lJ F1 F'->nW γr γ'->∀t d,look env t=some d->t<C.n∧Rs F' γ' d (a.tmps.getD t undef):=λF' γ' hF hγ t d hl=>by
  obtain⟨q1,q2⟩:=h1.env t d hl;refine⟨q1,?_⟩;have q3:Rs F1 γr d (a.tmps.getD t undef):=wK d _ (λi hi=>by rw[hγr];simp[hE t d hl i hi]) (q2.mono (lJ.refl _) ajY);exact q3.mono hF hγ
 obtain⟨Cr,hCr⟩:∃Cr:Ctx,Cr = { C with G0:=γr }:=⟨_,rfl⟩
 have w0:WS Cr F1 γ2 ((Dq,some (.obj (.loop (rec .ready none))))::(CF,some rb)::H 0) (Dq::CF::U) W1:=by
  rw[hCr];exact A2.ctx rfl rfl rfl r2 rk
 obtain⟨J,hJ⟩:∃J:Nat->dj->World->Prop,J=λk F' w'=>lJ F1 F'∧∃γ',WS Cr F' γ' ((Dq,some (.obj (.loop (rec .ready none))))::(CF,some rb)::H k) (Dq::CF::U) w':=⟨_,rfl⟩
 have JO:JOk J:=by
  rw[hJ];exact⟨λk F w F' w' ⟨q1,γ',q2⟩ G=>⟨q1.trans G.fle,γ',q2.grown G⟩,λk F w ⟨_,γ',q2⟩=>q2.fs,λk F w ⟨_,γ',q2⟩=>q2.kn.mono q2.f0⟩
 have atR:∀{F':dj} {γ':eD} {h':eW} {u':List Nat} {w':World} {C':Ctx} {o:Obj},WS C' F' γ' h' u' w'->C'.G0=γr->cF h' Dq=some (.obj o)->γ' Dq=some (ptrTo (w.heap.size+1))∧w'.heap[w.heap.size+1]? = some o:=by
  intro F' γ' h' u' w' C' o hw hG' hh;have e1:γ' Dq=some (ptrTo (w.heap.size+1)):=hw.g0 _ _ (by rw[hG'];exact rR);obtain⟨g,k1,b,k2,k3⟩:=hw.si Dq _ hh;rw[e1]at k1;injection k1 with k1;subst k1
  injection k2 with k2;injection k2 with k2;injection k2 with k2 _ _;subst k2
  exact⟨e1,k3⟩
 have first:∀(x:HE) (h':eW),cF ((Dq,some x)::h') Dq=some x:=λx h'=>by rw[cH,if_pos rfl]
 have Y:aij P (w.heap.size+1) J ds:=by
  intro k d v F' w' hk hj hv;rw[hJ]at hj;obtain⟨hF,γ',hW⟩:=hj;obtain⟨g1,l1⟩:=atR hW (by rw[hCr]) (first _ _);have hy:=run_yield (P:=P) (args:=#[v]) l1 (by rw[Wt];rfl);rw[Wt]at hy;simp only at hy;refine⟨fn,_,assign,body,hy,roundIn_of_wpIn trivial ?_⟩;obtain⟨CR,hCR⟩:∃CR:Ctx,CR = { C with G0:=γr,ro:=some (w.heap.size+1),F0:=F',defs:=[] }:=⟨_,rfl⟩
  have hWR:WS CR F' γ' ((Dq,some (.obj (.loop (rec .ready none))))::(CF,some rb)::H k) (Dq::CF::U) w':=by
   rw[hCR];rw[hCr]at hW;exact hW.reF.ctx rfl rfl rfl hW.g0 rk
  have hgr:nW γr γ':=aer
  have S:Sat CR F' γ' ⟨(t,d)::env,(Dq,some (.obj (.loop (rec .ready none))))::(CF,some rb)::H k,Dq::CF::U⟩ { tmps:=(Array.zip #[t] #[v]).foldl (λtmps x=>tmps.setIfInBounds x.1 x.2) a.tmps,defers:=[] } w':=by
   have et:(Array.zip #[t] #[v]).foldl (λtmps x=>tmps.setIfInBounds x.1 x.2) a.tmps=a.tmps.setIfInBounds t v:=aR;rw[et];refine⟨λt' d' hl=>?_,hWR,by rw[hCR];simpa using h1.size,by rw[hCR]⟩;simp only at hl;rw[eK]at hl;have yl:a.tmps.size=C.n:=h1.size
   split at hl
   .rename_i e1;subst e1;injection hl with hl;subst hl
    have my:t<a.tmps.size:=by rw[yl,hn];exact ht
    refine⟨by rw[hCR];simp only;rw[hn];exact ht,?_⟩;have:(a.tmps.setIfInBounds t v).getD t undef=v:=by simp[Array.getD,my]
    rw[this];exact hv.mono (lJ.refl _) (nW.no _)
   .rename_i e1
    obtain⟨q1,q2⟩:=lift F' γ' hF hgr t' d' hl;refine⟨by rw[hCR];exact q1,?_⟩
    have:(a.tmps.setIfInBounds t v).getD t' undef=a.tmps.getD t' undef:=by
     by_cases hb:t'<a.tmps.size
     .simp[Array.getD,hb,Array.getElem_setIfInBounds,e1]
     .simp[Array.getD,hb]
    rw[this];exact q2
  have hCn:CR.n=n:=by rw[hCR];exact hn
  have QJ:CR.ro=some (w.heap.size+1):=by rw[hCR]
  have hGR:CR.G0=γr:=by rw[hCR]
  have hFR:CR.F0=F':=by rw[hCR]
  have ajZ:=Ws k d (.loop (rec .ready none)) (.loop { rec .ready none with state:=.busy }) hk CR F' γ' _ w' hCn S;rw[QJ]at ajZ;refine wpIn_mono ajZ ?_;rintro e a1 w1 ⟨F2,γ2',σ1,s1,q⟩;cases e with
  |normal=>
   obtain⟨q1,q2⟩:=q;obtain⟨g2,l2⟩:=atR s1.ws hGR q1;refine⟨_,run_beginRound l2 (by rw[Wt]),?_⟩;have S2:Sat CR F2 γ2' ⟨σ1.env,(Dq,some (.obj (.loop { rec .ready none with state:=.busy })))::σ1.heap,σ1.used⟩ a1 (w1.putObj (w.heap.size+1) (.loop { rec .ready none with state:=.busy })):=⟨s1.env,s1.ws.setObj _ q1 g2,s1.size,s1.defers⟩;have aj0:=q2 CR F2 γ2' a1 _ hCn S2;rw[QJ]at aj0;refine wpIn_mono aj0 ?_;rintro e a2 w3 ⟨F3,γ3,σ3,s3,rfl,himp⟩;obtain⟨F4,γ4,s4⟩:=himp CR F3 γ3 a2 w3 s3;obtain⟨g4,l4⟩:=atR s4.ws hGR (first _ _);refine⟨_,_,run_endRound none l4,F4,rfl,aef,?_⟩;rw[hJ];refine⟨hF.trans aef,γ4,?_⟩;have e3:=s4.ws.setObj (.loop (rec .ready none)) (first _ _) g4;have e4:({ { rec .ready none with state:=.busy } with state:=if (none:Option Code).isNone then .ready else .done,pending:=none }:Loop)=rec .ready none:=by rw[Wt];rfl
   rw[e4];have e5:WS CR F4 γ4 ((Dq,some (.obj (.loop (rec .ready none))))::(CF,some rb)::H (k+1)) (Dq::CF::U) (w3.putObj (w.heap.size+1) (.loop (rec .ready none))):=e3.congr (λi e he=>ZD he) (λ_ h=>h);refine hW.unF ?_;rw[hCr];rw[hCR]at e5;exact e5.ctx rfl rfl rfl e5.g0 rk
  |exit id=>exact q.elim
  |goto l=>exact q.elim
  |ret=>exact q.elim
  |panic c=>exact q.elim
  |outgrown=>exact q.elim
 refine⟨w.heap.size+1,[Xn w.heap.size],W1,{ target:=.fn (.func gf) lb,args:=#[.func (.yield (w.heap.size+1)) #[] #[]] },W1,gf,#[.func (.yield (w.heap.size+1)) #[] #[]]++lb,W1,?_,?_,λ_ _=>trivial,?_,λh=>XU,?_⟩
 .rw[<-hW1,Wt];exact run_enterLoop_outer _ _ _ _ _
 .simp only[resolve,eg]
  simp[go_sem]
 .simp[invoke,xS]
 .have hJ0:J 0 F1 W1:=by rw[hJ];exact⟨lJ.refl _,γ2,w0⟩
  have:=hI (w.heap.size+1) J F1 W1 lb.toList JO Y hJ0 awR;simp only[Array.toArray_toList]at this;refine this.mono ?_;rintro e W2 ⟨v,F2,rfl,hF,hj⟩;rw[hJ]at hj;obtain⟨_,γ',hW⟩:=hj;obtain⟨g1,l1⟩:=atR hW (by rw[hCr]) (first _ _);have hgr:nW γr γ':=aer;refine⟨none,W2.putObj (w.heap.size+1) (.loop { rec .ready none with state:=.exhausted }),?_,?_⟩
  .have:=run_endLoop (P:=P) l1 (by rw[Wt];simp)
   rw[Wt]at this |-;exact this
  .refine⟨{ C with G0:=γr,defs:=[Xn w.heap.size] },F2,γ',⟨env,(Dq,none)::(CF,some rb)::H ds.length,Dq::CF::U⟩,.inr ⟨w.heap.size,rfl,rfl,rfl,rfl,hr,rfl,rM⟩,⟨λt' d' hl=>lift F2 γ' hF hgr t' d' hl,?_,h1.size,?_⟩,hq⟩
   .have e3:=hW.setObj (.loop { rec .ready none with state:=.exhausted }) (first _ _) g1
    rw[hCr]at e3;have e4:=e3.ctx (C':={ C with G0:=γr,defs:=[Xn w.heap.size] }) rfl rfl rfl hgr rk;refine e4.congr (λi e he=>?_) (λ_ h=>h);simp only at he;rw[cH]at he
    split at he
    .cases he
    .rename_i e1
     rw[cH,if_neg e1,cH,if_neg e1];exact he
   .simp only[h1.defers,hd,List.append_nil]
end
theorem an2{P:Program}{J:Nat->dj->World->Prop}{n:Nat}{Q:Exit->Nat->AS->Prop}{σ:AS}{k:Nat}{c d:Code}{α:Type}(S:α->AS)(I:α->Prop)(h:gL P n c (afe S I (λe σ=>Q e k σ)) σ)(hk:∀x,I x->Ag P J n d Q k (S x)):Ag P J n (.seq c d) Q k σ :=
 Cj (Gd (DG h λe σ' hq=>by
  cases e with
  |normal=>obtain⟨x',i1,i2⟩:=hq;exact an1 i2 (hk x' i1)
  |exit id=>exact hq
  |goto l=>exact hq
  |ret=>exact hq
  |panic c=>exact hq
  |outgrown=>exact hq))
theorem akK{P:Program}{J:Nat->dj->World->Prop}{n:Nat}{Q:Exit->Nat->AS->Prop}{σ:AS}{k:Nat}{c d:Code}(S:AS)(k':Nat)(h:Ag P J n c (λe m σ'=>e = .normal∧m=k'∧jP σ' S) k σ)(hd:Ag P J n d Q k' S):Ag P J n (.seq c d) Q k σ :=
 Cj (λw0 F0 F γ a w hJ hs=>wpIn_mono (h w0 F0 F γ a w hJ hs) λe a' w' ⟨w1,F1,F',γ',m,σ',j1,j2,h1,h2,h3,h4⟩=>by
  subst h2 h3;obtain⟨F2,γ2,s2⟩:=h4 _ F' γ' a' w' h1;exact⟨w1,F1,F2,γ2,m,S,j1,j2,s2,hd⟩)
inductive SL(e:List (Nat×DV)):List (Nat×DV)->Prop
 |nil:SL e []
 |cons {t:Nat} {d:DV} {r:List (Nat×DV)} (h:look e t=some d) (hi:d.ids = []) (k:SL e r):SL e ((t,d)::r)
theorem SL.spec{e r:List (Nat×DV)}(k:SL e r):∀t d,look r t=some d->look e t=some d∧d.ids = []:=by
 induction k with
 |nil=>intro t d h;cases h
 |cons h hi k ih=>
  intro t d hl;rw[eK]at hl
  split at hl
  .rename_i e1;subst e1;injection hl with hl;subst hl;exact⟨h,hi⟩
  .exact ih t d hl
def aiX(p:List Int)(s:Int×Int×Bool):Option (xy (Int×Int×Bool) (Int×Int×Bool)) :=if (decide (s.1<(p.length:Int)))=true then Hu (fC (p.length) s.1 (p.length))<|(Gi (List.drop (Int.toNat s.1) p)).bind λr=>if r.2=true then some (.done (s.1,r.1,r.2))else some (.next (IntKind.wrap .i64 (s.1+1),r.1,r.2)) else some (.done s)
def Mo(p:List Int):Nat->Int->Option (List gv)
 |0,_=>none
 |fu+1,off=>if (decide (off<(p.length:Int)))=true then (EP (E:=Int×Int×Bool) (aiX p) (off,0,false)).bind λe=>if e.2.2=true then Hu (fC (p.length) (IntKind.wrap .i64 (e.1+8)) (IntKind.wrap .i64 (e.1+e.2.1)))<|Hu (dK 1 (List.length ([]:List Int)+List.length (slc p (IntKind.wrap .i64 (e.1+8)) (IntKind.wrap .i64 (e.1+e.2.1)))))<|(Mo p fu (IntKind.wrap .i64 (e.1+e.2.1))).bind λrest=>some ((if (decide (off<e.1))=true then [⟨off,IntKind.wrap .i64 (e.1-off),[],false⟩]else [])++⟨e.1,e.2.1,([]:List Int)++slc p (IntKind.wrap .i64 (e.1+8)) (IntKind.wrap .i64 (e.1+e.2.1)),true⟩::rest) else some (if (decide (off<e.1))=true then [⟨off,IntKind.wrap .i64 (e.1-off),[],false⟩]else []) else some []
theorem NV{ops:Array Oper}{o:Oper}{g gt:Nat}{n:Nat}{σ:AS}(hg:o.guard=some (g,true))(Gz:(ops[g]?).bind (·.dst)=some gt)(hb:look σ.env gt=some (.bool true)) :
  ∀w0 F0 F γ a w,Sat (bare w0 F0 n) F γ σ a w->Region.wanted o (yielded ops a.tmps)=true:=by
 intro w0 F0 F γ a w hs;have DP:=(hs.env gt _ hb).2;have my:=(hs.env gt _ hb).1;simp only[Rs]at DP
 have hy:yielded ops a.tmps g=some true:=by
  unfold yielded;rw[Gz];have yl:gt<a.tmps.size:=by rw[hs.size];exact my
  simp only[Option.bind_some];rw[Array.getElem?_eq_getElem yl];have:a.tmps[gt] = .bool true:=by simpa [Array.getD,yl]using DP
  rw[this]
 simp[Region.wanted,hg,hy]
abbrev yv(l:Nat):DV:=.val (.func (.yield l) #[] #[])
theorem Zi{F:dj}{γ:eD}{a b:Int}{v:Value}(h:Rs F γ (.FD true (.agg [.int .i64 a,.int .i64 b,.cu,.bool false])) v):Rs F eD.no (Bg ⟨a,b,[],false⟩) v:=by
 simp only[Rs]at h;have h:=h.1 trivial;have k:Rs F γ (.agg [.int .i64 a,.int .i64 b,.cu,.bool false]) v:=by simp only[Rs];exact h
 exact wK _ _ (by intro i hi;cases hi) (iy.agg (.cons (iy.refl _) (.cons (iy.refl _) (.cons (iy.cu 1) (.cons (iy.refl _) .nil)))) F γ v k)
theorem ahU{F:dj}{γ:eD}{d:DV}{v:Value}(h:Rs F γ d v)(hi:d.ids = []):Rs F eD.no d v:=wK _ _ (by rw[hi];intro i hi;cases hi) h
theorem aki{J:Nat->dj->World->Prop}(JO:JOk J){l:Nat}{p:List Int}{parts:List gv}(Y:aij prog l J (parts.map Bg)){fu:Nat}(hM:Mo p fu 0=some parts){c:Code}(hc:Tryz.f53.body=some c) :
  Ag prog J 60 c (λe m _=>(e = .normal∨e = .ret)∧m=(parts.map Bg).length) 0 ⟨params 0 [.sl 1 (List.map (DV.int .u8) p),yv l],[],[]⟩:=by
 injection hc with hc
 subst hc;refine Cj (Gd (dV (.cons (eY rfl)<|.nil _) bp bp ?_));refine Xr ?_
 refine akJ (λx:Nat×Int×List gv=>⟨[(0,.sl 1 (List.map (DV.int .u8) p)),(1,yv l),(4,.int .i64 x.2.1)],[],[]⟩)
  (λk x=>Mo p x.1 x.2.1=some x.2.2∧parts.drop k=x.2.2∧k+x.2.2.length=parts.length) (λx=>x.1) (fu,0,parts) (jP.of (λi=>i) (.cons rfl (iy.refl _) (.cons rfl (iy.refl _) (.cons rfl (iy.refl _) .nil))) .nil rfl rfl rfl) ⟨hM,rfl,aR⟩ ?_
 rintro k ⟨fu,off,rest⟩ ⟨hM,afU,hlen⟩;dsimp only at hM afU hlen |-;cases fu with
 |zero=>cases hM
 |succ fu=>
 unfold Mo at hM;refine Cj ?_;refine Cj (Gd (dV (.cons (fU rfl)<|.cons (fU rfl)<|.cons (abQ rfl)<|.cons (AG rfl rfl rfl)<|.nil _) bp bp ?_));refine Pa _ rfl (λhb=>?_) (λhb=>?_)
 .replace hM:=(AF hM).1 hb
  obtain⟨e,hL,hM⟩:=pt hM;refine Gd (sW ?_);refine Xr ?_;refine Cj (Gd (dV (.cons (fU rfl)<|.cons (eY rfl)<|.cons (eY rfl)<|.cons (eY rfl)<|.nil _) bp bp ?_));refine an2 (α:=Unit) (λ_=>⟨[(0,.sl 1 (List.map (DV.int .u8) p)),(1,yv l),(4,.int .i64 off),(5,.int .i64 e.1),(6,.int .i64 e.2.1),(7,.bool e.2.2)],[],[]⟩) (λ_=>True) ?_ ?_
  .refine vM ?_
   refine Yk (λs=>⟨[(0,.sl 1 (List.map (DV.int .u8) p)),(1,yv l),(4,.int .i64 off),(5,.int .i64 s.1),(6,.int .i64 s.2.1),(7,.bool s.2.2)],[],[]⟩) _ hL (jP.of (λi=>i) (.cons rfl (iy.refl _) (.cons rfl (iy.refl _) (.cons rfl (iy.refl _) (.cons rfl (iy.refl _) (.cons rfl (iy.refl _) (.cons rfl (iy.refl _) .nil)))))) .nil rfl rfl rfl) ?_;rintro⟨nx,ln,gd⟩ tb hM hE;unfold aiX at hM;dsimp only at hM |-;refine fK ?_;refine fK ?_;refine dV (.cons (fU rfl)<|.cons (fU rfl)<|.cons (abQ rfl)<|.cons (AG rfl rfl rfl)<|.nil _) bp bp ?_;refine qc _ rfl (λAp=>?_) (λAp=>?_)
   .replace hM:=(AF hM).1 Ap
    obtain⟨hs,hM⟩:=mP hM;obtain⟨r,hr,hM⟩:=pt hM;refine sW ?_;refine vM ?_;refine fK ?_;refine fK ?_;refine dV (.cons (fU rfl)<|.cons (fU rfl)<|.cons (GU hs rfl rfl)<|.cons (Fa (Kf.h hr) rfl (lH.refl _) rfl)<|.cons (fU rfl)<|.cons (AH rfl rfl)<|.cons (AH rfl rfl)<|.cons (eY rfl)<|.cons (eY rfl)<|.nil _) bp bp ?_;refine fK ?_;refine dV (.cons (fU rfl)<|.nil _) bp bp ?_;refine qc _ rfl (λGH=>?_) (λGH=>?_)
    .replace hM:=(AF hM).1 GH
     obtain rfl:=Option.some.inj hM;obtain rfl:=hE _ rfl;refine HA ?_;exact⟨(),trivial,jP.of (λi=>i) (.cons rfl (iy.refl _) (.cons rfl (iy.refl _) (.cons rfl (iy.refl _) (.cons rfl (iy.refl _) (.cons rfl (iy.refl _) (.cons rfl (iy.refl _) .nil)))))) .nil rfl rfl rfl⟩
    .replace hM:=(AF hM).2 GH
     obtain rfl:=Option.some.inj hM;refine sW ?_;refine dV (.cons (fU rfl)<|.cons (AG rfl rfl rfl)<|.cons (eY rfl)<|.nil _) bp bp ?_;exact⟨(_,_,_),rfl,jP.of (λi=>i) (.cons rfl (iy.refl _) (.cons rfl (iy.refl _) (.cons rfl (iy.refl _) (.cons rfl (iy.refl _) (.cons rfl (iy.refl _) (.cons rfl (iy.refl _) .nil)))))) .nil rfl rfl rfl⟩
   .replace hM:=(AF hM).2 Ap
    obtain rfl:=Option.some.inj hM;obtain rfl:=hE _ rfl;refine HA ?_;exact⟨(),trivial,jP.of (λi=>i) (.cons rfl (iy.refl _) (.cons rfl (iy.refl _) (.cons rfl (iy.refl _) (.cons rfl (iy.refl _) (.cons rfl (iy.refl _) (.cons rfl (iy.refl _) .nil)))))) .nil rfl rfl rfl⟩
  .rintro _ -
   obtain⟨nx,ln,gd⟩:=e;dsimp only at hM |-
   -- the first part
   obtain⟨pre,rS⟩:∃pre:List gv,(if (decide (off<nx))=true then [⟨off,IntKind.wrap .i64 (nx-off),[],false⟩]else [])=pre:=⟨_,rfl⟩;rw[rS]at hM
   obtain⟨KN,Tv⟩:∃KN,rest=pre++KN:=by
    split at hM
    .obtain⟨_,hM⟩:=mP hM
     obtain⟨_,hM⟩:=mP hM;obtain⟨r2,_,hM⟩:=pt hM;exact⟨_,(Option.some.inj hM).symm⟩
    .exact⟨[],by rw[List.append_nil];exact(Option.some.inj hM).symm⟩
   have afV:parts.drop (k+pre.length)=KN:=by
    rw[<-List.drop_drop,afU,Tv,List.drop_left]
   have YH:(k+pre.length)+KN.length=parts.length:=by
    rw[Tv,List.length_append]at hlen;omega
   refine Cj ?_;refine akK ⟨[(40,.bool false),(0,.sl 1 (List.map (DV.int .u8) p)),(1,yv l),(4,.int .i64 off),(5,.int .i64 nx),(6,.int .i64 ln),(7,.bool gd)],[],[]⟩ (k+pre.length) ?_ ?_
   .by_cases HJ:decide (off<nx)=true
    .rw[if_pos HJ]at rS
     have hk:(parts.map Bg)[k]? = some (Bg ⟨off,IntKind.wrap .i64 (nx-off),[],false⟩):=by
      have:parts[k]? = some ⟨off,IntKind.wrap .i64 (nx-off),[],false⟩:=by
       have h0:=congrArg (λl=>l[0]?) afU;rw[Tv,<-rS]at h0;simpa using h0
      rw[List.getElem?_map,this];rfl
     refine JZ (k':=k+1) (.cons ((fU rfl).Mc rfl)<|.cons ((fU rfl).Mc rfl)<|.cons ((dH.cast (E':=⟨[(30,.bool true)],[],[]⟩) (AG rfl rfl rfl) (by rw[HJ])).Mc rfl)<|.cons ((fU rfl).Mc rfl)<|
      .cons ((uG .bT rfl rfl rfl (.qh .nil) (fU rfl)).Mc rfl)<|.cons ((uG .bT rfl rfl rfl (.qh .nil) (fU rfl)).Mc rfl)<|.cons ((uG .bT rfl rfl rfl (.qh .nil) (fU rfl)).Mc rfl)<|.cons ((uG .bT rfl rfl rfl (.qh .nil) (fU rfl)).Mc rfl)<|
      .cons ((uG .bT rfl rfl rfl (.strip rfl rfl (.strip rfl rfl .nil)) (AG rfl rfl rfl)).Mc rfl)<|.cons ((uG .bT rfl rfl rfl (.strip rfl rfl (.strip rfl rfl .nil)) (OQ rfl rfl rfl)).Mc rfl)<|
      .cons (Xb (r:=.FD true (.bool true)) rfl rfl (NV rfl rfl rfl) rfl (λF γ v h=>by simp only[Rs]at h;exact h.1 trivial) rfl (λF γ v h=>Zi h) JO Y hk
       [(31,.bool true),(0,.sl 1 (List.map (DV.int .u8) p)),(1,yv l),(4,.int .i64 off),(5,.int .i64 nx),(6,.int .i64 ln),(7,.bool gd)] (SL.spec (.cons rfl rfl (.cons rfl rfl (.cons rfl rfl (.cons rfl rfl (.cons rfl rfl (.cons rfl rfl (.cons rfl rfl .nil)))))))) (λF γ=>by simp only[Rs];exact⟨λ_=>trivial,λh=>dI⟩))<|
      .cons ((uG .bT rfl rfl rfl (.strip rfl rfl .nil) (Xc rfl)).Mc rfl)<|.cons ((acr rfl rfl).Mc rfl)<|.nil _ _) bp ?_
     refine⟨rfl,by rw[<-rS];rfl,?_⟩;exact(jP.of (λi=>i) (.cons rfl (iy.refl _) (.cons rfl (iy.refl _) (.cons rfl (iy.refl _) (.cons rfl (iy.refl _) (.cons rfl (iy.refl _) (.cons rfl (iy.refl _) (.cons rfl (iy.refl _) .nil))))))) .nil rfl rfl rfl)
    .rw[if_neg HJ]at rS
     have YD:decide (off<nx)=false:=Bool.eq_false_iff.2 HJ
     refine Gd (dV (.cons (fU rfl)<|.cons (fU rfl)<|.cons (dH.cast (E':=⟨[(30,.bool false)],[],[]⟩) (AG rfl rfl rfl) (by rw[YD]))<|.cons (fU rfl)<|
      .cons (oS .cu .bT rfl rfl rfl)<|.cons (oS .cu .bT rfl rfl rfl)<|.cons (oS .cu .bT rfl rfl rfl)<|.cons (oS .cu .bT rfl rfl rfl)<|.cons (oS .cu .bT rfl rfl rfl)<|.cons (oS .cu .bT rfl rfl rfl)<|.cons (oS .cu .bT rfl rfl rfl)<|
      .cons (oS (.bool false) .bT rfl rfl rfl)<|.cons (acr rfl rfl)<|.nil _) bp bp ?_)
     refine⟨rfl,by rw[<-rS];rfl,?_⟩;exact(jP.of (λi=>i) (.cons rfl (iy.refl _) (.cons rfl (iy.refl _) (.cons rfl (iy.refl _) (.cons rfl (iy.refl _) (.cons rfl (iy.refl _) (.cons rfl (iy.refl _) (.cons rfl (iy.refl _) .nil))))))) .nil rfl rfl rfl)
   .refine Pa _ rfl (λc=>by cases c) (λ_=>?_)
    refine Gd (sW ?_);refine Cj ?_;refine Cj (Gd (dV (.cons (fU rfl)<|.cons (Xc rfl)<|.nil _) bp bp ?_));refine Pa _ rfl (λhg=>?_) (λhg=>?_)
    .have oV:gd=false:=by cases gd <;> simp_all
     subst oV;refine Gd (sX ⟨.inr rfl,?_⟩);have:pre=rest:=Option.some.inj hM
     have h0:KN = []:=by
      have:=congrArg List.length (Tv.symm.trans this.symm);simpa using this
     rw[h0]at YH;simpa using YH
    .have oV:gd=true:=by cases gd <;> simp_all
     subst oV
     replace hM:=(AF hM).1 rfl
     obtain⟨LP,hM⟩:=mP hM;obtain⟨EI,hM⟩:=mP hM;obtain⟨r2,LR,hM⟩:=pt hM
     have hr':KN=⟨nx,ln,([]:List Int)++slc p (IntKind.wrap .i64 (nx+8)) (IntKind.wrap .i64 (nx+ln)),true⟩::r2:=by
      have:=Option.some.inj hM;rw[Tv]at this;exact(List.append_cancel_left this).symm
     refine Gd (sW ?_);refine Cj (Gd (dV (.cons (fU rfl)<|.cons (fU rfl)<|.cons (AG rfl rfl rfl)<|.cons (eY rfl)<|.nil _) bp bp ?_));refine Cj (Gd (dV (.cons (uU (DV.int .u8) ([]:List Int) rfl rfl rfl rfl rfl rfl rfl)<|.cons (fU rfl)<|.cons (fU rfl)<|.cons (AG rfl rfl rfl)<|.cons (fU rfl)<|.cons (Od LP rfl rfl rfl)<|.cons (Xe (pL (slc p (IntKind.wrap .i64 (nx+8)) (IntKind.wrap .i64 (nx+ln))) EI rfl rfl rfl Src.sl))<|.cons (eY rfl)<|.nil _) bp bp ?_));refine Cj ?_
     have hk:(parts.map Bg)[k+pre.length]? = some (Bg ⟨nx,ln,([]:List Int)++slc p (IntKind.wrap .i64 (nx+8)) (IntKind.wrap .i64 (nx+ln)),true⟩):=by
      have:parts[k+pre.length]? = some ⟨nx,ln,([]:List Int)++slc p (IntKind.wrap .i64 (nx+8)) (IntKind.wrap .i64 (nx+ln)),true⟩:=by
       have h0:=congrArg (λl=>l[0]?) afV;rw[hr']at h0;simpa using h0
      rw[List.getElem?_map,this];rfl
     refine JZ (k':=k+pre.length+1) (.cons ((fU rfl).Mc rfl)<|.cons ((fU rfl).Mc rfl)<|.cons ((fU rfl).Mc rfl)<|.cons ((fU rfl).Mc rfl)<|.cons ((OQ rfl rfl rfl).Mc rfl)<|
      .cons (Xb (r:=.bool true) rfl rfl (λw0 F0 F γ a w _=>rfl) rfl (λF γ v h=>by simp only[Rs]at h;exact h) rfl (λF γ v h=>ahU h rfl) JO Y hk
       [(0,.sl 1 (List.map (DV.int .u8) p)),(1,yv l),(4,.int .i64 (IntKind.wrap .i64 (nx+ln)))] (SL.spec (.cons rfl rfl (.cons rfl rfl (.cons rfl rfl .nil)))) (λF γ=>Cn))<|
      .cons ((Xc rfl).Mc rfl)<|.nil _ _) bp ?_
     refine Pa _ rfl (λc=>by cases c) (λ_=>?_);refine Gd (sW ?_);refine⟨(fu,IntKind.wrap .i64 (nx+ln),r2),⟨LR,?_,?_⟩,Nat.lt_succ_self _,jP.of (λi=>i) (.cons rfl (iy.refl _) (.cons rfl (iy.refl _) (.cons rfl (iy.refl _) .nil))) .nil rfl rfl rfl⟩
     .rw[<-List.drop_drop,afV,hr'];rfl
     .rw[hr']at YH;simp only[List.length_cons]at YH;dsimp only;omega
 .replace hM:=(AF hM).2 hb
  obtain rfl:=Option.some.inj hM;refine Gd (HA ?_);refine⟨.inl rfl,?_⟩;simpa using hlen
theorem UH{p:List Int}{parts:List gv}{fu:Nat}(hM:Mo p fu 0=some parts):Iter prog 52 [.iv [.sl 1 (List.map (DV.int .u8) p)]] (parts.map Bg):=by
 intro l J F w vs JO Y hJ hv
 have QI:tQ F eD.no [yv l,.iv [.sl 1 (List.map (DV.int .u8) p)]] (.func (.yield l) #[] #[]::vs):=by
  simp only[tQ];exact⟨_,vs,rfl,Cn,by simpa only[tQ]using hv⟩
 have e:(#[Value.func (.yield l) #[] #[]]++vs.toArray)=(.func (.yield l) #[] #[]::vs).toArray:=aR;rw[e];refine(adA (k':=(parts.map Bg).length) JO func52 rfl ntmps52 rfl aR ?_ hJ QI).mono ?_
 .refine JZ (.cons ((Mv rfl rfl).Mc rfl)<|.cons ((fU rfl).Mc rfl)<|.cons (ahf (args:=[.sl 1 (List.map (DV.int .u8) p),yv l]) rfl rfl rfl rfl (lH.refl _) rfl JO (λF w vs hJ hv=>?_) [] (SL.spec .nil))<|.nil _ _) bp ⟨.inl rfl,rfl⟩
  exact adA JO func53 rfl ntmps53 rfl aR (aki JO Y hM rfl) hJ hv
 .rintro e w' ⟨F',rfl,h1,h2⟩
  exact⟨_,F',rfl,h1,h2⟩
theorem jP.akP{σ:AS}{id T t:Nat}{f:FuncId}{ds:List DV}(hh:cF σ.heap id=some (.bJ T ds))(hi:vv ds = [])(hx:look σ.env t=some (.CG f [.ref id 0])):jP σ ⟨[(t,.CG f [.iv ds])],[],σ.used⟩:=by
 intro C F γ a w hs;obtain⟨g,k1,b,cs,rfl,k3,k4⟩:=hs.ws.si id _ hh;have ho:=hs.ws.own id _ _ b hh k1 rfl;have W:=(hs.ws.congr (h':=[]) (λi e h=>yS) (λ_ h=>h)).data k3 ho.1 ho.2 (λi e g h=>yS);refine⟨F.up b cs,γ,λt' d hl=>?_,W,hs.size,hs.defers⟩;simp only at hl;rw[eK]at hl
 split at hl
 .rename_i e1;subst e1;injection hl with hl;subst hl
  obtain⟨q1,q2⟩:=hs.env t _ hx;refine⟨q1,?_⟩;simp only[Rs,tQ]at q2 |-;obtain⟨cs',e1,v,rest,e2,⟨b',e3,e4⟩,e5⟩:=q2;rw[k1]at e3;injection e3 with e3;injection e3 with e3;injection e3 with e3;injection e3 with e3 _ _;subst e3
  refine⟨cs',e1,v,rest,e2,⟨b,0,cs,cs.toList,[],by simpa using e4,Py,aR,?_⟩,e5⟩;have:∀(ds:List DV) (vs:List Value),vv ds = []->fZ F γ ds vs->fZ (F.up b cs) eD.no ds vs:=λds vs h0 h1=>Gx ds vs (by rw[h0];intro i hi;cases hi) (fZ.mono (GO cs ho.1) (nW.refl _) ds vs h1)
  exact this ds _ hi k4
 .cases hl
theorem akh{p:List Int}(h:dK 1 (List.length ([]:List Int)+List.length p)):br prog 28 [.sl 1 (List.map (DV.int .u8) p)] (.CG 52 [.iv [.sl 1 (List.map (DV.int .u8) (([]:List Int)++p))]]):=by
 refine br.body func28 ntmps28 rfl rfl rfl rfl ?_;refine fK ?_;refine dV (.cons (eY rfl)<|.nil _) bp bp ?_;refine fK ?_;refine dV (.cons (uU (DV.int .u8) ([]:List Int) rfl rfl rfl rfl rfl rfl rfl)<|.cons (fU rfl)<|.cons (Xe (pL p h rfl rfl rfl Src.sl))<|.cons (DT rfl)<|.cons (wC rfl rfl rfl rfl rfl)<|.nil _) bp bp ?_;refine fK ?_;refine dV (.cons (JM rfl)<|.cons (eY rfl)<|.nil _) bp bp ?_;refine sy (jP.akP (id:=3) (t:=2) rfl rfl rfl) ?_;exact sX (oU (.r1 (.tmp rfl)) (iy.refl _) kE.nil.spec)
end Go.Proofs.YtaafmkmdfcgeaaaGreatDoor
