/- Part 5 of what the claim leans on. -/
import Derived.Test.YtaafmkmdfcgeaaaGreatDoorRBv4
set_option maxRecDepth 100000
set_option linter.unusedVariables false
set_option linter.unusedSimpArgs false
set_option maxHeartbeats 4000000
noncomputable section
namespace Go.Proofs.YtaafmkmdfcgeaaaGreatDoor
open Go.Proofs.Tryz
def MN(k:Int):fb:=(tb9[k.toNat]?).getD ⟨false,false,0,0,false,false⟩
theorem acY{k:Int}(h:1<=k∧k<=10):ly k=some (MN k,true):=by
 unfold ly;refine dD (aq (λhb=>?_) (λ_=>?_))
 .simp at hb;omega
 .obtain⟨j,rfl⟩:=Int.eq_ofNat_of_zero_le (show 0<=k by omega)
  have hj:j<tb9.length:=by show j<11;omega
  refine aF (fW _ _ |>.trans (List.getElem?_eq_getElem hj)) (aj ?_);unfold MN;rw[Int.toNat_natCast,List.getElem?_eq_getElem hj];rfl
structure alh(k:Int)(n h:ByteArray)(c:Nat)(p q:Bool):Prop where
 FY:((MN k).vY=true∧db n=some true)∨((MN k).vY=false∧n=ByteArray.empty)
 ZF:((MN k).xn=true∧db h=some true)∨((MN k).xn=false∧h=ByteArray.empty)
 lo:(MN k).Kc<=(c:Int)
 hi:(c:Int)<=(MN k).Xw
 th:(MN k).RR=p
 el:(MN k).Pd=q
theorem Ss.ok{C:SN}{k:Int}{n h:ByteArray}{t:Bool}{c:Nat}{p q:Bool}(x:Ss C k n h t c p q)(hC:HB C):alh k n h c p q:=by
 have h1:=hC.i;have h2:=hC.t;have h3:=hC.f;have h4:=hC.p;have h5:=hC.al;have h6:=hC.ar
 have rh:∀{i h:Nat} {r:List Int} {c:Int},C.gw[i]? = some r->r[h]? = some c->i<3∧h<3:=by
  intro i h r c a b;have:=(List.getElem?_eq_some_iff.1 a).1;have:=(List.getElem?_eq_some_iff.1 b).1;have:=h6 r (List.mem_of_getElem? a);omega
 cases x with
 |set a=>exact⟨.inl ⟨rfl,OT ah⟩,.inr ⟨rfl,rfl⟩,aV,aV,rfl,rfl⟩
 |Zc=>exact⟨.inl ⟨rfl,Ve⟩,.inr ⟨rfl,rfl⟩,aV,aV,rfl,rfl⟩
 |put a=>exact⟨.inl ⟨rfl,Hh⟩,.inr ⟨rfl,rfl⟩,aV,aV,rfl,rfl⟩
 |del a=>exact⟨.inl ⟨rfl,Hh⟩,.inr ⟨rfl,rfl⟩,aV,aV,rfl,rfl⟩
 |iff=>exact⟨.inr ⟨rfl,rfl⟩,.inr ⟨rfl,rfl⟩,aV,aV,rfl,rfl⟩
 |whl=>exact⟨.inr ⟨rfl,rfl⟩,.inr ⟨rfl,rfl⟩,aV,aV,rfl,rfl⟩
 |send a b e=>
  obtain⟨y,z⟩:=rh a b;exact⟨.inl ⟨rfl,XH y⟩,.inl ⟨rfl,Vd z⟩,show(0:Int)<=_ by omega,show _<=(4:Int) by omega,rfl,rfl⟩
 |aft a b e=>
  obtain⟨y,z⟩:=rh a b;exact⟨.inr ⟨rfl,rfl⟩,.inl ⟨rfl,Vd z⟩,show(1:Int)<=_ by omega,show _<=(5:Int) by omega,rfl,rfl⟩
 |store=>exact⟨.inr ⟨rfl,rfl⟩,.inr ⟨rfl,rfl⟩,aV,aV,rfl,rfl⟩
 |MT a=>exact⟨.inl ⟨rfl,OT ah⟩,.inr ⟨rfl,rfl⟩,aV,aV,rfl,rfl⟩
 |stop=>exact⟨.inr ⟨rfl,rfl⟩,.inr ⟨rfl,rfl⟩,aV,aV,rfl,rfl⟩
section
variable {C:SN} {t:Bool} {k:Int} {n h:ByteArray} {c:Nat} {p q:Bool} {l s z:List DV}
theorem ake(hl:l.length<=3)(he:∀e∈l,WE C Ei 6 t e):lM ⟨k,n,h,l,s,z⟩=some true:=by
 unfold lM;refine dD (eS (λ_ _=>True) Ir trivial ?_ (λ_ _=>aL (aj rfl)));intro j _ hj _;refine bO hj (λa a1 a2=>?_);obtain⟨e,e1,e2⟩:=an8 (he a a2) ah (fu:=64) ah;refine aF e1 (av e2 ?_);rintro r ⟨r0,r1⟩;exact aq (λhb=>Sr) (λ_=>ay (aj trivial))
theorem akD(hC:HB C)(hl:l.length<=3)(he:∀e∈l,WE C Ei 6 t e)(hf:alh k n h c p q)(hk:1<=k∧k<=10):qt ⟨k,n,h,l,s,z⟩=some true:=by
 have hw:ub ⟨k,n,h,l,s,z⟩=some true:=by
  unfold ub;refine dD (eS (λ_ _=>True) Ir trivial ?_ (λ_ _=>aL (aj rfl)));intro j _ hj _;refine bO hj (λa a1 a2=>?_);obtain⟨e,e1,e2⟩:=an0 hC (he a a2) (fu:=64) ah;exact aF e1 (aF XT (aq (λhb=>dw) (λ_=>ay (aj trivial))))
 unfold qt;refine dD (aF (acY hk) ?_);refine av (P:=λv=>((MN k).vY && !v)=false) (gX (λh=>?_) (λh=>?_)) (λv4 h4=>?_)
 .rcases hf.FY with⟨a,b⟩|⟨a,b⟩
  .exact⟨true,b,aR⟩
  .dsimp only at h;rw[a]at h;cases h
 .dsimp only at h;rw[h];rfl
 refine av (P:=λv=>((MN k).xn && !v)=false) (gX (λh=>?_) (λh=>?_)) (λv6 h6=>?_)
 .rcases hf.ZF with⟨a,b⟩|⟨a,b⟩
  .exact⟨true,b,aR⟩
  .dsimp only at h;rw[a]at h;simp at h
 .dsimp only at h;rw[h4]at h;simp at h;rw[h];rfl
 refine aq (λhb=>?_) (λ_=>aF (by unfold cl;exact hw) (aL (aj rfl)));dsimp only at hb;rw[h4,h6]at hb;cases hb
theorem ahF(hC:HB C)(hl:l.length<=3)(Tl:l.length=c)(he:∀e∈l,WE C Ei 6 t e)(hf:alh k n h c p q)(hk:1<=k∧k<=10)(hs:p=false->s = [])(hz:q=false->z = []):oZ ⟨k,n,h,l,s,z⟩=some true:=by
 have hw:tt ⟨k,n,h,l,s,z⟩=some true:=by
  unfold tt;refine dD (eS (λ_ _=>True) Ir trivial ?_ (λ_ _=>aL (aj rfl)));intro j _ hj _;refine bO hj (λa a1 a2=>?_);obtain⟨e,e1,e2⟩:=an7 hC (he a a2) (fu:=64) ah;exact aF e1 (aF XT (aq (λhb=>dw) (λ_=>ay (aj trivial))))
 have f1:decide ((l.length:Int)<(MN k).Kc)=false:=by have:=hf.lo;simp;omega
 have f2:decide ((MN k).Xw<(l.length:Int))=false:=by have:=hf.hi;simp;omega
 have f3:((!(MN k).vY)&&(!(n.toList==ByteArray.empty.toList)))=false:=by
  rcases hf.FY with⟨a,b⟩|⟨a,b⟩
  .rw[a];rfl
  .rw[a,b];simp
 have f4:((!(MN k).xn)&&(!(h.toList==ByteArray.empty.toList)))=false:=by
  rcases hf.ZF with⟨a,b⟩|⟨a,b⟩
  .rw[a];rfl
  .rw[a,b];simp
 have f5':((!(MN k).RR)&&(decide ((0:Int)<(s.length:Int))))=false:=by
  rw[hf.th];cases p with
  |true=>rfl
  |false=>rw[hs rfl];rfl
 have f6:((!(MN k).Pd)&&(decide ((0:Int)<(z.length:Int))))=false:=by
  rw[hf.el];cases q with
  |true=>rfl
  |false=>rw[hz rfl];rfl
 have fin:Wp (qv ⟨k,n,h,l,s,z⟩ ()) (· = true):=aF (by unfold cl;exact hw) (aL (aj rfl));unfold oZ
 have r4:∀b:Bool,b=false->Wp (mE ⟨k,n,h,l,s,z⟩ b) (· = true):=by
  rintro b rfl;exact aq (λhb=>dw) (λ_=>ay fin)
 have r3:∀b:Bool,b=false->Wp (mF ⟨k,n,h,l,s,z⟩ (MN k,true) b) (· = true):=by
  rintro b rfl;exact aq (λhb=>dw) (λ_=>cX (aq (λ_=>ay (r4 _ f5')) (λ_=>ay (r4 _ f6))))
 have r2:∀b:Bool,b=false->Wp (jT ⟨k,n,h,l,s,z⟩ (MN k,true) b) (· = true):=by
  rintro b rfl;exact aq (λhb=>dw) (λ_=>cX (aq (λ_=>ay (r3 _ f3)) (λ_=>ay (r3 _ f4))))
 exact dD (aF (acY hk) (cX (cX (aq (λ_=>ay (r2 _ rfl)) (λ_=>aq (λ_=>ay (r2 _ f1)) (λ_=>ay (r2 _ f2)))))))
end
theorem Vq{C:SN}(hC:HB C):∀(d:Nat) {n:Nat} {l:List DV},WB C Ei Vb d n l->n<=12->∀{fu:Nat},d<fu->sG fu l=some true:=by
 intro d
 induction d with
 |zero=>
  rintro n l ⟨rfl,rfl⟩ _ fu hf;obtain⟨g,rfl⟩:∃g,fu=g+1:=⟨fu-1,ah⟩;exact dD (eS (λ_ _=>True) aR trivial (λj _ hj _=>DE) (λ_ _=>aL (aj rfl)))
 |succ d ih=>
  intro n l h hn fu hf;obtain⟨g,rfl⟩:∃g,fu=g+1:=⟨fu-1,ah⟩;have hl:=h.len;refine dD (eS (λ_ _=>True) gx trivial ?_ (λ_ _=>aL (aj rfl)));intro j _ hj _;refine bO hj (λx x1 x2=>?_);obtain⟨a,a1,hx⟩:=WL.get h x2;obtain⟨sh,Tl,he,hs,hz,hp,hq⟩:=hx;have hc3:=sh.c3;refine aF (zO _) (aF (by unfold cl;exact ake ah he) ?_);exact jK rfl adI (jK rfl adH (aq (λhb=>dw) (λ_=>ay (aj trivial))))
theorem Sf{C:SN}(hC:HB C):∀(d:Nat) {n:Nat} {l:List DV},WB C Ei Vb d n l->n<=12->∀{fu:Nat},d<fu->qY fu l=some true:=by
 intro d
 induction d with
 |zero=>
  rintro n l ⟨rfl,rfl⟩ _ fu hf;obtain⟨g,rfl⟩:∃g,fu=g+1:=⟨fu-1,ah⟩;exact dD (eS (λ_ _=>True) aR trivial (λj _ hj _=>DE) (λ_ _=>aL (aj rfl)))
 |succ d ih=>
  intro n l h hn fu hf;obtain⟨g,rfl⟩:∃g,fu=g+1:=⟨fu-1,ah⟩;have hl:=h.len;refine dD (eS (λ_ _=>True) gx trivial ?_ (λ_ _=>aL (aj rfl)));intro j _ hj _;refine bO hj (λx x1 x2=>?_);obtain⟨a,a1,hx⟩:=WL.get h x2;obtain⟨sh,Tl,he,hs,hz,hp,hq⟩:=hx;have hc3:=sh.c3;refine aF (zO _) (aF (by unfold cl;exact akD hC ah he (sh.ok hC) sh.op) ?_);exact jK rfl adI (jK rfl adH (aq (λhb=>dw) (λ_=>ay (aj trivial))))
theorem Se{C:SN}(hC:HB C):∀(d:Nat) {n:Nat} {l:List DV},WB C Ei Vb d n l->n<=12->∀{fu:Nat},d<fu->qX fu l=some true:=by
 intro d
 induction d with
 |zero=>
  rintro n l ⟨rfl,rfl⟩ _ fu hf;obtain⟨g,rfl⟩:∃g,fu=g+1:=⟨fu-1,ah⟩;exact dD (eS (λ_ _=>True) aR trivial (λj _ hj _=>DE) (λ_ _=>aL (aj rfl)))
 |succ d ih=>
  intro n l h hn fu hf;obtain⟨g,rfl⟩:∃g,fu=g+1:=⟨fu-1,ah⟩;have hl:=h.len;refine dD (eS (λ_ _=>True) gx trivial ?_ (λ_ _=>aL (aj rfl)));intro j _ hj _;refine bO hj (λx x1 x2=>?_);obtain⟨a,a1,hx⟩:=WL.get h x2;obtain⟨sh,Tl,he,hs,hz,hp,hq⟩:=hx;have hc3:=sh.c3;refine aF (zO _) (aF (by unfold cl;exact ahF hC ah Tl he (sh.ok hC) sh.op hp hq) ?_);exact jK rfl adI (jK rfl adH (aq (λhb=>dw) (λ_=>ay (aj trivial))))
theorem NS{S:Nat->DV->Prop}{n:Nat}{l:List DV}(h:WL S n l)(hS:∀n s,S n s->1<=n):∃f:Nat->Nat,f 0=0∧f l.length=n∧(∀j,j<=l.length->j<=f j∧f j<=n)∧∀(j:Nat) (x:DV),l[j]? = some x->∃a,f (j+1)=f j+a∧S a x:=by
 obtain⟨f,f0,f1,f2⟩:=h.split;refine⟨f,f0,f1,λj hj=>⟨?_,?_⟩,f2⟩
 .induction j with
  |zero=>omega
  |succ j ih=>
   obtain⟨a,a1,a2⟩:=f2 j _ (List.getElem?_eq_getElem ah);have:=hS _ _ a2;omega
 .have up:∀m,m+j<=l.length->f j<=f (m+j):=by
   intro m
   induction m with
   |zero=>simp
   |succ m ih=>
    intro hm;obtain⟨a,a1,a2⟩:=f2 (m+j) _ (List.getElem?_eq_getElem ah)
    grind
  have:=up (l.length-j) ah
  simp_all
theorem abZ{C:SN}:∀(d:Nat) {n:Nat} {l:List DV},WB C Ei Vb d n l->n<=12->∀{fu:Nat},d<fu->ot fu l=some (n:Int):=by
 intro d
 induction d with
 |zero=>
  rintro n l ⟨rfl,rfl⟩ _ fu hf;obtain⟨g,rfl⟩:∃g,fu=g+1:=⟨fu-1,ah⟩;exact dD (cC (λ_ s=>s=0) aR rfl (λj _ hj _=>DE) (λ_ h=>aj h))
 |succ d ih=>
  intro n l h hn fu hf;obtain⟨g,rfl⟩:∃g,fu=g+1:=⟨fu-1,ah⟩;have hl:=h.len;obtain⟨f,f0,f1,f2,f3⟩:=NS h (λ_ _=>WF.pos);refine dD (cC (λj s=>s=(l.length:Int)+f j-j) gx ah ?_ ?_)
  .intro j s hj hs
   refine bO hj (λx x1 x2=>?_);obtain⟨a,a1,hx⟩:=f3 j x x1;have b2:=f2 (j+1) ah;obtain⟨sh,Tl,he,hs,hz,hp,hq⟩:=hx;refine aF (zO _) (aF (ih hs ah ah) (aF (ih hz ah ah) (ay (aj ?_))));rw[IntKind.wrap_i64,IntKind.wrap_i64];omega
  .intro s hs
   rw[Int.toNat_natCast,f1]at hs;exact aj ah
theorem adg{C:SN}:∀(d:Nat) {n:Nat} {l:List DV},WB C Ei Vb d n l->n<=12->d<=8->∀{fu:Nat},d<fu->Wp (vg fu l) λr=>0<=r∧r<=d:=by
 intro d
 induction d with
 |zero=>
  rintro n l ⟨rfl,rfl⟩ _ _ fu hf;obtain⟨g,rfl⟩:∃g,fu=g+1:=⟨fu-1,ah⟩;exact aq (λ_=>aj ah) (λh=>AV)
 |succ d ih=>
  intro n l h hn hd fu hf;obtain⟨g,rfl⟩:∃g,fu=g+1:=⟨fu-1,ah⟩;have hl:=h.len;refine aq (λ_=>aj ah) (λ_=>?_);refine cC (λ_ r=>0<=r∧r<=(d:Int)) gx ah ?_ ?_
  .rintro j s hj ⟨s0,s1⟩
   refine bO hj (λx x1 x2=>?_);obtain⟨a,a1,hx⟩:=WL.get h x2;obtain⟨sh,Tl,he,hs,hz,hp,hq⟩:=hx;refine aF (zO _) (av (ih hs ah ah ah) ?_);rintro r ⟨r0,r1⟩;refine av (ih hz ah ah ah) ?_;rintro q ⟨q0,q1⟩;exact ay (aj ah)
  .rintro s ⟨s0,s1⟩
   exact aj aeC
theorem Zx{V:Type}(xs:List (ByteArray×V))(k:ByteArray)(v:V):(FZ xs k v).length<=xs.length+1:=by
 unfold FZ
 grind
structure Cx5(I T F:Nat)(gw:List (List Int)):Prop where
 i3:I<=3
 t1:T<=1
 f2:F<=2
 al:gw.length<=3
 ar:∀r∈gw,r.length<=3
theorem Cx5.sn{I T F:Nat}{gw:List (List Int)}(h:Cx5 I T F gw){p own:Nat}(hp:p<=2):HB ⟨I,T,F,p,gw,own⟩:=by
 obtain⟨a,b,c,d,e⟩:=h;exact⟨bB,bB,bB,bB,d,e⟩
theorem Fu.ctx{gw:List (List Int)}{f:bu}(h:Fu gw f){i I T:Nat}{r:List Int}{x:aO}(hx:SCW f.aY.length gw i I T r x):Cx5 I T f.aY.length gw:=⟨hx.i3,hx.t1,h.f2,by have:=h.al;have:=h.n3;omega,λr hr=>(h.ar r hr).2.1⟩
theorem Fu.each{gw:List (List Int)}{f:bu}(h:Fu gw f){c:aO}(hc:c∈f.aG):∃i I T r,f.aG[i]? = some c∧Cx5 I T f.aY.length gw∧SCW f.aY.length gw i I T r c∧r.length<=3:=by
 obtain⟨i,hi,rfl⟩:=List.getElem_of_mem hc;obtain⟨I,T,r,g⟩:=h.cs i _ (List.getElem?_eq_getElem hi);exact⟨i,I,T,r,List.getElem?_eq_getElem hi,h.ctx g,g,(h.ar r (List.mem_of_getElem? g.ar)).2.1⟩
theorem akf{I T F:Nat}{gw:List (List Int)}{own k:Nat}{r:List Int}{x:bG}(ctx:Cx5 I T F gw)(h:LN I T F gw own r k x):tG x=some true:=by
 obtain⟨p,p2,rp,k3,FY,LV,a,a12,hb⟩:=h;have hp:x.dY.length=p:=eJ;refine dD (jK iC (abZ 4 hb a12 ah) ?_);refine av (gX (λ_=>adg 4 hb a12 ah ah) (λh=>aR)) ?_;rintro v ⟨v0,v1⟩;refine aq (λhb=>Sr) (λ_=>aF (by unfold cl;exact Vq (ctx.sn p2) 4 hb a12 ah) (aj rfl))
theorem akE{I T F:Nat}{gw:List (List Int)}{own k:Nat}{r:List Int}{x:bG}(ctx:Cx5 I T F gw)(h:LN I T F gw own r k x):yt x=some true:=by
 obtain⟨p,p2,rp,k3,FY,LV,a,a12,hb⟩:=h;have hp:x.dY.length=p:=eJ;refine dD (aF (by rw[FY];exact Vd k3) ?_);refine cC (λ_ s=>s=true) gx rfl ?_ ?_
 .rintro j s hj rfl
  refine bO hj (λy y1 y2=>?_)
  have:db y=some true:=by
   rw[LV]at y2;obtain⟨i,hi,rfl⟩:=List.mem_map.1 y2;exact acw (by have:=List.mem_range.1 hi;omega)
  exact jK rfl this (ay (aj rfl))
 .rintro s rfl
  exact jK rfl (by unfold cl;exact Sf (ctx.sn p2) 4 hb a12 ah) (aj rfl)
theorem ahG{I T F:Nat}{gw:List (List Int)}{own k:Nat}{r:List Int}{x:bG}(ctx:Cx5 I T F gw)(h:LN I T F gw own r k x):xE x=some true:=by
 obtain⟨p,p2,rp,k3,FY,LV,a,a12,hb⟩:=h;exact dD (aF (by unfold cl;exact Se (ctx.sn p2) 4 hb a12 ah) (aj rfl))
theorem Gk{gw:List (List Int)}{f:bu}(h:Fu gw f):rJ f=some true:=by
 have n3:=h.n3;refine dD (eS (λ_ _=>True) nV trivial ?_ (λ_ _=>aL (aj rfl)));intro j _ hj _;refine bO hj (λc _ c2=>?_);obtain⟨i,I,T,r,c1,ctx,g,r3⟩:=h.each c2;have v2:=g.v2;refine eS (λ_ _=>True) gx trivial ?_ (λ_ _=>ay (aj trivial));intro j _ hj _;refine bO hj (λu _ u2=>?_);have hu:=(g.h1 u u2).2;refine eS (λ_ _=>True) gx trivial ?_ (λ_ _=>ay (aj trivial));intro j _ hj _;refine bO hj (λy y1 y2=>?_);exact aF (akf ctx (g.hs u u2 j y y1)) (aq (λhb=>dw) (λ_=>ay (aj trivial)))
theorem Fk{gw:List (List Int)}{f:bu}(h:Fu gw f):qy f=some true:=by
 have n3:=h.n3;refine dD (eS (λ_ _=>True) nV trivial ?_ (λ_ _=>aL (aj rfl)));intro j _ hj _;refine bO hj (λc _ c2=>?_);obtain⟨i,I,T,r,c1,ctx,g,r3⟩:=h.each c2;have v2:=g.v2;refine eS (λ_ _=>True) gx trivial ?_ (λ_ _=>ay (aj trivial));intro j _ hj _;refine bO hj (λu _ u2=>?_);have hu:=(g.h1 u u2).2;refine eS (λ_ _=>True) gx trivial ?_ (λ_ _=>ay (aj trivial));intro j _ hj _;refine bO hj (λy y1 y2=>?_);exact aF (akE ctx (g.hs u u2 j y y1)) (aq (λhb=>dw) (λ_=>ay (aj trivial)))
theorem Fj{gw:List (List Int)}{f:bu}(h:Fu gw f):qx f=some true:=by
 have n3:=h.n3;refine dD (eS (λ_ _=>True) nV trivial ?_ (λ_ _=>aL (aj rfl)));intro j _ hj _;refine bO hj (λc _ c2=>?_);obtain⟨i,I,T,r,c1,ctx,g,r3⟩:=h.each c2;have v2:=g.v2;refine eS (λ_ _=>True) gx trivial ?_ (λ_ _=>ay (aj trivial));intro j _ hj _;refine bO hj (λu _ u2=>?_);have hu:=(g.h1 u u2).2;refine eS (λ_ _=>True) gx trivial ?_ (λ_ _=>ay (aj trivial));intro j _ hj _;refine bO hj (λy y1 y2=>?_);exact aF (ahG ctx (g.hs u u2 j y y1)) (aq (λhb=>dw) (λ_=>ay (aj trivial)))
theorem Fu.MB{gw:List (List Int)}{f:bu}(h:Fu gw f):f.fJ.length<=9∧∀l∈f.fJ,∃a b:Nat,a<f.aG.length∧b<f.aG.length∧l.gz=cn a∧l.uJ=cn b∧1<=l.pW∧l.pW<=3:=by
 obtain⟨ks,k1,k2,k3⟩:=h.lk;have n1:=h.n1;have n3:=h.n3;refine⟨?_,λl hl=>?_⟩
 .rw[k3,List.length_map,<-List.length_map (f:=(·.1))]
  refine OJ 9 _ k1 (λy hy=>?_);obtain⟨p,hp,rfl⟩:=List.mem_map.1 hy;have:=(k2 p hp).1;have h9:=Nat.mul_le_mul n3 n3;omega
 .rw[k3]at hl
  obtain⟨p,hp,rfl⟩:=List.mem_map.1 hl;have:=k2 p hp;exact⟨_,_,Nat.div_lt_of_lt_mul this.1,Nat.mod_lt _ ah,rfl,rfl,this.2⟩
theorem SCW.Ur{F:Nat}{gw:List (List Int)}{i I T:Nat}{r:List Int}{x:aO}(h:SCW F gw i I T r x):x.eG.length=I+1+T:=by rw[h.vars];unfold vW;simp;omega
theorem ab3{gw:List (List Int)}{f:bu}(h:Fu gw f):Bm f=some true:=by
 have n1:=h.n1;have n3:=h.n3;have f2:=h.f2;have l9:=h.MB.1;refine dD (aq (λhb=>ajj) (λ_=>?_));refine eS (λ_ _=>True) gx trivial ?_ (λ_ _=>aF (by unfold cl;exact Gk h) (aj rfl));intro j _ hj _;refine bO hj (λc _ c2=>?_);obtain⟨i,I,T,r,c1,ctx,g,r3⟩:=h.each c2;have v1:=g.v1;have v2:=g.v2;have vl:=g.Ur;have i3:=g.i3;have t1:=g.t1;refine aq (λhb=>ajj) (λ_=>Um ?_);refine cC (λj s=>s.length<=3*j) gx aR ?_ ?_
 .intro j s hj hs
  refine bO hj (λu _ u2=>?_);have hu:=(g.h1 u u2).2;refine cC (λk s=>s.length<=3*j+k) gx ah ?_ ?_
  .intro k s hk hs
   refine bO hk (λy _ y2=>aX (ay (aj ?_)));have:=Zx s y.bx true;omega
  .intro s hs
   exact ay (aj ah)
 .intro s hs
  exact aq (λhb=>Sr) (λ_=>ay (aj trivial))
theorem Av{I T:Nat}{v:dA}(h:v∈vW I T):(∃i,i<I∧v=⟨nm 120 i,1,(i:Int)⟩)∨v=⟨nm 98 0,2,0⟩∨(∃i,i<T∧v=⟨nm 116 i,3,0⟩):=by
 rcases List.mem_append.1 h with h|h
 .rcases List.mem_append.1 h with h|h
  .obtain⟨i,hi,rfl⟩:=List.mem_map.1 h
   exact .inl ⟨i,List.mem_range.1 hi,rfl⟩
  simp_all
 .obtain⟨i,hi,rfl⟩:=List.mem_map.1 h
  exact .inr (.inr ⟨i,List.mem_range.1 hi,rfl⟩)
theorem acA{gw:List (List Int)}{f:bu}(h:Fu gw f):Bn f=some true:=by
 have n3:=h.n3;have f2:=h.f2;have l9:=h.MB;refine dD (aF (by rw[h.name];exact an6) ?_);refine cC (λ_ s=>s=true) gx rfl ?_ ?_
 .rintro j s hj rfl
  refine bO hj (λy y1 y2=>jK rfl ?_ (ay (aj rfl)));rw[h.fn j y y1];exact acx ah
 rintro s rfl;refine cC (λ_ s=>s=true) gx rfl ?_ ?_
 .rintro j s hj rfl
  refine bO hj (λy y1 y2=>?_);obtain⟨a,b,ha,hb,e1,e2,_⟩:=l9.2 y y2;exact jK rfl (by rw[e1];exact XH ah) (jK rfl (by rw[e2];exact XH ah) (ay (aj rfl)))
 rintro s rfl;refine cC (λ_ s=>s=true) gx rfl ?_ ?_
 .rintro j s hj rfl
  refine bO hj (λc c1 c2=>?_);obtain⟨I,T,r,g⟩:=h.cs j c c1;have vl:=g.Ur;have i3:=g.i3;have t1:=g.t1;refine jK rfl (by rw[g.name];exact XH ah) ?_;refine cC (λ_ s=>s=true) gx rfl ?_ (λs hs=>ay (aj hs));rintro k s hk rfl;refine bO hk (λy y1 y2=>jK rfl ?_ (ay (aj rfl)));rw[g.vars]at y2;rcases Av y2 with⟨i,hi,rfl⟩ | rfl|⟨i,hi,rfl⟩
  .exact OT ah
  .exact Ve
  .obtain rfl:i=0:=by omega
   exact Hh
 rintro s rfl;exact jK rfl (by unfold cl;exact Fk h) (aj rfl)
theorem ZL{gw:List (List Int)}{f:bu}(h:Fu gw f):zT f=some true:=by
 have n3:=h.n3;have l9:=h.MB;refine dD (eS (λ_ _=>True) gx trivial ?_ ?_)
 .intro j _ hj _
  refine bO hj (λy y1 y2=>?_);obtain⟨a,b,ha,hb,e1,e2,e3,e4⟩:=l9.2 y y2;exact aq (λhb=>Sr) (λ_=>ay (aj trivial))
 intro _ _;refine eS (λ_ _=>True) gx trivial ?_ (λ_ _=>aF (by unfold cl;exact Fj h) (aj rfl));intro j _ hj _;refine bO hj (λc c1 c2=>?_);obtain⟨I,T,r,g⟩:=h.cs j c c1;have vl:=g.Ur;have i3:=g.i3;have t1:=g.t1;refine eS (λ_ _=>True) gx trivial ?_ (λ_ _=>ay (aj trivial));intro k _ hk _;refine bO hk (λy y1 y2=>aF (x:=true) ?_ (aq (λhb=>dw) (λ_=>ay (aj trivial))));rw[g.vars]at y2;rcases Av y2 with⟨i,hi,rfl⟩ | rfl|⟨i,hi,rfl⟩
 .refine dD (aq (λ_=>aj ?_) (λhb=>dw))
  rfl
 .exact dD (aq (λhb=>dw) (λ_=>aq (λ_=>aj rfl) (λhb=>dw)))
 .exact dD (aq (λhb=>dw) (λ_=>aq (λhb=>dw) (λ_=>aq (λ_=>aj rfl) (λhb=>dw))))
theorem KG{gw:List (List Int)}{f:bu}(h:Fu gw f):vh f=some 0:=by
 exact dD (aF (ab3 h) (aq (λhb=>dw) (λ_=>aF (acA h) (aq (λhb=>dw) (λ_=>aF (ZL h) (aq (λhb=>dw) (λ_=>aj rfl)))))))
open Go.RowKit
attribute [local irreducible] gL dH br gY jP dK fC kY
structure mZ where
 acQ:ByteArray
 bx:ByteArray
 II:Int
def mZ.cs(x:mZ):List DV:=[.str x.acQ,.str x.bx,.int .i64 x.II]
structure aH where
 fT:bu
 Dr:ByteArray
 uC:mZ
def gC(x:aH):List DV:=[.str x.fT.bx,.sl 2 (List.map lZ x.fT.aY),.sl 3 (List.map pE x.fT.fJ),.sl 3 (List.map nr x.fT.aG),.str x.Dr,.str x.uC.acQ,.str x.uC.bx,.int .i64 x.uC.II]
structure dQ where
 dN:List cv
 ir:List dA
 eM:List ByteArray
def Be(x:dQ):List DV:=[.sl 2 (List.map lZ x.dN),.sl 3 (List.map xD x.ir),.sl 1 (List.map DV.str x.eM)]
structure dR where
 an5:Unit
 tK:dQ
 kS:aO
 Ff:ByteArray
 wF:Int
def dR.b0(x:dR)(d0:DV):List DV:=[d0,.sl 2 (List.map lZ x.tK.dN),.sl 3 (List.map xD x.tK.ir),.sl 1 (List.map DV.str x.tK.eM),.str x.kS.bx,.sl 3 (List.map xD x.kS.eG),.sl 1 (List.map wi x.kS.bf),.str x.Ff,.int .i64 x.wF]
@[reducible] def oa(s2:aH):Option (Bool×aH) :=rX [] (some ((s2.uC.II==0),s2))
def fi(x1:Int)(x2:ByteArray)(o0:aH):Option (Bool×aH) :=jn oa 1 [9000] [0] [] i2 (λs t=>(9000,some (.bJ 444 (gC s)))::t)<|If ((o0.uC.II==0)&&(x1 != 0)) (nX [] [] (oa ({ o0 with uC:=(mZ.mk o0.Dr x2 x1) }:aH)))<|nX [] [] (oa o0)
instance Lg{x1 x2 o0}:MA (fi x1 x2 o0) prog 224 (λ_=>1) λr=>⟨[.ref 9000 0,.I x1,.str x2],[(9000,some (.bJ 444 (gC o0)))],.bool r.1,[(9000,some (.bJ 444 (gC r.2)))],[]⟩:=.b func224 ntmps224
def gQ(x1:ByteArray)(o0:aH):Option (Bool×aH) :=rX [] (some ((o0.uC.II==0),({ o0 with Dr:=x1 }:aH)))
instance QO{x1 o0}:MA (gQ x1 o0) prog 291 (λ_=>1) λr=>⟨[.ref 9000 0,.str x1],[(9000,some (.bJ 444 (gC o0)))],.bool r.1,[(9000,some (.bJ 444 (gC r.2)))],[]⟩:=.b func291 ntmps291
def yr(x0:cv)(o0:ByteArray):Option Bool :=rX [] (some (x0.bx.toList==o0.toList))
instance YM{x0 o0}:MA (yr x0 o0) prog 359 (λ_=>0) λr=>⟨[.agg (Uh x0),.ref 9000 0],[(9000,some (.bJ 9 [.str o0]))],.bool r,[(9000,some (.bJ 9 [.str o0]))],[]⟩:=.b func359 ntmps359
def gU(x0:List cv)(o0:ByteArray):Option Int :=fO (E:=Int) () 8 [9000] [0,1,7] [9000] i2 i2 [] [] m64 (x0.length:Int) (λk1 _=>Bi (idx x0 (k1:Int)) λv4=>Bi (cl 16 [] (yr v4 o0)) λv6=>If v6 (rX [] (some (.done (k1:Int))))<|nX [] [] (some (.next ()))) fun
  |.next _=>rX [] (some (-1))
  |.done r=>some r
instance Az{x0 o0}:MA (gU x0 o0) prog 392 (λ_=>0) λr=>⟨[.L 2 lZ x0,.CG 359 [.ref 9000 0]],[(9000,some (.bJ 9 [.str o0]))],.I r,[(9000,some (.bJ 9 [.str o0]))],[]⟩:=.b func392 ntmps392
def gn(x0:List cv)(o0:ByteArray):Option Bool :=Bi (cl 7 [] (gU x0 o0)) λv2=>rX [] (some (decide (0<=v2)))
instance zl{x0 o0}:MA (gn x0 o0) prog 358 (λ_=>0) λr=>⟨[.L 2 lZ x0,.CG 359 [.ref 9000 0]],[(9000,some (.bJ 9 [.str o0]))],.bool r,[(9000,some (.bJ 9 [.str o0]))],[]⟩:=.b func358 ntmps358
def oP(x0:List cv)(x1:ByteArray):Option Bool :=Bi (cl 7 [(9000,3)] (gn x0 x1)) λv2=>some v2
instance agE{x0 x1}:MC (oP x0 x1) λr=>br prog 293 [.L 2 lZ x0,.str x1] (.bool r):=.p func293 ntmps293
@[reducible] def nZ(x3:ByteArray)(o0:aH)(s4:Int):Option (Bool×aH) :=Bi (cl 13 [] (fi s4 x3 o0)) λv3=>rX [] (some (v3.1,v3.2))
def da(x1:Bool)(x2:Int)(x3:ByteArray)(o0:aH):Option (Bool×aH) :=jn (nZ x3 o0) 1 [9000] [0,3] [9000] (λs t=>(2,.I s)::t) i2<|If x1 (nX [] [] (nZ x3 o0 0))<|nX [] [] (nZ x3 o0 x2)
instance Lf{x1 x2 x3 o0}:MA (da x1 x2 x3 o0) prog 292 (λ_=>1) λr=>⟨[.ref 9000 0,.bool x1,.I x2,.str x3],[(9000,some (.bJ 444 (gC o0)))],.bool r.1,[(9000,some (.bJ 444 (gC r.2)))],[]⟩:=.b func292 ntmps292
def nL(o0:aH):Option aH :=fO (E:=aH) o0 10 [9000] [0,8,9] [] i2 (λs t=>(9000,some (.bJ 444 (gC s)))::t) [] [] m64 (o0.fT.aY.length:Int) (λk1 s3=>Bi (idx o0.fT.aY (k1:Int)) λv5=>Ck ((ByteArray.mk #[102,108,97,103,32]).size+v5.bx.size<=9223372036854775807)<|Bi (cl 19 [] (gQ (⟨#[102,108,97,103,32]⟩++v5.bx) s3)) λv8=>If (!v8.1) (rX [] (some (.done v8.2)))<|Ck (fC (v8.2.fT.aY.length) 0 (k1:Int))<|Bi (oP (List.take (Int.toNat (k1:Int)) v8.2.fT.aY) v5.bx) λv11=>Bi (cl 35 [] (da (!v11) 5 v5.bx v8.2)) λkG=>nX [] [] (some (.next kG.2))) fun
  |.next s3=>rX [] (some s3)
  |.done r=>some r
instance Mb{o0}:MA (nL o0) prog 225 (λ_=>1) λr=>⟨[.ref 9000 0],[(9000,some (.bJ 444 (gC o0)))],.gh [],[(9000,some (.bJ 444 (gC r)))],[]⟩:=.e func225 ntmps225
def mc(x0:List aO)(x1:ByteArray):Option (aO×Bool) :=fO (E:=aO×Bool) () 10 [] [1,4,8,9] [4] i2 i2 [] [] m64 (x0.length:Int) (λk1 _=>Bi (idx x0 (k1:Int)) λv4=>If (v4.bx.toList==x1.toList) (some (.done (v4,true)))<|nX [] [] (some (.next ()))) fun
  |.next _=>some ((aO.mk ByteArray.empty [] []),false)
  |.done r=>some r
instance Wv{x0 x1}:MC (mc x0 x1) λr=>br prog 294 [.L 3 nr x0,.str x1] (.gh [.agg (zN r.1),.bool r.2]):=.p func294 ntmps294
def pJ(x0:cB)(o0:cB):Option Bool :=rX [] (some ((x0.gz.toList==o0.gz.toList)&&(x0.uJ.toList==o0.uJ.toList)))
instance KQ{x0 o0}:MA (pJ x0 o0) prog 295 (λ_=>0) λr=>⟨[.agg (CT x0),.ref 9000 0],[(9000,some (.bJ 272 (CT o0)))],.bool r,[(9000,some (.bJ 272 (CT o0)))],[]⟩:=.b func295 ntmps295
def gS(x0:List cB)(o0:cB):Option Int :=fO (E:=Int) () 8 [9000] [0,1,7] [9000] i2 i2 [] [] m64 (x0.length:Int) (λk1 _=>Bi (idx x0 (k1:Int)) λv4=>Bi (cl 16 [] (pJ v4 o0)) λv6=>If v6 (rX [] (some (.done (k1:Int))))<|nX [] [] (some (.next ()))) fun
  |.next _=>rX [] (some (-1))
  |.done r=>some r
instance Ay{x0 o0}:MA (gS x0 o0) prog 360 (λ_=>0) λr=>⟨[.L 3 pE x0,.CG 295 [.ref 9000 0]],[(9000,some (.bJ 272 (CT o0)))],.I r,[(9000,some (.bJ 272 (CT o0)))],[]⟩:=.b func360 ntmps360
def fp(x0:List cB)(o0:cB):Option Bool :=Bi (cl 7 [] (gS x0 o0)) λv2=>rX [] (some (decide (0<=v2)))
instance zk{x0 o0}:MA (fp x0 o0) prog 296 (λ_=>0) λr=>⟨[.L 3 pE x0,.CG 295 [.ref 9000 0]],[(9000,some (.bJ 272 (CT o0)))],.bool r,[(9000,some (.bJ 272 (CT o0)))],[]⟩:=.b func296 ntmps296
def nK(o0:aH):Option aH :=fO (E:=aH) o0 15 [9000] [0,13,14] [] i2 (λs t=>(9000,some (.bJ 444 (gC s)))::t) [] [] m64 (o0.fT.fJ.length:Int) (λk1 s3=>Bi (idx o0.fT.fJ (k1:Int)) λv5=>Ck ((ByteArray.mk #[108,105,110,107,32]).size+v5.gz.size<=9223372036854775807)<|Ck ((⟨#[108,105,110,107,32]⟩++v5.gz).size+(ByteArray.mk #[32]).size<=9223372036854775807)<|Ck (((⟨#[108,105,110,107,32]⟩++v5.gz)++⟨#[32]⟩).size+v5.uJ.size<=9223372036854775807)<|Bi (cl 28 [] (gQ (((⟨#[108,105,110,107,32]⟩++v5.gz)++⟨#[32]⟩)++v5.uJ) s3)) λv10=>If (!v10.1) (rX [] (some (.done v10.2)))<|eE 34 (bA 1 DV.str) [v5.gz,v5.uJ] λv11=>fL v10.2 36 [9000] [0,2,3,13,14,15,35] [3] (λ_ t=>(34,.L 1 DV.str v11)::t) (λs t=>(9000,some (.bJ 444 (gC s)))::t) [.z 34] [] m64 (v11.length:Int) (λBZ rH=>Bi (idx v11 (BZ:Int)) λv21=>Bi (mc rH.fT.aG v21) λuj=>Bi (cl 53 [] (da uj.2 9 v21 rH)) λua=>nX [] [] (some ua.2)) λrH=>Ck (fC (rH.fT.fJ.length) 0 (k1:Int))<|Bi (cl 65 [(9000,3)] (fp (List.take (Int.toNat (k1:Int)) rH.fT.fJ) v5)) λoi=>Bi (cl 69 [] (da (!oi) 5 v5.gz rH)) λxa=>nX [] [] (some (.next xa.2))) fun
  |.next s3=>rX [] (some s3)
  |.done r=>some r
instance Ma{o0}:MA (nK o0) prog 226 (λ_=>1) λr=>⟨[.ref 9000 0],[(9000,some (.bJ 444 (gC o0)))],.gh [],[(9000,some (.bJ 444 (gC r)))],[]⟩:=.e func226 ntmps226
def lq(x0:List dA)(x1:ByteArray):Option (dA×Bool) :=fO (E:=dA×Bool) () 10 [] [1,4,8,9] [4] i2 i2 [] [] m64 (x0.length:Int) (λk1 _=>Bi (idx x0 (k1:Int)) λv4=>If (v4.bx.toList==x1.toList) (some (.done (v4,true)))<|nX [] [] (some (.next ()))) fun
  |.next _=>some ((dA.mk ByteArray.empty 0 0),false)
  |.done r=>some r
instance YL{x0 x1}:MC (lq x0 x1) λr=>br prog 297 [.L 3 xD x0,.str x1] (.gh [.agg (NN r.1),.bool r.2]):=.p func297 ntmps297
def mS(x0:Int):Option ByteArray :=If (decide (x0<10)) (Ck (fC (ByteArray.size ⟨#[48,49,50,51,52,53,54,55,56,57,97,98,99,100,101,102,103,104,105,106,107,108,109,110,111,112,113,114,115,116,117,118,119,120,121,122]⟩) x0 (IntKind.wrap .i64 (x0+1)))<|some (ByteArray.extract ⟨#[48,49,50,51,52,53,54,55,56,57,97,98,99,100,101,102,103,104,105,106,107,108,109,110,111,112,113,114,115,116,117,118,119,120,121,122]⟩ (Int.toNat x0) (Int.toNat (IntKind.wrap .i64 (x0+1)))))<|Ck (fC (ByteArray.size ⟨#[48,48,48,49,48,50,48,51,48,52,48,53,48,54,48,55,48,56,48,57,49,48,49,49,49,50,49,51,49,52,49,53,49,54,49,55,49,56,49,57,50,48,50,49,50,50,50,51,50,52,50,53,50,54,50,55,50,56,50,57,51,48,51,49,51,50,51,51,51,52,51,53,51,54,51,55,51,56,51,57,52,48,52,49,52,50,52,51,52,52,52,53,52,54,52,55,52,56,52,57,53,48,53,49,53,50,53,51,53,52,53,53,53,54,53,55,53,56,53,57,54,48,54,49,54,50,54,51,54,52,54,53,54,54,54,55,54,56,54,57,55,48,55,49,55,50,55,51,55,52,55,53,55,54,55,55,55,56,55,57,56,48,56,49,56,50,56,51,56,52,56,53,56,54,56,55,56,56,56,57,57,48,57,49,57,50,57,51,57,52,57,53,57,54,57,55,57,56,57,57]⟩) (IntKind.wrap .i64 (x0*2)) (IntKind.wrap .i64 ((IntKind.wrap .i64 (x0*2))+2)))<|some (ByteArray.extract ⟨#[48,48,48,49,48,50,48,51,48,52,48,53,48,54,48,55,48,56,48,57,49,48,49,49,49,50,49,51,49,52,49,53,49,54,49,55,49,56,49,57,50,48,50,49,50,50,50,51,50,52,50,53,50,54,50,55,50,56,50,57,51,48,51,49,51,50,51,51,51,52,51,53,51,54,51,55,51,56,51,57,52,48,52,49,52,50,52,51,52,52,52,53,52,54,52,55,52,56,52,57,53,48,53,49,53,50,53,51,53,52,53,53,53,54,53,55,53,56,53,57,54,48,54,49,54,50,54,51,54,52,54,53,54,54,54,55,54,56,54,57,55,48,55,49,55,50,55,51,55,52,55,53,55,54,55,55,55,56,55,57,56,48,56,49,56,50,56,51,56,52,56,53,56,54,56,55,56,56,56,57,57,48,57,49,57,50,57,51,57,52,57,53,57,54,57,55,57,56,57,57]⟩ (Int.toNat (IntKind.wrap .i64 (x0*2))) (Int.toNat (IntKind.wrap .i64 ((IntKind.wrap .i64 (x0*2))+2))))
instance LD{x0}:MC (mS x0) λr=>br prog 84 [.I x0] (.str r):=.p func84 ntmps84
def iK(x0:Int)(x1:Int):Option ByteArray :=If (x1==10) (If ((decide (0<=x0))&&(decide (x0<100))) (Bi (mS x0) λv2=>some v2)<|none)<|none
instance IH{x0 x1}:MC (iK x0 x1) λr=>br prog 301 [.I x0,.I x1] (.str r):=.p func301 ntmps301
def nR(x0:Int):Option ByteArray :=Bi (iK x0 10) λv2=>some v2
instance ME{x0}:MC (nR x0) λr=>br prog 235 [.I x0] (.str r):=.p func235 ntmps235
def mI(x0:Int):Option ByteArray :=Bi (nR x0) λv2=>some v2
instance abY{x0}:MC (mI x0) λr=>br prog 169 [.I x0] (.str r):=.p func169 ntmps169
def mY(x0:List bS)(x1:ByteArray):Option (bG×Bool) :=fO (E:=bG×Bool) () 12 [] [1,4,10,11] [4] i2 i2 [] [] m64 (x0.length:Int) (λk1 _=>Bi (idx x0 (k1:Int)) λv4=>fO (E:=bG×Bool) () 19 [] [1,4,10,11,12,17,18] [4] i2 i2 [] [] m64 (v4.bR.length:Int) (λk5 _=>Bi (idx v4.bR (k5:Int)) λv8=>If (v8.bx.toList==x1.toList) (some (.done (v8,true)))<|nX [] [] (some (.next ()))) fun
   |.next _=>nX [] [] (some (.next ()))
   |.done r=>some (.done r)) fun
  |.next _=>some ((bG.mk ByteArray.empty [] []),false)
  |.done r=>some r
instance aaO{x0 x1}:MC (mY x0 x1) λr=>br prog 298 [.L 1 wi x0,.str x1] (.gh [.agg (Bb r.1),.bool r.2]):=.p func298 ntmps298
def eT(x0:List ByteArray)(x1:ByteArray):Option Int :=fO (E:=Int) () 8 [] [0,1,7] [] i2 i2 [] [] m64 (x0.length:Int) (λk1 _=>Bi (idx x0 (k1:Int)) λv4=>If (x1.toList==v4.toList) (some (.done (k1:Int)))<|nX [] [] (some (.next ()))) fun
  |.next _=>some (-1)
  |.done r=>some r
instance Iz{x0 x1}:MC (eT x0 x1) λr=>br prog 229 [.L 1 DV.str x0,.str x1] (.I r):=.p func229 ntmps229
def eN(x0:List ByteArray)(x1:ByteArray):Option Bool :=Bi (eT x0 x1) λv2=>some (decide (0<=v2))
instance GK{x0 x1}:MC (eN x0 x1) λr=>br prog 228 [.L 1 DV.str x0,.str x1] (.bool r):=.p func228 ntmps228
def lr(x0:dQ)(x1:ByteArray):Option (dA×Bool) :=Bi (eN x0.eM x1) λv2=>If v2 (some ((dA.mk ByteArray.empty 0 0),false))<|Bi (lq x0.ir x1) λv4=>some (v4.1,v4.2)
instance NZ{x0 x1}:MC (lr x0 x1) λr=>br prog 422 [.agg (Be x0),.str x1] (.gh [.agg (NN r.1),.bool r.2]):=.p func422 ntmps422
@[reducible] def pK(s4:aH):Option (Int×aH) :=rX [] (some (0,s4))
def jv(x1:ByteArray)(o0:dR)(o1:aH):Option (Int×aH) :=Bi (lr o0.tK x1) λv2=>If v2.2 (rX [] (some (v2.1.sQ,o1)))<|jn pK 4 [9000,9001] [] [9000] i2 (λs t=>(9001,some (.bJ 444 (gC s)))::t)<|Bi (eN o0.tK.eM x1) λv6=>Bi (gb (!v6) (false) (oP o0.tK.dN x1)) λv8=>If (v6||v8) (Bi (cl 40 [(9000,9001)] (fi 10 x1 o1)) λv10=>nX [] [] (pK v10.2))<|Bi (cl 46 [(9000,9001)] (fi 9 x1 o1)) λv12=>nX [] [] (pK v12.2)
instance Ob{x1 o0 o1}:MA (jv x1 o0 o1) prog 412 (λ_=>1) λr=>⟨[.ref 9000 0,.str x1],[(9000,some (.bJ 566 (dR.b0 o0 (.ref 9001 0)))),(9001,some (.bJ 444 (gC o1)))],.int .u8 r.1,[(9001,some (.bJ 444 (gC r.2))),(9000,some (.bJ 566 (dR.b0 o0 (.ref 9001 0))))],[]⟩:=.b func412 ntmps412
@[reducible] def sF(a3:Bool)(v10:Int×ByteArray×Int)(EK:Int):Option (xy (Int×Bool) (Int×ByteArray×Int)) :=nX [] [] (some (.next (EK,(a3&&(EK==v10.1)))))
def rT(zfax:dQ->aB->Option (Int×ByteArray×Int))(x0:dQ)(x1:List DV):Option (Int×ByteArray×Int) :=fO (E:=Int×ByteArray×Int) (0,true) 15 [] [2,13,14] [2] (λs t=>(4,.int .u8 s.1)::(7,.bool s.2)::t) i2 [] [] m64 (x1.length:Int) (λk1 s4=>Bi (idx x1 (k1:Int)) λv6=>Bi (aB.dec v6) λv7=>Bi (zfax x0 v7) λv10=>If (v10.2.2 != 0) (some (.done (0,v10.2.1,v10.2.2)))<|jn (sF s4.2 v10) 8 [] [2,7,10,13,14,15] [2] (λs t=>(4,.int .u8 s)::t) i2<|If ((k1:Int)==0) (nX [] [] (sF s4.2 v10 v10.1))<|nX [] [] (sF s4.2 v10 s4.1)) fun
  |.next s4=>If (!s4.2) (some (0,ByteArray.empty,10))<|some (s4.1,ByteArray.empty,0)
  |.done r=>some r
instance Ty{zfax:dQ->aB->Option (Int×ByteArray×Int)}[zhax:∀{x0 x1},MC (zfax x0 x1) λr=>br prog 423 [.agg (Be x0),.agg (jQ x1)] (.gh [.int .u8 r.1,.str r.2.1,.I r.2.2])]{x0 x1}:MC (rT zfax x0 x1) λr=>br prog 426 [.agg (Be x0),.L 4 lg x1] (.gh [.int .u8 r.1,.str r.2.1,.I r.2.2]):=.p func426 ntmps426
def tq(x0:dQ)(x1:ByteArray):Option (Int×Int) :=Bi (eN x0.eM x1) λv2=>If v2 (some (1,0))<|Bi (lq x0.ir x1) λv4=>If (v4.2&&(v4.1.sQ==3)) (some (0,10))<|If v4.2 (some (v4.1.sQ,0))<|Bi (oP x0.dN x1) λv6=>If v6 (some (2,0))<|some (0,9)
instance Us{x0 x1}:MC (tq x0 x1) λr=>br prog 427 [.agg (Be x0),.str x1] (.gh [.int .u8 r.1,.I r.2]):=.p func427 ntmps427
def jS(x0:dQ)(x1:Int)(x2:ByteArray)(x3:Int):Option (Int×ByteArray×Int) :=If (x3 != 0) (some (0,x2,x3))<|some (x1,ByteArray.empty,0)
instance Tw{x0 x1 x2 x3}:MC (jS x0 x1 x2 x3) λr=>br prog 428 [.agg (Be x0),.int .u8 x1,.str x2,.I x3] (.gh [.int .u8 r.1,.str r.2.1,.I r.2.2]):=.p func428 ntmps428
def oj(x0:dQ)(x1:ByteArray):Option Int :=Bi (lr x0 x1) λv2=>If (!v2.2) (some 9)<|If (v2.1.sQ != 3) (some 10)<|some 0
instance Tx{x0 x1}:MC (oj x0 x1) λr=>br prog 429 [.agg (Be x0),.str x1] (.I r):=.p func429 ntmps429
@[reducible] def gr(x0:dQ)(x1:aB)(v2:Int×ByteArray×Int)(s9:Int×Int):Option (Int×ByteArray×Int) :=If (v2.1 != s9.1) (some (0,ByteArray.empty,10))<|If ((x1.cZ==6)||(x1.cZ==7)) (Bi (oj x0 x1.bx) λv6=>Bi (jS x0 s9.2 x1.bx v6) λv8=>some (v8.1,v8.2.1,v8.2.2))<|some (s9.2,ByteArray.empty,0)
@[reducible] def jf(x0:dQ)(x1:aB)(v2:Int×ByteArray×Int)(Cv:Bool):Option (Int×ByteArray×Int) :=If Cv (nX [] [] (gr x0 x1 v2 (1,2)))<|nX [] [] (gr x0 x1 v2 (1,1))
@[reducible] def nI(x0:dQ)(x1:aB)(v2:Int×ByteArray×Int)(yf:Bool):Option (Int×ByteArray×Int) :=If yf (nX [] [] (gr x0 x1 v2 (2,2)))<|jn (jf x0 x1 v2) 24 [] [2,3,4,7,8] [2,3] (λs t=>(68,.bool s)::t) i2<|If (x1.cZ==7) (nX [] [] (jf x0 x1 v2 (x1.cZ==7)))<|If (x1.cZ==18) (nX [] [] (jf x0 x1 v2 (x1.cZ==18)))<|If (x1.cZ==19) (nX [] [] (jf x0 x1 v2 (x1.cZ==19)))<|If (x1.cZ==20) (nX [] [] (jf x0 x1 v2 (x1.cZ==20)))<|nX [] [] (jf x0 x1 v2 (x1.cZ==21))
@[reducible] def rI(x0:dQ)(x1:aB)(v2:Int×ByteArray×Int)(Yy:Bool):Option (Int×ByteArray×Int) :=If Yy (nX [] [] (gr x0 x1 v2 (v2.1,2)))<|jn (nI x0 x1 v2) 20 [] [2,3,4,7,8,22] [2,3] (λs t=>(64,.bool s)::t) i2<|If (x1.cZ==10) (nX [] [] (nI x0 x1 v2 (x1.cZ==10)))<|If (x1.cZ==22) (nX [] [] (nI x0 x1 v2 (x1.cZ==22)))<|nX [] [] (nI x0 x1 v2 (x1.cZ==23))
@[reducible] def nJ(x0:dQ)(x1:aB)(v2:Int×ByteArray×Int)(s26:Bool):Option (Int×ByteArray×Int) :=If s26 (some (2,ByteArray.empty,0))<|If (x1.cZ==5) (Bi (tq x0 x1.bx) λkG=>Bi (jS x0 kG.1 x1.bx kG.2) λlL=>some (lL.1,lL.2.1,lL.2.2))<|If (x1.cZ==8) (Bi (oj x0 x1.bx) λoi=>Bi (jS x0 1 x1.bx oi) λxa=>some (xa.1,xa.2.1,xa.2.2))<|jn (rI x0 x1 v2) 17 [] [2,3,4,7,8,22] [2,3] (λs t=>(60,.bool s)::t) i2<|If (x1.cZ==16) (nX [] [] (rI x0 x1 v2 (x1.cZ==16)))<|nX [] [] (rI x0 x1 v2 (x1.cZ==17))
@[reducible] def kN(x0:dQ)(x1:aB)(v2:Int×ByteArray×Int)(tR:Bool):Option (Int×ByteArray×Int) :=If tR (some (1,ByteArray.empty,0))<|jn (nJ x0 x1 v2) 9 [] [2,3,4,7,8,22] [2,3] (λs t=>(26,.bool s)::t) i2<|If (x1.cZ==2) (nX [] [] (nJ x0 x1 v2 (x1.cZ==2)))<|nX [] [] (nJ x0 x1 v2 (x1.cZ==3))
def sE(zfax:dQ->aB->Option (Int×ByteArray×Int))(x0:dQ)(x1:aB):Option (Int×ByteArray×Int) :=Bi ((rT zfax) x0 x1.cE) λv2=>If (v2.2.2 != 0) (some (0,v2.2.1,v2.2.2))<|jn (gr x0 x1 v2) 5 [] [2,3,4] [2,3] (λs t=>(7,.int .u8 s.1)::(8,.int .u8 s.2)::t) i2<|jn (kN x0 x1 v2) 6 [] [2,3,4,7,8,22] [2,3] (λs t=>(23,.bool s)::t) i2<|If (x1.cZ==1) (nX [] [] (kN x0 x1 v2 (x1.cZ==1)))<|nX [] [] (kN x0 x1 v2 (x1.cZ==4))
theorem CX{zfax:dQ->aB->Option (Int×ByteArray×Int)}[zhax:∀{x0 x1},MC (zfax x0 x1) λr=>br prog 423 [.agg (Be x0),.agg (jQ x1)] (.gh [.int .u8 r.1,.str r.2.1,.I r.2.2])]{x0 x1}:MC (sE zfax x0 x1) λr=>br prog 423 [.agg (Be x0),.agg (jQ x1)] (.gh [.int .u8 r.1,.str r.2.1,.I r.2.2]):=.p func423 ntmps423
def jq:Nat->dQ->aB->Option (Int×ByteArray×Int)
 |0,_,_=>none
 |fu+1,x0,x1=>sE (jq fu) x0 x1
instance QN(fu:Nat){x0 x1}:MC (jq fu x0 x1) λr=>br prog 423 [.agg (Be x0),.agg (jQ x1)] (.gh [.int .u8 r.1,.str r.2.1,.I r.2.2]):=by
 induction fu generalizing x0 x1 with
 |zero=>exact⟨λh=>dI⟩
 |succ fu ih=>exact CX (zfax:=jq fu)
def gZ(x1:Int)(x2:List DV)(o0:dR)(o1:aH):Option aH :=fL o1 13 [9000,9001] [0,1,11,12] [9000] i2 (λs t=>(9001,some (.bJ 444 (gC s)))::t) [] [] m64 (x2.length:Int) (λk1 s3=>Bi (idx x2 (k1:Int)) λv5=>Bi (aB.dec v5) λv6=>Bi ((jq 64) o0.tK v6) λv9=>Bi (cl 33 [(9000,9001)] (fi v9.2.2 v9.2.1 s3)) λv11=>Bi (cl 41 [(9000,9001)] (da (v9.1==x1) 10 ByteArray.empty v11.2)) λkG=>nX [] [] (some kG.2)) λs3=>rX [] (some s3)
instance Ut{x1 x2 o0 o1}:MA (gZ x1 x2 o0 o1) prog 413 (λ_=>1) λr=>⟨[.ref 9000 0,.int .u8 x1,.L 4 lg x2],[(9000,some (.bJ 566 (dR.b0 o0 (.ref 9001 0)))),(9001,some (.bJ 444 (gC o1)))],.gh [],[(9001,some (.bJ 444 (gC r))),(9000,some (.bJ 566 (dR.b0 o0 (.ref 9001 0))))],[]⟩:=.e func413 ntmps413
def oq(x1:aO)(x2:ByteArray)(x3:List DV)(x4:Int)(o0:dR)(o1:aH):Option aH :=Bi (mY x1.bf x2) λv2=>Bi (cl 25 [(9000,9001)] (da v2.2 9 x2 o1)) λv4=>Bi (cl 39 [(9000,9001)] (da ((IntKind.wrap .i64 ((x3.length:Int)-x4))==(v2.1.dY.length:Int)) 10 x2 v4.2)) λv6=>Bi (cl 42 [] (gZ 1 x3 o0 v6.2)) λv8=>rX [] (some v8)
instance Tz{x1 x2 x3 x4 o0 o1}:MA (oq x1 x2 x3 x4 o0 o1) prog 414 (λ_=>1) λr=>⟨[.ref 9000 0,.agg (zN x1),.str x2,.L 4 lg x3,.I x4],[(9000,some (.bJ 566 (dR.b0 o0 (.ref 9001 0)))),(9001,some (.bJ 444 (gC o1)))],.gh [],[(9001,some (.bJ 444 (gC r))),(9000,some (.bJ 566 (dR.b0 o0 (.ref 9001 0))))],[]⟩:=.e func414 ntmps414
@[reducible] def ob(x1:bo)(o0:dR)(o1:aH)(QL:Bool):Option aH :=If QL (Bi (cl 76 [] (gZ 2 x1.js o0 o1)) λuQ=>rX [] (some uQ))<|If (x1.bC==6) (Bi (mc o1.fT.aG x1.bx) λv24=>Bi (cl 100 [(9000,9001)] (da v24.2 9 x1.bx o1)) λxz=>Bi (cl 107 [] (oq v24.1 x1.bU x1.js 0 o0 xz.2)) λv28=>rX [] (some v28))<|If (x1.bC==7) (Bi (cl 119 [] (oq o0.kS x1.bU x1.js 1 o0 o1)) λv30=>rX [] (some v30))<|If (x1.bC==8) (Bi (cl 125 [] (gZ 1 x1.js o0 o1)) λCJ=>rX [] (some CJ))<|rX [] (some o1)
@[reducible] def oc(x1:bo)(o0:dR)(o1:aH)(s34:Bool):Option aH :=If s34 (Bi (cl 43 [] (jv x1.bx o0 o1)) λv9=>Bi (cl 47 [(9000,9001)] (da (v9.1==3) 10 x1.bx v9.2)) λv11=>Bi (cl 51 [] (gZ 1 x1.js o0 v11.2)) λkG=>rX [] (some kG))<|If (x1.bC==9) (Bi (cl 61 [] (jv x1.bx o0 o1)) λlL=>Bi (cl 65 [(9000,9001)] (da (lL.1==1) 10 x1.bx lL.2)) λoi=>Bi (cl 69 [] (gZ 1 x1.js o0 oi.2)) λxa=>rX [] (some xa))<|jn (ob x1 o0 o1) 14 [9000,9001] [0,3,8] [3,9000,9001] (λs t=>(70,.bool s)::t) i2<|If (x1.bC==4) (nX [] [] (ob x1 o0 o1 (x1.bC==4)))<|nX [] [] (ob x1 o0 o1 (x1.bC==5))
def mD(x1:bo)(o0:dR)(o1:aH):Option aH :=If (x1.bC==1) (Bi (cl 14 [] (jv x1.bx o0 o1)) λv2=>If ((v2.1==1)||(v2.1==2)) (Bi (cl 25 [] (gZ v2.1 x1.js o0 v2.2)) λv4=>rX [] (some v4))<|Bi (cl 32 [(9000,9001)] (fi 10 x1.bx v2.2)) λv6=>rX [] (some v6.2))<|jn (oc x1 o0 o1) 7 [9000,9001] [0,3,8] [3,9000,9001] (λs t=>(33,.bool s)::t) i2<|If (x1.bC==2) (nX [] [] (oc x1 o0 o1 (x1.bC==2)))<|nX [] [] (oc x1 o0 o1 (x1.bC==3))
instance Lh{x1 o0 o1}:MA (mD x1 o0 o1) prog 393 (λ_=>1) λr=>⟨[.ref 9000 0,.agg (sB x1)],[(9000,some (.bJ 566 (dR.b0 o0 (.ref 9001 0)))),(9001,some (.bJ 444 (gC o1)))],.gh [],[(9001,some (.bJ 444 (gC r))),(9000,some (.bJ 566 (dR.b0 o0 (.ref 9001 0))))],[]⟩:=.e func393 ntmps393
def kH(zfbf:(List DV)->dR->aH->Option (dR×aH))(x1:List DV)(o0:dR)(o1:aH):Option (dR×aH) :=fO (E:=dR×aH) (o0.tK,o0.kS,o0.Ff,o0.wF,o1) 8 [9000,9001] [0,6,7] [] i2 (λs t=>(9000,some (.bJ 566 [.ref 9001 0,.L 2 lZ s.1.dN,.L 3 xD s.1.ir,.L 1 DV.str s.1.eM,.str s.2.1.bx,.L 3 xD s.2.1.eG,.L 1 wi s.2.1.bf,.str s.2.2.1,.I s.2.2.2.1]))::(9001,some (.bJ 444 (gC s.2.2.2.2)))::t) [] [] m64 (x1.length:Int) (λk1 s7=>Bi (idx x1 (k1:Int)) λv9=>Bi (bo.dec v9) λv10=>Bi (mI s7.2.2.2.1) λkG=>Ck (s7.2.2.1.size+kG.size<=9223372036854775807)<|Bi (cl 26 [(9000,9001)] (gQ (s7.2.2.1++kG) s7.2.2.2.2)) λmA=>If (!mA.1) (rX [] (some (.done ((dR.mk () s7.1 s7.2.1 s7.2.2.1 s7.2.2.2.1),mA.2))))<|Bi (cl 37 [] (mD v10 (dR.mk () s7.1 s7.2.1 s7.2.2.1 (IntKind.wrap .i64 (s7.2.2.2.1+1))) mA.2)) λlI=>Bi (cl 41 [] (zfbf v10.vZ (dR.mk () s7.1 s7.2.1 s7.2.2.1 (IntKind.wrap .i64 (s7.2.2.2.1+1))) lI)) λv20=>Bi (cl 45 [] (zfbf v10.uL v20.1 v20.2)) λuQ=>nX [] [] (some (.next (uQ.1.tK,uQ.1.kS,uQ.1.Ff,uQ.1.wF,uQ.2)))) fun
  |.next s7=>rX [] (some ((dR.mk () s7.1 s7.2.1 s7.2.2.1 s7.2.2.2.1),s7.2.2.2.2))
  |.done r=>some r
theorem yZ{zfbf:(List DV)->dR->aH->Option (dR×aH)}[zhbf:∀{x1 o0 o1},MA (zfbf x1 o0 o1) prog 361 (λ_=>2) λr=>⟨[.ref 9000 0,.L 6 lg x1],[(9000,some (.bJ 566 (dR.b0 o0 (.ref 9001 0)))),(9001,some (.bJ 444 (gC o1)))],.gh [],[(9000,some (.bJ 566 (dR.b0 r.1 (.ref 9001 0)))),(9001,some (.bJ 444 (gC r.2)))],[]⟩]{x1 o0 o1}:MA (kH zfbf x1 o0 o1) prog 361 (λ_=>2) λr=>⟨[.ref 9000 0,.L 6 lg x1],[(9000,some (.bJ 566 (dR.b0 o0 (.ref 9001 0)))),(9001,some (.bJ 444 (gC o1)))],.gh [],[(9000,some (.bJ 566 (dR.b0 r.1 (.ref 9001 0)))),(9001,some (.bJ 444 (gC r.2)))],[]⟩:=.e func361 ntmps361
def gu:Nat->(List DV)->dR->aH->Option (dR×aH)
 |0,_,_,_=>none
 |fu+1,x1,o0,o1=>kH (gu fu) x1 o0 o1
instance KR(fu:Nat){x1 o0 o1}:MA (gu fu x1 o0 o1) prog 361 (λ_=>2) λr=>⟨[.ref 9000 0,.L 6 lg x1],[(9000,some (.bJ 566 (dR.b0 o0 (.ref 9001 0)))),(9001,some (.bJ 444 (gC o1)))],.gh [],[(9000,some (.bJ 566 (dR.b0 r.1 (.ref 9001 0)))),(9001,some (.bJ 444 (gC r.2)))],[]⟩:=by
 induction fu generalizing x1 o0 o1 with
 |zero=>exact⟨λh=>dI⟩
 |succ fu ih=>exact yZ (zfbf:=gu fu)
def om(x1:aO)(x2:bG)(x3:ByteArray)(o0:aH):Option aH :=fL o0 16 [9000] [0,3,5,6,14,15] [5,6] i2 (λs t=>(9000,some (.bJ 444 (gC s)))::t) [] [] m64 (x2.dY.length:Int) (λk1 s3=>Bi (idx x2.dY (k1:Int)) λv12=>Bi (lq x1.eG v12) λll=>Bi (gb (!ll.2) (false) (oP s3.fT.aY v12)) λmA=>Ck (((!ll.2)&&(!mA))=true->fC (x2.dY.length) 0 (k1:Int))<|Bi (gb ((!ll.2)&&(!mA)) (false) (eN (List.take (Int.toNat (k1:Int)) x2.dY) v12)) λxa=>Bi (cl 51 [] (da (((!ll.2)&&(!mA))&&(!xa)) 5 v12 s3)) λv21=>nX [] [] (some v21.2)) λs3=>Ck ((ByteArray.mk #[115,116,97,116,101,109,101,110,116,32]).size+x1.bx.size<=9223372036854775807)<|Ck ((⟨#[115,116,97,116,101,109,101,110,116,32]⟩++x1.bx).size+(ByteArray.mk #[46]).size<=9223372036854775807)<|Ck (((⟨#[115,116,97,116,101,109,101,110,116,32]⟩++x1.bx)++⟨#[46]⟩).size+x2.bx.size<=9223372036854775807)<|Ck ((((⟨#[115,116,97,116,101,109,101,110,116,32]⟩++x1.bx)++⟨#[46]⟩)++x2.bx).size+x3.size<=9223372036854775807)<|Ck (((((⟨#[115,116,97,116,101,109,101,110,116,32]⟩++x1.bx)++⟨#[46]⟩)++x2.bx)++x3).size+(ByteArray.mk #[32]).size<=9223372036854775807)<|Bi (cl 83 [(9000,66),(9001,9000)] ((gu 64) x2.uM (dR.mk () (dQ.mk s3.fT.aY x1.eG x2.dY) x1 (((((⟨#[115,116,97,116,101,109,101,110,116,32]⟩++x1.bx)++⟨#[46]⟩)++x2.bx)++x3)++⟨#[32]⟩) 0) s3)) λv10=>rX [] (some v10.2)
instance Oa{x1 x2 x3 o0}:MA (om x1 x2 x3 o0) prog 299 (λ_=>1) λr=>⟨[.ref 9000 0,.agg (zN x1),.agg (Bb x2),.str x3],[(9000,some (.bJ 444 (gC o0)))],.gh [],[(9000,some (.bJ 444 (gC r)))],[]⟩:=.e func299 ntmps299
def iZ(x1:Int)(o0:aH):Option aH :=Bi (idx o0.fT.aG x1) λv2=>Ck ((ByteArray.mk #[99,111,109,112,111,110,101,110,116,32]).size+v2.bx.size<=9223372036854775807)<|Bi (cl 30 [] (gQ (⟨#[99,111,109,112,111,110,101,110,116,32]⟩++v2.bx) o0)) λv5=>If (!v5.1) (rX [] (some v5.2))<|Ck (fC (v5.2.fT.aG.length) 0 x1)<|Bi (mc (List.take (Int.toNat x1) v5.2.fT.aG) v2.bx) λv8=>Bi (gb (!v8.2) (false) (oP v5.2.fT.aY v2.bx)) λv10=>Bi (cl 61 [] (da ((!v8.2)&&(!v10)) 5 v2.bx v5.2)) λv12=>fO (E:=aH) v12.2 65 [9000] [0,4,63,64] [4] i2 (λs t=>(9000,some (.bJ 444 (gC s)))::t) [] [] m64 (v2.eG.length:Int) (λk13 gH=>Bi (idx v2.eG (k13:Int)) λJm=>Ck ((ByteArray.mk #[118,97,114,105,97,98,108,101,32]).size+v2.bx.size<=9223372036854775807)<|Ck ((⟨#[118,97,114,105,97,98,108,101,32]⟩++v2.bx).size+(ByteArray.mk #[46]).size<=9223372036854775807)<|Ck (((⟨#[118,97,114,105,97,98,108,101,32]⟩++v2.bx)++⟨#[46]⟩).size+Jm.bx.size<=9223372036854775807)<|Bi (cl 78 [] (gQ (((⟨#[118,97,114,105,97,98,108,101,32]⟩++v2.bx)++⟨#[46]⟩)++Jm.bx) gH)) λv57=>If (!v57.1) (rX [] (some (.done v57.2)))<|Ck (fC (v2.eG.length) 0 (k13:Int))<|Bi (lq (List.take (Int.toNat (k13:Int)) v2.eG) Jm.bx) λv60=>Bi (gb (!v60.2) (false) (oP v57.2.fT.aY Jm.bx)) λv62=>Bi (cl 106 [] (da ((!v60.2)&&(!v62)) 5 Jm.bx v57.2)) λYB=>nX [] [] (some (.next YB.2))) fun
  |.next gH=>fO (E:=aH) gH 111 [9000] [0,4,109,110] [4] i2 (λs t=>(9000,some (.bJ 444 (gC s)))::t) [] [] m64 (v2.bf.length:Int) (λk16 rz=>Bi (idx v2.bf (k16:Int)) λv20=>fO (E:=aH) rz 119 [9000] [0,4,11,12,109,110,111,117,118] [4,12] i2 (λs t=>(9000,some (.bJ 444 (gC s)))::t) [] [] m64 (v20.bR.length:Int) (λk21 Cv=>Bi (idx v20.bR (k21:Int)) λua=>Ck ((ByteArray.mk #[104,97,110,100,108,101,114,32]).size+v2.bx.size<=9223372036854775807)<|Ck ((⟨#[104,97,110,100,108,101,114,32]⟩++v2.bx).size+(ByteArray.mk #[46]).size<=9223372036854775807)<|Ck (((⟨#[104,97,110,100,108,101,114,32]⟩++v2.bx)++⟨#[46]⟩).size+ua.bx.size<=9223372036854775807)<|Ck ((((⟨#[104,97,110,100,108,101,114,32]⟩++v2.bx)++⟨#[46]⟩)++ua.bx).size+(ByteArray.mk #[32]).size<=9223372036854775807)<|Bi (mI ((k16:Int)+1)) λv31=>Ck (((((⟨#[104,97,110,100,108,101,114,32]⟩++v2.bx)++⟨#[46]⟩)++ua.bx)++⟨#[32]⟩).size+v31.size<=9223372036854775807)<|Bi (cl 137 [] (gQ (((((⟨#[104,97,110,100,108,101,114,32]⟩++v2.bx)++⟨#[46]⟩)++ua.bx)++⟨#[32]⟩)++v31) Cv)) λCt=>If (!Ct.1) (rX [] (some (.done Ct.2)))<|Ck (fC (v20.bR.length) 0 (k21:Int))<|eE 145 (bA 1 wi) [(bS.mk (List.take (Int.toNat (k21:Int)) v20.bR))] λCu=>Bi (mY Cu ua.bx) λHG=>Bi (cl 156 [] (da (!HG.2) 5 ua.bx Ct.2)) λv40=>Ck (fC (v2.bf.length) 0 (k16:Int))<|Bi (mY (List.take (Int.toNat (k16:Int)) v2.bf) ua.bx) λLU=>Bi (cl 181 [] (da ((!LU.2)||((LU.1.dY.length:Int)==(ua.dY.length:Int))) 10 ua.bx v40.2)) λYF=>Bi (mI ((k16:Int)+1)) λxA=>Ck ((ByteArray.mk #[32]).size+xA.size<=9223372036854775807)<|Bi (cl 189 [] (om v2 ua (⟨#[32]⟩++xA) YF.2)) λQK=>nX [] [] (some (.next QK))) fun
     |.next Cv=>nX [] [] (some (.next Cv))
     |.done r=>some (.done r)) fun
    |.next rz=>rX [] (some rz)
    |.done r=>some r
  |.done r=>some r
instance IV{x1 o0}:MA (iZ x1 o0) prog 227 (λ_=>1) λr=>⟨[.ref 9000 0,.I x1],[(9000,some (.bJ 444 (gC o0)))],.gh [],[(9000,some (.bJ 444 (gC r)))],[]⟩:=⟨λhM=>by unfold iZ at hM;exact aez func227 ntmps227 (wz [145])⟩
def ze(x0:bu):Option (mZ×Int) :=Bi (vh x0) λv2=>Bi (cl 14 [(9000,8)] (fi v2 x0.bx (aH.mk x0 ⟨#[102,108,101,101,116]⟩ (mZ.mk ByteArray.empty ByteArray.empty 0)))) λv4=>Bi (cl 16 [(9000,8)] (nL v4.2)) λv6=>Bi (cl 18 [(9000,8)] (nK v6)) λv8=>fL v8 22 [] [2,4,21] [2] i2 (λs t=>(8,some (.bJ 444 (gC s)))::t) [] [] m64 (x0.aG.length:Int) (λk9 rG=>Bi (cl 27 [(9000,8)] (iZ (k9:Int) rG)) λkG=>nX [] [] (some kG)) λrG=>some (rG.uC,rG.uC.II)
instance afX{x0}:MC (ze x0) λr=>br prog 164 [.agg (tF x0)] (.gh [.agg (mZ.cs r.1),.I r.2]):=.p func164 ntmps164
end Go.Proofs.YtaafmkmdfcgeaaaGreatDoor
namespace Go.Proofs.YtaafmkmdfcgeaaaGreatDoor
open Go.Proofs.Tryz
theorem aia(bs:ByteArray):∀(n i:Nat) (r:List UInt8),bs.size-i=n->ByteArray.toList.loop bs i r=r.reverse++bs.data.toList.drop i:=by
 intro n
 induction n with
 |zero=>
  intro i r h;unfold ByteArray.toList.loop;rw[if_neg ah,List.drop_eq_nil_of_le (by show bs.data.size<=i;exact Nat.le_of_sub_eq_zero h),List.append_nil]
 |succ n ih=>
  intro i r h;have hi:i<bs.data.size:=by show i<bs.size;omega
  unfold ByteArray.toList.loop;rw[if_pos ah,ih (i+1) _ ah,List.reverse_cons,List.append_assoc]
  congr 1
  have:bs.get! i=bs.data[i]:=by
   show bs.data[i]! = _;rw[getElem!_pos bs.data i hi]
  rw[this,List.drop_eq_getElem_cons (i:=i) (by simpa using hi)];simp
theorem aoc(bs:ByteArray):bs.toList=bs.data.toList:=by
 unfold ByteArray.toList;rw[aia bs _ 0 [] rfl];simp
theorem Af{a b:ByteArray}:(a.toList==b.toList)=decide (a=b):=by
 by_cases h:a=b
 .subst h;simp
 .rw[decide_eq_false h]
  simp only[beq_eq_false_iff_ne,ne_eq,aoc];intro e;apply h;cases a;cases b;simp at e;rw[e]
theorem szc(l:List UInt8):(ByteArray.mk (List.toArray l)).size=l.length:=rfl
theorem vu{c d i j:Nat}(hc:c<256)(hd:d<256)(hi:i<200)(hj:j<200)(h:nm c i=nm d j):c=d∧i=j:=by
 unfold nm at h;injection h with h
 have h1:c.toUInt8=d.toUInt8∧(48+i).toUInt8=(48+j).toUInt8:=DB;have e1:=congrArg UInt8.toNat h1.1;have e2:=congrArg UInt8.toNat h1.2;simp only[Nat.toUInt8,UInt8.toNat_ofNat']at e1 e2;omega
theorem Pr{i j:Nat}(hi:i<150)(hj:j<150)(h:cn i=cn j):i=j:=by
 unfold cn at h;injection h with h
 have h1:(97+i).toUInt8=(97+j).toUInt8:=DB;have e1:=congrArg UInt8.toNat h1;simp only[Nat.toUInt8,UInt8.toNat_ofNat']at e1;omega
theorem OV{c i:Nat}:(nm c i).size=2:=rfl
theorem ah1{i:Nat}:(cn i).size=1:=rfl
theorem aoa{i c j:Nat}(h:cn i=nm c j):False:=by
 have:=congrArg ByteArray.size h;rw[ah1,OV]at this;omega
theorem Hq{l:List cv}{x:ByteArray}(hl:l.length<=1000):Wp (oP l x) λr=>(r=true∧∃a∈l,a.bx=x)∨(r=false∧∀a∈l,a.bx≠x):=by
 unfold oP gn gU;refine av (P:=λr=>(r=true∧∃a∈l,a.bx=x)∨(r=false∧∀a∈l,a.bx≠x)) (aW (av (P:=λr=>(0<=r∧∃a∈l,a.bx=x)∨(r = -1∧∀a∈l,a.bx≠x)) (aW ?_) ?_)) (λr h=>aj h)
 .refine eS (λj _=>∀(k:Nat) (a:cv),k<j->l[k]? = some a->a.bx≠x) gx (λk a h=>ah) ?_ ?_
  .intro j _ hj hI
   refine bO hj (λa a1 a2=>?_);unfold yr;refine mC (aW (aL (aj ?_)));rw[Af];refine aq (λhb=>aL (aj ?_)) (λhb=>ay (aj ?_))
   .exact aj (.inl ⟨Int.natCast_nonneg _,a,a2,of_decide_eq_true hb⟩)
   .intro k b hk je
    rcases Nat.lt_or_ge k j with h|h
    .exact hI k b h je
    .obtain rfl:k=j:=by omega
     rw[a1]at je;obtain rfl:=Option.some.inj je;exact of_decide_eq_false hb
  .intro _ hI
   rw[Int.toNat_natCast]at hI;refine aL (aj (.inr ⟨rfl,λa ha=>?_⟩));obtain⟨k,hk,rfl⟩:=List.getElem_of_mem ha;exact hI k _ hk (List.getElem?_eq_getElem hk)
 .rintro r (⟨h1,h2⟩|⟨h1,h2⟩)
  .exact aL (aj (.inl ⟨by simpa using h1,h2⟩))
  .exact aL (aj (.inr ⟨by rw[h1];rfl,h2⟩))
theorem yQ{l:List aO}{x:ByteArray}(hl:l.length<=1000):Wp (mc l x) λr=>(r.2=true∧r.1∈l∧r.1.bx=x)∨(r.2=false∧∀a∈l,a.bx≠x):=by
 unfold mc;refine eS (λj _=>∀(k:Nat) (a:aO),k<j->l[k]? = some a->a.bx≠x) gx (λk a h=>ah) ?_ ?_
 .intro j _ hj hI
  refine bO hj (λa a1 a2=>?_);rw[Af];refine aq (λhb=>aj ?_) (λhb=>ay (aj ?_))
  .exact aj (.inl ⟨rfl,a2,of_decide_eq_true hb⟩)
  .intro k b hk je
   rcases Nat.lt_or_ge k j with h|h
   .exact hI k b h je
   .obtain rfl:k=j:=by omega
    rw[a1]at je;obtain rfl:=Option.some.inj je;exact of_decide_eq_false hb
 .intro _ hI
  rw[Int.toNat_natCast]at hI;refine aj (.inr ⟨rfl,λa ha=>?_⟩);obtain⟨k,hk,rfl⟩:=List.getElem_of_mem ha;exact hI k _ hk (List.getElem?_eq_getElem hk)
theorem Ep{l:List dA}{x:ByteArray}(hl:l.length<=1000):Wp (lq l x) λr=>(r.2=true∧r.1∈l∧r.1.bx=x)∨(r.2=false∧∀a∈l,a.bx≠x):=by
 unfold lq;refine eS (λj _=>∀(k:Nat) (a:dA),k<j->l[k]? = some a->a.bx≠x) gx (λk a h=>ah) ?_ ?_
 .intro j _ hj hI
  refine bO hj (λa a1 a2=>?_);rw[Af];refine aq (λhb=>aj ?_) (λhb=>ay (aj ?_))
  .exact aj (.inl ⟨rfl,a2,of_decide_eq_true hb⟩)
  .intro k b hk je
   rcases Nat.lt_or_ge k j with h|h
   .exact hI k b h je
   .obtain rfl:k=j:=by omega
    rw[a1]at je;obtain rfl:=Option.some.inj je;exact of_decide_eq_false hb
 .intro _ hI
  rw[Int.toNat_natCast]at hI;refine aj (.inr ⟨rfl,λa ha=>?_⟩);obtain⟨k,hk,rfl⟩:=List.getElem_of_mem ha;exact hI k _ hk (List.getElem?_eq_getElem hk)
theorem Rd{l:List ByteArray}{x:ByteArray}(hl:l.length<=1000):Wp (eT l x) λr=>(∃k:Nat,r=(k:Int)∧l[k]? = some x)∨(r = -1∧x ∉ l):=by
 unfold eT;refine eS (λj _=>∀(k:Nat) (a:ByteArray),k<j->l[k]? = some a->a≠x) gx (λk a h=>ah) ?_ ?_
 .intro j _ hj hI
  refine bO hj (λa a1 a2=>?_);rw[Af];refine aq (λhb=>aj ?_) (λhb=>ay (aj ?_))
  .exact aj (.inl ⟨j,rfl,by rw[of_decide_eq_true hb];exact a1⟩)
  .intro k b hk je
   rcases Nat.lt_or_ge k j with h|h
   .exact hI k b h je
   .obtain rfl:k=j:=by omega
    rw[a1]at je;obtain rfl:=Option.some.inj je;exact λe=>of_decide_eq_false hb e.symm
 .intro _ hI
  rw[Int.toNat_natCast]at hI;refine aj (.inr ⟨rfl,λha=>?_⟩);obtain⟨k,hk,e⟩:=List.getElem_of_mem ha;exact hI k _ hk (List.getElem?_eq_getElem hk) e
theorem RO{l:List ByteArray}{x:ByteArray}(hl:l.length<=1000):Wp (eN l x) λr=>(r=true∧x∈l)∨(r=false∧x ∉ l):=by
 unfold eN;refine av (Rd hl) ?_;rintro r (⟨k,rfl,h⟩|⟨rfl,h⟩)
 .exact aj (.inl ⟨decide_eq_true (Int.natCast_nonneg k),List.mem_of_getElem? h⟩)
 .exact aj (.inr ⟨rfl,h⟩)
theorem BE{l:List bS}{x:ByteArray}(hl:l.length<=1000)(hl2:∀u∈l,u.bR.length<=1000):Wp (mY l x) λr=>(r.2=true∧(∃u∈l,r.1∈u.bR)∧r.1.bx=x)∨(r.2=false∧∀u∈l,∀a∈u.bR,a.bx≠x):=by
 unfold mY;refine eS (λj _=>∀(k:Nat) (u:bS),k<j->l[k]? = some u->∀a∈u.bR,a.bx≠x) gx (λk a h=>ah) ?_ ?_
 .intro j _ hj hO
  refine bO hj (λu u1 u2=>?_);have:=hl2 u u2;refine eS (λj _=>∀(k:Nat) (a:bG),k<j->u.bR[k]? = some a->a.bx≠x) gx (λk a h=>ah) ?_ ?_
  .intro j _ hj hI
   refine bO hj (λa a1 a2=>?_);rw[Af];refine aq (λhb=>aj ?_) (λhb=>ay (aj ?_))
   .exact aj (aj (.inl ⟨rfl,⟨u,u2,a2⟩,of_decide_eq_true hb⟩))
   .intro k b hk je
    rcases Nat.lt_or_ge k j with h|h
    .exact hI k b h je
    .obtain rfl:k=j:=by omega
     rw[a1]at je;obtain rfl:=Option.some.inj je;exact of_decide_eq_false hb
  .intro _ hI
   rw[Int.toNat_natCast]at hI;refine ay (aj ?_);intro k v hk hv a ha;rcases Nat.lt_or_ge k j with h|h
   .exact hO k v h hv a ha
   .obtain rfl:k=j:=by omega
    rw[u1]at hv;obtain rfl:=Option.some.inj hv;obtain⟨k,hk,rfl⟩:=List.getElem_of_mem ha;exact hI k _ hk (List.getElem?_eq_getElem hk)
 .intro _ hI
  rw[Int.toNat_natCast]at hI;refine aj (.inr ⟨rfl,λu hu a ha=>?_⟩);obtain⟨k,hk,rfl⟩:=List.getElem_of_mem hu;exact hI k _ hk (List.getElem?_eq_getElem hk) a ha
theorem Sa(b:ByteArray)(i j:Nat):(b.extract i j).size<=j-i:=by
 rw[ByteArray.size_extract];omega
theorem DU{n:Int}(h0:0<=n)(h1:n<100):Wp (mI n) λs=>s.size<=2:=by
 unfold mI nR iK mS;refine av (P:=λs=>s.size<=2) (av (P:=λs=>s.size<=2) (aq (λ_=>aq (λ_=>av (P:=λs=>s.size<=2) ?_ (λ_ h=>aj h)) (λhb=>?_)) (λhb=>dw)) (λ_ h=>aj h)) (λ_ h=>aj h)
 .have w1:IntKind.wrap .i64 (n+1)=n+1:=wrap_i64 ah ah
  have w2:IntKind.wrap .i64 (n*2)=n*2:=wrap_i64 ah ah;have w3:IntKind.wrap .i64 (n*2+2)=n*2+2:=wrap_i64 ah ah;refine aq (λhb=>?_) (λhb=>?_)
  .have:n<10:=by simpa using hb
   rw[w1];refine aK ?_ (aj (Nat.le_trans (Sa _ _ _) ah));unfold fC;simp only[szc,List.length_cons,List.length_nil];omega
  .rw[w2,w3]
   refine aK ?_ (aj (Nat.le_trans (Sa _ _ _) ah));unfold fC;simp only[szc,List.length_cons,List.length_nil];omega
 .simp at hb;omega
structure Gw(I T F p:Nat)(s:dQ):Prop where
 i3:I<=3
 t1:T<=1
 f2:F<=2
 p2:p<=2
 vars:s.ir=vW I T
 fl:s.dN.length=F
 fn:∀(k:Nat) (x:cv),s.dN[k]? = some x->x.bx=nm 102 k
 pr:s.eM=(List.range p).map (nm 112)
theorem YK{I T:Nat}:(vW I T).length=I+1+T:=by unfold vW;simp;omega
theorem agz{I T i:Nat}(h:i<I):(⟨nm 120 i,1,(i:Int)⟩:dA)∈vW I T:=by
 unfold vW;exact List.mem_append.2 (.inl (List.mem_append.2 (.inl (List.mem_map.2 ⟨i,List.mem_range.2 h,rfl⟩))))
theorem agB{I T:Nat}:(⟨nm 98 0,2,0⟩:dA)∈vW I T:=by
 unfold vW;exact List.mem_append.2 (.inl (List.mem_append.2 (.inr aR)))
theorem agA{I T i:Nat}(h:i<T):(⟨nm 116 i,3,0⟩:dA)∈vW I T:=by
 unfold vW;exact List.mem_append.2 (.inr (List.mem_map.2 ⟨i,List.mem_range.2 h,rfl⟩))
theorem Jv{I T:Nat}(i3:I<=3)(t1:T<=1){c k:Nat}(hc:c<256)(hk:k<200):Wp (lq (vW I T) (nm c k)) λr=>
  (r.2=true∧((c=120∧k<I∧r.1.sQ=1)∨(c=98∧k=0∧r.1.sQ=2)∨(c=116∧k<T∧r.1.sQ=3)))∨(r.2=false∧¬(c=120∧k<I)∧¬(c=98∧k=0)∧¬(c=116∧k<T)):=by
 refine(Ep (by rw[YK];omega)).imp ?_;rintro⟨v,b⟩ (⟨h1,h2,h3⟩|⟨h1,h2⟩)
 .refine .inl ⟨h1,?_⟩
  dsimp only at h2 h3 |-;rcases Av h2 with⟨i,hi,rfl⟩ | rfl|⟨i,hi,rfl⟩
  .have:=vu ah hc ah hk h3
   exact .inl ⟨this.1.symm,ah,rfl⟩
  .have:=vu ah hc ah hk h3
   exact .inr (.inl ⟨this.1.symm,this.2.symm,rfl⟩)
  .have:=vu ah hc ah hk h3
   exact .inr (.inr ⟨this.1.symm,ah,rfl⟩)
 .refine .inr ⟨h1,?_,?_,?_⟩
  .rintro⟨rfl,h⟩;exact h2 _ (agz h) rfl
  .rintro⟨rfl,rfl⟩;exact h2 _ agB rfl
  .rintro⟨rfl,h⟩;exact h2 _ (agA h) rfl
section
variable {I T F p:Nat} {s:dQ}
theorem Gw.par(h:Gw I T F p s){c k:Nat}(hc:c<256)(hk:k<200):Wp (eN s.eM (nm c k)) λr=>(r=true∧c=112∧k<p)∨(r=false∧¬(c=112∧k<p)):=by
 have p2:=h.p2;rw[h.pr];refine(RO iC).imp ?_;rintro r (⟨rfl,h⟩|⟨rfl,h⟩)
 .obtain⟨i,hi,e⟩:=List.mem_map.1 h
  have hi:=List.mem_range.1 hi;have:=vu ah hc ah hk e;exact .inl ⟨rfl,ah,ah⟩
 .refine .inr ⟨rfl,?_⟩
  rintro⟨rfl,hk⟩;exact h (List.mem_map.2 ⟨k,List.mem_range.2 hk,rfl⟩)
theorem Hp{l:List cv}(f2:l.length<=2)(fn:∀(k:Nat) (x:cv),l[k]? = some x->x.bx=nm 102 k){c k:Nat}(hc:c<256)(hk:k<200):Wp (oP l (nm c k)) λr=>(r=true∧c=102∧k<l.length)∨(r=false∧¬(c=102∧k<l.length)):=by
 refine(Hq ah).imp ?_;rintro r (⟨rfl,a,ha,e⟩|⟨rfl,h⟩)
 .obtain⟨i,hi,rfl⟩:=List.getElem_of_mem ha
  rw[fn i _ (List.getElem?_eq_getElem hi)]at e;have:=vu ah hc ah hk e;exact .inl ⟨rfl,ah,ah⟩
 .refine .inr ⟨rfl,?_⟩
  rintro⟨rfl,hk⟩;exact h _ (List.getElem_mem hk) (fn k _ (List.getElem?_eq_getElem hk))
theorem Gw.name(h:Gw I T F p s){c k:Nat}{t:Int}(hc:c<256)(hk:k<200)(hn:(t=1∧c=120∧k<I)∨(t=1∧c=112∧k<p)∨(t=2∧c=98∧k=0)∨(t=2∧c=102∧k<F)):tq s (nm c k)=some (t,0):=by
 unfold tq;refine dD (av (h.par hc hk) ?_);rintro r (⟨rfl,h1,h2⟩|⟨rfl,h1⟩)
 .refine aq (λ_=>aj ?_) (λhb=>dw)
  obtain rfl:t=1:=ah
  rfl
 .refine aq (λhb=>dw) (λ_=>?_)
  rw[h.vars];refine av (Jv h.i3 h.t1 hc hk) ?_;rintro⟨v,b⟩ (⟨rfl,h2⟩|⟨rfl,h2⟩)
  .dsimp only at h2 |-
   refine aq (λhb=>?_) (λ_=>aq (λ_=>aj ?_) (λhb=>dw))
   .have:v.sQ=3:=by simpa using hb
    omega
   .have:v.sQ=t:=by omega
    rw[this]
  .refine aq (λhb=>dw) (λ_=>aq (λhb=>dw) (λ_=>?_))
   have f2:=h.f2;have fl:=h.fl;refine av (Hp ah h.fn hc hk) ?_;rintro r (⟨rfl,h3⟩|⟨rfl,h3⟩)
   .refine aq (λ_=>aj ?_) (λhb=>dw)
    obtain rfl:t=2:=ah
    rfl
   .omega
theorem Gw.var(h:Gw I T F p s){c k:Nat}{t:Int}(hc:c<256)(hk:k<200)(hn:(t=1∧c=120∧k<I)∨(t=2∧c=98∧k=0)∨(t=3∧c=116∧k<T)):Wp (lr s (nm c k)) λr=>r.2=true∧r.1.sQ=t:=by
 unfold lr;refine av (h.par hc hk) ?_;rintro r (⟨rfl,h1⟩|⟨rfl,h1⟩)
 .omega
 .refine aq (λhb=>dw) (λ_=>?_)
  rw[h.vars];refine av (Jv h.i3 h.t1 hc hk) ?_;rintro⟨v,b⟩ (⟨rfl,h2⟩|⟨rfl,h2⟩)
  .dsimp only at h2
   exact aj ⟨rfl,bB⟩
  .omega
theorem Gw.table(h:Gw I T F p s)(ht:0<T):oj s (nm 116 0)=some 0:=by
 unfold oj;refine dD (av (h.var (t:=3) ah ah ah) ?_);rintro⟨v,b⟩ ⟨rfl,h2⟩;dsimp only at h2;exact aq (λhb=>dw) (λ_=>aq (λhb=>by dsimp only at hb;rw[h2]at hb;cases hb) (λ_=>aj rfl))
def tyv(t:Bool):Int:=if t then 2 else 1
theorem aeV{sf:dQ->aB->Option (Int×ByteArray×Int)}{u:Bool}{l:List DV}(hl:l.length<=2)(h:∀a∈l,∃e,aB.dec a=some e∧sf s e=some (tyv u,ByteArray.empty,0)):rT sf s l=some (if l = []then 0 else tyv u,ByteArray.empty,0):=by
 unfold rT;refine dD (eS (λj s=>s.2=true∧s.1=if j=0 then 0 else tyv u) gx ⟨rfl,rfl⟩ ?_ ?_)
 .rintro j ⟨a,b⟩ hj ⟨h1,h2⟩
  dsimp only at h1 h2;subst h1;refine bO hj (λx x1 x2=>?_);obtain⟨e,e1,e2⟩:=h x x2;refine aF e1 (aF e2 (aq (λhb=>dw) (λ_=>cX (aq (λhb=>?_) (λhb=>?_)))))
  .exact ay (ay (aj ⟨aR,aR⟩))
  .have:j≠0:=by simpa using hb
   rw[if_neg this]at h2;exact ay (ay (aj ⟨by dsimp only;rw[h2];simp,by dsimp only;rw[if_neg ah];exact h2⟩))
 .rintro⟨a,b⟩ ⟨h1,h2⟩
  dsimp only at h1 h2;subst h1;rw[Int.toNat_natCast]at h2;refine aq (λhb=>dw) (λ_=>aj ?_);dsimp only;rw[h2]
  by_cases e:l = []
  .subst e;rfl
  .rw[if_neg e,if_neg Px]
end
abbrev Lm(I T F p:Nat)(gw:List (List Int))(own:Nat):SN:=⟨I,T,F,p,gw,own⟩
theorem YN{I T F p own:Nat}{gw:List (List Int)}{s:dQ}(h:Gw I T F p s):∀{d:Nat} {t:Bool} {x:DV},WE (Lm I T F p gw own) Ei d t x->∀{fu:Nat},d<=fu->∃e,aB.dec x=some e∧jq fu s e=some (tyv t,ByteArray.empty,0):=by
 have i3:=h.i3;have t1:=h.t1;have f2:=h.f2;have p2:=h.p2;intro d t x hx
 induction hx with
 | @node d t u op n FY c l sh hl _ ih=>
  intro fu hf;obtain⟨g,rfl⟩:∃g,fu=g+1:=⟨fu-1,ah⟩;have hc:=sh.c2;refine⟨_,CP _,?_⟩;have ha:=aeV (s:=s) (sf:=jq g) (u:=u) (l:=l) ah (λa ha=>ih a ha ah)
  have h0:c=0->(if l = []then(0:Int)else tyv u)=0:=λe=>by
   rw[if_pos (List.eq_nil_of_length_eq_zero ah)]
  have h1:c≠0->(if l = []then(0:Int)else tyv u)=tyv u:=λe=>by
   rw[if_neg (λe2=>by subst e2;exact e (by simpa using hl.symm))]
  generalize (if l = []then(0:Int)else tyv u)=z at ha h0 h1;unfold jq sE;refine dD (aF ha ?_);refine aq (λhb=>dw) (λ_=>cX (cX ?_))
  have nam:∀{c k:Nat} {t:Int},c<256->k<200->(t=1∧c=120∧k<I)∨(t=1∧c=112∧k<p)∨(t=2∧c=98∧k=0)∨(t=2∧c=102∧k<F)->Wp (nJ s ⟨5,nm c k,0,l⟩ (z,ByteArray.empty,0) false) (· = (t,ByteArray.empty,0)):=by
   intro c k t hc hk hn;refine aq (λhb=>dw) (λ_=>aq (λ_=>?_) (λhb=>dw));refine aF (h.name hc hk hn) ?_;unfold jS;exact av (P:=(· = (t,ByteArray.empty,0))) (aq (λhb=>dw) (λ_=>aj rfl)) (λr e=>VK)
  have nk:∀{o c k:Nat} {t:Int},o=5->c<256->k<200->(t=1∧c=120∧k<I)∨(t=1∧c=112∧k<p)∨(t=2∧c=98∧k=0)∨(t=2∧c=102∧k<F)->Wp (If (((5:Int))==1) (nX [] [] (kN s ⟨5,nm c k,0,l⟩ (z,ByteArray.empty,0) (((5:Int))==1))) (nX [] [] (kN s ⟨5,nm c k,0,l⟩ (z,ByteArray.empty,0) (((5:Int))==4)))) (· = (t,ByteArray.empty,0)):=by
   intro o c k t _ hc hk hn;refine aq (λhb=>dw) (λ_=>ay (aq (λhb=>dw) (λ_=>cX (aq (λhb=>dw) (λ_=>ay (nam hc hk hn))))))
  have tab:∀{op t:Int},0<T->(op=6∧t=1)∨(op=7∧t=2)->Wp (gr s ⟨op,nm 116 0,0,l⟩ (1,ByteArray.empty,0) (1,t)) (· = (t,ByteArray.empty,0)):=by
   intro op t ht ho;refine aq (λhb=>dw) (λ_=>aq (λ_=>?_) (λhb=>?_))
   .refine aF (h.table ht) ?_
    unfold jS;exact av (P:=(· = (t,ByteArray.empty,0))) (aq (λhb=>dw) (λ_=>aj rfl)) (λr e=>VK)
   .rcases ho with⟨rfl,_⟩|⟨rfl,_⟩ <;> cases hb
  have y1:tyv false=1:=rfl;have y2:tyv true=2:=rfl;cases sh with
  |lit a b=>exact pG bp
  |now=>exact pG bp
  |var a=>exact nk (o:=5) rfl ah Gr Gr
  |par a=>exact nk (o:=5) rfl ah Gr Gr
  |get a=>
   obtain rfl:z=1:=h1 aV;have:Wp (gr s ⟨6,nm 116 0,0,l⟩ (1,ByteArray.empty,0) (1,1)) (· = (1,ByteArray.empty,0)):=tab Gr ah;obtain⟨r,e,rfl⟩:=this;refine pG (Eq.trans ?_ e)
   kernel_rfl
  |size a=>
   refine aq (λhb=>dw) (λ_=>ay (aq (λhb=>dw) (λ_=>cX (aq (λhb=>dw) (λ_=>ay (aq (λhb=>dw) (λ_=>aq (λhb=>dw) (λ_=>aq (λ_=>?_) (λhb=>dw)))))))));refine aF (h.table Gr) ?_;unfold jS;exact av (P:=(· = (1,ByteArray.empty,0))) (aq (λhb=>dw) (λ_=>aj rfl)) (λr e=>VK)
  |neg=>obtain rfl:z=1:=h1 aV;exact pG bp
  |bin a b=>
   obtain rfl:z=1:=h1 aV;rcases op5 11 a ah with rfl|rfl|rfl|rfl|rfl|rfl <;> first|omega|exact pG bp
  |tf a b=>rcases op5 2 a ah with rfl|rfl|rfl|rfl|rfl|rfl <;> first|omega|exact pG bp
  |b0=>exact nk (o:=5) rfl ah ah ah
  |flag a=>exact nk (o:=5) rfl ah Gr Gr
  |has a=>
   obtain rfl:z=1:=h1 aV;have:Wp (gr s ⟨7,nm 116 0,0,l⟩ (1,ByteArray.empty,0) (1,2)) (· = (2,ByteArray.empty,0)):=tab Gr ah;obtain⟨r,e,rfl⟩:=this;refine pG (Eq.trans ?_ e)
   kernel_rfl
  |not=>obtain rfl:z=2:=h1 aV;exact pG bp
  |con a b=>
   obtain rfl:z=2:=h1 aV;rcases op5 22 a ah with rfl|rfl|rfl|rfl|rfl|rfl <;> first|omega|exact pG bp
  |cmp a b=>
   obtain rfl:z=1:=h1 aV;rcases op5 16 a ah with rfl|rfl|rfl|rfl|rfl|rfl <;> exact pG bp
def yc(f:bu)(c:aH):Prop:=c.fT=f∧c.uC.II=0
theorem WT{x:ByteArray}{o:aH}:fi 0 x o=some (o.uC.II==0,o):=by
 unfold fi;exact dD (cX (aq (λhb=>by simp at hb) (λ_=>ay (aL (aj rfl)))))
theorem agC{c:Bool}{e:Int}{x:ByteArray}{o:aH}(h:c=true):da c e x o=some (o.uC.II==0,o):=by
 subst h;unfold da;exact dD (cX (aq (λ_=>ay (aF (by unfold cl;exact WT) (aL (aj rfl)))) (λhb=>dw)))
theorem Uo{β:Type}{c:Bool}{e:Int}{x:ByteArray}{o:aH}{t:Nat}{l:Rn}{f:Bool×aH->Option β}{Q:β->Prop}(h:c=true)(g:Wp (f (o.uC.II==0,o)) Q):Wp (Bi (cl t l (da c e x o)) f) Q :=
 aF (by unfold cl;exact agC h) g
theorem wrp{β:Type}{x:ByteArray}{o:aH}{t:Nat}{l:Rn}{f:Bool×aH->Option β}{Q:β->Prop}(g:Wp (f (o.uC.II==0,o)) Q):Wp (Bi (cl t l (fi 0 x o)) f) Q :=
 aF (by unfold cl;exact WT) g
theorem wat{β:Type}{x:ByteArray}{o:aH}{t:Nat}{l:Rn}{f:Bool×aH->Option β}{Q:β->Prop}(h:o.uC.II=0)(g:Wp (f (true,{ o with Dr:=x })) Q):Wp (Bi (cl t l (gQ x o)) f) Q:=by
 refine aF ?_ g;unfold cl gQ;exact dD (aL (aj Pw))
section
variable {I T F p own:Nat} {gw:List (List Int)} {f:bu} {b:dR} {c:aH}
theorem aeT(h:Gw I T F p b.tK){u:Bool}{l:List DV}(hl:l.length<=3)(he:∀e∈l,WE (Lm I T F p gw own) Ei 6 u e):gZ (tyv u) l b c=some c:=by
 unfold gZ;refine dD (cC (λ_ s=>s=c) gx rfl ?_ (λs hs=>aL (aj hs)));rintro j s hj rfl;refine bO hj (λx x1 x2=>?_);obtain⟨e,e1,e2⟩:=YN h (he x x2) (fu:=64) ah;exact aF e1 (aF e2 (wrp (Uo aR (ay (aj rfl)))))
theorem XS(h:Gw I T F p b.tK){i' I' T':Nat}{r:List Int}{x:aO}(hx:SCW F gw i' I' T' r x)(r3:r.length<=3){hd m:Nat}{k:Int}{l:List DV}(hr:r[hd]? = some (m:Int))(hl:l.length<=3)(k0:0<=k)(hk:(l.length:Int)-k=m)(he:∀e∈l,WE (Lm I T F p gw own) Ei 6 false e):oq x (nm 104 hd) l k b c=some c:=by
 unfold oq;have hd3:=(List.getElem?_eq_some_iff.1 hr).1;have v2:=hx.v2;refine dD (av (BE ah (λu hu=>by have:=(hx.h1 u hu).2;omega)) ?_);rintro⟨y,q⟩ (⟨rfl,⟨u,u1,u2⟩,hn⟩|⟨rfl,hn⟩)
 .dsimp only at u2 hn |-
  obtain⟨j,hj,rfl⟩:=List.getElem_of_mem u2;obtain⟨pp,p2,rp,j3,FY,LV,_⟩:=hx.hs u u1 j _ (List.getElem?_eq_getElem hj);rw[FY]at hn;have:=vu ah ah ah ah hn;obtain rfl:j=hd:=this.2;rw[hr]at rp;have hm:(m:Int)=pp:=Option.some.inj rp;refine Uo rfl (Uo ?_ (aF (by unfold cl;exact aeT h hl he) (aL (aj rfl))));rw[wrap_i64 ah ah,hk,LV];simp only[List.length_map,List.length_range,hm,BEq.rfl]
 .exfalso
  obtain⟨u,u1,u2⟩:=hx.full;have hj:hd<u.bR.length:=ah;obtain⟨pp,p2,rp,j3,FY,LV,_⟩:=hx.hs u u1 hd _ (List.getElem?_eq_getElem hj);exact hn u u1 _ (List.getElem_mem hj) FY
theorem ZY(hf:Fu gw f){i:Nat}{r:List Int}(hr:gw[i]? = some r):Wp (mc f.aG (cn i)) λq=>q.2=true∧∃I T,SCW f.aY.length gw i I T r q.1:=by
 have n3:=hf.n3;have al:=hf.al;have hi:=(List.getElem?_eq_some_iff.1 hr).1;refine(yQ ah).imp ?_;rintro⟨x,q⟩ (⟨rfl,h1,h2⟩|⟨rfl,h1⟩)
 .dsimp only at h1 h2 |-
  obtain⟨j,hj,rfl⟩:=List.getElem_of_mem h1;obtain⟨I,T,r',g⟩:=hf.cs j _ (List.getElem?_eq_getElem hj);rw[g.name]at h2;obtain rfl:j=i:=Pr ah ah h2;have:=g.ar;rw[hr]at this;obtain rfl:=Option.some.inj this;exact⟨rfl,I,T,g⟩
 .exfalso
  obtain⟨I,T,r',g⟩:=hf.cs i _ (List.getElem?_eq_getElem ah);exact h1 _ (List.getElem_mem ah) g.name
theorem Fq(h:Gw I T F p b.tK){d k:Nat}{t:Int}(hc:d<256)(hk:k<200)(hn:(t=1∧d=120∧k<I)∨(t=2∧d=98∧k=0)∨(t=3∧d=116∧k<T)):jv (nm d k) b c=some (t,c):=by
 unfold jv;refine dD (av (h.var hc hk hn) ?_);rintro⟨v,q⟩ ⟨h1,h2⟩;dsimp only at h1 h2;subst h1;exact aq (λ_=>aL (aj (by dsimp only;rw[h2]))) (λhb=>dw)
theorem agR(hf:Fu gw f)(hc:yc f c)(h:Gw I T f.aY.length p b.tK){r0:List Int}(hx:SCW f.aY.length gw own I T r0 b.kS){k:Int}{n hd:ByteArray}{t:Bool}{m:Nat}{q1 q2:Bool}{l s z:List DV}(sh:Ss (Lm I T f.aY.length p gw own) k n hd t m q1 q2)(hl:l.length=m)(he:∀e∈l,WE (Lm I T f.aY.length p gw own) Ei 6 t e):mD ⟨k,n,hd,l,s,z⟩ b c=some c:=by
 have c3:=sh.c3;have i3:=h.i3;have t1:=h.t1
 have al:∀{t':Bool} {t0:Int},t0=tyv t'->t=t'->gZ t0 l b c=some c:=by
  intro t' t0 e1 e2;subst e1 e2;exact aeT h ah he
 unfold mD;refine dD ?_;cases sh with
 |set a=>
  refine aq (λ_=>?_) (λhb=>dw);refine aF ajt ?_;exact aq (λ_=>aF SD (aL (aj rfl))) (λhb=>dw)
 |Zc=>
  refine aq (λ_=>?_) (λhb=>dw);refine aF (by unfold cl;exact Fq h (t:=2) ah ah ah) ?_;exact aq (λ_=>aF adG (aL (aj rfl))) (λhb=>dw)
 |put a=>
  refine aq (λhb=>dw) (λ_=>cX (aq (λ_=>ay (aq (λ_=>?_) (λhb=>dw))) (λhb=>dw)));refine aF ajo ?_;exact Uo rfl (aF SD (aL (aj rfl)))
 |del a=>
  refine aq (λhb=>dw) (λ_=>cX (aq (λhb=>dw) (λ_=>ay (aq (λ_=>?_) (λhb=>dw)))));refine aF ajo ?_;exact Uo rfl (aF SD (aL (aj rfl)))
 |iff=>
  refine aq (λhb=>dw) (λ_=>cX (aq (λhb=>dw) (λ_=>ay (aq (λhb=>dw) (λ_=>aq (λhb=>dw) (λ_=>?_))))));exact cX (aq (λ_=>ay (aq (λ_=>aF adG (aL (aj rfl))) (λhb=>dw))) (λhb=>dw))
 |whl=>
  refine aq (λhb=>dw) (λ_=>cX (aq (λhb=>dw) (λ_=>ay (aq (λhb=>dw) (λ_=>aq (λhb=>dw) (λ_=>?_))))));exact cX (aq (λhb=>dw) (λ_=>ay (aq (λ_=>aF adG (aL (aj rfl))) (λhb=>dw))))
 | @send i h' c' r a1 a2 a3=>
  refine aq (λhb=>dw) (λ_=>cX (aq (λhb=>dw) (λ_=>ay (aq (λhb=>dw) (λ_=>aq (λhb=>dw) (λ_=>?_))))));refine cX (aq (λhb=>dw) (λ_=>ay (aq (λhb=>dw) (λ_=>aq (λ_=>?_) (λhb=>dw)))));rw[hc.1];have a1':gw[i]? = some r:=a1;refine av (ZY hf a1') ?_;rintro⟨x,q⟩ ⟨rfl,I',T',g⟩;have r3:=(hf.ar r (List.mem_of_getElem? a1')).2.1;exact Uo rfl (aF (by unfold cl;exact XS h g r3 a2 bB ah bB he) (aL (aj rfl)))
 | @aft h' c' r a1 a2 a3=>
  refine aq (λhb=>dw) (λ_=>cX (aq (λhb=>dw) (λ_=>ay (aq (λhb=>dw) (λ_=>aq (λhb=>dw) (λ_=>?_))))));refine cX (aq (λhb=>dw) (λ_=>ay (aq (λhb=>dw) (λ_=>aq (λhb=>dw) (λ_=>aq (λ_=>?_) (λhb=>dw))))));have a1':gw[own]? = some r:=a1;have:r0=r:=by have:=hx.ar;rw[a1']at this;exact(Option.some.inj this).symm
  subst this;have r3:=(hf.ar r0 (List.mem_of_getElem? a1')).2.1;exact aF (by unfold cl;exact XS h hx r3 a2 bB ah bB he) (aL (aj rfl))
 |store=>
  refine aq (λhb=>dw) (λ_=>cX (aq (λhb=>dw) (λ_=>ay (aq (λhb=>dw) (λ_=>aq (λhb=>dw) (λ_=>?_))))));exact cX (aq (λhb=>dw) (λ_=>ay (aq (λhb=>dw) (λ_=>aq (λhb=>dw) (λ_=>aq (λhb=>dw) (λ_=>aq (λ_=>aF SD (aL (aj rfl))) (λhb=>dw)))))))
 |MT a=>
  refine aq (λhb=>dw) (λ_=>cX (aq (λhb=>dw) (λ_=>ay (aq (λhb=>dw) (λ_=>aq (λ_=>?_) (λhb=>dw))))));refine aF ajt ?_;exact Uo rfl (aF SD (aL (aj rfl)))
 |stop=>
  refine aq (λhb=>dw) (λ_=>cX (aq (λhb=>dw) (λ_=>ay (aq (λhb=>dw) (λ_=>aq (λhb=>dw) (λ_=>?_))))));exact cX (aq (λhb=>dw) (λ_=>ay (aq (λhb=>dw) (λ_=>aq (λhb=>dw) (λ_=>aq (λhb=>dw) (λ_=>aq (λhb=>dw) (λ_=>aL (aj rfl))))))))
end
section
variable {I T p own:Nat} {gw:List (List Int)} {f:bu} {r0:List Int}
theorem ah7(hf:Fu gw f)(d:Nat):∀{n:Nat} {l:List DV},WB (Lm I T f.aY.length p gw own) Ei Vb d n l->n<=12->∀{fu:Nat} {b:dR} {c:aH},d<fu->yc f c->Gw I T f.aY.length p b.tK->SCW f.aY.length gw own I T r0 b.kS->b.Ff.size<=1000->0<=b.wF->b.wF+n<=90 ->
  Wp (gu fu l b c) λq=>q.1 = { b with wF:=b.wF+n }∧yc f q.2:=by
 induction d with
 |zero=>
  rintro n l ⟨rfl,rfl⟩ _ fu b c hd hc hs hx hp h0 h1;obtain⟨g,rfl⟩:∃g,fu=g+1:=⟨fu-1,ah⟩;unfold gu kH;refine eS (λ_ s=>s=(b.tK,b.kS,b.Ff,b.wF,c)) Su rfl (λj _ hj _=>DE) ?_;rintro s rfl;exact aL (aj ⟨aR,hc⟩)
 |succ d ih=>
  intro n l h hn fu b c hd hc hs hx hp h0 h1;obtain⟨g,rfl⟩:∃g,fu=g+1:=⟨fu-1,ah⟩;have hl:=h.len;obtain⟨m,m0,m1,m2,m3⟩:=NS h (λ_ _=>WF.pos);unfold gu kH;refine eS (λj s=>s.1=b.tK∧s.2.1=b.kS∧s.2.2.1=b.Ff∧s.2.2.2.1=b.wF+m j∧yc f s.2.2.2.2) gx ⟨rfl,rfl,rfl,bB,hc⟩ ?_ ?_
  .rintro j ⟨a1,a2,a3,a4,a5⟩ hj ⟨e1,e2,e3,e4,hk⟩
   dsimp only at e1 e2 e3 e4 hk |-;subst e1 e2 e3 e4;refine bO hj (λx x1 x2=>?_);obtain⟨a,ha,hw⟩:=m3 j x x1;have b1:=m2 j ah;have b2:=m2 (j+1) ah;obtain⟨sh,Tl,he,ht,hz,hp1,hq1⟩:=hw
   rename_i kk FY hh t cc aa bb pp qq es ss zs
   refine aF (zO _) ?_;refine av (DU (n:=b.wF+m j) ah ah) (λst zb=>?_);refine aK ah (wat hk.2 (aq (λhb=>dw) (λ_=>?_)));rw[wrap_i64 (n:=b.wF+m j+1) ah ah];have Cs:yc f { a5 with Dr:=b.Ff++st }:=hk;refine aF (by unfold cl;exact agR (b:={ b with wF:=b.wF+m j+1 }) hf Cs hs hx sh Tl he) ?_;refine av (aW (ih ht ah ah Cs hs hx hp bB bB)) ?_;rintro⟨q1,q2⟩ ⟨rfl,hk2⟩;refine av (aW (ih hz ah ah hk2 hs hx hp bB bB)) ?_;rintro⟨q1,q3⟩ ⟨rfl,hk3⟩;exact ay (aj ⟨rfl,rfl,rfl,bB,hk3⟩)
  .rintro⟨a1,a2,a3,a4,a5⟩ ⟨e1,e2,e3,e4,hk⟩
   dsimp only at e1 e2 e3 e4 hk;subst e1 e2 e3;rw[Int.toNat_natCast,m1]at e4;exact aL (aj ⟨by dsimp only;rw[e4],hk⟩)
theorem acO(hf:Fu gw f){x:aO}(hx:SCW f.aY.length gw own I T r0 x){k:Nat}{h:bG}(hh:LN I T f.aY.length gw own r0 k h){v:ByteArray}(hv:v.size<=100){c:aH}(hc:yc f c):Wp (om x h v c) (yc f):=by
 obtain⟨p,p2,rp,k3,FY,LV,a,a12,hb⟩:=hh;have hpl:h.dY.length=p:=by rw[LV];simp
 have i3:=hx.i3;have t1:=hx.t1;unfold om;refine cC (λ_ s=>s=c) gx rfl ?_ ?_
 .rintro j s hj rfl
  refine bO hj (λy y1 y2=>?_)
  have hy:y=nm 112 j:=by
   rw[LV,List.getElem?_map]at y1;rw[List.getElem?_range ah]at y1;exact(Option.some.inj y1).symm
  subst hy;rw[hx.vars];refine av (Jv i3 t1 ah ah) ?_;rintro⟨vr,q⟩ (⟨_,h2⟩|⟨rfl,h2⟩)
  .omega
  rw[hc.1];refine av (gX (λ_=>Hp hf.f2 hf.fn ah ah) (λh=>dI)) ?_;rintro r (⟨_,h3⟩|⟨rfl,_⟩)
  .omega
  refine aK (λ_=>vI) ?_;refine av (P:=(· = false)) (gX (λ_=>(RO zG).imp ?_) (λh=>dI)) ?_
  .rintro r (⟨_,h4⟩|⟨rfl,_⟩)
   .exfalso
    rw[Int.toNat_natCast]at h4;obtain⟨i,hi,e⟩:=List.getElem_of_mem h4;rw[List.length_take]at hi;rw[List.getElem_take]at e;have:h.dY[i]? = some (nm 112 j):=by rw[List.getElem?_eq_getElem ah,e]
    rw[LV,List.getElem?_map,List.getElem?_range ah]at this;have:=vu ah ah ah ah (Option.some.inj this);omega
   .rfl
  rintro r rfl;exact Uo rfl (ay (aj rfl))
 .rintro s rfl
  have z1:x.bx.size=1:=by rw[hx.name];rfl
  have z2:h.bx.size=2:=by rw[FY];rfl
  refine aK uR (aK uR (aK uR (aK uR (aK uR ?_))));rw[hc.1];refine av (aW (ah7 (p:=p) (r0:=r0) hf 4 hb a12 ah hc ⟨i3,t1,hf.f2,p2,hx.vars,rfl,hf.fn,LV⟩ hx uR (Int.le_refl _) bB)) ?_;rintro⟨q1,q2⟩ ⟨_,hk⟩;exact aL (aj hk)
end
theorem abE{I T:Nat}(h1:1<=I)(h3:I<=3)(t1:T<=1):(vW I T).Pairwise (λa b=>a.bx≠b.bx):=by
 unfold vW;rw[List.pairwise_append,List.pairwise_append];refine⟨⟨?_,aR,?_⟩,?_,?_⟩
 .rw[List.pairwise_map]
  refine(List.pairwise_lt_range (n:=I)).imp_of_mem (fun {a b} ha hb hab e=>?_);have:=List.mem_range.1 ha;have:=List.mem_range.1 hb;have:=vu ah ah ah ah e;omega
 .intro a ha b hb e
  obtain⟨i,hi,rfl⟩:=List.mem_map.1 ha;have:=List.mem_range.1 hi;simp at hb;subst hb;have:=vu ah ah ah ah e;omega
 .rw[List.pairwise_map]
  refine(List.pairwise_lt_range (n:=T)).imp_of_mem (fun {a b} ha hb hab e=>?_);have:=List.mem_range.1 ha;have:=List.mem_range.1 hb;omega
 .intro a ha b hb e
  obtain⟨i,hi,rfl⟩:=List.mem_map.1 hb;have:=List.mem_range.1 hi;rcases List.mem_append.1 ha with ha|ha
  .obtain⟨j,hj,rfl⟩:=List.mem_map.1 ha
   have:=List.mem_range.1 hj;have:=vu ah ah ah ah e;omega
  .simp at ha;subst ha
   have:=vu ah ah ah ah e;omega
theorem Wx{α:Type}{R:α->α->Prop}{l:List α}(h:l.Pairwise R){j:Nat}{x a:α}(hx:l[j]? = some x)(ha:a∈l.take j):R a x:=by
 obtain⟨i,hi,rfl⟩:=List.getElem_of_mem ha;rw[List.length_take]at hi;obtain⟨hj,rfl⟩:=List.getElem?_eq_some_iff.1 hx;rw[List.getElem_take];exact(List.pairwise_iff_getElem.1 h) i j ah hj ah
theorem aj2{I T own:Nat}{gw:List (List Int)}{f:bu}{r0:List Int}(hf:Fu gw f){x:aO}(hx:SCW f.aY.length gw own I T r0 x){j:Nat}(hj:(j:Int)<(x.bf.length:Int)){c:aH}(hc:yc f c){v:List bG}{k:Nat}{h:bG}{u:bS}(hu:x.bf[j]? = some u)(hk:u.bR[k]? = some h) :
  Wp (mY [⟨u.bR.take k⟩] h.bx) (λq=>q.2=false)∧Wp (mY (x.bf.take j) h.bx) (λq=>((!q.2)||((q.1.dY.length:Int)==(h.dY.length:Int)))=true):=by
 have um:=List.mem_of_getElem? hu;obtain⟨p,p2,rp,k3,FY,LV,_⟩:=hx.hs u um k h hk;have hul:=(hx.h1 u um).2;have r3:=(hf.ar r0 (List.mem_of_getElem? hx.ar)).2.1;have v2:=hx.v2
 constructor
 .refine(BE aR (λw hw=>?_)).imp ?_
  .simp at hw;subst hw;dsimp only;rw[List.length_take];omega
  .rintro⟨y,q⟩ (⟨rfl,⟨w,w1,w2⟩,hn⟩|⟨rfl,_⟩)
   .exfalso
    simp at w1;subst w1;dsimp only at w2 hn;obtain⟨i,hi,rfl⟩:=List.getElem_of_mem w2;rw[List.length_take]at hi;rw[List.getElem_take]at hn;obtain⟨_,_,_,i3,alY,_⟩:=hx.hs u um i _ (List.getElem?_eq_getElem ah);rw[FY,alY]at hn;have:=vu ah ah ah ah hn;omega
   .rfl
 .refine(BE zG (λw hw=>by have:=(hx.h1 w (List.mem_of_mem_take hw)).2;omega)).imp ?_
  rintro⟨y,q⟩ (⟨rfl,⟨w,w1,w2⟩,hn⟩|⟨rfl,_⟩)
  .dsimp only at w2 hn |-
   obtain⟨i,hi,rfl⟩:=List.getElem_of_mem w2;obtain⟨p',_,rp',i3,alY,awc,_⟩:=hx.hs w (List.mem_of_mem_take w1) i _ (List.getElem?_eq_getElem hi);rw[FY,alY]at hn;have:=vu ah ah ah ah hn;obtain rfl:i=k:=this.2;rw[rp]at rp';have:=Option.some.inj rp';rw[LV,awc];simp only[List.length_map,List.length_range];simp;omega
  .rfl
theorem ahX{gw:List (List Int)}{f:bu}(hf:Fu gw f){i:Nat}(hi:i<f.aG.length){c:aH}(hc:yc f c):Wp (iZ (i:Int) c) (yc f):=by
 obtain⟨I,T,r0,hx⟩:=hf.cs i _ (List.getElem?_eq_getElem hi);have n3:=hf.n3;have f2:=hf.f2;have v2:=hx.v2;have vl:=hx.Ur;have i1:=hx.i1;have i3:=hx.i3;have t1:=hx.t1;have r3:=(hf.ar r0 (List.mem_of_getElem? hx.ar)).2.1;unfold iZ;rw[hc.1];refine aF (fW _ _ |>.trans (List.getElem?_eq_getElem hi)) ?_;have hcn:=hx.name;have z1:(f.aG[i]).bx.size=1:=by rw[hcn];rfl
 generalize f.aG[i]=x at hx hcn z1 v2 vl |-;refine aK uR (wat hc.2 (aq (λhb=>dw) (λ_=>?_)));have hk:∀w,yc f { c with Dr:=w }:=λw=>hc
 dsimp only;rw[hc.1];refine aK vI ?_;refine av (P:=λq=>q.2=false) ((yQ zG).imp ?_) ?_
 .rintro⟨y,q⟩ (⟨_,h1,h2⟩|⟨rfl,_⟩)
  .exfalso
   dsimp only at h1 h2;rw[Int.toNat_natCast]at h1;obtain⟨j,hj,rfl⟩:=List.getElem_of_mem h1;rw[List.length_take]at hj;rw[List.getElem_take]at h2;obtain⟨_,_,_,g⟩:=hf.cs j _ (List.getElem?_eq_getElem ah);rw[g.name,hcn]at h2;have:=Pr ah ah h2;omega
  .rfl
 rintro⟨y,q⟩ rfl;dsimp only;refine av (P:=(· = false)) (gX (λ_=>(Hq ah).imp ?_) (λh=>dI)) ?_
 .rintro r (⟨_,a,ha,e⟩|⟨rfl,_⟩)
  .exfalso
   obtain⟨j,hj,rfl⟩:=List.getElem_of_mem ha;rw[hf.fn j _ (List.getElem?_eq_getElem hj),hcn]at e;exact aoa e.symm
  .rfl
 rintro r rfl;refine Uo rfl ?_;refine eS (λ_ s=>yc f s) gx ⟨rfl,hc.2⟩ ?_ ?_
 .intro j s hj hs
  refine bO hj (λv w1 w2=>?_)
  obtain⟨d,k,hd,hkk,hvn,hdn⟩:∃d k:Nat,d<256∧k<200∧v.bx=nm d k∧d≠102:=by
   rw[hx.vars]at w2;rcases Av w2 with⟨i,hi,rfl⟩ | rfl|⟨i,hi,rfl⟩
   .exact⟨120,i,ah,ah,rfl,ah⟩
   .exact⟨98,0,ah,ah,rfl,ah⟩
   .exact⟨116,i,ah,ah,rfl,ah⟩
  have z2:v.bx.size=2:=by rw[hvn];rfl
  refine aK uR (aK uR (aK uR (wat hs.2 (aq (λhb=>dw) (λ_=>aK vI ?_)))));refine av (P:=λq=>q.2=false) ((Ep zG).imp ?_) ?_
  .rintro⟨y,q⟩ (⟨_,h1,h2⟩|⟨rfl,_⟩)
   .exfalso
    dsimp only at h1 h2;rw[Int.toNat_natCast,hx.vars]at h1;rw[hx.vars]at w1;exact Wx (abE i1 i3 t1) w1 h1 h2
   .rfl
  rintro⟨y,q⟩ rfl;dsimp only;rw[hs.1];refine av (P:=(· = false)) (gX (λ_=>?_) (λh=>dI)) ?_
  .rw[hvn]
   refine(Hp f2 hf.fn hd hkk).imp ?_;rintro r (⟨_,h3,_⟩|⟨rfl,_⟩)
   .exact absurd h3 hdn
   .rfl
  rintro r rfl;exact Uo rfl (ay (aj ⟨rfl,hs.2⟩))
 intro s hs;refine eS (λ_ s=>yc f s) gx hs ?_ (λs hs=>aL (aj hs));intro j s hj hs;refine bO hj (λu u1 u2=>?_);have hul:=(hx.h1 u u2).2;refine eS (λ_ s=>yc f s) gx hs ?_ (λs hs=>ay (aj hs));intro k s hkj hs;refine bO hkj (λh e1 e2=>?_);have hh:=hx.hs u u2 k h e1
 have z2:h.bx.size=2:=by
  obtain⟨_,_,_,_,FY,_⟩:=hh;rw[FY];rfl
 obtain⟨g1,g2⟩:=aj2 (v:=[]) hf hx hj hs u1 e1;refine aK uR (aK uR (aK uR (aK uR ?_)));refine av (DU ah ah) (λst zb=>?_);refine aK uR (wat hs.2 (aq (λhb=>dw) (λ_=>aK vI (aX ?_))));rw[Int.toNat_natCast];refine av g1 ?_;rintro⟨y,q⟩ rfl;refine Uo rfl (aK vI ?_);rw[Int.toNat_natCast];refine av g2 ?_;rintro⟨y,q⟩ hq;refine Uo hq ?_;refine av (DU ah ah) (λst2 aMF=>?_);refine aK uR ?_;refine av (aW (acO (c:={ s with Dr:=_ }) hf hx hh uR hs)) (λq hq=>ay (aj hq))
theorem acE{n:Nat}(hn:1<=n)(hn3:n<=3){ks:List (Nat×Int)}(h1:(ks.map (·.1)).Pairwise (· < ·))(h2:∀p∈ks,p.1<n*n∧1<=p.2∧p.2<=3):(ks.map λp=>(⟨cn (p.1 / n),cn (p.1 % n),p.2⟩:cB)).Pairwise (λa b=>¬(a.gz=b.gz∧a.uJ=b.uJ)):=by
 rw[List.pairwise_map]at h1 |-;refine h1.imp_of_mem (fun {a b} ha hb hab e=>?_);dsimp only at e;have ha:=(h2 a ha).1;have hb:=(h2 b hb).1;have d1:a.1 / n<n:=Nat.div_lt_of_lt_mul ha;have d2:b.1 / n<n:=Nat.div_lt_of_lt_mul hb;have d3:a.1 % n<n:=Nat.mod_lt _ ah;have d4:b.1 % n<n:=Nat.mod_lt _ ah;have e1:=Pr ah ah e.1;have e2:=Pr ah ah e.2;have a1:=Nat.div_add_mod a.1 n;have b1:=Nat.div_add_mod b.1 n;rw[e1,e2,b1]at a1;omega
theorem Zz{l:List cB}{x:cB}(hl:l.length<=1000)(h:∀a∈l,¬(a.gz=x.gz∧a.uJ=x.uJ)):fp l x=some false:=by
 unfold fp gS;refine dD (av (P:=(· = -1)) (aW (eS (λ_ _=>True) gx trivial ?_ (λ_ _=>aL (aj rfl)))) (λr e=>by subst e;exact aL (aj rfl)));intro j _ hj _;refine bO hj (λa a1 a2=>?_);unfold pJ;refine mC (aW (aL (aj ?_)));rw[Af,Af];refine aq (λhb=>?_) (λ_=>ay (aj trivial));rw[Bool.and_eq_true,decide_eq_true_eq,decide_eq_true_eq]at hb;exact absurd hb (h a a2)
theorem ac0{gw:List (List Int)}{f:bu}(hf:Fu gw f){c:aH}(hc:yc f c):Wp (nL c) (yc f):=by
 have f2:=hf.f2;unfold nL;rw[hc.1];refine eS (λ_ s=>yc f s) gx hc ?_ (λs hs=>aL (aj hs));intro j s hj hs;refine bO hj (λx x1 x2=>?_);have hn:=hf.fn j x x1;have z:x.bx.size=2:=by rw[hn];rfl
 refine aK uR (wat hs.2 (aq (λhb=>dw) (λ_=>?_)));dsimp only;rw[hs.1];refine aK vI ?_;refine av (P:=(· = false)) ((Hq zG).imp ?_) ?_
 .rintro r (⟨_,a,ha,e⟩|⟨rfl,_⟩)
  .exfalso
   rw[Int.toNat_natCast]at ha;obtain⟨i,hi,rfl⟩:=List.getElem_of_mem ha;rw[List.length_take]at hi;rw[List.getElem_take,hf.fn i _ (List.getElem?_eq_getElem ah),hn]at e;have:=vu ah ah ah ah e;omega
  .rfl
 rintro r rfl;exact Uo rfl (ay (aj ⟨rfl,hs.2⟩))
theorem acD{gw:List (List Int)}{f:bu}(hf:Fu gw f){c:aH}(hc:yc f c):Wp (nK c) (yc f):=by
 have n1:=hf.n1;have n3:=hf.n3;have l9:=hf.MB;unfold nK;rw[hc.1];refine eS (λ_ s=>yc f s) gx hc ?_ (λs hs=>aL (aj hs));intro j s hj hs;refine bO hj (λx x1 x2=>?_);obtain⟨a,b,ha,hb,hfr,hto,_⟩:=l9.2 x x2;have z1:x.gz.size=1:=by rw[hfr];rfl
 have z2:x.uJ.size=1:=by rw[hto];rfl
 refine aK uR (aK uR (aK uR (wat hs.2 (aq (λhb=>dw) (λ_=>aX ?_)))));have jI:yc f { s with Dr:=(((⟨#[108,105,110,107,32]⟩++x.gz)++⟨#[32]⟩)++x.uJ) }:=hs;refine cC (λ_ s=>yc f s) Su jI ?_ ?_
 .intro i s hi hs
  refine bO hi (λy y1 y2=>?_);rw[hs.1]
  obtain⟨m,hm,rfl⟩:∃m,m<f.aG.length∧y=cn m:=by
   simp at y2;rcases y2 with rfl|rfl
   .exact⟨a,ha,hfr⟩
   .exact⟨b,hb,hto⟩
  refine av (yQ ah) ?_;rintro⟨y,q⟩ (⟨rfl,_⟩|⟨_,h⟩)
  .exact Uo rfl (ay (aj hs))
  .exfalso
   obtain⟨_,_,_,g⟩:=hf.cs m _ (List.getElem?_eq_getElem hm);exact h _ (List.getElem_mem hm) g.name
 .intro s hs
  rw[hs.1];refine aK vI ?_
  refine aF (x:=false) (by
   unfold cl;refine Zz zG (λa ha=>?_);obtain⟨ks,k1,k2,k3⟩:=hf.lk;rw[Int.toNat_natCast]at ha;rw[k3]at ha x1;exact Wx (acE n1 n3 k1 k2) x1 ha) ?_
  exact Uo rfl (ay (aj hs))
theorem abH{gw:List (List Int)}{f:bu}(hf:Fu gw f):Wp (ze f) λr=>r.2=0:=by
 have n3:=hf.n3;unfold ze;refine aF (KG hf) (wrp ?_);have h0:yc f (aH.mk f ⟨#[102,108,101,101,116]⟩ (mZ.mk ByteArray.empty ByteArray.empty 0)):=⟨rfl,rfl⟩;refine av (aW (ac0 hf h0)) (λc hc=>?_);refine av (aW (acD hf hc)) (λc hc=>?_);refine cC (λ_ s=>yc f s) gx hc ?_ (λs hs=>aj hs.2);intro j s hj hs;exact av (aW (ahX hf ah hs)) (λc hc=>ay (aj hc))
open Go.RowKit
attribute [local irreducible] gL dH br gY jP dK fC kY
structure aA where
 fT:bu
 cY:List (List ByteArray)
 kS:Int
 ir:List ByteArray
 cK:List ByteArray
 dN:List ByteArray
 eM:List ByteArray
 cM:List aC
structure ec where
 eF:ByteArray
 ajd:ByteArray
 MH:Int
 qO:Int
def Uj(x:ec):List DV:=[.str x.eF,.str x.ajd,.int .i64 x.MH,.int .i64 x.qO]
def ec.dv(x:ec):DV:=.agg (Uj x)
def tb7:List ec:=[(ec.mk ByteArray.empty ByteArray.empty 0 0),(ec.mk ⟨#[99,111,110,115,116]⟩ ⟨#[78]⟩ 0 1),(ec.mk ⟨#[118,97,114]⟩ ⟨#[65]⟩ 0 1),(ec.mk ⟨#[112,97,114,97,109]⟩ ⟨#[65]⟩ 0 1),(ec.mk ⟨#[102,108,97,103]⟩ ⟨#[65]⟩ 0 1),(ec.mk ⟨#[110,111,119]⟩ ByteArray.empty 0 1),(ec.mk ⟨#[103,101,116]⟩ ⟨#[65]⟩ 1 1),(ec.mk ⟨#[104,97,115]⟩ ⟨#[65]⟩ 1 1),(ec.mk ⟨#[115,105,122,101]⟩ ⟨#[65]⟩ 0 1),(ec.mk ⟨#[110,101,103]⟩ ByteArray.empty 1 1),(ec.mk ⟨#[110,111,116]⟩ ByteArray.empty 1 1),(ec.mk ⟨#[109,117,108]⟩ ByteArray.empty 2 1),(ec.mk ⟨#[100,105,118]⟩ ByteArray.empty 2 1),(ec.mk ⟨#[109,111,100]⟩ ByteArray.empty 2 1),(ec.mk ⟨#[97,100,100]⟩ ByteArray.empty 2 1),(ec.mk ⟨#[115,117,98]⟩ ByteArray.empty 2 1),(ec.mk ⟨#[101,113]⟩ ByteArray.empty 2 1),(ec.mk ⟨#[110,101]⟩ ByteArray.empty 2 1),(ec.mk ⟨#[108,116]⟩ ByteArray.empty 2 1),(ec.mk ⟨#[108,101]⟩ ByteArray.empty 2 1),(ec.mk ⟨#[103,116]⟩ ByteArray.empty 2 1),(ec.mk ⟨#[103,101]⟩ ByteArray.empty 2 1),(ec.mk ⟨#[97,110,100]⟩ ByteArray.empty 2 1),(ec.mk ⟨#[111,114]⟩ ByteArray.empty 2 1),(ec.mk ⟨#[115,101,116,118,97,114]⟩ ⟨#[65]⟩ 1 0),(ec.mk ⟨#[112,117,116]⟩ ⟨#[65]⟩ 2 0),(ec.mk ⟨#[100,101,108,101,116,101]⟩ ⟨#[65]⟩ 1 0),(ec.mk ⟨#[106,117,109,112]⟩ ⟨#[65]⟩ 0 0),(ec.mk ⟨#[98,114,97,110,99,104]⟩ ⟨#[65]⟩ 1 0),(ec.mk ⟨#[99,111,115,116]⟩ ByteArray.empty 0 0),(ec.mk ⟨#[115,101,110,100]⟩ ⟨#[65,66,78]⟩ 0 0),(ec.mk ⟨#[97,102,116,101,114]⟩ ⟨#[66,78]⟩ 1 0),(ec.mk ⟨#[115,116,111,114,101]⟩ ⟨#[66]⟩ 2 0),(ec.mk ⟨#[102,101,116,99,104]⟩ ⟨#[65,66]⟩ 1 0),(ec.mk ⟨#[115,116,111,112]⟩ ByteArray.empty 0 0)]
instance:Tb 7 4 ec.dv tb7:=⟨bp,bp⟩
def aA.b0(x:aA)(d4:DV)(d6:DV)(d7:DV)(d8:DV)(d10:DV):List DV:=[.str x.fT.bx,.sl 2 (List.map lZ x.fT.aY),.sl 3 (List.map pE x.fT.fJ),.sl 3 (List.map nr x.fT.aG),d4,.int .i64 x.kS,d6,d7,d8,.sl 1 (List.map DV.str x.eM),d10]
def aA.b2(x:aA)(d4:DV)(d6:DV)(d7:DV)(d8:DV):List DV:=[.str x.fT.bx,.sl 2 (List.map lZ x.fT.aY),.sl 3 (List.map pE x.fT.fJ),.sl 3 (List.map nr x.fT.aG),d4,.int .i64 x.kS,d6,d7,d8,.sl 1 (List.map DV.str x.eM),.sl 4 (List.map fx x.cM)]
def cj(x1:aC)(o0:aA):Option (Int×aA) :=eE 11 (bA 4 fx) [x1] λv1=>Ck (dK 32 (o0.cM.length+List.length v1))<|rX [(5000,12)] (some ((IntKind.wrap .i64 ((List.length (o0.cM++v1):Int)-1)),({ o0 with cM:=(o0.cM++v1) }:aA)))
instance Pp{x1 o0}:MA (cj x1 o0) prog 394 (λ_=>7) λr=>⟨[.ref 9000 0,.agg (CU x1)],[(9000,some (.bJ 366 (aA.b0 o0 (.row 9001) (.row 9002) (.row 9003) (.row 9004) (.row 9005)))),(9001,some (.R 94 1 (bA 1 DV.str) o0.cY)),(9002,some (.R 9 1 DV.str o0.ir)),(9003,some (.R 9 1 DV.str o0.cK)),(9004,some (.R 9 1 DV.str o0.dN)),(9005,some (.R 421 4 fx o0.cM))],.I r.1,[(9000,some (.bJ 366 (aA.b0 r.2 (.row 9001) (.row 9002) (.row 9003) (.row 9004) (.row 5000)))),(9001,some (.R 94 1 (bA 1 DV.str) r.2.cY)),(9002,some (.R 9 1 DV.str r.2.ir)),(9003,some (.R 9 1 DV.str r.2.cK)),(9004,some (.R 9 1 DV.str r.2.dN)),(5000,some (.R 421 4 fx r.2.cM)),(9005,none)],[5000]⟩:=.b func394 ntmps394
def sU(x1:ByteArray)(o0:aA):Option aA :=Bi (eT o0.eM x1) λv2=>If (decide (0<=v2)) (Bi (cl 17 [(5000,1001)] (cj (aC.mk 3 v2 0 0) o0)) λv4=>rX [(5000,1001)] (some v4.2))<|Bi (cl 23 [(9000,9002)] (ep x1 o0.ir)) λv6=>If (decide (0<=v6)) (Bi (cl 29 [(5000,1002)] (cj (aC.mk 2 v6 0 0) o0)) λv8=>rX [(5000,1002)] (some v8.2))<|Bi (cl 36 [(9000,9004)] (ep x1 o0.dN)) λv10=>Bi (cl 38 [(5000,1003)] (cj (aC.mk 4 v10 0 0) o0)) λv12=>rX [(5000,1003)] (some v12.2)
instance Po{x1 o0}:MA (sU x1 o0) prog 424 (λ_=>7) λr=>⟨[.ref 9000 0,.str x1],[(9000,some (.bJ 366 (aA.b0 o0 (.row 9001) (.row 9002) (.row 9003) (.row 9004) (.row 9005)))),(9001,some (.R 94 1 (bA 1 DV.str) o0.cY)),(9002,some (.R 9 1 DV.str o0.ir)),(9003,some (.R 9 1 DV.str o0.cK)),(9004,some (.R 9 1 DV.str o0.dN)),(9005,some (.R 421 4 fx o0.cM))],.gh [],[(9000,some (.bJ 366 (aA.b0 r (.row 9001) (.row 9002) (.row 9003) (.row 9004) (.row 5000)))),(9001,some (.R 94 1 (bA 1 DV.str) r.cY)),(9002,some (.R 9 1 DV.str r.ir)),(9003,some (.R 9 1 DV.str r.cK)),(9004,some (.R 9 1 DV.str r.dN)),(5000,some (.R 421 4 fx r.cM)),(9005,none)],[5000]⟩:=.e func424 ntmps424
@[reducible] def jj(x1:aB)(v2:aA)(CL:Bool):Option aA :=If CL (Bi (cl 56 [(9000,9003)] (ep x1.bx v2.cK)) λlL=>Bi (cl 58 [(9005,1007),(5000,1008)] (cj (aC.mk x1.cZ lL 0 0) v2)) λoi=>rX [(5000,1008)] (some oi.2))<|Bi (cl 14 [(9005,1007),(5000,1009)] (cj (aC.mk x1.cZ 0 0 0) v2)) λxa=>rX [(5000,1009)] (some xa.2)
def rO(zfab:(List DV)->aA->Option aA)(x1:aB)(o0:aA):Option aA :=Bi (cl 7 [(5000,1001)] (zfab x1.cE o0)) λv2=>If (x1.cZ==1) (Bi (cl 21 [(9005,1001),(5000,1002)] (cj (aC.mk 1 0 0 x1.gN) v2)) λv4=>rX [(5000,1002)] (some v4.2))<|If (x1.cZ==2) (Bi (cl 26 [(9005,1001),(5000,1003)] (cj (aC.mk 1 0 0 1) v2)) λv6=>rX [(5000,1003)] (some v6.2))<|If (x1.cZ==3) (Bi (cl 31 [(9005,1001),(5000,1004)] (cj (aC.mk 1 0 0 0) v2)) λv8=>rX [(5000,1004)] (some v8.2))<|If (x1.cZ==4) (Bi (cl 36 [(9005,1001),(5000,1005)] (cj (aC.mk 5 0 0 0) v2)) λv10=>rX [(5000,1005)] (some v10.2))<|If (x1.cZ==5) (Bi (cl 42 [(9005,1001),(5000,1006)] (sU x1.bx v2)) λv12=>rX [(5000,1006)] (some v12))<|jn (jj x1 v2) 14 [9000,9001,9002,9003,9004,9005] [0,3] [3,9001,9002,9003,9004] (λs t=>(43,.bool s)::t) (λ_ t=>(1007,some (.R 421 4 fx v2.cM))::(9000,some (.bJ 366 (aA.b0 v2 (.row 9001) (.row 9002) (.row 9003) (.row 9004) (.row 1007))))::t)<|If (x1.cZ==6) (nX [] [(1007,1001)] (jj x1 v2 (x1.cZ==6)))<|If (x1.cZ==7) (nX [] [(1007,1001)] (jj x1 v2 (x1.cZ==7)))<|nX [] [(1007,1001)] (jj x1 v2 (x1.cZ==8))
instance Nb{zfab:(List DV)->aA->Option aA}[zhab:∀{x1 o0},MA (zfab x1 o0) prog 395 (λ_=>7) λr=>⟨[.ref 9000 0,.L 4 lg x1],[(9000,some (.bJ 366 (aA.b0 o0 (.row 9001) (.row 9002) (.row 9003) (.row 9004) (.row 9005)))),(9001,some (.R 94 1 (bA 1 DV.str) o0.cY)),(9002,some (.R 9 1 DV.str o0.ir)),(9003,some (.R 9 1 DV.str o0.cK)),(9004,some (.R 9 1 DV.str o0.dN)),(9005,some (.R 421 4 fx o0.cM))],.gh [],[(9000,some (.bJ 366 (aA.b0 r (.row 9001) (.row 9002) (.row 9003) (.row 9004) (.row 5000)))),(9001,some (.R 94 1 (bA 1 DV.str) r.cY)),(9002,some (.R 9 1 DV.str r.ir)),(9003,some (.R 9 1 DV.str r.cK)),(9004,some (.R 9 1 DV.str r.dN)),(5000,some (.R 421 4 fx r.cM)),(9005,none)],[5000]⟩]{x1 o0}:MA (rO zfab x1 o0) prog 415 (λ_=>7) λr=>⟨[.ref 9000 0,.agg (jQ x1)],[(9000,some (.bJ 366 (aA.b0 o0 (.row 9001) (.row 9002) (.row 9003) (.row 9004) (.row 9005)))),(9001,some (.R 94 1 (bA 1 DV.str) o0.cY)),(9002,some (.R 9 1 DV.str o0.ir)),(9003,some (.R 9 1 DV.str o0.cK)),(9004,some (.R 9 1 DV.str o0.dN)),(9005,some (.R 421 4 fx o0.cM))],.gh [],[(9000,some (.bJ 366 (aA.b0 r (.row 9001) (.row 9002) (.row 9003) (.row 9004) (.row 5000)))),(9001,some (.R 94 1 (bA 1 DV.str) r.cY)),(9002,some (.R 9 1 DV.str r.ir)),(9003,some (.R 9 1 DV.str r.cK)),(9004,some (.R 9 1 DV.str r.dN)),(5000,some (.R 421 4 fx r.cM)),(9005,none)],[5000]⟩:=.e func415 ntmps415
def uN(zfab:(List DV)->aA->Option aA)(x1:List DV)(o0:aA):Option aA :=fL (o0.fT,o0.cY,o0.kS,o0.ir,o0.cK,o0.dN,o0.eM,o0.cM) 8 [9000,9001,9002,9003,9004,9005] [0,6,7] [] i2 (λs t=>(1001,some (.R 421 4 fx s.2.2.2.2.2.2.2))::(9000,some (.bJ 366 [.str s.1.bx,.L 2 lZ s.1.aY,.L 3 pE s.1.fJ,.L 3 nr s.1.aG,.row 9001,.I s.2.2.1,.row 9002,.row 9003,.row 9004,.L 1 DV.str s.2.2.2.2.2.2.1,.row 1001]))::(9001,some (.R 94 1 (bA 1 DV.str) s.2.1))::(9002,some (.R 9 1 DV.str s.2.2.2.1))::(9003,some (.R 9 1 DV.str s.2.2.2.2.1))::(9004,some (.R 9 1 DV.str s.2.2.2.2.2.1))::t) [] [(1001,9005)] m64 (x1.length:Int) (λk1 wN=>Bi (idx x1 (k1:Int)) λv12=>Bi (aB.dec v12) λkG=>Bi (cl 14 [(9005,1001),(5000,1002)] ((rO zfab) kG (aA.mk wN.1 wN.2.1 wN.2.2.1 wN.2.2.2.1 wN.2.2.2.2.1 wN.2.2.2.2.2.1 wN.2.2.2.2.2.2.1 wN.2.2.2.2.2.2.2))) λmA=>nX [] [(1001,1002)] (some (mA.fT,mA.cY,mA.kS,mA.ir,mA.cK,mA.dN,mA.eM,mA.cM))) λwN=>rX [(5000,1001)] (some (aA.mk wN.1 wN.2.1 wN.2.2.1 wN.2.2.2.1 wN.2.2.2.2.1 wN.2.2.2.2.2.1 wN.2.2.2.2.2.2.1 wN.2.2.2.2.2.2.2))
theorem AU{zfab:(List DV)->aA->Option aA}[zhab:∀{x1 o0},MA (zfab x1 o0) prog 395 (λ_=>7) λr=>⟨[.ref 9000 0,.L 4 lg x1],[(9000,some (.bJ 366 (aA.b0 o0 (.row 9001) (.row 9002) (.row 9003) (.row 9004) (.row 9005)))),(9001,some (.R 94 1 (bA 1 DV.str) o0.cY)),(9002,some (.R 9 1 DV.str o0.ir)),(9003,some (.R 9 1 DV.str o0.cK)),(9004,some (.R 9 1 DV.str o0.dN)),(9005,some (.R 421 4 fx o0.cM))],.gh [],[(9000,some (.bJ 366 (aA.b0 r (.row 9001) (.row 9002) (.row 9003) (.row 9004) (.row 5000)))),(9001,some (.R 94 1 (bA 1 DV.str) r.cY)),(9002,some (.R 9 1 DV.str r.ir)),(9003,some (.R 9 1 DV.str r.cK)),(9004,some (.R 9 1 DV.str r.dN)),(5000,some (.R 421 4 fx r.cM)),(9005,none)],[5000]⟩]{x1 o0}:MA (uN zfab x1 o0) prog 395 (λ_=>7) λr=>⟨[.ref 9000 0,.L 4 lg x1],[(9000,some (.bJ 366 (aA.b0 o0 (.row 9001) (.row 9002) (.row 9003) (.row 9004) (.row 9005)))),(9001,some (.R 94 1 (bA 1 DV.str) o0.cY)),(9002,some (.R 9 1 DV.str o0.ir)),(9003,some (.R 9 1 DV.str o0.cK)),(9004,some (.R 9 1 DV.str o0.dN)),(9005,some (.R 421 4 fx o0.cM))],.gh [],[(9000,some (.bJ 366 (aA.b0 r (.row 9001) (.row 9002) (.row 9003) (.row 9004) (.row 5000)))),(9001,some (.R 94 1 (bA 1 DV.str) r.cY)),(9002,some (.R 9 1 DV.str r.ir)),(9003,some (.R 9 1 DV.str r.cK)),(9004,some (.R 9 1 DV.str r.dN)),(5000,some (.R 421 4 fx r.cM)),(9005,none)],[5000]⟩:=.e func395 ntmps395
def kU:Nat->(List DV)->aA->Option aA
 |0,_,_=>none
 |fu+1,x1,o0=>uN (kU fu) x1 o0
instance Na(fu:Nat){x1 o0}:MA (kU fu x1 o0) prog 395 (λ_=>7) λr=>⟨[.ref 9000 0,.L 4 lg x1],[(9000,some (.bJ 366 (aA.b0 o0 (.row 9001) (.row 9002) (.row 9003) (.row 9004) (.row 9005)))),(9001,some (.R 94 1 (bA 1 DV.str) o0.cY)),(9002,some (.R 9 1 DV.str o0.ir)),(9003,some (.R 9 1 DV.str o0.cK)),(9004,some (.R 9 1 DV.str o0.dN)),(9005,some (.R 421 4 fx o0.cM))],.gh [],[(9000,some (.bJ 366 (aA.b0 r (.row 9001) (.row 9002) (.row 9003) (.row 9004) (.row 5000)))),(9001,some (.R 94 1 (bA 1 DV.str) r.cY)),(9002,some (.R 9 1 DV.str r.ir)),(9003,some (.R 9 1 DV.str r.cK)),(9004,some (.R 9 1 DV.str r.dN)),(5000,some (.R 421 4 fx r.cM)),(9005,none)],[5000]⟩:=by
 induction fu generalizing x1 o0 with
 |zero=>exact⟨λh=>dI⟩
 |succ fu ih=>exact AU (zfab:=kU fu)
def sw(x0:aO)(o0:bo):Option Bool :=rX [] (some (x0.bx.toList==o0.bx.toList))
instance Ik{x0 o0}:MA (sw x0 o0) prog 398 (λ_=>0) λr=>⟨[.agg (zN x0),.ref 9000 0],[(9000,some (.bJ 397 (sB o0)))],.bool r,[(9000,some (.bJ 397 (sB o0)))],[]⟩:=.b func398 ntmps398
def fB(x0:List aO)(o0:bo):Option Int :=fO (E:=Int) () 8 [9000] [0,1,7] [9000] i2 i2 [] [] m64 (x0.length:Int) (λk1 _=>Bi (idx x0 (k1:Int)) λv4=>Bi (cl 16 [] (sw v4 o0)) λv6=>If v6 (rX [] (some (.done (k1:Int))))<|nX [] [] (some (.next ()))) fun
  |.next _=>rX [] (some (-1))
  |.done r=>some r
instance xF{x0 o0}:MA (fB x0 o0) prog 397 (λ_=>0) λr=>⟨[.L 3 nr x0,.CG 398 [.ref 9000 0]],[(9000,some (.bJ 397 (sB o0)))],.I r,[(9000,some (.bJ 397 (sB o0)))],[]⟩:=.b func397 ntmps397
def km(zfaf:(List DV)->aA->Option aA)(x1:List DV)(o0:aA):Option (Int×aA) :=If ((x1.length:Int)==0) (rX [(5000,9005)] (some ((o0.cM.length:Int),o0)))<|Bi (cl 17 [(5000,1001)] (cj (aC.mk 27 0 0 0) o0)) λv2=>Bi (cl 25 [(9005,1001),(5000,1002)] (zfaf x1 v2.2)) λv4=>Bi (idx v4.cM v2.1) λv6=>eE 37 fx ({ v6 with gA:=(v4.cM.length:Int) }:aC) λv7=>rX [(5000,1002)] (some ((v2.2.cM.length:Int),({ v4 with cM:=(List.set v4.cM (Int.toNat v2.1) v7) }:aA)))
instance LH{zfaf:(List DV)->aA->Option aA}[zhaf:∀{x1 o0},MA (zfaf x1 o0) prog 300 (λ_=>7) λr=>⟨[.ref 9000 0,.L 6 lg x1],[(9000,some (.bJ 366 (aA.b0 o0 (.row 9001) (.row 9002) (.row 9003) (.row 9004) (.row 9005)))),(9001,some (.R 94 1 (bA 1 DV.str) o0.cY)),(9002,some (.R 9 1 DV.str o0.ir)),(9003,some (.R 9 1 DV.str o0.cK)),(9004,some (.R 9 1 DV.str o0.dN)),(9005,some (.R 421 4 fx o0.cM))],.gh [],[(9000,some (.bJ 366 (aA.b0 r (.row 9001) (.row 9002) (.row 9003) (.row 9004) (.row 5000)))),(9001,some (.R 94 1 (bA 1 DV.str) r.cY)),(9002,some (.R 9 1 DV.str r.ir)),(9003,some (.R 9 1 DV.str r.cK)),(9004,some (.R 9 1 DV.str r.dN)),(5000,some (.R 421 4 fx r.cM)),(9005,none)],[5000]⟩]{x1 o0}:MA (km zfaf x1 o0) prog 396 (λ_=>7) λr=>⟨[.ref 9000 0,.L 6 lg x1],[(9000,some (.bJ 366 (aA.b0 o0 (.row 9001) (.row 9002) (.row 9003) (.row 9004) (.row 9005)))),(9001,some (.R 94 1 (bA 1 DV.str) o0.cY)),(9002,some (.R 9 1 DV.str o0.ir)),(9003,some (.R 9 1 DV.str o0.cK)),(9004,some (.R 9 1 DV.str o0.dN)),(9005,some (.R 421 4 fx o0.cM))],.I r.1,[(9000,some (.bJ 366 (aA.b0 r.2 (.row 9001) (.row 9002) (.row 9003) (.row 9004) (.row 5000)))),(9001,some (.R 94 1 (bA 1 DV.str) r.2.cY)),(9002,some (.R 9 1 DV.str r.2.ir)),(9003,some (.R 9 1 DV.str r.2.cK)),(9004,some (.R 9 1 DV.str r.2.dN)),(5000,some (.R 421 4 fx r.2.cM)),(9005,none)],[5000]⟩:=.b func396 ntmps396
def kj(zfaf:(List DV)->aA->Option aA)(x1:bo)(o0:aA):Option aA :=Bi (cl 15 [(5000,1001)] (cj (aC.mk 29 0 0 0) o0)) λv2=>Bi (cl 19 [(9005,1001),(5000,1002)] ((kU 64) x1.js v2.2)) λv4=>If (x1.bC==1) (Bi (cl 31 [(9000,9002)] (ep x1.bx v4.ir)) λv6=>Bi (cl 33 [(9005,1002),(5000,1003)] (cj (aC.mk 24 v6 0 0) v4)) λv8=>rX [(5000,1003)] (some v8.2))<|If (x1.bC==2) (Bi (cl 43 [(9000,9003)] (ep x1.bx v4.cK)) λv10=>Bi (cl 45 [(9005,1002),(5000,1004)] (cj (aC.mk 25 v10 0 0) v4)) λv12=>rX [(5000,1004)] (some v12.2))<|If (x1.bC==3) (Bi (cl 55 [(9000,9003)] (ep x1.bx v4.cK)) λll=>Bi (cl 57 [(9005,1002),(5000,1005)] (cj (aC.mk 26 ll 0 0) v4)) λmA=>rX [(5000,1005)] (some mA.2))<|If (x1.bC==4) (Bi (cl 62 [(9005,1002),(5000,1006)] (cj (aC.mk 28 0 0 0) v4)) λlI=>Bi (cl 66 [(9005,1006),(5000,1007)] (zfaf x1.vZ lI.2)) λv20=>Bi (cl 70 [(9005,1007),(5000,1008)] ((km zfaf) x1.uL v20)) λuQ=>Bi (idx uQ.2.cM lI.1) λv24=>eE 78 fx ({ v24 with gA:=uQ.1 }:aC) λua=>rX [(5000,1008)] (some ({ uQ.2 with cM:=(List.set uQ.2.cM (Int.toNat lI.1) ua) }:aA)))<|If (x1.bC==5) (Bi (cl 83 [(9005,1002),(5000,1009)] (cj (aC.mk 28 0 0 0) v4)) λvV=>Bi (cl 87 [(9005,1009),(5000,1010)] (zfaf x1.vZ vV.2)) λzJ=>Bi (cl 91 [(9005,1010),(5000,1011)] (cj (aC.mk 27 v2.1 0 0) zJ)) λv31=>Bi (idx v31.2.cM vV.1) λKM=>eE 103 fx ({ KM with gA:=(v31.2.cM.length:Int) }:aC) λCt=>rX [(5000,1011)] (some ({ v31.2 with cM:=(List.set v31.2.cM (Int.toNat vV.1) Ct) }:aA)))<|If (x1.bC==6) (Bi (cl 112 [(9000,3)] (fB v4.fT.aG x1)) λCu=>Bi (idx v4.cY Cu) λHG=>Bi (eT HG x1.bU) λv40=>Bi (cl 129 [(9005,1002),(5000,1012)] (cj (aC.mk 30 Cu v40 (x1.js.length:Int)) v4)) λGG=>rX [(5000,1012)] (some GG.2))<|If (x1.bC==7) (Bi (idx v4.cY v4.kS) λYA=>Bi (eT YA x1.bU) λv46=>Bi (cl 151 [(9005,1002),(5000,1013)] (cj (aC.mk 31 0 v46 (IntKind.wrap .i64 ((x1.js.length:Int)-1))) v4)) λFy=>rX [(5000,1013)] (some Fy.2))<|If (x1.bC==8) (Bi (cl 156 [(9005,1002),(5000,1014)] (cj (aC.mk 32 0 0 0) v4)) λQK=>Bi (cl 160 [(9005,1014),(5000,1015)] ((km zfaf) x1.uL QK.2)) λJm=>Bi (idx Jm.2.cM QK.1) λv54=>eE 168 fx ({ v54 with gB:=Jm.1 }:aC) λv55=>rX [(5000,1015)] (some ({ Jm.2 with cM:=(List.set Jm.2.cM (Int.toNat QK.1) v55) }:aA)))<|If (x1.bC==9) (Bi (cl 178 [(9000,9002)] (ep x1.bx v4.ir)) λv57=>Bi (cl 180 [(9005,1002),(5000,1016)] (cj (aC.mk 33 v57 0 0) v4)) λv59=>Bi (cl 184 [(9005,1016),(5000,1017)] ((km zfaf) x1.uL v59.2)) λv61=>Bi (idx v61.2.cM v59.1) λv63=>eE 192 fx ({ v63 with gB:=v61.1 }:aC) λYB=>rX [(5000,1017)] (some ({ v61.2 with cM:=(List.set v61.2.cM (Int.toNat v59.1) YB) }:aA)))<|If (x1.bC==10) (Bi (cl 197 [(9005,1002),(5000,1018)] (cj (aC.mk 34 0 0 0) v4)) λv66=>rX [(5000,1018)] (some v66.2))<|rX [(5000,1002)] (some v4)
instance IJ{zfaf:(List DV)->aA->Option aA}[zhaf:∀{x1 o0},MA (zfaf x1 o0) prog 300 (λ_=>7) λr=>⟨[.ref 9000 0,.L 6 lg x1],[(9000,some (.bJ 366 (aA.b0 o0 (.row 9001) (.row 9002) (.row 9003) (.row 9004) (.row 9005)))),(9001,some (.R 94 1 (bA 1 DV.str) o0.cY)),(9002,some (.R 9 1 DV.str o0.ir)),(9003,some (.R 9 1 DV.str o0.cK)),(9004,some (.R 9 1 DV.str o0.dN)),(9005,some (.R 421 4 fx o0.cM))],.gh [],[(9000,some (.bJ 366 (aA.b0 r (.row 9001) (.row 9002) (.row 9003) (.row 9004) (.row 5000)))),(9001,some (.R 94 1 (bA 1 DV.str) r.cY)),(9002,some (.R 9 1 DV.str r.ir)),(9003,some (.R 9 1 DV.str r.cK)),(9004,some (.R 9 1 DV.str r.dN)),(5000,some (.R 421 4 fx r.cM)),(9005,none)],[5000]⟩]{x1 o0}:MA (kj zfaf x1 o0) prog 362 (λ_=>7) λr=>⟨[.ref 9000 0,.agg (sB x1)],[(9000,some (.bJ 366 (aA.b0 o0 (.row 9001) (.row 9002) (.row 9003) (.row 9004) (.row 9005)))),(9001,some (.R 94 1 (bA 1 DV.str) o0.cY)),(9002,some (.R 9 1 DV.str o0.ir)),(9003,some (.R 9 1 DV.str o0.cK)),(9004,some (.R 9 1 DV.str o0.dN)),(9005,some (.R 421 4 fx o0.cM))],.gh [],[(9000,some (.bJ 366 (aA.b0 r (.row 9001) (.row 9002) (.row 9003) (.row 9004) (.row 5000)))),(9001,some (.R 94 1 (bA 1 DV.str) r.cY)),(9002,some (.R 9 1 DV.str r.ir)),(9003,some (.R 9 1 DV.str r.cK)),(9004,some (.R 9 1 DV.str r.dN)),(5000,some (.R 421 4 fx r.cM)),(9005,none)],[5000]⟩:=.e func362 ntmps362
def vA(zfaf:(List DV)->aA->Option aA)(x1:List DV)(o0:aA):Option aA :=fL (o0.fT,o0.cY,o0.kS,o0.ir,o0.cK,o0.dN,o0.eM,o0.cM) 8 [9000,9001,9002,9003,9004,9005] [0,6,7] [] i2 (λs t=>(1001,some (.R 421 4 fx s.2.2.2.2.2.2.2))::(9000,some (.bJ 366 [.str s.1.bx,.L 2 lZ s.1.aY,.L 3 pE s.1.fJ,.L 3 nr s.1.aG,.row 9001,.I s.2.2.1,.row 9002,.row 9003,.row 9004,.L 1 DV.str s.2.2.2.2.2.2.1,.row 1001]))::(9001,some (.R 94 1 (bA 1 DV.str) s.2.1))::(9002,some (.R 9 1 DV.str s.2.2.2.1))::(9003,some (.R 9 1 DV.str s.2.2.2.2.1))::(9004,some (.R 9 1 DV.str s.2.2.2.2.2.1))::t) [] [(1001,9005)] m64 (x1.length:Int) (λk1 wN=>Bi (idx x1 (k1:Int)) λv12=>Bi (bo.dec v12) λkG=>Bi (cl 14 [(9005,1001),(5000,1002)] ((kj zfaf) kG (aA.mk wN.1 wN.2.1 wN.2.2.1 wN.2.2.2.1 wN.2.2.2.2.1 wN.2.2.2.2.2.1 wN.2.2.2.2.2.2.1 wN.2.2.2.2.2.2.2))) λmA=>nX [] [(1001,1002)] (some (mA.fT,mA.cY,mA.kS,mA.ir,mA.cK,mA.dN,mA.eM,mA.cM))) λwN=>rX [(5000,1001)] (some (aA.mk wN.1 wN.2.1 wN.2.2.1 wN.2.2.2.1 wN.2.2.2.2.1 wN.2.2.2.2.2.1 wN.2.2.2.2.2.2.1 wN.2.2.2.2.2.2.2))
theorem BK{zfaf:(List DV)->aA->Option aA}[zhaf:∀{x1 o0},MA (zfaf x1 o0) prog 300 (λ_=>7) λr=>⟨[.ref 9000 0,.L 6 lg x1],[(9000,some (.bJ 366 (aA.b0 o0 (.row 9001) (.row 9002) (.row 9003) (.row 9004) (.row 9005)))),(9001,some (.R 94 1 (bA 1 DV.str) o0.cY)),(9002,some (.R 9 1 DV.str o0.ir)),(9003,some (.R 9 1 DV.str o0.cK)),(9004,some (.R 9 1 DV.str o0.dN)),(9005,some (.R 421 4 fx o0.cM))],.gh [],[(9000,some (.bJ 366 (aA.b0 r (.row 9001) (.row 9002) (.row 9003) (.row 9004) (.row 5000)))),(9001,some (.R 94 1 (bA 1 DV.str) r.cY)),(9002,some (.R 9 1 DV.str r.ir)),(9003,some (.R 9 1 DV.str r.cK)),(9004,some (.R 9 1 DV.str r.dN)),(5000,some (.R 421 4 fx r.cM)),(9005,none)],[5000]⟩]{x1 o0}:MA (vA zfaf x1 o0) prog 300 (λ_=>7) λr=>⟨[.ref 9000 0,.L 6 lg x1],[(9000,some (.bJ 366 (aA.b0 o0 (.row 9001) (.row 9002) (.row 9003) (.row 9004) (.row 9005)))),(9001,some (.R 94 1 (bA 1 DV.str) o0.cY)),(9002,some (.R 9 1 DV.str o0.ir)),(9003,some (.R 9 1 DV.str o0.cK)),(9004,some (.R 9 1 DV.str o0.dN)),(9005,some (.R 421 4 fx o0.cM))],.gh [],[(9000,some (.bJ 366 (aA.b0 r (.row 9001) (.row 9002) (.row 9003) (.row 9004) (.row 5000)))),(9001,some (.R 94 1 (bA 1 DV.str) r.cY)),(9002,some (.R 9 1 DV.str r.ir)),(9003,some (.R 9 1 DV.str r.cK)),(9004,some (.R 9 1 DV.str r.dN)),(5000,some (.R 421 4 fx r.cM)),(9005,none)],[5000]⟩:=.e func300 ntmps300
def lG:Nat->(List DV)->aA->Option aA
 |0,_,_=>none
 |fu+1,x1,o0=>vA (lG fu) x1 o0
instance Pq(fu:Nat){x1 o0}:MA (lG fu x1 o0) prog 300 (λ_=>7) λr=>⟨[.ref 9000 0,.L 6 lg x1],[(9000,some (.bJ 366 (aA.b0 o0 (.row 9001) (.row 9002) (.row 9003) (.row 9004) (.row 9005)))),(9001,some (.R 94 1 (bA 1 DV.str) o0.cY)),(9002,some (.R 9 1 DV.str o0.ir)),(9003,some (.R 9 1 DV.str o0.cK)),(9004,some (.R 9 1 DV.str o0.dN)),(9005,some (.R 421 4 fx o0.cM))],.gh [],[(9000,some (.bJ 366 (aA.b0 r (.row 9001) (.row 9002) (.row 9003) (.row 9004) (.row 5000)))),(9001,some (.R 94 1 (bA 1 DV.str) r.cY)),(9002,some (.R 9 1 DV.str r.ir)),(9003,some (.R 9 1 DV.str r.cK)),(9004,some (.R 9 1 DV.str r.dN)),(5000,some (.R 421 4 fx r.cM)),(9005,none)],[5000]⟩:=by
 induction fu generalizing x1 o0 with
 |zero=>exact⟨λh=>dI⟩
 |succ fu ih=>exact BK (zfaf:=lG fu)
def zE(x0:Int):Option ec :=If (decide (34<x0)) (some (ec.mk ByteArray.empty ByteArray.empty 0 0))<|Bi (idx tb7 x0) λv2=>some v2
instance agf{x0}:MC (zE x0) λr=>br prog 328 [.int .u8 x0] (.agg (Uj r)):=.p func328 ntmps328
def pZ(x0:Int)(x1:Int)(o0:List Int):Option (Bool×(List Int)) :=Bi (idx o0 x0) λv2=>eE 23 (DV.int .i64) x1 λv3=>rX [] (some (((decide (v2<0))||(v2==x1)),(List.set o0 (Int.toNat x0) v3)))
instance Vr{x0 x1 o0}:MA (pZ x0 x1 o0) prog 327 (λ_=>2) λr=>⟨[.I x0,.I x1,.ref 9000 0],[(9000,some (.bJ 92 [.row 9001])),(9001,some (.R 3 1 (DV.int .i64) o0))],.bool r.1,[(9000,some (.bJ 92 [.row 9001])),(9001,some (.R 3 1 (DV.int .i64) r.2))],[]⟩:=.b func327 ntmps327
@[reducible] def xq(s1:Unit):Option (Int×Bool) :=some (0,false)
@[reducible] def oG(x0:aC)(s4:Bool):Option (Int×Bool) :=If s4 (some (x0.gB,true))<|nX [] [] (xq ())
@[reducible] def oH(x0:aC)(s5:Bool):Option (Int×Bool) :=If s5 (some (x0.gA,true))<|jn (oG x0) 5 [] [1] [1] (λs t=>(11,.bool s)::t) i2<|If (x0.cZ==32) (nX [] [] (oG x0 (x0.cZ==32)))<|nX [] [] (oG x0 (x0.cZ==33))
def oI(x0:aC):Option (Int×Bool) :=jn xq 1 [] [] [] i2 i2<|jn (oH x0) 2 [] [1,5] [1] (λs t=>(6,.bool s)::t) i2<|If (x0.cZ==27) (nX [] [] (oH x0 (x0.cZ==27)))<|nX [] [] (oH x0 (x0.cZ==28))
instance TV{x0}:MC (oI x0) λr=>br prog 326 [.agg (CU x0)] (.gh [.I r.1,.bool r.2]):=.p func326 ntmps326
@[reducible] def rl(k5:Nat)(a6:Int)(a7:List Int)(v12:aC)(lL:Int)(oi:ec)(tR:Int):Option (xy (Int×(List Int)) (Int×Bool)) :=Bi (idx (List.set a7 (Int.toNat (k5:Int)) lL) (k5:Int)) λv20=>If ((decide (v20<tR))||((v12.cZ==34)&&(v20 != 0))) (some (.done (0,false)))<|If ((v12.cZ != 27)&&(v12.cZ != 34)) (Bi (cl 108 [(9000,4),(9001,1003)] (pZ ((k5:Int)+1) (IntKind.wrap .i64 ((IntKind.wrap .i64 (v20-tR))+oi.qO)) (List.set a7 (Int.toNat (k5:Int)) lL))) λuQ=>If (((v12.cZ != 27)&&(v12.cZ != 34))&&(!uQ.1)) (some (.done (0,false)))<|Bi (oI v12) λv24=>If v24.2 (Bi (cl 121 [(9000,4),(9001,1003)] (pZ v24.1 (IntKind.wrap .i64 ((IntKind.wrap .i64 (v20-tR))+oi.qO)) uQ.2)) λxz=>If (v24.2&&(!xz.1)) (some (.done (0,false)))<|nX [] [(1002,1003)] (some (.next ((if (IntKind.wrap .i64 ((IntKind.wrap .i64 (v20-tR))+oi.qO))>(if v20>a6 then v20 else a6)then(IntKind.wrap .i64 ((IntKind.wrap .i64 (v20-tR))+oi.qO))else(if v20>a6 then v20 else a6)),xz.2))))<|If (v24.2&&false) (some (.done (0,false)))<|nX [] [(1002,1003)] (some (.next ((if (IntKind.wrap .i64 ((IntKind.wrap .i64 (v20-tR))+oi.qO))>(if v20>a6 then v20 else a6)then(IntKind.wrap .i64 ((IntKind.wrap .i64 (v20-tR))+oi.qO))else(if v20>a6 then v20 else a6)),uQ.2))))<|If (((v12.cZ != 27)&&(v12.cZ != 34))&&false) (some (.done (0,false)))<|Bi (oI v12) λuQ=>If uQ.2 (Bi (cl 121 [(9000,4),(9001,1003)] (pZ uQ.1 (IntKind.wrap .i64 ((IntKind.wrap .i64 (v20-tR))+oi.qO)) (List.set a7 (Int.toNat (k5:Int)) lL))) λv24=>If (uQ.2&&(!v24.1)) (some (.done (0,false)))<|nX [] [(1002,1003)] (some (.next ((if (IntKind.wrap .i64 ((IntKind.wrap .i64 (v20-tR))+oi.qO))>(if v20>a6 then v20 else a6)then(IntKind.wrap .i64 ((IntKind.wrap .i64 (v20-tR))+oi.qO))else(if v20>a6 then v20 else a6)),v24.2))))<|If (uQ.2&&false) (some (.done (0,false)))<|nX [] [(1002,1003)] (some (.next ((if (IntKind.wrap .i64 ((IntKind.wrap .i64 (v20-tR))+oi.qO))>(if v20>a6 then v20 else a6)then(IntKind.wrap .i64 ((IntKind.wrap .i64 (v20-tR))+oi.qO))else(if v20>a6 then v20 else a6)),(List.set a7 (Int.toNat (k5:Int)) lL))))
def vz(x0:List aC):Option (Int×Bool) :=Ck (kY 8 (IntKind.wrap .i64 ((x0.length:Int)+1)) (IntKind.wrap .i64 ((x0.length:Int)+1)))<|eE 16 (DV.int .i64) 0 λ_=>fL (List.replicate (Int.toNat (IntKind.wrap .i64 ((x0.length:Int)+1))) (0:Int)) 19 [] [0,2,4,18] [] i2 (λs t=>(4,some (.bJ 92 [.row 1001]))::(1001,some (.R 3 1 (DV.int .i64) s))::t) [] [(1001,16)] m64 (List.length (List.replicate (Int.toNat (IntKind.wrap .i64 ((x0.length:Int)+1))) (0:Int)):Int) (λk2 s4=>Bi (idx s4 (k2:Int)) λzJ=>eE 24 (DV.int .i64) (-1) λv30=>nX [] [] (some (List.set s4 (Int.toNat (k2:Int)) v30))) λs4=>fO (E:=Int×Bool) (0,s4) 29 [] [0,4,6,27,28] [] (λs t=>(2,.I s.1)::t) (λs t=>(4,some (.bJ 92 [.row 1002]))::(1002,some (.R 3 1 (DV.int .i64) s.2))::t) [] [(1002,1001)] m64 (x0.length:Int) (λk5 s8=>Bi (idx x0 (k5:Int)) λv12=>Bi (idx s8.2 (k5:Int)) λll=>eE 41 (DV.int .i64) (if 0>ll then 0 else ll) λlL=>Bi (zE v12.cZ) λoi=>jn (rl k5 s8.1 s8.2 v12 lL oi) 13 [] [0,2,4,6,7,8,9,27,28,29] [8] i2 (λs t=>(4,some (.bJ 92 [.row 1003]))::(9,some (.bJ 531 (Uj ({ oi with MH:=s }:ec))))::(1003,some (.R 3 1 (DV.int .i64) (List.set s8.2 (Int.toNat (k5:Int)) lL)))::t)<|If ((v12.cZ==30)||(v12.cZ==31)) (nX [] [(1003,1002)] (rl k5 s8.1 s8.2 v12 lL oi (IntKind.wrap .i64 (oi.MH+v12.gN))))<|nX [] [(1003,1002)] (rl k5 s8.1 s8.2 v12 lL oi oi.MH)) fun
  |.next s8=>Bi (idx s8.2 (x0.length:Int)) λv10=>some (s8.1,(decide (v10<=0)))
  |.done r=>some r
instance adl{x0}:MC (vz x0) λr=>br prog 265 [.L 4 fx x0] (.gh [.I r.1,.bool r.2]):=.p func265 ntmps265
def rN(x1:bG)(o0:aA):Option (cL×aA) :=wk [.c 9000 4502 10 421 4]<|Bi (cl 18 [(9005,4502),(5000,1001)] ((lG 64) x1.uM ({ o0 with eM:=x1.dY,cM:=([]:List aC) }:aA))) λv2=>wk [.z 1001]<|Bi (vz v2.cM) λv4=>rX [] (some ((cL.mk (x1.dY.length:Int) v4.1 v2.cM),v2))
instance MZ{x1 o0}:MA (rN x1 o0) prog 230 (λ_=>5) λr=>⟨[.ref 9000 0,.agg (Bb x1)],[(9000,some (.bJ 366 (aA.b2 o0 (.row 9001) (.row 9002) (.row 9003) (.row 9004)))),(9001,some (.R 94 1 (bA 1 DV.str) o0.cY)),(9002,some (.R 9 1 DV.str o0.ir)),(9003,some (.R 9 1 DV.str o0.cK)),(9004,some (.R 9 1 DV.str o0.dN))],.agg (EM r.1),[(9000,some (.bJ 366 (aA.b2 r.2 (.row 9001) (.row 9002) (.row 9003) (.row 9004)))),(9001,some (.R 94 1 (bA 1 DV.str) r.2.cY)),(9002,some (.R 9 1 DV.str r.2.ir)),(9003,some (.R 9 1 DV.str r.2.cK)),(9004,some (.R 9 1 DV.str r.2.dN))],[]⟩:=.b func230 ntmps230
def iO(x1:Int)(o0:aA):Option (fY×aA) :=Bi (idx o0.fT.aG x1) λv2=>wk [.c 9000 4504 6 9 1,.c 9000 4505 7 9 1,.c 9000 4506 8 9 1]<|fL ([]:List ByteArray) 45 [9000,9001,9002,9003,9004] [0,1,4,5,43,44] [4,5,9001] i2 (λs t=>(1001,some (.R 9 1 DV.str ([]:List ByteArray)))::(1002,some (.R 9 1 DV.str ([]:List ByteArray)))::(1003,some (.R 9 1 DV.str s))::(9000,some (.bJ 366 (aA.b2 ({ o0 with kS:=x1 }:aA) (.row 9001) (.row 1001) (.row 1002) (.row 1003))))::t) [] [(1001,4504),(1002,4505),(1003,4506)] m64 (o0.fT.aY.length:Int) (λk3 s5=>Bi (idx o0.fT.aY (k3:Int)) λv69=>eE 56 (bA 1 DV.str) [v69.bx] λv70=>Ck (dK 16 (s5.length+List.length v70))<|nX [] [(1003,57)] (some (s5++v70))) λs5=>fL (([]:List ByteArray),([]:List ByteArray)) 64 [9000,9001,9002,9003,9004] [0,1,4,5,62,63] [4,5,9001] i2 (λs t=>(1004,some (.R 9 1 DV.str s.1))::(1005,some (.R 9 1 DV.str s.2))::(1006,some (.R 9 1 DV.str s5))::(9000,some (.bJ 366 (aA.b2 ({ o0 with kS:=x1 }:aA) (.row 9001) (.row 1004) (.row 1005) (.row 1006))))::t) [] [(1004,1001),(1005,1002),(1006,1003)] m64 (v2.eG.length:Int) (λk6 s9=>Bi (idx v2.eG (k6:Int)) λv63=>If (v63.sQ==3) (eE 78 (bA 1 DV.str) [v63.bx] λYB=>Ck (dK 16 (s9.2.length+List.length YB))<|nX [] [(1005,79)] (some (s9.1,(s9.2++YB))))<|eE 89 (bA 1 DV.str) [v63.bx] λv66=>Ck (dK 16 (s9.1.length+List.length v66))<|nX [] [(1004,90)] (some ((s9.1++v66),s9.2))) λs9=>Bi (idx o0.cY x1) λv11=>Ck (kY 40 (v11.length:Int) (v11.length:Int))<|eE 105 sD (cL.mk 0 0 []) λ_=>Ck (kY 1 (v11.length:Int) (v11.length:Int))<|eE 109 DV.bool false λ_=>fL ((List.replicate (Int.toNat (v11.length:Int)) (cL.mk 0 0 [])),(List.replicate (Int.toNat (v11.length:Int)) false),o0.fT,o0.cY,x1,s9.1,s9.2,s5,o0.eM,o0.cM,([]:List (List cL)),([]:List (List Bool))) 113 [9000,9001,9002,9003,9004] [0,4,10,111,112] [4] (λ_ t=>(11,.row 1007)::(12,.row 1008)::t) (λs t=>(10,some (.bJ 373 [.L 1 DV.str v11,.row 1012,.row 1013]))::(1007,some (.R 327 3 sD s.1))::(1008,some (.R 4 1 DV.bool s.2.1))::(1009,some (.R 9 1 DV.str s.2.2.2.2.2.1))::(1010,some (.R 9 1 DV.str s.2.2.2.2.2.2.1))::(1011,some (.R 9 1 DV.str s.2.2.2.2.2.2.2.1))::(1012,some (.R 447 1 (bA 3 sD) s.2.2.2.2.2.2.2.2.2.2.1))::(1013,some (.R 52 1 (bA 1 DV.bool) s.2.2.2.2.2.2.2.2.2.2.2))::(9000,some (.bJ 366 [.str s.2.2.1.bx,.L 2 lZ s.2.2.1.aY,.L 3 pE s.2.2.1.fJ,.L 3 nr s.2.2.1.aG,.row 9001,.I s.2.2.2.2.1,.row 1009,.row 1010,.row 1011,.L 1 DV.str s.2.2.2.2.2.2.2.2.1,.L 4 fx s.2.2.2.2.2.2.2.2.2.1]))::(9001,some (.R 94 1 (bA 1 DV.str) s.2.2.2.1))::t) [.c 10 1021 1 447 1,.c 10 1022 2 52 1] [(1007,105),(1008,109),(1009,1004),(1010,1005),(1011,1006),(1012,1021),(1013,1022)] m64 (v2.bf.length:Int) (λk14 tR=>Bi (idx v2.bf (k14:Int)) λzJ=>fL (tR.1,tR.2.1,tR.2.2.1,tR.2.2.2.1,tR.2.2.2.2.1,tR.2.2.2.2.2.1,tR.2.2.2.2.2.2.1,tR.2.2.2.2.2.2.2.1,tR.2.2.2.2.2.2.2.2.1,tR.2.2.2.2.2.2.2.2.2.1) 120 [9000,9001,9002,9003,9004] [0,4,10,111,112,113,118,119] [4] (λ_ t=>(11,.row 1014)::(12,.row 1015)::t) (λs t=>(10,some (.bJ 373 [.L 1 DV.str v11,.row 1019,.row 1020]))::(1014,some (.R 327 3 sD s.1))::(1015,some (.R 4 1 DV.bool s.2.1))::(1016,some (.R 9 1 DV.str s.2.2.2.2.2.1))::(1017,some (.R 9 1 DV.str s.2.2.2.2.2.2.1))::(1018,some (.R 9 1 DV.str s.2.2.2.2.2.2.2.1))::(1019,some (.R 447 1 (bA 3 sD) tR.2.2.2.2.2.2.2.2.2.2.1))::(1020,some (.R 52 1 (bA 1 DV.bool) tR.2.2.2.2.2.2.2.2.2.2.2))::(9000,some (.bJ 366 [.str s.2.2.1.bx,.L 2 lZ s.2.2.1.aY,.L 3 pE s.2.2.1.fJ,.L 3 nr s.2.2.1.aG,.row 9001,.I s.2.2.2.2.1,.row 1016,.row 1017,.row 1018,.L 1 DV.str s.2.2.2.2.2.2.2.2.1,.L 4 fx s.2.2.2.2.2.2.2.2.2]))::(9001,some (.R 94 1 (bA 1 DV.str) s.2.2.2.1))::t) [] [(1014,1007),(1015,1008),(1016,1009),(1017,1010),(1018,1011),(1019,1012),(1020,1013)] m64 (zJ.bR.length:Int) (λk30 IT=>Bi (idx zJ.bR (k30:Int)) λv51=>Bi (eT v11 v51.bx) λv53=>Bi (cl 135 [(9002,1016),(9003,1017),(9004,1018)] (rN v51 (aA.mk IT.2.2.1 IT.2.2.2.1 IT.2.2.2.2.1 IT.2.2.2.2.2.1 IT.2.2.2.2.2.2.1 IT.2.2.2.2.2.2.2.1 IT.2.2.2.2.2.2.2.2.1 IT.2.2.2.2.2.2.2.2.2))) λv55=>Bi (idx IT.1 v53) λv57=>eE 136 sD v55.1 λv58=>Bi (idx IT.2.1 v53) λv60=>eE 137 DV.bool true λv61=>nX [] [] (some ((List.set IT.1 (Int.toNat v53) v58),(List.set IT.2.1 (Int.toNat v53) v61),v55.2.fT,v55.2.cY,v55.2.kS,v55.2.ir,v55.2.cK,v55.2.dN,v55.2.eM,v55.2.cM))) λIT=>Bi (cl 142 [(9000,1014),(5000,142)] (fc IT.1)) λLU=>eE 143 (bA 1 (bA 3 sD)) [LU] λYA=>Ck (dK 24 (tR.2.2.2.2.2.2.2.2.2.2.1.length+List.length YA))<|Bi (cl 148 [(9000,1015),(5000,148)] (ia IT.2.1)) λxA=>eE 149 (bA 1 (bA 1 DV.bool)) [xA] λFy=>Ck (dK 24 (tR.2.2.2.2.2.2.2.2.2.2.2.length+List.length Fy))<|nX [] [(1007,1014),(1008,1015),(1009,1016),(1010,1017),(1011,1018),(1012,144),(1013,150)] (some (IT.1,IT.2.1,IT.2.2.1,IT.2.2.2.1,IT.2.2.2.2.1,IT.2.2.2.2.2.1,IT.2.2.2.2.2.2.1,IT.2.2.2.2.2.2.2.1,IT.2.2.2.2.2.2.2.2.1,IT.2.2.2.2.2.2.2.2.2,(tR.2.2.2.2.2.2.2.2.2.2.1++YA),(tR.2.2.2.2.2.2.2.2.2.2.2++Fy)))) λtR=>wk [.z 1012,.z 1013]<|rC [4] [4] [(5000,1009),(5001,1010),(5002,1011)] (some ((fY.mk v11 tR.2.2.2.2.2.2.2.2.2.2.1 tR.2.2.2.2.2.2.2.2.2.2.2),(aA.mk tR.2.2.1 tR.2.2.2.1 tR.2.2.2.2.1 tR.2.2.2.2.2.1 tR.2.2.2.2.2.2.1 tR.2.2.2.2.2.2.2.1 tR.2.2.2.2.2.2.2.2.1 tR.2.2.2.2.2.2.2.2.2.1)))
instance IK{x1 o0}:MA (iO x1 o0) prog 166 (λ_=>8) λr=>⟨[.ref 9000 0,.I x1],[(9000,some (.bJ 366 (aA.b2 o0 (.row 9001) (.row 9002) (.row 9003) (.row 9004)))),(9001,some (.R 94 1 (bA 1 DV.str) o0.cY)),(9002,some (.R 9 1 DV.str o0.ir)),(9003,some (.R 9 1 DV.str o0.cK)),(9004,some (.R 9 1 DV.str o0.dN))],.agg (abn r.1),[(9000,some (.bJ 366 (aA.b2 r.2 (.row 9001) (.row 5000) (.row 5001) (.row 5002)))),(9001,some (.R 94 1 (bA 1 DV.str) r.2.cY)),(5000,some (.R 9 1 DV.str r.2.ir)),(5001,some (.R 9 1 DV.str r.2.cK)),(5002,some (.R 9 1 DV.str r.2.dN)),(9002,none),(9003,none),(9004,none)],[5000,5001,5002]⟩:=⟨λhM=>by unfold iO at hM;exact abz func166 ntmps166 (wz [142,148])⟩
def vB(x0:bu):Option ((iY)⊕(Int)) :=Bi (vh x0) λv2=>If (v2 != 0) (rX [] (some (.inr v2)))<|Bi (ze x0) λv4=>If (v4.2 != 0) (rX [] (some (.inr v4.2)))<|wk [.c 27 2000 4 94 1,.c 27 2001 6 9 1,.c 27 2002 7 9 1,.c 27 2003 8 9 1,.c 27 2004 10 421 4]<|fL ([]:List (List ByteArray)) 31 [] [1,7,29,30] [1] i2 (λs t=>(27,some (.bJ 366 [.str x0.bx,.L 2 lZ x0.aY,.L 3 pE x0.fJ,.L 3 nr x0.aG,.row 1001,.I 0,.row 1002,.row 1003,.row 1004,.cu,.row 1005]))::(1001,some (.R 94 1 (bA 1 DV.str) s))::(1002,some (.R 9 1 DV.str ([]:List ByteArray)))::(1003,some (.R 9 1 DV.str ([]:List ByteArray)))::(1004,some (.R 9 1 DV.str ([]:List ByteArray)))::(1005,some (.R 421 4 fx ([]:List aC)))::t) [] [(1001,2000),(1002,2001),(1003,2002),(1004,2003),(1005,2004)] m64 (x0.aG.length:Int) (λk5 s7=>Bi (idx x0.aG (k5:Int)) λv24=>Bi (BJ v24) λxz=>eE 42 (bA 1 (bA 1 DV.str)) [xz] λvV=>Ck (dK 24 (s7.length+List.length vV))<|nX [] [(1001,43)] (some (s7++vV))) λs7=>fL (x0,s7,0,([]:List ByteArray),([]:List ByteArray),([]:List ByteArray),([]:List ByteArray),([]:List aC),([]:List fY)) 52 [] [7,10,51] [] i2 (λs t=>(27,some (.bJ 366 [.str s.1.bx,.L 2 lZ s.1.aY,.L 3 pE s.1.fJ,.L 3 nr s.1.aG,.row 1006,.I s.2.2.1,.row 1007,.row 1008,.row 1009,.L 1 DV.str s.2.2.2.2.2.2.1,.L 4 fx s.2.2.2.2.2.2.2.1]))::(48,some (.bJ 370 [.row 1011]))::(1006,some (.R 94 1 (bA 1 DV.str) s.2.1))::(1007,some (.R 9 1 DV.str s.2.2.2.1))::(1008,some (.R 9 1 DV.str s.2.2.2.2.1))::(1009,some (.R 9 1 DV.str s.2.2.2.2.2.1))::(1011,some (.R 373 3 Uf s.2.2.2.2.2.2.2.2))::t) [.z 1005,.c 48 1015 0 373 3] [(1006,1001),(1007,1002),(1008,1003),(1009,1004),(1011,1015)] m64 (x0.aG.length:Int) (λk8 rz=>Bi (cl 62 [(9000,27),(9001,1006),(9002,1007),(9003,1008),(9004,1009),(5000,1012),(5001,1013),(5002,1014)] (iO (k8:Int) (aA.mk rz.1 rz.2.1 rz.2.2.1 rz.2.2.2.1 rz.2.2.2.2.1 rz.2.2.2.2.2.1 rz.2.2.2.2.2.2.1 rz.2.2.2.2.2.2.2.1))) λv20=>eE 63 (bA 3 Uf) [v20.1] λv21=>Ck (dK 72 (rz.2.2.2.2.2.2.2.2.length+List.length v21))<|nX [] [(1007,1012),(1008,1013),(1009,1014),(1011,64)] (some (v20.2.fT,v20.2.cY,v20.2.kS,v20.2.ir,v20.2.cK,v20.2.dN,v20.2.eM,v20.2.cM,(rz.2.2.2.2.2.2.2.2++v21)))) λrz=>wk [.z 1011,.b 48]<|rX [] (some (.inl (iY.mk rz.2.2.2.2.2.2.2.2)))
instance adn{x0}:MA (vB x0) prog 112 (λ| .inl _=>0 | .inr _=>0) λ| .inl r=>⟨[.agg (tF x0)],[],.gh [.iv (NK r),.I 0],[],[]⟩ | .inr r=>⟨[.agg (tF x0)],[],.gh [.val (.pointer none),.I r],[],[]⟩:=⟨fun {r} hM=>by unfold vB at hM;rcases r with r|r <;> exact ab func112 ntmps112⟩
end Go.Proofs.YtaafmkmdfcgeaaaGreatDoor
namespace Go.Proofs.YtaafmkmdfcgeaaaGreatDoor
open Go.Proofs.Tryz
def mj(o:Int):Int:=if o=6∨o=7∨o=9∨o=10∨o=24∨o=26∨o=28∨o=31∨o=33 then 1 else if (11<=o∧o<=23)∨o=25∨o=32 then 2 else 0
def fq(o:Int):Int:=if 1<=o∧o<=23 then 1 else 0
def fS(x:aC):Int:=mj x.cZ+(if x.cZ=30∨x.cZ=31 then x.gN else 0)
def rZ(x:aC):Option Int:=if x.cZ=27∨x.cZ=28 then some x.gA else if x.cZ=32∨x.cZ=33 then some x.gB else none
structure HIn(H:List Int)(top:Int)(i:Nat)(x:aC)(h:Int):Prop where
 at_:H[i]? = some h
 pos:0<=h
 pop:fS x<=h
 stop:x.cZ=34->h=0
 atL:h<=top
 amP:h-fS x+fq x.cZ<=top
 next:x.cZ≠27->x.cZ≠34->H[i+1]? = some (h-fS x+fq x.cZ)
 jump:∀t:Int,rZ x=some t->H[t.toNat]? = some (h-fS x+fq x.cZ)
def HS(cs:List aC)(H:List Int)(top:Int)(k:Nat):Prop:=∀(i:Nat) (x:aC),i<k->cs[i]? = some x->∃h,HIn H top i x h
def Fw(H J:List Int):Prop:=J.length=H.length∧∀(j:Nat) (h:Int),H[j]? = some h->0<=h->J[j]? = some h
theorem Fw.refl(H:List Int):Fw H H:=⟨rfl,λ_ _ h _=>h⟩
theorem Fw.trans{H J K:List Int}(a:Fw H J)(b:Fw J K):Fw H K:=⟨b.1.trans a.1,λj h x y=>b.2 j h (a.2 j h x y) y⟩
theorem Fw.set{H:List Int}{i:Nat}{v w:Int}(h:H[i]? = some w)(hv:w<0∨w=v):Fw H (H.set i v):=by
 refine⟨List.length_set,λj x hx h0=>?_⟩;rw[List.getElem?_set]
 by_cases e:i=j
 .subst e
  rw[h]at hx;obtain rfl:=Option.some.inj hx;rw[if_pos rfl,if_pos (List.getElem?_eq_some_iff.1 h).1];rcases hv with hv|hv
  .omega
  .rw[hv]
 .rw[if_neg e];exact hx
theorem HIn.ext{H J:List Int}{top aiN:Int}{i:Nat}{x:aC}{h:Int}(a:HIn H top i x h)(b:Fw H J)(ht:top<=aiN)(h0:0<=fq x.cZ):HIn J aiN i x h:=by
 obtain⟨a1,a2,a3,a4,a5,a6,a7,a8⟩:=a;exact⟨b.2 _ _ a1 a2,a2,a3,a4,ah,ah,λp q=>b.2 _ _ (a7 p q) ah,λt e=>b.2 _ _ (a8 t e) ah⟩
theorem HT(o:Int):0<=fq o:=ad1
theorem UL(o:Int):fq o<=1:=ad1
theorem EU(o:Int):0<=mj o:=aey
end Go.Proofs.YtaafmkmdfcgeaaaGreatDoor
