/- Part 2 of what the claim leans on. -/
import Derived.Test.YtpeihknododmlaaGreatDoorRRv1
set_option linter.unusedVariables false
set_option linter.unusedSimpArgs false
set_option maxHeartbeats 1000000
set_option maxRecDepth 100000
namespace Go.Proofs.YtpeihknododmlaaGreatDoor
open Go.RowKit
/-! models -/
def idx{α:Type}(xs:List α)(i:Int):Option α:=if 0≤i then xs[i.toNat]? else none
theorem Ce{α:Type}{xs:List α}{i:Int}{x:α}(h:idx xs i=some x):0≤i∧xs[i.toNat]? = some x:=by
 unfold idx at h
 split at h
 ·exact⟨by assumption,h⟩
 ·cases h
theorem gR{α:Type}(xs:List α)(n:Nat):idx xs (n:Int)=xs[n]? := by simp[idx]
def Ih{α:Type}(p:Prop)[Decidable p](k:Option α):Option α:=if p then k else none
theorem tj{α:Type}{p:Prop}[Decidable p]{k:Option α}{r:α}(h:Ih p k=some r):p∧k=some r:=by
 unfold Ih at h
 split at h
 ·exact⟨by assumption,h⟩
 ·cases h
theorem tT{α:Type}{p:Prop}[Decidable p]{k:Option α}(h:p):Ih p k=k:=if_pos h
theorem xN{α β:Type}{a:Option α}{f:α→Option β}{r:β}(h:a.bind f=some r):∃x,a=some x∧f x=some r:=by
 cases a with
 |none=>cases h
 |some x=>exact⟨x,rfl,h⟩
theorem adt{α:Type}{b:Bool}{x y:Option α}{r:α}(h:(if b=true then x else y)=some r):(b=true→x=some r)∧(b=false→y=some r) :=
 ⟨fun e=>by rw[if_pos e]at h;exact h,fun e=>by rw[if_neg (by rw[e];decide)]at h;exact h⟩
def gb{α:Type}(b:Bool)(d:α)(a:Option α):Option α:=if b=true then a else some d
theorem Fy{α:Type}{b:Bool}{d x:α}{a:Option α}(h:gb b d a=some x):b=true→a=some x:=fun e=>by
 unfold gb at h;rw[if_pos e]at h;exact h
inductive xV(S E:Type) where
 |next (s:S)
 |done (e:E)
def Ad{S E:Type}(step:S→Option (xV S E)):Nat→S→Option E
 |0,_=>none
 |n+1,s=>(step s).bind fun
  |.next s'=>Ad step n s'
  |.done e=>some e
@[irreducible] def Ey{S E:Type}(step:S→Option (xV S E))(s:S):Option E:=Ad step 1180591620717411303424 s
def OE{S E:Type}(body:Nat→S→Option (xV S E)):Nat→Nat→S→Option (xV S E)
 |0,_,s=>some (.next s)
 |m+1,k,s=>(body k s).bind fun
  |.next s'=>OE body m (k+1) s'
  |.done e=>some (.done e)
def SS{S E:Type}(mx n:Int)(body:Nat→S→Option (xV S E))(s:S):Option (xV S E):=Ih (n≤mx) (OE body n.toNat 0 s)
def Hs{S:Type}(body:Nat→S→Option S):Nat→Nat→S→Option S
 |0,_,s=>some s
 |m+1,k,s=>(body k s).bind fun s'=>Hs body m (k+1) s'
def EY{S:Type}(mx n:Int)(body:Nat→S→Option S)(s:S):Option S:=Ih (n≤mx) (Hs body n.toNat 0 s)
def arr{α:Type}(d:α)(l:List α):Nat→α:=fun i=>l.getD i d
def xJ{α:Type}(f:Nat→α)(i:Nat)(v:α):Nat→α:=fun j=>if j=i then v else f j
theorem Bw{n:Int}(h:0≤n):n=((n.toNat:Nat):Int):=by omega
/-! loops -/
section
variable {P:Program} {nn:Nat} {Q:Exit→AS→Prop} {σ:AS} {c:Code} {S E:Type}
def QW(St:S→AS)(t:xV S E)(Q:Exit→AS→Prop):Exit→AS→Prop
 |.normal,σ=>∃s',t = .next s'∧oE σ (St s')
 |e,σ=>Q e σ
theorem acv{step:S→Option (xV S E)}{e:E}(St:S→AS)(s0:S)(hM:Ey step s0=some e)(h0:oE σ (St s0))
  (round:∀s t,step s=some t→(∀e',t = .done e'→e'=e)→ik P nn c (QW St t Q) (St s)):ik P nn (.loop c) Q σ:=by
 have hM':Ad step 1180591620717411303424 s0=some e:=by unfold Ey at hM;exact hM
 refine HG (fun x:S×Nat=>St x.1) (fun x=>Ad step x.2 x.1=some e) (fun x=>x.2) (s0,1180591620717411303424) h0 hM' ?_;rintro⟨s,m⟩ hI;cases m with
 |zero=>cases hI
 |succ m=>
  obtain⟨t,ht,hk⟩:=xN (show(step s).bind _=some e from hI);refine Dj (round s t ht (fun e' he=>?_)) (fun ex σ' hq=>?_)
  ·subst he;injection hk
  ·cases ex with
   |normal=>
    obtain⟨s',rfl,hi⟩:=hq;exact⟨(s',m),hk,Nat.lt_succ_self m,hi⟩
   |_=>exact hq
def QF(St:Nat→S→AS)(k:Nat)(t:xV S E)(Q:Exit→AS→Prop):Exit→AS→Prop
 |.normal,σ=>∃s',t = .next s'∧oE σ (St (k+1) s')
 |e,σ=>Q e σ
def Ry(Q:Exit→AS→Prop):Exit→AS→Prop
 |.normal,_=>False
 |e,σ=>Q e σ
theorem aie{body:Nat→S→Option (xV S E)}{mx n:Int}{t:xV S E}(St:Nat→S→AS)(s0:S)(hM:SS mx n body s0=some t)(h0:oE σ (St 0 s0))
  (r1:∀(k:Nat) (s:S) (t':xV S E),(k:Int)<n→n≤mx→body k s=some t'→(∀e',t' = .done e'→t = .done e')→ik P nn c (QF St k t' Q) (St k s))
  (r2:∀(k:Nat) (s:S),n≤(k:Int)→n≤mx→t = .next s→ik P nn c (Ry Q) (St k s)):ik P nn (.loop c) Q σ:=by
 obtain⟨hmx,hM⟩:=tj (show Ih (n≤mx) _=some t from hM);refine HG (fun x:Nat×S=>St x.1 x.2) (fun x=>OE body (n.toNat-x.1) x.1 x.2=some t) (fun x=>n.toNat-x.1) (0,s0) h0 hM ?_;rintro⟨k,s⟩ hI
 by_cases hk:(k:Int)<n
 ·have e:n.toNat-k=(n.toNat-(k+1))+1:=by omega
  simp only[]at hI;rw[e]at hI;obtain⟨t',ht,Ek⟩:=xN (show(body k s).bind _=some t from hI);refine Dj (r1 k s t' hk hmx ht (fun e' he=>?_)) (fun ex σ' hq=>?_)
  ·subst he;injection Ek with Ek;exact Ek.symm
  ·cases ex with
   |normal=>
    obtain⟨s',rfl,hi⟩:=hq;exact⟨(k+1,s'),Ek,by simp only[];omega,hi⟩
   |_=>exact hq
 ·have e:n.toNat-k=0:=by omega
  simp only[]at hI;rw[e]at hI;injection hI with hI
  refine Dj (r2 k s (by omega) hmx hI.symm) (fun ex σ' hq=>?_);cases ex with
  |normal=>exact hq.elim
  |_=>exact hq
def QFo(St:Nat→S→AS)(k:Nat)(s':S)(Q:Exit→AS→Prop):Exit→AS→Prop
 |.normal,σ=>oE σ (St (k+1) s')
 |e,σ=>Q e σ
theorem ae8{body:Nat→S→Option S}{mx n:Int}{t:S}(St:Nat→S→AS)(s0:S)(hM:EY mx n body s0=some t)(h0:oE σ (St 0 s0))
  (r1:∀(k:Nat) (s s':S),(k:Int)<n→n≤mx→body k s=some s'→ik P nn c (QFo St k s' Q) (St k s))
  (r2:∀(k:Nat),n≤(k:Int)→n≤mx→ik P nn c (Ry Q) (St k t)):ik P nn (.loop c) Q σ:=by
 obtain⟨hmx,hM⟩:=tj (show Ih (n≤mx) _=some t from hM);refine HG (fun x:Nat×S=>St x.1 x.2) (fun x=>Hs body (n.toNat-x.1) x.1 x.2=some t) (fun x=>n.toNat-x.1) (0,s0) h0 hM ?_;rintro⟨k,s⟩ hI
 by_cases hk:(k:Int)<n
 ·have e:n.toNat-k=(n.toNat-(k+1))+1:=by omega
  simp only[]at hI;rw[e]at hI;obtain⟨t',ht,Ek⟩:=xN (show(body k s).bind _=some t from hI);refine Dj (r1 k s t' hk hmx ht) (fun ex σ' hq=>?_);cases ex with
  |normal=>exact⟨(k+1,t'),Ek,by simp only[];omega,hq⟩
  |_=>exact hq
 ·have e:n.toNat-k=0:=by omega
  simp only[]at hI;rw[e]at hI;injection hI with hI
  subst hI;refine Dj (r2 k (by omega) hmx) (fun ex σ' hq=>?_);cases ex with
  |normal=>exact hq.elim
  |_=>exact hq
end
theorem SI{k:Nat}{n:Int}(h:(k:Int)<n)(hx:n≤9223372036854775807):xU .i64 ((k:Int)+1):=by simp only[xU];omega
theorem abQ{k:Nat}{n:Int}(h:(k:Int)<n)(hx:n≤18446744073709551615):xU .u64 ((k:Int)+1):=by simp only[xU];omega
def mh(d:DV):DV:=d
theorem xO:∀l:List DV,List.map mh l=l
 |[]=>rfl
 |d::l=>by rw[List.map_cons,xO l];rfl
def bA{α:Type}(sz:Nat)(f:α→DV)(xs:List α):DV:=.sl sz (xs.map f)
theorem pP.succ(k:IntKind)(n:Nat):pP (.int k ((n:Int)+1)) (.int k ((n+1:Nat):Int)):=pP.of_eq (by simp)
theorem WH{σ:AS}{id sN j:Nat}{T:TypeId}{ds:List DV}(E sz:Nat)(hh:cB σ.heap id=some (.bC T ds))(hj:ds[j]? = some .bq)(hi:EU sN σ.used=false)(pQ:Nat.beq sN id=false) :
  oE σ ⟨σ.env,(id,some (.bC T (ds.set j (.row sN))))::(sN,some (.row E sz []))::σ.heap,sN::σ.used⟩:=fun C F γ a w hs=>by
 have hn:sN ∉ σ.used:=fun h=>by
  have:EU sN σ.used=true:=List.any_eq_true.2 ⟨sN,h,by simp⟩;rw[hi]at this;cases this
 have apn:sN≠id:=fun e=>by subst e;simp at pQ
 have hle:=sS (.slice none 0 0) (hs.ws.fresh hn);have W:=hs.ws.add hn (e0:=.row E sz []) (g:=.slice none 0 0) ⟨[],Ls _ _ _ _,by simp[mT]⟩ (fun b hb=>by simp[eU]at hb);have sO:cB ((sN,some (.row E sz []))::σ.heap) id=some (.bC T ds):=by rw[dj,if_neg apn];exact hh
 obtain⟨g,hg,b,cs,rfl,hb,hl⟩:=W.uB id _ sO
 have hl':fG F (γ.up sN (.slice none 0 0)) (ds.set j (.row sN)) cs.toList:=by
  refine CO (by rw[List.length_set];exact hl.len) (fun i d hd=>?_);rw[List.getElem?_set]at hd
  by_cases Dn:j=i
  ·subst Dn
   obtain⟨v,q1,q2,q3⟩:=hl.get hj;have Dt:j<ds.length:=(List.getElem?_eq_some_iff.1 hj).1;simp[Dt]at hd;subst hd;refine⟨v,q1,q2,?_⟩;simp only[Rs]at q3 ⊢;rw[q3];exact vi _ _ _
  ·rw[if_neg Dn]at hd;exact hl.get hd
 have W2:=W.put (id0:=id) (e0:=.bC T (ds.set j (.row sN))) hg ⟨b,cs,rfl,hb,hl'⟩ (fun b' iO=>by
  have ho:=W.own id _ _ b' sO hg iO;exact⟨ho.1,ho.2,fun i e g pQ hi Pp Pq=>pQ (W.apart i id e _ g _ b' hi sO Pp hg Pq iO)⟩)
 exact⟨F,_,fun t' d hd=>⟨(hs.env t' d hd).1,(hs.env t' d hd).2.mono (sd.refl _) hle⟩,W2,hs.size,hs.defers⟩
/-! rules over typed lists -/
section
variable {P:Program} {ops:Array Oper} {σ:AS} {t:Nat} {ty:TypeId} {pos:String} {af:Array Edge}
theorem du.cast{o:Oper}{rt rh:List Nat}{E E':zT}(h:du P ops o rt rh σ E)(e:E=E'):du P ops o rt rh σ E':=e ▸ h
theorem ahc{T e:TypeId}{HR yR:Nat}{zd:DV}[hT:oa P T e HR yR zd]{x:Operand}{sz:Nat}{α:Type}{xs:List α}{f:α→DV}(hx:ev σ.env x=some (.sl sz (xs.map f))):du P ops ⟨some t,.call ⟨.builtin .len,#[x],#[T]⟩,ty,pos,af,none⟩ (tm x) [] σ ⟨[(t,.int .i64 xs.length)],[],[]⟩ :=
 (ahB hx).cast (by rw[List.length_map])
theorem aa3{T e:TypeId}{HR yR:Nat}{zd:DV}[hT:oa P T e HR yR zd]{x:Operand}{id E sz:Nat}{α:Type}{xs:List α}{f:α→DV}(hx:ev σ.env x=some (.row id))(hh:cB σ.heap id=some (.row E sz (xs.map f))):du P ops ⟨some t,.call ⟨.builtin .len,#[x],#[T]⟩,ty,pos,af,none⟩ (tm x) [id] σ ⟨[(t,.int .i64 xs.length)],[],[]⟩ :=
 (abq hx hh).cast (by rw[List.length_map])
theorem BH{α:Type}{xs:List α}{f:α→DV}{n:Int}{x:α}(h:idx xs n=some x):(xs.map f)[n.toNat]? = some (f x):=by
 rw[List.getElem?_map,(Ce h).2];rfl
theorem SJ{α β:Type}{xs:List α}{f:α→β}{n:Int}{x:α}(h:idx xs n=some x):n.toNat<(xs.map f).length:=by
 rw[List.length_map];exact(List.getElem?_eq_some_iff.1 (Ce h).2).1
theorem KU{T e:TypeId}{sz yR:Nat}{zd:DV}[hT:oa P T e sz yR zd]{x y:Operand}{k:IntKind}{n:Int}{α:Type}{xs:List α}{f:α→DV}{a:α}(h:idx xs n=some a)(hx:ev σ.env x=some (.sl sz (xs.map f)))(hy:ev σ.env y=some (.int k n))(hf:(f a).flat=true) :
  du P ops ⟨some t,.indexAddr T x y,ty,pos,af,none⟩ (tm x++tm y) [] σ ⟨[(t,.jA (f a).cs)],[],[]⟩ :=
 Oi n.toNat hx hy (Bw (Ce h).1) (BH h) hf
theorem EG{T e:TypeId}{sz yR:Nat}{zd:DV}[hT:oa P T e sz yR zd]{x y:Operand}{id E:Nat}{k:IntKind}{n:Int}{α:Type}{xs:List α}{f:α→DV}{a:α}(h:idx xs n=some a)(hx:ev σ.env x=some (.row id))(hh:cB σ.heap id=some (.row E sz (xs.map f)))(hy:ev σ.env y=some (.int k n)) :
  du P ops ⟨some t,.indexAddr T x y,ty,pos,af,none⟩ (tm x++tm y) [id] σ ⟨[(t,.rp id n.toNat sz 0)],[],[]⟩ :=
 Iz n.toNat hx hh hy (Bw (Ce h).1) (SJ h)
theorem EE{T':TypeId}{x:Operand}{id sz o E:Nat}{n:Int}{α:Type}{xs:List α}{f:α→DV}{a:α}{r:DV}[hT:qX P T'](h:idx xs n=some a)(hx:ev σ.env x=some (.rp id n.toNat sz o))(hh:cB σ.heap id=some (.row E sz (xs.map f)))(hf:(f a).flat=true)(hl:(f a).cs[o]? = some r) :
  du P ops ⟨some t,.load T' x,ty,pos,af,none⟩ (tm x) [id] σ ⟨[(t,r)],[],[]⟩:=Uv hx hh (BH h) hf hl
theorem EF{T':TypeId}{x:Operand}{id sz o E m:Nat}{n:Int}{α:Type}{xs:List α}{f:α→DV}{a:α}{vO:List DV}[hT:kE P T' m](h:idx xs n=some a)(hx:ev σ.env x=some (.rp id n.toNat sz o))(hh:cB σ.heap id=some (.row E sz (xs.map f)))(hf:(f a).flat=true)(hn:Nat.ble m ((f a).cs.drop o).length=true)(hl:((f a).cs.drop o).take m=vO) :
  du P ops ⟨some t,.load T' x,ty,pos,af,none⟩ (tm x) [id] σ ⟨[(t,.agg vO)],[],[]⟩:=Uw hx hh (BH h) hf hn hl
theorem TY{T':TypeId}{x y:Operand}{id sz o E m:Nat}{n:Int}{α:Type}{xs:List α}{f:α→DV}{a:α}(a':α){dn:DV}[hT:dE P T' m](h:idx xs n=some a)(hx:ev σ.env x=some (.rp id n.toNat sz o))(hy:ev σ.env y=some dn)(hh:cB σ.heap id=some (.row E sz (xs.map f)))(hf:(f a).flat=true)(hfn:dn.flat=true)(hn:Nat.beq m dn.cs.length=true)
  (HP:dn.ids = []) (hl:Nat.ble (o+m) sz=true) (he:(f a').flat=true) (ZV:vH (f a).cs o dn.cs=(f a').cs) (yQ:Nat.blt 0 m=true) :
  du P ops ⟨none,.store T' x y,ty,pos,af,none⟩ (tm x++tm y) [id] σ ⟨[],[(id,some (.row E sz ((xs.set n.toNat a').map f)))],[]⟩ :=
 (Us hx hy hh (BH h) hf hfn hn HP hl he ZV (Nat.blt_eq ▸ yQ)).cast (by rw[List.map_set])
def dL(bytes n:Nat):Prop:=n*bytes≤140737488355328∧n≤140737488355328
instance (b n:Nat):Decidable (dL b n):=inferInstanceAs (Decidable (_∧_))
theorem ug{T e:TypeId}{sz bytes:Nat}{zd:DV}[hT:oa P T e sz bytes zd]{x y:Operand}{id:Nat}{α:Type}{f:α→DV}{xs:List α}(ys:List α){dy:DV}{rh:List Nat}(hb:dL bytes (xs.length+ys.length))(hx:ev σ.env x=some (.row id))(hh:cB σ.heap id=some (.row e sz (xs.map f)))(hy:ev σ.env y=some dy)(hS:Src σ sz dy (ys.map f) rh) :
  du P ops ⟨some t,.call ⟨.builtin .append,#[x,y],#[T,T]⟩,ty,pos,af,none⟩ (tm x++tm y) (id::rh) σ ⟨[(t,.row t)],[(t,some (.row e sz ((xs++ys).map f))),(id,none)],[t]⟩ :=
 (XK hx hh hy hS (by rw[List.length_map,List.length_map];exact hb)).cast (by rw[List.map_append])
theorem GQ{T e:TypeId}{sz bytes:Nat}{zd:DV}[hT:oa P T e sz bytes zd]{x y:Operand}{α:Type}(f:α→DV)(ys:List α){dy:DV}{rh:List Nat}(hb:dL bytes ys.length)(hx:ev σ.env x=some .bq)(hy:ev σ.env y=some dy)(hS:Src σ sz dy (ys.map f) rh) :
  du P ops ⟨some t,.call ⟨.builtin .append,#[x,y],#[T,T]⟩,ty,pos,af,none⟩ (tm x++tm y) rh σ ⟨[(t,.row t)],[(t,some (.row e sz (ys.map f)))],[t]⟩ :=
 QX hx hy hS (by rw[List.length_map];exact hb)
theorem yT{T e:TypeId}{sz bytes:Nat}{zd:DV}[hT:oa P T e sz bytes zd]{n:Nat}{ps:Array (Nat×Operand)}{zU:List (Nat×DV)}{α:Type}(f:α→DV)(ys:List α)(hz:(zd.cs.all DV.one)=true)(hn:Nat.ble (n*sz) 16777216=true)(he:SW σ.env ps.toList=some zU)(hk:Nat.beq zU.length n=true)
  (hf:DY ((List.range n).map fun i=>(i*sz,sz)) (List.replicate n zd.cs).flatten zU=some ((zU.map (·.2)).flatMap DV.cs)) (Cj:(zU.map (·.2)).all (UY sz)=true) (hy:zU.map (·.2)=ys.map f) :
  du P ops ⟨some t,.buildSlice T n ps,ty,pos,af,none⟩ (ps.toList.flatMap fun p=>tm p.2) [] σ ⟨[(t,.row t)],[(t,some (.row e sz (ys.map f)))],[t]⟩ :=
 (DI hz hn he hk hf Cj).cast (by rw[hy])
def iJ(bytes:Nat)(l c:Int):Prop:=0≤l∧l≤c∧bytes*c≤281474976710656∧c≤281474976710656
instance (b:Nat)(l c:Int):Decidable (iJ b l c):=inferInstanceAs (Decidable (_∧_))
def eN(n:Nat)(lo hi:Int):Prop:=0≤lo∧lo≤hi∧hi≤n
instance (n:Nat)(l c:Int):Decidable (eN n l c):=inferInstanceAs (Decidable (_∧_))
theorem Jm{T e:TypeId}{sz yR:Nat}{zd:DV}[hT:oa P T e sz yR zd]{x a:Operand}{k:IntKind}{lo:Int}{α:Type}{xs:List α}{f:α→DV}(h:eN xs.length lo xs.length)(hx:ev σ.env x=some (.sl sz (xs.map f)))(ha:ev σ.env a=some (.int k lo)) :
  du P ops ⟨some t,.slice T x (some a) none none,ty,pos,af,none⟩ (tm x++Ir (some a)++Ir none) [] σ ⟨[(t,.sl sz ((xs.drop lo.toNat).map f))],[],[]⟩:=by
 have h':=h;unfold eN at h';refine(Sv lo.toNat (xs.map f).length hx (Bd.at ha (by omega)) Bd.no (by rw[List.length_map];omega) (Nat.le_refl _)).cast ?_;rw[List.take_length,List.map_drop]
theorem Jn{T e:TypeId}{sz yR:Nat}{zd:DV}[hT:oa P T e sz yR zd]{x b:Operand}{k':IntKind}{hi:Int}{α:Type}{xs:List α}{f:α→DV}(h:eN xs.length 0 hi)(hx:ev σ.env x=some (.sl sz (xs.map f)))(hb:ev σ.env b=some (.int k' hi)) :
  du P ops ⟨some t,.slice T x none (some b) none,ty,pos,af,none⟩ (tm x++Ir none++Ir (some b)) [] σ ⟨[(t,.sl sz ((xs.take hi.toNat).map f))],[],[]⟩:=by
 have h':=h;unfold eN at h';refine(Sv 0 hi.toNat hx Bd.no (Bd.at hb (by omega)) (by omega) (by rw[List.length_map];omega)).cast ?_;rw[List.drop_zero,List.map_take]
def ah7(k:IntKind)(a b:Int):Prop:=0≤a∧0<b∧xU k (a / b)
instance (k:IntKind)(n:Int):Decidable (xU k n):=by cases k <;> exact inferInstanceAs (Decidable (_∧_))
instance (k:IntKind)(a b:Int):Decidable (ah7 k a b):=inferInstanceAs (Decidable (_∧_))
def qv(n:Nat)(i:Int):Prop:=0≤i∧i<n
instance (n:Nat)(i:Int):Decidable (qv n i):=inferInstanceAs (Decidable (_∧_))
inductive Ni:DV→Bool→Bool→Prop
 |bT {b:Bool}:Ni (.bool b) true b
 |bF {b:Bool}:Ni (.bool b) false (!b)
 |iT {c b:Bool}:Ni (.Ew c (.bool b)) true (c&&b)
 |iF {c b:Bool}:Ni (.Ew c (.bool b)) false (c && !b)
inductive sB:List (Nat×DV)→List Nat→List (Nat×DV)→Prop
 |nil {e:List (Nat×DV)}:sB e [] e
 |uw {e e':List (Nat×DV)} {t:Nat} {L:List Nat} (h:sB e L e'):sB e (t::L) e'
 |strip {e e':List (Nat×DV)} {t:Nat} {L:List Nat} {c:Bool} {d:DV} (h:look e t=some (.Ew c d)) (hc:c=true) (k:sB e L e'):sB e (t::L) ((t,d)::e')
 |half {e e':List (Nat×DV)} {t:Nat} {L:List Nat} {c b:Bool} {d:DV} (h:look e t=some (.Ew (c&&b) d)) (hc:c=true) (k:sB e L e'):sB e (t::L) ((t,.Ew b d)::e')
theorem sB.spec{e:List (Nat×DV)}{L:List Nat}{e':List (Nat×DV)}(h:sB e L e'):∀t,look e' t=look e t∨(t∈L∧∃d0 d,look e t=some d0∧look e' t=some d∧∀F γ v,Rs F γ d0 v↔Rs F γ d v):=by
 induction h with
 |nil=>intro t;exact .inl rfl
 |uw h ih=>
  intro t;rcases ih t with h|⟨h1,h2⟩
  ·exact .inl h
  ·exact .inr ⟨List.mem_cons_of_mem _ h1,h2⟩
 | @strip e' t0 L c d h hc k ih=>
  intro t;rw[eW]
  by_cases ht:t0=t
  ·subst ht;rw[if_pos rfl]
   refine .inr ⟨List.mem_cons_self ..,_,_,h,rfl,fun F γ v=>?_⟩;subst hc;simp only[Rs];exact⟨fun k=>k.1 trivial,fun k=>⟨fun _=>k,fun e=>by cases e⟩⟩
  ·rw[if_neg ht]
   rcases ih t with h|⟨h1,h2⟩
   ·exact .inl h
   ·exact .inr ⟨List.mem_cons_of_mem _ h1,h2⟩
 | @half e' t0 L c b d h hc k ih=>
  intro t;rw[eW]
  by_cases ht:t0=t
  ·subst ht;rw[if_pos rfl]
   refine .inr ⟨List.mem_cons_self ..,_,_,h,rfl,fun F γ v=>?_⟩;subst hc;simp only[Bool.true_and]
  ·rw[if_neg ht]
   rcases ih t with h|⟨h1,h2⟩
   ·exact .inl h
   ·exact .inr ⟨List.mem_cons_of_mem _ h1,h2⟩
theorem Ni.wanted{C:Ctx}{F:dI}{γ:fc}{σ':AS}{a:Act}{w:World}(hs:Sat C F γ σ' a w){op:Op}{g gt:Nat}{want on:Bool}{gd:DV}(hG:Ni gd want on)(Ga:(ops[g]?).bind (·.dst)=some gt)(iO:look σ'.env gt=some gd) :
  Region.wanted ⟨some t,op,ty,pos,af,some (g,want)⟩ (yielded ops a.tmps)=on:=by
 have Ba:=(hs.env gt _ iO).2;have pE:=(hs.env gt _ iO).1;have yQ:gt<a.tmps.size:=by rw[hs.size];exact pE
 have cB:∀x,a.tmps.getD gt undef=x→a.tmps[gt]=x:=fun x hx=>by simpa [Array.getD,yQ]using hx
 have hW:Region.wanted ⟨some t,op,ty,pos,af,some (g,want)⟩ (yielded ops a.tmps)=(yielded ops a.tmps g==some want):=rfl;rw[hW]
 have hy:∀x,a.tmps.getD gt undef=x→yielded ops a.tmps g=match x with | .bool b=>some b|_=>none:=fun x hx=>by
  unfold yielded;rw[Ga];simp only[Option.bind_some];rw[Array.getElem?_eq_getElem yQ,cB x hx];cases x <;> rfl
 cases hG with
 |bT=>simp only[Rs]at Ba;rw[hy _ Ba];cases on <;> rfl
 |bF=>simp only[Rs]at Ba;rw[hy _ Ba];rename_i b;cases b <;> rfl
 |iT=>
  rename_i c b
  simp only[Rs]at Ba;cases c with
  |true=>rw[hy _ (Ba.1 rfl)];cases b <;> rfl
  |false=>rw[hy _ (Ba.2 rfl)];rfl
 |iF=>
  rename_i c b
  simp only[Rs]at Ba;cases c with
  |true=>rw[hy _ (Ba.1 rfl)];cases b <;> rfl
  |false=>rw[hy _ (Ba.2 rfl)];rfl
theorem XI{op:Op}{g gt:Nat}{want on:Bool}{gd:DV}{rt rh:List Nat}{d:DV}{BV:List (Nat×DV)}(hG:Ni gd want on)(Ga:(ops[g]?).bind (·.dst)=some gt)(hb:look σ.env gt=some gd)(hS:on=true→sB σ.env (vT op) BV)
  (h:on=true→du P ops ⟨some t,op,ty,pos,af,none⟩ rt rh ⟨BV,σ.heap,σ.used⟩ ⟨[(t,d)],[],[]⟩):du P ops ⟨some t,op,ty,pos,af,some (g,want)⟩ (gt::vT op++rt) rh σ ⟨[(t,.Ew on d)],[],[]⟩:=by
 intro C F γ σ' a w h1 h2 h3 h4 hs K Q hK;have iO:look σ'.env gt=some gd:=(h1 gt (by simp)).trans hb;rw[Ni.wanted hs hG Ga iO];have ht:t<C.n:=h4 t rfl
 by_cases Qg:on=true
 ·rw[if_pos Qg]
  have yL:=(hS Qg).spec;obtain⟨L,hL⟩:∃L:List (Nat×DV),∀x,look L x=if x∈vT op then look BV x else none:=⟨_,EW BV (vT op)⟩
  have FG:Sat C F γ ⟨L++σ'.env,σ'.heap,σ'.used⟩ a w:=by
   refine⟨fun x dx hx=>?_,hs.ws,hs.size,hs.defers⟩;simp only at hx;rw[gz,hL]at hx
   by_cases hm:x∈vT op
   ·rw[if_pos hm]at hx
    have agree:look σ'.env x=look σ.env x:=h1 x (by simp[hm]);rcases yL x with h|⟨_,d0,d',k1,k2,k3⟩
    ·rw[h,agree]at hx
     refine hs.env x dx (agree.trans ?_);cases hl:look σ.env x <;> simp_all
    ·rw[k2]at hx;simp at hx;subst hx
     have:=hs.env x _ (agree.trans k1);exact⟨this.1,(k3 _ _ _).1 this.2⟩
   ·rw[if_neg hm]at hx;exact hs.env x dx (by simpa using hx)
  have key:=h Qg C F γ ⟨L++σ'.env,σ'.heap,σ'.used⟩ a w (fun x hx=>?_) h2 (by simp) h4 FG K Q (fun F' γ' a' w' hF mm=>hK F' γ' a' w' hF ?_)
  ·have hw:Region.wanted ⟨some t,op,ty,pos,af,none⟩ (yielded ops a.tmps)=true:=rfl
   rw[if_pos hw]at key;exact key
  ·simp only
   rw[gz,hL]
   by_cases hm:x∈vT op
   ·rw[if_pos hm]
    have agree:look σ'.env x=look σ.env x:=h1 x (by simp[hm]);rcases yL x with h|⟨_,d0,d',k1,k2,k3⟩
    ·rw[agree,←h];cases look BV x <;> rfl
    ·rw[k2];rfl
   ·rw[if_neg hm]
    rcases yL x with h|⟨hx',_⟩
    ·rw[h,←h1 x (by simp[hx])];rfl
    ·exact absurd hx' hm
  ·refine⟨fun x dx hx=>?_,mm.ws.congr (fun _ _ h=>h) (fun _ h=>h),mm.size,mm.defers⟩
   simp only[AS.app,List.singleton_append]at hx;rw[eW]at hx
   by_cases hxt:t=x
   ·rw[if_pos hxt]at hx;injection hx with hx;subst hx;subst hxt
    have:=mm.env t d (by simp only[AS.app,List.singleton_append];rw[eW,if_pos rfl]);refine⟨this.1,?_⟩;simp only[Rs];exact⟨fun _=>this.2,fun h=>by rw[Qg]at h;cases h⟩
   ·rw[if_neg hxt]at hx
    have get:∀d1,(look L x).or (look σ'.env x)=some d1→x<C.n∧Rs F' γ' d1 (a'.tmps.getD x undef):=fun d1 h=>mm.env x d1 (by simp only[AS.app,List.singleton_append];rw[eW,if_neg hxt,gz];exact h)
    rw[hL]at get
    by_cases hm:x∈vT op
    ·rw[if_pos hm]at get
     have agree:look σ'.env x=look σ.env x:=h1 x (by simp[hm]);rcases yL x with h|⟨_,d0,d',k1,k2,k3⟩
     ·refine get dx ?_
      rw[h,←agree,hx];rfl
     ·rw[agree,k1]at hx;injection hx with hx;subst hx
      have:=get d' (by rw[k2];rfl);exact⟨this.1,(k3 _ _ _).2 this.2⟩
    ·rw[if_neg hm]at get
     exact get dx (by simpa using hx)
 ·have hT:on=false:=Bool.eq_false_iff.2 Qg
  subst hT;rw[if_neg (by decide)];refine hK F γ _ _ (sd.refl _) (hs.put ht ?_);simp only[Rs];exact⟨fun h=>(by cases h),fun _=>trivial⟩
theorem oJ.rsE{F:dI}{sz:Nat}{ds vO:List DV}(h:oJ ds vO):∀{vs:List Value},mT F sz ds vs→mT F sz vO vs:=by
 induction h with
 |nil=>intro vs h;exact h
 |cons h1 k ih=>
  intro vs h;simp only[mT]at h ⊢;obtain⟨v,rest,r1,r2,r3,r4,r5⟩:=h;exact⟨v,rest,r1,r2,r3,h1 _ _ _ r4,ih r5⟩
theorem oJ.len{ds vO:List DV}(h:oJ ds vO):ds.length=vO.length:=by
 induction h with
 |nil=>rfl
 |cons _ _ ih=>simp[ih]
theorem du.WR{o:Oper}{rt rh:List Nat}{env:List (Nat×DV)}{hp:eY}{nw:List Nat}{E sz:Nat}{eC els':List DV}(h:du P ops o rt rh σ ⟨env,(t,some (.row E sz eC))::hp,nw⟩)(hd:oJ eC els'):du P ops o rt rh σ ⟨env,(t,some (.row E sz els'))::hp,nw⟩:=by
 intro C F γ σ' a w h1 h2 h3 h4 hs K Q hK;refine h C F γ σ' a w h1 h2 h3 h4 hs K Q (fun F' γ' a' w' hF mm=>hK F' γ' a' w' hF ⟨mm.env,?_,mm.size,mm.defers⟩);have H:=mm.ws;simp only[AS.app,List.cons_append]at H ⊢
 have back:∀i e',cB ((t,some (.row E sz els'))::(hp++σ'.heap)) i=some e'→∃e,cB ((t,some (.row E sz eC))::(hp++σ'.heap)) i=some e∧(∀F γ w g,Cv F γ w e g→Cv F γ w e' g):=fun i e' hi=>by
  rw[dj]at hi ⊢
  by_cases hit:t=i
  ·rw[if_pos hit]at hi ⊢;injection hi with hi;subst hi
   refine⟨_,rfl,fun F γ w g hg=>?_⟩;obtain⟨vs,q1,q2⟩:=hg;exact⟨vs,by rw[←hd.len];exact q1,hd.rsE q2⟩
  ·rw[if_neg hit]at hi ⊢
   exact⟨e',hi,fun _ _ _ _ h=>h⟩
 exact {
  uB:=fun i e' hi=>by
   obtain⟨e,k1,k2⟩:=back i e' hi;obtain⟨g,g1,g2⟩:=H.uB i e k1;exact⟨g,g1,k2 _ _ _ _ g2⟩
  own:=fun i e' g b hi=>by
   obtain⟨e,k1,k2⟩:=back i e' hi;exact H.own i e g b k1
  apart:=fun i i' e e' g g' b hi Fk=>by
   obtain⟨e1,k1,_⟩:=back i e hi;obtain⟨e2,k2,_⟩:=back i' e' Fk;exact H.apart i i' e1 e2 g g' b k1 k2
  fs:=H.fs,f0:=H.f0,vR:=H.vR,os:=H.os,tape:=H.tape,output:=H.output,size:=H.size,uw:=H.uw,us:=H.us,gone:=H.gone,g0:=H.g0,gk:=H.gk,kn:=H.kn }
theorem Xc{T e:TypeId}{sz bytes:Nat}{zd:DV}[hT:oa P T e sz bytes zd]{n:Nat}{ps:Array (Nat×Operand)}{zU:List (Nat×DV)}{α:Type}(f:α→DV)(ys:List α)(hz:(zd.cs.all DV.one)=true)(hn:Nat.ble (n*sz) 16777216=true)(he:SW σ.env ps.toList=some zU)(hk:Nat.beq zU.length n=true)
  (hf:DY ((List.range n).map fun i=>(i*sz,sz)) (List.replicate n zd.cs).flatten zU=some ((zU.map (·.2)).flatMap DV.cs)) (Cj:(zU.map (·.2)).all (UY sz)=true) (hy:oJ (zU.map (·.2)) (ys.map f)) :
  du P ops ⟨some t,.buildSlice T n ps,ty,pos,af,none⟩ (ps.toList.flatMap fun p=>tm p.2) [] σ ⟨[(t,.row t)],[(t,some (.row e sz (ys.map f)))],[t]⟩ :=
 (DI hz hn he hk hf Cj).WR hy
theorem Un{T n e sz:Nat}[hT:uz P T n e sz]{cs:Array Value}{k:IntKind}{i:Nat}(hi:i<n){v:Value}{w:World}(hp:(part e cs (i*sz)).run P w = .ok v w):(Instr.index T (.agg cs) (.int k (i:Int))).run P w = .ok v w:=by
 simp[Instr.index,asIntOf,run_underlying hT.u,hT.size,hi,hp]
theorem Sw{T n e sz:Nat}[hT:uz P T n e sz][hs:qX P e]{x y:Operand}{k:IntKind}{m:Int}{ds:List DV}{d:DV}(i:Nat)(hx:ev σ.env x=some (.agg ds))(hy:ev σ.env y=some (.int k m))(hm:m=(i:Int))(hi:i<n)(hd:ds[i*sz]? = some d) :
  du P ops ⟨some t,.index T x y,ty,pos,af,none⟩ (tm x++tm y) [] σ ⟨[(t,d)],[],[]⟩ :=
 du.val rfl rfl fun C F γ σ' a w uL h2 yL=>by
  obtain⟨k1,k2⟩:=AO yL uL hx hy;simp only[Rs]at k1 k2;obtain⟨cs,e,hl⟩:=k1;subst hm;obtain⟨v,r1,r2⟩:=So (.sc hs.h (by rw[head_drop];exact hd)) hl w;refine⟨v,?_,r2⟩;have:=Un (P:=P) (T:=T) (k:=k) hi r1;simp[execOp,e,k2,this]
theorem ael{T n e:Nat}[hT:uz P T n e 1][hs:qX P e]{x y:Operand}{k:IntKind}{m:Int}{α:Type}(f:α→DV)(xs:List α){a:α}(h:idx xs m=some a)(hx:ev σ.env x=some (.agg (xs.map f)))(hy:ev σ.env y=some (.int k m))(hn:xs.length=n) :
  du P ops ⟨some t,.index T x y,ty,pos,af,none⟩ (tm x++tm y) [] σ ⟨[(t,f a)],[],[]⟩:=by
 have pE:=SJ (f:=f) h;rw[List.length_map,hn]at pE;exact Sw m.toNat hx hy (Bw (Ce h).1) pE (by rw[Nat.mul_one];exact BH h)
theorem aem{T n e:Nat}[hT:uz P T n e 1][hs:qX P e]{x y:Operand}{k:IntKind}{m:Int}{ds:List DV}(g:Nat→DV)(h:qv n m)(hx:ev σ.env x=some (.agg ds))(hy:ev σ.env y=some (.int k m))(hg:ds=(List.range n).map g) :
  du P ops ⟨some t,.index T x y,ty,pos,af,none⟩ (tm x++tm y) [] σ ⟨[(t,g m.toNat)],[],[]⟩:=by
 have h':=h;unfold qv at h';refine Sw m.toNat hx hy (by omega) (by omega) ?_;have pE:m.toNat<n:=by omega
 rw[hg,Nat.mul_one,List.getElem?_map,List.getElem?_range pE];rfl
end
theorem AV.all{f:Nat→Nat}{e:List (Nat×DV)}:∀{e':List (Nat×DV)},(e'.map fun p=>look e p.1)=(e'.map fun p=>some (p.2.ua f))→AV f e e'
 |[],_=>.nil
 |(t,d)::r,h=>by
  simp only[List.map_cons,List.cons.injEq]at h;exact .cons h.1 (pP.refl _) (AV.all h.2)
theorem xE.all{f:Nat→Nat}{e:eY}:∀{e':eY},(e'.map fun p=>cB e (f p.1))=(e'.map fun p=>p.2.map (HE.ua f))→(e'.all fun p=>p.2.isSome)=true→xE f e e'
 |[],_,_=>.nil
 |(t,none)::r,_,k=>by simp at k
 |(t,some d)::r,h,k=>by
  simp only[List.map_cons,List.cons.injEq,Option.map_some]at h;simp only[List.all_cons,Option.isSome_some,Bool.true_and]at k;exact .cons h.1 (.refl _) (xE.all h.2 k)
theorem oE.sh{σ σ':AS}(f:Nat→Nat)(he:(σ'.env.map fun p=>look σ.env p.1)=(σ'.env.map fun p=>some (p.2.ua f)))(hh:(σ'.heap.map fun p=>cB σ.heap (f p.1))=(σ'.heap.map fun p=>p.2.map (HE.ua f)))(hs:(σ'.heap.all fun p=>p.2.isSome)=true)(hu:KP f σ.used σ'.used=true)(hi:za f (σ'.heap.map (·.1))=true)(hc:Oz σ'=true):oE σ σ':=oE.of f (.all he) (.all hh hs) hu hi hc
theorem ar{P:Program}{n:Nat}{Q:Exit→AS→Prop}{σ:AS}{id:Nat}{ops:Array Oper}{σ':AS}{ks:List (Keys×zT)}(ht:Trace P ops ops.toList σ σ' ks)(hq:Q .normal σ')(hd:sH n ops=true:=by kernel_rfl)(px:mJ σ.used (ks.map (·.2.new))=true:=by kernel_rfl):ik P n (.region id ops false) Q σ:=gw ht hd px hq
theorem ad{P:Program}{n:Nat}{Q:Exit→AS→Prop}{σ:AS}{id:Nat}{ops:Array Oper}{σ':AS}{ks:List (Keys×zT)}(hm:P.follows .mixedOrders=true)(ht:Trace P ops ops.toList σ σ' ks)(hq:Q .normal σ')(hk:zv ops (ks.map (·.1))=true:=by kernel_rfl)(hd:sH n ops=true:=by kernel_rfl)(px:mJ σ.used (ks.map (·.2.new))=true:=by kernel_rfl):ik P n (.region id ops true) Q σ:=LZ hm ht hk hd px hq
end Go.Proofs.YtpeihknododmlaaGreatDoor
namespace Go.Proofs.YtpeihknododmlaaGreatDoor
open Go.ChangeShapes Go.WideShapes Go.ChangeAt Go.RowKit
theorem agO{k:IntKind}{n:Int}(h:(Lit.int k n).wf=true):xU k n:=by
 cases k <;> simpa [Lit.wf,IntKind.min,IntKind.max,IntKind.signed,IntKind.bits,xU]using h
theorem fG.join{F:dI}{γ:fc}{ds es:List DV}{cs:List Value}{off n:Nat}(hn:off+n≤cs.length)(h1:fG F γ ds ((cs.drop off).take n))(h2:fG F γ es (cs.drop (off+n))):fG F γ (ds++es) (cs.drop off):=by
 have:cs.drop off=(cs.drop off).take n++cs.drop (off+n):=by
  rw[←List.drop_drop,List.take_append_drop]
 rw[this];exact h1.append h2
theorem fG.done{F:dI}{γ:fc}{cs:List Value}{n:Nat}(h:cs.length=n):fG F γ [] (cs.drop n):=by
 simp only[fG];rw[←h,List.drop_length]
theorem aes{F:dI}{γ:fc}{d:DV}{v:Value}(h:fG F γ [d] [v]):Rs F γ d v:=by
 simp only[fG]at h;obtain⟨u,rest,h1,_,h2,_⟩:=h;injection h1 with h1 _;subst h1;exact h2
theorem Xv{F:dI}{γ:fc}{ds:List DV}{cs:Array Value}(h:fG F γ ds cs.toList):Rs F γ (.agg ds) (.agg cs):=by
 simp only[Rs];exact⟨cs,rfl,h⟩
section
variable {H:Type} {enc:TypeId×Value→H} {P:Program} {w:World} {fuel:Nat}
theorem qk{t:TypeId}{k:IntKind}{cs:List Value}{y:DataW H×List MemPlace}(ht:P.underlying t=some (.int k))(h:DataW.trod enc P w 0 (fun _=>true) true fuel t cs=some y):∃x:Int,fG (xk w) fc.no [.int k x] cs∧xU k x:=by
 obtain⟨n,rfl,_,hw⟩:=DataW.trod_int ht h;exact⟨n,GI (by simp only[Rs]) rfl,agO hw⟩
theorem abe{a:Addr}{n:Nat}{cs:List Value}(h:w.cells? 0 a n=some cs)(hn:0<n):a.spot=none:=by
 obtain⟨_,h1,h2⟩:=World.cells?_some h;have h0:=h2 0 hn;obtain⟨v0,hv0⟩:∃v,cs[0]? = some v:=⟨_,List.getElem?_eq_getElem (by omega)⟩;rw[hv0,Addr.add_zero']at h0;unfold World.cell? at h0
 split at h0
 ·cases hs:a.spot with
  |none=>rfl
  |some s=>simp[hs]at h0
 ·cases h0
theorem YT{b o n i:Nat}{cs:List Value}(h:w.cells? 0 (Addr.add ⟨b,o,none⟩ i) n=some cs)(hn:0<n) :
  ∃bC t fz,w.heap[b]? = some (.cells bC t fz)∧(bC.toList.drop (o+i)).take n=cs:=by
 rw[Addr.add_mid]at h;obtain⟨_,h1,h2⟩:=World.cells?_some h
 have key:∀j,j<n→∃bC t fz,w.heap[b]? = some (.cells bC t fz)∧bC[o+i+j]? = cs[j]? := by
  intro j hj;have h0:=h2 j hj;obtain⟨v0,hv0⟩:∃v,cs[j]? = some v:=⟨_,List.getElem?_eq_getElem (by omega)⟩;rw[hv0,Addr.add_mid]at h0;unfold World.cell? at h0
  split at h0
  ·rename_i c t fz hc
   simp at h0;exact⟨c,t,fz,hc,by rw[hv0];exact h0⟩
  ·cases h0
 obtain⟨bC,t,fz,hb,_⟩:=key 0 hn;refine⟨bC,t,fz,hb,?_⟩;apply List.ext_getElem?;intro j;rw[List.getElem?_take,List.getElem?_drop]
 by_cases hj:j<n
 ·obtain⟨apq,t2,fz2,q1,q2⟩:=key j hj
  rw[hb]at q1;injection q1 with q1;injection q1 with q1 _ _;subst q1
  rw[if_pos hj,←q2];simp
 ·rw[if_neg hj,List.getElem?_eq_none (by omega)]
theorem tg{t e:TypeId}{sz:Nat}{cs:List Value}{y:DataW H×List MemPlace}{α:Type}{dv:α→DV}{ok:α→Prop}(ht:P.underlying t=some (.slice e))(hc:P.cellsOf e=sz)(hz:0<sz)(hf:∀x,(dv x).flat=true)
  (Jh:∀(fuel:Nat) (cs:List Value) (y:DataW H×List MemPlace),DataW.trod enc P w 0 (fun _=>true) true fuel e cs=some y→∃x,fG (xk w) fc.no (dv x).cs cs∧ok x)
  (h:DataW.trod enc P w 0 (fun _=>true) true fuel t cs=some y):∃xs:List α,fG (xk w) fc.no [.sl sz (xs.map dv)] cs∧(xs.length≤9223372036854775807∧∀x∈xs,ok x):=by
 rcases Go.Deep.open_slice ht h with⟨rfl,_⟩|⟨a,len,cap,m,n,D,Pl,rfl,hb,hl,hm,hmm,_,RK⟩
 ·refine⟨[],GI ?_ rfl,by simp,by simp⟩
  simp only[Rs];exact⟨none,0,rfl,⟨fun _=>⟨rfl,rfl⟩,Nat.le_refl _,by decide⟩,fun h=>absurd rfl h⟩
 ·rw[if_pos rfl]at hmm
  rw[hc]at RK;have hml:maxLen=9223372036854775807:=rfl;rcases Nat.eq_zero_or_pos len with h0|hlen
  ·subst h0
   refine⟨[],GI ?_ rfl,by simp,by simp⟩;simp only[Rs];exact⟨some a,cap,rfl,⟨(fun h=>by cases h),Nat.zero_le _,by omega⟩,fun h=>absurd rfl h⟩
  obtain⟨b,o,sp⟩:=a
  have hsp:sp=none:=by
   obtain⟨cs',c1,_⟩:=RK 0 (by omega);rw[Nat.zero_mul,Addr.add_zero']at c1;exact abe c1 hz
  subst hsp
  have main:∀k,k≤len→∃xs:List α,xs.length=k∧(∀x∈xs,ok x)∧∃vs:List Value,mT (xk w) sz (xs.map dv) vs∧(0<k→∃bC t fz,w.heap[b]? = some (.cells bC t fz)∧(bC.toList.drop o).take (k*sz)=vs):=by
   intro k
   induction k with
   |zero=>intro _;exact⟨[],rfl,by simp,[],by simp[mT],fun h=>absurd h (by omega)⟩
   |succ k ih=>
    intro hk;obtain⟨xs,h1,h2,vs,h3,h4⟩:=ih (by omega);obtain⟨cs',c1,c2⟩:=RK k (by omega);obtain⟨x,r1,r2⟩:=Jh n cs' _ c2;obtain⟨v,v1,v2⟩:=HJ (hf x) r1;obtain⟨bC,t',fz,b1,b3⟩:=YT c1 hz
    have yQ:v.cells.size=sz:=by
     have:=(World.cells?_some c1).2.1;rw[←Array.length_toList,v1];exact this
    have hE:mT (xk w) sz [dv x] v.cells.toList:=WD yQ (by rw[v1];exact r1.one) v2;refine⟨xs++[x],by simp[h1],fun y hy=>?_,vs++v.cells.toList,?_,fun _=>⟨bC,t',fz,b1,?_⟩⟩
    ·rcases List.mem_append.1 hy with hy|hy
     ·exact h2 y hy
     ·rw[List.mem_singleton]at hy;subst hy;exact r2
    ·rw[List.map_append];exact h3.append hE
    ·rw[Nat.succ_mul,List.take_add,v1]
     congr 1
     ·by_cases hk0:0<k
      ·obtain⟨apq,t2,fz2,q1,q3⟩:=h4 hk0
       rw[b1]at q1;injection q1 with q1;injection q1 with q1 _ _;subst q1;exact q3
      ·have:k=0:=by omega
       subst this;have:=h3.len;simp only[List.length_map,h1,Nat.zero_mul]at this;rw[List.eq_nil_of_length_eq_zero this];simp
     ·rw[List.drop_drop,b3]
  obtain⟨xs,h1,h2,vs,h3,h4⟩:=main len (Nat.le_refl _);refine⟨xs,GI ?_ rfl,by omega,h2⟩;simp only[Rs];refine⟨some ⟨b,o,none⟩,cap,by simp[h1],⟨(fun h=>by cases h),by simp[h1];omega,by omega⟩,fun pQ=>?_⟩;obtain⟨bC,t',fz,b1,b3⟩:=h4 hlen;exact⟨b,o,bC,vs,(bC.toList.drop o).drop (len*sz),rfl,by simp[xk,b1],by rw[←b3,List.take_append_drop],h3⟩
end
end Go.Proofs.YtpeihknododmlaaGreatDoor
namespace Go.Proofs.YtpeihknododmlaaGreatDoor
theorem fy{H:Type}{enc:TypeId×Value→H}{P:Program}{w:World}{xs:List (DataW H×List MemPlace)}{cs:List Value}{n t o k c m:Nat}(e:DataW.trod enc P w 0 (fun _=>true) true n t ((cs.drop o).take (P.cellsOf t))=xs[k]?)(hc:P.cellsOf t=c)(hl:xs.length=m)(hi:k<m):∃y,DataW.trod enc P w 0 (fun _=>true) true n t ((cs.drop o).take c)=some y:=⟨_,(hc ▸ e).trans (List.getElem?_eq_getElem (by omega))⟩
def anN:Lit→Value
 |.int k n=>.int k n
 |.bool b=>.bool b
 |.string s=>.string ⟨s.toArray⟩
 |_=>.nilIface
mutual
def flat{H:Type}:DataW H→List Value
 |.lit l=>[anN l]
 |.agg l=>OI l
 |_=>[]
def OI{H:Type}:List (DataW H)→List Value
 |[]=>[]
 |d::r=>flat d++OI r
end
def ctg:Nat→List (Nat×Nat)→Option Nat
 |k,[]=>some k
 |k,(o,m)::l=>match Nat.beq o k with
  |true=>ctg (k+m) l
  |false=>none
theorem Hx{cs:List Value}:∀(l:List (Nat×Nat)) (k e:Nat),ctg k l=some e→k≤e∧(l.flatMap fun p=>(cs.drop p.1).take p.2)=(cs.drop k).take (e-k)
 |[],k,e,h=>by
  obtain rfl:=Option.some.inj h;simp
 |(o,m)::l,k,e,h=>by
  unfold ctg at h
  split at h
  ·rename_i hb
   obtain rfl:=Nat.eq_of_beq_eq_true hb;obtain⟨h1,h2⟩:=Hx l _ e h;refine⟨by omega,?_⟩;rw[List.flatMap_cons,h2];have:e-o=m+(e-(o+m)):=by omega
   rw[this,List.take_add,List.drop_drop]
  ·cases h
theorem Tc(c:Nat):∀(n k:Nat),ctg (k*c) ((List.range' k n).map fun i=>(i*c,c))=some ((k+n)*c)
 |0,k=>rfl
 |n+1,k=>by
  rw[List.range'_succ,List.map_cons];unfold ctg;rw[show Nat.beq (k*c) (k*c)=true from Nat.beq_refl _];have:=Tc c n (k+1);rw[Nat.succ_mul]at this;dsimp only;rw[this]
  congr 2;omega
def okT(P:Program):Nat→TypeId→Bool
 |0,_=>false
 |n+1,t=>match P.underlying t with
  |some .bool=>true
  |some (.int _)=>true
  |some .string=>true
  |some (.array m e)=>Nat.beq (P.cellsOf t) (m*P.cellsOf e)&&okT P n e
  |some (.struct fs)=>(match ctg 0 (fs.toList.map fun f=>(f.offset,P.cellsOf f.type))with
   |some e=>Nat.beq e (P.cellsOf t)
   |none=>false)&&fs.toList.all fun f=>okT P n f.type
  |_=>false
section
variable {H:Type} {enc:TypeId×Value→H} {P:Program} {w:World} {base:Nat} {sp:Nat→Bool} {held:Bool}
theorem mapM_flat{α:Type}{cs:List Value}{g:α→Option (DataW H×List MemPlace)}{pos:α→Nat×Nat}:∀(l:List α) (xs:List (DataW H×List MemPlace)),l.mapM g=some xs→(∀a∈l,∀d p,g a=some (d,p)→(cs.drop (pos a).1).take (pos a).2=flat d)→((l.map pos).flatMap fun p=>(cs.drop p.1).take p.2)=OI (xs.map (·.1))
 |[],xs,h,_=>by
  simp at h;subst h;rfl
 |a::l,xs,h,hg=>by
  simp only[List.mapM_cons,Option.bind_eq_bind,Option.bind_eq_some_iff,Option.pure_def,Option.some.injEq]at h;obtain⟨⟨d,p⟩,hb,r,hr,rfl⟩:=h;have:=mapM_flat l r hr (fun b hb=>hg b (by simp[hb]));simp only[List.map_cons,List.flatMap_cons];rw[this,hg a (by simp) d p hb]
  rfl
theorem EC:∀(n:Nat) (t:TypeId),okT P n t=true→∀(fuel:Nat) (cs:List Value) (d:DataW H) (p:List MemPlace),DataW.trod enc P w base sp held fuel t cs=some (d,p)→cs=flat d
 |0,_,h=>by cases h
 |n+1,t,h=>by
  intro fuel cs d p hd;cases fuel with
  |zero=>simp[DataW.trod]at hd
  |succ fuel=>
   unfold okT at h;cases ht:P.underlying t with
   |none=>rw[ht]at h;cases h
   |some u=>
    rw[ht]at h;cases u with
    |bool=>
     obtain⟨b,rfl,e⟩:=DataW.trod_bool ht hd;obtain⟨rfl,_⟩:=Prod.mk.inj e
     rfl
    |int k=>
     obtain⟨z,rfl,e,_⟩:=DataW.trod_int ht hd;obtain⟨rfl,_⟩:=Prod.mk.inj e
     rfl
    |string=>
     obtain⟨s,rfl,e,_⟩:=DataW.trod_string ht hd;obtain⟨rfl,_⟩:=Prod.mk.inj e
     rfl
    |array m e=>
     dsimp only at h;rw[Bool.and_eq_true]at h;have h1:=Nat.eq_of_beq_eq_true h.1;simp only[DataW.trod,ht]at hd
     split at hd
     ·rename_i hl
      obtain⟨xs,hm,hx⟩:=Option.map_eq_some_iff.1 hd;obtain⟨rfl,_⟩:=Prod.mk.inj hx;have hf:=mapM_flat (cs:=cs) (pos:=fun i=>(i*P.cellsOf e,P.cellsOf e)) (List.range m) xs hm (fun i _ d p hi=>EC n e h.2 fuel _ d p hi);have hc:=(Hx (cs:=cs) _ 0 _ (by have:=Tc (P.cellsOf e) m 0;rw[Nat.zero_mul]at this;exact this)).2;rw[List.range_eq_range']at hf;rw[hf]at hc;rw[show flat (DataW.agg (xs.map (·.1)))=OI (xs.map (·.1)) from rfl,hc,List.drop_zero,Nat.zero_add,Nat.sub_zero,←h1,←hl,List.take_length]
     ·cases hd
    |struct fs=>
     dsimp only at h;rw[Bool.and_eq_true]at h;simp only[DataW.trod,ht]at hd
     split at hd
     ·rename_i hl
      obtain⟨xs,hm,hx⟩:=Option.map_eq_some_iff.1 hd;obtain⟨rfl,_⟩:=Prod.mk.inj hx;have hf:=mapM_flat (cs:=cs) (pos:=fun f:Field=>(f.offset,P.cellsOf f.type)) fs.toList xs hm (fun f hfm d p hi=>EC n f.type (List.all_eq_true.1 h.2 f hfm) fuel _ d p hi);have h1:=h.1
      split at h1
      ·rename_i e he
       have h1:=Nat.eq_of_beq_eq_true h1;have hc:=(Hx (cs:=cs) _ 0 _ he).2;rw[hf]at hc;rw[show flat (DataW.agg (xs.map (·.1)))=OI (xs.map (·.1)) from rfl,hc,List.drop_zero,Nat.sub_zero,h1,←hl,List.take_length]
      ·cases h1
     ·cases hd
    |_=>cases h
end
def okL(P:Program):List (String×DataW Unit)→List (Nat×Array Value)→Bool
 |[],[]=>true
 |(n,d)::L,(g,_)::T=>(match P.globalNamed n with
  |some g'=>Nat.beq g' g
  |none=>false)&&(match(P.globals[g]?).map (·.type)with
  |some t=>okT P 8 t
  |none=>false)&&okL P L T
 |_,_=>false
theorem Ow{P:Program}{W:World}:∀(L:List (String×DataW Unit)) (T:List (Nat×Array Value)) (ps:List MemPlace),okL P L T=true→T.map (·.2)=L.map (fun x=>(flat x.2).toArray)→DataW.LaidVars P W L ps→∀g cs,look T g=some cs→xk W g=some cs
 |[],[],_,_,_,_,g,cs,h=>by cases h
 |[],_::_,_,h,_,_,_,_,_=>by cases h
 |_::_,[],_,h,_,_,_,_,_=>by cases h
 |(n,d)::L,(g0,c0)::T,ps,h,hT,hL,g,cs,hg=>by
  obtain⟨g',t,cs',fuel,p,q,k1,k2,k3,k4,k5,_⟩:=hL;unfold okL at h;rw[Bool.and_eq_true,Bool.and_eq_true]at h;obtain⟨⟨h1,h2⟩,h3⟩:=h;rw[k1]at h1;obtain rfl:=Nat.eq_of_beq_eq_true h1;rw[k2]at h2;simp only[List.map_cons,List.cons.injEq]at hT;unfold look at hg
  split at hg
  ·rename_i hb
   obtain rfl:=Nat.eq_of_beq_eq_true hb;obtain rfl:=Option.some.inj hg;have hc:=EC 8 t h2 _ _ _ _ k4;unfold World.var? at k3;rw[k1]at k3;simp only[Option.bind_some]at k3;unfold xk;refine k3.trans ?_
   congr 1
   rw[hT.1,←hc]
  ·exact Ow L T q h3 hT.2 k5 g cs hg
end Go.Proofs.YtpeihknododmlaaGreatDoor
