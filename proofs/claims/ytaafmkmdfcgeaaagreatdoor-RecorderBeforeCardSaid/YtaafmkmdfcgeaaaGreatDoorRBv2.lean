/- Part 2 of what the claim leans on. -/
import Derived.Test.YtaafmkmdfcgeaaaGreatDoorRBv1
set_option maxRecDepth 100000
set_option linter.unusedVariables false
set_option linter.unusedSimpArgs false
namespace Go.Proofs.YtaafmkmdfcgeaaaGreatDoor
theorem fy{H:Type}{enc:TypeId×Value->H}{P:Program}{w:World}{xs:List (DataW H×List MemPlace)}{cs:List Value}{n t o k c m:Nat}(e:DataW.trod enc P w 0 (λ_=>true) true n t ((cs.drop o).take (P.cellsOf t))=xs[k]?)(hc:P.cellsOf t=c)(hl:xs.length=m)(hi:k<m):∃y,DataW.trod enc P w 0 (λ_=>true) true n t ((cs.drop o).take c)=some y:=⟨_,(hc ▸ e).trans (List.getElem?_eq_getElem ah)⟩
def at6:Lit->Value
 |.int k n=>.int k n
 |.bool b=>.bool b
 |.string s=>.string ⟨s.toArray⟩
 |_=>.nilIface
mutual
def flat{H:Type}:DataW H->List Value
 |.lit l=>[at6 l]
 |.agg l=>RY l
 |_=>[]
def RY{H:Type}:List (DataW H)->List Value
 |[]=>[]
 |d::r=>flat d++RY r
end
def ctg:Nat->List (Nat×Nat)->Option Nat
 |k,[]=>some k
 |k,(o,m)::l=>match Nat.beq o k with
  |true=>ctg (k+m) l
  |false=>none
theorem Kn{cs:List Value}:∀(l:List (Nat×Nat)) (k e:Nat),ctg k l=some e->k<=e∧(l.flatMap λp=>(cs.drop p.1).take p.2)=(cs.drop k).take (e-k)
 |[],k,e,h=>by
  obtain rfl:=Option.some.inj h;simp
 |(o,m)::l,k,e,h=>by
  unfold ctg at h
  split at h
  .rename_i hb
   obtain rfl:=Nat.eq_of_beq_eq_true hb;obtain⟨h1,h2⟩:=Kn l _ e h;refine⟨ah,?_⟩;rw[List.flatMap_cons,h2];have:e-o=m+(e-(o+m)):=ah;rw[this,List.take_add,List.drop_drop]
  .cases h
theorem XF(c:Nat):∀(n k:Nat),ctg (k*c) ((List.range' k n).map λi=>(i*c,c))=some ((k+n)*c)
 |0,k=>rfl
 |n+1,k=>by
  rw[List.range'_succ,List.map_cons];unfold ctg;rw[show Nat.beq (k*c) (k*c)=true from Nat.beq_refl _];have:=XF c n (k+1);rw[Nat.succ_mul]at this;dsimp only;rw[this]
  congr 2;omega
def okT(P:Program):Nat->TypeId->Bool
 |0,_=>false
 |n+1,t=>match P.underlying t with
  |some .bool=>true
  |some (.int _)=>true
  |some .string=>true
  |some (.array m e)=>Nat.beq (P.cellsOf t) (m*P.cellsOf e)&&okT P n e
  |some (.struct fs)=>(match ctg 0 (fs.toList.map λf=>(f.offset,P.cellsOf f.type))with
   |some e=>Nat.beq e (P.cellsOf t)
   |none=>false)&&fs.toList.all λf=>okT P n f.type
  |_=>false
section
variable {H:Type} {enc:TypeId×Value->H} {P:Program} {w:World} {base:Nat} {sp:Nat->Bool} {held:Bool}
theorem mapM_flat{α:Type}{cs:List Value}{g:α->Option (DataW H×List MemPlace)}{pos:α->Nat×Nat}:∀(l:List α) (xs:List (DataW H×List MemPlace)),l.mapM g=some xs->(∀a∈l,∀d p,g a=some (d,p)->(cs.drop (pos a).1).take (pos a).2=flat d)->((l.map pos).flatMap λp=>(cs.drop p.1).take p.2)=RY (xs.map (·.1))
 |[],xs,h,_=>by
  simp at h;subst h;rfl
 |a::l,xs,h,hg=>by
  simp only[List.mapM_cons,Option.bind_eq_bind,Option.bind_eq_some_iff,Option.pure_def,Option.some.injEq]at h;obtain⟨⟨d,p⟩,hb,r,hr,rfl⟩:=h;have:=mapM_flat l r hr (λb hb=>hg b (by simp[hb]));simp only[List.map_cons,List.flatMap_cons];rw[this,hg a aR d p hb]
  rfl
theorem GR:∀(n:Nat) (t:TypeId),okT P n t=true->∀(fuel:Nat) (cs:List Value) (d:DataW H) (p:List MemPlace),DataW.trod enc P w base sp held fuel t cs=some (d,p)->cs=flat d
 |0,_,h=>dI
 |n+1,t,h=>by
  intro fuel cs d p hd;cases fuel with
  |zero=>simp[DataW.trod]at hd
  |succ fuel=>
   unfold okT at h;cases ht:P.underlying t with
   |none=>rw[ht]at h;cases h
   |some u=>
    rw[ht]at h;cases u with
    |bool=>
     obtain⟨b,rfl,e⟩:=DataW.trod_bool ht hd;obtain⟨rfl,_⟩:=Prod.mk.inj e
     rfl
    |int k=>
     obtain⟨z,rfl,e,_⟩:=DataW.trod_int ht hd;obtain⟨rfl,_⟩:=Prod.mk.inj e
     rfl
    |string=>
     obtain⟨s,rfl,e,_⟩:=DataW.trod_string ht hd;obtain⟨rfl,_⟩:=Prod.mk.inj e
     rfl
    |array m e=>
     dsimp only at h;rw[Bool.and_eq_true]at h;have h1:=Nat.eq_of_beq_eq_true h.1;simp only[DataW.trod,ht]at hd
     split at hd
     .rename_i hl
      obtain⟨xs,hm,hx⟩:=Option.map_eq_some_iff.1 hd;obtain⟨rfl,_⟩:=Prod.mk.inj hx;have hf:=mapM_flat (cs:=cs) (pos:=λi=>(i*P.cellsOf e,P.cellsOf e)) (List.range m) xs hm (λi _ d p hi=>GR n e h.2 fuel _ d p hi);have hc:=(Kn (cs:=cs) _ 0 _ (by have:=XF (P.cellsOf e) m 0;rw[Nat.zero_mul]at this;exact this)).2;rw[List.range_eq_range']at hf;rw[hf]at hc;rw[show flat (DataW.agg (xs.map (·.1)))=RY (xs.map (·.1)) from rfl,hc,List.drop_zero,Nat.zero_add,Nat.sub_zero,<-h1,<-hl,List.take_length]
     .cases hd
    |struct fs=>
     dsimp only at h;rw[Bool.and_eq_true]at h;simp only[DataW.trod,ht]at hd
     split at hd
     .rename_i hl
      obtain⟨xs,hm,hx⟩:=Option.map_eq_some_iff.1 hd;obtain⟨rfl,_⟩:=Prod.mk.inj hx;have hf:=mapM_flat (cs:=cs) (pos:=λf:Field=>(f.offset,P.cellsOf f.type)) fs.toList xs hm (λf hfm d p hi=>GR n f.type (List.all_eq_true.1 h.2 f hfm) fuel _ d p hi);have h1:=h.1
      split at h1
      .rename_i e he
       have h1:=Nat.eq_of_beq_eq_true h1;have hc:=(Kn (cs:=cs) _ 0 _ he).2;rw[hf]at hc;rw[show flat (DataW.agg (xs.map (·.1)))=RY (xs.map (·.1)) from rfl,hc,List.drop_zero,Nat.sub_zero,h1,<-hl,List.take_length]
      .cases h1
     .cases hd
    |_=>cases h
end
def okL(P:Program):List (String×DataW Unit)->List (Nat×Array Value)->Bool
 |[],[]=>true
 |(n,d)::L,(g,_)::T=>(match P.globalNamed n with
  |some g'=>Nat.beq g' g
  |none=>false)&&(match(P.globals[g]?).map (·.type)with
  |some t=>okT P 8 t
  |none=>false)&&okL P L T
 |_,_=>false
theorem RK{P:Program}{W:World}:∀(L:List (String×DataW Unit)) (T:List (Nat×Array Value)) (ps:List MemPlace),okL P L T=true->T.map (·.2)=L.map (λx=>(flat x.2).toArray)->DataW.LaidVars P W L ps->∀g cs,look T g=some cs->xt W g=some cs
 |[],[],_,_,_,_,g,cs,h=>dI
 |[],_::_,_,h,_,_,_,_,_=>dI
 |_::_,[],_,h,_,_,_,_,_=>dI
 |(n,d)::L,(g0,c0)::T,ps,h,hT,hL,g,cs,hg=>by
  obtain⟨g',t,cs',fuel,p,q,k1,k2,k3,k4,k5,_⟩:=hL;unfold okL at h;rw[Bool.and_eq_true,Bool.and_eq_true]at h;obtain⟨⟨h1,h2⟩,h3⟩:=h;rw[k1]at h1;obtain rfl:=Nat.eq_of_beq_eq_true h1;rw[k2]at h2;simp only[List.map_cons,List.cons.injEq]at hT;unfold look at hg
  split at hg
  .rename_i hb
   obtain rfl:=Nat.eq_of_beq_eq_true hb;obtain rfl:=Option.some.inj hg;have hc:=GR 8 t h2 _ _ _ _ k4;unfold World.var? at k3;rw[k1]at k3;simp only[Option.bind_some]at k3;unfold xt;refine k3.trans ?_
   congr 1
   rw[hT.1,<-hc]
  .exact RK L T q h3 hT.2 k5 g cs hg
open Go.RowKit
section
variable {P:Program} {ops:Array Oper} {σ:AS} {t:Nat} {ty:TypeId} {pos:String} {af:Array Edge}
theorem uG{op:Op}{g gt:Nat}{want on:Bool}{gd:DV}{rt rh:List Nat}{d:DV}{hp:eW}{nw:List Nat}{ye:List (Nat×DV)}(hG:QE gd want on)(Gz:(ops[g]?).bind (·.dst)=some gt)(hb:look σ.env gt=some gd)(Ua:on=true)(hS:rQ σ.env (vX op) ye)
  (h:dH P ops ⟨some t,op,ty,pos,af,none⟩ rt rh ⟨ye,σ.heap,σ.used⟩ ⟨[(t,d)],hp,nw⟩):dH P ops ⟨some t,op,ty,pos,af,some (g,want)⟩ (gt::vX op++rt) rh σ ⟨[(t,.FD on d)],hp,nw⟩:=by
 intro C F γ σ' a w h1 h2 h3 h4 hs K Q hK;have je:look σ'.env gt=some gd:=(h1 gt aR).trans hb;rw[QE.wanted hs hG Gz je];have ht:t<C.n:=h4 t rfl;rw[if_pos Ua];have zb:=hS.spec;obtain⟨L,hL⟩:∃L:List (Nat×DV),∀x,look L x=if x∈vX op then look ye x else none:=⟨_,Hk ye (vX op)⟩
 have EI:Sat C F γ ⟨L++σ'.env,σ'.heap,σ'.used⟩ a w:=by
  refine⟨λx dx hx=>?_,hs.ws,hs.size,hs.defers⟩;simp only at hx;rw[gK,hL]at hx
  by_cases hm:x∈vX op
  .rw[if_pos hm]at hx
   have agree:look σ'.env x=look σ.env x:=h1 x Pu;rcases zb x with h|⟨_,d0,d',k1,k2,k3⟩
   .rw[h,agree]at hx
    refine hs.env x dx (agree.trans ?_);cases hl:look σ.env x <;> simp_all
   .rw[k2]at hx;simp at hx;subst hx
    have:=hs.env x _ (agree.trans k1);exact⟨this.1,(k3 _ _ _).1 this.2⟩
  .rw[if_neg hm]at hx;exact hs.env x dx Sq
 have key:=h C F γ ⟨L++σ'.env,σ'.heap,σ'.used⟩ a w (λx hx=>?_) h2 h3 h4 EI K Q (λF' γ' a' w' hF jI=>hK F' γ' a' w' hF ?_)
 .have hw:Region.wanted ⟨some t,op,ty,pos,af,none⟩ (yielded ops a.tmps)=true:=rfl
  rw[if_pos hw]at key;exact key
 .simp only
  rw[gK,hL]
  by_cases hm:x∈vX op
  .rw[if_pos hm]
   have agree:look σ'.env x=look σ.env x:=h1 x Pu;rcases zb x with h|⟨_,d0,d',k1,k2,k3⟩
   all_goals simp_all
  .rw[if_neg hm]
   rcases zb x with h|⟨hx',_⟩
   all_goals simp_all
 .refine⟨λx dx hx=>?_,jI.ws.congr (λ_ _ h=>h) (λ_ h=>h),jI.size,jI.defers⟩
  simp only[AS.app,List.singleton_append]at hx;rw[eK]at hx
  by_cases hxt:t=x
  .rw[if_pos hxt]at hx;injection hx with hx;subst hx;subst hxt
   have:=jI.env t d adM;refine⟨this.1,?_⟩;simp only[Rs];exact⟨λ_=>this.2,λh=>by rw[Ua]at h;cases h⟩
  .rw[if_neg hxt]at hx
   have get:∀d1,(look L x).or (look σ'.env x)=some d1->x<C.n∧Rs F' γ' d1 (a'.tmps.getD x undef):=λd1 h=>jI.env x d1 ajm
   rw[hL]at get
   by_cases hm:x∈vX op
   .rw[if_pos hm]at get
    rcases zb x with h|⟨_,d0,d',k1,k2,k3⟩
    all_goals simp_all
   .rw[if_neg hm]at get
    exact get dx Sq
theorem oS{op:Op}{g gt:Nat}{want on:Bool}{gd:DV}(d:DV)(hG:QE gd want on)(Gz:(ops[g]?).bind (·.dst)=some gt)(hb:look σ.env gt=some gd)(Ua:on=false) :
  dH P ops ⟨some t,op,ty,pos,af,some (g,want)⟩ [gt] [] σ ⟨[(t,.FD on d)],[],[]⟩:=by
 intro C F γ σ' a w h1 h2 h3 h4 hs K Q hK;have je:look σ'.env gt=some gd:=(h1 gt aR).trans hb;rw[QE.wanted hs hG Gz je];have ht:t<C.n:=h4 t rfl;subst Ua;refine hK F γ _ _ (lJ.refl _) (hs.put ht ?_);simp only[Rs];simp
end
/-! arrays at an index that is not known -/
theorem Vn{β:Type}(g:Nat->List β):∀(n i:Nat),i<n->∃R,(List.range n).flatMap g=(List.range i).flatMap g++(g i++R)∧R=(List.range (n-(i+1))).flatMap λj=>g (i+1+j)
 |n,i,h=>by
  obtain⟨m,rfl⟩:∃m,n=i+1+m:=⟨n-(i+1),ah⟩;rw[Nat.add_sub_cancel_left,List.range_add,List.flatMap_append,List.range_succ,List.flatMap_append,List.flatMap_map];simp
theorem wH{β:Type}(g:Nat->List β){sz:Nat}(hl:∀j,(g j).length=sz):∀n,((List.range n).flatMap g).length=n*sz
 |0=>aR
 |n+1=>by rw[List.range_succ,List.flatMap_append,List.length_append,wH g hl n];simp[hl,Nat.succ_mul]
section
variable {α:Type} {ds vN:List DV} {off n sz:Nat} {m:Int}
theorem Hz(g:Nat->List DV)(hl:∀j,(g j).length=sz)(h:oO n m)(hc:(ds.drop off).take (n*sz)=(List.range n).flatMap g) :
  ∃R B,ds=ds.take off++((List.range m.toNat).flatMap g++(g m.toNat++R)++B)∧R=((List.range (n-(m.toNat+1))).flatMap λj=>g (m.toNat+1+j))∧B=ds.drop (off+n*sz):=by
 unfold oO at h;obtain⟨R,h1,h2⟩:=Vn g n m.toNat ah;refine⟨R,_,?_,h2,rfl⟩;rw[<-h1,<-hc,<-List.drop_drop,List.take_append_drop,List.take_append_drop]
theorem Ea(g:Nat->List DV)(hl:∀j,(g j).length=sz)(hz:0<sz)(h:oO n m)(hc:(ds.drop off).take (n*sz)=(List.range n).flatMap g):off<=ds.length∧off+m.toNat*sz+sz<=ds.length:=by
 have h':=h;unfold oO at h';have hlen:=congrArg List.length hc;rw[List.length_take,List.length_drop,wH g hl]at hlen;have h1:(m.toNat+1)*sz<=n*sz:=Nat.mul_le_mul_right _ ah
 grind
theorem Yj(qV:α->List DV)(F:Nat->α)(hl:∀x,(qV x).length=sz)(hz:0<sz)(h:oO n m)(hc:(ds.drop off).take (n*sz)=(List.range n).flatMap λj=>qV (F j)):(ds.drop (off+m.toNat*sz)).take sz=qV (F m.toNat):=by
 have ho:=Ea (λj=>qV (F j)) (λj=>hl _) hz h hc;obtain⟨R,B,e1,_,_⟩:=Hz (λj=>qV (F j)) (λj=>hl _) h hc;have hM:=wH (λj=>qV (F j)) (λj=>hl _) m.toNat;have hAM:(ds.take off++(List.range m.toNat).flatMap λj=>qV (F j)).length=off+m.toNat*sz:=by rw[List.length_append,hM,List.length_take];omega
 have e1':ds=(ds.take off++(List.range m.toNat).flatMap λj=>qV (F j))++(qV (F m.toNat)++(R++B)):=by
  conv=>lhs;rw[e1]
  simp
 calc (ds.drop (off+m.toNat*sz)).take sz=(((ds.take off++(List.range m.toNat).flatMap λj=>qV (F j))++(qV (F m.toNat)++(R++B))).drop (off+m.toNat*sz)).take sz:=by rw[<-e1']
  _=qV (F m.toNat):=by rw[List.drop_left' hAM,List.take_left' (hl _)]
theorem aid(qV:α->List DV)(F:Nat->α)(hl:∀x,(qV x).length=sz)(hz:0<sz)(h:oO n m)(hc:(ds.drop off).take (n*sz)=(List.range n).flatMap λj=>qV (F j)):Nat.ble sz (ds.drop (off+m.toNat*sz)).length=true:=by
 have ho:=Ea (λj=>qV (F j)) (λj=>hl _) hz h hc;rw[Nat.ble_eq,List.length_drop];omega
theorem Kx(qV:α->List DV)(F:Nat->α)(hl:∀x,(qV x).length=sz)(hz:0<sz)(h:oO n m)(hc:(ds.drop off).take (n*sz)=(List.range n).flatMap λj=>qV (F j))(fo:Nat){d:DV}(hf:fo<sz)(hd:(qV (F m.toNat))[fo]? = some d):ds[off+m.toNat*sz+fo]? = some d:=by
 have:=Yj qV F hl hz h hc;rw[<-this,List.getElem?_take,if_pos hf,List.getElem?_drop]at hd;exact hd
theorem acJ(A M B cs:List DV)(o:Nat)(h:o+cs.length<=M.length):vR (A++(M++B)) (A.length+o) cs=A++(vR M o cs++B):=by
 unfold vR;rw[List.take_append,List.take_of_length_le ah,Nat.add_sub_cancel_left,List.take_append_of_le_length ah,Nat.add_assoc,List.drop_append,List.drop_of_length_le ah,Nat.add_sub_cancel_left,List.drop_append_of_le_length ah];simp
theorem aic(qV:α->List DV)(F:Nat->α)(v:α)(hl:∀x,(qV x).length=sz)(hz:0<sz)(h:oO n m)(hc:(ds.drop off).take (n*sz)=(List.range n).flatMap λj=>qV (F j))(fo:Nat){cs:List DV}(hk:fo+cs.length<=sz)(hv:vR (qV (F m.toNat)) fo cs=qV v)
  (h1:vN.take off=ds.take off) (h2:(vN.drop off).take (n*sz)=(List.range n).flatMap λj=>qV (tP F m.toNat v j)) (h3:vN.drop (off+n*sz)=ds.drop (off+n*sz)):vR ds (off+m.toNat*sz+fo) cs=vN:=by
 have ho:=Ea (λj=>qV (F j)) (λj=>hl _) hz h hc;obtain⟨R,B,e1,e2,e3⟩:=Hz (λj=>qV (F j)) (λj=>hl _) h hc;obtain⟨R',B',f1,f2,f3⟩:=Hz (λj=>qV (tP F m.toNat v j)) (λj=>hl _) h h2;have hM:=wH (λj=>qV (F j)) (λj=>hl _) m.toNat
 have hR:R'=R:=by
  rw[e2,f2]
  congr 1
  funext j
  unfold tP;rw[if_neg ah]
 have hP:((List.range m.toNat).flatMap λj=>qV (tP F m.toNat v j))=(List.range m.toNat).flatMap λj=>qV (F j):=by
  rw[List.flatMap_def,List.flatMap_def]
  congr 1
  apply List.map_congr_left;intro j hj;have:=List.mem_range.1 hj;unfold tP;rw[if_neg ah]
 have QI:qV (tP F m.toNat v m.toNat)=qV v:=by unfold tP;rw[if_pos rfl]
 rw[f1,h1,f3,h3,hR,hP,QI,<-hv];have hA:(ds.take off).length=off:=zG;have key:=acJ (ds.take off++(List.range m.toNat).flatMap λj=>qV (F j)) (qV (F m.toNat)) (R++B) cs fo (by rw[hl];exact hk);rw[List.length_append,hA,hM]at key
 have e1':ds=(ds.take off++(List.range m.toNat).flatMap λj=>qV (F j))++(qV (F m.toNat)++(R++B)):=by
  conv=>lhs;rw[e1]
  simp
 rw[<-e1']at key;rw[key,e3];simp
end
section
variable {P:Program} {ops:Array Oper} {σ:AS} {t:Nat} {ty:TypeId} {pos:String} {af:Array Edge}
theorem Mg{T n e sz:Nat}[hT:te P T n e sz]{x y:Operand}{id off:Nat}{k:IntKind}{m:Int}(h:oO n m)(hx:ev σ.env x=some (.ref id off))(hy:ev σ.env y=some (.int k m)) :
  dH P ops ⟨some t,.indexAddr T x y,ty,pos,af,none⟩ (tm x++tm y) [] σ ⟨[(t,.ref id (off+m.toNat*sz))],[],[]⟩:=by
 unfold oO at h;exact Ey m.toNat hx hy ah ah
end
/-! closures of plain functions -/
theorem iy.fn(f:FuncId):iy (.val (.func (.func f) #[] #[])) (.CG f []):=λF γ v h=>by
 subst h;exact⟨_,rfl,dF⟩
inductive Tg where
 |int (k:IntKind)
 |bool
 |str
def Tg.has:Tg->DV->Bool
 |.int k,.int k' _=>decide (k=k')
 |.bool,.bool _=>true
 |.str,.str _=>true
 |_,_=>false
def eqD:DV->DV->Bool
 |.int _ a,.int _ b=>a==b
 |.bool a,.bool b=>a==b
 |.str a,.str b=>a.toList==b.toList
 |_,_=>false
def wI:List DV->List DV->Bool
 |[],_=>true
 |_,[]=>true
 |d::ds,e::es=>eqD d e&&wI ds es
def qN:List Tg->List DV->Bool
 |[],[]=>true
 |g::gs,d::ds=>g.has d&&qN gs ds
 |_,_=>false
def Tg.Ww(P:Program)(t:TypeId):Tg->Bool
 |.int _=>match P.underlying t with
  |some (.int _)=>true
  |_=>false
 |.bool=>match P.underlying t with
  |some .bool=>true
  |_=>false
 |.str=>match P.underlying t with
  |some .string=>true
  |_=>false
theorem XA{P:Program}{t:TypeId}{g:Tg}(hg:g.Ww P t=true){d e:DV}(hd:g.has d=true)(he:g.has e=true){F:dj}{γ:eD}{u v:Value}(hu:Rs F γ d u)(hv:Rs F γ e v)(n:Nat)(w:World) :
  (Op.equalIn (n+1) t u v).run P w = .ok (eqD d e) w:=by
 cases g with
 |int k=>
  cases d <;> simp only[Tg.has,Bool.false_eq_true,decide_eq_true_eq]at hd;cases e <;> simp only[Tg.has,Bool.false_eq_true,decide_eq_true_eq]at he;subst hd;subst he;subst hu;subst hv;simp only[Tg.Ww]at hg
  split at hg
  .rename_i k' h;exact run_equalIn_int w n t _ k' _ _ h
  grind
 |bool=>
  cases d <;> simp only[Tg.has,Bool.false_eq_true]at hd;cases e <;> simp only[Tg.has,Bool.false_eq_true]at he;subst hu;subst hv;simp only[Tg.Ww]at hg
  split at hg
  .rename_i h;exact run_equalIn_bool' w n t _ _ h
  grind
 |str=>
  cases d <;> simp only[Tg.has,Bool.false_eq_true]at hd;cases e <;> simp only[Tg.has,Bool.false_eq_true]at he;subst hu;subst hv;simp only[Tg.Ww]at hg
  split at hg
  .rename_i h;exact run_equalIn_string w n t _ _ h
  grind
theorem AD{P:Program}{t:TypeId}{g:Tg}(hg:g.Ww P t=true){cs:Array Value}{i:Nat}{v:Value}(h:cs[i]? = some v)(w:World):(part t cs i).run P w = .ok v w:=by
 have:∃d,P.underlying t=some d∧d.isRow=false:=by
  cases g <;> simp only[Tg.Ww]at hg <;> split at hg <;> first|simp_all|cases hg
 obtain⟨d,hd,hr⟩:=this
 have hA:(isAgg t).run P w = .ok false w:=by
  simp only[isAgg,Sem.run_bind,run_underlying hd];cases d <;> simp[TypeDesc.isRow]at hr |-
 simp only[part,Sem.run_bind,hA,h]
 rfl
def Ii(P:Program):List Field->Nat->List Tg->Bool
 |[],_,[]=>true
 |f::fs,i,g::gs=>f.name != "_" && Nat.beq f.offset i&&g.Ww P f.type&&Ii P fs (i+1) gs
 |_,_,_=>false
theorem MV{P:Program}{F:dj}{γ:eD}(n:Nat)(us vs:Array Value)(w:World):∀(fs:List Field) (i:Nat) (gs:List Tg) (ds es:List DV),Ii P fs i gs=true->qN gs ds=true->qN gs es=true ->
  fZ F γ ds (us.toList.drop i)->fZ F γ es (vs.toList.drop i)->(Op.eqFields (n+1) us vs fs).run P w = .ok (wI ds es) w
 |[],i,[],ds,es,_,h1,h2,_,_=>by
  cases ds <;> simp only[qN,Bool.false_eq_true]at h1
  rfl
 |[],i,g::gs,ds,es,h,_,_,_,_=>VA
 |f::fs,i,[],ds,es,h,_,_,_,_=>VA
 |f::fs,i,g::gs,ds,es,h,h1,h2,r1,r2=>by
  simp only[Ii,Bool.and_eq_true]at h;obtain⟨⟨⟨f1,f2⟩,f3⟩,f4⟩:=h;have f2:f.offset=i:=Nat.eq_of_beq_eq_true f2;cases ds with
  |nil=>simp[qN]at h1
  |cons d ds=>
   cases es with
   |nil=>simp[qN]at h2
   |cons e es=>
    simp only[qN,Bool.and_eq_true]at h1 h2;obtain⟨u,ru,e1,_,k1,r1⟩:=r1;obtain⟨v,rv,e2,_,k2,r2⟩:=r2
    have g1:us[i]? = some u:=by
     have:=congrArg (·[0]?) e1;simpa using this
    have g2:vs[i]? = some v:=by
     have:=congrArg (·[0]?) e2;simpa using this
    have d1:us.toList.drop (i+1)=ru:=VV;have d2:vs.toList.drop (i+1)=rv:=adY;have ih:=MV n us vs w fs (i+1) gs ds es f4 h1.2 h2.2 VG eJ;have hn:f.name ≠ "_" := eJ;simp only[Op.eqFields,Sem.run_bind,Sem.run_ite,f2,AD f3 g1,AD f3 g2,Result.andThen_ok,XA f3 h1.1 h2.1 k1 k2];rw[if_pos hn];cases hq:eqD d e
    .simp[wI,hq]
    .simp[wI,hq,ih]
class wg(P:Program)(t:TypeId)(gs:outParam (List Tg)):Prop where
 guard:P.eqGuardType P.depth t=false
 eq:∀(n:Nat) (F:dj) (γ:eD) (us vs:Array Value) (ds es:List DV) (w:World),qN gs ds=true->qN gs es=true->fZ F γ ds us.toList->fZ F γ es vs.toList->(Op.equalIn (n+3) t (.agg us) (.agg vs)).run P w = .ok (wI ds es) w
theorem wg.struct{P:Program}{t:TypeId}{gs:List Tg}(h1:P.eqGuardType P.depth t=false)(h2:(P.underlying t).map (λd=>match d with | .struct fs=>Ii P fs.toList 0 gs|_=>false)=some true)(h3:P.stoodInHeld t=false):wg P t gs where
 guard:=h1
 eq:=λn F γ us vs ds es w a1 a2 r1 r2=>by
  cases hu:P.underlying t with
  |none=>rw[hu]at h2;cases h2
  |some d=>
   cases d <;> rw[hu]at h2 <;> simp only[Option.map_some,Option.some.injEq,Bool.false_eq_true]at h2
   rename_i fs
   have hf:P.fieldsOf t=fs:=by simp[Program.fieldsOf,hu]
   rw[run_equalIn_struct w (n+2) t us vs (by rw[hf];exact hu) h3,hf];exact MV (n+1) us vs w fs.toList 0 gs ds es h2 a1 a2 PA Vy
theorem Kl{P:Program}{F:dj}{γ:eD}{e:TypeId}{g:Tg}(hg:g.Ww P e=true)(n:Nat)(us vs:Array Value)(w:World):∀(m i:Nat) (ds es:List DV),qN (List.replicate m g) ds=true->qN (List.replicate m g) es=true ->
  fZ F γ ds (us.toList.drop i)->fZ F γ es (vs.toList.drop i)->(Op.eqItems (n+1) e 1 us vs (List.range' i m)).run P w = .ok (wI ds es) w
 |0,i,ds,es,h1,h2,_,_=>by
  cases ds <;> simp only[List.replicate,qN,Bool.false_eq_true]at h1
  rfl
 |m+1,i,ds,es,h1,h2,r1,r2=>by
  cases ds with
  |nil=>simp[qN]at h1
  |cons d ds=>
   cases es with
   |nil=>simp[qN]at h2
   |cons e' es=>
    simp only[List.replicate,qN,Bool.and_eq_true]at h1 h2;obtain⟨u,ru,e1,_,k1,r1⟩:=r1;obtain⟨v,rv,e2,_,k2,r2⟩:=r2
    have g1:us[i]? = some u:=by
     have:=congrArg (·[0]?) e1;simpa using this
    have g2:vs[i]? = some v:=by
     have:=congrArg (·[0]?) e2;simpa using this
    have d1:us.toList.drop (i+1)=ru:=VV;have d2:vs.toList.drop (i+1)=rv:=adY;have ih:=Kl hg n us vs w m (i+1) ds es h1.2 h2.2 VG eJ;rw[List.range'_succ];simp only[Op.eqItems,Sem.run_bind,Nat.mul_one,AD hg g1,AD hg g2,Result.andThen_ok,XA hg h1.1 h2.1 k1 k2];cases hq:eqD d e'
    .simp[wI,hq]
    .simp[wI,hq,ih]
theorem wg.array{P:Program}{t e:TypeId}{m:Nat}{g:Tg}(h1:P.eqGuardType P.depth t=false)(h2:P.underlying t=some (.array m e))(h3:g.Ww P e=true)(h4:(P.info? e).map (·.size)=some 1)(h5:P.cellsOf e=1):wg P t (List.replicate m g) where
 guard:=h1
 eq:=λn F γ us vs ds es w a1 a2 r1 r2=>by
  cases hi:P.info? e with
  |none=>rw[hi]at h4;cases h4
  |some i=>
   rw[run_equalIn_array w (n+2) us vs h2 hi,h5,List.range_eq_range'];exact Kl h3 (n+1) us vs w m 0 ds es a1 a2 PA Vy
theorem Kb{g:Tg}:∀{m:Nat} {ds:List DV},qN (List.replicate m g) ds=true->ds.length=m
 |0,ds,h=>by cases ds <;> first|rfl|(simp[qN]at h)
 |m+1,[],h=>by simp[qN]at h
 |m+1,d::ds,h=>by
  simp only[List.replicate,qN,Bool.and_eq_true]at h;simp[Kb h.2]
def anl(a:TypeId):List Field->Bool
 |[f]=>f.name != "_" && Nat.beq f.offset 0&&Nat.beq f.type a
 |_=>false
theorem wg.agP{P:Program}{t a e:TypeId}{m:Nat}{g:Tg}(h1:P.eqGuardType P.depth t=false)(h2:(P.underlying t).map (λd=>match d with | .struct fs=>anl a fs.toList|_=>false)=some true)(h3:P.stoodInHeld t=false)
  (k2:P.underlying a=some (.array m e)) (k3:g.Ww P e=true) (k4:(P.info? e).map (·.size)=some 1) (k5:P.cellsOf e=1) (k6:(P.info? a).map (·.size)=some m):wg P t (List.replicate m g) where
 guard:=h1
 eq:=λn F γ us vs ds es w a1 a2 r1 r2=>by
  cases hu:P.underlying t with
  |none=>rw[hu]at h2;cases h2
  |some d=>
   cases d <;> rw[hu]at h2 <;> simp only[Option.map_some,Option.some.injEq,Bool.false_eq_true]at h2
   rename_i fs
   have hf:P.fieldsOf t=fs:=by simp[Program.fieldsOf,hu]
   rw[run_equalIn_struct w (n+2) t us vs (by rw[hf];exact hu) h3,hf];cases hfs:fs.toList with
   |nil=>rw[hfs]at h2;cases h2
   |cons f r=>
    cases r with
    |cons _ _=>rw[hfs]at h2;cases h2
    |nil=>
     rw[hfs]at h2;simp only[anl,Bool.and_eq_true]at h2;obtain⟨⟨f1,f2⟩,f3⟩:=h2;have f2:f.offset=0:=Nat.eq_of_beq_eq_true f2;have f3:f.type=a:=Nat.eq_of_beq_eq_true f3;have hn:f.name ≠ "_" := by simpa using f1
     have hA:(isAgg a).run P w = .ok true w:=by simp[isAgg,run_underlying k2]
     cases hi:P.info? a with
     |none=>rw[hi]at k6;cases k6
     |some i=>
      rw[hi]at k6;simp only[Option.map_some,Option.some.injEq]at k6
      have hp:∀(cs:Array Value),cs.size=m->(part a cs 0).run P w = .ok (.agg cs) w:=λcs hc=>by
       have hz:(Go.sizeOf a).run P w = .ok m w:=by simp[Go.sizeOf,typeInfo,hi,k6]
       simp only[part,Sem.run_bind,hA,Result.andThen_ok,if_true,hz,Nat.zero_add,<-hc];simp
      have su:us.size=m:=by have:=r1.len;rw[Kb a1]at this;simpa using this
      have sv:vs.size=m:=by have:=r2.len;rw[Kb a2]at this;simpa using this
      cases hj:P.info? e with
      |none=>rw[hj]at k4;cases k4
      |some j=>
       have hq:(Op.equalIn (n+2) a (.agg us) (.agg vs)).run P w = .ok (wI ds es) w:=by
        rw[run_equalIn_array w (n+1) us vs k2 hj,k5,List.range_eq_range'];exact Kl k3 n us vs w m 0 ds es a1 a2 PA Vy
       simp only[Op.eqFields,Sem.run_bind,Sem.run_ite,f2,f3,hp us su,hp vs sv,Result.andThen_ok,hq];rw[if_pos hn];cases wI ds es <;> simp
section
variable {P:Program} {ops:Array Oper} {σ:AS} {t:Nat} {ty:TypeId} {pos:String} {af:Array Edge}
theorem anC{T T':TypeId}{gs:List Tg}[hT:wg P T gs]{x y:Operand}{ds es:List DV}{b:Bool}(hx:ev σ.env x=some (.agg ds))(hy:ev σ.env y=some (.agg es))(h1:qN gs ds=true)(h2:qN gs es=true)(hb:wI ds es=b) :
  dH P ops ⟨some t,.binOp .eql T x y T',ty,pos,af,none⟩ (tm x++tm y) [] σ ⟨[(t,.bool b)],[],[]⟩ :=
 hb ▸ dH.val rfl rfl λC F γ σ' a w tD _ hs=>by
  obtain⟨k1,k2⟩:=AQ hs tD hx hy;obtain⟨us,e1,r1⟩:=k1;obtain⟨vs,e2,r2⟩:=k2;refine⟨.bool (wI ds es),?_,dF⟩;have:=hT.eq 9997 F γ us vs ds es w h1 h2 r1 r2;simp only[execOp,e1,e2,Sem.run_bind,run_eqGuard_agg w _ T x y us vs hT.guard,run_eql_struct];simp[this]
end
section
variable {P:Program} {ops:Array Oper} {σ:AS} {t:Nat} {ty:TypeId} {pos:String} {af:Array Edge}
theorem ahc{T e:TypeId}{KJ yd:Nat}{zd:DV}[hT:lK P T e KJ yd zd]{x:Operand}(hx:ev σ.env x=some .cu):dH P ops ⟨some t,.call ⟨.builtin .cap,#[x],#[T]⟩,ty,pos,af,none⟩ (tm x) [] σ ⟨[(t,.int .i64 0)],[],[]⟩ :=
 dH.val rfl rfl λC F γ σ' a w h1 _ hs=>by
  have k1:=hs.ev ((cP h1 (λ_ h=>h)).trans hx);simp only[Rs]at k1;exact⟨.int .i64 0,by simp[execOp,resolve,invoke,builtin,Builtin.cap_,run_underlying hT.GP,k1,goInt],dF⟩
theorem US{T e:TypeId}{sz yd:Nat}{zd:DV}[hT:lK P T e sz yd zd]{x y:Operand}{k:IntKind}(hx:ev σ.env x=some .cu)(hy:ev σ.env y=some (.int k 0)) :
  dH P ops ⟨some t,.slice T x none (some y) none,ty,pos,af,none⟩ (tm x++tm y) [] σ ⟨[(t,.cu)],[],[]⟩ :=
 dH.val rfl rfl λC F γ σ' a w tD _ hs=>by
  obtain⟨k1,k2⟩:=AQ hs tD hx hy;simp only[Rs]at k1;have hb:=Bt (P:=P) hs (lo:=none) (hi:=some y) (l:=0) (h:=0) (len:=0) (cap:=0) Bd.no (Bd.at ((cP tD (λ_ h=>ql)).trans hy) rfl) (Nat.le_refl 0) (Nat.le_refl 0);simp only[Option.map_none,Option.map_some]at hb;refine⟨.slice none 0 0,?_,dF⟩;simp[execOp,Instr.sliceAt,Instr.slice,run_underlying hT.GP,k1,hb,hT.size]
theorem RE{T T2 e:TypeId}{sz bytes:Nat}{zd:DV}[hT:lK P T e sz bytes zd]{k2:IntKind}[hI:BT P T2 k2]{x y:Operand}{k:IntKind}{n:Int}(m:Nat)(hx:ev σ.env x=some .cu)(hy:ev σ.env y=some (.int k n))(hn:n=(m:Int))(hm:0<m)(hb:m*bytes<=140737488355328∧m<=140737488355328)(hz:(zd.cs.all DV.one)=true) :
  dH P ops ⟨some t,.call ⟨.builtin .append,#[x,y],#[T,T2]⟩,ty,pos,af,none⟩ (tm x++tm y) [] σ ⟨[(t,.row t)],[(t,some (.row e sz (List.replicate m zd)))],[t]⟩ :=
 dH.gen rfl rfl λC F γ σ' a w tD h2 h3 hs=>by
  obtain⟨k1,k2⟩:=AQ hs tD hx hy;simp only[Rs]at k1 k2;have hnu:t ∉ σ'.used:=h3 t aR;obtain⟨z,wM,Wj⟩:=hT.h;obtain⟨i,hi,Yv,DJ,HF⟩:=wM.info;have ho:=Aq (T:=T) Wj hz;subst hn;have alC:=grownCap_ge w (0+m) 0 e;have Tk:=grownCap_le_maxLen w (0+m) 0 e Ks;have hnx:Builtin.nextslicecap (0+m) 0=m:=by simp[Builtin.nextslicecap];omega
  have kp:=Lib.run_append_grow_zeros (P:=P) w T T2 ty e i z k _ wM.under hI.h hi Yv none 0 0 [] dF m hm (by rw[DJ];exact wM.pos) ah ah (by rw[HF];omega) (by rw[hnx,HF];omega);generalize grownCap w (0+m) 0 e=cap at kp alC Tk;refine⟨.slice (some ⟨w.heap.size,0,none⟩) (0+m) cap,_,F,γ.up t (.slice (some ⟨w.heap.size,0,none⟩) (0+m) cap),by simp[execOp,resolve,invoke,builtin,k1,k2,kp];rfl,lJ.refl _,pF _ (hs.ws.fresh hnu),?_,?_⟩
  .refine(hs.ws.quiet (uF.drew w)).Ah hnu _ (λb hb=>adE) ?_
   have GA:z.cells.size=sz:=wM.Eo;have hz0:0<z.cells.size:=VN;have e1:∀q,(Builtin.zeroCells z.cells q).toList=(List.replicate q z.cells.toList).flatten:=λq=>pU z.cells hz0 q
   refine⟨(List.replicate m z.cells.toList).flatten,⟨by simp[GA],.inr ⟨w.heap.size,cap,_,aR,Nat.zero_le _,heap_alloc_new w.drew _,nV,Tk,?_,?_⟩⟩,rm.replicate GA ho (Ar Wj ho F) m⟩
   .simp only[Array.size_append,size_zeroCells,GA]
    have:m+(cap-m)=cap:=ah;rw[<-Nat.add_mul,this]
   simp_all
  .exact uu _ _ _
theorem Zk{T e:TypeId}{sz yd:Nat}{zd:DV}[hT:lK P T e sz yd zd]{x y:Operand}{id:Nat}{k:IntKind}{eC:List DV}{n:Int}(h:Nat)(hx:ev σ.env x=some (.row id))(hh:cF σ.heap id=some (.row e sz eC))(hy:ev σ.env y=some (.int k n))(hn:n=(h:Int))(hle:h<=eC.length) :
  dH P ops ⟨some t,.slice T x none (some y) none,ty,pos,af,none⟩ (tm x++tm y) [id] σ ⟨[(t,.row t)],[(t,some (.row e sz (eC.take h))),(id,none)],[t]⟩ :=
 dH.gen rfl rfl λC F γ σ' a w tD h2 h3 hs=>by
  obtain⟨k1,k2⟩:=AQ hs tD hx hy;have hnu:t ∉ σ'.used:=h3 t aR;have tg:=(h2 id aR).trans hh;obtain⟨A0,c0,KZ,e0,La,PV,hE0⟩:=zZ hs k1 tg
  have hc:eC.length<=c0:=by
   rcases PV.2 with⟨q,q2⟩|⟨b,cap,cur,q,_,_,q2,_⟩
   all_goals simp_all
  have hb:=Bt (P:=P) hs (lo:=none) (hi:=some y) (l:=0) (h:=h) (len:=eC.length) (cap:=c0) Bd.no (Bd.at ((cP tD (λ_ h=>ql)).trans hy) hn) (Nat.zero_le _) ah;simp only[Option.map_none,Option.map_some]at hb
  have hA:A0=none∨∃b,A0=some ⟨b,0,none⟩:=by
   rcases PV.2 with⟨q,_⟩|⟨b,cap,cur,q,_⟩
   .simp_all
   .rw[e0]at q;injection q with q _ _;exact .inr ⟨b,q⟩
  have hA2:(if c0=0 then A0 else A0.map (·.add (0*sz)))=A0:=by
   rcases hA with rfl|⟨b,rfl⟩
   .simp
   .simp[Addr.add]
  have DK:w.ownsRow 0 e sz (.slice A0 h c0) (eC.take h).length (KZ.take (h*sz)):=by
   have hl:(eC.take h).length=h:=iC;rw[hl];refine⟨?_,?_⟩
   .have:=PV.1
    simp_all
   .rcases PV.2 with⟨q,q2⟩|⟨b,cap,cur,q,q1,q2,q3,q4,q5,q6⟩
    .simp_all
    .rw[e0]at q;injection q with q _ q7
     refine .inr ⟨b,cap,cur,by rw[q,q7],q1,q2,ah,q4,q5,?_⟩;rw[<-q6,List.take_take,Nat.min_eq_left (Nat.mul_le_mul_right _ hle)]
  refine⟨.slice A0 h c0,w,F,γ.up t (.slice A0 h c0),?_,lJ.refl _,pF _ (hs.ws.fresh hnu),?_,?_⟩
  .have:a.eval x = .slice A0 eC.length c0:=e0
   simp[execOp,Instr.sliceAt,Instr.slice,run_underlying hT.GP,this,hb,hT.size]
   simp_all
  .refine(hs.ws.forget id).add hnu ⟨_,DK,hE0.take h⟩ (λb je=>?_)
   have hpb:fA (a.eval x)=some b:=by
    rw[e0];rcases hA with rfl|⟨b',rfl⟩
    .simp[fA]at je
    .simpa [fA]using je
   have q:=hs.ws.own id _ _ b tg La hpb;refine⟨q.1,q.2,λuS e' g' EJ oV BX=>?_⟩;rw[cH]at EJ
   split at EJ
   .cases EJ
   .rename_i nq;exact nq (hs.ws.apart id uS _ e' _ g' b tg EJ La oV hpb BX)
  .simp only[Rs];exact uu _ _ _
theorem YQ{T e:TypeId}{sz yd:Nat}{zd:DV}[hT:lK P T e sz yd zd]{x y:Operand}{id:Nat}{k:IntKind}{α:Type}{f:α->DV}{xs:List α}{n:Int}(h:fC xs.length 0 n)(hx:ev σ.env x=some (.row id))(hh:cF σ.heap id=some (.row e sz (xs.map f)))(hy:ev σ.env y=some (.int k n)) :
  dH P ops ⟨some t,.slice T x none (some y) none,ty,pos,af,none⟩ (tm x++tm y) [id] σ ⟨[(t,.row t)],[(t,some (.row e sz ((xs.take n.toNat).map f))),(id,none)],[t]⟩:=by
 obtain⟨h1,h2,h3⟩:=h;refine(Zk n.toNat hx hh hy ah nV).cast aR
theorem JQ{T n e KJ:Nat}[hT:te P T n e KJ]{x y:Operand}{ds vN:List DV}{k:IntKind}{m:Int}(i:Nat)(hx:ev σ.env x=some (.iv ds))(hy:ev σ.env y=some (.int k m))(hm:m=(i:Int))(hi:i<n)(hd:ds.drop (i*KJ)=vN) :
  dH P ops ⟨some t,.indexAddr T x y,ty,pos,af,none⟩ (tm x++tm y) [] σ ⟨[(t,.iv vN)],[],[]⟩ :=
 dH.val rfl rfl λC F γ σ' a w tD _ hs=>by
  obtain⟨k1,k2⟩:=AQ hs tD hx hy;simp only[Rs]at k1 k2;obtain⟨b,o,cs,vs,rest,e,hF,BW,hl⟩:=k1;subst hm;refine⟨.pointer (some ⟨b,o+i*KJ,none⟩),?_,?_⟩
  .by_cases h0:i*KJ=0
   .simp[execOp,Instr.indexAt,e,k2,asIntOf,run_underlying hT.u,Instr.sureAddr,hi,hT.size,Addr.add,h0]
   .simp[execOp,Instr.indexAt,e,k2,asIntOf,run_underlying hT.u,Instr.sureAddr,hi,hT.size,Addr.add,h0]
  .by_cases hlen:i*KJ<=vs.length
   .refine⟨b,o+i*KJ,cs,vs.drop (i*KJ),rest,rfl,hF,?_,?_⟩
    .rw[<-List.drop_drop,BW,List.drop_append_of_le_length hlen]
    .rw[<-hd];exact hl.drop _
   .refine⟨b,o+i*KJ,cs,[],cs.toList.drop (o+i*KJ),rfl,hF,aR,?_⟩
    have:vN = []:=by
     rw[<-hd];apply List.drop_eq_nil_of_le;have:=hl.len;omega
    rw[this];rfl
theorem OP{f:FuncId}[hf:dg P f]{x:Operand}{xs:Array Operand}{ats:Array TypeId}{ds args:List DV}{r:DV}(hc:br P f args r)(hx:ev σ.env x=some (.val (.func (.func f) #[] #[])))(ha:KW σ.env xs.toList=some ds)(hle:lH ds args)(hp:vv args = []) :
  dH P ops ⟨some t,.call ⟨.value x,xs,ats⟩,ty,pos,af,none⟩ (tm x++xs.toList.flatMap tm) [] σ ⟨[(t,r)],[],[]⟩:=by
 intro C F γ σ' a w h1 h2 h3 h4 hs K Q hK;have kx:=hs.ev ((cP h1 (λ_ h=>List.mem_append_left _ h)).trans hx);simp only[Rs]at kx
 have kp:(execOp a.eval ⟨some t,.call ⟨.value x,xs,ats⟩,ty,pos,af,none⟩).run P w = .ok (.enter f (xs.map a.eval)) w:=by
  simp[execOp,resolve,kx,Deferred.ofValue,invoke,xS]
 refine wO (λc hc=>by cases hc) kp ?_;have hv:=hle.rsT (hs.evs ((yi h1 (λ_ h=>List.mem_append_right _ h)).trans ha));have QI:tQ F eD.no args (xs.toList.map a.eval):=Ec args _ nV hv;have e:(xs.toList.map a.eval).toArray=xs.map a.eval:=XV;have:=hc C F γ σ'.heap σ'.used w _ hs.ws QI;rw[e]at this;refine this.mono ?_;rintro e w' ⟨v,F',rfl,k1,k2,k3⟩;exact⟨v,rfl,hK F' γ _ _ k1 ((hs.mono k1 (nW.refl _) k2).put (h4 t rfl) (k3.mono (lJ.refl _) (nW.no _)))⟩
theorem lH.replicate{d d':DV}(h:iy d d'):∀n,lH (List.replicate n d) (List.replicate n d')
 |0=>.nil
 |n+1=>.cons h (lH.replicate h n)
theorem Og{T T2 e:TypeId}{sz bytes:Nat}{zd:DV}[hT:lK P T e sz bytes zd]{k2:IntKind}[hI:BT P T2 k2]{x y:Operand}{k:IntKind}{n:Int}{α:Type}(f:α->DV)(z:α)(h:0<n∧dK bytes n.toNat)(hx:ev σ.env x=some .cu)(hy:ev σ.env y=some (.int k n))(hz:(zd.cs.all DV.one)=true)(hf:iy zd (f z)) :
  dH P ops ⟨some t,.call ⟨.builtin .append,#[x,y],#[T,T2]⟩,ty,pos,af,none⟩ (tm x++tm y) [] σ ⟨[(t,.row t)],[(t,some (.row e sz ((List.replicate n.toNat z).map f)))],[t]⟩:=by
 obtain⟨h1,h2,h3⟩:=h;rw[List.map_replicate];exact(RE n.toNat hx hy ah ah ⟨h2,h3⟩ hz).abC (lH.replicate hf _)
theorem agJ{T e:TypeId}{sz bytes:Nat}{zd:DV}[hT:lK P T e sz bytes zd]{x y:Operand}{k k':IntKind}{l c:Int}{α:Type}(f:α->DV)(z:α)(h:kY bytes l c)(hx:ev σ.env x=some (.int k l))(hy:ev σ.env y=some (.int k' c))(hz:(zd.cs.all DV.one)=true)(hf:iy zd (f z)) :
  dH P ops ⟨some t,.makeSlice T x y,ty,pos,af,none⟩ (tm x++tm y) [] σ ⟨[(t,.row t)],[(t,some (.row e sz ((List.replicate l.toNat z).map f)))],[t]⟩:=by
 have h':=h;unfold kY at h';rw[List.map_replicate];refine(aku l.toNat c.toNat hx hy ah ah ah ⟨?_,ah⟩ hz).abC (lH.replicate hf _);have:((bytes*c.toNat:Nat):Int)=bytes*c:=by rw[Int.natCast_mul,<-CY ah]
 omega
end
section
variable {P:Program} {n:Nat} {Q:Exit->AS->Prop} {σ:AS}
theorem Yl{rs:Array ResultVar}{res d:DV}{post:eW}(h:vU P σ rs d)(hle:iy d res)(hp:∀i e,cF post i=some e->cF σ.heap i=some e):tZ P rs res post .normal σ:=⟨d,h,hle,hp⟩
theorem ak2{c:Code}{α:Type}(S:α->AS)(I:α->Prop)(h:gL P n c (afe S I Q) σ)(k:∀x,I x->Q .normal (S x)):gL P n c Q σ:=λC F γ a w hn hs=>
 wpIn_mono (h C F γ a w hn hs) λe a' w' ⟨F',γ',σ',h1,h2⟩=>by
  cases e with
  |normal=>
   obtain⟨x',i1,i2⟩:=h2;obtain⟨F2,γ2,s2⟩:=i2 C F' γ' a' w' h1
   grind
  |exit id=>exact⟨F',γ',σ',h1,h2⟩
  |goto l=>exact⟨F',γ',σ',h1,h2⟩
  |ret=>exact⟨F',γ',σ',h1,h2⟩
  |panic c=>exact⟨F',γ',σ',h1,h2⟩
  |outgrown=>exact⟨F',γ',σ',h1,h2⟩
def PR(Q:Exit->AS->Prop)(σ:AS):Prop:=∃σ',jP σ σ'∧Q .normal σ'
def NQ(Q:Exit->AS->Prop):Exit->AS->Prop
 |.normal,σ=>PR Q σ
 |e,σ=>Q e σ
theorem ajb{σ':AS}(h:jP σ σ')(k:PR Q σ'):PR Q σ:=by obtain⟨τ,h1,h2⟩:=k;exact⟨τ,h.trans h1,h2⟩
theorem acB(h:Q .normal σ):PR Q σ:=⟨σ,jP.refl _,h⟩
theorem ae1{c:Code}(h:gL P n c (NQ Q) σ):gL P n c Q σ:=λC F γ a w hn hs=>
 wpIn_mono (h C F γ a w hn hs) λe a' w' ⟨F',γ',σ',h1,h2⟩=>by
  cases e with
  |normal=>
   obtain⟨τ,i1,i2⟩:=h2;obtain⟨F2,γ2,s2⟩:=i1 C F' γ' a' w' h1
   grind
  |exit id=>exact⟨F',γ',σ',h1,h2⟩
  |goto l=>exact⟨F',γ',σ',h1,h2⟩
  |ret=>exact⟨F',γ',σ',h1,h2⟩
  |panic c=>exact⟨F',γ',σ',h1,h2⟩
  |outgrown=>exact⟨F',γ',σ',h1,h2⟩
theorem Gv{id t t0:Nat}{x:Operand}{T T' Yz ty:TypeId}{HH pos:String}{af0 af:Array Edge}{e:TypeId}{sz yd:Nat}{zd:DV}[hT:lK P T e sz yd zd]{sz':Nat}{eC:List DV}(hx:ev σ.env x=some (.sl sz' eC))(ht0:t0<n)(ht:t<n)
  (hq:∀b:Bool,(b=true->eC = [])->Q .normal ⟨(t,.bool b)::(t0,.sl sz' eC)::σ.env,σ.heap,σ.used⟩) :
  gL P n (.region id #[⟨some t0,.move x,Yz,HH,af0,none⟩,⟨some t,.binOp .eql T (.tmp t0) (.const (.slice none 0 0)) T',ty,pos,af,none⟩] false) Q σ:=by
 intro C F γ a w hn hs;have kx:=hs.ev hx;have LP:Sat C F γ ⟨(t0,.sl sz' eC)::σ.env,σ.heap,σ.used⟩ (a.put (some t0) (a.eval x)) w:=hs.put ah kx;have my:t0<a.tmps.size:=VO;have hmv:(execOp a.eval ⟨some t0,.move x,Yz,HH,af0,none⟩).run P w = .ok (.value (a.eval x)) w:=dF;generalize a.eval x=v at kx LP hmv;obtain⟨A,c,rfl,Ao,_⟩:=kx;refine wpIn_region ?_;refine ju hmv ?_
 have e0:(a.put (some t0) (.slice A eC.length c)).eval (.tmp t0) = .slice A eC.length c:=by
  simp[Act.eval,Act.put,my]
 have e1:binOp .eql T (.slice A eC.length c) (.slice none 0 0)=(do pure (.bool (<-Op.equal T (.slice A eC.length c) (.slice none 0 0)))):=dF;have e2:eqGuard .eql T (.tmp t0) (.const (.slice none 0 0)) (.slice A eC.length c) (.slice none 0 0)=pure ():=rfl
 have e3:(Op.equal T (.slice A eC.length c) (.slice none 0 0)).run P w = .ok A.isNone w:=by
  have:∀m,(Op.equalIn (m+1) T (.slice A eC.length c) (.slice none 0 0)).run P w = .ok A.isNone w:=λm=>adJ
  exact this 9999
 have LS:(execOp (a.put (some t0) (.slice A eC.length c)).eval ⟨some t,.binOp .eql T (.tmp t0) (.const (.slice none 0 0)) T',ty,pos,af,none⟩).run P w = .ok (.value (.bool A.isNone)) w:=by
  have e4:(a.put (some t0) (.slice A eC.length c)).eval (.const (.slice none 0 0)) = .slice none 0 0:=rfl;simp only[execOp,e0,e4,e1,e2,Sem.run_bind,Sem.run_pure,Result.andThen_ok,e3]
 refine ju LS ?_
 .have:=LP.put (t:=t) ah (d:=.bool A.isNone) (v:=.bool A.isNone) dF
  refine⟨F,γ,_,this,hq A.isNone (λhA=>?_)⟩
  simp_all
end
def Tg.num:Tg->Bool
 |.int _=>true
 |.bool=>true
 |_=>false
theorem acs{g:Tg}(hn:g.num=true){d e:DV}(hd:g.has d=true)(he:g.has e=true)(hq:eqD d e=true){F F':dj}{γ γ':eD}{u v:Value}(hu:Rs F γ d u)(hv:Rs F' γ' e v)(n:Nat) :
  Instr.sameBits n u v=true∧u=v:=by
 cases g with
 |int k=>
  cases d <;> simp only[Tg.has,Bool.false_eq_true,decide_eq_true_eq]at hd;cases e <;> simp only[Tg.has,Bool.false_eq_true,decide_eq_true_eq]at he;subst hd;subst he;subst hu;subst hv;simp only[eqD,beq_iff_eq]at hq;subst hq;cases n <;> simp[Instr.sameBits]
 |bool=>
  cases d <;> simp only[Tg.has,Bool.false_eq_true]at hd;cases e <;> simp only[Tg.has,Bool.false_eq_true]at he;subst hu;subst hv;simp only[eqD,beq_iff_eq]at hq;subst hq;cases n <;> simp[Instr.sameBits]
 |str=>cases hn
theorem Hg{F F':dj}{γ γ':eD}(n:Nat):∀(gs:List Tg) (ds es:List DV) (us vs:List Value),gs.all Tg.num=true->qN gs ds=true->qN gs es=true->wI ds es=true->fZ F γ ds us->fZ F' γ' es vs ->
  us=vs∧(us.zip us).all (λp=>Instr.sameBits n p.1 p.2)=true
 |[],ds,es,us,vs,_,h1,h2,_,r1,r2=>by
  cases ds <;> simp only[qN,Bool.false_eq_true]at h1;cases es <;> simp only[qN,Bool.false_eq_true]at h2;simp only[fZ]at r1 r2;subst r1;subst r2;exact⟨rfl,rfl⟩
 |g::gs,ds,es,us,vs,hn,h1,h2,hq,r1,r2=>by
  cases ds with
  |nil=>simp[qN]at h1
  |cons d ds=>
   cases es with
   |nil=>simp[qN]at h2
   |cons e es=>
    simp only[qN,Bool.and_eq_true]at h1 h2;simp only[wI,Bool.and_eq_true]at hq;simp only[List.all_cons,Bool.and_eq_true]at hn;simp only[fZ]at r1 r2;obtain⟨u,ru,rfl,_,k1,r1⟩:=r1;obtain⟨v,rv,rfl,_,k2,r2⟩:=r2;obtain⟨a1,a2⟩:=acs hn.1 h1.1 h2.1 hq.1 k1 k2 n;obtain⟨b1,b2⟩:=Hg n gs ds es ru rv hn.2 h1.2 h2.2 hq.2 r1 r2
    simp_all
theorem RF:∀(gs:List Tg) (ds:List DV),gs.all Tg.num=true->qN gs ds=true->wI ds ds=true
 |[],ds,_,h1=>by cases ds <;> first|rfl|(simp[qN]at h1)
 |g::gs,[],_,h1=>dF
 |g::gs,d::ds,hn,h1=>by
  simp only[qN,Bool.and_eq_true]at h1;simp only[List.all_cons,Bool.and_eq_true]at hn;have ih:=RF gs ds hn.2 h1.2;simp only[wI,ih];cases g <;> cases d <;> simp_all [Tg.has,eqD]
theorem Vt{P:Program}{t:TypeId}{g:Tg}(hg:g.Ww P t=true){d:DV}(hd:g.has d=true){F:dj}{γ:eD}{u:Value}(hu:Rs F γ d u)(em:Bool)(n:Nat)(w:World) :
  (Instr.checkKey em (n+1) t u).run P w = .ok () w:=by
 cases g with
 |int k=>
  cases d <;> simp only[Tg.has,Bool.false_eq_true]at hd;simp only[Tg.Ww]at hg
  split at hg
  .rename_i k' h;simp[Instr.checkKey,run_underlying h]
  grind
 |bool=>
  simp only[Tg.Ww]at hg
  split at hg
  .rename_i h;simp[Instr.checkKey,run_underlying h]
  grind
 |str=>
  simp only[Tg.Ww]at hg
  split at hg
  .rename_i h;simp[Instr.checkKey,run_underlying h]
  grind
theorem Gn{P:Program}{F:dj}{γ:eD}(em:Bool)(n:Nat)(us:Array Value)(w:World):∀(fs:List Field) (i:Nat) (gs:List Tg) (ds:List DV),Ii P fs i gs=true->qN gs ds=true ->
  fZ F γ ds (us.toList.drop i)->(forIn (m:=Sem) fs PUnit.unit λf _=>
    if f.name ≠ "_" then do
     let v <-part f.type us f.offset
     Instr.checkKey em (n+1) f.type v
     pure (ForInStep.yield PUnit.unit)
    else pure (ForInStep.yield PUnit.unit)).run P w = .ok PUnit.unit w
 |[],i,gs,ds,h,h1,r1=>aR
 |f::fs,i,[],ds,h,_,_=>VA
 |f::fs,i,g::gs,ds,h,h1,r1=>by
  simp only[Ii,Bool.and_eq_true]at h;obtain⟨⟨⟨f1,f2⟩,f3⟩,f4⟩:=h;have f2:f.offset=i:=Nat.eq_of_beq_eq_true f2;cases ds with
  |nil=>simp[qN]at h1
  |cons d ds=>
   simp only[qN,Bool.and_eq_true]at h1;obtain⟨u,ru,e1,_,k1,r1⟩:=r1
   have g1:us[i]? = some u:=by
    have:=congrArg (·[0]?) e1;simpa using this
   have d1:us.toList.drop (i+1)=ru:=VV;have ih:=Gn em n us w fs (i+1) gs ds f4 h1.2 VG;have hn:f.name ≠ "_" := eJ;simp only[List.forIn_cons,Sem.run_bind,hn,ne_eq,not_false_eq_true,if_true,Result.andThen_ok,f2,AD f3 g1,Vt f3 h1.1 k1];exact ih
class LO(P:Program)(t:TypeId)(k e:outParam TypeId)(gs:outParam (List Tg))(zd:outParam DV):Prop where
 GP:P.underlying t=some (.map k e)
 key:(P.underlying k).map (λd=>match d with | .struct fs=>Ii P fs.toList 0 gs|_=>false)=some true
 num:gs.all Tg.num=true
 eq:wg P k gs
 zero:((P.info? e).bind (·.zero)).map Bh=some zd
 one:(zd.cs.all DV.one)=true
section
variable {P:Program} {w:World}
theorem LO.check{t k e:TypeId}{gs:List Tg}{zd:DV}(M:LO P t k e gs zd){F:dj}{γ:eD}{ds:List DV}{us:Array Value}(h:qN gs ds=true)(r:fZ F γ ds us.toList)(em:Bool)(w:World) :
  (Instr.checkKey em 10000 k (.agg us)).run P w = .ok () w:=by
 have hk:=M.key;cases hu:P.underlying k with
 |none=>simp_all
 |some d=>
  cases d <;> rw[hu]at hk <;> simp only[Option.map_some,Option.some.injEq,Bool.false_eq_true]at hk
  rename_i fs
  unfold Instr.checkKey;simp only[Sem.run_bind,run_underlying hu];have:=Gn em 9998 us w fs.toList 0 gs ds hk h (by simpa using r)
  simp_all
def rV{K V:Type}(ck:K->List DV)(k:K):List (K×V)->Nat->Option (Nat×V)
 |[],_=>none
 |p::l,i=>if wI (ck k) (ck p.1)then some (i,p.2)else rV ck k l (i+1)
def IG{K V:Type}(ck:K->List DV)(xs:List (K×V))(k:K)(z:V):V:=match rV ck k xs 0 with
 |some (_,v)=>v
 |none=>z
def Fb{K V:Type}(ck:K->List DV)(xs:List (K×V))(k:K)(v:V):List (K×V):=match rV ck k xs 0 with
 |some (i,_)=>xs.set i (k,v)
 |none=>xs++[(k,v)]
def nU{K V:Type}(ck:K->List DV)(fv:V->DV)(xs:List (K×V)):List (DV×DV):=xs.map λp=>(.agg (ck p.1),fv p.2)
theorem LO.wide{t k e:TypeId}{gs:List Tg}{zd:DV}(M:LO P t k e gs zd):(match P.underlying k with|some (.array _ _) | some (.struct _)=>true|_=>false)=true:=by
 have hk:=M.key;cases hu:P.underlying k with
 |none=>simp_all
 |some d=>cases d <;> rw[hu]at hk <;> first|rfl|simp_all
theorem Kh{t k e:TypeId}{gs:List Tg}{zd:DV}(M:LO P t k e gs zd){K V:Type}{ck:K->List DV}{fv:V->DV}(Ub:∀a,qN gs (ck a)=true){F:dj}{γ:eD}{x:K}{us:Array Value}(hF:fZ F γ (ck x) us.toList)(w:World) :
  ∀(xs:List (K×V)) (es:List MapEntry) (i:Nat),GM F (nU ck fv xs) es->∃r,(Instr.findAsking k (.agg us) es i).run P w = .ok r w ∧
   ((rV ck x xs i=none∧r=none)∨∃j v val en,rV ck x xs i=some (i+j,v)∧r=some (i+j,val)∧xs[j]?.map (·.2)=some v∧es[j]? = some en∧en.val=val∧en.key = .agg us∧Rs F eD.no (fv v) val)
 |[],es,i,h=>by
  subst h;exact⟨none,dF,.inl ⟨rfl,rfl⟩⟩
 |p::xs,es,i,h=>by
  obtain⟨en,r,rfl,h1,h2,h3⟩:=h;obtain⟨vs,e1,r1⟩:=h1;have hq:=M.eq.eq 9997 F γ us vs (ck x) (ck p.1) w (Ub x) (Ub p.1) hF (r1.mono (lJ.refl _) (nW.no _))
  have LS:(Op.equal k (.agg us) en.key).run P w = .ok (wI (ck x) (ck p.1)) w:=by
   rw[e1];exact hq
  cases hb:wI (ck x) (ck p.1)with
  |true=>
   refine⟨some (i,en.val),by simp[Instr.findAsking,LS,hb],.inr ⟨0,p.2,en.val,en,by simp[rV,hb],rfl,aR,aR,rfl,?_,h2⟩⟩;have:=(Hg 0 gs (ck x) (ck p.1) us.toList vs.toList M.num (Ub x) (Ub p.1) hb hF r1).1
   simp_all
  |false=>
   obtain⟨r',k1,k2⟩:=Kh M Ub hF w xs r (i+1) h3;refine⟨r',by simp[Instr.findAsking,LS,hb,k1],?_⟩;rcases k2 with⟨a1,a2⟩|⟨j,v,val,en',a1,a2,a3,a4,a5,a6,a7⟩
   .exact .inl ⟨by simp[rV,hb,a1],a2⟩
   .refine .inr ⟨j+1,v,val,en',by simp[rV,hb,a1];omega,by rw[a2];congr 2;omega,eJ,eJ,a5,a6,a7⟩
theorem GM.set{F:dj}{dk dv:DV}(f:MapEntry->MapEntry):∀{l:List (DV×DV)} {es:List MapEntry} (j:Nat),GM F l es->(∀e,es[j]? = some e->Rs F eD.no dk (f e).key∧Rs F eD.no dv (f e).val)->GM F (l.set j (dk,dv)) (es.modify j f)
 |[],es,j,h,_=>by subst h;cases j <;> rfl
 |x::l,es,0,h,hf=>by
  obtain⟨e,r,rfl,h1,h2,h3⟩:=h;obtain⟨q1,q2⟩:=hf e aR;exact⟨_,_,rfl,q1,q2,h3⟩
 |x::l,es,j+1,h,hf=>by
  obtain⟨e,r,rfl,h1,h2,h3⟩:=h;exact⟨_,_,rfl,h1,h2,GM.set f j h3 (λe he=>hf e eJ)⟩
theorem GM.push{F:dj}{dk dv:DV}{en:MapEntry}(hk:Rs F eD.no dk en.key)(hv:Rs F eD.no dv en.val):∀{l:List (DV×DV)} {es:List MapEntry},GM F l es->GM F (l++[(dk,dv)]) (es++[en])
 |[],es,h=>by subst h;exact⟨en,[],rfl,hk,hv,rfl⟩
 |x::l,es,h=>by
  obtain⟨e,r,rfl,h1,h2,h3⟩:=h;exact⟨e,r++[en],rfl,h1,h2,GM.push hk hv h3⟩
end
section
variable {P:Program} {ops:Array Oper} {σ:AS} {t:Nat} {ty:TypeId} {pos:String} {af:Array Edge}
theorem Hc{C:Ctx}{F:dj}{γ:eD}{σ:AS}{a:Act}{w:World}(hs:Sat C F γ σ a w){id:Nat}{v:Value}{l:List (DV×DV)}(hv:Rs F γ (.row id) v)(hh:cF σ.heap id=some (.mp l)) :
  ∃b es ck,v = .map (some b)∧γ id=some (.map (some b))∧w.heap[b]? = some (.map es ck)∧GM F l es.toList∧yW es ck:=by
 simp only[Rs]at hv;obtain⟨g,h1,b,es,ck,rfl,h3,h4,h5⟩:=hs.ws.si id _ hh;rw[h1]at hv;injection hv with hv
 exact⟨b,es,ck,hv.symm,h1,h3,h4,h5⟩
theorem yW.modify{es:Array MapEntry}{ck:Nat}(h:yW es ck)(j:Nat)(f:MapEntry->MapEntry)(hf:∀e,(f e).born=e.born):yW (es.modify j f) ck:=by
 refine⟨by rw[Array.size_modify];exact h.1,λi e he=>?_⟩;rw[Array.getElem?_modify]at he
 split at he
 .cases hq:es[i]? with
  |none=>simp_all
  |some e0=>
   have:f e0=e:=eJ;rw[<-this,hf];exact h.2 i e0 hq
 .exact h.2 i e he
theorem yW.push{es:Array MapEntry}{ck:Nat}(h:yW es ck){en:MapEntry}(hb:en.born=ck):yW (es.push en) (ck+1):=by
 refine⟨by rw[Array.size_push,h.1],λi e he=>?_⟩;rw[Array.getElem?_push]at he
 split at he
 .rename_i hi
  injection he with he
  rw[<-he,hb,h.1,hi]
 .exact h.2 i e he
theorem Mu{T:TypeId}:dH P ops ⟨some t,.makeMap T none,ty,pos,af,none⟩ [] [] σ ⟨[(t,.row t)],[(t,some (.mp []))],[t]⟩ :=
 dH.gen rfl rfl λC F γ σ' a w h1 _ h3 hs=>by
  have hn:t ∉ σ'.used:=h3 t aR;refine⟨.map (some w.heap.size),w.alloc (.map #[] 0),F,γ.up t (.map (some w.heap.size)),?_,lJ.refl _,pF _ (hs.ws.fresh hn),?_,?_⟩
  .rfl
  .refine hs.ws.Ah hn _ (λb hb=>Sz) ?_
   exact⟨w.heap.size,#[],0,rfl,heap_alloc_new w _,dF,rfl,λi e h=>AV⟩
  .exact uu _ _ _
theorem abO{T k e:TypeId}{gs:List Tg}{zd:DV}[hM:LO P T k e gs zd]{x y:Operand}{id:Nat}{K V:Type}{ck:K->List DV}{fv:V->DV}{xs:List (K×V)}{q:K}{z v:V}(hv:some (IG ck xs q z)=some v)(Ub:∀a,qN gs (ck a)=true)(hz:fv z=zd)
  (hx:ev σ.env x=some (.row id)) (hh:cF σ.heap id=some (.mp (nU ck fv xs))) (hy:ev σ.env y=some (.agg (ck q))) :
  dH P ops ⟨some t,.lookup T x y false,ty,pos,af,none⟩ (tm x++tm y) [id] σ ⟨[(t,fv v)],[],[]⟩ :=
 Option.some.inj hv ▸ dH.val rfl rfl λC F γ σ' a w tD h2 hs=>by
  obtain⟨k1,k2⟩:=AQ hs tD hx hy;have tg:=(h2 id aR).trans hh;obtain⟨b,es,clock,e1,hg,hb,hR,PZ⟩:=Hc hs k1 tg;obtain⟨us,e2,r2⟩:=k2;obtain⟨r,f1,f2⟩:=Kh hM Ub r2 w xs es.toList 0 hR;have hc:=hM.check (Ub q) r2 es.isEmpty w;have hf:(Instr.findKey k (.agg us) es.toList).run P w = .ok r w:=aek;have Gz:(getObj b).run P w = .ok (.map es clock) w:=Sy;have Tc:=hM.zero;cases hq:P.info? e with
  |none=>simp_all
  |some i=>
   cases hz2:i.zero with
   |none=>simp_all
   |some zv=>
    simp only[hq,hz2,Option.bind_some,Option.map_some,Option.some.injEq]at Tc;rcases f2 with⟨g1,rfl⟩|⟨j,v,val,en,g1,rfl,g3,g4,g5,g6,g7⟩
    .refine⟨zv,?_,?_⟩
     .simp[execOp,Instr.lookup,e1,e2,run_underlying hM.GP,Gz,hc,hf,zeroValue,typeInfo,hq,hz2]
     .simp only[IG,g1]
      rw[hz];exact(Ar Tc (Aq (T:=T) Tc hM.one) F).mono (lJ.refl _) (nW.no _)
    .refine⟨val,?_,?_⟩
     .simp[execOp,Instr.lookup,e1,e2,run_underlying hM.GP,Gz,hc,hf]
     .simp only[IG,g1]
      exact g7.mono (lJ.refl _) (nW.no _)
theorem QT{T k e:TypeId}{gs:List Tg}{zd:DV}[hM:LO P T k e gs zd]{x y u:Operand}{id:Nat}{K V:Type}{ck:K->List DV}{fv:V->DV}{xs:List (K×V)}{q:K}{v:V}(Ub:∀a,qN gs (ck a)=true)(hid:(fv v).ids = [])(aoV:vv (ck q) = [])
  (hx:ev σ.env x=some (.row id)) (hh:cF σ.heap id=some (.mp (nU ck fv xs))) (hy:ev σ.env y=some (.agg (ck q))) (hu:ev σ.env u=some (fv v)) :
  dH P ops ⟨none,.mapUpdate T x y u,ty,pos,af,none⟩ (tm x++(tm y++tm u)) [id] σ ⟨[],[(id,some (.mp (nU ck fv (Fb ck xs q v))))],[]⟩ :=
 dH.skip rfl rfl λC F γ σ' a w h1 h2 hs=>by
  have k1:=hs.ev ((cP h1 (λ_ h=>ql)).trans hx);have k2:=hs.ev ((cP h1 (λ_ h=>ql)).trans hy);have k3:=hs.ev ((cP h1 (λ_ h=>ql)).trans hu);have tg:=(h2 id aR).trans hh;obtain⟨b,es,clock,e1,hg,hb,hR,PZ⟩:=Hc hs k1 tg;have k3':Rs F eD.no (fv v) (a.eval u):=wK _ _ eJ k3;have k2':Rs F eD.no (.agg (ck q)) (a.eval y):=wK _ _ (by simp only[DV.ids];simp_all) k2;obtain⟨us,e2,r2⟩:=k2;obtain⟨r,f1,f2⟩:=Kh hM Ub r2 w xs es.toList 0 hR;have hc:=hM.check (Ub q) r2 false w;have hf:(Instr.findKey k (.agg us) es.toList).run P w = .ok r w:=aek;have Gz:(getObj b).run P w = .ok (.map es clock) w:=Sy;have hso:∀o,(setObj b o).run P w = .ok () { w with heap:=w.heap.setIfInBounds b o }:=λo=>by simp[setObj,Sem.run,hb]
  have main:∀Qa tj,GM F (nU ck fv (Fb ck xs q v)) Qa.toList->yW Qa tj->(Instr.mapUpdate T (a.eval x) (a.eval y) (a.eval u)).run P w = .ok () { w with heap:=w.heap.setIfInBounds b (.map Qa tj) }->∃w',(execOp a.eval ⟨none,.mapUpdate T x y u,ty,pos,af,none⟩).run P w = .ok .skip w' ∧
    WS C F γ ([(id,some (.mp (nU ck fv (Fb ck xs q v))))]++σ'.heap) σ'.used w':=by
   intro Qa tj hR' alG kp;have my:b<w.heap.size:=(Array.getElem?_eq_some_iff.1 hb).1;have s2:(w.heap.setIfInBounds b (.map Qa tj))[b]? = some (.map Qa tj):=by simp[my]
   have s1:∀r',r'≠b->(w.heap.setIfInBounds b (.map Qa tj))[r']? = w.heap[r']? := λr' nq=>by simp[Ne.symm nq]
   refine⟨_,by simp[execOp,kp];rfl,?_⟩;have W:=hs.ws.GQ (w':={ w with heap:=w.heap.setIfInBounds b (.map Qa tj) }) tg hg ⟨rfl,rfl,rfl,aR,λk _ hk=>s1 k (λe=>hk VI)⟩;have W2:=W.put (id0:=id) (e0:=.mp (nU ck fv (Fb ck xs q v))) hg ⟨b,Qa,tj,rfl,s2,hR',alG⟩ (λb' je=>?_)
   .exact W2.congr (λi e hi=>wB id _ _ i e hi) (λ_ h=>h)
   .have ho:=hs.ws.own id _ _ b' tg hg je
    refine⟨ho.1,ho.2,λi e g nq hi Tf Th=>?_⟩;rw[cH]at hi
    split at hi
    .cases hi
    .exact nq (hs.ws.apart id i _ e _ g b' tg hi hg Tf je Th).symm
  rcases f2 with⟨g1,rfl⟩|⟨j,v0,val,en,g1,rfl,g3,g4,g5,g6,g7⟩
  .refine main (es.push { key:=a.eval y,val:=a.eval u,born:=clock }) (clock+1) ?_ (PZ.push rfl) ?_
   .simp only[Fb,g1,Array.toList_push]
    unfold nU;rw[List.map_append];exact GM.push k2' k3' hR
   .simp[Instr.mapUpdate,e1,e2,run_underlying hM.GP,Gz,hc,hf,hso]
  .refine main (es.modify j λe=>{ e with key:=a.eval y,val:=a.eval u }) clock ?_ (PZ.modify j _ (λ_=>rfl)) ?_
   .simp only[Fb,g1,Array.toList_modify,Nat.zero_add]
    unfold nU;rw[List.map_set];exact GM.set _ j hR (λe he=>⟨k2',k3'⟩)
   .have hsb:=(Hg 9999 gs (ck q) (ck q) us.toList us.toList hM.num (Ub q) (Ub q) (by
     have:=RF gs (ck q) hM.num (Ub q);exact this) r2 r2).2
    have zb:(Instr.keyThatStays (.agg us) (.agg us)).run P w = .ok (.agg us) w:=by
     have:Instr.sameBits 10000 (.agg us) (.agg us)=true:=by
      simp only[Instr.sameBits,beq_self_eq_true];exact hsb
     simp[Instr.keyThatStays,this]
    have g4':es[j]? = some en:=by simpa using g4
    simp[Instr.mapUpdate,e1,e2,run_underlying hM.GP,Gz,hc,hf,g4',g6,zb,hso]
end
theorem GM.len{F:dj}:∀{l:List (DV×DV)} {es:List MapEntry},GM F l es->es.length=l.length
 |[],es,h=>by subst h;rfl
 |x::l,es,h=>by
  obtain⟨e,r,rfl,h1,h2,h3⟩:=h;simp[h3.len]
theorem GM.get{F:dj}:∀{l:List (DV×DV)} {es:List MapEntry} (j:Nat) {x:DV×DV} {e:MapEntry},GM F l es->l[j]? = some x->es[j]? = some e->Rs F eD.no x.1 e.key∧Rs F eD.no x.2 e.val
 |[],es,j,x,e,h,h1,h2=>by simp at h1
 |y::l,es,0,x,e,h,h1,h2=>by
  obtain⟨e0,r,rfl,k1,k2,k3⟩:=h
  simp_all
 |y::l,es,j+1,x,e,h,h1,h2=>by
  obtain⟨e0,r,rfl,k1,k2,k3⟩:=h;exact GM.get j k3 eJ eJ
section
variable {P:Program} {ops:Array Oper} {σ:AS} {t:Nat} {ty:TypeId} {pos:String} {af:Array Edge}
theorem dH.amN{o:Oper}{rt rh:List Nat}{d d':DV}{hp:eW}{nw:List Nat}(h:dH P ops o rt rh σ ⟨[(t,d)],hp,nw⟩)(hd:iy d d'):dH P ops o rt rh σ ⟨[(t,d')],hp,nw⟩:=by
 intro C F γ σ' a w h1 h2 h3 h4 hs K Q hK;refine h C F γ σ' a w h1 h2 h3 h4 hs K Q (λF' γ' a' w' hF jI=>hK F' γ' a' w' hF ⟨λi e hi=>?_,jI.ws,jI.size,jI.defers⟩);have H:=jI.env;simp only[AS.app,List.cons_append]at H hi |-
 by_cases hit:t=i
 .subst hit
  rw[eK,if_pos rfl]at hi;injection hi with hi;subst hi
  have:=H t d (by rw[eK,if_pos rfl]);exact⟨this.1,hd _ _ _ this.2⟩
 .refine H i e ?_
  rw[eK,if_neg hit]at hi |-;exact hi
end
section
variable {P:Program} {ops:Array Oper} {σ:AS} {t:Nat} {ty:TypeId} {pos:String} {af:Array Edge}
theorem YR{T e:TypeId}{sz yd:Nat}{zd:DV}[hT:lK P T e sz yd zd]{x y u:Operand}{eC:List DV}{k k':IntKind}{m m':Int}(h:m=(eC.length:Int)∧m'=(eC.length:Int))(hx:ev σ.env x=some (.sl sz eC))(hy:ev σ.env y=some (.int k m))(hu:ev σ.env u=some (.int k' m')) :
  dH P ops ⟨some t,.slice T x none (some y) (some u),ty,pos,af,none⟩ (tm x++(tm y++tm u)) [] σ ⟨[(t,.fs sz eC)],[],[]⟩ :=
 dH.val rfl rfl λC F γ σ' a w tD _ hs=>by
  have k1:=hs.ev ((cP tD (λ_ h=>ql)).trans hx);have k2:=hs.ev ((cP tD (λ_ h=>ql)).trans hy);have k3:=hs.ev ((cP tD (λ_ h=>ql)).trans hu);simp only[Rs]at k1 k2 k3;obtain⟨A,c,e1,Ao,hd⟩:=k1;obtain⟨rfl,rfl⟩:=h
  have hb:(Instr.sliceBounds true eC.length c none (some (.int k (eC.length:Int))) (some (.int k' (eC.length:Int)))).run P w = .ok (0,eC.length,eC.length) w:=by
   simp[Instr.sliceBounds,rA (Nat.le_refl eC.length),rA Ao.2.1]
  refine⟨.slice A eC.length eC.length,?_,?_⟩
  .simp[execOp,Instr.sliceAt,Instr.slice,run_underlying hT.GP,e1,k2,k3,hb,hT.size,Addr.add]
  .exact⟨A,rfl,⟨λh=>eJ,Nat.le_refl _,Nat.le_trans Ao.2.1 Ao.2.2⟩,hd⟩
theorem UW{T e:TypeId}{sz bytes:Nat}{zd:DV}[hT:lK P T e sz bytes zd]{x y:Operand}{dy:DV}{xs ys:List DV}{rh:List Nat}(hx:ev σ.env x=some (.fs sz xs))(hy:ev σ.env y=some dy)(hS:Src σ sz dy ys rh)(h0:0<ys.length)(hb:(xs.length+ys.length)*bytes<=140737488355328∧xs.length+ys.length<=140737488355328) :
  dH P ops ⟨some t,.call ⟨.builtin .append,#[x,y],#[T,T]⟩,ty,pos,af,none⟩ (tm x++tm y) rh σ ⟨[(t,.row t)],[(t,some (.row e sz (xs++ys)))],[t]⟩ :=
 dH.gen rfl rfl λC F γ σ' a w tD h2 h3 hs=>by
  obtain⟨k1,k2⟩:=AQ hs tD hx hy;simp only[Rs]at k1;have hn:t ∉ σ'.used:=h3 t aR;obtain⟨A,c,vs,ey,KH,hE⟩:=hS.read hs h2 k2;obtain⟨A0,ex,Ao,hd⟩:=k1
  obtain⟨KZ,avG,hE0⟩:∃KZ,At w A0 KZ∧rm F sz xs KZ:=by
   by_cases nq:xs = []
   .subst nq;exact⟨[],At.nil _ _,by simp[rm]⟩
   .obtain⟨b,o,cs,vs,rest,rfl,hF,BW,hE⟩:=hd nq
    obtain⟨t,fz,h1⟩:=hs.ws.fs b cs hF;refine⟨vs,At.mk (λ_=>⟨b,o,rfl,λj v hv=>?_⟩),hE⟩;have:=yj h1 o;rw[BW]at this;exact this j v ajl
  obtain⟨z,wM,Wj⟩:=hT.h;obtain⟨i,hi,Yv,DJ,HF⟩:=wM.info
  have avH:vs≠[]:=by
   intro e;have:=hE.len;rw[e]at this;have hp:=wM.pos;have:0<ys.length*sz:=Nat.mul_pos h0 hp;simp at *;omega
  obtain⟨bb,oo,rfl,hr⟩:=KH.elim avH
  have hnx:Builtin.nextslicecap (xs.length+ys.length) xs.length*i.bytes<=281474976710656:=by
   rw[HF];exact growslice_fits ah hb.1
  have kp:∃w',w'=w.drew.alloc (.cells (KZ.toArray++vs.toArray++Builtin.zeroCells z.cells (grownCap w (xs.length+ys.length) xs.length e-(xs.length+ys.length))) e)∧(Builtin.append_ #[T,T] ty #[.slice A0 xs.length xs.length,.slice (some ⟨bb,oo,none⟩) ys.length c]).run P w = .ok (.slice (some ⟨w.heap.size,0,none⟩) (xs.length+ys.length) (grownCap w (xs.length+ys.length) xs.length e)) w':=by
   refine⟨_,rfl,?_⟩;cases A0 with
   |none=>
    have hx0:xs.length=0:=(Ao.1 rfl).1
    have hv0:KZ = []:=by
     have:=hE0.len
     simp_all
    have:=run_append_nil (P:=P) w T ty e i z wM.under hi Yv ⟨bb,oo,none⟩ ys.length c vs (by rw[DJ];exact hE.len) (At.add (At.mk (λ_=>⟨bb,oo,rfl,hr⟩))) h0 ah (by rw[HF];have:=hb.1;rw[hx0,Nat.zero_add]at this;omega)
    simp_all
   |some ad=>
    exact run_append_grow (P:=P) w T ty e i z wM.under hi Yv ad xs.length xs.length KZ (by rw[DJ];exact hE0.len) avG.add ⟨bb,oo,none⟩ ys.length c vs (by rw[DJ];exact hE.len) (At.add (At.mk (λ_=>⟨bb,oo,rfl,hr⟩))) ah ah hnx
  obtain⟨w',hw',kp⟩:=kp;have alC:=grownCap_ge w (xs.length+ys.length) xs.length e;have Tk:=grownCap_le_maxLen w (xs.length+ys.length) xs.length e Ks;generalize grownCap w (xs.length+ys.length) xs.length e=cap at kp alC Tk hw';subst hw';have hEE:=hE0.append hE;have GA:z.cells.size=sz:=wM.Eo;refine⟨.slice (some ⟨w.heap.size,0,none⟩) (xs.length+ys.length) cap,_,F,γ.up t (.slice (some ⟨w.heap.size,0,none⟩) (xs.length+ys.length) cap),ET _ x y rfl a w ex ey kp,lJ.refl _,pF _ (hs.ws.fresh hn),?_,?_⟩
  .refine(hs.ws.quiet (uF.drew w)).Ah hn _ (λb hb=>adE) ?_
   have hlen:(KZ++vs).length=(xs.length+ys.length)*sz:=by
    have:=hEE.len
    simp_all
   refine⟨KZ++vs,⟨by rw[hlen,List.length_append],.inr ⟨w.heap.size,cap,_,by rw[List.length_append],Nat.zero_le _,heap_alloc_new w.drew _,eJ,Tk,?_,?_⟩⟩,hEE⟩
   .simp only[Array.size_append,size_zeroCells,GA,List.size_toArray]
    rw[List.length_append]at hlen;have:xs.length+ys.length+(cap-(xs.length+ys.length))=cap:=ah;rw[hlen,<-Nat.add_mul,this]
   .rw[List.length_append]
    rw[<-hlen];simp only[Array.toList_append];rw[List.take_append_of_le_length aR,List.take_of_length_le aR]
  .simp only[Rs];exact uu _ _ _
theorem JA{T e:TypeId}{sz bytes:Nat}{zd:DV}[hT:lK P T e sz bytes zd]{x y:Operand}{dy:DV}{rh:List Nat}{α:Type}{f:α->DV}{xs:List α}(ys:List α)(h:0<ys.length∧dK bytes (xs.length+ys.length))(hx:ev σ.env x=some (.fs sz (xs.map f)))(hy:ev σ.env y=some dy)(hS:Src σ sz dy (ys.map f) rh) :
  dH P ops ⟨some t,.call ⟨.builtin .append,#[x,y],#[T,T]⟩,ty,pos,af,none⟩ (tm x++tm y) rh σ ⟨[(t,.row t)],[(t,some (.row e sz ((xs++ys).map f)))],[t]⟩ :=
 (UW hx hy hS eJ (by rw[List.length_map,List.length_map];exact h.2)).cast aR
end
section
variable {P:Program} {n:Nat} {Q:Exit->AS->Prop} {σ:AS}
theorem Nz{id t t0:Nat}{x:Operand}{T T' Yz ty:TypeId}{HH pos:String}{af0 af:Array Edge}{e:TypeId}{sz yd:Nat}{zd:DV}[hT:lK P T e sz yd zd]{sz' E:Nat}{eC:List DV}{rid:Nat}(hx:ev σ.env x=some (.row rid))(hh:cF σ.heap rid=some (.row E sz' eC))(ht0:t0<n)(ht:t<n)
  (hq:∀b:Bool,(b=true->eC = [])->Q .normal ⟨(t,.bool b)::(t0,.row rid)::σ.env,σ.heap,σ.used⟩) :
  gL P n (.region id #[⟨some t0,.move x,Yz,HH,af0,none⟩,⟨some t,.binOp .eql T (.tmp t0) (.const (.slice none 0 0)) T',ty,pos,af,none⟩] false) Q σ:=by
 intro C F γ a w hn hs;have kx:=hs.ev hx;have LP:Sat C F γ ⟨(t0,.row rid)::σ.env,σ.heap,σ.used⟩ (a.put (some t0) (a.eval x)) w:=hs.put (by rw[hn];exact ht0) kx;have my:t0<a.tmps.size:=VO;have hmv:(execOp a.eval ⟨some t0,.move x,Yz,HH,af0,none⟩).run P w = .ok (.value (a.eval x)) w:=by simp[execOp]
 generalize a.eval x=v at kx LP hmv;obtain⟨A,c,KZ,rfl,_,PV,_⟩:=zZ hs kx hh;refine wpIn_region ?_;simp only[show(#[(⟨some t0,.move x,Yz,HH,af0,none⟩:Oper),⟨some t,.binOp .eql T (.tmp t0) (.const (.slice none 0 0)) T',ty,pos,af,none⟩]).size=2 from rfl,List.range_succ,List.range_zero,List.nil_append,List.cons_append,wpOpsIn_cons];refine ju hmv ?_
 have e0:(a.put (some t0) (.slice A eC.length c)).eval (.tmp t0) = .slice A eC.length c:=by
  simp[Act.eval,Act.put,Array.getD,my]
 have e1:binOp .eql T (.slice A eC.length c) (.slice none 0 0)=(do pure (.bool (<-Op.equal T (.slice A eC.length c) (.slice none 0 0)))):=by cases A <;> rfl
 have e2:eqGuard .eql T (.tmp t0) (.const (.slice none 0 0)) (.slice A eC.length c) (.slice none 0 0)=pure ():=rfl
 have e3:(Op.equal T (.slice A eC.length c) (.slice none 0 0)).run P w = .ok A.isNone w:=by
  have:∀m,(Op.equalIn (m+1) T (.slice A eC.length c) (.slice none 0 0)).run P w = .ok A.isNone w:=λm=>adJ
  exact this 9999
 have LS:(execOp (a.put (some t0) (.slice A eC.length c)).eval ⟨some t,.binOp .eql T (.tmp t0) (.const (.slice none 0 0)) T',ty,pos,af,none⟩).run P w = .ok (.value (.bool A.isNone)) w:=by
  have e4:(a.put (some t0) (.slice A eC.length c)).eval (.const (.slice none 0 0)) = .slice none 0 0:=rfl;simp only[execOp,e0,e4,e1,e2,Sem.run_bind,Sem.run_pure,Result.andThen_ok,e3]
 refine ju LS ?_
 .have:=LP.put (t:=t) PE (d:=.bool A.isNone) (v:=.bool A.isNone) Cn
  refine⟨F,γ,_,this,hq A.isNone (λhA=>?_)⟩;have hN:A=none:=by simpa using hA
  rcases PV.2 with⟨_,q⟩|⟨b,cap,cur,q,_⟩
  .exact List.eq_nil_of_length_eq_zero q
  .rw[hN]at q;injection q with q;cases q
end
class PI(P:Program)(t:TypeId):Prop where
 h:P.underlying t=some .string:=by kernel_rfl
section
variable {P:Program} {ops:Array Oper} {σ:AS} {t ty:Nat} {pos:String} {af:Array Edge}
theorem UK{F:dj}:∀(xs:List Int) (vs:List Value),rm F 1 (xs.map (DV.int .u8)) vs->vs=xs.map (Value.int .u8)
 |[],vs,h=>Pw
 |x::xs,vs,h=>by
  obtain⟨v,rest,h1,h2,h3,h4,h5⟩:=h;subst h4;rw[h1,UK xs rest h5]
  rfl
theorem ai7{S T e:TypeId}{bytes:Nat}{zd:DV}[hS:lK P S e 1 bytes zd][hE:BT P e .u8][hT:PI P T]{x:Operand}{d:DV}{rh:List Nat}(xs:List Int)(hx:ev σ.env x=some d)(hR:Src σ 1 d (xs.map (DV.int .u8)) rh) :
  dH P ops ⟨some t,.convert S T x,ty,pos,af,none⟩ (tm x) rh σ ⟨[(t,.str (strOfNums xs))],[],[]⟩ :=
 dH.val rfl rfl λC F γ σ' a w h1 h2 hs=>by
  have k1:=hs.ev ((cP h1 (λ_ h=>h)).trans hx);obtain⟨A,c,vs,ee,KH,wM⟩:=hR.read hs h2 k1;have hv:=UK xs vs wM;subst hv;rw[List.length_map]at ee;refine⟨.string (strOfNums xs),?_,dF⟩
  have key:(convert S T (.slice A xs.length c)).run P w = .ok (.string (strOfNums xs)) w:=by
   by_cases nq:xs = []
   .subst nq
    cases A with
    |none=>exact run_convert_bytes_nil w S e hS.GP hE.h _ _ T hT.h
    |some p=>
     have hl:(loadCells p 0).run P w = .ok ((([]:List Int)).map (Value.int .u8)).toArray w:=run_loadCells_list (P:=P) w p [] (λj v hj=>by simp at hj);simp only[List.length_nil];rw[run_convert_bytes_string w S T e _ 0 c hS.GP hE.h hT.h,run_bytesToString w _ 0 c [] hl,foldl_push_bytes]
     rfl
   .obtain⟨b,o,rfl,hr⟩:=KH.elim (by simp[nq])
    exact run_convert_bytes_arg w S e hS.GP hE.h b o xs.length c xs rfl (λi hi=>by
     have:=hr i (.int .u8 (xs.getD i 0)) eJ;exact this) T hT.h
  simp only[execOp,ee,key,Sem.run_bind,Sem.run_pure,Result.andThen_ok]
theorem ag7{T T':TypeId}{x y:Operand}{a b:ByteArray}(hx:ev σ.env x=some (.str a))(hy:ev σ.env y=some (.str b)) :
  dH P ops ⟨some t,.binOp .eql T x y T',ty,pos,af,none⟩ (tm x++tm y) [] σ ⟨[(t,.bool (a.toList==b.toList))],[],[]⟩ :=
 dH.val rfl rfl λC F γ σ' ac w h1 _ hs=>by
  obtain⟨k1,k2⟩:=AQ hs h1 hx hy;simp only[Rs]at k1 k2;have e2:eqGuard .eql T x y (.string a) (.string b)=pure ():=rfl;exact⟨.bool (a.toList==b.toList),by simp only[execOp,k1,k2,binOp_string_eql,e2,Sem.run_bind,Sem.run_pure,Result.andThen_ok],dF⟩
theorem ag6{T T':TypeId}{x y:Operand}{a b:ByteArray}(hx:ev σ.env x=some (.str a))(hy:ev σ.env y=some (.str b)) :
  dH P ops ⟨some t,.binOp .neq T x y T',ty,pos,af,none⟩ (tm x++tm y) [] σ ⟨[(t,.bool (!(a.toList==b.toList)))],[],[]⟩ :=
 dH.val rfl rfl λC F γ σ' ac w h1 _ hs=>by
  obtain⟨k1,k2⟩:=AQ hs h1 hx hy;simp only[Rs]at k1 k2;have e2:eqGuard .neq T x y (.string a) (.string b)=pure ():=rfl;exact⟨.bool (!(a.toList==b.toList)),by simp only[execOp,k1,k2,binOp_string_neq,e2,Sem.run_bind,Sem.run_pure,Result.andThen_ok],dF⟩
theorem anI{T T':TypeId}{x y:Operand}{a b:ByteArray}(h:a.size+b.size<=9223372036854775807)(hx:ev σ.env x=some (.str a))(hy:ev σ.env y=some (.str b)) :
  dH P ops ⟨some t,.binOp .add T x y T',ty,pos,af,none⟩ (tm x++tm y) [] σ ⟨[(t,.str (a++b))],[],[]⟩ :=
 dH.val rfl rfl λC F γ σ' ac w h1 _ hs=>by
  obtain⟨k1,k2⟩:=AQ hs h1 hx hy;simp only[Rs]at k1 k2;have e2:eqGuard .add T x y (.string a) (.string b)=pure ():=rfl
  have e3:Op.stringOp .add a b=pure (.string (a++b)):=by
   have:¬(((a.size+b.size:Nat):Int)>IntKind.i64.max):=by
    have:IntKind.i64.max=9223372036854775807:=aV;omega
   simp only[Op.stringOp,if_neg this]
  exact⟨.string (a++b),by simp only[execOp,k1,k2,binOp_string_add,e2,e3,Sem.run_bind,Sem.run_pure,Result.andThen_ok],dF⟩
end
section
variable {C:Ctx} {F:dj} {γ:eD} {h:eW} {used:List Nat} {w:World}
end
mutual
def DV.sb(s:DV->DV):DV->DV
 |.agg ds=>.agg (sbL s ds)
 |.gh ds=>.gh (sbL s ds)
 |.FD b d=>.FD b (d.sb s)
 |.CG f ds=>.CG f (sbL s ds)
 |.row i=>s (.row i)
 |.int k n=>.int k n
 |.bool b=>.bool b
 |.str s=>.str s
 |.val v=>.val v
 |.cu=>.cu
 |.sl s e=>.sl s e
 |.fs s e=>.fs s e
 |.iv ds=>.iv ds
 |.ref i o=>s (.ref i o)
 |.rp i j s o=>.rp i j s o
 |.sp i j s o=>.sp i j s o
 |.Nw i o n=>.Nw i o n
 |.rv i l n z=>.rv i l n z
 |.np i o=>.np i o
def sbL(s:DV->DV):List DV->List DV
 |[]=>[]
 |d::ds=>d.sb s::sbL s ds
end
mutual
theorem Ym{F F':dj}{γ:eD}{s:DV->DV}(hF:lJ F F')(h:∀d v,Rs F γ d v->Rs F' γ (s d) v):∀(d:DV) (v:Value),Rs F γ d v->Rs F' γ (d.sb s) v
 |.row i,v,hd=>ad6
 |.ref i o,v,hd=>ad6
 |.agg ds,v,hd=>by simp only[Rs,DV.sb]at hd |-;obtain⟨cs,rfl,hd⟩:=hd;exact⟨cs,rfl,VZ hF h ds _ hd⟩
 |.gh ds,v,hd=>ajp
 |.FD b d,v,hd=>by simp only[Rs,DV.sb]at hd |-;exact⟨λe=>Ym hF h d v (hd.1 e),hd.2⟩
 |.CG f ds,v,hd=>ajp
 |.int k n,v,hd=>hd.mono hF (nW.refl _)
 |.bool b,v,hd=>hd.mono hF (nW.refl _)
 |.str s,v,hd=>hd.mono hF (nW.refl _)
 |.val x,v,hd=>hd.mono hF (nW.refl _)
 |.cu,v,hd=>hd.mono hF (nW.refl _)
 |.sl s e,v,hd=>hd.mono hF (nW.refl _)
 |.fs s e,v,hd=>hd.mono hF (nW.refl _)
 |.iv ds,v,hd=>hd.mono hF (nW.refl _)
 |.rp i j s o,v,hd=>hd.mono hF (nW.refl _)
 |.sp i j s o,v,hd=>hd.mono hF (nW.refl _)
 |.Nw i o n,v,hd=>hd.mono hF (nW.refl _)
 |.rv i l n z,v,hd=>hd.mono hF (nW.refl _)
 |.np i o,v,hd=>hd.mono hF (nW.refl _)
theorem VZ{F F':dj}{γ:eD}{s:DV->DV}(hF:lJ F F')(h:∀d v,Rs F γ d v->Rs F' γ (s d) v):∀(ds:List DV) (vs:List Value),fZ F γ ds vs->fZ F' γ (sbL s ds) vs
 |[],vs,hd=>by simp only[fZ,sbL]at hd |-;exact hd
 |d::ds,vs,hd=>by
  simp only[fZ,sbL]at hd |-;obtain⟨v,rest,h1,h2,h3,h4⟩:=hd;exact⟨v,rest,h1,h2,Ym hF h d v h3,VZ hF h ds _ h4⟩
theorem afb{F F':dj}{γ:eD}{s:DV->DV}(hF:lJ F F')(h:∀d v,Rs F γ d v->Rs F' γ (s d) v):∀(ds:List DV) (vs:List Value),tQ F γ ds vs->tQ F' γ (sbL s ds) vs
 |[],vs,hd=>by simp only[tQ,sbL]at hd |-;exact hd
 |d::ds,vs,hd=>by
  simp only[tQ,sbL]at hd |-;obtain⟨v,rest,h1,h3,h4⟩:=hd;exact⟨v,rest,h1,Ym hF h d v h3,afb hF h ds _ h4⟩
end
def HE.sb(s:DV->DV):HE->HE
 |.bJ T ds=>.bJ T (sbL s ds)
 |e=>e
def sbE(s:DV->DV)(e:List (Nat×DV)):List (Nat×DV):=e.map λp=>(p.1,p.2.sb s)
def sbH(s:DV->DV)(h:eW):eW:=h.map λp=>(p.1,p.2.map (HE.sb s))
theorem ali{F F':dj}{γ:eD}{s:DV->DV}{w:World}(hF:lJ F F')(h:∀d v,Rs F γ d v->Rs F' γ (s d) v){e:HE}{g:Value}(k:Gy F γ w e g):Gy F' γ w (e.sb s) g:=by
 cases e with
 |bJ T ds=>obtain⟨b,cs,r1,r2,r3⟩:=k;exact⟨b,cs,r1,r2,VZ hF h ds _ r3⟩
 |_=>exact k.mono hF (nW.refl _)
def Iw(id:Nat)(ds:List DV):DV->DV
 |.ref i o=>bif Nat.beq i id then .iv (ds.drop o)else .ref i o
 |d=>d
theorem abv{σ:AS}{id T:Nat}{ds:List DV}(hh:cF σ.heap id=some (.bJ T ds))(hi:vv ds = []):jP σ ⟨sbE (Iw id ds) σ.env,(id,none)::sbH (Iw id ds) σ.heap,σ.used⟩:=λC F γ a w hs=>by
 obtain⟨g,hg,b,cs,rfl,e2,e3⟩:=hs.ws.si id _ hh;have ho:=hs.ws.own id _ _ b hh hg rfl;have f1:=GO cs ho.1
 have W:WS C (F.up b cs) γ ((id,none)::σ.heap) σ.used w:=(hs.ws.forget id).data e2 ho.1 ho.2 (λuS e' g' tg oV je=>by
   rw[cH]at tg
   split at tg
   .cases tg
   .rename_i nq;exact nq (hs.ws.apart id uS _ e' _ g' b hh tg hg oV rfl je))
 have e4:fZ (F.up b cs) eD.no ds cs.toList:=by
  exact Gx ds _ (by rw[hi];simp) (e3.mono f1 (nW.refl _))
 have h:∀d v,Rs F γ d v->Rs (F.up b cs) γ (Iw id ds d) v:=by
  intro d v hd;cases d with
  |ref i o=>
   simp only[Iw]
   by_cases e:i=id
   .subst e
    rw[Nat.beq_refl,cond_true];obtain⟨b',k1,rfl⟩:=hd;rw[hg]at k1;injection k1 with k1;injection k1 with k1;injection k1 with k1;injection k1 with k1;subst k1
    exact⟨b,o,cs,cs.toList.drop o,[],rfl,Py,aR,e4.drop o⟩
   .have:Nat.beq i id=false:=by rw[Bool.eq_false_iff];simp_all
    rw[this];exact hd.mono f1 (nW.refl _)
  |_=>exact hd.mono f1 (nW.refl _)
 refine⟨F.up b cs,γ,λt d hd=>?_,?_,hs.size,hs.defers⟩
 .simp only[sbE]at hd
  rw[Dl (λd=>DV.sb (Iw id ds) d)]at hd;cases hl:look σ.env t with
  |none=>simp_all
  |some d0=>
   rw[hl]at hd;injection hd with hd;subst hd
   exact⟨(hs.env t d0 hl).1,Ym f1 h d0 _ (hs.env t d0 hl).2⟩
 .have key:∀i e,cF ((id,none)::sbH (Iw id ds) σ.heap) i=some e->∃e0,cF ((id,none)::σ.heap) i=some e0∧e=e0.sb (Iw id ds):=by
   intro i e hi;rw[cH]at hi |-
   split at hi
   .cases hi
   .unfold cF at hi |-
    simp only[sbH]at hi;rw[Dl (λx=>Option.map (HE.sb (Iw id ds)) x)]at hi;cases hl:look σ.heap i with
    |none=>simp_all
    |some x=>
     rw[hl]at hi;cases x with
     |none=>simp at hi
     |some e0=>
      simp_all
  exact {
   si:=λi e hi=>by
    obtain⟨e0,k1,rfl⟩:=key i e hi
    have k0:cF σ.heap i=some e0:=by
     rw[cH]at k1
     simp_all
    obtain⟨g',q1,q2⟩:=hs.ws.si i e0 k0;exact⟨g',q1,ali f1 h q2⟩
   own:=λi e g' b' hi oV je=>by
    obtain⟨e0,k1,rfl⟩:=key i e hi;exact W.own i e0 g' b' k1 oV je
   apart:=λi j e e' g1 g2 b' hi EH hg1 vO ND Ap=>by
    obtain⟨e0,k1,rfl⟩:=key i e hi;obtain⟨e0',k1',rfl⟩:=key j e' EH;exact W.apart i j e0 e0' g1 g2 b' k1 k1' hg1 vO ND Ap
   fs:=W.fs,f0:=W.f0,rj:=W.rj,os:=W.os,tape:=W.tape,output:=W.output,size:=W.size,qh:=W.qh,us:=W.us,gone:=W.gone,g0:=W.g0,gk:=W.gk,kn:=W.kn }
section
variable {P:Program} {ops:Array Oper} {σ:AS} {t:Nat} {ty:TypeId} {pos:String} {af:Array Edge}
theorem Zs{T T':TypeId}[hT:Ek P T]{x:Operand}{ds:List DV}(hx:ev σ.env x=some (.iv ds)):dH P ops ⟨some t,.binOp .eql T x (.const (.pointer none)) T',ty,pos,af,none⟩ (tm x) [] σ ⟨[(t,.bool false)],[],[]⟩ :=
 dH.val rfl rfl λC F γ σ' a w h1 h2 hs=>by
  have k1:=hs.ev ((cP h1 (λ_ h=>h)).trans hx);obtain⟨b,o,cs,vs,rest,e,_⟩:=k1;exact⟨_,Dd e w,dF⟩
theorem Zr{T T':TypeId}[hT:Ek P T]{x:Operand}{ds:List DV}(hx:ev σ.env x=some (.iv ds)):dH P ops ⟨some t,.binOp .neq T x (.const (.pointer none)) T',ty,pos,af,none⟩ (tm x) [] σ ⟨[(t,.bool true)],[],[]⟩ :=
 dH.val rfl rfl λC F γ σ' a w h1 h2 hs=>by
  have k1:=hs.ev ((cP h1 (λ_ h=>h)).trans hx);obtain⟨b,o,cs,vs,rest,e,_⟩:=k1;exact⟨_,HR e w,dF⟩
theorem OO{x:Operand}{ds:List DV}(hx:ev σ.env x=some (.iv ds)):dH P ops ⟨some t,.nilCheck x,ty,pos,af,none⟩ (tm x) [] σ ⟨[(t,.iv ds)],[],[]⟩ :=
 dH.val rfl rfl λC F γ σ' a w h1 h2 hs=>by
  have k1:=hs.ev ((cP h1 (λ_ h=>h)).trans hx);have k2:=k1;obtain⟨b,o,cs,vs,rest,e,_⟩:=k1;exact⟨.pointer (some ⟨b,o,none⟩),Vu,eJ⟩
end
section
variable {P:Program} {ops:Array Oper} {σ:AS} {t:Nat} {ty:TypeId} {pos:String} {af:Array Edge}
theorem Zp{T:TypeId}[hT:PI P T]{x:Operand}{s:ByteArray}(hx:ev σ.env x=some (.str s)):dH P ops ⟨some t,.call ⟨.builtin .len,#[x],#[T]⟩,ty,pos,af,none⟩ (tm x) [] σ ⟨[(t,.int .i64 (s.size:Int))],[],[]⟩ :=
 dH.val rfl rfl λC F γ σ' a w h1 _ hs=>by
  have k1:=hs.ev ((cP h1 (λ_ h=>h)).trans hx);simp only[Rs]at k1;exact⟨.int .i64 s.size,by simp[execOp,resolve,invoke,builtin,Builtin.len_,run_underlying hT.h,k1,goInt],dF⟩
def Bp(s:ByteArray)(i:Int):Option Int:=if 0<=i then(s[i.toNat]?).map (λb=>(b.toNat:Int))else none
theorem QR{T:TypeId}[hT:PI P T]{x y:Operand}{s:ByteArray}{k:IntKind}{i n:Int}(h:Bp s i=some n)(hx:ev σ.env x=some (.str s))(hy:ev σ.env y=some (.int k i)) :
  dH P ops ⟨some t,.index T x y,ty,pos,af,none⟩ (tm x++tm y) [] σ ⟨[(t,.int .u8 n)],[],[]⟩ :=
 dH.val rfl rfl λC F γ σ' a w h1 _ hs=>by
  obtain⟨k1,k2⟩:=AQ hs h1 hx hy;simp only[Rs]at k1 k2;unfold Bp at h
  split at h
  .rename_i h0
   cases hb:s[i.toNat]? with
   |none=>simp_all
   |some b=>
    rw[hb]at h;simp only[Option.map_some,Option.some.injEq]at h;subst h;exact⟨.int .u8 (b.toNat:Int),by simp[execOp,Instr.index,asIntOf,run_underlying hT.h,k1,k2,h0,hb],dF⟩
  .cases h
theorem Es{T:TypeId}[hT:PI P T]{x y z:Operand}{s:ByteArray}{k k':IntKind}{lo hi:Int}(h:fC s.size lo hi)(hx:ev σ.env x=some (.str s))(hy:ev σ.env y=some (.int k lo))(hz:ev σ.env z=some (.int k' hi)) :
  dH P ops ⟨some t,.slice T x (some y) (some z) none,ty,pos,af,none⟩ (tm x++tm y++tm z) [] σ ⟨[(t,.str (s.extract lo.toNat hi.toNat))],[],[]⟩ :=
 dH.val rfl rfl λC F γ σ' a w h1 _ hs=>by
  have k1:=hs.ev ((cP h1 (λ_ h=>ql)).trans hx);have k2:=hs.ev ((cP h1 (λ_ h=>ql)).trans hy);have k3:=hs.ev ((cP h1 (λ_ h=>ql)).trans hz);simp only[Rs]at k1 k2 k3;obtain⟨h1,h2,h3⟩:=h;refine⟨.string (s.extract lo.toNat hi.toNat),?_,dF⟩;have e1:(0<=hi∧hi<=((s.size:Nat):Int)):=ah;have e4:max hi 0=hi:=ah;simp[execOp,Instr.sliceAt,Instr.slice,Instr.sliceBounds,Instr.sliceBound,asIntOf,run_underlying hT.h,k1,k2,k3,e1,e4,h1,h2]
theorem FI{T:TypeId}[hT:PI P T]{x z:Operand}{s:ByteArray}{k':IntKind}{hi:Int}(h:fC s.size 0 hi)(hx:ev σ.env x=some (.str s))(hz:ev σ.env z=some (.int k' hi)) :
  dH P ops ⟨some t,.slice T x none (some z) none,ty,pos,af,none⟩ (tm x++tm z) [] σ ⟨[(t,.str (s.extract (Int.toNat 0) hi.toNat))],[],[]⟩ :=
 dH.val rfl rfl λC F γ σ' a w h1 _ hs=>by
  obtain⟨k1,k2⟩:=AQ hs h1 hx hz;simp only[Rs]at k1 k2;obtain⟨h1,h2,h3⟩:=h;refine⟨.string (s.extract (Int.toNat 0) hi.toNat),?_,dF⟩;have e1:(0<=hi∧hi<=((s.size:Nat):Int)):=ah;simp[execOp,Instr.sliceAt,Instr.slice,Instr.sliceBounds,Instr.sliceBound,asIntOf,run_underlying hT.h,k1,k2,e1]
/-! tables -/
def aiT{α:Type}(g sz:Nat)(f:α->DV)(xs:List α):Prop:=(match look Ie g with
 |some cs=>some (cs.toList.map oE)
 |none=>none)=some (xs.flatMap λx=>(f x).cs)∧(xs.map λx=>(f x).cs.length)=xs.map λ_=>sz
theorem MQ{α:Type}{g:α->List DV}{sz:Nat}:∀{xs:List α} {i:Nat} {a:α},(xs.map λx=>(g x).length)=(xs.map λ_=>sz)->xs[i]? = some a->∃rest,(xs.flatMap g).drop (i*sz)=g a++rest
 |[],i,a,_,h=>AV
 |x::xs,0,a,_,h=>by
  simp_all
 |x::xs,i+1,a,hl,h=>by
  simp only[List.map_cons,List.cons.injEq]at hl;obtain⟨rest,hr⟩:=MQ (g:=g) (sz:=sz) (i:=i) (a:=a) hl.2 (by trivial);refine⟨rest,?_⟩;rw[List.flatMap_cons,Nat.succ_mul,Nat.add_comm,<-hl.1,<-List.drop_drop,List.drop_left,hl.1];exact hr
theorem iy.ac7(a b:List DV):iy (.iv (a++b)) (.iv a):=λF γ v h=>by
 obtain⟨bb,o,cs,vs,rest,h1,h2,h3,h4⟩:=h;refine⟨bb,o,cs,vs.take a.length,vs.drop a.length++rest,h1,h2,by rw[h3,<-List.append_assoc,List.take_append_drop],?_⟩;have:=h4.take a.length
 simp_all
theorem YT{T n e sz g:Nat}[hT:te P T n e sz]{y:Operand}{k:IntKind}{m:Int}{α:Type}{f:α->DV}{xs:List α}{a:α}(ht:aiT g sz f xs)(h:idx xs m=some a)(hy:ev σ.env y=some (.int k m))(hn:xs.length=n) :
  dH P ops ⟨some t,.indexAddr T (.global g) y,ty,pos,af,none⟩ (tm (.global g)++tm y) [] σ ⟨[(t,.iv (f a).cs)],[],[]⟩:=by
 obtain⟨h0,h1⟩:=DW h;obtain⟨rest,hr⟩:=MQ (g:=λx=>(f x).cs) ht.2 h1
 have hx:ev σ.env (.global g)=some (.iv (xs.flatMap λx=>(f x).cs)):=by
  have:=ht.1;simp only[Proofs.YtaafmkmdfcgeaaaGreatDoor.ev]
  grind
 have hi:m.toNat<n:=by
  rcases Nat.lt_or_ge m.toNat xs.length with h|h
  all_goals simp_all
 exact(JQ m.toNat hx hy (CY h0) hi hr).amN (iy.ac7 _ _)
/-! maps,copies,bytes of strings -/
class aap(P:Program)(t:TypeId):Prop where
 h:∃k e,P.underlying t=some (.map k e)
theorem agM{T:TypeId}[hT:aap P T]{x:Operand}{id:Nat}{K V:Type}{ck:K->List DV}{fv:V->DV}{xs:List (K×V)}(hx:ev σ.env x=some (.row id))(hh:cF σ.heap id=some (.mp (nU ck fv xs))) :
  dH P ops ⟨some t,.call ⟨.builtin .len,#[x],#[T]⟩,ty,pos,af,none⟩ (tm x) [id] σ ⟨[(t,.int .i64 (xs.length:Int))],[],[]⟩ :=
 dH.val rfl rfl λC F γ σ' a w h1 h2 hs=>by
  have k1:=hs.ev ((cP h1 (λ_ h=>h)).trans hx);obtain⟨b,es,clock,e1,hg,hb,hR,PZ⟩:=Hc hs k1 ((h2 id aR).trans hh);obtain⟨k,e,hu⟩:=hT.h;have Gz:(getObj b).run P w = .ok (.map es clock) w:=Sy;have hl:es.size=xs.length:=by have:=hR.len;simpa [nU]using this
  exact⟨.int .i64 xs.length,ajk,dF⟩
def bytesOf(s:ByteArray):List Int:=s.data.toList.map λb=>(b.toNat:Int)
theorem ant{S T e:TypeId}{bytes:Nat}{zd:DV}[hS:PI P S][hT:lK P T e 1 bytes zd][hE:BT P e .u8]{x:Operand}{s:ByteArray}(h:s.size<=9223372036854775807)(hx:ev σ.env x=some (.str s)) :
  dH P ops ⟨some t,.convert S T x,ty,pos,af,none⟩ (tm x) [] σ ⟨[(t,.sl 1 ((bytesOf s).map (DV.int .u8)))],[],[]⟩ :=
 dH.gen rfl rfl λC F γ σ' a w h1 h2 h3 hs=>by
  have k1:=hs.ev ((cP h1 (λ_ h=>h)).trans hx);simp only[Rs]at k1;have St:uF w (Lib.bytesWorld w e s) none:=⟨dF,dF,dF,by rw[Lib.bytesWorld_size];omega,λb hb _=>Lib.bytesWorld_at_old w e s b hb⟩;have W:=hs.ws.quiet St
  have hF:F w.heap.size=none:=by
   cases hF:F w.heap.size with
   |none=>rfl
   |some cs=>exact absurd (hs.ws.flt hF) (Nat.lt_irrefl _)
  have W2:=W.data (Lib.bytesWorld_at_new w e s) hF (.inr hs.ws.size) (λuS e' g' hh oV BX=>by
   obtain⟨g1,q1,q2⟩:=hs.ws.si uS e' hh;rw[oV]at q1;injection q1 with q1;subst q1
   exact absurd (q2.lt _ BX) (Nat.lt_irrefl _))
  refine⟨.slice (some ⟨w.heap.size,0,none⟩) s.size (grownCap w s.size 0 e),Lib.bytesWorld w e s,F.up w.heap.size (Lib.bytesCells w e s),γ,by simp only[execOp,k1,Lib.run_convert_string_bytes w S T e s hS.h hT.GP hE.h,Sem.run_bind,Sem.run_pure,Result.andThen_ok],GO _ hF,nW.refl _,W2,?_⟩;have hl:(bytesOf s).length=s.size:=by simp[bytesOf]
  simp only[Rs,List.length_map,hl];refine⟨_,_,rfl,⟨(λh=>dI),grownCap_ge _ _ _ _,grownCap_le_maxLen _ _ _ _ h⟩,λ_=>⟨w.heap.size,0,Lib.bytesCells w e s,(bytesOf s).map (Value.int .u8),List.replicate (grownCap w s.size 0 e-s.size) (.int .u8 0),rfl,Py,?_,?_⟩⟩
  .simp[Lib.bytesCells,bytesOf]
  .generalize bytesOf s=l
   induction l with
   |nil=>rfl
   |cons x l ih=>
    exact⟨.int .u8 x,_,rfl,rfl,ad7,dF,ih⟩
def za{α:Type}(xs ys:List α):Nat:=min ys.length xs.length
def LG{α:Type}(xs ys:List α):List α:=ys.take (za xs ys)++xs.drop (za xs ys)
theorem Jy{T e sz bytes:Nat}{zd:DV}[hT:lK P T e sz bytes zd]{x y:Operand}{id:Nat}{α:Type}{f:α->DV}{xs ys:List α}{dy:DV}{rh:List Nat}(hx:ev σ.env x=some (.row id))(hh:cF σ.heap id=some (.row e sz (xs.map f)))(hy:ev σ.env y=some dy)(hS:Src σ sz dy (ys.map f) rh) :
  dH P ops ⟨some t,.call ⟨.builtin .copy,#[x,y],#[T,T]⟩,ty,pos,af,none⟩ (tm x++tm y) (id::rh) σ ⟨[(t,.int .i64 (za xs ys:Int))],[(id,some (.row e sz ((LG xs ys).map f)))],[]⟩ :=
 dH.gen rfl rfl λC F γ σ' a w tD h2 h3 hs=>by
  obtain⟨k1,k2⟩:=AQ hs tD hx hy;have tg:=(h2 id aR).trans hh;obtain⟨A0,c0,KZ,e0,La,PV,hE0⟩:=zZ hs k1 tg;obtain⟨A,c,vs,ey,KH,hE⟩:=hS.read hs (λi hi=>h2 i Pv) k2;obtain⟨z,wM,_⟩:=hT.h;obtain⟨i,hi,Yv,DJ,HF⟩:=wM.info;rw[List.length_map]at e0 ey PV;have Yt:=hE.len;have avI:=hE0.len;rw[List.length_map]at Yt avI;have hn:za xs ys=Nat.min ys.length xs.length:=rfl;have hn1:za xs ys<=ys.length:=Nat.min_le_left _ _;have hn2:za xs ys<=xs.length:=Nat.min_le_right _ _;have hm1:za xs ys*sz<=ys.length*sz:=Nat.mul_le_mul_right _ hn1;have hm2:za xs ys*sz<=xs.length*sz:=Nat.mul_le_mul_right _ hn2;generalize BW:vs.take (za xs ys*sz)=cs;have Em:cs.length=za xs ys*sz:=aeh;have afH:At w A cs:=BW ▸ KH.take _;have h1c:∀v∈cs,v.oneCell'=true:=λv hv=>hE.one v aeL
  have Qb:(Builtin.firstCells sz (za xs ys) (.slice A ys.length c)).run P w = .ok cs.toArray w:=by
   cases A with
   |none=>
    have:cs = []:=by
     rcases List.eq_nil_or_concat cs with h|⟨_,_,h⟩
     .exact h
     .obtain⟨b,o,h',_⟩:=afH.elim Kr
      cases h'
    subst this;rfl
   |some ad=>
    simp only[Builtin.firstCells];rw[<-Em];exact run_loadCells_list (P:=P) w ad cs (λj v hj=>afH.add j v hj)
  have mz:rm F sz ((LG xs ys).map f) (cs++KZ.drop (za xs ys*sz)):=by
   have q1:=hE.take (za xs ys);have q2:=hE0.drop (za xs ys)
   have:(LG xs ys).map f=(ys.map f).take (za xs ys)++(xs.map f).drop (za xs ys):=by
    simp[LG,List.map_take,List.map_drop]
   rw[this,<-BW];exact q1.append q2
  have yl:(sizeOf e).run P w = .ok sz w:=adS;rcases PV.2 with⟨Td,hx0⟩|⟨g,cap,cur,DP,_,hgb,hnc,hcm,aoX,htk⟩
  .have alJ:xs = []:=List.eq_nil_of_length_eq_zero hx0
   have h00:za xs ys=0:=by rw[alJ];simp[za]
   refine⟨.int .i64 (za xs ys),w,F,γ,?_,lJ.refl _,nW.refl _,?_,Cn⟩
   .subst alJ
    rw[e0]at Td;injection Td with q1 q2 q3
    subst q1;have hf0:(Builtin.firstCells sz 0 (.slice A ys.length c)).run P w = .ok cs.toArray w:=by rw[<-h00];exact Qb
    simp[execOp,resolve,invoke,builtin,Builtin.copy_,run_underlying wM.under,yl,Builtin.lenOf,e0,ey,goInt,h00,hf0]
   .refine hs.ws.congr (λi' e' EH=>?_) (λ_ h=>h)
    rw[List.singleton_append,cH]at EH
    split at EH
    .rename_i q;subst q
     injection EH with EH;subst EH
     have:(LG xs ys).map f=xs.map f:=by subst alJ;simp[LG,za]
     rw[this];exact tg
    .exact EH
  .have zb:=run_storeCells_at P g 0 e cs 0 cur w hgb (by rw[Em,aoX];have:=Nat.mul_le_mul_right sz hnc;omega) h1c
   obtain⟨s1,s2⟩:=uF.setRow (cur.toList.take (0+0)++cs++cur.toList.drop (0+0+cs.length)).toArray hgb;have hpb:fA (a.eval x)=some g:=by rw[DP];rfl
   refine⟨.int .i64 (za xs ys),w.setRow g (cur.toList.take (0+0)++cs++cur.toList.drop (0+0+cs.length)).toArray,F,γ,?_,lJ.refl _,nW.refl _,?_,Cn⟩
   .rw[e0]at DP
    injection DP with q1 q2 q3
    simp[execOp,resolve,invoke,builtin,Builtin.copy_,run_underlying wM.under,yl,Builtin.lenOf,e0,ey,q1,goInt,<-hn,Qb,zb]
   .have W:=hs.ws.GQ tg La (by rw[hpb];exact s1)
    have W2:=W.put (id0:=id) (e0:=.row e sz ((LG xs ys).map f)) La ⟨_,⟨?_,.inr ⟨g,cap,_,by rw[DP,List.length_map];congr 1;simp[LG];omega,Nat.zero_le _,s2,?_,hcm,?_,?_⟩⟩,mz⟩ (λb' je=>?_)
    .exact W2.congr (λi e hi=>wB id _ _ i e hi) (λ_ h=>h)
    .have:=mz.len;simpa using this
    .simp[LG];omega
    .simp[Em,aoX];have:=Nat.mul_le_mul_right sz hnc;omega
    .have hl:((LG xs ys).map f).length=xs.length:=by simp[LG];omega
     rw[hl];simp only[Nat.add_zero,List.take_zero,List.nil_append,Nat.zero_add,Em];rw[List.take_append,List.take_of_length_le ah,Em,<-htk,List.drop_take]
    .rw[hpb]at je
     injection je with je;subst je
     have q:=hs.ws.own id _ _ g tg La hpb;refine⟨q.1,q.2,λuS e' g' nq EJ oV BX=>?_⟩;rw[cH,if_neg (λh=>nq h.symm)]at EJ;exact nq (hs.ws.apart id uS _ e' _ g' g tg EJ La oV hpb BX).symm
end
structure EA{α:Type}(e:Nat)(f:α->List DV)(F:Nat->α):Prop where
 h:True
structure EV{α:Type}(e:Nat)(f:α->DV)(a:α):Prop where
 h:True
structure EB{α:Type}(e:Nat)(v:α):Prop where
 h:True
def cpA{α:Type}(F:Nat->α)(lo n:Nat)(ys:List α):Nat->α:=λj=>if lo<=j∧j<lo+n then(ys[j-lo]?).getD (F j)else F j
def cpL{α:Type}(n:Nat)(ys:List α):Nat:=min n ys.length
def inB(n:Nat)(l i:Int):Prop:=0<=l∧0<=i∧l+i<n
def inV(n l i:Int):Prop:=0<=l∧0<=i∧i<n
def XL{α:Type}(xs:List α)(lo n:Nat)(z:α):List α:=xs.take lo++List.replicate n z++xs.drop (lo+n)
instance (n:Nat)(l i:Int):Decidable (inB n l i):=by unfold inB;infer_instance
instance (n l i:Int):Decidable (inV n l i):=by unfold inV;infer_instance
section
variable {P:Program} {ops:Array Oper} {σ:AS} {t:Nat} {ty:TypeId} {pos:String} {af:Array Edge}
variable {T':TypeId} {u:Nat} {y:Operand} {id off T n n2 sz fo:Nat} {ds:List DV} {d:DV} {m m2 lo:Int} {k k':IntKind} {α:Type} {f:α->List DV} {F:Nat->α} {v:α}
/-! arrays in blocks: loads -/
theorem abR[hT:qe P T'](hx:ev σ.env (.tmp u)=some (.ref id (off+m.toNat*sz)))(hh:cF σ.heap id=some (.bJ T ds))(hs:EA u f F)(h:oO n m)(hl:∀x,(f x).length=sz)(hz:Nat.beq sz 1=true)(hc:(ds.drop off).take (n*sz)=(List.range n).flatMap λj=>f (F j))(hd:f (F m.toNat) = [d]) :
  dH P ops ⟨some t,.load T' (.tmp u),ty,pos,af,none⟩ (tm (.tmp u)) [id] σ ⟨[(t,d)],[],[]⟩:=by
 have e:=Nat.eq_of_beq_eq_true hz;have:=Kx f F hl ah h hc 0 (d:=d) ah nV;exact rf hx hh ah
theorem ana[hT:jM P T' sz](hx:ev σ.env (.tmp u)=some (.ref id (off+m.toNat*sz)))(hh:cF σ.heap id=some (.bJ T ds))(hs:EA u f F)(h:oO n m)(hl:∀x,(f x).length=sz)(hz:Nat.blt 0 sz=true)(hc:(ds.drop off).take (n*sz)=(List.range n).flatMap λj=>f (F j)) :
  dH P ops ⟨some t,.load T' (.tmp u),ty,pos,af,none⟩ (tm (.tmp u)) [id] σ ⟨[(t,.agg (f (F m.toNat)))],[],[]⟩ :=
 JP hx hh (aid f F hl (Nat.blt_eq ▸ hz) h hc) (Yj f F hl (Nat.blt_eq ▸ hz) h hc)
theorem anb[hT:qe P T'](hx:ev σ.env (.tmp u)=some (.ref id (off+lo.toNat*1+m.toNat*1)))(hh:cF σ.heap id=some (.bJ T ds))(hs:EA u f F)(h:inB n lo m)(hl:∀x,(f x).length=1)(hc:(ds.drop off).take (n*1)=(List.range n).flatMap λj=>f (F j))(hd:f (F (lo+m).toNat) = [d]) :
  dH P ops ⟨some t,.load T' (.tmp u),ty,pos,af,none⟩ (tm (.tmp u)) [id] σ ⟨[(t,d)],[],[]⟩:=by
 unfold inB at h;have e:off+(lo+m).toNat*1=off+lo.toNat*1+m.toNat*1:=ah;rw[<-e]at hx;exact abR hx hh hs xM hl rfl hc hd
section
variable {β:Type} {g:β->List DV} {F2:Nat->Nat->β} {f2:(Nat->β)->List DV} {x:β}
theorem anc[hT:qe P T'](hx:ev σ.env (.tmp u)=some (.ref id (off+m.toNat*sz+m2.toNat*1)))(hh:cF σ.heap id=some (.bJ T ds))(hs:EA u f2 F2)(hg:EB u g)(h:oO n m)(h2:oO n2 m2)(hl:∀x,(f2 x).length=sz)(hf:∀G,f2 G=(List.range n2).flatMap λj=>g (G j))(hg1:∀x,(g x).length=1)(hz:Nat.beq sz n2=true)(hc:(ds.drop off).take (n*sz)=(List.range n).flatMap λj=>f2 (F2 j))(hd:g (F2 m.toNat m2.toNat) = [d]) :
  dH P ops ⟨some t,.load T' (.tmp u),ty,pos,af,none⟩ (tm (.tmp u)) [id] σ ⟨[(t,d)],[],[]⟩:=by
 have e:=Nat.eq_of_beq_eq_true hz;have h2':=h2;unfold oO at h2'
 have xW:(f2 (F2 m.toNat))[m2.toNat*1]? = some d:=by
  have:=Kx (ds:=f2 (F2 m.toNat)) (off:=0) (n:=n2) (sz:=1) g (F2 m.toNat) hg1 ah h2 (by rw[List.drop_zero,hf,List.take_of_length_le];rw[wH _ (λj=>hg1 _)];omega) 0 (d:=d) ah nV
  simp_all
 exact rf hx hh (Kx f2 F2 hl ah h hc (m2.toNat*1) ah xW)
end
/-! stores -/
theorem PF(hs:∀x,(f x).length=sz)(hz:0<sz)(h:oO n m)(hc:(ds.drop off).take (n*sz)=(List.range n).flatMap λj=>f (F j))(fo:Nat){cs:List DV}(hk:fo+cs.length<=sz)(hv:vR (f (F m.toNat)) fo cs=f v) :
  vR ds (off+m.toNat*sz+fo) cs=ds.take off++((List.range n).flatMap λj=>f (tP F m.toNat v j))++ds.drop (off+n*sz):=by
 have ho:=Ea (λj=>f (F j)) (λj=>hs _) hz h hc;have hfl:=wH (λj=>f (tP F m.toNat v j)) (λj=>hs _) n;refine aic f F v hs hz h hc fo hk hv ?_ ?_ ?_
 .simp_all
 .simp_all
 .rw[List.drop_left'];simp_all
theorem anq(w:Nat)[hT:dM P T' w]{x:Operand}(hx:ev σ.env x=some (.ref id off))(hy:ev σ.env y=some d)(hh:cF σ.heap id=some (.bJ T ds))(hf:d.flat=true)(hn:w=d.cs.length)(hl:off+w<=ds.length){vN:List DV}(hd:vR ds off d.cs=vN) :
  dH P ops ⟨none,.store T' x y,ty,pos,af,none⟩ (tm x++tm y) [id] σ ⟨[],[(id,some (.bJ T vN))],[]⟩ :=
 FR hx hy hh hf eJ eJ hd
theorem aiU(w:Nat)[hT:dM P T' w](hx:ev σ.env (.tmp u)=some (.ref id (off+m.toNat*sz+fo)))(hy:ev σ.env y=some d)(hh:cF σ.heap id=some (.bJ T ds))(hs:EA u f F)(hb:EB u v)(h:oO n m)(hl:∀x,(f x).length=sz)(hf:d.flat=true)(hn:Nat.beq w d.cs.length=true)(hz:Nat.blt 0 sz=true)(hw:Nat.ble (fo+w) sz=true)(hc:(ds.drop off).take (n*sz)=(List.range n).flatMap λj=>f (F j))(hv:vR (f (F m.toNat)) fo d.cs=f v) :
  dH P ops ⟨none,.store T' (.tmp u) y,ty,pos,af,none⟩ (tm (.tmp u)++tm y) [id] σ ⟨[],[(id,some (.bJ T (ds.take off++((List.range n).flatMap λj=>f (tP F m.toNat v j))++ds.drop (off+n*sz))))],[]⟩:=by
 have e:=Nat.eq_of_beq_eq_true hn;have h0:0<sz:=Nat.blt_eq ▸ hz;have h1:fo+w<=sz:=Nat.ble_eq ▸ hw;have ho:=Ea (λj=>f (F j)) (λj=>hl _) h0 h hc;exact anq w hx hy hh hf e ah (PF hl h0 h hc fo ah hv)
theorem am6(w:Nat)[hT:dM P T' w](hx:ev σ.env (.tmp u)=some (.ref id (off+m.toNat*sz)))(hy:ev σ.env y=some d)(hh:cF σ.heap id=some (.bJ T ds))(hs:EA u f F)(hb:EB u v)(h:oO n m)(hl:∀x,(f x).length=sz)(hf:d.flat=true)(hn:Nat.beq w d.cs.length=true)(hz:Nat.blt 0 sz=true)(hw:Nat.ble w sz=true)(hc:(ds.drop off).take (n*sz)=(List.range n).flatMap λj=>f (F j))(hv:vR (f (F m.toNat)) 0 d.cs=f v) :
  dH P ops ⟨none,.store T' (.tmp u) y,ty,pos,af,none⟩ (tm (.tmp u)++tm y) [id] σ ⟨[],[(id,some (.bJ T (ds.take off++((List.range n).flatMap λj=>f (tP F m.toNat v j))++ds.drop (off+n*sz))))],[]⟩ :=
 aiU (fo:=0) w hx hy hh hs hb h hl hf hn hz eJ hc hv
section
variable {β:Type} {g:β->List DV} {F2:Nat->Nat->β} {f2:(Nat->β)->List DV} {x:β}
theorem am5[hT:dM P T' 1](hx:ev σ.env (.tmp u)=some (.ref id (off+m.toNat*sz+m2.toNat*1)))(hy:ev σ.env y=some d)(hh:cF σ.heap id=some (.bJ T ds))(hs:EA u f2 F2)(hg:EB u g)(hb:EB u x)(h:oO n m)(h2:oO n2 m2)(hl:∀x,(f2 x).length=sz)(hf2:∀G,f2 G=(List.range n2).flatMap λj=>g (G j))(hg1:∀x,(g x).length=1)(hz:Nat.beq sz n2=true)(hf:d.flat=true)(hn:Nat.beq 1 d.cs.length=true)(hc:(ds.drop off).take (n*sz)=(List.range n).flatMap λj=>f2 (F2 j))(hv:g x=d.cs) :
  dH P ops ⟨none,.store T' (.tmp u) y,ty,pos,af,none⟩ (tm (.tmp u)++tm y) [id] σ ⟨[],[(id,some (.bJ T (ds.take off++((List.range n).flatMap λj=>f2 (tP F2 m.toNat (tP (F2 m.toNat) m2.toNat x) j))++ds.drop (off+n*sz))))],[]⟩:=by
 have e:=Nat.eq_of_beq_eq_true hz;have e1:=Nat.eq_of_beq_eq_true hn;have h2':=h2;unfold oO at h2';have ho:=Ea (λj=>f2 (F2 j)) (λj=>hl _) ah h hc
 have xW:vR (f2 (F2 m.toNat)) (m2.toNat*1) d.cs=f2 (tP (F2 m.toNat) m2.toNat x):=by
  have:=PF (ds:=f2 (F2 m.toNat)) (off:=0) (n:=n2) (sz:=1) (f:=g) (F:=F2 m.toNat) (v:=x) (m:=m2) hg1 ah h2 (by rw[List.drop_zero,hf2,List.take_of_length_le];rw[wH _ (λj=>hg1 _)];omega) 0 (cs:=d.cs) ah (by
   unfold vR
   simp_all)
  rw[List.take_zero,List.nil_append,List.drop_of_length_le (by rw[hl];omega),List.append_nil,<-hf2]at this
  simp_all
 exact anq 1 hx hy hh hf e1 ah (PF hl ah h hc (m2.toNat*1) ah xW)
end
/-! pointers -/
theorem OM{x:Operand}{i z o:Nat}(hx:ev σ.env x=some (.rp id i z o)):dH P ops ⟨some t,.nilCheck x,ty,pos,af,none⟩ (tm x) [] σ ⟨[(t,.rp id i z o)],[],[]⟩ :=
 dH.val rfl rfl λC F γ σ' a w h1 h2 hs=>by
  have k1:=hs.ev ((cP h1 (λ_ h=>h)).trans hx);have k2:=k1;obtain⟨b,n,c,hg,e⟩:=k1;exact⟨.pointer (some ⟨b,i*z+o,none⟩),Vu,eJ⟩
/-! slices of arrays -/
theorem JL{e:Nat}[hT:te P T n e sz]{x:Operand}{lo hi:Option Operand}(l h:Nat)(hx:ev σ.env x=some (.ref id off))(hl:Bd σ lo 0 l)(hh:Bd σ hi n h)(h1:l<=h)(h2:h<=n)(hz:0<n-l) :
  dH P ops ⟨some t,.slice T x lo hi none,ty,pos,af,none⟩ (tm x++Li lo++Li hi) [] σ ⟨[(t,.Nw id (off+l*sz) (h-l))],[],[]⟩ :=
 dH.val rfl rfl λC F γ σ' a w tD _ hs=>by
  have k1:=hs.ev ((cP tD (λ_ h=>ql)).trans hx);obtain⟨b,hg,e⟩:=k1
  have je:(Instr.sliceBounds false n n (lo.map a.eval) (hi.map a.eval) none).run P w = .ok (l,h,n) w:=by
   have e1:∀x k n,ev σ'.env x=some (.int k n)->a.eval x = .int k n:=λx k n hx=>aes
   have hl':=hl.agree tD (λ_ h=>ql);have tg:=hh.agree tD (λ_ h=>ql);cases lo with
   |none=>
    cases hi with
    |none=>subst hl';subst tg;rfl
    |some y=>
     obtain⟨k,hk⟩:=tg;subst hl';simp[Instr.sliceBounds,e1 _ _ _ hk,rA h2]
   |some x=>
    obtain⟨k',Cs⟩:=hl';cases hi with
    |none=>subst tg;simp[Instr.sliceBounds,e1 _ _ _ Cs,rA h1]
    |some y=>
     obtain⟨k,hk⟩:=tg;simp[Instr.sliceBounds,e1 _ _ _ hk,e1 _ _ _ Cs,rA h2,rA h1]
  refine⟨.slice (some ⟨b,off+l*sz,none⟩) (h-l) (n-l),?_,by exact⟨b,n-l,hg,rfl,ah⟩⟩;have hnl:¬n-l=0:=ah;have avK:¬n=l:=ah
  by_cases h0:l*sz=0
  .simp[execOp,Instr.sliceAt,e,run_underlying hT.u,Instr.sureAddr,je,hT.size,Addr.add,hnl,h0]
  .simp[execOp,Instr.sliceAt,e,run_underlying hT.u,Instr.sureAddr,je,hT.size,Addr.add,hnl,avK,h0]
theorem Uw{e:Nat}[hT:te P T n e sz]{x a:Operand}(h:fC n lo (n:Int))(hn:lo<n)(hx:ev σ.env x=some (.ref id off))(ha:ev σ.env a=some (.int k lo)) :
  dH P ops ⟨some t,.slice T x (some a) none none,ty,pos,af,none⟩ (tm x++Li (some a)++Li none) [] σ ⟨[(t,.Nw id (off+lo.toNat*sz) ((n:Int)-lo).toNat)],[],[]⟩:=by
 unfold fC at h;exact(JL lo.toNat n hx (Bd.at ha ah) Bd.no ah (Nat.le_refl _) ah).cast VB
theorem QS{e:Nat}[hT:te P T n e sz]{x a b:Operand}(h:fC n lo m)(hn:lo<n)(hx:ev σ.env x=some (.ref id off))(ha:ev σ.env a=some (.int k lo))(hb:ev σ.env b=some (.int k' m)) :
  dH P ops ⟨some t,.slice T x (some a) (some b) none,ty,pos,af,none⟩ (tm x++Li (some a)++Li (some b)) [] σ ⟨[(t,.Nw id (off+lo.toNat*sz) (m-lo).toNat)],[],[]⟩:=by
 unfold fC at h;exact(JL lo.toNat m.toNat hx (Bd.at ha ah) (Bd.at hb ah) ah ah ah).cast VB
theorem YS{e:Nat}[hT:te P T n e sz]{x y:Operand}{i:Nat}(hx:ev σ.env x=some (.ref id off))(hy:ev σ.env y=some (.int k m))(hm:m=(i:Int))(hi:i<n) :
  dH P ops ⟨some t,.indexAddr T x y,ty,pos,af,none⟩ (tm x++tm y) [] σ ⟨[(t,.ref id (off+i*sz))],[],[]⟩:=Ey i hx hy hm hi
theorem Mh{e:Nat}{bytes:Nat}{zd:DV}[hT:lK P T e 1 bytes zd]{x y:Operand}{q:Nat}(h:(0:Int)<=m∧m<(q:Int))(hx:ev σ.env x=some (.Nw id off q))(hy:ev σ.env y=some (.int k m)) :
  dH P ops ⟨some t,.indexAddr T x y,ty,pos,af,none⟩ (tm x++tm y) [] σ ⟨[(t,.ref id (off+m.toNat*1))],[],[]⟩ :=
 dH.val rfl rfl λC F γ σ' a w tD _ hs=>by
  obtain⟨k1,k2⟩:=AQ hs tD hx hy;simp only[Rs]at k1 k2;obtain⟨b,c,hg,e1,hqc⟩:=k1;obtain⟨z,wM,_⟩:=hT.h;obtain⟨i,hi,Yv,DJ,HF⟩:=wM.info;obtain⟨j,rfl⟩:=Int.eq_ofNat_of_zero_le h.1;have my:j<q:=ah;refine⟨.pointer (some ⟨b,off+j*1,none⟩),?_,Sx⟩
  by_cases h0:j=0
  .simp[execOp,Instr.indexAt,e1,k2,asIntOf,run_underlying wM.under,my,sizeOf,typeInfo,hi,Addr.add,h0]
   omega
  .simp[execOp,Instr.indexAt,e1,k2,asIntOf,run_underlying wM.under,my,sizeOf,typeInfo,hi,DJ,Addr.add,h0]
/-! views of rows -/
theorem Mt{e:Nat}{yd:Nat}{zd:DV}[hT:lK P T e sz yd zd]{x:Operand}{lo hi:Option Operand}{eC:List DV}(l h:Nat)(hx:ev σ.env x=some (.row id))(hh:cF σ.heap id=some (.row e sz eC))(hl:Bd σ lo 0 l)(hb:Bd σ hi eC.length h)(h1:l<=h)(h2:h<=eC.length) :
  dH P ops ⟨some t,.slice T x lo hi none,ty,pos,af,none⟩ (tm x++Li lo++Li hi) [id] σ ⟨[(t,.rv id l (h-l) sz)],[],[]⟩ :=
 dH.val rfl rfl λC F γ σ' a w tD EJ hs=>by
  have k1:=hs.ev ((cP tD (λ_ h=>ql)).trans hx);obtain⟨A0,c0,KZ,e0,La,PV,hE0⟩:=zZ hs k1 ((EJ id aR).trans hh)
  have hc:eC.length<=c0:=by
   rcases PV.2 with⟨q,q2⟩|⟨b,cap,cur,q,_,_,q2,_⟩
   all_goals simp_all
  have hbd:=Bt (P:=P) hs (hl.agree tD (λ_ h=>ql)) (hb.agree tD (λ_ h=>ql)) h1 (Nat.le_trans h2 hc);refine⟨.slice (if c0=l then A0 else A0.map (·.add (l*sz))) (h-l) (c0-l),?_,?_⟩
  .simp[execOp,Instr.sliceAt,Instr.slice,run_underlying hT.GP,e0,hbd,hT.size]
  .refine⟨A0,eC.length,c0,nV,?_,ah⟩
   by_cases q:c0=l
   .simp_all
   .rw[if_neg q,if_neg ah]
section
variable {α:Type} {f:α->DV} {xs:List α}
theorem YP{e:Nat}{yd:Nat}{zd:DV}[hT:lK P T e sz yd zd]{x a:Operand}(h:fC xs.length lo xs.length)(hx:ev σ.env x=some (.row id))(hh:cF σ.heap id=some (.row e sz (xs.map f)))(ha:ev σ.env a=some (.int k lo)) :
  dH P ops ⟨some t,.slice T x (some a) none none,ty,pos,af,none⟩ (tm x++Li (some a)++Li none) [id] σ ⟨[(t,.rv id lo.toNat ((xs.length:Int)-lo).toNat sz)],[],[]⟩:=by
 unfold fC at h;exact(Mt lo.toNat (xs.map f).length hx hh (Bd.at ha ah) Bd.no eJ (Nat.le_refl _)).cast (by rw[List.length_map];congr 4;omega)
theorem Uv{e:Nat}{yd:Nat}{zd:DV}[hT:lK P T e sz yd zd]{x a b:Operand}(h:fC xs.length lo m)(hx:ev σ.env x=some (.row id))(hh:cF σ.heap id=some (.row e sz (xs.map f)))(ha:ev σ.env a=some (.int k lo))(hb:ev σ.env b=some (.int k' m)) :
  dH P ops ⟨some t,.slice T x (some a) (some b) none,ty,pos,af,none⟩ (tm x++Li (some a)++Li (some b)) [id] σ ⟨[(t,.rv id lo.toNat (m-lo).toNat sz)],[],[]⟩:=by
 unfold fC at h;exact(Mt lo.toNat m.toNat hx hh (Bd.at ha ah) (Bd.at hb ah) ah eJ).cast VB
theorem agK{e:TypeId}{KJ yd:Nat}{zd:DV}[hT:lK P T e KJ yd zd]{x:Operand}{l q z:Nat}(hx:ev σ.env x=some (.rv id l q z)):dH P ops ⟨some t,.call ⟨.builtin .len,#[x],#[T]⟩,ty,pos,af,none⟩ (tm x) [] σ ⟨[(t,.int .i64 (q:Int))],[],[]⟩ :=
 dH.val rfl rfl λC F γ σ' a w h1 h2 hs=>by
  have k1:=hs.ev ((cP h1 (λ_ h=>h)).trans hx);obtain⟨A,k,c,_,e,_⟩:=k1;exact⟨.int .i64 q,IZ hT.GP _ x rfl a w e,dF⟩
theorem Me{e:Nat}{bytes:Nat}{zd:DV}[hT:lK P T e sz bytes zd]{x y:Operand}{q:Nat}{eC:List DV}(h:inV (q:Int) lo m)(hx:ev σ.env x=some (.rv id lo.toNat q sz))(hh:cF σ.heap id=some (.row e sz eC))(hy:ev σ.env y=some (.int k m)) :
  dH P ops ⟨some t,.indexAddr T x y,ty,pos,af,none⟩ (tm x++tm y) [id] σ ⟨[(t,.rp id (lo+m).toNat sz 0)],[],[]⟩ :=
 dH.val rfl rfl λC F γ σ' a w tD EJ hs=>by
  obtain⟨k1,k2⟩:=AQ hs tD hx hy;simp only[Rs]at k1 k2;obtain⟨A,k,c,hg,e1,hqc⟩:=k1;unfold inV at h;obtain⟨z,wM,_⟩:=hT.h;obtain⟨i,hi,Yv,DJ,HF⟩:=wM.info;obtain⟨g,vO,afI⟩:=hs.ws.si id _ ((EJ id aR).trans hh);rw[hg]at vO;injection vO with vO;subst vO
  obtain⟨vs,ho,hE⟩:=afI;obtain⟨j,rfl⟩:=Int.eq_ofNat_of_zero_le h.2.1;have my:j<q:=ah
  have hA:∃b,A=some ⟨b,0,none⟩:=by
   rcases ho.2 with⟨p,_⟩|⟨b,cap,cur,p,_⟩
   all_goals simp_all
  obtain⟨b,rfl⟩:=hA;rw[if_neg ah]at e1
  have ea:((⟨b,0,none⟩:Addr).add (lo.toNat*sz)).add (j*sz)=⟨b,(lo+(j:Int)).toNat*sz+0,none⟩:=by
   have:(lo+(j:Int)).toNat=lo.toNat+j:=ah;rw[Addr.add_lit,Addr.add_lit,this,Nat.add_mul];simp
  refine⟨.pointer (some ⟨b,(lo+(j:Int)).toNat*sz+0,none⟩),?_,Sx⟩;rw[<-ea];simp[execOp,Instr.indexAt,e1,k2,asIntOf,run_underlying wM.under,my,sizeOf,typeInfo,hi,DJ]
end
end
/-! functions for which the model stands in -/
class CEx(P:Program)(f:FuncId)(e:outParam (Array Value->Sem Value)):Prop where
 h:∀args w,(callFunc f args).run P w=((e args).run P w).andThen λv w'=>.ok (.value v) w'
section
variable {P:Program} {ops:Array Oper} {σ:AS} {t:Nat} {ty:TypeId} {pos:String} {af:Array Edge}
theorem WO{f:FuncId}{e:Array Value->Sem Value}[hE:CEx P f e]{xs:Array Operand}{ats:Array TypeId}{a:Act}{w:World}{v:Value}{vs:Array Value}(hx:xs.map a.eval=vs)(hr:(e vs).run P w = .ok v w) :
  (execOp a.eval ⟨some t,.call ⟨.value (.func f),xs,ats⟩,ty,pos,af,none⟩).run P w = .ok (.value v) w:=by
 have:=hE.h vs w;simp[execOp,resolve,Deferred.ofValue,invoke,Act.eval,hx,this,hr]
theorem ag8{f:FuncId}[hE:CEx P f Extern.AbiNoEscape.same]{x:Operand}{ats:Array TypeId}{d:DV}(hx:ev σ.env x=some d) :
  dH P ops ⟨some t,.call ⟨.value (.func f),#[x],ats⟩,ty,pos,af,none⟩ (tm x) [] σ ⟨[(t,d)],[],[]⟩ :=
 dH.val rfl rfl λC F γ σ' a w h1 _ hs=>⟨a.eval x,WO (vs:=#[a.eval x]) aR (Lib.run_noEscape w _),hs.ev ((cP h1 (λ_ h=>h)).trans hx)⟩
theorem akv{f:FuncId}[hE:CEx P f Extern.BytealgIndexByte.indexByte]{x y:Operand}{ats:Array TypeId}{s:ByteArray}{c:Int}(hx:ev σ.env x=some (.str s))(hy:ev σ.env y=some (.int .u8 c)) :
  dH P ops ⟨some t,.call ⟨.value (.func f),#[x,y],ats⟩,ty,pos,af,none⟩ (tm x++tm y) [] σ ⟨[(t,.int .i64 (firstIdx s c.toNat.toUInt8))],[],[]⟩ :=
 dH.val rfl rfl λC F γ σ' a w h1 _ hs=>by
  obtain⟨k1,k2⟩:=AQ hs h1 hx hy;simp only[Rs]at k1 k2;exact⟨_,WO (vs:=#[.string s,.int .u8 c]) nV (run_indexByte_string s c w),dF⟩
/-! pointers turned -/
class CUp(P:Program)(S T:TypeId):Prop where
 h:∃t,P.underlying S=some (.pointer t)∧P.underlying T=some .unsafePointer∧(P.info? t).map (λj=>Nat.beq j.size 0)=some false
class CDn(P:Program)(S T:TypeId)(u:outParam TypeId):Prop where
 h:P.underlying S=some .unsafePointer∧P.underlying T=some (.pointer u)∧(P.info? u).isSome=true
theorem Mr{C:Ctx}{F:dj}{γ:eD}{σ':AS}{a:Act}{w:World}(hs:Sat C F γ σ' a w){id off:Nat}{T:TypeId}{ds:List DV}{v:Value}(hv:Rs F γ (.ref id off) v)(hh:cF σ'.heap id=some (.bJ T ds)):∃b,v = .pointer (some ⟨b,off,none⟩)∧w.shape? b=some (T,ds.length):=by
 obtain⟨b,cs,e,hg,hb,hrl⟩:=UJ hs hv hh;refine⟨b,e,?_⟩;have:=hrl.len;simp at this;simp[World.shape?,hb,this]
theorem Zt{S T:TypeId}[hT:CUp P S T]{x:Operand}{id off:Nat}{T0:TypeId}{ds:List DV}(hx:ev σ.env x=some (.ref id off))(hh:cF σ.heap id=some (.bJ T0 ds))(hl:Nat.blt off ds.length=true) :
  dH P ops ⟨some t,.convert S T x,ty,pos,af,none⟩ (tm x) [id] σ ⟨[(t,.ref id off)],[],[]⟩ :=
 dH.val rfl rfl λC F γ σ' a w h1 h2 hs=>by
  have k1:=hs.ev ((cP h1 (λ_ h=>h)).trans hx);obtain⟨b,e,hsh⟩:=Mr hs k1 ((h2 id aR).trans hh);obtain⟨t',q1,q2,q3⟩:=hT.h;obtain⟨j,q3,q4⟩:=Option.map_eq_some_iff.1 q3;have q4:j.size≠0:=λe=>eJ
  refine⟨a.eval x,?_,k1⟩;have:=Lib.run_to_unsafe w ⟨b,off,none⟩ q1 q2 q3 q4 hsh eJ;simp[execOp,e,this]
theorem Zu{S T u:TypeId}[hT:CDn P S T u]{x:Operand}{id off:Nat}{T0:TypeId}{ds:List DV}(hx:ev σ.env x=some (.ref id off))(hh:cF σ.heap id=some (.bJ T0 ds))(hl:liesAt P P.depth T0 (ds.length / P.cellsOf T0) off u 1=true) :
  dH P ops ⟨some t,.convert S T x,ty,pos,af,none⟩ (tm x) [id] σ ⟨[(t,.ref id off)],[],[]⟩ :=
 dH.val rfl rfl λC F γ σ' a w h1 h2 hs=>by
  have k1:=hs.ev ((cP h1 (λ_ h=>h)).trans hx);obtain⟨b,e,hsh⟩:=Mr hs k1 ((h2 id aR).trans hh);obtain⟨q1,q2,q3⟩:=hT.h;obtain⟨j,q3⟩:=Option.isSome_iff_exists.1 q3;refine⟨a.eval x,?_,k1⟩;have:=Lib.run_from_unsafe w ⟨b,off,none⟩ q1 q2 q3 hsh hl;simp[execOp,e,this]
class CPi(P:Program)(T:TypeId)(u:outParam TypeId):Prop where
 h:P.underlying T=some (.pointer u)∧(P.info? u).isSome=true
theorem Zl{T T' u:TypeId}[hT:CPi P T u]{x y:Operand}{id off:Nat}(hx:ev σ.env x=some (.ref id off))(hy:ev σ.env y=some (.ref id off)) :
  dH P ops ⟨some t,.binOp .neq T x y T',ty,pos,af,none⟩ (tm x++tm y) [] σ ⟨[(t,.bool false)],[],[]⟩ :=
 dH.val rfl rfl λC F γ σ' a w h1 _ hs=>by
  obtain⟨k1,k2⟩:=AQ hs h1 hx hy;obtain⟨b,hg,e1⟩:=k1;obtain⟨b',oV,e2⟩:=k2;rw[hg]at oV;injection oV with oV;injection oV with oV;injection oV with oV;injection oV with oV
  subst oV;obtain⟨q1,q2⟩:=hT.h;obtain⟨j,q2⟩:=Option.isSome_iff_exists.1 q2;refine⟨.bool false,?_,dF⟩;have:=Lib.run_neq_ptr_same (P:=P) w ⟨b,off,none⟩ q1 q2;have e3:eqGuard .neq T x y (.pointer (some ⟨b,off,none⟩)) (.pointer (some ⟨b,off,none⟩))=pure ():=rfl;simp only[execOp,e1,e2,e3,Sem.run_bind,Sem.run_pure,Result.andThen_ok,this]
/-! pointers that may be nil -/
theorem aby(id off:Nat):iy (.val (.pointer none)) (.np id off):=λF γ v h=>by exact .inl h
theorem iy.at4(id off:Nat):iy (.ref id off) (.np id off):=λF γ v h=>by exact .inr h
theorem fZ.anj{F:dj}{γ:eD}{ds:List DV}{vs:List Value}{j:Nat}{v:Value}{d':DV}(h:fZ F γ ds vs)(hv:vs[j]? = some v)(ho:v.oneCell'=true)(hd:Rs F γ d' v):fZ F γ (ds.set j d') vs :=
 EN (by rw[List.length_set];exact h.len) λi d hi=>by
  rw[List.getElem?_set]at hi
  by_cases DM:j=i
  .simp_all
  .rw[if_neg DM]at hi;exact h.get hi
theorem Sat.word{C:Ctx}{F:dj}{γ:eD}{a:Act}{w:World}{id:Nat}{e e':HE}(hs:Sat C F γ σ a w)(hh:cF σ.heap id=some e)(hE:∀g,γ id=some g->Gy F γ w e g->Gy F γ w e' g):Sat C F γ ⟨σ.env,(id,some e')::σ.heap,σ.used⟩ a w:=by
 obtain⟨g,hg,he⟩:=hs.ws.si id e hh;refine⟨hs.env,?_,hs.size,hs.defers⟩;refine hs.ws.put hg (hE g hg he) (λb hb=>?_);have q:=hs.ws.own id _ _ b hh hg hb;exact⟨q.1,q.2,λi e'' g' nq hi Tf Th=>nq (hs.ws.apart i id e'' _ g' _ b hi hh Tf hg Th hb)⟩
theorem abA{id j i o:Nat}{T:TypeId}{ds:List DV}(hh:cF σ.heap id=some (.bJ T ds))(hj:ds[j]? = some (.val (.pointer none))):jP σ ⟨σ.env,(id,some (.bJ T (ds.set j (.np i o))))::σ.heap,σ.used⟩:=λC F γ a w hs=>
 ⟨F,γ,hs.word hh λg hg he=>by
  obtain⟨b,cs,e1,e2,hl⟩:=he;obtain⟨v,q1,q2,q3⟩:=hl.get hj;exact⟨b,cs,e1,e2,hl.anj q1 q2 (aby i o F γ v q3)⟩⟩
theorem auY{n:Nat}{c:Code}{Q:Exit->AS->Prop}{id j i o:Nat}{T:TypeId}{ds:List DV}(hh:cF σ.heap id=some (.bJ T ds))(hj:ds[j]? = some (.np i o))(h1:gL P n c Q ⟨σ.env,(id,some (.bJ T (ds.set j (.val (.pointer none)))))::σ.heap,σ.used⟩)(h2:gL P n c Q ⟨σ.env,(id,some (.bJ T (ds.set j (.ref i o))))::σ.heap,σ.used⟩):gL P n c Q σ:=λC F γ a w hn hs=>by
 obtain⟨g,hg,b,cs,e1,e2,hl⟩:=hs.ws.si id _ hh;obtain⟨v,q1,q2,q3⟩:=hl.get hj;rcases q3 with q3|q3
 .exact h1 C F γ a w hn (hs.word hh λg' oV _=>ajq)
 .exact h2 C F γ a w hn (hs.word hh λg' oV _=>ajq)
end
/-! copies into arrays -/
theorem rm.anm{F:dj}{γ:eD}:∀{ds:List DV} {vs:List Value},(∀d∈ds,d.one=true)->rm F 1 ds vs->fZ F γ ds vs
 |[],vs,_,h=>by exact h
 |d::ds,vs,ho,h=>by
  obtain⟨v,rest,e,h1,h2,h3,h4⟩:=h;have h5:=h3.one HD.no (ho d aR);rw[wW h5]at e;exact⟨v,rest,e,h5,h3.mono (lJ.refl _) (nW.no _),h4.anm (λx hx=>ho x Gp)⟩
theorem fZ.lay{F:dj}{γ:eD}{ds cs:List DV}{vs us:List Value}(h:fZ F γ ds vs)(k:fZ F γ cs us)(o:Nat):fZ F γ (vR ds o cs) (vs.take o++us++vs.drop (o+us.length)):=by
 rw[k.len];exact((h.take o).append k).append (h.drop _)
section
variable {P:Program} {ops:Array Oper} {σ:AS} {t:Nat} {ty:TypeId} {pos:String} {af:Array Edge}
theorem acn{T e bytes:Nat}{zd:DV}[hT:lK P T e 1 bytes zd]{x y:Operand}{id o q T0:Nat}{ds ys:List DV}{dy:DV}{rh:List Nat}(hx:ev σ.env x=some (.Nw id o q))(hh:cF σ.heap id=some (.bJ T0 ds))(hy:ev σ.env y=some dy)(hS:Src σ 1 dy ys rh)(h1:∀d∈ys,d.one=true)(hl:o+min q ys.length<=ds.length) :
  dH P ops ⟨some t,.call ⟨.builtin .copy,#[x,y],#[T,T]⟩,ty,pos,af,none⟩ (tm x++tm y) (id::rh) σ ⟨[(t,.int .i64 ((min q ys.length:Nat):Int))],[(id,some (.bJ T0 (vR ds o (ys.take (min q ys.length)))))],[]⟩ :=
 dH.gen rfl rfl λC F γ σ' a w tD h2 h3 hs=>by
  obtain⟨k1,k2⟩:=AQ hs tD hx hy;have tg:=(h2 id aR).trans hh;obtain⟨b,c0,La,e0,hqc⟩:=k1;obtain⟨g,hg,b',cs,eg,hb,hrl⟩:=hs.ws.si id _ tg;rw[La]at hg;injection hg with hg;rw[<-hg]at eg;injection eg with eg;injection eg with eg;injection eg with eg;subst eg
  obtain⟨A,c,vs,ey,KH,hE⟩:=hS.read hs (λi hi=>h2 i Pv) k2;obtain⟨z,wM,_⟩:=hT.h;obtain⟨i,hi,Yv,DJ,HF⟩:=wM.info;have Yt:=hE.len;have aMa:=hrl.len;have avL:min q ys.length=Nat.min ys.length q:=Nat.min_comm _ _;generalize hN:min q ys.length=N at *;generalize BW:vs.take N=us;have hul:us.length=N:=aeh;have afH:At w A us:=BW ▸ KH.take _;have h1u:∀v∈us,v.oneCell'=true:=λv hv=>hE.one v aeL
  have Qb:(Builtin.firstCells 1 N (.slice A ys.length c)).run P w = .ok us.toArray w:=by
   cases A with
   |none=>
    have:us = []:=by
     rcases List.eq_nil_or_concat us with h|⟨_,_,h⟩
     .exact h
     .obtain⟨b,o,h',_⟩:=afH.elim Kr
      cases h'
    subst this;rfl
   |some ad=>
    simp only[Builtin.firstCells];rw[<-hul];have:=run_loadCells_list (P:=P) w ad us (λj v hj=>afH.add j v hj);simpa using this
  have mz:fZ F γ (ys.take N) us:=by
   have:=(hE.take N);rw[Nat.mul_one]at this;rw[<-BW];exact this.anm (λd hd=>h1 d (List.mem_of_mem_take hd))
  have yl:(sizeOf e).run P w = .ok 1 w:=adS;have zb:=run_storeCells_at P b o T0 us 0 cs w hb eJ h1u;obtain⟨s1,s2⟩:=uF.setRow (cs.toList.take (o+0)++us++cs.toList.drop (o+0+us.length)).toArray hb;refine⟨.int .i64 N,w.setRow b (cs.toList.take (o+0)++us++cs.toList.drop (o+0+us.length)).toArray,F,γ,?_,lJ.refl _,nW.refl _,?_,Cn⟩
  .simp[execOp,resolve,invoke,builtin,Builtin.copy_,run_underlying wM.under,yl,Builtin.lenOf,e0,ey,goInt,<-avL,Qb,zb]
  .have s1':uF w (w.setRow b (cs.toList.take (o+0)++us++cs.toList.drop (o+0+us.length)).toArray) (fA (.pointer (some ⟨b,0,none⟩))):=s1
   have W:=hs.ws.GQ tg La s1';have W2:=W.put (id0:=id) (e0:=.bJ T0 (vR ds o (ys.take N))) La ⟨b,_,rfl,s2,?_⟩ (λb' je=>?_)
   .exact W2.congr (λi e hi=>wB id _ _ i e hi) (λ_ h=>h)
   .have:=hrl.lay mz o
    omega
   .have ho:=hs.ws.own id _ _ b' tg La je
    refine⟨ho.1,ho.2,λi e g nq hi Tf Th=>?_⟩;rw[cH]at hi
    split at hi
    .cases hi
    .exact nq (hs.ws.apart i id e _ g _ b' hi tg Tf La Th je)
theorem ahu{α:Type}{fd:α->DV}{f:α->List DV}{F:Nat->α}{ys:List α}{ds:List DV}{off n l N q:Nat}(hf:∀x,f x = [fd x])(hc:(ds.drop off).take (n*1)=(List.range n).flatMap λj=>f (F j))(ho:off+n<=ds.length)(hq:l+q<=n)(hN:N=min q ys.length) :
  vR ds (off+l) ((ys.map fd).take N)=ds.take off++((List.range n).flatMap λj=>f (cpA F l q ys j))++ds.drop (off+n*1):=by
 have hfm:∀G:Nat->α,((List.range n).flatMap λj=>f (G j))=(List.range n).map λj=>fd (G j):=λG=>by
  rw[List.flatMap_def,show(λj=>f (G j))=λj=>[fd (G j)] from funext λj=>hf _]
  induction List.range n with
  |nil=>rfl
  |cons a l ih=>simp_all
 rw[hfm]at hc |-
 have cF:∀j,j<n->ds[off+j]? = some (fd (F j)):=λj hj=>by
  have:=congrArg (λx:List DV=>x[j]?) hc;simp only[List.getElem?_take,List.getElem?_drop,List.getElem?_map,List.getElem?_range hj,Nat.mul_one,hj]at this;exact this
 have ht:(List.take off ds).length=off:=zG;have ht2:(List.take (off+l) ds).length=off+l:=zG;have ht3:((ys.map fd).take N).length=N:=eJ;have ht4:((List.range n).map λj=>fd (cpA F l q ys j)).length=n:=aR;apply List.ext_getElem?;intro i;unfold vR;rw[ht3,Nat.mul_one];rcases Nat.lt_or_ge i off with h1|h1
 .rw[List.append_assoc,List.getElem?_append_left ah,List.append_assoc,List.getElem?_append_left ah,List.getElem?_take,List.getElem?_take,if_pos h1,if_pos ah]
 .rcases Nat.lt_or_ge i (off+n)with h2|h2
  .obtain⟨j,rfl⟩:∃j,i=off+j:=⟨i-off,ah⟩
   have eR:(List.take off ds++(List.map (λj=>fd (cpA F l q ys j)) (List.range n))++List.drop (off+n) ds)[off+j]? = some (fd (cpA F l q ys j)):=by
    rw[List.append_assoc,List.getElem?_append_right ah,ht,List.getElem?_append_left ah,List.getElem?_map,show off+j-off=j by omega,List.getElem?_range ah,Option.map_some]
   rw[eR];rcases Nat.lt_or_ge j l with h3|h3
   .rw[List.append_assoc,List.getElem?_append_left ah,List.getElem?_take,if_pos ah,cF j ah]
    unfold cpA;rw[if_neg ah]
   .rcases Nat.lt_or_ge j (l+N)with h4|h4
    .rw[List.append_assoc,List.getElem?_append_right ah,ht2,List.getElem?_append_left ah,List.getElem?_take,if_pos ah,List.getElem?_map]
     unfold cpA;rw[if_pos ah,show off+j-(off+l)=j-l by omega,List.getElem?_eq_getElem ah]
     rfl
    .rw[List.getElem?_append_right Ya,List.length_append,ht2,ht3,List.getElem?_drop,show off+l+N+(off+j-(off+l+N))=off+j by omega,cF j ah]
     unfold cpA
     split
     .rw[List.getElem?_eq_none ah];rfl
     .rfl
  .rw[List.getElem?_append_right Ya,List.getElem?_append_right Ya,List.length_append,List.length_append,ht,ht2,ht3,ht4,List.getElem?_drop,List.getElem?_drop]
   congr 1;omega
theorem Mi{T e bytes:Nat}{zd:DV}[hT:lK P T e 1 bytes zd]{u:Nat}{y:Operand}{id off n T0:Nat}{lo m:Int}{ds:List DV}{α:Type}{fd:α->DV}{f:α->List DV}{F:Nat->α}{ys:List α}{dy:DV}{rh:List Nat}(hx:ev σ.env (.tmp u)=some (.Nw id (off+lo.toNat*1) (m-lo).toNat))(hh:cF σ.heap id=some (.bJ T0 ds))(hy:ev σ.env y=some dy)(hs:EA u f F)(hn:EB u n)(hq:fC n lo m)(hS:Src σ 1 dy (ys.map fd) rh)(hf:∀x,f x = [fd x])(h1:∀x,(fd x).one=true)(ho:Nat.ble (off+n) ds.length=true)(hc:(ds.drop off).take (n*1)=(List.range n).flatMap λj=>f (F j)) :
  dH P ops ⟨some t,.call ⟨.builtin .copy,#[.tmp u,y],#[T,T]⟩,ty,pos,af,none⟩ (tm (.tmp u)++tm y) (id::rh) σ ⟨[(t,.int .i64 (cpL (m-lo).toNat ys:Int))],[(id,some (.bJ T0 (ds.take off++((List.range n).flatMap λj=>f (cpA F lo.toNat (m-lo).toNat ys j))++ds.drop (off+n*1))))],[]⟩:=by
 have Jk:=Nat.ble_eq ▸ ho;unfold fC at hq;have hm:min (m-lo).toNat ys.length=min (m-lo).toNat (ys.map fd).length:=aR;have:=ahu (l:=lo.toNat) (q:=(m-lo).toNat) hf hc Jk ah hm.symm;refine(acn hx hh hy hS (λd hd=>by obtain⟨x,_,rfl⟩:=List.mem_map.1 hd;exact h1 x) ah).cast ?_;rw[Nat.mul_one];rw[<-hm]at this |-;rw[<-this];rfl
/-! texts that are built -/
class CBs(P:Program)(T U:TypeId)(e:outParam TypeId):Prop where
 h:P.underlying T=some (.slice e)∧P.underlying U=some .string∧(P.info? e).map (λi=>(i.zero,i.size,i.bytes))=some (some (.int .u8 0),1,1)
theorem Re(s:ByteArray):Lib.strCells s=(bytesOf s).map (Value.int .u8):=by simp[Lib.strCells,bytesOf]
theorem Rk(w:World){T U e:TypeId}[hB:CBs P T U e](ty:TypeId){v:Value}{n:Nat}{xs:List Value}(DK:w.ownsRow 0 e 1 v n xs)(s:ByteArray)(hb:n+s.size<=140737488355328) :
  ∃A' c' w',(Builtin.append_ #[T,U] ty #[v,.string s]).run P w = .ok (.slice A' (n+s.size) c') w'∧w'.ownsRow 0 e 1 (.slice A' (n+s.size) c') (n+s.size) (xs++Lib.strCells s)∧w.grownBy w' v.ownBlock ∧
   ((Value.slice A' (n+s.size) c').ownBlock=v.ownBlock∨(Value.slice A' (n+s.size) c').ownBlock=some w.heap.size):=by
 obtain⟨q1,q2,q3⟩:=hB.h;obtain⟨i,hi,hz,h1,h2⟩:=info_parts q3;obtain⟨v',w',hr,ho,hg,Td⟩:=Lib.run_append_own_string (P:=P) w 0 T U ty e i q1 q2 hi hz h1 h2 v n xs DK s Ks hb (Nat.zero_le _);obtain⟨A',c',rfl⟩:=FQ ho;refine⟨A',c',w',hr,ho,hg,?_⟩;rcases DK.2 with⟨rfl,h0⟩|⟨g,cap,cur,rfl,_,hgb,hnc,hcm,BW,htk⟩
 .rcases Nat.eq_zero_or_pos s.size with hs|hs
  .simp_all
  .have:=run_append_nil_string (P:=P) w T U ty e i _ q1 q2 hi hz s hs ah (by rw[h2];omega)
   rw[this]at hr;injection hr with e1 e2
   rw[<-e1];exact .inr rfl
 .rcases Nat.lt_or_ge cap (n+s.size)with ry|ry
  .have:=Lib.run_append_grow_string (P:=P) w T U ty e i _ q1 q2 hi hz ⟨g,0,none⟩ n cap xs (by rw[h1,DK.1]) (DK.cells (g:=g) rfl) s ry ah (by rw[h2];exact growslice_fits ah ah)
   rw[this]at hr;injection hr with e1 e2
   rw[<-e1];exact .inr rfl
  .have:=Lib.run_append_room_string (P:=P) w T U ty e i q1 q2 hi h1 g n cap cur hgb s ry ah
   rw[this]at hr;injection hr with e1 e2
   rw[<-e1];exact .inl rfl
theorem Oh{T U e:TypeId}[hB:CBs P T U e]{x y:Operand}{id:Nat}{xs:List Int}{s:ByteArray}(h:dK 1 (xs.length+(bytesOf s).length))(hx:ev σ.env x=some (.row id))(hh:cF σ.heap id=some (.row e 1 (xs.map (DV.int .u8))))(hy:ev σ.env y=some (.str s)) :
  dH P ops ⟨some t,.call ⟨.builtin .append,#[x,y],#[T,U]⟩,ty,pos,af,none⟩ (tm x++tm y) [id] σ ⟨[(t,.row t)],[(t,some (.row e 1 ((xs++bytesOf s).map (DV.int .u8)))),(id,none)],[t]⟩ :=
 dH.gen rfl rfl λC F γ σ' a w tD h2 h3 hs=>by
  obtain⟨k1,k2⟩:=AQ hs tD hx hy;have hn:t ∉ σ'.used:=h3 t aR;have tg:=(h2 id aR).trans hh;obtain⟨A0,c0,KZ,e0,La,PV,hE0⟩:=zZ hs k1 tg;simp only[Rs]at k2;have hbl:(bytesOf s).length=s.size:=by unfold bytesOf;simp
  rw[List.length_map]at PV;obtain⟨A',c',w',kp,ho,hg,hob⟩:=Rk (P:=P) w (T:=T) (U:=U) ty PV s (by unfold dK at h;omega);have S:uF w w' (fA (a.eval x)):=aen;have hE:rm F 1 ((bytesOf s).map (DV.int .u8)) (Lib.strCells s):=by rw[Re];exact Rp .u8 _
  refine⟨.slice A' (xs.length+s.size) c',w',F,γ.up t (.slice A' (xs.length+s.size) c'),?_,lJ.refl _,pF _ (hs.ws.fresh hn),?_,?_⟩
  .simp[execOp,resolve,invoke,builtin,k2,kp]
  .have W:=hs.ws.GQ tg La S
   refine W.add hn ⟨KZ++Lib.strCells s,eJ,by rw[List.map_append];exact hE0.append hE⟩ (λb je=>?_);rw[yE ho]at je;rcases hob with h|h
   .rw[je,<-yE PV]at h
    have q:=hs.ws.own id _ _ b tg La h.symm;refine⟨q.1,q.2,λuS e' g' EJ oV BX=>?_⟩;rw[cH]at EJ
    split at EJ
    .cases EJ
    .rename_i nq;exact nq (hs.ws.apart id uS _ e' _ g' b tg EJ La oV h.symm BX)
   .rw[je]at h;injection h with h;subst h
    refine⟨?_,.inr hs.ws.size,λuS e' g' EJ oV BX=>?_⟩
    .cases hF:F w.heap.size with
     |none=>rfl
     |some cs=>exact absurd (hs.ws.flt hF) (Nat.lt_irrefl _)
    .rw[cH]at EJ
     split at EJ
     .cases EJ
     .obtain⟨g1,q1,q2⟩:=hs.ws.si uS e' EJ
      rw[oV]at q1;injection q1 with q1;subst q1
      exact absurd (q2.lt _ BX) (Nat.lt_irrefl _)
  .exact uu _ _ _
theorem anp{T:TypeId}{x:Operand}{id E:Nat}{α:Type}{f:α->DV}{xs:List α}(h:0<xs.length)(hx:ev σ.env x=some (.row id))(hh:cF σ.heap id=some (.row E 1 (xs.map f))) :
  dH P ops ⟨some t,.call ⟨.builtin .unsafeSliceData,#[x],#[T]⟩,ty,pos,af,none⟩ (tm x) [id] σ ⟨[(t,.rp id 0 1 0)],[],[]⟩ :=
 dH.val rfl rfl λC F γ σ' a w h1 h2 hs=>by
  have k1:=hs.ev ((cP h1 (λ_ h=>h)).trans hx);obtain⟨A,c,vs,e,hg,ho,_⟩:=zZ hs k1 ((h2 id aR).trans hh);rw[List.length_map]at e ho;rcases ho.2 with⟨p,hx⟩|⟨b,cap,cur,p,_,q2,q3,q4,q5,q6⟩
  .omega
  .refine⟨.pointer (some ⟨b,0,none⟩),?_,by exact⟨b,_,cap,by rw[hg,p],aR⟩⟩
   simp[execOp,resolve,invoke,builtin,p,Lib.run_unsafeSliceData_row w _ _ _ _ _ (show cap≠0 by omega)]
theorem uF.freeze(w:World)(g n:Nat):uF w (w.freeze ⟨g,0,none⟩ n) (some g):=by
 unfold World.freeze
 split
 .exact(uF.refl w).any
 .refine⟨rfl,rfl,rfl,aR,λk hk nq=>?_⟩
  simp only[Array.getElem?_modify];rw[if_neg (λh=>nq (by rw[h]))]
def bOk(xs:List Int):Bool:=xs.all λx=>decide (0<=x)&&decide (x<=255)
theorem ak1{xs:List Int}(h:bOk xs=true):∀x∈xs,0<=x∧x<=255:=λx hx=>by
 have:=List.all_eq_true.1 h x hx
 simp_all
class CUs(P:Program)(Tp:TypeId)(e:outParam TypeId):Prop where
 h1:P.underlying Tp=some (.pointer e)
 h2:P.cellsOf e=1
theorem akq{Tp Ti e:TypeId}[hU:CUs P Tp e]{x y:Operand}{id:Nat}{xs:List Int}(h:bOk xs=true)(h0:0<xs.length)(hx:ev σ.env x=some (.rp id 0 1 0))(hh:cF σ.heap id=some (.row e 1 (xs.map (DV.int .u8))))(hy:ev σ.env y=some (.int .i64 (xs.length:Int))) :
  dH P ops ⟨some t,.call ⟨.builtin .unsafeString,#[x,y],#[Tp,Ti]⟩,ty,pos,af,none⟩ (tm x++tm y) [id] σ ⟨[(t,.str (strOfNums xs))],[(id,none)],[]⟩ :=
 dH.gen rfl rfl λC F γ σ' a w tD h2 h3 hs=>by
  have hT:=And.intro hU.h1 hU.h2;obtain⟨k1,k2⟩:=AQ hs tD hx hy;simp only[Rs]at k1 k2;obtain⟨b,n,c,hg,e1⟩:=k1;have tg:=(h2 id aR).trans hh;obtain⟨g,vO,vs,ho,hE⟩:=hs.ws.si id _ tg;rw[hg]at vO;injection vO with vO;subst vO
  rw[List.length_map]at ho;have hv:=UK xs vs hE;subst hv;rcases ho.2 with⟨p,hx⟩|⟨b',cap,cur,p,_,q2,q3,q4,q5,q6⟩
  .omega
  .injection p with p1 p2 p3
   injection p1 with p1;injection p1 with p1;subst p1;subst p2;subst p3
   have hB:=ak1 h
   have KK:∀j x,(strOfNums xs).data.toList[j]? = some x->w.cell? ((⟨b,0,none⟩:Addr).add j)=some (.int .u8 x.toNat):=λj x hj=>by
    rw[strOfNums_data,List.getElem?_map]at hj;obtain⟨n,hn,rfl⟩:=Option.map_eq_some_iff.1 hj;have hr:=hB n (List.mem_of_getElem? hn);have hc:=ho.cells (g:=b) rfl j (.int .u8 n) eJ;have e:(((UInt8.ofNat n.toNat).toNat:Nat):Int)=n:=iC
    simp_all
   have hlen:(strOfNums xs).data.toList.length=xs.length:=by rw[strOfNums_data,List.length_map]
   have kp:=Lib.run_unsafeString_row (P:=P) w Tp Ti ty e hT.1 hT.2 b cur.size (by simp[World.shape?,q2]) (strOfNums xs).data.toList (by intro q;simp_all) ah (by rw[hlen];unfold maxLen at q4;omega) KK;rw[hlen]at kp;refine⟨.string (strOfNums xs),w.freeze ⟨b,0,none⟩ xs.length,F,γ,?_,lJ.refl _,nW.refl _,?_,Cn⟩
   .have e0:(⟨b,0*1+0,none⟩:Addr)=⟨b,0,none⟩:=rfl
    simp[execOp,resolve,invoke,builtin,e1,k2,kp]
   .exact hs.ws.GQ tg hg (by simpa [fA]using uF.freeze w b xs.length)
theorem WS.akj{C:Ctx}{F:dj}{γ:eD}{h:eW}{used:List Nat}{w:World}(H:WS C F γ h used w){id E sz:Nat}{eC els':List DV}{g:Value}(hh:cF h id=some (.row E sz eC))(hg:γ id=some g){b cap:Nat}{cur:Array Value}(p:g = .slice (some ⟨b,0,none⟩) eC.length cap)(q2:w.heap[b]? = some (.cells cur E (0,0)))(q3:eC.length<=cap)(q4:cap<=maxLen)(q5:cur.size=cap*sz){cs:List Value}(h1:cs.length=cur.size)(h2:els'.length=eC.length)(hE:rm F sz els' (cs.take (els'.length*sz))) :
  WS C F γ ((id,some (.row E sz els'))::h) used (w.setRow b cs.toArray):=by
 obtain⟨s1,s2⟩:=uF.setRow cs.toArray q2;have s1':uF w (w.setRow b cs.toArray) (fA g):=by rw[p];exact s1
 have W:=H.GQ hh hg s1';have W2:=W.put (id0:=id) (e0:=.row E sz els') hg ⟨_,⟨eJ,.inr ⟨b,cap,_,by rw[p,h2],Nat.zero_le _,s2,ah,q4,nV,aR⟩⟩,hE⟩ (λb' je=>?_)
 .exact W2.congr (λi e hi=>wB id _ _ i e hi) (λ_ h=>h)
 .have ho:=H.own id _ _ b' hh hg je
  refine⟨ho.1,ho.2,λi e g' nq hi Tf Th=>?_⟩;rw[cH]at hi
  split at hi
  .cases hi
  .exact nq (H.apart i id e _ g' _ b' hi hh Tf hg Th je)
theorem Nf{T e:TypeId}{sz bytes:Nat}{z:Value}(wM:El P T e z sz bytes)(w:World){b o n c:Nat}{cur:Array Value}{E:TypeId}(hb:w.heap[b]? = some (.cells cur E (0,0)))(hf:o+n*sz<=cur.size)(ho:∀u∈z.cells.toList,u.oneCell'=true)(ty:TypeId)(hn:n≠0) :
  (Builtin.clear_ #[T] ty #[.slice (some ⟨b,o,none⟩) n c]).run P w = .ok (.tuple #[]) (w.setRow b (cur.toList.take o++(List.replicate n z.cells.toList).flatten++cur.toList.drop (o+n*sz)).toArray):=by
 obtain⟨i,hi,Yv,DJ,HF⟩:=wM.info;have hz0:0<z.cells.size:=by rw[wM.Eo];exact wM.pos
 have e1:(Builtin.zeroCells z.cells n).toList=(List.replicate n z.cells.toList).flatten:=pU z.cells hz0 n;have hl:((List.replicate n z.cells.toList).flatten).length=n*sz:=by simp[wM.Eo]
 have zb:=run_storeCells_at P b o E ((List.replicate n z.cells.toList).flatten) 0 cur w hb ah (λu hu=>by
  simp_all)
 rw[hl,Nat.add_zero]at zb;simp[Builtin.clear_,run_underlying wM.under,zeroValue,typeInfo,hi,Yv,e1,zb]
theorem aiV{T e:TypeId}{sz bytes:Nat}{zd:DV}[hT:lK P T e sz bytes zd]{u id l q:Nat}{α:Type}{f:α->DV}{xs:List α}{z:α}(hs:EV u f z)(hx:ev σ.env (.tmp u)=some (.rv id l q sz))(hh:cF σ.heap id=some (.row e sz (xs.map f)))(hl:l+q<=xs.length)(hz:(zd.cs.all DV.one)=true)(hf:lH [zd] [f z]) :
  dH P ops ⟨none,.call ⟨.builtin .clear,#[.tmp u],#[T]⟩,ty,pos,af,none⟩ (tm (.tmp u)) [id] σ ⟨[],[(id,some (.row e sz ((XL xs l q z).map f)))],[]⟩:=by
 intro C F γ σ' a w h1 h2 h3 h4 hs K Q hK;have hw:Region.wanted (⟨none,.call ⟨.builtin .clear,#[.tmp u],#[T]⟩,ty,pos,af,none⟩:Oper) (yielded ops a.tmps)=true:=by simp[Region.wanted]
 rw[if_pos hw];have k1:=hs.ev ((cP h1 (λ_ h=>h)).trans hx);have tg:=(h2 id aR).trans hh;simp only[Rs]at k1;obtain⟨A,k,c,hg,e1,hc⟩:=k1;obtain⟨g,vO,vs,ho,hE⟩:=hs.ws.si id _ tg;rw[hg]at vO;injection vO with vO;subst vO
 obtain⟨z0,wM,Wj⟩:=hT.h;have hzo:=Aq (T:=T) Wj hz
 have hzl:rm F sz (List.replicate q (f z)) ((List.replicate q z0.cells.toList).flatten):=by
  refine rm.replicate wM.Eo hzo ?_ q;cases hf with
  |cons h _=>exact h _ _ _ (Ar Wj hzo F)
 rw[List.length_map]at ho;rcases Nat.eq_zero_or_pos q with h0|h0
 .subst h0
  have kp:(execOp a.eval ⟨none,.call ⟨.builtin .clear,#[.tmp u],#[T]⟩,ty,pos,af,none⟩).run P w = .ok (.value (.tuple #[])) w:=by
   have:(Builtin.clear_ #[T] ty #[a.eval (.tmp u)]).run P w = .ok (.tuple #[]) w:=by
    rw[e1];generalize (if c-l=0 then A else A.map (·.add (l*sz)))=A1;cases A1 <;> simp[Builtin.clear_,run_underlying wM.under]
   simp[execOp,resolve,invoke,builtin,this]
  refine ju kp ?_;simp only[Act.put];have e2:XL xs l 0 z=xs:=by simp[XL]
  exact hK F γ _ _ (lJ.refl _) (hs.mono (lJ.refl _) (nW.refl _) (hs.ws.congr (λi e' hi=>by
   rw[List.singleton_append,cH,e2]at hi
   split at hi
   all_goals simp_all) (λ_ h=>h)))
 .rcases ho.2 with⟨p,hx0⟩|⟨b,cap,cur,p,_,q2,q3,q4,q5,q6⟩
  .omega
  .injection p with p1 p2 p3
   subst p1;subst p2;subst p3;have Em:¬c-l=0:=ah;rw[if_neg Em,Option.map_some,Addr.add_lit,Nat.zero_add]at e1;have hmul:(l+q)*sz<=c*sz:=Nat.mul_le_mul_right _ hc;rw[Nat.add_mul]at hmul;have ao0:=Nf (P:=P) wM w (n:=q) (c:=c-l) (o:=l*sz) q2 (by rw[q5];omega) hzo ty ah
   have kp:(execOp a.eval ⟨none,.call ⟨.builtin .clear,#[.tmp u],#[T]⟩,ty,pos,af,none⟩).run P w = .ok (.value (.tuple #[])) (w.setRow b (cur.toList.take (l*sz)++(List.replicate q z0.cells.toList).flatten++cur.toList.drop (l*sz+q*sz)).toArray):=by
    simp[execOp,resolve,invoke,builtin,e1,ao0]
   refine ju kp ?_;simp only[Act.put];refine hK F γ _ _ (lJ.refl _) (hs.mono (lJ.refl _) (nW.refl _) ?_);have hzn:((List.replicate q z0.cells.toList).flatten).length=q*sz:=by have:=hzl.len;rwa [List.length_replicate]at this
   have Yt:=hE.len;rw[List.length_map]at Yt;have hm2:(l+q)*sz<=xs.length*sz:=Nat.mul_le_mul_right _ hl;rw[Nat.add_mul]at hm2;have hlen:(XL xs l q z).length=xs.length:=by simp[XL];omega
   refine hs.ws.akj (els':=(XL xs l q z).map f) tg hg (cap:=c) (cur:=cur) (by rw[List.length_map]) q2 (by rw[List.length_map];exact q3) q4 q5 ?_ ?_ ?_
   .rw[List.length_append,List.length_append,List.length_take,List.length_drop,hzn,Array.length_toList,q5];omega
   .rw[List.length_map,List.length_map,hlen]
   .rw[List.length_map,hlen]
    have Wm:(cur.toList.take (l*sz)++(List.replicate q z0.cells.toList).flatten++cur.toList.drop (l*sz+q*sz)).take (xs.length*sz)=vs.take (l*sz)++(List.replicate q z0.cells.toList).flatten++vs.drop ((l+q)*sz):=by
     have eA:(cur.toList.take (l*sz)).length=l*sz:=by rw[List.length_take,Array.length_toList,q5];omega
     have eAB:(cur.toList.take (l*sz)++(List.replicate q z0.cells.toList).flatten).length=l*sz+q*sz:=by rw[List.length_append,eA,hzn]
     have v1:vs.take (l*sz)=cur.toList.take (l*sz):=adK;have v2:vs.drop ((l+q)*sz)=(cur.toList.drop (l*sz+q*sz)).take (xs.length*sz-(l*sz+q*sz)):=by rw[<-q6,List.drop_take,Nat.add_mul]
     rw[List.take_append,List.take_of_length_le (by rw[eAB];omega),eAB,v1,v2]
    rw[Wm];have:(XL xs l q z).map f=(xs.map f).take l++List.replicate q (f z)++(xs.map f).drop (l+q):=by simp[XL,List.map_take,List.map_drop]
    rw[this];exact((hE.take l).append hzl).append (hE.drop (l+q))
theorem akc{T e:TypeId}{sz bytes:Nat}{zd:DV}[hT:lK P T e sz bytes zd]{u id:Nat}{lo m:Int}{α:Type}{f:α->DV}{xs:List α}{z:α}(hs:EV u f z)(h:fC xs.length lo m)(hx:ev σ.env (.tmp u)=some (.rv id lo.toNat (m-lo).toNat sz))(hh:cF σ.heap id=some (.row e sz (xs.map f)))(hz:(zd.cs.all DV.one)=true)(hf:lH [zd] [f z]) :
  dH P ops ⟨none,.call ⟨.builtin .clear,#[.tmp u],#[T]⟩,ty,pos,af,none⟩ (tm (.tmp u)) [id] σ ⟨[],[(id,some (.row e sz ((XL xs lo.toNat (m-lo).toNat z).map f)))],[]⟩:=aiV hs hx hh (by unfold fC at h;omega) hz hf
theorem Ux{T e:TypeId}{sz bytes:Nat}{zd:DV}[hT:lK P T e sz bytes zd]{x y:Operand}{id:Nat}{k:IntKind}{lo m r:Int}{eC:List DV}(h:inV r lo m)(hx:ev σ.env x=some (.rv id lo.toNat r.toNat sz))(hh:cF σ.heap id=some (.row e sz eC))(hy:ev σ.env y=some (.int k m)) :
  dH P ops ⟨some t,.indexAddr T x y,ty,pos,af,none⟩ (tm x++tm y) [id] σ ⟨[(t,.rp id (lo+m).toNat sz 0)],[],[]⟩:=Me (q:=r.toNat) (by unfold inV at h |-;omega) hx hh hy
theorem aan{n:Nat}{Q:Exit->AS->Prop}{id t t0:Nat}{x:Operand}{T T' Yz ty:TypeId}{HH pos:String}{af0 af:Array Edge}{e:TypeId}{sz yd:Nat}{zd:DV}[hT:lK P T e sz yd zd]{rid l q z:Nat}{E sz':Nat}{eC:List DV}(hx:ev σ.env x=some (.rv rid l q z))(hh:cF σ.heap rid=some (.row E sz' eC))(ht0:t0<n)(ht:t<n)
  (hq:∀b:Bool,(b=true->q=0)->Q .normal ⟨(t,.bool b)::(t0,.rv rid l q z)::σ.env,σ.heap,σ.used⟩) :
  gL P n (.region id #[⟨some t0,.move x,Yz,HH,af0,none⟩,⟨some t,.binOp .eql T (.tmp t0) (.const (.slice none 0 0)) T',ty,pos,af,none⟩] false) Q σ:=by
 intro C F γ a w hn hs;have kx:=hs.ev hx;have LP:Sat C F γ ⟨(t0,.rv rid l q z)::σ.env,σ.heap,σ.used⟩ (a.put (some t0) (a.eval x)) w:=hs.put (by rw[hn];exact ht0) kx;have my:t0<a.tmps.size:=VO;have hmv:(execOp a.eval ⟨some t0,.move x,Yz,HH,af0,none⟩).run P w = .ok (.value (a.eval x)) w:=by simp[execOp]
 generalize a.eval x=v at kx LP hmv;obtain⟨A,k,c,hg,rfl,Tl⟩:=kx;obtain⟨g,vO,vs,ho,hE⟩:=hs.ws.si rid _ hh;rw[hg]at vO;injection vO with vO;subst vO
 have hA0:(if c-l=0 then A else A.map (·.add (l*z)))=none->q=0:=λhA=>by
  have hA':A=none:=by
   split at hA
   all_goals simp_all
  rcases ho.2 with⟨p,_⟩|⟨b,cap,cur,p,_⟩
  all_goals simp_all
 generalize (if c-l=0 then A else A.map (·.add (l*z)))=A at hA0 LP hmv |-;refine wpIn_region ?_;refine ju hmv ?_
 have e0:(a.put (some t0) (.slice A q (c-l))).eval (.tmp t0) = .slice A q (c-l):=by
  simp[Act.eval,Act.put,Array.getD,my]
 have e1:binOp .eql T (.slice A q (c-l)) (.slice none 0 0)=(do pure (.bool (<-Op.equal T (.slice A q (c-l)) (.slice none 0 0)))):=by cases A <;> rfl
 have e2:eqGuard .eql T (.tmp t0) (.const (.slice none 0 0)) (.slice A q (c-l)) (.slice none 0 0)=pure ():=rfl
 have e3:(Op.equal T (.slice A q (c-l)) (.slice none 0 0)).run P w = .ok A.isNone w:=by
  have:∀m,(Op.equalIn (m+1) T (.slice A q (c-l)) (.slice none 0 0)).run P w = .ok A.isNone w:=λm=>adJ
  exact this 9999
 have LS:(execOp (a.put (some t0) (.slice A q (c-l))).eval ⟨some t,.binOp .eql T (.tmp t0) (.const (.slice none 0 0)) T',ty,pos,af,none⟩).run P w = .ok (.value (.bool A.isNone)) w:=by
  have e4:(a.put (some t0) (.slice A q (c-l))).eval (.const (.slice none 0 0)) = .slice none 0 0:=rfl;simp only[execOp,e0,e4,e1,e2,Sem.run_bind,Sem.run_pure,Result.andThen_ok,e3]
 refine ju LS ?_
 .have:=LP.put (t:=t) PE (d:=.bool A.isNone) (v:=.bool A.isNone) Cn
  refine⟨F,γ,_,this,hq A.isNone (λhA=>?_)⟩
  simp_all
/-! maps from texts -/
theorem aod{a b:ByteArray}(h:(a==b)=true):a=b:=by
 cases a with|mk a=>cases b with|mk b=>
 have h:ByteArray.beq ⟨a⟩ ⟨b⟩=true:=h;unfold ByteArray.beq at h
 simp_all
theorem aeR(a:ByteArray):(a==a)=true:=by
 cases a with|mk a=>
 show ByteArray.beq ⟨a⟩ ⟨a⟩=true;unfold ByteArray.beq;simp
def mfS{V:Type}(k:ByteArray):List (ByteArray×V)->Nat->Option (Nat×V)
 |[],_=>none
 |p::l,i=>if k==p.1 then some (i,p.2)else mfS k l (i+1)
def FZ{V:Type}(xs:List (ByteArray×V))(k:ByteArray)(v:V):List (ByteArray×V):=match mfS k xs 0 with
 |some (i,_)=>xs.set i (k,v)
 |none=>xs++[(k,v)]
def Vg{V:Type}(fv:V->DV)(xs:List (ByteArray×V)):List (DV×DV):=xs.map λp=>(.str p.1,fv p.2)
class ajC(P:Program)(t:TypeId)(k e:outParam TypeId):Prop where
 GP:P.underlying t=some (.map k e)
 key:P.underlying k=some .string
theorem MR{V:Type}{fv:V->DV}{F:dj}(s:ByteArray):∀(xs:List (ByteArray×V)) (es:List MapEntry) (i:Nat),GM F (Vg fv xs) es->∃r,Instr.findNow .string (.string s) es i=some r ∧
   ((mfS s xs i=none∧r=none)∨∃j v val en,mfS s xs i=some (i+j,v)∧r=some (i+j,val)∧es[j]? = some en∧en.key = .string s)
 |[],es,i,h=>by
  subst h;exact⟨none,dF,.inl ⟨rfl,rfl⟩⟩
 |p::xs,es,i,h=>by
  obtain⟨en,r,rfl,h1,h2,h3⟩:=h;simp only[Rs]at h1;cases hb:s==p.1 with
  |true=>
   have hs:s=p.1:=aod hb;refine⟨some (i,en.val),by simp[Instr.findNow,Instr.sameNow,h1,hs,aeR],.inr ⟨0,p.2,en.val,en,by simp[mfS,hb],rfl,aR,by rw[h1,hs]⟩⟩
  |false=>
   obtain⟨r',k1,k2⟩:=MR s xs r (i+1) h3;refine⟨r',by simp[Instr.findNow,Instr.sameNow,h1,hb,k1],?_⟩;rcases k2 with⟨a1,a2⟩|⟨j,v,val,en',a1,a2,a3,a4⟩
   .exact .inl ⟨by simp[mfS,hb,a1],a2⟩
   .exact .inr ⟨j+1,v,val,en',by simp[mfS,hb,a1];omega,by rw[a2];congr 2;omega,by simpa using a3,a4⟩
theorem am8{T k e:TypeId}[hM:ajC P T k e]{x y u:Operand}{id:Nat}{V:Type}{fv:V->DV}{xs:List (ByteArray×V)}{q:ByteArray}{v:V}(h1:EV 1 fv v)(hid:(fv v).ids = [])(hx:ev σ.env x=some (.row id))(hh:cF σ.heap id=some (.mp (Vg fv xs)))(hy:ev σ.env y=some (.str q))(hu:ev σ.env u=some (fv v)) :
  dH P ops ⟨none,.mapUpdate T x y u,ty,pos,af,none⟩ (tm x++(tm y++tm u)) [id] σ ⟨[],[(id,some (.mp (Vg fv (FZ xs q v))))],[]⟩ :=
 dH.skip rfl rfl λC F γ σ' a w h1 h2 hs=>by
  have k1:=hs.ev ((cP h1 (λ_ h=>ql)).trans hx);have k2:=hs.ev ((cP h1 (λ_ h=>ql)).trans hy);have k3:=hs.ev ((cP h1 (λ_ h=>ql)).trans hu);have tg:=(h2 id aR).trans hh;obtain⟨b,es,clock,e1,hg,hb,hR,PZ⟩:=Hc hs k1 tg;have k3':Rs F eD.no (fv v) (a.eval u):=wK _ _ eJ k3;simp only[Rs]at k2;obtain⟨r,f1,f2⟩:=MR q xs es.toList 0 hR;have hc:(Instr.checkKey false 10000 k (.string q)).run P w = .ok () w:=by unfold Instr.checkKey;simp[run_underlying hM.key]
  have hf:(Instr.findKey k (.string q) es.toList).run P w = .ok r w:=by simp[Instr.findKey,run_underlying hM.key,f1]
  have Gz:(getObj b).run P w = .ok (.map es clock) w:=Sy;have hso:∀o,(setObj b o).run P w = .ok () { w with heap:=w.heap.setIfInBounds b o }:=λo=>by simp[setObj,Sem.run,hb]
  have main:∀Qa tj,GM F (Vg fv (FZ xs q v)) Qa.toList->yW Qa tj->(Instr.mapUpdate T (a.eval x) (a.eval y) (a.eval u)).run P w = .ok () { w with heap:=w.heap.setIfInBounds b (.map Qa tj) }->∃w',(execOp a.eval ⟨none,.mapUpdate T x y u,ty,pos,af,none⟩).run P w = .ok .skip w' ∧
    WS C F γ ([(id,some (.mp (Vg fv (FZ xs q v))))]++σ'.heap) σ'.used w':=by
   intro Qa tj hR' alG kp;have my:b<w.heap.size:=(Array.getElem?_eq_some_iff.1 hb).1;have s2:(w.heap.setIfInBounds b (.map Qa tj))[b]? = some (.map Qa tj):=by simp[my]
   have s1:∀r',r'≠b->(w.heap.setIfInBounds b (.map Qa tj))[r']? = w.heap[r']? := λr' nq=>by simp[Ne.symm nq]
   refine⟨_,by simp[execOp,kp];rfl,?_⟩;have W:=hs.ws.GQ (w':={ w with heap:=w.heap.setIfInBounds b (.map Qa tj) }) tg hg ⟨rfl,rfl,rfl,aR,λk _ hk=>s1 k (λe=>hk VI)⟩;have W2:=W.put (id0:=id) (e0:=.mp (Vg fv (FZ xs q v))) hg ⟨b,Qa,tj,rfl,s2,hR',alG⟩ (λb' je=>?_)
   .exact W2.congr (λi e hi=>wB id _ _ i e hi) (λ_ h=>h)
   .have ho:=hs.ws.own id _ _ b' tg hg je
    refine⟨ho.1,ho.2,λi e g nq hi Tf Th=>?_⟩;rw[cH]at hi
    split at hi
    .cases hi
    .exact nq (hs.ws.apart id i _ e _ g b' tg hi hg Tf je Th).symm
  rcases f2 with⟨g1,rfl⟩|⟨j,v0,val,en,g1,rfl,g4,g6⟩
  .refine main (es.push { key:=a.eval y,val:=a.eval u,born:=clock }) (clock+1) ?_ (PZ.push rfl) ?_
   .simp only[FZ,g1,Array.toList_push]
    unfold Vg;rw[List.map_append];exact GM.push (by rw[k2];simp only[Rs]) k3' hR
   .simp[Instr.mapUpdate,e1,k2,run_underlying hM.GP,Gz,hc,hf,hso]
  .refine main (es.modify j λe=>{ e with key:=a.eval y,val:=a.eval u }) clock ?_ (PZ.modify j _ (λ_=>rfl)) ?_
   .simp only[FZ,g1,Array.toList_modify,Nat.zero_add]
    unfold Vg;rw[List.map_set];exact GM.set _ j hR (λe he=>⟨by rw[k2];rfl,k3'⟩)
   .have zb:(Instr.keyThatStays (.string q) (.string q)).run P w = .ok (.string q) w:=by simp[Instr.keyThatStays,Instr.sameBits,aeR]
    have g4':es[j]? = some en:=by simpa using g4
    simp[Instr.mapUpdate,e1,k2,run_underlying hM.GP,Gz,hc,hf,g4',g6,zb,hso]
theorem abP{T:TypeId}[hT:aap P T]{x:Operand}{id:Nat}{V:Type}{fv:V->DV}{xs:List (ByteArray×V)}(hx:ev σ.env x=some (.row id))(hh:cF σ.heap id=some (.mp (Vg fv xs))) :
  dH P ops ⟨some t,.call ⟨.builtin .len,#[x],#[T]⟩,ty,pos,af,none⟩ (tm x) [id] σ ⟨[(t,.int .i64 (xs.length:Int))],[],[]⟩ :=
 dH.val rfl rfl λC F γ σ' a w h1 h2 hs=>by
  have k1:=hs.ev ((cP h1 (λ_ h=>h)).trans hx);obtain⟨b,es,clock,e1,hg,hb,hR,PZ⟩:=Hc hs k1 ((h2 id aR).trans hh);obtain⟨k,e,hu⟩:=hT.h;have Gz:(getObj b).run P w = .ok (.map es clock) w:=Sy;have hl:es.size=xs.length:=by have:=hR.len;simpa [Vg]using this
  exact⟨.int .i64 xs.length,ajk,dF⟩
theorem aj9{T n e:Nat}[hT:te P T n e 1][hs:qe P e]{x y:Operand}{k:IntKind}{m:Int}{α:Type}{f:α->DV}{xs:List α}{a:α}{ds:List DV}(h:idx xs m=some a)(h1:EV t f a)(h2:EB t xs)(hx:ev σ.env x=some (.agg ds))(hd:ds=xs.map f)(hy:ev σ.env y=some (.int k m))(hn:xs.length=n) :
  dH P ops ⟨some t,.index T x y,ty,pos,af,none⟩ (tm x++tm y) [] σ ⟨[(t,f a)],[],[]⟩:=aka f xs h (hd ▸ hx) hy hn
theorem Uy{T:TypeId}{e:Nat}{bytes:Nat}{zd:DV}[hT:lK P T e 1 bytes zd]{x y:Operand}{id off:Nat}{k:IntKind}{m r:Int}(h:(0:Int)<=m∧m<r)(hx:ev σ.env x=some (.Nw id off r.toNat))(hy:ev σ.env y=some (.int k m)) :
  dH P ops ⟨some t,.indexAddr T x y,ty,pos,af,none⟩ (tm x++tm y) [] σ ⟨[(t,.ref id (off+m.toNat*1))],[],[]⟩:=Mh (q:=r.toNat) ah hx hy
theorem agN{T n e:Nat}[hT:te P T n e 1][hs:qe P e]{x y:Operand}{k:IntKind}{m:Int}{ds:List DV}{g:Nat->DV}(z:EB t g)(h:oO n m)(hx:ev σ.env x=some (.agg ds))(hy:ev σ.env y=some (.int k m))(hg:ds=(List.range n).map g) :
  dH P ops ⟨some t,.index T x y,ty,pos,af,none⟩ (tm x++tm y) [] σ ⟨[(t,g m.toNat)],[],[]⟩:=akb g h hx hy hg
theorem akt{T1 T2 T3:TypeId}{x y z:Operand}{k k' k'':IntKind}{a b c:Int}(hx:ev σ.env x=some (.int k a))(hy:ev σ.env y=some (.int k' b))(hz:ev σ.env z=some (.int k'' c)):dH P ops ⟨some t,.call ⟨.builtin .max,#[x,y,z],#[T1,T2,T3]⟩,ty,pos,af,none⟩ (tm x++(tm y++tm z)) [] σ ⟨[(t,.int k (if c>(if b>a then b else a)then c else(if b>a then b else a)))],[],[]⟩ :=
 dH.val rfl rfl λC F γ σ' ac w tD _ hs=>by
  have k1:=hs.ev ((cP tD (λ_ h=>ql)).trans hx);have k2:=hs.ev ((cP tD (λ_ h=>ql)).trans hy);have k3:=hs.ev ((cP tD (λ_ h=>ql)).trans hz);simp only[Rs]at k1 k2 k3;exact⟨.int k (if c>(if b>a then b else a)then c else(if b>a then b else a)),by simp[execOp,resolve,invoke,builtin,Builtin.max_,k1,k2,k3,Builtin.max2],dF⟩
theorem aks{T T':TypeId}{x y:Operand}{k:IntKind}{a b:Int}(hx:ev σ.env x=some (.int k a))(hy:ev σ.env y=some (.int k b))(hr:b≠0) :
  dH P ops ⟨some t,.binOp .quo T x y T',ty,pos,af,none⟩ (tm x++tm y) [] σ ⟨[(t,.int k (k.wrap (Int.tdiv a b)))],[],[]⟩ :=
 dH.val rfl rfl λC F γ σ' ac w h1 _ hs=>by
  obtain⟨k1,k2⟩:=AQ hs h1 hx hy;simp only[Rs]at k1 k2;refine⟨.int k (k.wrap (Int.tdiv a b)),?_,dF⟩;simp[execOp,k1,k2,eqGuard,binOp,Op.intDiv,hr]
theorem akr{T T':TypeId}{x y:Operand}{k:IntKind}{a b:Int}(hx:ev σ.env x=some (.int k a))(hy:ev σ.env y=some (.int k b))(hr:b≠0) :
  dH P ops ⟨some t,.binOp .rem T x y T',ty,pos,af,none⟩ (tm x++tm y) [] σ ⟨[(t,.int k (Int.tmod a b))],[],[]⟩ :=
 dH.val rfl rfl λC F γ σ' ac w h1 _ hs=>by
  obtain⟨k1,k2⟩:=AQ hs h1 hx hy;simp only[Rs]at k1 k2;refine⟨.int k (Int.tmod a b),?_,dF⟩;simp[execOp,k1,k2,eqGuard,binOp,Op.intDiv,hr]
end
@[irreducible] def Ot(n:Nat)(lo hi:Int):Prop:=fC n lo hi
theorem Ot.h{n:Nat}{lo hi:Int}(h:Ot n lo hi):fC n lo hi:=by unfold Ot at h;exact h
theorem Ot.of{n:Nat}{lo hi:Int}(h:fC n lo hi):Ot n lo hi:=by unfold Ot;exact h
instance (n:Nat)(l c:Int):Decidable (Ot n l c):=decidable_of_iff (fC n l c) ⟨Ot.of,Ot.h⟩
/-! short words for data -/
@[reducible] def DV.L{α:Type}(sz:Nat)(f:α->DV)(xs:List α):DV:=.sl sz (xs.map f)
@[reducible] def DV.I(n:Int):DV:=.int .i64 n
@[reducible] def DV.N(n:Nat):DV:=.int .i64 (n:Int)
@[reducible] def DV.Z{α:Type}(xs:List α):DV:=.int .i64 (xs.length:Int)
@[reducible] def HE.R{α:Type}(e sz:Nat)(f:α->DV)(xs:List α):HE:=.row e sz (xs.map f)
@[reducible] def SE(e:List (Nat×DV)):AS:=⟨e,[],[]⟩
@[reducible] def SH(e:List (Nat×DV))(h:List (Nat×HE)):AS:=⟨e,h.map λp=>(p.1,some p.2),h.map (·.1)⟩
@[reducible] def SU(e:List (Nat×DV))(h:List (Nat×HE))(u:List Nat):AS:=⟨e,h.map λp=>(p.1,some p.2),h.map (·.1)++u⟩
/-! facts for operations -/
structure Fz(l:List Nat):Prop where
 h:True
theorem wz(l:List Nat):Fz l:=⟨trivial⟩
def rn(l:List (Nat×Nat))(i:Nat):Nat:=match look l i with
 |some j=>j
 |none=>i
structure CH(P:Program)(fn:FuncId)(t:Nat)(l:List (Nat×Nat))(n:Nat)(K:TZ):Prop where
 h:gY P fn K
theorem ev0{α:Type}(e:Nat)(f:α->DV)(a:α):EV e f a:=⟨trivial⟩
structure MP{α β:Type}(f:α->β)(a:α):Prop where
 h:True
theorem mp0{α β:Type}(f:α->β)(a:α):MP f a:=⟨trivial⟩
def ahp:List Nat->Nat->Bool
 |[],_=>false
 |x::xs,t=>match Nat.beq x t with
  |true=>true
  |false=>ahp xs t
theorem Xa{α:Type}{b:Bool}{d x:α}{a:Option α}(e:b=true)(h:gb b d a=some x):a=some x:=HY h e
theorem ai6{b:Bool}{p:Prop}(e:b=true)(h:b=true->p):p:=h e
theorem pn{f:Nat->Nat}{heap h:eW}(k:xN f heap h:=by first|((repeat first|exact .nil|refine .cons rfl ?_|fail);done) | fail):xN f heap h:=k
theorem po{p h:eW}(k:Fv p h:=by first|((repeat first|exact .nil|refine .cons rfl ?_|fail);done) | fail):Fv p h:=k
theorem dl {a b:List DV} (h:lH a b:=by first
 |exact lH.refl _
 |((repeat first
  |exact .nil
  |exact iy.refl _
  |exact iy.cu _
  |exact iy.fn _
  |refine .cons (iy.refl _) ?_
  |refine .cons (aby _ _) ?_
  |refine .cons (iy.at4 _ _) ?_
  |refine .cons (iy.cu _) ?_
  |refine .cons (iy.agg ?_) ?_
  |refine .cons (iy.fn _) ?_
            | fail); done)
 |fail):lH a b:=h
structure LX(n mx:Int):Prop where
 h:n<=mx
section
variable {P:Program} {ops:Array Oper} {σ:AS} {t:Nat} {ty:TypeId} {pos:String} {af:Array Edge} {rt rh:List Nat} {E:An} {g:Option (Nat×Bool)} {ds:Option Nat}
theorem akw{T T':TypeId}{x y:Operand}{a b:Int}(hx:ev σ.env x=some (.int .u64 a))(hy:ev σ.env y=some (.int .u64 b))(hr:Aj .u64 (a+b)) :
  dH P ops ⟨some t,.binOp .add T x y T',ty,pos,af,none⟩ (tm x++tm y) [] σ ⟨[(t,.int .u64 (a+b))],[],[]⟩:=ai8 hx hy hr
structure NW(n:Int):Prop where
 h:Aj .i64 n
theorem nwr{k:Nat}{n:Int}(h:(k:Int)<n)(hx:LX n 9223372036854775807):NW ((k:Int)+1):=⟨ahz h hx.h⟩
theorem akx{T T':TypeId}{x y:Operand}{a b:Int}(hx:ev σ.env x=some (.int .i64 a))(hy:ev σ.env y=some (.int .i64 b))(hr:NW (a+b)) :
  dH P ops ⟨some t,.binOp .add T x y T',ty,pos,af,none⟩ (tm x++tm y) [] σ ⟨[(t,.int .i64 (a+b))],[],[]⟩:=ai8 hx hy hr.h
theorem ahg{f:FuncId}[hf:dg P f]{xs:Array Operand}{ats:Array TypeId}{ds args:List DV}{r:DV}{b:Bool}(e:b=true)(hc:b=true->br P f args r)(ha:KW σ.env xs.toList=some ds)(hle:lH ds args)(hp:vv args = []) :
  dH P ops ⟨some t,.call ⟨.value (.func f),xs,ats⟩,ty,pos,af,none⟩ (xs.toList.flatMap tm) [] σ ⟨[(t,r)],[],[]⟩:=Fa (hc e) ha hle hp
theorem anB{o:Oper}{hp:eW}{nw:List Nat}{E sz:Nat}{eC:List DV}{l:List Nat}(f:Fz l)(hd:o.dst=some t)(hm:ahp l t=true)(h:dH P ops o rt rh σ ⟨[(t,.row t)],(t,some (.row E sz eC))::hp,nw⟩):dH P ops o rt rh σ ⟨[(t,.sl sz eC)],(t,none)::hp,nw⟩:=Xe h
theorem anH{fn:FuncId}[hf:dg P fn]{xs:Array Operand}{ats:Array TypeId}{K:TZ}{l:List (Nat×Nat)}{n:Nat}{ds:List DV}(hc:CH P fn t l n K)(ha:KW σ.env xs.toList=some ds)(hle:lH ds (yC (rn l) K.args))(rS:xN (rn l) σ.heap K.pre)(hi:zx (rn l) (K.pre.map (·.1)++K.new)=true)(QJ:Fv K.pre (K.post.drop n)) :
  dH P ops ⟨some t,.call ⟨.value (.func fn),xs,ats⟩,ty,pos,af,none⟩ (xs.toList.flatMap tm) (K.pre.map (λp=>rn l p.1)) σ ⟨[(t,K.res.xT (rn l))],sN (rn l) (K.post.take n),K.new.map (rn l)⟩:=ahe (rn l) n hc.h ha hle rS hi QJ
theorem anG{fn:FuncId}[hf:dg P fn]{xs:Array Operand}{ats:Array TypeId}{K:TZ}{l:List (Nat×Nat)}{n:Nat}{ds:List DV}{hp:eW}{nw:List Nat}{E sz:Nat}{eC:List DV}{l0:List Nat}(f:Fz l0)(hm:ahp l0 t=true)(hc:CH P fn t l n K)(ha:KW σ.env xs.toList=some ds)(hle:lH ds (yC (rn l) K.args))(rS:xN (rn l) σ.heap K.pre)(hi:zx (rn l) (K.pre.map (·.1)++K.new)=true)(QJ:Fv K.pre (K.post.drop n))(hE:(⟨[(t,K.res.xT (rn l))],sN (rn l) (K.post.take n),K.new.map (rn l)⟩:An)=⟨[(t,.row t)],(t,some (.row E sz eC))::hp,nw⟩) :
  dH P ops ⟨some t,.call ⟨.value (.func fn),xs,ats⟩,ty,pos,af,none⟩ (xs.toList.flatMap tm) (K.pre.map (λp=>rn l p.1)) σ ⟨[(t,.sl sz eC)],(t,none)::hp,nw⟩:=Xe (hE ▸ anH hc ha hle rS hi QJ)
theorem at2{fn:FuncId}[hf:dg P fn]{x:Operand}{DN:List DV}{xs:Array Operand}{ats:Array TypeId}{K:TZ}{l:List (Nat×Nat)}{n:Nat}(hc:CH P fn t l n K){ds:List DV}(hx:ev σ.env x=some (.CG fn DN))(ha:KW σ.env xs.toList=some ds)(hle:lH (ds++DN) (yC (rn l) K.args))(rS:xN (rn l) σ.heap K.pre)(hi:zx (rn l) (K.pre.map (·.1)++K.new)=true)(QJ:Fv K.pre (K.post.drop n)) :
  dH P ops ⟨some t,.call ⟨.value x,xs,ats⟩,ty,pos,af,none⟩ (tm x++xs.toList.flatMap tm) (K.pre.map (λp=>rn l p.1)) σ ⟨[(t,K.res.xT (rn l))],sN (rn l) (K.post.take n),K.new.map (rn l)⟩:=ahd (rn l) n hc.h hx ha hle rS hi QJ
theorem anF{fn:FuncId}[hf:dg P fn]{x:Operand}{xs:Array Operand}{ats:Array TypeId}{K:TZ}{l:List (Nat×Nat)}{n:Nat}(hc:CH P fn t l n K){ds:List DV}(hx:ev σ.env x=some (.val (.func (.func fn) #[] #[])))(ha:KW σ.env xs.toList=some ds)(hle:lH (ds++[]) (yC (rn l) K.args))(rS:xN (rn l) σ.heap K.pre)(hi:zx (rn l) (K.pre.map (·.1)++K.new)=true)(QJ:Fv K.pre (K.post.drop n)) :
  dH P ops ⟨some t,.call ⟨.value x,xs,ats⟩,ty,pos,af,none⟩ (tm x++xs.toList.flatMap tm) (K.pre.map (λp=>rn l p.1)) σ ⟨[(t,K.res.xT (rn l))],sN (rn l) (K.post.take n),K.new.map (rn l)⟩:=Xf (rn l) n hc.h hx (iy.fn _) ha hle rS hi QJ
theorem anE{fn:FuncId}[hf:dg P fn]{x:Operand}{xs:Array Operand}{ats:Array TypeId}{K:TZ}{l:List (Nat×Nat)}{n:Nat}{b:Bool}(hc:b=true->CH P fn t l n K)(hb:b=true){ds:List DV}(hx:ev σ.env x=some (.val (.func (.func fn) #[] #[])))(ha:KW σ.env xs.toList=some ds)(hle:lH (ds++[]) (yC (rn l) K.args))(rS:xN (rn l) σ.heap K.pre)(hi:zx (rn l) (K.pre.map (·.1)++K.new)=true)(QJ:Fv K.pre (K.post.drop n))(hE:(⟨[(t,K.res.xT (rn l))],sN (rn l) (K.post.take n),K.new.map (rn l)⟩:An)=E) :
  dH P ops ⟨some t,.call ⟨.value x,xs,ats⟩,ty,pos,af,none⟩ (tm x++xs.toList.flatMap tm) (K.pre.map (λp=>rn l p.1)) σ E:=hE ▸ anF (hc hb) hx ha hle rS hi QJ
theorem atU{T e:TypeId}{sz bytes:Nat}{zd:DV}[hT:lK P T e sz bytes zd]{n:Nat}{ps:Array (Nat×Operand)}{AX:List (Nat×DV)}{α:Type}{f:List α->DV}{f1:α->DV}{ys:List α}(hs:EV t f ys)(hf1:∀l,f l = .sl sz (l.map f1))(hz:(zd.cs.all DV.one)=true)(hn:Nat.ble (n*sz) 16777216=true)(he:ZR σ.env ps.toList=some AX)(hk:Nat.beq AX.length n=true)
  (hf:Ij ((List.range n).map λi=>(i*sz,sz)) (List.replicate n zd.cs).flatten AX=some ((AX.map (·.2)).flatMap DV.cs)) (Ao:(AX.map (·.2)).all (ZS sz)=true) (hy:lH (AX.map (·.2)) (ys.map f1)) :
  dH P ops ⟨some t,.buildSlice T n ps,ty,pos,af,none⟩ (ps.toList.flatMap λp=>tm p.2) [] σ ⟨[(t,.row t)],[(t,some (.row e sz (ys.map f1)))],[t]⟩:=abS f1 ys hz hn he hk hf Ao hy
theorem atT{T e:TypeId}{sz bytes:Nat}{zd:DV}[hT:lK P T e sz bytes zd]{x y:Operand}{k k':IntKind}{l c:Int}{α:Type}{f:α->DV}{z:α}(hs:EV t f z)(h:kY bytes l c)(hx:ev σ.env x=some (.int k l))(hy:ev σ.env y=some (.int k' c))(hz:(zd.cs.all DV.one)=true)(hf:lH [zd] [f z]) :
  dH P ops ⟨some t,.makeSlice T x y,ty,pos,af,none⟩ (tm x++tm y) [] σ ⟨[(t,.row t)],[(t,some (.row e sz ((List.replicate l.toNat z).map f)))],[t]⟩:=agJ f z h hx hy hz (by cases hf;assumption)
theorem atP{T T2 e:TypeId}{sz bytes:Nat}{zd:DV}[hT:lK P T e sz bytes zd]{k2:IntKind}[hI:BT P T2 k2]{x y:Operand}{k:IntKind}{n:Int}{α:Type}{f:α->DV}{z:α}(hs:EV t f z)(h:0<n∧dK bytes n.toNat)(hx:ev σ.env x=some .cu)(hy:ev σ.env y=some (.int k n))(hz:(zd.cs.all DV.one)=true)(hf:lH [zd] [f z]) :
  dH P ops ⟨some t,.call ⟨.builtin .append,#[x,y],#[T,T2]⟩,ty,pos,af,none⟩ (tm x++tm y) [] σ ⟨[(t,.row t)],[(t,some (.row e sz ((List.replicate n.toNat z).map f)))],[t]⟩:=Og f z h hx hy hz (by cases hf;assumption)
theorem am4{T':TypeId}{u:Nat}{y:Operand}{id sz o E m:Nat}{n:Int}{α:Type}{xs:List α}{f:α->DV}{a a':α}{dn:DV}[hT:dM P T' m](hx:ev σ.env (.tmp u)=some (.rp id n.toNat sz o))(hy:ev σ.env y=some dn)(hh:cF σ.heap id=some (.row E sz (xs.map f)))(hs:EV u f a')(h:idx xs n=some a)(hf:(f a).flat=true)(hfn:dn.flat=true)(hn:Nat.beq m dn.cs.length=true)
  (PX:dn.ids = []) (hl:Nat.ble (o+m) sz=true) (he:(f a').flat=true) (afF:vR (f a).cs o dn.cs=(f a').cs) (yl:Nat.blt 0 m=true) :
  dH P ops ⟨none,.store T' (.tmp u) y,ty,pos,af,none⟩ (tm (.tmp u)++tm y) [id] σ ⟨[],[(id,some (.row E sz ((xs.set n.toNat a').map f)))],[]⟩:=YO a' h hx hy hh hf hfn hn PX hl he afF yl
class Tb{α:Type}(g:Nat)(sz:outParam Nat)(f:outParam (α->DV))(xs:outParam (List α)):Prop where
 h:aiT g sz f xs
theorem Mf{T n e sz g:Nat}[hT:te P T n e sz]{y:Operand}{k:IntKind}{m:Int}{α:Type}{f:α->DV}{xs:List α}{a:α}[ht:Tb g sz f xs](h:idx xs m=some a)(hy:ev σ.env y=some (.int k m))(hn:xs.length=n):dH P ops ⟨some t,.indexAddr T (.global g) y,ty,pos,af,none⟩ (tm (.global g)++tm y) [] σ ⟨[(t,.iv (f a).cs)],[],[]⟩:=YT ht.h h hy hn
theorem atS{T:TypeId}{K V:Type}{ck:K->List DV}{fv:V->DV}(hs:MP (nU ck fv) []):dH P ops ⟨some t,.makeMap T none,ty,pos,af,none⟩ [] [] σ ⟨[(t,.row t)],[(t,some (.mp (nU ck fv ([]:List (K×V)))))],[t]⟩:=Mu
theorem am9{T:TypeId}{V:Type}{fv:V->DV}(hs:MP (Vg fv) []):dH P ops ⟨some t,.makeMap T none,ty,pos,af,none⟩ [] [] σ ⟨[(t,.row t)],[(t,some (.mp (Vg fv ([]:List (ByteArray×V)))))],[t]⟩:=Mu
theorem atQ{T k e:TypeId}{gs:List Tg}{zd:DV}[hM:LO P T k e gs zd]{x y u:Operand}{id:Nat}{K V:Type}{ck:K->List DV}{fv:V->DV}{xs:List (K×V)}{q:K}{v:V}(h1:EV 0 (λk=>DV.agg (ck k)) q)(h2:EV 1 fv v)(Ub:∀a,qN gs (ck a)=true)(hid:(fv v).ids = [])(aoV:vv (ck q) = [])
  (hx:ev σ.env x=some (.row id)) (hh:cF σ.heap id=some (.mp (nU ck fv xs))) (hy:ev σ.env y=some (.agg (ck q))) (hu:ev σ.env u=some (fv v)) :
  dH P ops ⟨none,.mapUpdate T x y u,ty,pos,af,none⟩ (tm x++(tm y++tm u)) [id] σ ⟨[],[(id,some (.mp (nU ck fv (Fb ck xs q v))))],[]⟩:=QT Ub hid aoV hx hh hy hu
/-! kinds of operations -/
theorem kl{T:TypeId}{x:Operand}(h:dH P ops ⟨ds,.load T x,ty,pos,af,g⟩ rt rh σ E):dH P ops ⟨ds,.load T x,ty,pos,af,g⟩ rt rh σ E:=h
theorem kb{o:BinOp}{T T':TypeId}{x y:Operand}(h:dH P ops ⟨ds,.binOp o T x y T',ty,pos,af,g⟩ rt rh σ E):dH P ops ⟨ds,.binOp o T x y T',ty,pos,af,g⟩ rt rh σ E:=h
theorem kf{T i:TypeId}{x:Operand}(h:dH P ops ⟨ds,.fieldAddr T x i,ty,pos,af,g⟩ rt rh σ E):dH P ops ⟨ds,.fieldAddr T x i,ty,pos,af,g⟩ rt rh σ E:=h
theorem ks{T:TypeId}{x y:Operand}(h:dH P ops ⟨ds,.store T x y,ty,pos,af,g⟩ rt rh σ E):dH P ops ⟨ds,.store T x y,ty,pos,af,g⟩ rt rh σ E:=h
theorem kc{c:Callee}{xs:Array Operand}{ats:Array TypeId}(h:dH P ops ⟨ds,.call ⟨c,xs,ats⟩,ty,pos,af,g⟩ rt rh σ E):dH P ops ⟨ds,.call ⟨c,xs,ats⟩,ty,pos,af,g⟩ rt rh σ E:=h
theorem kbi{c:Builtin}{xs:Array Operand}{ats:Array TypeId}(h:dH P ops ⟨ds,.call ⟨.builtin c,xs,ats⟩,ty,pos,af,g⟩ rt rh σ E):dH P ops ⟨ds,.call ⟨.builtin c,xs,ats⟩,ty,pos,af,g⟩ rt rh σ E:=h
theorem ki{T:TypeId}{x y:Operand}(h:dH P ops ⟨ds,.indexAddr T x y,ty,pos,af,g⟩ rt rh σ E):dH P ops ⟨ds,.indexAddr T x y,ty,pos,af,g⟩ rt rh σ E:=h
theorem ksl{T:TypeId}{x:Operand}{a b c:Option Operand}(h:dH P ops ⟨ds,.slice T x a b c,ty,pos,af,g⟩ rt rh σ E):dH P ops ⟨ds,.slice T x a b c,ty,pos,af,g⟩ rt rh σ E:=h
theorem op0 {op:Op} (h:dH P ops ⟨ds,op,ty,pos,af,none⟩ rt rh σ E:=by first
 |(apply fU;rfl)
 |(apply eY;rfl)
 |(apply kf;first|(apply xg;rfl)|(apply Lu;rfl;rfl)|(apply Ls;rfl) | fail)
 |(apply kl;first
  |(apply rf;rfl;rfl;rfl)
  |(apply Mv;rfl;rfl)
  |(apply JP;rfl;rfl;rfl;rfl)
  |(apply Zo;rfl;rfl;rfl)
  |exact GV eH rfl rfl rfl rfl
  |exact GW eH rfl rfl rfl rfl rfl
  |exact GV (Xa eH eH) rfl rfl rfl rfl
  |exact GV (HY eH eH) rfl rfl rfl rfl
  |exact GW (Xa eH eH) rfl rfl rfl rfl rfl
  |exact GW (HY eH eH) rfl rfl rfl rfl rfl
  |exact abR rfl rfl eH eH (λ_=>rfl) dF dF dF
  |exact abR rfl rfl eH (ai6 eH eH) (λ_=>rfl) dF dF dF
  |exact ana rfl rfl eH eH (λ_=>rfl) dF dF
  |exact anb rfl rfl eH eH (λ_=>rfl) dF dF
  |exact anc rfl rfl eH eH eH eH (λ_=>rfl) (λ_=>dF) (λ_=>rfl) dF dF dF
  |fail)
 |(apply kb;first
  |(apply akx;rfl;rfl;first|exact nwr hj hx|exact nwr eH eH|fail)
  |(apply akw;rfl;rfl;exact ahy hj hx.h)
  |(apply AG;rfl;rfl;rfl)
  
  |(apply acp;rfl;rfl)
  |(apply ag7;rfl;rfl)
  |(apply ag6;rfl;rfl)
  |exact anv rfl rfl eH
  |exact anu rfl rfl eH
  |exact aks rfl rfl eH
  |exact akr rfl rfl eH
  |(apply anr;rfl;rfl;first|decide|assumption|fail)
  |(apply ans;rfl;rfl;first|decide|assumption|fail)
  |(apply acj;rfl)
  |(apply aci;rfl)
  |(apply ack;rfl)
  
  |(apply Zs;rfl)
  |(apply Zr;rfl)
  |(apply Zl;rfl;rfl)
  |exact anC rfl rfl rfl rfl rfl
  |exact anI eH rfl rfl
  |fail)
 |(apply AH;rfl;rfl)
 |(apply kc;first
  |(apply kbi;first
   |(apply abQ;rfl)
   |(apply agL;rfl;rfl)
   |(apply aha;rfl)
   |(apply Zp;rfl)
   |exact pL _ eH rfl rfl rfl Src.sl
   |exact pL _ eH rfl rfl rfl (Src.row rfl)
   |exact JA _ eH rfl rfl Src.sl
   |exact JA _ eH rfl rfl (Src.row rfl)
   |exact Oh eH rfl rfl rfl
   |exact Jz _ _ eH rfl rfl Src.sl
   |exact Jz _ _ eH rfl rfl (Src.row rfl)
   |(apply anx;rfl;rfl)
   |(apply anz;rfl;rfl)
   |(apply akt;rfl;rfl;rfl)
   |(apply ahc;rfl)
   |(apply atP;assumption;assumption;rfl;rfl;rfl;exact dl)
   
   |(apply agM;rfl;rfl)
   |(apply abP;rfl;rfl)
   |exact Jy rfl rfl rfl Src.sl
   |exact Jy rfl rfl rfl (Src.row rfl)
   |exact Jy (ys:=[]) rfl rfl rfl Src.cu
   |exact Mi rfl rfl rfl eH eH eH Src.sl (λ_=>rfl) (λ_=>rfl) dF dF
   |exact Mi rfl rfl rfl eH eH eH (Src.row rfl) (λ_=>rfl) (λ_=>rfl) dF dF
   |(apply agK;rfl)
   |exact aiV eH rfl rfl eH rfl dl
   |exact akc eH eH rfl rfl rfl dl
   |exact anp eH rfl rfl
   |exact akq eH eH rfl rfl rfl
   |fail)
  |(apply ag8;rfl)
  |(apply akv;rfl;rfl)
  |exact Fa eH rfl (lH.refl _) rfl
  |exact anH eH rfl dl pn rfl po
  |exact at2 eH rfl rfl dl pn rfl po
  |exact anF eH rfl rfl dl pn rfl po
  |exact anE eH eH rfl rfl dl pn rfl po dF
  |(refine Fa (args:=?xqa) (r:=?xqr) ?xqh rfl ?xql ?xqp;case xqh=>assumption;case xql=>exact dl;case xqp=>rfl)
  |exact Fa ((by assumption:_=true->br _ _ _ _) eH) rfl (lH.refl _) rfl
  |(apply ahg;assumption;assumption;rfl;exact dl;rfl)
  |exact OP eH rfl rfl (lH.refl _) rfl
  |exact OP ((by assumption:_=true->br _ _ _ _) eH) rfl rfl (lH.refl _) rfl
  |(refine OP (args:=?xqa) (r:=?xqr) ?xqh rfl rfl ?xql ?xqp;case xqh=>assumption;case xql=>exact dl;case xqp=>rfl)
  |fail)
 |(apply ki;first
  |exact Oe eH rfl rfl rfl
  |exact GX eH rfl rfl rfl
  |exact Oe (Xa eH eH) rfl rfl rfl
  |exact Oe (HY eH eH) rfl rfl rfl
  |exact GX (Xa eH eH) rfl rfl rfl
  |exact GX (HY eH eH) rfl rfl rfl
  |exact Mg eH rfl rfl
  |exact Mg (ai6 eH eH) rfl rfl
  |exact Mh eH rfl rfl
  |exact Uy eH rfl rfl
  |exact Me eH rfl rfl rfl
  |exact Ux eH rfl rfl rfl
  |exact YS rfl rfl dF aV
  |exact Mf eH rfl dF
  |exact Mf (HY eH eH) rfl dF
  |fail)
 |(apply ks;first
  |(apply wC;rfl;rfl;rfl;rfl;rfl)
  |(apply FR;rfl;rfl;rfl;rfl;rfl;rfl;rfl)
  |(apply am4;rfl;rfl;rfl;assumption;assumption;rfl;rfl;rfl;rfl;rfl;rfl;rfl;rfl)
  |exact am6 _ rfl rfl rfl eH eH eH (λ_=>rfl) dF dF dF dF dF dF
  |exact aiU _ rfl rfl rfl eH eH eH (λ_=>rfl) dF dF dF dF dF dF
  |exact am5 rfl rfl rfl eH eH eH eH eH (λ_=>rfl) (λ_=>dF) (λ_=>rfl) dF dF dF dF dF
  |fail)
 |(apply Xc;rfl)
 |(apply OQ;rfl;rfl;rfl)
 |(apply DT;rfl)
 |(apply anJ;rfl;rfl)
 |(apply atU;assumption;exact λ_=>rfl;rfl;rfl;rfl;rfl;rfl;rfl;exact dl)
 |(apply UT;rfl)
 |(apply OO;rfl)
 |(apply OM;rfl)
 |(apply acr;rfl;rfl)
 |(apply at1;rfl;rfl)
 |(apply aco;rfl)
 |(apply Zt;rfl;rfl;rfl)
 |(apply Zu;rfl;rfl;kernel_rfl)
 |(apply ksl;first
  |exact Od eH rfl rfl rfl
  |exact GU eH rfl rfl
  |exact Md eH rfl rfl
  |exact YQ eH rfl rfl rfl
  |exact YR (by rw[List.length_map];assumption) rfl rfl rfl
  |exact YP eH rfl rfl rfl
  |exact Uv eH rfl rfl rfl rfl
  |exact Uw eH eH rfl rfl
  |exact QS eH eH rfl rfl rfl
  |(apply US;rfl;rfl)
  |exact Es eH rfl rfl rfl
  |exact FI eH rfl rfl
  |exact Od ((by assumption:_=true->fC _ _ _) eH) rfl rfl rfl
  |exact GU ((by assumption:_=true->fC _ _ _) eH) rfl rfl
  |exact Md ((by assumption:_=true->fC _ _ _) eH) rfl rfl
  |exact Es ((by assumption:_=true->fC _ _ _) eH) rfl rfl rfl
  |exact FI ((by assumption:_=true->fC _ _ _) eH) rfl rfl
  |fail)
 |(apply atT;assumption;assumption;rfl;rfl;rfl;exact dl)
 |(apply Zq;rfl;rfl)
 
 |(apply JM;rfl)
 |(apply anw;rfl)
 |(apply ano;rfl)
 |exact agN eH eH rfl rfl dF
 |exact aj9 eH eH eH rfl dF rfl dF
 |exact QR eH rfl rfl
 |exact QR (HY eH eH) rfl rfl
 |(apply atS;assumption)
 |(apply am9;assumption)
 |(apply am8;assumption;rfl;rfl;rfl;rfl;rfl)
 |exact abO eH (λ_=>rfl) dF rfl rfl rfl
 |(apply atQ;assumption;assumption;exact λ_=>rfl;rfl;rfl;rfl;rfl;rfl;rfl)
 |exact ant eH rfl
 |exact ai7 _ rfl Src.sl
 |exact ai7 _ rfl (Src.row rfl)
 |fail):dH P ops ⟨ds,op,ty,pos,af,none⟩ rt rh σ E:=h
theorem sp{e e':List (Nat×DV)}{L:List Nat}(h:rQ e L e':=by first|((repeat first|exact .nil|(apply rQ.strip;rfl;assumption)|(apply rQ.half;rfl;assumption) | apply rQ.qh|fail);done) | fail):rQ e L e':=h
theorem go{gd:DV}{want on:Bool}(h:QE gd want on:=by first|exact .bT|exact .bF|exact .iT|exact .iF|fail):QE gd want on:=h
theorem gG{op:Op}{g gt:Nat}{want on:Bool}{gd d:DV}{ye:List (Nat×DV)}(Gz:(ops[g]?).bind (·.dst)=some gt)(hb:look σ.env gt=some gd)(hG:QE gd want on)(hS:on=true->rQ σ.env (vX op) ye)
  (h:on=true->dH P ops ⟨some t,op,ty,pos,af,none⟩ rt rh ⟨ye,σ.heap,σ.used⟩ ⟨[(t,d)],[],[]⟩):dH P ops ⟨some t,op,ty,pos,af,some (g,want)⟩ (gt::vX op++rt) rh σ ⟨[(t,.FD on d)],[],[]⟩:=acm hG Gz hb hS h
theorem gO{op:Op}{g gt:Nat}{want on:Bool}{gd d:DV}{hp:eW}{nw:List Nat}{ye:List (Nat×DV)}(Gz:(ops[g]?).bind (·.dst)=some gt)(hb:look σ.env gt=some gd)(hG:QE gd want on)(Ua:on=true)(hS:rQ σ.env (vX op) ye)
  (h:dH P ops ⟨some t,op,ty,pos,af,none⟩ rt rh ⟨ye,σ.heap,σ.used⟩ ⟨[(t,d)],hp,nw⟩):dH P ops ⟨some t,op,ty,pos,af,some (g,want)⟩ (gt::vX op++rt) rh σ ⟨[(t,.FD on d)],hp,nw⟩:=uG hG Gz hb Ua hS h
theorem gF{op:Op}{g gt:Nat}{want on:Bool}{gd:DV}(Gz:(ops[g]?).bind (·.dst)=some gt)(hb:look σ.env gt=some gd)(hG:QE gd want on)(Ua:on=false) :
  dH P ops ⟨some t,op,ty,pos,af,some (g,want)⟩ [gt] [] σ ⟨[(t,.FD on .cu)],[],[]⟩:=oS .cu hG Gz hb Ua
theorem gFb{op:Op}{g gt:Nat}{want on:Bool}{gd:DV}[ae7 P ty](Gz:(ops[g]?).bind (·.dst)=some gt)(hb:look σ.env gt=some gd)(hG:QE gd want on)(Ua:on=false) :
  dH P ops ⟨some t,op,ty,pos,af,some (g,want)⟩ [gt] [] σ ⟨[(t,.FD on (.bool false))],[],[]⟩:=oS (.bool false) hG Gz hb Ua
theorem op1 {o:Oper} (h:dH P ops o rt rh σ E:=by first
 |(apply gFb;rfl;rfl;exact go;assumption)
 |(apply gF;rfl;rfl;exact go;assumption)
 |(apply anB;assumption;rfl;rfl;exact op0)
 |exact anG eH dF eH rfl dl pn rfl po dF
 |(apply gG;rfl;rfl;exact go;exact λhb=>sp;exact λhb=>op0)
 |exact op0
 |(apply gO;rfl;rfl;exact go;assumption;exact sp;first|(apply anB;assumption;rfl;rfl;exact op0) | exact op0|fail)
 |fail):dH P ops o rt rh σ E:=h
inductive AP{α:Type}:List α->List α->List α->Prop
 |nil {e:List α}:AP [] e e
 |one {x:α} {e:List α}:AP [x] e (x::e)
 |two {x y:α} {e:List α}:AP [x,y] e (x::y::e)
 |cons {x:α} {l e r:List α} (h:AP l e r):AP (x::l) e (x::r)
theorem AP.eq{α:Type}{l e r:List α}(h:AP l e r):l++e=r:=by
 induction h with
 |nil=>rfl
 |one=>rfl
 |two=>rfl
 |cons h ih=>simp_all
theorem ap{α:Type}{l e r:List α}(h:AP l e r:=by first|exact .nil|exact .one|exact .two|(repeat first|exact .one|apply AP.cons|fail) | fail):AP l e r:=h
theorem Trace.cg{o:Oper}{l:List Oper}{σ':AS}{kv:List (Keys×An)}{e ev e':List (Nat×DV)}{h hp h':eW}{u nw u':List Nat}(k:dH P ops o rt rh ⟨e,h,u⟩ ⟨ev,hp,nw⟩)(a1:AP ev e e')(a2:AP hp h h')(a3:AP nw u u')(t:Trace P ops l ⟨e',h',u'⟩ σ' kv):Trace P ops (o::l) ⟨e,h,u⟩ σ' ((⟨rt,rh,ev.map (·.1),hp.map (·.1)⟩,⟨ev,hp,nw⟩)::kv):=by
 refine Trace.cons k ?_;show Trace P ops l ⟨ev++e,hp++h,nw++u⟩ σ' kv;rw[a1.eq,a2.eq,a3.eq];exact t
theorem tr{l:List Oper}{σ':AS}{kv:List (Keys×An)}(h:Trace P ops l σ σ' kv:=by first|((repeat first|exact .nil _|(apply Trace.cg;exact op1;exact ap;exact ap;exact ap) | fail);done) | fail):Trace P ops l σ σ' kv:=h
end
/-! code -/
section
variable {P:Program} {n:Nat} {Q:Exit->AS->Prop} {σ σ':AS} {id:Nat} {ops:Array Oper} {kv:List (Keys×An)} {d:Code}
theorem rs(hq:gL P n d Q σ')(ht:Trace P ops ops.toList σ σ' kv:=by first|exact tr|fail)(hd:qk n ops=true:=by kernel_rfl)(mz:kX σ.used (kv.map (·.2.new))=true:=by kernel_rfl):gL P n (.seq (.region id ops false) d) Q σ:=fK (dV ht hd mz hq)
theorem r2{id1 id2:Nat}{GD GF:Array Oper}{σ1 σ2:AS}{kv1 kv2:List (Keys×An)}(hq:gL P n d Q σ2)(h1:Trace P GD GD.toList σ σ1 kv1:=by first|exact tr|fail)(d1:qk n GD=true:=by kernel_rfl)(n1:kX σ.used (kv1.map (·.2.new))=true:=by kernel_rfl)(h2:Trace P GF GF.toList σ1 σ2 kv2:=by first|exact tr|fail)(d2:qk n GF=true:=by kernel_rfl)(n2:kX σ1.used (kv2.map (·.2.new))=true:=by kernel_rfl):gL P n (.seq (.region id1 GD false) (.seq (.region id2 GF false) d)) Q σ:=rs (rs hq h2 d2 n2) h1 d1 n1
theorem r3{id1 id2 id3:Nat}{GD GF Qc:Array Oper}{σ1 σ2 σ3:AS}{kv1 kv2 kv3:List (Keys×An)}(hq:gL P n d Q σ3)(h1:Trace P GD GD.toList σ σ1 kv1:=by first|exact tr|fail)(d1:qk n GD=true:=by kernel_rfl)(n1:kX σ.used (kv1.map (·.2.new))=true:=by kernel_rfl)(h2:Trace P GF GF.toList σ1 σ2 kv2:=by first|exact tr|fail)(d2:qk n GF=true:=by kernel_rfl)(n2:kX σ1.used (kv2.map (·.2.new))=true:=by kernel_rfl)(h3:Trace P Qc Qc.toList σ2 σ3 kv3:=by first|exact tr|fail)(d3:qk n Qc=true:=by kernel_rfl)(n3:kX σ2.used (kv3.map (·.2.new))=true:=by kernel_rfl):gL P n (.seq (.region id1 GD false) (.seq (.region id2 GF false) (.seq (.region id3 Qc false) d))) Q σ:=rs (rs (rs hq h3 d3 n3) h2 d2 n2) h1 d1 n1
theorem r4{id1 id2 id3 id4:Nat}{GD GF Qc aiK:Array Oper}{σ1 σ2 σ3 σ4:AS}{kv1 kv2 kv3 kv4:List (Keys×An)}(hq:gL P n d Q σ4)(h1:Trace P GD GD.toList σ σ1 kv1:=by first|exact tr|fail)(d1:qk n GD=true:=by kernel_rfl)(n1:kX σ.used (kv1.map (·.2.new))=true:=by kernel_rfl)(h2:Trace P GF GF.toList σ1 σ2 kv2:=by first|exact tr|fail)(d2:qk n GF=true:=by kernel_rfl)(n2:kX σ1.used (kv2.map (·.2.new))=true:=by kernel_rfl)(h3:Trace P Qc Qc.toList σ2 σ3 kv3:=by first|exact tr|fail)(d3:qk n Qc=true:=by kernel_rfl)(n3:kX σ2.used (kv3.map (·.2.new))=true:=by kernel_rfl)(h4:Trace P aiK aiK.toList σ3 σ4 kv4:=by first|exact tr|fail)(d4:qk n aiK=true:=by kernel_rfl)(n4:kX σ3.used (kv4.map (·.2.new))=true:=by kernel_rfl):gL P n (.seq (.region id1 GD false) (.seq (.region id2 GF false) (.seq (.region id3 Qc false) (.seq (.region id4 aiK false) d)))) Q σ:=rs (rs (rs (rs hq h4 d4 n4) h3 d3 n3) h2 d2 n2) h1 d1 n1
theorem ds(hq:gL P n d Q σ')(hm:P.follows .mixedOrders=true:=by first|exact mixed|fail)(ht:Trace P ops ops.toList σ σ' kv:=by first|exact tr|fail)(hk:Ae ops (kv.map (·.1))=true:=by kernel_rfl)(hd:qk n ops=true:=by kernel_rfl)(mz:kX σ.used (kv.map (·.2.new))=true:=by kernel_rfl):gL P n (.seq (.region id ops true) d) Q σ:=fK (KA hm ht hk hd mz hq)
theorem bk{α:Type}{p:Prop}[Decidable p]{a:Option α}{r:α}{G:Prop}(h:Hu p a=some r)(k:p->a=some r->G):G:=k (mP h).1 (mP h).2
theorem cd{α:Type}{b:Bool}{x y:Option α}{r:α}{c:Operand}{d e:Code}(h:(if b=true then x else y)=some r)(h1:x=some r->gL P n d Q σ)(h2:y=some r->gL P n e Q σ)(hc:ev σ.env c=some (.bool b):=by rfl):gL P n (.cond c d e) Q σ :=
 qc b hc (λq=>h1 ((AF h).1 q)) (λq=>h2 ((AF h).2 q))
theorem fz{c:Code}{E sz:Nat}{eC:List DV}(id:Nat)(h:gL P n c Q ⟨acS id sz eC σ.env,(id,none)::ZI id sz eC σ.heap,σ.used⟩)(hh:cF σ.heap id=some (.row E sz eC):=by rfl):gL P n c Q σ:=sy (jP.freeze hh) h
theorem sq{x y:Code}(h:gL P n x (afd P n y Q) σ):gL P n (.seq x y) Q σ:=fK h
theorem sk(h:Q .normal σ):gL P n .skip Q σ:=sW h
theorem bl{c:Code}(h:gL P n c (BU id Q) σ):gL P n (.block id c) Q σ:=vM h
theorem ex(h:Q (.exit id) σ):gL P n (.exit id) Q σ:=HA h
/-! weakenings -/
def IL(l:List (Nat×Nat))(σ σ':AS):Prop:=jP σ σ'
theorem eo{f:Nat->Nat}{a b:List (Nat×DV)}(h:Cq f a b:=by first|((repeat first|exact .nil|refine .cons rfl (iy.refl _) ?_|refine .cons rfl (iy.succ _ _) ?_|refine .cons rfl (iy.cu _) ?_|refine .cons rfl (iy.agg dl) ?_|fail);done) | fail):Cq f a b:=h
theorem hl{a b:HE}(h:HLe a b:=by first|exact .refl _|exact .bJ dl|exact .TE|fail):HLe a b:=h
theorem ho{f:Nat->Nat}{a b:eW}(h:xK f a b:=by first|((repeat first|exact .nil|refine .cons rfl hl ?_|fail);done) | fail):xK f a b:=h
theorem ish{l:List (Nat×Nat)}(he:(σ'.env.map λp=>look σ.env p.1)=(σ'.env.map λp=>some (p.2.xT (rn l))))(hh:(σ'.heap.map λp=>cF σ.heap (rn l p.1))=(σ'.heap.map λp=>p.2.map (HE.xT (rn l))))(hs:(σ'.heap.all λp=>p.2.isSome)=true)(hu:NY (rn l) σ.used σ'.used=true)(hi:zx (rn l) (σ'.heap.map (·.1))=true)(hc:RN σ'=true):IL l σ σ':=jP.sh (rn l) he hh hs hu hi hc
theorem iof{l:List (Nat×Nat)}(he:Cq (rn l) σ.env σ'.env)(hh:xK (rn l) σ.heap σ'.heap)(hu:NY (rn l) σ.used σ'.used=true)(hi:zx (rn l) (σ'.heap.map (·.1))=true)(hc:RN σ'=true):IL l σ σ':=jP.of (rn l) he hh hu hi hc
theorem inr(t id E sz:Nat)(ht:look σ.env t=some .cu:=by rfl)(hi:Hj id σ.used=false:=by rfl)(h:jP ⟨(t,.row id)::σ.env,(id,some (.row E sz []))::σ.heap,id::σ.used⟩ σ'):jP σ σ':=(yp E sz ht hi).trans h
/-! loops -/
variable {S E β:Type} {c:Code}
theorem nx{St:S->AS}{s':S}{t:xy S E}(hM:some (.next s')=some t)(hi:jP σ (St s')):∃s',t = .next s'∧jP σ (St s'):=⟨s',(Option.some.inj hM).symm,hi⟩
def QG(S':S->AS)(t:S)(Q:Exit->AS->Prop):Exit->AS->Prop
 |.normal,σ=>∃s',s'=t∧jP σ (S' s')
 |e,σ=>Q e σ
theorem no{S':S->AS}{s':S}{t:S}(hM:some s'=some t)(hi:jP σ (S' s')):∃s',s'=t∧jP σ (S' s'):=⟨s',Option.some.inj hM,hi⟩
theorem wh{step:S->Option (xy S E)}{s0:S}{k:E->Option β}{r:β}(St:S->AS)(hM:(EP step s0).bind k=some r)(h0:jP σ (St s0))
  (round:∀e,k e=some r->∀s t,step s=some t->(∀e',t = .done e'->e'=e)->gL P n c (QW St t (BU id Q)) (St s)):gL P n (.block id (.loop c)) Q σ:=by
 obtain⟨e,h1,h2⟩:=pt hM;exact vM (Yk St s0 h1 h0 (round e h2))
theorem fo{body:Nat->S->Option (xy S E)}{mx N:Int}{s0:S}{k:xy S E->Option β}{r:β}(St:Nat->S->AS)(hM:(Xy mx N body s0).bind k=some r)(h0:jP σ (St 0 s0))
  (r1:∀t,k t=some r->∀(j:Nat) (s:S) (t':xy S E),(j:Int)<N->N<=mx->body j s=some t'->(∀e',t' = .done e'->t = .done e')->gL P n c (QF St j t' (BU id Q)) (St j s))
  (r2:∀(j:Nat) (s:S),k (.next s)=some r->N<=(j:Int)->N<=mx->gL P n c (Wa (BU id Q)) (St j s)):gL P n (.block id (.loop c)) Q σ:=by
 obtain⟨t,h1,h2⟩:=pt hM;exact vM (aof St s0 h1 h0 (r1 t h2) (λj s a b e=>r2 j s (e ▸ h2) a b))
theorem fl{body:Nat->S->Option S}{mx N:Int}{s0:S}{k:S->Option β}{r:β}(St:Nat->S->AS)(hM:(Ho mx N body s0).bind k=some r)(h0:jP σ (St 0 s0))
  (r1:∀(j:Nat) (s s':S),(j:Int)<N->N<=mx->body j s=some s'->gL P n c (QG (St (j+1)) s' (BU id Q)) (St j s))
  (r2:∀(j:Nat) (s:S),k s=some r->N<=(j:Int)->N<=mx->gL P n c (Wa (BU id Q)) (St j s)):gL P n (.block id (.loop c)) Q σ:=by
 obtain⟨t,h1,h2⟩:=pt hM
 exact vM (ak4 St s0 h1 h0 (λj s s' a b e=>DG (r1 j s s' a b e) (λx σ' hq=>by
  cases x with
  |normal=>obtain⟨_,rfl,hi⟩:=hq;exact hi
  |_=>exact hq)) (λj a b=>r2 j t h2 a b))
theorem c1{b:Prop}[Decidable b]{c:Operand}{d e:Code}(h:b)(k:gL P n d Q σ)(hc:ev σ.env c=some (.bool (decide b)):=by rfl):gL P n (.cond c d e) Q σ:=qc _ hc (λ_=>k) (λq=>absurd h (of_decide_eq_false q))
theorem c0{b:Prop}[Decidable b]{c:Operand}{d e:Code}(h:¬b)(k:gL P n e Q σ)(hc:ev σ.env c=some (.bool (decide b)):=by rfl):gL P n (.cond c d e) Q σ:=qc _ hc (λq=>absurd (of_decide_eq_true q) h) (λ_=>k)
end
/-! results -/
def OS:List Nat->Bool
 |[]=>true
 |x::xs=>!ahp xs x&&OS xs
section
variable {P:Program} {n:Nat} {σ:AS}
theorem rc{r:ResultVar}{d:DV}(h:sY P σ r d:=by first|exact sY.tmp rfl|exact sY.cell rfl rfl (.sc qe.h rfl) | exact sY.cell rfl rfl (.row _ jM.h (Nat.le_of_ble_eq_true rfl) rfl) | fail):sY P σ r d:=h
theorem dle{a b:DV}(h:iy a b:=by first|exact iy.refl _|exact iy.cu _|exact iy.agg dl|exact iy.gh dl|fail):iy a b:=h
theorem pk{p h:eW}(k:kE p h:=by first|((repeat first|exact .nil|refine .cons rfl ?_|refine .gone ?_|fail);done) | fail):kE p h:=k
theorem rv{rs:Array ResultVar}{d:DV}(h:vU P σ rs d:=by first|exact .r1 rc|exact .r0|exact .r2 rc rc|exact .r3 rc rc rc|fail):vU P σ rs d:=h
theorem rtp{rs:Array ResultVar}{res d:DV}{post:eW}(h:vU P σ rs d:=by first|exact rv|fail)(hle:iy d res:=by first|exact dle|fail)(hp:kE σ.heap post:=by first|exact pk|fail):tZ P rs res post .ret σ:=oU h hle hp.spec
theorem rt{Q:Exit->AS->Prop}(h:Q .ret σ:=by first|exact rtp|fail):gL P n .ret Q σ:=sX h
theorem ndp{rs:Array ResultVar}{res d:DV}{post:eW}(h:vU P σ rs d:=by first|exact rv|fail)(hle:iy d res:=by first|exact dle|fail)(hp:kE σ.heap post:=by first|exact pk|fail):tZ P rs res post .normal σ:=Yl h hle hp.spec
theorem nd{Q:Exit->AS->Prop}(h:Q .normal σ:=by first|exact ndp|fail):PR Q σ:=acB h
def pf:eW->eW
 |[]=>[]
 |p::ps=>match p.2 with
  |some _=>p::pf ps
  |none=>pf ps
theorem Hf:∀{h:eW} {i:Nat} {e:HE},OS (h.map (·.1))=true->cF h i=some e->cF (pf h) i=some e
 |[],i,e,_,h=>h
 |(k,x)::l,i,e,hn,h=>by
  simp only[List.map_cons,OS,Bool.and_eq_true]at hn;rw[cH]at h;cases x with
  |some y=>
   simp only[pf,cH]
   by_cases e1:k=i
   .simp_all
   .rw[if_neg e1]at h |-;exact Hf hn.2 h
  |none=>
   simp only[pf]
   by_cases e1:k=i
   .simp_all
   .rw[if_neg e1]at h;exact Hf hn.2 h
def rvT:List ResultVar->List DV->List (Nat×DV)
 |.tmp t::rs,d::ds=>(t,d)::rvT rs ds
 |.cell _ _::rs,_::ds=>rvT rs ds
 |_,_=>[]
def rvE(rs:List ResultVar)(d:DV):List (Nat×DV):=match rs with
 |[.tmp t]=>[(t,d)]
 |rs=>match d with
  |.gh ds=>rvT rs ds
  |_=>[]
theorem ra{rs:Array ResultVar}{res:DV}{post:eW}{Q:Exit->AS->Prop}(l:List (Nat×Nat))(hq:∀τ,tZ P rs res post .ret τ->Q .ret τ:=by exact λ_ h=>h)(h:IL l σ ⟨rvE rs.toList res,pf post,post.map (·.1)⟩:=by first|exact ish rfl rfl rfl rfl rfl rfl|exact iof eo ho rfl rfl rfl|fail)(hr:vU P ⟨rvE rs.toList res,pf post,post.map (·.1)⟩ rs res:=by first|exact rv|fail)(hk:OS (post.map (·.1))=true:=by rfl):gL P n .ret Q σ :=
 sy h (sX (hq _ (oU hr (iy.refl _) (λi e k=>Hf hk k))))
theorem na{rs:Array ResultVar}{res:DV}{post:eW}{Q:Exit->AS->Prop}(l:List (Nat×Nat))(hq:∀τ,tZ P rs res post .normal τ->Q .normal τ:=by exact λ_ h=>h)(h:IL l σ ⟨rvE rs.toList res,pf post,post.map (·.1)⟩:=by first|exact ish rfl rfl rfl rfl rfl rfl|exact iof eo ho rfl rfl rfl|fail)(hr:vU P ⟨rvE rs.toList res,pf post,post.map (·.1)⟩ rs res:=by first|exact rv|fail)(hk:OS (post.map (·.1))=true:=by rfl):PR Q σ :=
 ajb h (acB (hq _ (Yl hr (iy.refl _) (λi e k=>Hf hk k))))
end
section
variable {P:Program} {ops:Array Oper} {σ:AS} {t:Nat} {ty:TypeId} {pos:String} {af:Array Edge}
theorem am7{T:TypeId}[hT:aap P T]{x:Operand}{DL:Nat}{l:List (DV×DV)}(hx:ev σ.env x=some (.row DL))(hh:cF σ.heap DL=some (.mp l)) :
  dH P ops ⟨some t,.range T x,ty,pos,af,none⟩ (tm x) [DL] σ ⟨[(t,.ref t 0)],[(t,some (.it DL l.length []))],[t]⟩ :=
 dH.gen rfl rfl λC F γ σ' a w h1 h2 h3 hs=>by
  have hn:t ∉ σ'.used:=h3 t aR;have k1:=hs.ev ((cP h1 (λ_ h=>h)).trans hx);obtain⟨b,es,ck,e1,hg,hb,hR,PZ⟩:=Hc hs k1 ((h2 DL aR).trans hh);obtain⟨k,e,hu⟩:=hT.h;have hl:ck=l.length:=by rw[PZ.1,<-hR.len];simp
  refine⟨.pointer (some ⟨w.heap.size,0,none⟩),w.alloc (.mapIter (some b) ck #[] ck),F,γ.up t (.pointer (some ⟨w.heap.size,0,none⟩)),?_,lJ.refl _,pF _ (hs.ws.fresh hn),?_,?_⟩
  .simp[execOp,e1,run_range_map w T k e b es ck hu hb]
  .refine hs.ws.Ah hn _ (λb hb=>Sz) ?_
   exact⟨w.heap.size,b,rfl,hg,by rw[heap_alloc_new w,hl]⟩
  .exact⟨w.heap.size,uu _ _ _,rfl⟩
theorem Xh{γ:eD}:nW eD.no γ:=λ_ _ h=>dI
theorem Vc{es:Array MapEntry}{ck:Nat}(h:yW es ck):(es.toList.map (·.born)).Nodup:=by
 have e:es.toList.map (·.born)=List.range es.size:=by
  apply List.ext_getElem?;intro i
  by_cases hi:i<es.size
  .have h1:es[i]? = some es[i]:=Array.getElem?_eq_getElem hi
   have:=h.2 i _ h1
   simp_all
  simp_all
 grind
theorem ane{x:Operand}{rid DL N j:Nat}{seen:List Nat}{l:List (DV×DV)}{kd vd:DV}(hx:ev σ.env x=some (.ref rid 0))(hh:cF σ.heap rid=some (.it DL N (seen++[j])))(hm:cF σ.heap DL=some (.mp l))(hN:l.length=N)(hl:l[j]? = some (kd,vd)) :
  dH P ops ⟨some t,.entry x,ty,pos,af,none⟩ (tm x) [rid,DL] σ ⟨[(t,.gh [kd,vd])],[],[]⟩ :=
 dH.val rfl rfl λC F γ σ' a w h1 h2 hs=>by
  have k1:=hs.ev ((cP h1 (λ_ h=>h)).trans hx);obtain⟨b,hg,e1⟩:=k1;obtain⟨g,vO,b',bm,rfl,hgm,hb⟩:=hs.ws.si rid _ ((h2 rid aR).trans hh);rw[hg]at vO;injection vO with vO;injection vO with vO;injection vO with vO;injection vO with vO;subst vO
  obtain⟨g3,Tm,bm',es,ck,rfl,hbm,hR,PZ⟩:=hs.ws.si DL _ ((h2 DL aR).trans hm);rw[hgm]at Tm;injection Tm with Tm;injection Tm with Tm;injection Tm with Tm;subst Tm
  have IP:j<es.toList.length:=by rw[hR.len];exact(List.getElem?_eq_some_iff.1 hl).1
  have hej:es[j]? = some es.toList[j]:=aR;obtain⟨r1,r2⟩:=hR.get j hl (List.getElem?_eq_getElem IP);have ajP:=PZ.2 j _ hej;have ao4:(seen++[j]).toArray=seen.toArray.push (es.toList[j]).born:=eJ;rw[ao4]at hb;have alM:ck=N:=by rw[PZ.1,<-hN,<-hR.len];simp
  rw[<-alM]at hb;refine⟨.tuple #[(es.toList[j]).key,(es.toList[j]).val],?_,?_⟩
  .have kp:=run_entry_at (P:=P) w b bm ck seen.toArray es ck (es.toList[j]) ah hbm (List.getElem_mem IP) (Vc PZ)
   simp[execOp,e1,kp]
  .exact⟨_,rfl,_,_,rfl,Rs.mono (lJ.refl _) Xh _ _ r1,_,_,rfl,Rs.mono (lJ.refl _) Xh _ _ r2,rfl⟩
theorem ak3{n:Nat}{Q:Exit->AS->Prop}{id t1 u rid DL N:Nat}{seen:List Nat}{l:List (DV×DV)}{Yz ty1:TypeId}{HH ao5:String}{af0 af1:Array Edge}(hx:ev σ.env (.tmp u)=some (.ref rid 0))(hh:cF σ.heap rid=some (.it DL N seen))(hm:cF σ.heap DL=some (.mp l))(hN:l.length=N)(ht:t<n)(ht1:t1<n)
  (ao6:(∀j,j<N->j∈seen)->Q .normal ⟨(t1,.bool false)::(t,.gh [.bool false])::σ.env,σ.heap,σ.used⟩)
  (ao7:∀j kd vd,l[j]? = some (kd,vd)->j ∉ seen->Q .normal ⟨(t1,.bool true)::(t,.gh [.bool true,kd,vd])::σ.env,(rid,some (.it DL N (seen++[j])))::σ.heap,σ.used⟩) :
  gL P n (.region id #[⟨some t,.next (.tmp u) false,Yz,HH,af0,none⟩,⟨some t1,.extract (.tmp t) 0,ty1,ao5,af1,none⟩] false) Q σ:=by
 intro C F γ a w hn hs;have k1:=hs.ev hx;simp only[Rs]at k1;obtain⟨b,hg,e1⟩:=k1;obtain⟨g,vO,b',bm,rfl,hgm,hb⟩:=hs.ws.si rid _ hh;rw[hg]at vO;injection vO with vO;injection vO with vO;injection vO with vO;injection vO with vO;subst vO
 obtain⟨g3,Tm,bm',es,ck,rfl,hbm,hR,PZ⟩:=hs.ws.si DL _ hm;rw[hgm]at Tm;injection Tm with Tm;injection Tm with Tm;injection Tm with Tm;subst Tm
 have yl:es.size=N:=by rw[<-hN,<-hR.len];simp
 have hold:∀x∈es.toList,x.born<N:=λx hx=>by
  obtain⟨i,hi,rfl⟩:=List.getElem_of_mem hx;have:es[i]? = some es.toList[i]:=aR;rw[PZ.2 i _ this,<-yl];simpa using hi
 have alM:ck=N:=by rw[PZ.1,yl]
 have zb:=run_next_at (P:=P) w Yz b bm N N seen.toArray es ck hb hbm hold (Nat.le_refl _);have my:t<a.tmps.size:=by rw[hs.size,hn];exact ht
 refine wpIn_region ?_
 have ext:∀(v:Value) (vs:Array Value) (w':World) (bb:Bool),v = .tuple vs->vs[0]? = some (.bool bb)->(execOp (a.put (some t) v).eval ⟨some t1,.extract (.tmp t) 0,ty1,ao5,af1,none⟩).run P w' = .ok (.value (.bool bb)) w':=by
  intro v vs w' bb hv h0;subst hv;have e0:(a.put (some t) (.tuple vs)).eval (.tmp t) = .tuple vs:=by simp[Act.eval,Act.put,Array.getD,my]
  have e2:(Instr.extract (.tuple vs) 0).run P w' = .ok (.bool bb) w':=by simp[Instr.extract,h0]
  simp only[execOp,e0,e2,Sem.run_bind,Sem.run_pure,Result.andThen_ok]
 rcases zb with⟨h0,kp⟩|⟨e,he,w1,hw1,kp⟩
 .have LS:(execOp a.eval ⟨some t,.next (.tmp u) false,Yz,HH,af0,none⟩).run P w = .ok (.value (.tuple #[.bool false])) w:=by simp[execOp,e1,kp]
  refine ju LS ?_;refine ju (ext _ _ w false rfl rfl) ?_;have LP:=hs.put (t:=t) PE (d:=.gh [.bool false]) (v:=.tuple #[.bool false]) (by simp only[Rs,tQ];exact⟨_,rfl,_,_,rfl,rfl,rfl⟩);have EI:=LP.put (t:=t1) (by rw[hn];exact ht1) (d:=.bool false) (v:=.bool false) Cn;refine⟨F,γ,_,EI,ao6 (λj hj=>?_)⟩;have IP:j<es.size:=ah
  by_cases hq:j∈seen
  .exact hq
  .exfalso
   have hm:es[j]∈leftOf es seen.toArray:=by
    unfold leftOf;rw[Array.mem_filter];have:=PZ.2 j es[j] (Array.getElem?_eq_getElem IP);rw[this];simpa using hq
   have:=Array.size_pos_of_mem hm;omega
 .have Yx:e∈es.toList∧e.born ∉ seen:=by
   unfold leftOf at he
   simp_all
  obtain⟨j,IP,rfl⟩:=List.getElem_of_mem Yx.1;have hej:es[j]? = some es.toList[j]:=aR;have ajP:=PZ.2 j _ hej;have ao8:j<l.length:=by rw[<-hR.len];exact IP
  obtain⟨r1,r2⟩:=hR.get j (List.getElem?_eq_getElem ao8) (List.getElem?_eq_getElem IP);rw[ajP]at kp Yx;rw[alM]at kp
  have avS:WS C F γ σ.heap σ.used w1:=by
   rcases hw1 with rfl|rfl
   .exact hs.ws
   .exact hs.ws.quiet (uF.drew w)
  have ND:w1.heap[b]? = some (.mapIter (some bm) N seen.toArray N):=by rcases hw1 with rfl|rfl <;> exact hb
  have LS:(execOp a.eval ⟨some t,.next (.tmp u) false,Yz,HH,af0,none⟩).run P w = .ok (.value (.tuple #[.bool true,(es.toList[j]).key,(es.toList[j]).val])) (ChangeMaps.setBlock w1 b (.mapIter (some bm) N (seen.toArray.push j) N)):=by simp[execOp,e1,kp]
  refine ju LS ?_;refine ju (ext _ _ _ true rfl rfl) ?_
  have S:uF w1 (ChangeMaps.setBlock w1 b (.mapIter (some bm) N (seen.toArray.push j) N)) (fA (.pointer (some ⟨b,0,none⟩))):=by
   refine⟨rfl,rfl,rfl,by simp[ChangeMaps.setBlock],λi hi nq=>?_⟩;have:b≠i:=λe=>nq Cm
   simp[ChangeMaps.setBlock,Array.getElem?_setIfInBounds,this]
  have avT:b<w1.heap.size:=(Array.getElem?_eq_some_iff.1 ND).1
  have W1:=(avS.GQ hh hg S).put (e0:=.it DL N (seen++[j])) hg ⟨b,bm,rfl,hgm,by simp[ChangeMaps.setBlock,avT]⟩ (λb' je=>by
   have ho:=hs.ws.own rid _ _ b' hh hg je;refine⟨ho.1,ho.2,λi e' g' nq hi Tf Th=>?_⟩;rw[cH]at hi
   split at hi
   .cases hi
   .exact nq (hs.ws.apart i rid e' _ g' _ b' hi hh Tf hg Th je))
  have W2:=W1.congr (h':=(rid,some (.it DL N (seen++[j])))::σ.heap) (u':=σ.used) (λi e hi=>by
   rw[cH]at hi |-
   split at hi
   .rename_i q;rw[if_pos q];exact hi
   .rename_i q;rw[if_neg q,cH,if_neg q];exact hi) (λ_ h=>h)
  have hs0:Sat C F γ ⟨σ.env,(rid,some (.it DL N (seen++[j])))::σ.heap,σ.used⟩ a (ChangeMaps.setBlock w1 b (.mapIter (some bm) N (seen.toArray.push j) N)):=⟨hs.env,W2,hs.size,hs.defers⟩;have LP:=hs0.put (t:=t) PE (d:=.gh [.bool true,(l[j]).1,(l[j]).2]) (v:=.tuple #[.bool true,(es.toList[j]).key,(es.toList[j]).val]) (by simp only[Rs,tQ];exact⟨_,rfl,_,_,rfl,rfl,_,_,rfl,Rs.mono (lJ.refl _) Xh _ _ r1,_,_,rfl,Rs.mono (lJ.refl _) Xh _ _ r2,rfl⟩);have EI:=LP.put (t:=t1) (by rw[hn];exact ht1) (d:=.bool true) (v:=.bool true) Cn;exact⟨F,γ,_,EI,ao7 j _ _ (List.getElem?_eq_getElem ao8) Yx.2⟩
end
section
variable {P:Program} {ops:Array Oper} {C:Ctx} {σ σ':AS} {ks:List (Keys×An)}
theorem DS{α:Type}:∀(es:List (List (Nat×α))) (b:List (Nat×α)) (D:Nat->Bool) (i:Nat),(∀j,i<=j->D j=false)->mr b es D i=b
 |[],b,D,i,_=>rfl
 |e::es,b,D,i,h=>by
  unfold mr;rw[h i (Nat.le_refl _)];exact DS es b D (i+1) (λj hj=>h j ah)
theorem Ms{α:Type}(es2:List (List (Nat×α))):∀(es1:List (List (Nat×α))) (b:List (Nat×α)) (i n:Nat),n=i+es1.length->mr b (es1++es2) (λj=>decide (j<n)) i=mr b es1 (λ_=>true) i
 |[],b,i,n,hn=>by
  exact DS es2 b _ i (λj hj=>eJ)
 |e::es1,b,i,n,hn=>by
  rw[List.cons_append];unfold mr;have:decide (i<n)=true:=eJ;simp only[this];exact Ms es2 es1 _ (i+1) n (by simp at hn;omega)
theorem Trace.app{l1 l2:List Oper}{σ σi σ':AS}{Uc Tn:List (Keys×An)}(h1:Trace P ops l1 σ σi Uc)(h2:Trace P ops l2 σi σ' Tn):Trace P ops (l1++l2) σ σ' (Uc++Tn):=by
 induction h1 with
 |nil σ=>exact h2
 |cons h t ih=>exact Trace.cons h (ih h2)
def WZ(rh:List Nat)(j0:Nat)(ks:List Keys):Bool:=ks.zipIdx.all λ(k,j)=>Nat.beq j j0||rh.all λid=>!k.wh.any (Nat.beq id)
theorem UQ{rh:List Nat}{j0:Nat}{ks:List (Keys×An)}(h:WZ rh j0 (ks.map (·.1))=true):∀id∈rh,∀(j:Nat) k,ks[j]? = some k->id∈k.1.wh->j=j0:=by
 intro id hid j k hk hw;unfold WZ at h;rw[List.all_eq_true]at h;have:=h (k.1,j) (by rw[List.mem_zipIdx_iff_getElem?];simp_all);simp only[Bool.or_eq_true,List.all_eq_true]at this;rcases this with q|q
 .simp_all
 .have:=q id hid
  simp only[Bool.not_eq_true',List.any_eq_false]at this;exact absurd (Nat.beq_refl id) (this id hw)
theorem aii{n id i0 m:Nat}{Q:Exit->AS->Prop}{σi:AS}{Uc Tn:List (Keys×An)}{o0:Oper}{Tq NF:List Nat}{E0:An}{Xj:Keys×An}(hm:P.follows .mixedOrders=true)(ho:ops.toList[i0]? = some o0)(ht1:Trace P ops (ops.toList.take i0) σ σi Uc)(h0:dH P ops o0 Tq NF σi E0)
  (ht2:Trace P ops (ops.toList.drop (i0+1)) (σi.app E0) σ' Tn) (hj:Tn[m]? = some Xj) (ha:dH P ops o0 Tq NF ⟨σi.env,Xj.2.heap++σi.heap,σi.used⟩ E0)
  (hk:(Ae ops (((Uc++(⟨Tq,NF,E0.env.map (·.1),E0.heap.map (·.1)⟩,E0)::Tn).map (·.1)).set i0 ⟨Tq,[],E0.env.map (·.1),E0.heap.map (·.1)⟩)&&WZ NF (i0+1+m) ((Uc++(⟨Tq,NF,E0.env.map (·.1),E0.heap.map (·.1)⟩,E0)::Tn).map (·.1))&&NF.all λid=>Xj.1.wh.any (Nat.beq id))=true)
  (hd:qk n ops=true) (mz:kX σ.used ((Uc++(⟨Tq,NF,E0.env.map (·.1),E0.heap.map (·.1)⟩,E0)::Tn).map (·.2.new))=true) (hq:Q .normal σ'):gL P n (.region id ops true) Q σ:=λC F γ a w hn hs=>by
 simp only[Bool.and_eq_true]at hk;obtain⟨⟨hk1,hk2⟩,hk3⟩:=hk;have my:i0<ops.toList.length:=(List.getElem?_eq_some_iff.1 ho).1;have hl1:Uc.length=i0:=by rw[ht1.at.1,List.length_take];omega
 have hsp:ops.toList.take i0++o0::ops.toList.drop (i0+1)=ops.toList:=by
  have e1:ops.toList.drop i0=o0::ops.toList.drop (i0+1):=by
   rw[List.drop_eq_getElem_cons my];rw[List.getElem?_eq_getElem my]at ho;rw[Option.some.inj ho]
  rw[<-e1,List.take_append_drop]
 have ht:Trace P ops ops.toList σ σ' (Uc++(⟨Tq,NF,E0.env.map (·.1),E0.heap.map (·.1)⟩,E0)::Tn):=by
  have:=ht1.app (Trace.cons h0 ht2)
  rwa [hsp]at this
 have hki:(Uc++(⟨Tq,NF,E0.env.map (·.1),E0.heap.map (·.1)⟩,E0)::Tn)[i0]? = some (⟨Tq,NF,E0.env.map (·.1),E0.heap.map (·.1)⟩,E0):=by
  simp_all
 have hkj:(Uc++(⟨Tq,NF,E0.env.map (·.1),E0.heap.map (·.1)⟩,E0)::Tn)[i0+1+m]? = some (Xj.1,Xj.2):=by
  rw[List.getElem?_append_right ah,hl1,show i0+1+m-i0=m+1 by omega,List.getElem?_cons_succ,hj]
 have hwj:∀id∈NF,id∈Xj.1.wh:=by
  simp_all
 refine wpIn_region_any hm (MW ht (λX h=>by rw[hki]at h;injection h with h;exact⟨h.symm,hkj,ah⟩) hk1 (UQ hk2) hwj (λo σ1 ho1 g1 g2=>?_) mz (λo ho d hd'=>?_) (λF' γ' a' w' h=>⟨F',γ',σ',h,hq⟩) ops.size _ F γ a _ aR ?_ ?_ ?_)
 .have:o=o0:=by
   simp_all
  subst this;refine dH.same ha (λt PW=>?_) (λid hid=>?_)
  .rw[g1 t PW,List.map_append,Ms _ _ _ 0 i0 eJ]
   exact(ht1.at.2.2.1 t).symm
  .rw[g2 id hid,gK]
   obtain⟨K',E',_,q1,q2,q3,_⟩:=ht.at.2.1 (i0+1+m) _ (List.getElem?_eq_getElem (by rw[<-ht.at.1];exact(List.getElem?_eq_some_iff.1 hkj).1));rw[hkj]at q1;injection q1 with q1;injection q1 with q1 q1'
   have avW:id∈Xj.2.heap.map (·.1):=eJ;obtain⟨x,hx⟩:=uH avW;rw[hx];rfl
 .simp only[qk,List.all_eq_true]at hd
  have:=hd o ho
  simp_all
 .intro i o hi
  exfalso
  by_cases h:i<ops.size <;> simp[Array.getD,h]at hi
 .have:=List.countP_le_length (p:=λi=>!(Array.replicate ops.size false).getD i false) (l:=List.range ops.size)
  simpa using this
 .have hF:∀i,(Array.replicate ops.size false).getD i false=false:=λi=>by
   by_cases h:i<ops.size <;> simp[Array.getD,h]
  have jI:Sat C F γ σ a { w with drawn:=w.drawn+1 }:=⟨hs.env,hs.ws.quiet (uF.drew w),hs.size,hs.defers⟩;refine jI.congr (λt d h=>?_) (λid e h=>?_) (λx hx=>AJ.2 (.inl hx))
  .simp only[over]at h;rw[DS _ _ _ _ (λj _=>hF j)]at h;exact h
  .simp only[over]at h;rw[DS _ _ _ _ (λj _=>hF j)]at h;exact h
end
/-! what models bear -/
inductive Wk where
 |r (t id E sz:Nat)
 |c (id rid j E sz:Nat)
 |z (id:Nat)
 |b (id:Nat)
 |p (id j i o:Nat)
abbrev Rn:=List (Nat×Nat)
abbrev Ev:=List (Nat×DV)
@[reducible] def i2{α β:Type}(_:α)(t:β):β:=t
abbrev m64:Int:=9223372036854775807
@[irreducible] def Bi{α β:Type}(a:Option α)(f:α->Option β):Option β:=a.bind f
@[irreducible] def If{α:Type}(b:Bool)(x y:Option α):Option α:=if b=true then x else y
@[irreducible] def cz{α:Type}(a j:Int)(x y:Option α):Option α:=if a=j then x else y
@[irreducible] def Ck{α:Type}(p:Prop)[Decidable p](k:Option α):Option α:=Hu p k
@[irreducible] def o1{α:Type}(a:Option α):Option α:=a
@[irreducible] def sm{α β γ:Type}(v:α⊕β)(f:α->Option γ)(g:β->Option γ):Option γ:=match v with
 |.inl a=>f a
 |.inr b=>g b
@[irreducible] def mv{α β γ:Type}(f:α->β)(a:α)(k:Option γ):Option γ:=k
@[irreducible] def eE{α β:Type}(t:Nat)(f:α->DV)(y:α)(k:α->Option β):Option β:=k y
@[irreducible] def ea{α β:Type}(t:Nat)(f:α->List DV)(F:Nat->α)(k:Option β):Option β:=k
@[irreducible] def eb{α β:Type}(t:Nat)(v:α)(k:Option β):Option β:=k
@[irreducible] def npU(id j:Nat)(a b:Option Unit):Option Unit:=a.bind λ_=>b
@[irreducible] def cl{α:Type}(t:Nat)(l:Rn)(a:Option α):Option α:=a
@[irreducible] def wk{α:Type}(w:List Wk)(a:Option α):Option α:=a
@[irreducible] def nX{α:Type}(w:List Wk)(l:Rn)(a:Option α):Option α:=a
@[irreducible] def rX{α:Type}(l:Rn)(a:Option α):Option α:=a
@[irreducible] def rC{α:Type}(ke kh:List Nat)(l:Rn)(a:Option α):Option α:=a
@[irreducible] def fL{S R:Type}(s:S)(ct:Nat)(u ke kh:List Nat)(ne:S->Ev->Ev)(nh:S->eW->eW)(w:List Wk)(l:Rn)(mx n:Int)(body:Nat->S->Option S)(k:S->Option R):Option R:=(Ho mx n body s).bind k
@[irreducible] def fLu{S R:Type}(s:S)(ct:Nat)(u ke kh:List Nat)(ne:S->Ev->Ev)(nh:S->eW->eW)(w:List Wk)(l:Rn)(mx n:Int)(body:Nat->S->Option S)(k:S->Option R):Option R:=(Ho mx n body s).bind k
@[irreducible] def fO{S E R:Type}(s:S)(ct:Nat)(u ke kh:List Nat)(ne:S->Ev->Ev)(nh:S->eW->eW)(w:List Wk)(l:Rn)(mx n:Int)(body:Nat->S->Option (xy S E))(k:xy S E->Option R):Option R:=(Xy mx n body s).bind k
@[irreducible] def wL{S E R:Type}(s:S)(u ke kh:List Nat)(ne:S->Ev->Ev)(nh:S->eW->eW)(w:List Wk)(l:Rn)(step:S->Option (xy S E))(k:E->Option R):Option R:=(EP step s).bind k
@[irreducible] def jn{S R:Type}(K:S->Option R)(rid:Nat)(u ke kh:List Nat)(ne:S->Ev->Ev)(nh:S->eW->eW)(e:Option R):Option R:=e
theorem NA{α β:Type}(a:Option α)(f:α->Option β):Bi a f=a.bind f:=by unfold Bi;rfl
theorem Yq{α:Type}(b:Bool)(x y:Option α):If b x y=if b=true then x else y:=by unfold If;rfl
theorem Yr{α:Type}(p:Prop)[Decidable p](k:Option α):Ck p k=Hu p k:=by unfold Ck;rfl
theorem aob{α:Type}(t:Nat)(l:Rn)(a:Option α):cl t l a=a:=by unfold cl;rfl
theorem aiS{α:Type}(w:List Wk)(a:Option α):wk w a=a:=by unfold wk;rfl
theorem Xi{α:Type}(w:List Wk)(l:Rn)(a:Option α):nX w l a=a:=by unfold nX;rfl
theorem ai1{α:Type}(l:Rn)(a:Option α):rX l a=a:=by unfold rX;rfl
/-! contracts of models -/
class MC{α:Type}(a:Option α)(c:outParam (α->Prop)):Prop where
 h:∀{x},a=some x->c x
class MA{α:Type}(a:Option α)(P:outParam Program)(fn:outParam FuncId)(n:outParam (α->Nat))(K:outParam (α->TZ)):Prop where
 h:∀{x},a=some x->gY P fn (K x)
instance {α:Type}{a:Option α}{b:Bool}{z:α}{c:α->Prop}[m:MC a c]:MC (gb b z a) (λx=>b=true->c x):=⟨λh e=>m.h (HY h e)⟩
instance {α:Type}{a:Option α}{t:Nat}{l:Rn}{P:Program}{fn:FuncId}{n:α->Nat}{K:α->TZ}[m:MA a P fn n K]:MC (cl t l a) (λx=>CH P fn t l (n x) (K x)):=⟨λh=>⟨m.h (aob t l a ▸ h)⟩⟩
instance {α:Type}{xs:List α}{i:Int}:MC (idx xs i) (λ_=>True):=⟨λ_=>trivial⟩
section
variable {α β:Type} {r:β} {G:Prop}
theorem nn(h:(none:Option β)=some r):G:=dI
theorem bI{a:Option α}{f:α->Option β}{c:α->Prop}[m:MC a c](h:Bi a f=some r)(k:∀x,c x->a=some x->f x=some r->G):G:=by
 rw[NA]at h;obtain⟨x,h1,h2⟩:=pt h;exact k x (m.h h1) h1 h2
theorem ae'{γ:Type}{t:Nat}{f:γ->List DV}{F:Nat->γ}{k:Option β}(h:ea t f F k=some r)(g:EA t f F->k=some r->G):G:=g ⟨trivial⟩ (by unfold ea at h;exact h)
theorem auX{γ:Type}{t:Nat}{v:γ}{k:Option β}(h:eb t v k=some r)(g:EB t v->k=some r->G):G:=g ⟨trivial⟩ (by unfold eb at h;exact h)
theorem be{t:Nat}{f:α->DV}{y:α}{k:α->Option β}(h:eE t f y k=some r)(g:EV t f y->k y=some r->G):G:=g (ev0 t f y) (by unfold eE at h;exact h)
end
section
variable {α β γ:Type} {r:γ} {G:Prop}
theorem so{v:α⊕β}{f:α->Option γ}{g:β->Option γ}(h:sm v f g=some r)(k1:∀a,v = .inl a->f a=some r->G)(k2:∀b,v = .inr b->g b=some r->G):G:=by
 unfold sm at h
 grind
theorem me{f:α->β}{a:α}{k:Option γ}(h:mv f a k=some r)(g:MP f a->k=some r->G):G:=g (mp0 f a) (by unfold mv at h;exact h)
theorem bk'{p:Prop}[Decidable p]{a:Option γ}(h:Ck p a=some r)(k:p->a=some r->G):G:=by rw[Yr]at h;exact bk h k
theorem cg{b:Bool}{x y:Option γ}(h:If b x y=some r)(k1:b=true->x=some r->G)(k2:b=false->y=some r->G):G:=by
 rw[Yq]at h
 grind
end
class DC{α:Type}(dec:DV->Option α)(dv:outParam (α->DV)):Prop where
 h:∀{d x},dec d=some x->d=dv x
theorem bD{α β:Type}{r:β}{G:Prop}{dec:DV->Option α}{dv:α->DV}[m:DC dec dv]{d:DV}{f:α->Option β}(h:Bi (dec d) f=some r)(k:∀x,d=dv x->f x=some r->G):G:=by
 rw[NA]at h;obtain⟨x,h1,h2⟩:=pt h;exact k x (m.h h1) h2
instance {s:ByteArray}{i:Int}:MC (Bp s i) (λ_=>True):=⟨λ_=>trivial⟩
instance {α:Type}{x:α}:MC (some x) (λ_=>True):=⟨λ_=>trivial⟩
/-! states -/
inductive PK(e:Ev):List Nat->Ev->Prop
 |nil:PK e [] []
 |cons {t:Nat} {d:DV} {l:List Nat} {r:Ev} (h:look e t=some d) (k:PK e l r):PK e (t::l) ((t,d)::r)
inductive PH(e:eW):List Nat->eW->Prop
 |nil:PH e [] []
 |cons {t:Nat} {d:HE} {l:List Nat} {r:eW} (h:cF e t=some d) (k:PH e l r):PH e (t::l) ((t,some d)::r)
theorem pke{e:Ev}{l:List Nat}{r:Ev}(h:PK e l r:=by first|((repeat first|exact .nil|(apply PK.cons;rfl) | fail);done) | fail):PK e l r:=h
theorem phe{e:eW}{l:List Nat}{r:eW}(h:PH e l r:=by first|((repeat first|exact .nil|(apply PH.cons;rfl) | fail);done) | fail):PH e l r:=h
@[reducible] def Iy(e:Ev)(h:eW)(u:List Nat):AS:=⟨e,h,h.map (·.1)++u⟩
def IM:List Wk->Rn->AS->AS->Prop
 |[],l,σ,σ'=>IL l σ σ'
 |.r t id E sz::w,l,σ,σ'=>look σ.env t=some .cu∧Hj id σ.used=false∧IM w l ⟨(t,.row id)::σ.env,(id,some (.row E sz []))::σ.heap,id::σ.used⟩ σ'
 |.c id rid j E sz::w,l,σ,σ'=>∃T ds,cF σ.heap id=some (.bJ T ds)∧ds[j]? = some .cu∧Hj rid σ.used=false∧Nat.beq rid id=false∧IM w l ⟨σ.env,(id,some (.bJ T (ds.set j (.row rid))))::(rid,some (.row E sz []))::σ.heap,rid::σ.used⟩ σ'
 |.z id::w,l,σ,σ'=>∃E sz eC,cF σ.heap id=some (.row E sz eC)∧IM w l ⟨acS id sz eC σ.env,(id,none)::ZI id sz eC σ.heap,σ.used⟩ σ'
 |.b id::w,l,σ,σ'=>∃T ds,cF σ.heap id=some (.bJ T ds)∧vv ds = []∧IM w l ⟨sbE (Iw id ds) σ.env,(id,none)::sbH (Iw id ds) σ.heap,σ.used⟩ σ'
 |.p id j i o::w,l,σ,σ'=>∃T ds,cF σ.heap id=some (.bJ T ds)∧ds[j]? = some (.val (.pointer none))∧IM w l ⟨σ.env,(id,some (.bJ T (ds.set j (.np i o))))::σ.heap,σ.used⟩ σ'
theorem IM.imp:∀{w:List Wk} {l:Rn} {σ σ':AS},IM w l σ σ'->jP σ σ'
 |[],l,σ,σ',h=>h
 |.r t id E sz::w,l,σ,σ',⟨h1,h2,h3⟩=>(yp E sz h1 h2).trans (IM.imp h3)
 |.c id rid j E sz::w,l,σ,σ',⟨T,ds,h1,h2,h3,h4,h5⟩=>(Uk E sz h1 h2 h3 h4).trans (IM.imp h5)
 |.z id::w,l,σ,σ',⟨E,sz,eC,h1,h2⟩=>(jP.freeze h1).trans (IM.imp h2)
 |.b id::w,l,σ,σ',⟨T,ds,h1,h2,h3⟩=>(abv h1 h2).trans (IM.imp h3)
 |.p id j i o::w,l,σ,σ',⟨T,ds,h1,h2,h3⟩=>(abA h1 h2).trans (IM.imp h3)
theorem imt {w:List Wk} {l:Rn} {σ σ':AS} (h:IM w l σ σ':=by
 first|((repeat first
  |exact ish rfl rfl rfl rfl rfl rfl
  |exact iof eo ho rfl rfl rfl
  |refine⟨rfl,rfl,?_⟩
  |refine⟨_,_,_,rfl,?_⟩
  |refine⟨_,_,rfl,rfl,?_⟩
  |refine⟨_,_,rfl,rfl,rfl,rfl,?_⟩
            | fail); done) | fail) : IM w l σ σ' := h
inductive WM:List Wk->AS->AS->Prop
 |nil {σ:AS}:WM [] σ σ
 |r {t id E sz:Nat} {w:List Wk} {σ σ':AS} (h1:look σ.env t=some .cu) (h2:Hj id σ.used=false) (k:WM w ⟨(t,.row id)::σ.env,(id,some (.row E sz []))::σ.heap,id::σ.used⟩ σ'):WM (.r t id E sz::w) σ σ'
 |c {id rid j E sz:Nat} {w:List Wk} {σ σ':AS} {T:TypeId} {ds:List DV} (h1:cF σ.heap id=some (.bJ T ds)) (h2:ds[j]? = some .cu) (h3:Hj rid σ.used=false) (h4:Nat.beq rid id=false) (k:WM w ⟨σ.env,(id,some (.bJ T (ds.set j (.row rid))))::(rid,some (.row E sz []))::σ.heap,rid::σ.used⟩ σ'):WM (.c id rid j E sz::w) σ σ'
 |z {id:Nat} {w:List Wk} {σ σ':AS} {E sz:Nat} {eC:List DV} (h:cF σ.heap id=some (.row E sz eC)) (k:WM w ⟨acS id sz eC σ.env,(id,none)::ZI id sz eC σ.heap,σ.used⟩ σ'):WM (.z id::w) σ σ'
 |b {id:Nat} {w:List Wk} {σ σ':AS} {T:TypeId} {ds:List DV} (h:cF σ.heap id=some (.bJ T ds)) (h2:vv ds = []) (k:WM w ⟨sbE (Iw id ds) σ.env,(id,none)::sbH (Iw id ds) σ.heap,σ.used⟩ σ'):WM (.b id::w) σ σ'
 |p {id j i o:Nat} {w:List Wk} {σ σ':AS} {T:TypeId} {ds:List DV} (h:cF σ.heap id=some (.bJ T ds)) (h2:ds[j]? = some (.val (.pointer none))) (k:WM w ⟨σ.env,(id,some (.bJ T (ds.set j (.np i o))))::σ.heap,σ.used⟩ σ'):WM (.p id j i o::w) σ σ'
theorem WM.imp{w:List Wk}{σ σ':AS}(h:WM w σ σ'):jP σ σ':=by
 induction h with
 |nil=>exact jP.refl _
 |r h1 h2 _ ih=>exact(yp _ _ h1 h2).trans ih
 |c h1 h2 h3 h4 _ ih=>exact(Uk _ _ h1 h2 h3 h4).trans ih
 |z h _ ih=>exact(jP.freeze h).trans ih
 |b h h2 _ ih=>exact(abv h h2).trans ih
 |p h h2 _ ih=>exact(abA h h2).trans ih
theorem wm{w:List Wk}{σ σ':AS}(h:WM w σ σ':=by first|((repeat first|exact .nil|(apply WM.z;rfl)|(apply WM.r;rfl;rfl)|(apply WM.c;rfl;rfl;rfl;rfl)|(apply WM.b;rfl;rfl)|(apply WM.p;rfl;rfl) | fail);done) | fail):WM w σ σ':=h
/-! code -/
def fr:Code->Option Nat
 |.region id _ _=>some id
 |.seq a b=>(fr a).or (fr b)
 |.cond _ a b=>(fr a).or (fr b)
 |.block _ a=>(fr a).map (· + 10000)
 |.loop a=>fr a
 |_=>none
structure DX(rid i m:Nat):Prop where
 h:True
@[irreducible] def dX{β:Type}(rid i m:Nat)(k:Option β):Option β:=k
theorem dXo{β:Type}{rid i m:Nat}{k:Option β}{r:β}{G:Prop}(h:dX rid i m k=some r)(g:DX rid i m->k=some r->G):G:=g ⟨trivial⟩ (by unfold dX at h;exact h)
def UP{S E:Type}(t:xy S E)(C:E->Prop):Prop:=∀e,t = .done e->C e
theorem up{S E:Type}{t:xy S E}{C:E->Prop}{e:E}(h:some (xy.done e)=some t)(k:UP t C):C e:=k e (Option.some.inj h).symm
section
variable {P:Program} {n:Nat} {Q:Exit->AS->Prop} {σ σ':AS} {id:Nat} {c d:Code} {S E R:Type} {r:R} {ct:Nat} {u ke kh:List Nat} {ne:S->Ev->Ev} {nh:S->eW->eW} {w:List Wk} {l:Rn} {e':Ev} {h':eW}
variable {ops:Array Oper} {kv:List (Keys×An)} {rid:Nat}
theorem rs0(ht:Trace P ops ops.toList σ σ' kv)(hd:qk n ops=true)(mz:kX σ.used (kv.map (·.2.new))=true)(hq:gL P n d Q σ'):gL P n (.seq (.region rid ops false) d) Q σ:=fK (dV ht hd mz hq)
theorem rr0(ht:Trace P ops ops.toList σ σ' kv)(hd:qk n ops=true)(mz:kX σ.used (kv.map (·.2.new))=true)(hq:Q .normal σ'):gL P n (.region rid ops false) Q σ:=dV ht hd mz hq
theorem dsX{i0 m:Nat}{σi:AS}{Uc Tn:List (Keys×An)}{o0:Oper}{Tq NF:List Nat}{E0:An}{Xj:Keys×An}(z:DX rid i0 m)(hm:P.follows .mixedOrders=true)(ho:ops.toList[i0]? = some o0)(ht1:Trace P ops (ops.toList.take i0) σ σi Uc)(h0:dH P ops o0 Tq NF σi E0)
  (ht2:Trace P ops (ops.toList.drop (i0+1)) (σi.app E0) σ' Tn) (hj:Tn[m]? = some Xj) (ha:dH P ops o0 Tq NF ⟨σi.env,Xj.2.heap++σi.heap,σi.used⟩ E0)
  (hk:(Ae ops (((Uc++(⟨Tq,NF,E0.env.map (·.1),E0.heap.map (·.1)⟩,E0)::Tn).map (·.1)).set i0 ⟨Tq,[],E0.env.map (·.1),E0.heap.map (·.1)⟩)&&WZ NF (i0+1+m) ((Uc++(⟨Tq,NF,E0.env.map (·.1),E0.heap.map (·.1)⟩,E0)::Tn).map (·.1))&&NF.all λid=>Xj.1.wh.any (Nat.beq id))=true)
  (hd:qk n ops=true) (mz:kX σ.used ((Uc++(⟨Tq,NF,E0.env.map (·.1),E0.heap.map (·.1)⟩,E0)::Tn).map (·.2.new))=true) (hq:Q .normal σ'):gL P n (.region rid ops true) Q σ:=aii hm ho ht1 h0 ht2 hj ha hk hd mz hq
theorem ds0(hm:P.follows .mixedOrders=true)(ht:Trace P ops ops.toList σ σ' kv)(hk:Ae ops (kv.map (·.1))=true)(hd:qk n ops=true)(mz:kX σ.used (kv.map (·.2.new))=true)(hq:gL P n d Q σ'):gL P n (.seq (.region rid ops true) d) Q σ:=fK (KA hm ht hk hd mz hq)
theorem dr0(hm:P.follows .mixedOrders=true)(ht:Trace P ops ops.toList σ σ' kv)(hk:Ae ops (kv.map (·.1))=true)(hd:qk n ops=true)(mz:kX σ.used (kv.map (·.2.new))=true)(hq:Q .normal σ'):gL P n (.region rid ops true) Q σ:=KA hm ht hk hd mz hq
theorem wo{a:Option R}(hM:wk w a=some r)(h:WM w σ σ')(k:a=some r->gL P n c Q σ'):gL P n c Q σ:=sy h.imp (k (aiS w a ▸ hM))
theorem won{a:Option R}(hM:wk w a=some r)(h:WM w σ σ')(k:a=some r->PR Q σ'):PR Q σ:=ajb h.imp (k (aiS w a ▸ hM))
theorem fol{mx N:Int}{body:Nat->S->Option S}{s0:S}{k:S->Option R}(hM:fL s0 ct u ke kh ne nh w l mx N body k=some r)
  (he:PK σ.env ke e') (hh:PH σ.heap kh h') (h0:IM w l σ (Iy ((ct,.N 0)::ne s0 e') (nh s0 h') u))
  (r1:∀(j:Nat) (s s':S),(j:Int)<N->LX N mx->body j s=some s'->gL P n c (QG (λs=>Iy ((ct,.N (j+1))::ne s e') (nh s h') u) s' (BU id Q)) (Iy ((ct,.N j)::ne s e') (nh s h') u))
  (r2:∀(j:Nat) (s:S),k s=some r->N<=(j:Int)->N<=mx->gL P n c (Wa (BU id Q)) (Iy ((ct,.N j)::ne s e') (nh s h') u)):gL P n (.block id (.loop c)) Q σ :=
 fl (λj s=>Iy ((ct,.N j)::ne s e') (nh s h') u) (by unfold fL at hM;exact hM) h0.imp (λj s s' a b=>r1 j s s' a ⟨b⟩) r2
theorem aud{mx N:Int}{body:Nat->S->Option S}{s0:S}{k:S->Option R}(hM:fLu s0 ct u ke kh ne nh w l mx N body k=some r)
  (he:PK σ.env ke e') (hh:PH σ.heap kh h') (h0:IM w l σ (Iy ((ct,.int .u64 ((0:Nat):Int))::ne s0 e') (nh s0 h') u))
  (r1:∀(j:Nat) (s s':S),(j:Int)<N->LX N mx->body j s=some s'->gL P n c (QG (λs=>Iy ((ct,.int .u64 ((j+1:Nat):Int))::ne s e') (nh s h') u) s' (BU id Q)) (Iy ((ct,.int .u64 (j:Int))::ne s e') (nh s h') u))
  (r2:∀(j:Nat) (s:S),k s=some r->N<=(j:Int)->N<=mx->gL P n c (Wa (BU id Q)) (Iy ((ct,.int .u64 (j:Int))::ne s e') (nh s h') u)):gL P n (.block id (.loop c)) Q σ :=
 fl (λj s=>Iy ((ct,.int .u64 (j:Int))::ne s e') (nh s h') u) (by unfold fLu at hM;exact hM) h0.imp (λj s s' a b=>r1 j s s' a ⟨b⟩) r2
theorem foo{mx N:Int}{body:Nat->S->Option (xy S E)}{s0:S}{k:xy S E->Option R}(hM:fO s0 ct u ke kh ne nh w l mx N body k=some r)
  (he:PK σ.env ke e') (hh:PH σ.heap kh h') (h0:IM w l σ (Iy ((ct,.N 0)::ne s0 e') (nh s0 h') u))
  (r1:∀(j:Nat) (s:S) (t':xy S E),(j:Int)<N->LX N mx->body j s=some t'->UP t' (λe=>k (.done e)=some r)->gL P n c (QF (λj s=>Iy ((ct,.N j)::ne s e') (nh s h') u) j t' (BU id Q)) (Iy ((ct,.N j)::ne s e') (nh s h') u))
  (r2:∀(j:Nat) (s:S),k (.next s)=some r->N<=(j:Int)->N<=mx->gL P n c (Wa (BU id Q)) (Iy ((ct,.N j)::ne s e') (nh s h') u)):gL P n (.block id (.loop c)) Q σ :=
 fo (λj s=>Iy ((ct,.N j)::ne s e') (nh s h') u) (by unfold fO at hM;exact hM) h0.imp (λt h j s t' a b hb hE=>r1 j s t' a ⟨b⟩ hb (λe he=>eJ)) r2
theorem woo{step:S->Option (xy S E)}{s0:S}{k:E->Option R}(hM:wL s0 u ke kh ne nh w l step k=some r)
  (he:PK σ.env ke e') (hh:PH σ.heap kh h') (h0:IM w l σ (Iy (ne s0 e') (nh s0 h') u))
  (r1:∀(s:S) (t':xy S E),step s=some t'->UP t' (λe=>k e=some r)->gL P n c (QW (λs=>Iy (ne s e') (nh s h') u) t' (BU id Q)) (Iy (ne s e') (nh s h') u)):gL P n (.block id (.loop c)) Q σ :=
 wh (λs=>Iy (ne s e') (nh s h') u) (by unfold wL at hM;exact hM) h0.imp (λe h s t hb hE=>r1 s t hb (λe' he=>eJ))
theorem jo{K:S->Option R}{a:Option R}(hM:jn K rid u ke kh ne nh a=some r)(hf:fr c=some rid)(he:PK σ.env ke e')(hh:PH σ.heap kh h')(h1:a=some r->gL P n c (afe (λs=>Iy (ne s e') (nh s h') u) (λs=>K s=some r) Q) σ)(h2:∀s,K s=some r->gL P n d Q (Iy (ne s e') (nh s h') u)):gL P n (.seq c d) Q σ:=aog (λs=>Iy (ne s e') (nh s h') u) (λs=>K s=some r) (h1 adQ) h2
theorem ol{a:Option R}(hM:o1 a=some r)(h:a=some r->gL P n c (ajy (λ_:Unit=>σ) (λ_=>True) (λ_=>0) () (BU id Q)) σ):gL P n (.block id (.loop c)) Q σ:=vM (Kz (λ_:Unit=>σ) (λ_=>True) (λ_=>0) () (jP.refl _) trivial λ_ _=>h (by unfold o1 at hM;exact hM))
def nl:Code->Bool
 |.loop _=>false
 |_=>true
theorem bl'(hn:nl c=true)(h:gL P n c (BU id Q) σ):gL P n (.block id c) Q σ:=vM h
theorem kT'{o:Operand}(hc:ev σ.env o=some (.bool true))(k:gL P n c Q σ):gL P n (.cond o c d) Q σ:=qc _ hc (λ_=>k) (λq=>by cases q)
theorem kF'{o:Operand}(hc:ev σ.env o=some (.bool false))(k:gL P n d Q σ):gL P n (.cond o c d) Q σ:=qc _ hc (λq=>by cases q) (λ_=>k)
theorem jt{K:S->Option R}{a:Option R}(hM:jn K rid u ke kh ne nh a=some r)(hf:fr c=some rid)(he:PK σ.env ke e')(hh:PH σ.heap kh h')(h1:a=some r->gL P n c (afe (λs=>Iy (ne s e') (nh s h') u) (λs=>K s=some r) Q) σ)(h2:∀s,K s=some r->Q .normal (Iy (ne s e') (nh s h') u)):gL P n c Q σ:=ak2 (λs=>Iy (ne s e') (nh s h') u) (λs=>K s=some r) (h1 adQ) h2
theorem ja{K:S->Option R}{St:S->AS}{s:S}(hM:nX w l (K s)=some r)(h:IM w l σ (St s)):∃s,K s=some r∧jP σ (St s):=⟨s,(Xi w l (K s)).symm.trans hM,h.imp⟩
theorem na'{St:S->AS}{s t:S}(hM:nX w l (some s)=some t)(h:IM w l σ (St s)):∃s,s=t∧jP σ (St s):=⟨s,Option.some.inj (Xi w l (some s) ▸ hM),h.imp⟩
theorem wa{St:S->AS}{s:S}{t:xy S E}(hM:nX w l (some (.next s))=some t)(h:IM w l σ (St s)):∃s,t = .next s∧jP σ (St s):=⟨s,(Option.some.inj (Xi w l (some (xy.next s)) ▸ hM)).symm,h.imp⟩
theorem cd'{b:Bool}{x y:Option R}{o:Operand}(h:If b x y=some r)(hc:ev σ.env o=some (.bool b))(h1:x=some r->gL P n c Q σ)(h2:y=some r->gL P n d Q σ):gL P n (.cond o c d) Q σ:=cd (Yq b x y ▸ h) h1 h2 hc
theorem c1'{b:Prop}{hb:Decidable b}{o:Operand}(hc:ev σ.env o=some (.bool (@decide b hb)))(h:b)(k:gL P n c Q σ):gL P n (.cond o c d) Q σ:=c1 h k hc
theorem c0'{j:Nat}{N:Int}{o:Operand}(hc:ev σ.env o=some (.bool (decide ((j:Int)<N))))(h:N<=(j:Int))(k:gL P n d Q σ):gL P n (.cond o c d) Q σ:=c0 (Int.not_lt.2 h) k hc
end
theorem nps{P:Program}{n:Nat}{Q:Exit->AS->Prop}{σ:AS}{c:Code}{id j i o:Nat}{a b:Option Unit}{r:Unit}{T:TypeId}{ds:List DV}(hM:npU id j a b=some r)(hh:cF σ.heap id=some (.bJ T ds))(hj:ds[j]? = some (.np i o))(h1:a=some r->gL P n c Q ⟨σ.env,(id,some (.bJ T (ds.set j (.val (.pointer none)))))::σ.heap,σ.used⟩)(h2:b=some r->gL P n c Q ⟨σ.env,(id,some (.bJ T (ds.set j (.ref i o))))::σ.heap,σ.used⟩):gL P n c Q σ:=by
 unfold npU at hM;obtain⟨x,e1,e2⟩:=pt hM;exact auY hh hj (h1 e1) (h2 e2)
structure HL(l:Rn):Prop where
 h:True
structure HN(w:List Wk)(l:Rn):Prop where
 h:True
theorem rq{α:Type}{l:Rn}{x r:α}{G:Prop}(h:rX l (some x)=some r)(k:HL l->x=r->G):G:=k ⟨trivial⟩ (Option.some.inj (ai1 l (some x) ▸ h))
theorem upX{S E:Type}{t:xy S E}{C:E->Prop}{e:E}{l:Rn}{G:Prop}(h:rX l (some (xy.done e))=some t)(k:UP t C)(g:HL l->C e->G):G:=g ⟨trivial⟩ (k e (Option.some.inj (ai1 l (some (xy.done e)) ▸ h)).symm)
theorem upN{S E:Type}{t:xy S E}{C:E->Prop}{e:E}{w:List Wk}{l:Rn}{G:Prop}(h:nX w l (some (xy.done e))=some t)(k:UP t C)(g:HN w l->C e->G):G:=g ⟨trivial⟩ (k e (Option.some.inj (Xi w l (some (xy.done e)) ▸ h)).symm)
section
variable {P:Program} {n:Nat} {σ:AS}
theorem jb{S R:Type}{r:R}{w:List Wk}{l:Rn}{K:S->Option R}{St:S->AS}{s:S}(hM:K s=some r)(z:HN w l)(h:IM w l σ (St s)):∃s,K s=some r∧jP σ (St s):=⟨s,hM,h.imp⟩
theorem ra'{rs:Array ResultVar}{res:DV}{post:eW}{Q:Exit->AS->Prop}{l:Rn}(z:HL l)(hq:∀τ,tZ P rs res post .ret τ->Q .ret τ:=by exact λ_ h=>h)(h:IL l σ ⟨rvE rs.toList res,pf post,post.map (·.1)⟩:=by first|exact ish rfl rfl rfl rfl rfl rfl|exact iof eo ho rfl rfl rfl|fail)(hr:vU P ⟨rvE rs.toList res,pf post,post.map (·.1)⟩ rs res:=by first|exact rv|fail)(hk:OS (post.map (·.1))=true:=by rfl):gL P n .ret Q σ:=ra l hq h hr hk
theorem nb'{rs:Array ResultVar}{res:DV}{post:eW}{Q:Exit->AS->Prop}{l:Rn}(z:HL l)(hq:∀τ,tZ P rs res post .normal τ->Q .normal τ:=by exact λ_ h=>h)(h:IL l σ ⟨rvE rs.toList res,pf post,post.map (·.1)⟩:=by first|exact ish rfl rfl rfl rfl rfl rfl|exact iof eo ho rfl rfl rfl|fail)(hr:vU P ⟨rvE rs.toList res,pf post,post.map (·.1)⟩ rs res:=by first|exact rv|fail)(hk:OS (post.map (·.1))=true:=by rfl):PR Q σ:=na l hq h hr hk
end
structure HC(ke kh:List Nat)(l:Rn):Prop where
 h:True
theorem rqC{α:Type}{ke kh:List Nat}{l:Rn}{x r:α}{G:Prop}(h:rC ke kh l (some x)=some r)(k:HC ke kh l->x=r->G):G:=k ⟨trivial⟩ (Option.some.inj (by unfold rC at h;exact h))
theorem raC{P:Program}{n:Nat}{σ:AS}{rs:Array ResultVar}{res:DV}{post:eW}{Q:Exit->AS->Prop}{ke kh:List Nat}{l:Rn}{e':Ev}{h':eW}(z:HC ke kh l)(hq:∀τ,tZ P rs res post .ret τ->Q .ret τ)(he:PK σ.env ke e')(hh:PH σ.heap kh h')(h:IL l σ ⟨rvE rs.toList res++e',pf post++h',(pf post++h').map (·.1)++post.map (·.1)⟩)(hr:vU P ⟨rvE rs.toList res++e',pf post++h',(pf post++h').map (·.1)++post.map (·.1)⟩ rs res)(hk:OS (post.map (·.1))=true):gL P n .ret Q σ :=
 sy h (sX (hq _ (oU hr (iy.refl _) (λi e k=>by
  have:=Hf hk k;unfold cF at this |-;rw[gK];cases hl:look (pf post) i with
  |none=>simp_all
  |some x=>simp_all))))
theorem atY{P:Program}{n:Nat}{σ:AS}{rs:Array ResultVar}{ds ds0:List DV}{post:eW}{Q:Exit->AS->Prop}{t id T:Nat}{l:Rn}(z:HC [t] [id] l)(hq:∀τ,tZ P rs (.agg ds) post .ret τ->Q .ret τ)(he:look σ.env t=some (.ref id 0))(hh:cF σ.heap id=some (.bJ T ds0))(h:IL l σ ⟨rvE rs.toList (.agg ds)++[(t,.ref id 0)],pf post++[(id,some (HE.bJ T ds))],(pf post++[(id,some (HE.bJ T ds))]).map (·.1)++post.map (·.1)⟩)(hr:vU P ⟨rvE rs.toList (.agg ds)++[(t,.ref id 0)],pf post++[(id,some (HE.bJ T ds))],(pf post++[(id,some (HE.bJ T ds))]).map (·.1)++post.map (·.1)⟩ rs (.agg ds))(hk:OS (post.map (·.1))=true):gL P n .ret Q σ :=
 sy h (sX (hq _ (oU hr (iy.refl _) (λi e k=>by
  have:=Hf hk k;unfold cF at this |-;rw[gK];cases hl:look (pf post) i with
  |none=>simp_all
  |some x=>simp_all))))
theorem il{l:Rn}{σ σ':AS}(h:IL l σ σ':=by first|exact ish rfl rfl rfl rfl rfl rfl|exact iof eo ho rfl rfl rfl|fail):IL l σ σ':=h
theorem cz0{α:Type}{G:Prop}{a j:Int}{x y:Option α}{r:α}(h:cz a j x y=some r)(g1:a=j->x=some r->G)(g2:y=some r->G):G:=by
 unfold cz at h
 split at h
 .rename_i e;exact g1 e h
 .exact g2 h
/-! the walk -/
theorem wa' {G:Prop} (h:G:=by
 repeat' first
  |exact nn hM
  |refine be hM λz hM=>?_
  |(refine cz0 hM ?_ ?_ <;> clear hM <;> first|(intro e;subst e;intro hM) | intro hM)
  |refine ae' hM λz hM=>?_
  |refine auX hM λz hM=>?_
  |(apply nps hM;rfl;rfl;intro hM;rotate_left;intro hM)
  |refine bk' hM λh hM=>?_
  |(refine bD hM λv c hN=>?_;clear hM;subst c;have hM:=hN;clear hN)
  |refine bI hM λv c h hM=>?_
  |refine me hM λz hM=>?_
  |(apply rs0;exact tr;kernel_rfl;kernel_rfl)
  |(apply rr0;exact tr;kernel_rfl;kernel_rfl)
  |refine dXo hM λz hM=>?_
  |(apply dsX;assumption;exact mixed;rfl;exact tr;exact op1;exact tr;rfl;exact op1;kernel_rfl;kernel_rfl;kernel_rfl)
  |(apply ds0;exact mixed;exact tr;kernel_rfl;kernel_rfl;kernel_rfl)
  |(apply dr0;exact mixed;exact tr;kernel_rfl;kernel_rfl;kernel_rfl)
  |refine ol hM λhM=>?_
  |(apply fol hM;exact pke;exact phe;exact imt;intro j s t hj hx hM;rotate_left;intro j s hM hj hx;clear hx)
  |(apply aud hM;exact pke;exact phe;exact imt;intro j s t hj hx hM;rotate_left;intro j s hM hj hx;clear hx)
  |(apply foo hM;exact pke;exact phe;exact imt;intro j s t hj hx hM u;rotate_left;intro j s hM hj hx;clear hx)
  |(apply woo hM;exact pke;exact phe;exact imt;intro s t hM u)
  |(apply jo hM;rfl;exact pke;exact phe;intro hM;rotate_left;intro s hM)
  |apply sk
  |(apply bl';rfl)
  |apply sq
  |(apply c0';rfl;exact hj)
  |(apply c1';rfl;exact hj)
  |(apply c1';rfl;assumption)
  |(apply c0';rfl;assumption)
  |(apply cd' hM;rfl;intro hM;rotate_left;intro hM)
  |apply ex
  |(apply wo hM;exact wm;intro hM)
  |(apply na' hM;exact imt)
  |(apply wa hM;exact imt)
  |(apply ja hM;exact imt)
  |(apply jb hM eH;exact imt)
  |(dsimp only at hM;apply jb hM eH;exact imt)
  |(apply kT';rfl)
  |(apply kF';rfl)
  |(replace hM:=up hM eH)
  |refine upX hM eH λz hM=>?_
  |refine upN hM eH λz hM=>?_
  |(refine rq hM λz h=>?_;cases h <;> first|exact rt|exact ra' z|exact nd|exact nb' z|fail)
  |(refine rqC hM λz h=>?_;cases h <;> (apply raC z;exact λ_ h=>h;exact pke;exact phe;exact il;exact rv;rfl))
  |(refine rqC hM λz h=>?_;cases h <;> (apply atY z;exact λ_ h=>h;rfl;rfl;exact il;exact rv;rfl))
  |(cases hM <;> first|exact rt|exact ra' eH|exact nd|exact nb' eH|fail)
  |(apply won hM;exact wm;intro hM)
  |(refine so hM (λa e hN=>?_) (λa e hN=>?_) <;> (clear hM;subst e;have hM:=hN;clear hN))
  |(apply jt hM;rfl;exact pke;exact phe;intro hM;rotate_left;intro s hM)
  |refine cg hM (λh hM=>?_) λh hM=>?_
  |fail):G:=h
section
variable {P:Program} {fn:FuncId} {func:Func} {c:Code} {args:List DV} {n:Nat} {rs:Array ResultVar} {r res:DV} {pre post:eW} {new:List Nat} {l:List Nat}
theorem pb(hf:P.funcs[fn]? = some func)(hn:func.ntmps=n)(hb:func.body=some c:=by rfl)(Fx:func.results=rs:=by rfl)(ha:Nat.ble args.length n=true:=by rfl)(hr:r.ids = []:=by rfl)(h:gL P n c (tZ P rs r []) ⟨params 0 args,[],[]⟩:=by first|exact wa' | fail):br P fn args r:=br.body hf hn hb Fx ha hr h
theorem pe(hf:P.funcs[fn]? = some func)(hn:func.ntmps=n)(hb:func.body=some c:=by rfl)(Fx:func.results=rs:=by rfl)(ha:Nat.ble args.length n=true:=by rfl)(hr:r.ids = []:=by rfl)(h:gL P n c (NQ (tZ P rs r [])) ⟨params 0 args,[],[]⟩:=by first|exact wa' | fail):br P fn args r:=br.body hf hn hb Fx ha hr (ae1 h)
theorem ab(hf:P.funcs[fn]? = some func)(hn:func.ntmps=n)(hb:func.body=some c:=by rfl)(Fx:func.results=rs:=by rfl)(ha:Nat.ble args.length n=true:=by rfl)(Ao:Ko ⟨args,pre,res,post,new⟩=true:=by first|kernel_rfl|rfl)(h:gL P n c (tZ P rs res post) ⟨params 0 args,pre,pre.map (·.1)⟩:=by first|exact wa' | fail):gY P fn ⟨args,pre,res,post,new⟩:=gY.body hf hn hb Fx ha Ao h
theorem ae(hf:P.funcs[fn]? = some func)(hn:func.ntmps=n)(hb:func.body=some c:=by rfl)(Fx:func.results=rs:=by rfl)(ha:Nat.ble args.length n=true:=by rfl)(Ao:Ko ⟨args,pre,res,post,new⟩=true:=by first|kernel_rfl|rfl)(h:gL P n c (NQ (tZ P rs res post)) ⟨params 0 args,pre,pre.map (·.1)⟩:=by first|exact wa' | fail):gY P fn ⟨args,pre,res,post,new⟩:=gY.body hf hn hb Fx ha Ao (ae1 h)
theorem pbz(hf:P.funcs[fn]? = some func)(hn:func.ntmps=n)(z:Fz l)(hb:func.body=some c:=by rfl)(Fx:func.results=rs:=by rfl)(ha:Nat.ble args.length n=true:=by rfl)(hr:r.ids = []:=by rfl)(h:Fz l->gL P n c (tZ P rs r []) ⟨params 0 args,[],[]⟩:=by(intro z;exact wa')):br P fn args r:=br.body hf hn hb Fx ha hr (h z)
theorem abz(hf:P.funcs[fn]? = some func)(hn:func.ntmps=n)(z:Fz l)(hb:func.body=some c:=by rfl)(Fx:func.results=rs:=by rfl)(ha:Nat.ble args.length n=true:=by rfl)(Ao:Ko ⟨args,pre,res,post,new⟩=true:=by first|kernel_rfl|rfl)(h:Fz l->gL P n c (tZ P rs res post) ⟨params 0 args,pre,pre.map (·.1)⟩:=by(intro z;exact wa')):gY P fn ⟨args,pre,res,post,new⟩:=gY.body hf hn hb Fx ha Ao (h z)
theorem aez(hf:P.funcs[fn]? = some func)(hn:func.ntmps=n)(z:Fz l)(hb:func.body=some c:=by rfl)(Fx:func.results=rs:=by rfl)(ha:Nat.ble args.length n=true:=by rfl)(Ao:Ko ⟨args,pre,res,post,new⟩=true:=by first|kernel_rfl|rfl)(h:Fz l->gL P n c (NQ (tZ P rs res post)) ⟨params 0 args,pre,pre.map (·.1)⟩:=by(intro z;exact wa')):gY P fn ⟨args,pre,res,post,new⟩:=gY.body hf hn hb Fx ha Ao (ae1 (h z))
end
section
variable {α:Type} {a:Option α} {P:Program} {fn:FuncId} {func:Func} {N:Nat} {n:α->Nat} {K:α->TZ} {c:α->Prop}
theorem MC.p(hf:P.funcs[fn]? = some func)(hn:func.ntmps=N)(h:P.funcs[fn]? = some func->func.ntmps=N->∀x,a=some x->c x:=by intro hf' hn' _ hM;(conv at hM=>(lhs;whnf));exact pb hf' hn'):MC a c:=⟨λhM=>h hf hn _ hM⟩
theorem MA.b(hf:P.funcs[fn]? = some func)(hn:func.ntmps=N)(h:P.funcs[fn]? = some func->func.ntmps=N->∀x,a=some x->gY P fn (K x):=by intro hf' hn' _ hM;(conv at hM=>(lhs;whnf));exact ab hf' hn'):MA a P fn n K:=⟨λhM=>h hf hn _ hM⟩
theorem MA.e(hf:P.funcs[fn]? = some func)(hn:func.ntmps=N)(h:P.funcs[fn]? = some func->func.ntmps=N->∀x,a=some x->gY P fn (K x):=by intro hf' hn' _ hM;(conv at hM=>(lhs;whnf));exact ae hf' hn'):MA a P fn n K:=⟨λhM=>h hf hn _ hM⟩
end
end Go.Proofs.YtaafmkmdfcgeaaaGreatDoor
