/- Part 3 of what the claim leans on. -/
import Derived.Test.YtpeihknododmlaaGreatDoorRRv2
import Derived.Test.YtpeihknododmlaaGreatDoorTie
import Derived.Test.YtpeihknododmlaaGreatDoorCards
set_option maxHeartbeats 2000000
set_option maxRecDepth 100000
set_option linter.unusedVariables false
set_option linter.unusedSimpArgs false
namespace Go.Proofs.YtpeihknododmlaaGreatDoor
open Go.Proofs.Tryz
open Go.ChangeShapes Go.WideShapes Go.ChangeAt Go.RowKit
noncomputable def JH(os:Os):World :=
 let w0:=World.holding prog os ⟨#[],#[],[]⟩
 { w0 with heap:=(((((((((w0.heap.modify 7 fun
   |.cells _ t frozen=>.cells (flat (H:=Unit) Rows.laid_math_bits_deBruijn32tab).toArray t frozen
   |o=>o).modify 8 fun
   |.cells _ t frozen=>.cells (flat (H:=Unit) Rows.laid_math_bits_deBruijn64tab).toArray t frozen
   |o=>o).modify 4 fun
   |.cells _ t frozen=>.cells (flat (H:=Unit) Rows.laid_internal_strconv_uint64pow10).toArray t frozen
   |o=>o).modify 0 fun
   |.cells _ t frozen=>.cells (flat (H:=Unit) Rows.laid_rootcause_digest_constants).toArray t frozen
   |o=>o).modify 5 fun
   |.cells _ t frozen=>.cells (flat (H:=Unit) Rows.laid_rootcause_lexer_words).toArray t frozen
   |o=>o).modify 2 fun
   |.cells _ t frozen=>.cells (flat (H:=Unit) Rows.laid_rootcause_lexer_symbols).toArray t frozen
   |o=>o).modify 6 fun
   |.cells _ t frozen=>.cells (flat (H:=Unit) Rows.laid_rootcause_syntax_shapes).toArray t frozen
   |o=>o).modify 3 fun
   |.cells _ t frozen=>.cells (flat (H:=Unit) Rows.laid_rootcause_syntax_forms).toArray t frozen
   |o=>o).modify 1 fun
   |.cells _ t frozen=>.cells (flat (H:=Unit) Rows.laid_rootcause_code_rows).toArray t frozen
   |o=>o) }
theorem Yg(os:Os)(args:Array Value):laidMet prog Rows.recordRunsRow.laid ((JH os).forCall (fun _ _=>0) ⟨#[],args,[]⟩).memory :=
 laidMet_of_run' 8 (by kernel_rfl) (by kernel_rfl)
theorem aeh:okL prog Rows.recordRunsRow.laid DR=true:=by kernel_rfl
theorem aej:DR.map (·.2)=Rows.recordRunsRow.laid.map (fun x=>(flat x.2).toArray):=by kernel_rfl
theorem own:ownKnob prog.godebug=none:=by kernel_rfl
theorem laidOut:laidOutB prog=true:=by kernel_rfl
theorem ag0:(Rows.recordRunsRow.inPlace==Tryz.checked.prog.inPlace 3)=true:=by kernel_rfl
theorem agZ:(Rows.recordRunsRow.unfollowed==Tryz.checked.prog.unfollowed 3)=true:=by kernel_rfl
theorem agY:(Rows.recordRunsRow.recurses==Tryz.checked.prog.recurses 3)=true:=by kernel_rfl
theorem agX:(Rows.recordRunsRow.named==Tryz.checked.prog.varsNamed 3)=true:=by kernel_rfl
theorem agW:laidOutB Tryz.checked.prog=true:=by kernel_rfl
theorem agV:mapsRowed Tryz.checked.prog=true:=by kernel_rfl
theorem agU:(Rows.recordRunsRow.plainKeys==Tryz.checked.prog.plainKeys)=true:=by kernel_rfl
theorem agT:Program.stopsHeard Tryz.checked.prog=true:=by kernel_rfl
theorem agS:Program.mayEnter Tryz.checked.prog=true:=by kernel_rfl
theorem agR:(Rows.recordRunsRow.lifted==Tryz.checked.prog.liftsFinal)=true:=by kernel_rfl
theorem aef:(Program.make Tryz.checked.prog==some Rows.recordRunsRow.make)=true:=by kernel_rfl
theorem told:joinedFacts Tryz.checked.prog 3 Tryz.f3 Rows.recordRunsSpec Rows.recordRunsRow=true:=by
 unfold joinedFacts;rw[ag0,agZ,agY,agX,agW,agV,agU,agT,agS,agR,aef]
 kernel_rfl
end Go.Proofs.YtpeihknododmlaaGreatDoor
namespace Go.Proofs.YtpeihknododmlaaGreatDoor
open Go.Proofs.Tryz
open Go.RowKit
section
variable {P:Program} {ops:Array Oper} {σ:AS} {t:Nat} {ty:TypeId} {pos:String} {af:Array Edge}
theorem UA{op:Op}{g gt:Nat}{want on:Bool}{gd:DV}{rt rh:List Nat}{d:DV}{hp:eY}{nw:List Nat}{BV:List (Nat×DV)}(hG:Ni gd want on)(Ga:(ops[g]?).bind (·.dst)=some gt)(hb:look σ.env gt=some gd)(Qg:on=true)(hS:sB σ.env (vT op) BV)
  (h:du P ops ⟨some t,op,ty,pos,af,none⟩ rt rh ⟨BV,σ.heap,σ.used⟩ ⟨[(t,d)],hp,nw⟩):du P ops ⟨some t,op,ty,pos,af,some (g,want)⟩ (gt::vT op++rt) rh σ ⟨[(t,.Ew on d)],hp,nw⟩:=by
 intro C F γ σ' a w h1 h2 h3 h4 hs K Q hK;have iO:look σ'.env gt=some gd:=(h1 gt (by simp)).trans hb;rw[Ni.wanted hs hG Ga iO];have ht:t<C.n:=h4 t rfl;rw[if_pos Qg];have yL:=hS.spec;obtain⟨L,hL⟩:∃L:List (Nat×DV),∀x,look L x=if x∈vT op then look BV x else none:=⟨_,EW BV (vT op)⟩
 have FG:Sat C F γ ⟨L++σ'.env,σ'.heap,σ'.used⟩ a w:=by
  refine⟨fun x dx hx=>?_,hs.ws,hs.size,hs.defers⟩;simp only at hx;rw[gz,hL]at hx
  by_cases hm:x∈vT op
  ·rw[if_pos hm]at hx
   have agree:look σ'.env x=look σ.env x:=h1 x (by simp[hm]);rcases yL x with h|⟨_,d0,d',k1,k2,k3⟩
   ·rw[h,agree]at hx
    refine hs.env x dx (agree.trans ?_);cases hl:look σ.env x <;> simp_all
   ·rw[k2]at hx;simp at hx;subst hx
    have:=hs.env x _ (agree.trans k1);exact⟨this.1,(k3 _ _ _).1 this.2⟩
  ·rw[if_neg hm]at hx;exact hs.env x dx (by simpa using hx)
 have key:=h C F γ ⟨L++σ'.env,σ'.heap,σ'.used⟩ a w (fun x hx=>?_) h2 h3 h4 FG K Q (fun F' γ' a' w' hF mm=>hK F' γ' a' w' hF ?_)
 ·have hw:Region.wanted ⟨some t,op,ty,pos,af,none⟩ (yielded ops a.tmps)=true:=rfl
  rw[if_pos hw]at key;exact key
 ·simp only
  rw[gz,hL]
  by_cases hm:x∈vT op
  ·rw[if_pos hm]
   have agree:look σ'.env x=look σ.env x:=h1 x (by simp[hm]);rcases yL x with h|⟨_,d0,d',k1,k2,k3⟩
   ·rw[agree,←h];cases look BV x <;> rfl
   ·rw[k2];rfl
  ·rw[if_neg hm]
   rcases yL x with h|⟨hx',_⟩
   ·rw[h,←h1 x (by simp[hx])];rfl
   ·exact absurd hx' hm
 ·refine⟨fun x dx hx=>?_,mm.ws.congr (fun _ _ h=>h) (fun _ h=>h),mm.size,mm.defers⟩
  simp only[AS.app,List.singleton_append]at hx;rw[eW]at hx
  by_cases hxt:t=x
  ·rw[if_pos hxt]at hx;injection hx with hx;subst hx;subst hxt
   have:=mm.env t d (by simp only[AS.app,List.singleton_append];rw[eW,if_pos rfl]);refine⟨this.1,?_⟩;simp only[Rs];exact⟨fun _=>this.2,fun h=>by rw[Qg]at h;cases h⟩
  ·rw[if_neg hxt]at hx
   have get:∀d1,(look L x).or (look σ'.env x)=some d1→x<C.n∧Rs F' γ' d1 (a'.tmps.getD x undef):=fun d1 h=>mm.env x d1 (by simp only[AS.app,List.singleton_append];rw[eW,if_neg hxt,gz];exact h)
   rw[hL]at get
   by_cases hm:x∈vT op
   ·rw[if_pos hm]at get
    have agree:look σ'.env x=look σ.env x:=h1 x (by simp[hm]);rcases yL x with h|⟨_,d0,d',k1,k2,k3⟩
    ·refine get dx ?_
     rw[h,←agree,hx];rfl
    ·rw[agree,k1]at hx;injection hx with hx;subst hx
     have:=get d' (by rw[k2];rfl);exact⟨this.1,(k3 _ _ _).2 this.2⟩
   ·rw[if_neg hm]at get
    exact get dx (by simpa using hx)
theorem Hi{op:Op}{g gt:Nat}{want on:Bool}{gd:DV}(d:DV)(hG:Ni gd want on)(Ga:(ops[g]?).bind (·.dst)=some gt)(hb:look σ.env gt=some gd)(Qg:on=false) :
  du P ops ⟨some t,op,ty,pos,af,some (g,want)⟩ [gt] [] σ ⟨[(t,.Ew on d)],[],[]⟩:=by
 intro C F γ σ' a w h1 h2 h3 h4 hs K Q hK;have iO:look σ'.env gt=some gd:=(h1 gt (by simp)).trans hb;rw[Ni.wanted hs hG Ga iO];have ht:t<C.n:=h4 t rfl;subst Qg;rw[if_neg (by decide)];refine hK F γ _ _ (sd.refl _) (hs.put ht ?_);simp only[Rs];exact⟨fun h=>(by cases h),fun _=>trivial⟩
end
/-! arrays at an index that is not known -/
theorem Rm{β:Type}(g:Nat→List β):∀(n i:Nat),i<n→∃R,(List.range n).flatMap g=(List.range i).flatMap g++(g i++R)∧R=(List.range (n-(i+1))).flatMap fun j=>g (i+1+j)
 |n,i,h=>by
  refine⟨_,?_,rfl⟩;obtain⟨m,rfl⟩:∃m,n=i+1+m:=⟨n-(i+1),by omega⟩;rw[Nat.add_sub_cancel_left,List.range_add,List.flatMap_append,List.range_succ,List.flatMap_append,List.flatMap_map];simp
theorem uV{β:Type}(g:Nat→List β){sz:Nat}(hl:∀j,(g j).length=sz):∀n,((List.range n).flatMap g).length=n*sz
 |0=>by simp
 |n+1=>by rw[List.range_succ,List.flatMap_append,List.length_append,uV g hl n];simp[hl,Nat.succ_mul]
section
variable {α:Type} {ds vO:List DV} {off n sz:Nat} {m:Int}
theorem Fh(g:Nat→List DV)(hl:∀j,(g j).length=sz)(h:qv n m)(hc:(ds.drop off).take (n*sz)=(List.range n).flatMap g) :
  ∃R B,ds=ds.take off++((List.range m.toNat).flatMap g++(g m.toNat++R)++B)∧R=((List.range (n-(m.toNat+1))).flatMap fun j=>g (m.toNat+1+j))∧B=ds.drop (off+n*sz):=by
 unfold qv at h;obtain⟨R,h1,h2⟩:=Rm g n m.toNat (by omega);refine⟨R,_,?_,h2,rfl⟩;rw[←h1,←hc,←List.drop_drop,List.take_append_drop,List.take_append_drop]
theorem Ec(g:Nat→List DV)(hl:∀j,(g j).length=sz)(hz:0<sz)(h:qv n m)(hc:(ds.drop off).take (n*sz)=(List.range n).flatMap g):off≤ds.length∧off+m.toNat*sz+sz≤ds.length:=by
 have h':=h;unfold qv at h';have hlen:=congrArg List.length hc;rw[List.length_take,List.length_drop,uV g hl]at hlen;have h1:(m.toNat+1)*sz≤n*sz:=Nat.mul_le_mul_right _ (by omega);rw[Nat.succ_mul]at h1;omega
theorem acq(tG:α→List DV)(F:Nat→α)(hl:∀x,(tG x).length=sz)(hz:0<sz)(h:qv n m)(hc:(ds.drop off).take (n*sz)=(List.range n).flatMap fun j=>tG (F j)):(ds.drop (off+m.toNat*sz)).take sz=tG (F m.toNat):=by
 have ho:=Ec (fun j=>tG (F j)) (fun j=>hl _) hz h hc;obtain⟨R,B,e1,_,_⟩:=Fh (fun j=>tG (F j)) (fun j=>hl _) h hc;have hM:=uV (fun j=>tG (F j)) (fun j=>hl _) m.toNat;have hAM:(ds.take off++(List.range m.toNat).flatMap fun j=>tG (F j)).length=off+m.toNat*sz:=by rw[List.length_append,hM,List.length_take];omega
 have e1':ds=(ds.take off++(List.range m.toNat).flatMap fun j=>tG (F j))++(tG (F m.toNat)++(R++B)):=by
  conv=>lhs;rw[e1]
  simp
 calc (ds.drop (off+m.toNat*sz)).take sz=(((ds.take off++(List.range m.toNat).flatMap fun j=>tG (F j))++(tG (F m.toNat)++(R++B))).drop (off+m.toNat*sz)).take sz:=by rw[←e1']
  _=tG (F m.toNat):=by rw[List.drop_left' hAM,List.take_left' (hl _)]
theorem HD(tG:α→List DV)(F:Nat→α)(hl:∀x,(tG x).length=sz)(hz:0<sz)(h:qv n m)(hc:(ds.drop off).take (n*sz)=(List.range n).flatMap fun j=>tG (F j))(fo:Nat){d:DV}(hf:fo<sz)(hd:(tG (F m.toNat))[fo]? = some d):ds[off+m.toNat*sz+fo]? = some d:=by
 have:=acq tG F hl hz h hc;rw[←this,List.getElem?_take,if_pos hf,List.getElem?_drop]at hd;exact hd
theorem Ye(A M B cs:List DV)(o:Nat)(h:o+cs.length≤M.length):vH (A++(M++B)) (A.length+o) cs=A++(vH M o cs++B):=by
 unfold vH;rw[List.take_append,List.take_of_length_le (by omega),Nat.add_sub_cancel_left,List.take_append_of_le_length (by omega),Nat.add_assoc,List.drop_append,List.drop_of_length_le (by omega),Nat.add_sub_cancel_left,List.drop_append_of_le_length (by omega)];simp
theorem acp(tG:α→List DV)(F:Nat→α)(v:α)(hl:∀x,(tG x).length=sz)(hz:0<sz)(h:qv n m)(hc:(ds.drop off).take (n*sz)=(List.range n).flatMap fun j=>tG (F j))(fo:Nat){cs:List DV}(hk:fo+cs.length≤sz)(hv:vH (tG (F m.toNat)) fo cs=tG v)
  (h1:vO.take off=ds.take off) (h2:(vO.drop off).take (n*sz)=(List.range n).flatMap fun j=>tG (xJ F m.toNat v j)) (h3:vO.drop (off+n*sz)=ds.drop (off+n*sz)):vH ds (off+m.toNat*sz+fo) cs=vO:=by
 have ho:=Ec (fun j=>tG (F j)) (fun j=>hl _) hz h hc;obtain⟨R,B,e1,e2,e3⟩:=Fh (fun j=>tG (F j)) (fun j=>hl _) h hc;obtain⟨R',B',f1,f2,f3⟩:=Fh (fun j=>tG (xJ F m.toNat v j)) (fun j=>hl _) h h2;have hM:=uV (fun j=>tG (F j)) (fun j=>hl _) m.toNat
 have hR:R'=R:=by
  rw[e2,f2]
  congr 1
  funext j
  unfold xJ;rw[if_neg (by omega)]
 have hP:((List.range m.toNat).flatMap fun j=>tG (xJ F m.toNat v j))=(List.range m.toNat).flatMap fun j=>tG (F j):=by
  rw[List.flatMap_def,List.flatMap_def]
  congr 1
  apply List.map_congr_left;intro j hj;have:=List.mem_range.1 hj;unfold xJ;rw[if_neg (by omega)]
 have TD:tG (xJ F m.toNat v m.toNat)=tG v:=by unfold xJ;rw[if_pos rfl]
 rw[f1,h1,f3,h3,hR,hP,TD,←hv];have hA:(ds.take off).length=off:=by rw[List.length_take];omega
 have key:=Ye (ds.take off++(List.range m.toNat).flatMap fun j=>tG (F j)) (tG (F m.toNat)) (R++B) cs fo (by rw[hl];exact hk);rw[List.length_append,hA,hM]at key
 have e1':ds=(ds.take off++(List.range m.toNat).flatMap fun j=>tG (F j))++(tG (F m.toNat)++(R++B)):=by
  conv=>lhs;rw[e1]
  simp
 rw[←e1']at key;rw[key,e3];simp
end
section
variable {P:Program} {ops:Array Oper} {σ:AS} {t:Nat} {ty:TypeId} {pos:String} {af:Array Edge}
theorem Jq{T n e sz:Nat}[hT:uz P T n e sz]{x y:Operand}{id off:Nat}{k:IntKind}{m:Int}(h:qv n m)(hx:ev σ.env x=some (.ref id off))(hy:ev σ.env y=some (.int k m)) :
  du P ops ⟨some t,.indexAddr T x y,ty,pos,af,none⟩ (tm x++tm y) [] σ ⟨[(t,.ref id (off+m.toNat*sz))],[],[]⟩:=by
 unfold qv at h;exact CG m.toNat hx hy (by omega) (by omega)
end
/-! closures of plain functions -/
theorem pP.fn(f:FuncId):pP (.val (.func (.func f) #[] #[])) (.Dh f []):=fun F γ v h=>by
 simp only[Rs]at h ⊢;subst h;exact⟨_,rfl,by simp[sM]⟩
inductive Tg where
 |int (k:IntKind)
 |bool
 |str
def Tg.has:Tg→DV→Bool
 |.int k,.int k' _=>decide (k=k')
 |.bool,.bool _=>true
 |.str,.str _=>true
 |_,_=>false
def Wh:DV→DV→Bool
 |.int _ a,.int _ b=>a==b
 |.bool a,.bool b=>a==b
 |.str a,.str b=>a.toList==b.toList
 |_,_=>false
def yD:List DV→List DV→Bool
 |[],_=>true
 |_,[]=>true
 |d::ds,e::es=>Wh d e&&yD ds es
def rF:List Tg→List DV→Bool
 |[],[]=>true
 |g::gs,d::ds=>g.has d&&rF gs ds
 |_,_=>false
def Tg.RS(P:Program)(t:TypeId):Tg→Bool
 |.int _=>match P.underlying t with
  |some (.int _)=>true
  |_=>false
 |.bool=>match P.underlying t with
  |some .bool=>true
  |_=>false
 |.str=>match P.underlying t with
  |some .string=>true
  |_=>false
theorem SX{P:Program}{t:TypeId}{g:Tg}(hg:g.RS P t=true){d e:DV}(hd:g.has d=true)(he:g.has e=true){F:dI}{γ:fc}{u v:Value}(hu:Rs F γ d u)(hv:Rs F γ e v)(n:Nat)(w:World) :
  (Op.equalIn (n+1) t u v).run P w = .ok (Wh d e) w:=by
 cases g with
 |int k=>
  cases d <;> simp only[Tg.has,Bool.false_eq_true,decide_eq_true_eq]at hd;cases e <;> simp only[Tg.has,Bool.false_eq_true,decide_eq_true_eq]at he;subst hd;subst he;simp only[Rs]at hu hv;subst hu;subst hv;simp only[Tg.RS]at hg
  split at hg
  ·rename_i k' h;simp only[Wh];exact run_equalIn_int w n t _ k' _ _ h
  ·cases hg
 |bool=>
  cases d <;> simp only[Tg.has,Bool.false_eq_true]at hd;cases e <;> simp only[Tg.has,Bool.false_eq_true]at he;simp only[Rs]at hu hv;subst hu;subst hv;simp only[Tg.RS]at hg
  split at hg
  ·rename_i h;simp only[Wh];exact run_equalIn_bool' w n t _ _ h
  ·cases hg
 |str=>
  cases d <;> simp only[Tg.has,Bool.false_eq_true]at hd;cases e <;> simp only[Tg.has,Bool.false_eq_true]at he;simp only[Rs]at hu hv;subst hu;subst hv;simp only[Tg.RS]at hg
  split at hg
  ·rename_i h;simp only[Wh];exact run_equalIn_string w n t _ _ h
  ·cases hg
theorem zI{P:Program}{t:TypeId}{g:Tg}(hg:g.RS P t=true){cs:Array Value}{i:Nat}{v:Value}(h:cs[i]? = some v)(w:World):(part t cs i).run P w = .ok v w:=by
 have:∃d,P.underlying t=some d∧d.isRow=false:=by
  cases g <;> simp only[Tg.RS]at hg <;> split at hg <;> first|(rename_i h;exact⟨_,h,rfl⟩) | cases hg
 obtain⟨d,hd,hr⟩:=this
 have hA:(isAgg t).run P w = .ok false w:=by
  simp only[isAgg,Sem.run_bind,run_underlying hd,Result.andThen_ok];cases d <;> simp[TypeDesc.isRow]at hr ⊢
 simp only[part,Sem.run_bind,hA,Result.andThen_ok,Bool.false_eq_true,if_false,h]
 rfl
def CK(P:Program):List Field→Nat→List Tg→Bool
 |[],_,[]=>true
 |f::fs,i,g::gs=>f.name != "_" && Nat.beq f.offset i&&g.RS P f.type&&CK P fs (i+1) gs
 |_,_,_=>false
theorem JX{P:Program}{F:dI}{γ:fc}(n:Nat)(us vs:Array Value)(w:World):∀(fs:List Field) (i:Nat) (gs:List Tg) (ds es:List DV),CK P fs i gs=true→rF gs ds=true→rF gs es=true →
  fG F γ ds (us.toList.drop i)→fG F γ es (vs.toList.drop i)→(Op.eqFields (n+1) us vs fs).run P w = .ok (yD ds es) w
 |[],i,[],ds,es,_,h1,h2,_,_=>by
  cases ds <;> simp only[rF,Bool.false_eq_true]at h1;simp[Op.eqFields,yD]
 |[],i,g::gs,ds,es,h,_,_,_,_=>by simp[CK]at h
 |f::fs,i,[],ds,es,h,_,_,_,_=>by simp[CK]at h
 |f::fs,i,g::gs,ds,es,h,h1,h2,r1,r2=>by
  simp only[CK,Bool.and_eq_true]at h;obtain⟨⟨⟨f1,f2⟩,f3⟩,f4⟩:=h;have f2:f.offset=i:=Nat.eq_of_beq_eq_true f2;cases ds with
  |nil=>simp[rF]at h1
  |cons d ds=>
   cases es with
   |nil=>simp[rF]at h2
   |cons e es=>
    simp only[rF,Bool.and_eq_true]at h1 h2;simp only[fG]at r1 r2;obtain⟨u,ru,e1,_,k1,r1⟩:=r1;obtain⟨v,rv,e2,_,k2,r2⟩:=r2
    have g1:us[i]? = some u:=by
     have:=congrArg (·[0]?) e1;simpa using this
    have g2:vs[i]? = some v:=by
     have:=congrArg (·[0]?) e2;simpa using this
    have d1:us.toList.drop (i+1)=ru:=by rw[←List.drop_drop,e1];rfl
    have d2:vs.toList.drop (i+1)=rv:=by rw[←List.drop_drop,e2];rfl
    have ih:=JX n us vs w fs (i+1) gs ds es f4 h1.2 h2.2 (by rw[d1];exact r1) (by rw[d2];exact r2);have hn:f.name ≠ "_" := by simpa using f1
    simp only[Op.eqFields,Sem.run_bind,Sem.run_ite,f2,zI f3 g1,zI f3 g2,Result.andThen_ok,SX f3 h1.1 h2.1 k1 k2];rw[if_pos hn];cases hq:Wh d e
    ·simp[yD,hq]
    ·simp[yD,hq,ih]
class xH(P:Program)(t:TypeId)(gs:outParam (List Tg)):Prop where
 guard:P.eqGuardType P.depth t=false
 eq:∀(n:Nat) (F:dI) (γ:fc) (us vs:Array Value) (ds es:List DV) (w:World),rF gs ds=true→rF gs es=true→fG F γ ds us.toList→fG F γ es vs.toList→(Op.equalIn (n+3) t (.agg us) (.agg vs)).run P w = .ok (yD ds es) w
theorem xH.struct{P:Program}{t:TypeId}{gs:List Tg}(h1:P.eqGuardType P.depth t=false)(h2:(P.underlying t).map (fun d=>match d with | .struct fs=>CK P fs.toList 0 gs|_=>false)=some true)(h3:P.stoodInHeld t=false):xH P t gs where
 guard:=h1
 eq:=fun n F γ us vs ds es w a1 a2 r1 r2=>by
  cases hu:P.underlying t with
  |none=>rw[hu]at h2;cases h2
  |some d=>
   cases d <;> rw[hu]at h2 <;> simp only[Option.map_some,Option.some.injEq,Bool.false_eq_true]at h2
   rename_i fs
   have hf:P.fieldsOf t=fs:=by simp[Program.fieldsOf,hu]
   rw[run_equalIn_struct w (n+2) t us vs (by rw[hf];exact hu) h3,hf];exact JX (n+1) us vs w fs.toList 0 gs ds es h2 a1 a2 (by simpa using r1) (by simpa using r2)
theorem Hu{P:Program}{F:dI}{γ:fc}{e:TypeId}{g:Tg}(hg:g.RS P e=true)(n:Nat)(us vs:Array Value)(w:World):∀(m i:Nat) (ds es:List DV),rF (List.replicate m g) ds=true→rF (List.replicate m g) es=true →
  fG F γ ds (us.toList.drop i)→fG F γ es (vs.toList.drop i)→(Op.eqItems (n+1) e 1 us vs (List.range' i m)).run P w = .ok (yD ds es) w
 |0,i,ds,es,h1,h2,_,_=>by
  cases ds <;> simp only[List.replicate,rF,Bool.false_eq_true]at h1;simp[Op.eqItems,yD]
 |m+1,i,ds,es,h1,h2,r1,r2=>by
  cases ds with
  |nil=>simp[List.replicate,rF]at h1
  |cons d ds=>
   cases es with
   |nil=>simp[List.replicate,rF]at h2
   |cons e' es=>
    simp only[List.replicate,rF,Bool.and_eq_true]at h1 h2;simp only[fG]at r1 r2;obtain⟨u,ru,e1,_,k1,r1⟩:=r1;obtain⟨v,rv,e2,_,k2,r2⟩:=r2
    have g1:us[i]? = some u:=by
     have:=congrArg (·[0]?) e1;simpa using this
    have g2:vs[i]? = some v:=by
     have:=congrArg (·[0]?) e2;simpa using this
    have d1:us.toList.drop (i+1)=ru:=by rw[←List.drop_drop,e1];rfl
    have d2:vs.toList.drop (i+1)=rv:=by rw[←List.drop_drop,e2];rfl
    have ih:=Hu hg n us vs w m (i+1) ds es h1.2 h2.2 (by rw[d1];exact r1) (by rw[d2];exact r2);rw[List.range'_succ];simp only[Op.eqItems,Sem.run_bind,Nat.mul_one,zI hg g1,zI hg g2,Result.andThen_ok,SX hg h1.1 h2.1 k1 k2];cases hq:Wh d e'
    ·simp[yD,hq]
    ·simp[yD,hq,ih]
theorem xH.array{P:Program}{t e:TypeId}{m:Nat}{g:Tg}(h1:P.eqGuardType P.depth t=false)(h2:P.underlying t=some (.array m e))(h3:g.RS P e=true)(h4:(P.info? e).map (·.size)=some 1)(h5:P.cellsOf e=1):xH P t (List.replicate m g) where
 guard:=h1
 eq:=fun n F γ us vs ds es w a1 a2 r1 r2=>by
  cases hi:P.info? e with
  |none=>rw[hi]at h4;cases h4
  |some i=>
   rw[run_equalIn_array w (n+2) us vs h2 hi,h5,List.range_eq_range'];exact Hu h3 (n+1) us vs w m 0 ds es a1 a2 (by simpa using r1) (by simpa using r2)
theorem Ho{g:Tg}:∀{m:Nat} {ds:List DV},rF (List.replicate m g) ds=true→ds.length=m
 |0,ds,h=>by cases ds <;> first|rfl|(simp[List.replicate,rF]at h;done)
 |m+1,[],h=>by simp[List.replicate,rF]at h
 |m+1,d::ds,h=>by
  simp only[List.replicate,rF,Bool.and_eq_true]at h;simp[Ho h.2]
def ahm(a:TypeId):List Field→Bool
 |[f]=>f.name != "_" && Nat.beq f.offset 0&&Nat.beq f.type a
 |_=>false
theorem xH.aa7{P:Program}{t a e:TypeId}{m:Nat}{g:Tg}(h1:P.eqGuardType P.depth t=false)(h2:(P.underlying t).map (fun d=>match d with | .struct fs=>ahm a fs.toList|_=>false)=some true)(h3:P.stoodInHeld t=false)
  (k2:P.underlying a=some (.array m e)) (k3:g.RS P e=true) (k4:(P.info? e).map (·.size)=some 1) (k5:P.cellsOf e=1) (k6:(P.info? a).map (·.size)=some m):xH P t (List.replicate m g) where
 guard:=h1
 eq:=fun n F γ us vs ds es w a1 a2 r1 r2=>by
  cases hu:P.underlying t with
  |none=>rw[hu]at h2;cases h2
  |some d=>
   cases d <;> rw[hu]at h2 <;> simp only[Option.map_some,Option.some.injEq,Bool.false_eq_true]at h2
   rename_i fs
   have hf:P.fieldsOf t=fs:=by simp[Program.fieldsOf,hu]
   rw[run_equalIn_struct w (n+2) t us vs (by rw[hf];exact hu) h3,hf];cases hfs:fs.toList with
   |nil=>rw[hfs]at h2;cases h2
   |cons f r=>
    cases r with
    |cons _ _=>rw[hfs]at h2;cases h2
    |nil=>
     rw[hfs]at h2;simp only[ahm,Bool.and_eq_true]at h2;obtain⟨⟨f1,f2⟩,f3⟩:=h2;have f2:f.offset=0:=Nat.eq_of_beq_eq_true f2;have f3:f.type=a:=Nat.eq_of_beq_eq_true f3;have hn:f.name ≠ "_" := by simpa using f1
     have hA:(isAgg a).run P w = .ok true w:=by simp[isAgg,run_underlying k2]
     cases hi:P.info? a with
     |none=>rw[hi]at k6;cases k6
     |some i=>
      rw[hi]at k6;simp only[Option.map_some,Option.some.injEq]at k6
      have hp:∀(cs:Array Value),cs.size=m→(part a cs 0).run P w = .ok (.agg cs) w:=fun cs hc=>by
       have hz:(Go.sizeOf a).run P w = .ok m w:=by simp[Go.sizeOf,typeInfo,hi,k6]
       simp only[part,Sem.run_bind,hA,Result.andThen_ok,if_true,hz,Nat.zero_add,←hc];simp
      have su:us.size=m:=by have:=r1.len;rw[Ho a1]at this;simpa using this
      have sv:vs.size=m:=by have:=r2.len;rw[Ho a2]at this;simpa using this
      cases hj:P.info? e with
      |none=>rw[hj]at k4;cases k4
      |some j=>
       have hq:(Op.equalIn (n+2) a (.agg us) (.agg vs)).run P w = .ok (yD ds es) w:=by
        rw[run_equalIn_array w (n+1) us vs k2 hj,k5,List.range_eq_range'];exact Hu k3 n us vs w m 0 ds es a1 a2 (by simpa using r1) (by simpa using r2)
       simp only[Op.eqFields,Sem.run_bind,Sem.run_ite,f2,f3,hp us su,hp vs sv,Result.andThen_ok,hq];rw[if_pos hn];cases yD ds es <;> simp
section
variable {P:Program} {ops:Array Oper} {σ:AS} {t:Nat} {ty:TypeId} {pos:String} {af:Array Edge}
theorem ahD{T T':TypeId}{gs:List Tg}[hT:xH P T gs]{x y:Operand}{ds es:List DV}{b:Bool}(hx:ev σ.env x=some (.agg ds))(hy:ev σ.env y=some (.agg es))(h1:rF gs ds=true)(h2:rF gs es=true)(hb:yD ds es=b) :
  du P ops ⟨some t,.binOp .eql T x y T',ty,pos,af,none⟩ (tm x++tm y) [] σ ⟨[(t,.bool b)],[],[]⟩ :=
 hb ▸ du.val rfl rfl fun C F γ σ' a w uL _ hs=>by
  obtain⟨k1,k2⟩:=AO hs uL hx hy;simp only[Rs]at k1 k2;obtain⟨us,e1,r1⟩:=k1;obtain⟨vs,e2,r2⟩:=k2;refine⟨.bool (yD ds es),?_,by simp only[Rs]⟩;have:=hT.eq 9997 F γ us vs ds es w h1 h2 r1 r2;simp only[execOp,e1,e2,Sem.run_bind,run_eqGuard_agg w _ T x y us vs hT.guard,Result.andThen_ok,run_eql_struct,this];simp[this]
end
section
variable {P:Program} {ops:Array Oper} {σ:AS} {t:Nat} {ty:TypeId} {pos:String} {af:Array Edge}
theorem abu{T e:TypeId}{HR yR:Nat}{zd:DV}[hT:oa P T e HR yR zd]{x:Operand}(hx:ev σ.env x=some .bq):du P ops ⟨some t,.call ⟨.builtin .cap,#[x],#[T]⟩,ty,pos,af,none⟩ (tm x) [] σ ⟨[(t,.int .i64 0)],[],[]⟩ :=
 du.val rfl rfl fun C F γ σ' a w h1 _ hs=>by
  have k1:=hs.ev ((cQ h1 (fun _ h=>h)).trans hx);simp only[Rs]at k1;exact⟨.int .i64 0,by simp[execOp,resolve,invoke,builtin,Builtin.cap_,run_underlying hT.Fo,k1,goInt],by simp only[Rs]⟩
theorem QT{T e:TypeId}{sz yR:Nat}{zd:DV}[hT:oa P T e sz yR zd]{x y:Operand}{k:IntKind}(hx:ev σ.env x=some .bq)(hy:ev σ.env y=some (.int k 0)) :
  du P ops ⟨some t,.slice T x none (some y) none,ty,pos,af,none⟩ (tm x++tm y) [] σ ⟨[(t,.bq)],[],[]⟩ :=
 du.val rfl rfl fun C F γ σ' a w uL _ hs=>by
  obtain⟨k1,k2⟩:=AO hs uL hx hy;simp only[Rs]at k1;have hb:=yk (P:=P) hs (lo:=none) (hi:=some y) (l:=0) (h:=0) (len:=0) (cap:=0) Bd.no (Bd.at ((cQ uL (fun _ h=>by simp[h])).trans hy) rfl) (Nat.le_refl 0) (Nat.le_refl 0);simp only[Option.map_none,Option.map_some]at hb;refine⟨.slice none 0 0,?_,by simp only[Rs]⟩;simp[execOp,Instr.sliceAt,Instr.slice,run_underlying hT.Fo,k1,hb,hT.size]
theorem Ol{T T2 e:TypeId}{sz bytes:Nat}{zd:DV}[hT:oa P T e sz bytes zd]{k2:IntKind}[hI:AD P T2 k2]{x y:Operand}{k:IntKind}{n:Int}(m:Nat)(hx:ev σ.env x=some .bq)(hy:ev σ.env y=some (.int k n))(hn:n=(m:Int))(hm:0<m)(hb:m*bytes≤140737488355328∧m≤140737488355328)(hz:(zd.cs.all DV.one)=true) :
  du P ops ⟨some t,.call ⟨.builtin .append,#[x,y],#[T,T2]⟩,ty,pos,af,none⟩ (tm x++tm y) [] σ ⟨[(t,.row t)],[(t,some (.row e sz (List.replicate m zd)))],[t]⟩ :=
 du.gen rfl rfl fun C F γ σ' a w uL h2 h3 hs=>by
  obtain⟨k1,k2⟩:=AO hs uL hx hy;simp only[Rs]at k1 k2;have hnu:t ∉ σ'.used:=h3 t (by simp);obtain⟨z,xF,TE⟩:=hT.h;obtain⟨i,hi,ZQ,Dp,Je⟩:=xF.info;have ho:=Bu (T:=T) TE hz;subst hn;have aps:=grownCap_ge w (0+m) 0 e;have adZ:=grownCap_le_maxLen w (0+m) 0 e (by unfold maxLen;omega);have hnx:Builtin.nextslicecap (0+m) 0=m:=by simp[Builtin.nextslicecap];omega
  have mw:=Lib.run_append_grow_zeros (P:=P) w T T2 ty e i z k _ xF.under hI.h hi ZQ none 0 0 [] (by simp[Builtin.firstCells]) m hm (by rw[Dp];exact xF.pos) (by omega) (by omega) (by rw[Je];omega) (by rw[hnx,Je];omega);generalize grownCap w (0+m) 0 e=cap at mw aps adZ;refine⟨.slice (some ⟨w.heap.size,0,none⟩) (0+m) cap,_,F,γ.up t (.slice (some ⟨w.heap.size,0,none⟩) (0+m) cap),by simp[execOp,resolve,invoke,builtin,k1,k2,mw];rfl,sd.refl _,sS _ (hs.ws.fresh hnu),?_,?_⟩
  ·refine(hs.ws.quiet (vf.drew w)).Di hnu _ (fun b hb=>by simp[eU]at hb;exact hb.symm) ?_
   have Du:z.cells.size=sz:=xF.Dv;have hz0:0<z.cells.size:=by rw[Du];exact xF.pos
   have e1:∀q,(Builtin.zeroCells z.cells q).toList=(List.replicate q z.cells.toList).flatten:=fun q=>qM z.cells hz0 q
   have hlen:((List.replicate m z.cells.toList).flatten).length=m*sz:=by simp[Du]
   refine⟨(List.replicate m z.cells.toList).flatten,⟨by simp[Du],.inr ⟨w.heap.size,cap,_,by simp,Nat.zero_le _,heap_alloc_new w.drew _,by simp;omega,adZ,?_,?_⟩⟩,mT.replicate Du ho (BW TE ho F) m⟩
   ·simp only[Array.size_append,size_zeroCells,Du,Nat.zero_add]
    have:m+(cap-m)=cap:=by omega
    rw[←Nat.add_mul,this]
   ·rw[List.length_replicate]
    simp only[Array.toList_append,e1,List.nil_append,Nat.zero_add];rw[←hlen];simp
  ·simp only[Rs];exact vi _ _ _
theorem Ut{T e:TypeId}{sz yR:Nat}{zd:DV}[hT:oa P T e sz yR zd]{x y:Operand}{id:Nat}{k:IntKind}{eC:List DV}{n:Int}(h:Nat)(hx:ev σ.env x=some (.row id))(hh:cB σ.heap id=some (.row e sz eC))(hy:ev σ.env y=some (.int k n))(hn:n=(h:Int))(hle:h≤eC.length) :
  du P ops ⟨some t,.slice T x none (some y) none,ty,pos,af,none⟩ (tm x++tm y) [id] σ ⟨[(t,.row t)],[(t,some (.row e sz (eC.take h))),(id,none)],[t]⟩ :=
 du.gen rfl rfl fun C F γ σ' a w uL h2 h3 hs=>by
  obtain⟨k1,k2⟩:=AO hs uL hx hy;have hnu:t ∉ σ'.used:=h3 t (by simp);have sO:=(h2 id (by simp)).trans hh;obtain⟨A0,c0,VF,e0,HT,Ku,hE0⟩:=zq hs k1 sO
  have hc:eC.length≤c0:=by
   rcases Ku.2 with⟨q,q2⟩|⟨b,cap,cur,q,_,_,q2,_⟩
   ·omega
   ·rw[e0]at q;injection q with _ _ q;omega
  have hb:=yk (P:=P) hs (lo:=none) (hi:=some y) (l:=0) (h:=h) (len:=eC.length) (cap:=c0) Bd.no (Bd.at ((cQ uL (fun _ h=>by simp[h])).trans hy) hn) (Nat.zero_le _) (by omega);simp only[Option.map_none,Option.map_some]at hb
  have hA:A0=none∨∃b,A0=some ⟨b,0,none⟩:=by
   rcases Ku.2 with⟨q,_⟩|⟨b,cap,cur,q,_⟩
   ·rw[e0]at q;injection q with q _ _;exact .inl q
   ·rw[e0]at q;injection q with q _ _;exact .inr ⟨b,q⟩
  have hA2:(if c0=0 then A0 else A0.map (·.add (0*sz)))=A0:=by
   rcases hA with rfl|⟨b,rfl⟩
   ·simp
   ·simp[Addr.add]
  have BT:w.ownsRow 0 e sz (.slice A0 h c0) (eC.take h).length (VF.take (h*sz)):=by
   have hl:(eC.take h).length=h:=by simp;omega
   rw[hl];refine⟨?_,?_⟩
   ·have:=Ku.1
    rw[List.length_take,this];exact Nat.min_eq_left (Nat.mul_le_mul_right _ hle)
   ·rcases Ku.2 with⟨q,q2⟩|⟨b,cap,cur,q,q1,q2,q3,q4,q5,q6⟩
    ·rw[e0]at q;injection q with q _ q3
     have:h=0:=by omega
     subst this;exact .inl ⟨by rw[q,q3],rfl⟩
    ·rw[e0]at q;injection q with q _ q7
     refine .inr ⟨b,cap,cur,by rw[q,q7],q1,q2,by omega,q4,q5,?_⟩;rw[←q6,List.take_take,Nat.min_eq_left (Nat.mul_le_mul_right _ hle)]
  refine⟨.slice A0 h c0,w,F,γ.up t (.slice A0 h c0),?_,sd.refl _,sS _ (hs.ws.fresh hnu),?_,?_⟩
  ·have:a.eval x = .slice A0 eC.length c0:=e0
   simp[execOp,Instr.sliceAt,Instr.slice,run_underlying hT.Fo,this,hb,hT.size];have:=hA2;simp at this;exact this
  ·refine(hs.ws.forget id).add hnu ⟨_,BT,hE0.take h⟩ (fun b iO=>?_)
   have hpb:eU (a.eval x)=some b:=by
    rw[e0];rcases hA with rfl|⟨b',rfl⟩
    ·simp[eU]at iO
    ·simpa [eU]using iO
   have q:=hs.ws.own id _ _ b sO HT hpb;refine⟨q.1,q.2,fun yd e' g' CL qi AG=>?_⟩;rw[dj]at CL
   split at CL
   ·cases CL
   ·rename_i pQ;exact pQ (hs.ws.apart id yd _ e' _ g' b sO CL HT qi hpb AG)
  ·simp only[Rs];exact vi _ _ _
theorem Ua{T e:TypeId}{sz yR:Nat}{zd:DV}[hT:oa P T e sz yR zd]{x y:Operand}{id:Nat}{k:IntKind}{α:Type}{f:α→DV}{xs:List α}{n:Int}(h:eN xs.length 0 n)(hx:ev σ.env x=some (.row id))(hh:cB σ.heap id=some (.row e sz (xs.map f)))(hy:ev σ.env y=some (.int k n)) :
  du P ops ⟨some t,.slice T x none (some y) none,ty,pos,af,none⟩ (tm x++tm y) [id] σ ⟨[(t,.row t)],[(t,some (.row e sz ((xs.take n.toNat).map f))),(id,none)],[t]⟩:=by
 obtain⟨h1,h2,h3⟩:=h;refine(Ut n.toNat hx hh hy (by omega) (by simp;omega)).cast (by rw[List.map_take])
theorem Hh{T n e HR:Nat}[hT:uz P T n e HR]{x y:Operand}{ds vO:List DV}{k:IntKind}{m:Int}(i:Nat)(hx:ev σ.env x=some (.jA ds))(hy:ev σ.env y=some (.int k m))(hm:m=(i:Int))(hi:i<n)(hd:ds.drop (i*HR)=vO) :
  du P ops ⟨some t,.indexAddr T x y,ty,pos,af,none⟩ (tm x++tm y) [] σ ⟨[(t,.jA vO)],[],[]⟩ :=
 du.val rfl rfl fun C F γ σ' a w uL _ hs=>by
  obtain⟨k1,k2⟩:=AO hs uL hx hy;simp only[Rs]at k1 k2;obtain⟨b,o,cs,vs,rest,e,hF,yS,hl⟩:=k1;subst hm;refine⟨.pointer (some ⟨b,o+i*HR,none⟩),?_,?_⟩
  ·by_cases h0:i*HR=0
   ·simp[execOp,Instr.indexAt,e,k2,asIntOf,run_underlying hT.u,Instr.sureAddr,hi,hT.size,Addr.add,h0]
   ·simp[execOp,Instr.indexAt,e,k2,asIntOf,run_underlying hT.u,Instr.sureAddr,hi,hT.size,Addr.add,h0]
  ·simp only[Rs]
   by_cases hlen:i*HR≤vs.length
   ·refine⟨b,o+i*HR,cs,vs.drop (i*HR),rest,rfl,hF,?_,?_⟩
    ·rw[←List.drop_drop,yS,List.drop_append_of_le_length hlen]
    ·rw[←hd];exact hl.drop _
   ·refine⟨b,o+i*HR,cs,[],cs.toList.drop (o+i*HR),rfl,hF,by simp,?_⟩
    have:vO = []:=by
     rw[←hd];apply List.drop_eq_nil_of_le;have:=hl.len;omega
    rw[this];simp only[fG]
theorem Lx{f:FuncId}[hf:dq P f]{x:Operand}{xs:Array Operand}{ats:Array TypeId}{ds args:List DV}{r:DV}(hc:bx P f args r)(hx:ev σ.env x=some (.val (.func (.func f) #[] #[])))(ha:Ie σ.env xs.toList=some ds)(hle:oJ ds args)(hp:xQ args = []) :
  du P ops ⟨some t,.call ⟨.value x,xs,ats⟩,ty,pos,af,none⟩ (tm x++xs.toList.flatMap tm) [] σ ⟨[(t,r)],[],[]⟩:=by
 intro C F γ σ' a w h1 h2 h3 h4 hs K Q hK;simp only[Region.wanted,↓reduceIte];have kx:=hs.ev ((cQ h1 (fun _ h=>List.mem_append_left _ h)).trans hx);simp only[Rs]at kx
 have mw:(execOp a.eval ⟨some t,.call ⟨.value x,xs,ats⟩,ty,pos,af,none⟩).run P w = .ok (.enter f (xs.map a.eval)) w:=by
  simp[execOp,resolve,kx,Deferred.ofValue,invoke,Ak]
 refine wI (fun c hc=>by cases hc) mw ?_;have hv:=hle.rsT (hs.evs ((yb h1 (fun _ h=>List.mem_append_right _ h)).trans ha));have TD:sM F fc.no args (xs.toList.map a.eval):=Eg args _ (by rw[hp];simp) hv;have e:(xs.toList.map a.eval).toArray=xs.map a.eval:=by rw[←Array.toList_map]
 have:=hc C F γ σ'.heap σ'.used w _ hs.ws TD;rw[e]at this;refine this.mono ?_;rintro e w' ⟨v,F',rfl,k1,k2,k3⟩;exact⟨v,rfl,hK F' γ _ _ k1 ((hs.mono k1 (rM.refl _) k2).put (h4 t rfl) (k3.mono (sd.refl _) (rM.no _)))⟩
theorem oJ.replicate{d d':DV}(h:pP d d'):∀n,oJ (List.replicate n d) (List.replicate n d')
 |0=>.nil
 |n+1=>.cons h (oJ.replicate h n)
theorem KV{T T2 e:TypeId}{sz bytes:Nat}{zd:DV}[hT:oa P T e sz bytes zd]{k2:IntKind}[hI:AD P T2 k2]{x y:Operand}{k:IntKind}{n:Int}{α:Type}(f:α→DV)(z:α)(h:0<n∧dL bytes n.toNat)(hx:ev σ.env x=some .bq)(hy:ev σ.env y=some (.int k n))(hz:(zd.cs.all DV.one)=true)(hf:pP zd (f z)) :
  du P ops ⟨some t,.call ⟨.builtin .append,#[x,y],#[T,T2]⟩,ty,pos,af,none⟩ (tm x++tm y) [] σ ⟨[(t,.row t)],[(t,some (.row e sz ((List.replicate n.toNat z).map f)))],[t]⟩:=by
 obtain⟨h1,h2,h3⟩:=h;rw[List.map_replicate];exact(Ol n.toNat hx hy (by omega) (by omega) ⟨h2,h3⟩ hz).WR (oJ.replicate hf _)
theorem aa1{T e:TypeId}{sz bytes:Nat}{zd:DV}[hT:oa P T e sz bytes zd]{x y:Operand}{k k':IntKind}{l c:Int}{α:Type}(f:α→DV)(z:α)(h:iJ bytes l c)(hx:ev σ.env x=some (.int k l))(hy:ev σ.env y=some (.int k' c))(hz:(zd.cs.all DV.one)=true)(hf:pP zd (f z)) :
  du P ops ⟨some t,.makeSlice T x y,ty,pos,af,none⟩ (tm x++tm y) [] σ ⟨[(t,.row t)],[(t,some (.row e sz ((List.replicate l.toNat z).map f)))],[t]⟩:=by
 have h':=h;unfold iJ at h';obtain⟨h1,h2,h3,h4⟩:=h';rw[List.map_replicate];refine(aeI l.toNat c.toNat hx hy (by omega) (by omega) (by omega) ⟨?_,by omega⟩ hz).WR (oJ.replicate hf _);have:((bytes*c.toNat:Nat):Int)=bytes*c:=by rw[Int.natCast_mul,←Bw (by omega)]
 omega
end
section
variable {P:Program} {n:Nat} {Q:Exit→AS→Prop} {σ:AS}
theorem Tv{rs:Array ResultVar}{res d:DV}{post:eY}(h:xD P σ rs d)(hle:pP d res)(hp:∀i e,cB post i=some e→cB σ.heap i=some e):va P rs res post .normal σ:=⟨d,h,hle,hp⟩
theorem ae6{c:Code}{α:Type}(S:α→AS)(I:α→Prop)(h:ik P n c (acF S I Q) σ)(k:∀x,I x→Q .normal (S x)):ik P n c Q σ:=fun C F γ a w hn hs=>
 wpIn_mono (h C F γ a w hn hs) fun e a' w' ⟨F',γ',σ',h1,h2⟩=>by
  cases e with
  |normal=>
   obtain⟨x',i1,i2⟩:=h2;obtain⟨F2,γ2,s2⟩:=i2 C F' γ' a' w' h1;exact⟨F2,γ2,S x',s2,k x' i1⟩
  |exit id=>exact⟨F',γ',σ',h1,h2⟩
  |goto l=>exact⟨F',γ',σ',h1,h2⟩
  |ret=>exact⟨F',γ',σ',h1,h2⟩
  |panic c=>exact⟨F',γ',σ',h1,h2⟩
  |outgrown=>exact⟨F',γ',σ',h1,h2⟩
def Mj(Q:Exit→AS→Prop)(σ:AS):Prop:=∃σ',oE σ σ'∧Q .normal σ'
def NQ(Q:Exit→AS→Prop):Exit→AS→Prop
 |.normal,σ=>Mj Q σ
 |e,σ=>Q e σ
theorem adA{σ':AS}(h:oE σ σ')(k:Mj Q σ'):Mj Q σ:=by obtain⟨τ,h1,h2⟩:=k;exact⟨τ,h.trans h1,h2⟩
theorem XW(h:Q .normal σ):Mj Q σ:=⟨σ,oE.refl _,h⟩
theorem adH{c:Code}(h:ik P n c (NQ Q) σ):ik P n c Q σ:=fun C F γ a w hn hs=>
 wpIn_mono (h C F γ a w hn hs) fun e a' w' ⟨F',γ',σ',h1,h2⟩=>by
  cases e with
  |normal=>
   obtain⟨τ,i1,i2⟩:=h2;obtain⟨F2,γ2,s2⟩:=i1 C F' γ' a' w' h1;exact⟨F2,γ2,τ,s2,i2⟩
  |exit id=>exact⟨F',γ',σ',h1,h2⟩
  |goto l=>exact⟨F',γ',σ',h1,h2⟩
  |ret=>exact⟨F',γ',σ',h1,h2⟩
  |panic c=>exact⟨F',γ',σ',h1,h2⟩
  |outgrown=>exact⟨F',γ',σ',h1,h2⟩
theorem Ee{id t t0:Nat}{x:Operand}{T T' Pt ty:TypeId}{Cy pos:String}{Qh af:Array Edge}{e:TypeId}{sz yR:Nat}{zd:DV}[hT:oa P T e sz yR zd]{sz':Nat}{eC:List DV}(hx:ev σ.env x=some (.sl sz' eC))(ht0:t0<n)(ht:t<n)
  (hq:∀b:Bool,(b=true→eC = [])→Q .normal ⟨(t,.bool b)::(t0,.sl sz' eC)::σ.env,σ.heap,σ.used⟩) :
  ik P n (.region id #[⟨some t0,.move x,Pt,Cy,Qh,none⟩,⟨some t,.binOp .eql T (.tmp t0) (.const (.slice none 0 0)) T',ty,pos,af,none⟩] false) Q σ:=by
 intro C F γ a w hn hs;have kx:=hs.ev hx;have Ms:Sat C F γ ⟨(t0,.sl sz' eC)::σ.env,σ.heap,σ.used⟩ (a.put (some t0) (a.eval x)) w:=hs.put (by rw[hn];exact ht0) kx;have pE:t0<a.tmps.size:=by rw[hs.size,hn];exact ht0
 have hmv:(execOp a.eval ⟨some t0,.move x,Pt,Cy,Qh,none⟩).run P w = .ok (.value (a.eval x)) w:=by simp[execOp]
 generalize a.eval x=v at kx Ms hmv;simp only[Rs]at kx;obtain⟨A,c,rfl,Cj,_⟩:=kx;refine wpIn_region ?_;simp only[show(#[(⟨some t0,.move x,Pt,Cy,Qh,none⟩:Oper),⟨some t,.binOp .eql T (.tmp t0) (.const (.slice none 0 0)) T',ty,pos,af,none⟩]).size=2 from rfl,List.range_succ,List.range_zero,List.nil_append,List.cons_append,wpOpsIn_cons];refine jW hmv ?_
 have e0:(a.put (some t0) (.slice A eC.length c)).eval (.tmp t0) = .slice A eC.length c:=by
  simp[Act.eval,Act.put,Array.getD,pE]
 have e1:binOp .eql T (.slice A eC.length c) (.slice none 0 0)=(do pure (.bool (←Op.equal T (.slice A eC.length c) (.slice none 0 0)))):=by cases A <;> rfl
 have e2:eqGuard .eql T (.tmp t0) (.const (.slice none 0 0)) (.slice A eC.length c) (.slice none 0 0)=pure ():=rfl
 have e3:(Op.equal T (.slice A eC.length c) (.slice none 0 0)).run P w = .ok A.isNone w:=by
  have:∀m,(Op.equalIn (m+1) T (.slice A eC.length c) (.slice none 0 0)).run P w = .ok A.isNone w:=fun m=>by cases A <;> simp[Op.equalIn,run_underlying hT.Fo]
  exact this 9999
 have Jh:(execOp (a.put (some t0) (.slice A eC.length c)).eval ⟨some t,.binOp .eql T (.tmp t0) (.const (.slice none 0 0)) T',ty,pos,af,none⟩).run P w = .ok (.value (.bool A.isNone)) w:=by
  have e4:(a.put (some t0) (.slice A eC.length c)).eval (.const (.slice none 0 0)) = .slice none 0 0:=rfl;simp only[execOp,e0,e4,e1,e2,Sem.run_bind,Sem.run_pure,Result.andThen_ok,e3]
 refine jW Jh ?_
 ·have:=Ms.put (t:=t) (by rw[hn];exact ht) (d:=.bool A.isNone) (v:=.bool A.isNone) (by simp only[Rs])
  refine⟨F,γ,_,this,hq A.isNone (fun hA=>?_)⟩;have hN:A=none:=by simpa using hA
  have:=(Cj.1 hN).1;exact List.eq_nil_of_length_eq_zero this
end
def Tg.num:Tg→Bool
 |.int _=>true
 |.bool=>true
 |_=>false
theorem XL{g:Tg}(hn:g.num=true){d e:DV}(hd:g.has d=true)(he:g.has e=true)(hq:Wh d e=true){F F':dI}{γ γ':fc}{u v:Value}(hu:Rs F γ d u)(hv:Rs F' γ' e v)(n:Nat) :
  Instr.sameBits n u v=true∧u=v:=by
 cases g with
 |int k=>
  cases d <;> simp only[Tg.has,Bool.false_eq_true,decide_eq_true_eq]at hd;cases e <;> simp only[Tg.has,Bool.false_eq_true,decide_eq_true_eq]at he;subst hd;subst he;simp only[Rs]at hu hv;subst hu;subst hv;simp only[Wh,beq_iff_eq]at hq;subst hq;cases n <;> simp[Instr.sameBits]
 |bool=>
  cases d <;> simp only[Tg.has,Bool.false_eq_true]at hd;cases e <;> simp only[Tg.has,Bool.false_eq_true]at he;simp only[Rs]at hu hv;subst hu;subst hv;simp only[Wh,beq_iff_eq]at hq;subst hq;cases n <;> simp[Instr.sameBits]
 |str=>cases hn
theorem EP{F F':dI}{γ γ':fc}(n:Nat):∀(gs:List Tg) (ds es:List DV) (us vs:List Value),gs.all Tg.num=true→rF gs ds=true→rF gs es=true→yD ds es=true→fG F γ ds us→fG F' γ' es vs →
  us=vs∧(us.zip us).all (fun p=>Instr.sameBits n p.1 p.2)=true
 |[],ds,es,us,vs,_,h1,h2,_,r1,r2=>by
  cases ds <;> simp only[rF,Bool.false_eq_true]at h1;cases es <;> simp only[rF,Bool.false_eq_true]at h2;simp only[fG]at r1 r2;subst r1;subst r2;exact⟨rfl,rfl⟩
 |g::gs,ds,es,us,vs,hn,h1,h2,hq,r1,r2=>by
  cases ds with
  |nil=>simp[rF]at h1
  |cons d ds=>
   cases es with
   |nil=>simp[rF]at h2
   |cons e es=>
    simp only[rF,Bool.and_eq_true]at h1 h2;simp only[yD,Bool.and_eq_true]at hq;simp only[List.all_cons,Bool.and_eq_true]at hn;simp only[fG]at r1 r2;obtain⟨u,ru,rfl,_,k1,r1⟩:=r1;obtain⟨v,rv,rfl,_,k2,r2⟩:=r2;obtain⟨a1,a2⟩:=XL hn.1 h1.1 h2.1 hq.1 k1 k2 n;obtain⟨b1,b2⟩:=EP n gs ds es ru rv hn.2 h1.2 h2.2 hq.2 r1 r2;subst a2;subst b1;exact⟨rfl,by simp[a1];simpa using b2⟩
theorem Om:∀(gs:List Tg) (ds:List DV),gs.all Tg.num=true→rF gs ds=true→yD ds ds=true
 |[],ds,_,h1=>by cases ds <;> first|rfl|(simp[rF]at h1;done)
 |g::gs,[],_,h1=>by simp[rF]at h1
 |g::gs,d::ds,hn,h1=>by
  simp only[rF,Bool.and_eq_true]at h1;simp only[List.all_cons,Bool.and_eq_true]at hn;have ih:=Om gs ds hn.2 h1.2;simp only[yD,ih,Bool.and_true];cases g <;> cases d <;> simp_all [Tg.has,Tg.num,Wh]
theorem Rr{P:Program}{t:TypeId}{g:Tg}(hg:g.RS P t=true){d:DV}(hd:g.has d=true){F:dI}{γ:fc}{u:Value}(hu:Rs F γ d u)(em:Bool)(n:Nat)(w:World) :
  (Instr.checkKey em (n+1) t u).run P w = .ok () w:=by
 cases g with
 |int k=>
  cases d <;> simp only[Tg.has,Bool.false_eq_true,decide_eq_true_eq]at hd;simp only[Rs]at hu;subst hu;simp only[Tg.RS]at hg
  split at hg
  ·rename_i k' h;simp[Instr.checkKey,run_underlying h]
  ·cases hg
 |bool=>
  cases d <;> simp only[Tg.has,Bool.false_eq_true]at hd;simp only[Rs]at hu;subst hu;simp only[Tg.RS]at hg
  split at hg
  ·rename_i h;simp[Instr.checkKey,run_underlying h]
  ·cases hg
 |str=>
  cases d <;> simp only[Tg.has,Bool.false_eq_true]at hd;simp only[Rs]at hu;subst hu;simp only[Tg.RS]at hg
  split at hg
  ·rename_i h;simp[Instr.checkKey,run_underlying h]
  ·cases hg
theorem Ea{P:Program}{F:dI}{γ:fc}(em:Bool)(n:Nat)(us:Array Value)(w:World):∀(fs:List Field) (i:Nat) (gs:List Tg) (ds:List DV),CK P fs i gs=true→rF gs ds=true →
  fG F γ ds (us.toList.drop i)→(forIn (m:=Sem) fs PUnit.unit fun f _=>
    if f.name ≠ "_" then do
     let v ←part f.type us f.offset
     Instr.checkKey em (n+1) f.type v
     pure (ForInStep.yield PUnit.unit)
    else pure (ForInStep.yield PUnit.unit)).run P w = .ok PUnit.unit w
 |[],i,gs,ds,h,h1,r1=>by simp
 |f::fs,i,[],ds,h,_,_=>by simp[CK]at h
 |f::fs,i,g::gs,ds,h,h1,r1=>by
  simp only[CK,Bool.and_eq_true]at h;obtain⟨⟨⟨f1,f2⟩,f3⟩,f4⟩:=h;have f2:f.offset=i:=Nat.eq_of_beq_eq_true f2;cases ds with
  |nil=>simp[rF]at h1
  |cons d ds=>
   simp only[rF,Bool.and_eq_true]at h1;simp only[fG]at r1;obtain⟨u,ru,e1,_,k1,r1⟩:=r1
   have g1:us[i]? = some u:=by
    have:=congrArg (·[0]?) e1;simpa using this
   have d1:us.toList.drop (i+1)=ru:=by rw[←List.drop_drop,e1];rfl
   have ih:=Ea em n us w fs (i+1) gs ds f4 h1.2 (by rw[d1];exact r1);have hn:f.name ≠ "_" := by simpa using f1
   simp only[List.forIn_cons,Sem.run_bind,hn,ne_eq,not_false_eq_true,if_true,Result.andThen_ok,f2,zI f3 g1,Rr f3 h1.1 k1,Sem.run_pure];exact ih
class Pk(P:Program)(t:TypeId)(k e:outParam TypeId)(gs:outParam (List Tg))(zd:outParam DV):Prop where
 Fo:P.underlying t=some (.map k e)
 key:(P.underlying k).map (fun d=>match d with | .struct fs=>CK P fs.toList 0 gs|_=>false)=some true
 num:gs.all Tg.num=true
 eq:xH P k gs
 zero:((P.info? e).bind (·.zero)).map Ab=some zd
 one:(zd.cs.all DV.one)=true
section
variable {P:Program} {w:World}
theorem Pk.check{t k e:TypeId}{gs:List Tg}{zd:DV}(M:Pk P t k e gs zd){F:dI}{γ:fc}{ds:List DV}{us:Array Value}(h:rF gs ds=true)(r:fG F γ ds us.toList)(em:Bool)(w:World) :
  (Instr.checkKey em 10000 k (.agg us)).run P w = .ok () w:=by
 have hk:=M.key;cases hu:P.underlying k with
 |none=>rw[hu]at hk;cases hk
 |some d=>
  cases d <;> rw[hu]at hk <;> simp only[Option.map_some,Option.some.injEq,Bool.false_eq_true]at hk
  rename_i fs
  unfold Instr.checkKey;simp only[Sem.run_bind,run_underlying hu,Result.andThen_ok];rw[←Array.forIn_toList];have:=Ea em 9998 us w fs.toList 0 gs ds hk h (by simpa using r);exact(congrArg (fun r=>Result.andThen r fun _ w'=>(pure ():Sem Unit).run P w') this).trans (by simp)
def AM{K V:Type}(ck:K→List DV)(k:K):List (K×V)→Nat→Option (Nat×V)
 |[],_=>none
 |p::l,i=>if yD (ck k) (ck p.1)then some (i,p.2)else AM ck k l (i+1)
def aCK{K V:Type}(ck:K→List DV)(xs:List (K×V))(k:K)(z:V):V:=match AM ck k xs 0 with
 |some (_,v)=>v
 |none=>z
def Hk{K V:Type}(ck:K→List DV)(xs:List (K×V))(k:K)(v:V):List (K×V):=match AM ck k xs 0 with
 |some (i,_)=>xs.set i (k,v)
 |none=>xs++[(k,v)]
def pN{K V:Type}(ck:K→List DV)(fv:V→DV)(xs:List (K×V)):List (DV×DV):=xs.map fun p=>(.agg (ck p.1),fv p.2)
theorem Pk.wide{t k e:TypeId}{gs:List Tg}{zd:DV}(M:Pk P t k e gs zd):(match P.underlying k with|some (.array _ _) | some (.struct _)=>true|_=>false)=true:=by
 have hk:=M.key;cases hu:P.underlying k with
 |none=>rw[hu]at hk;cases hk
 |some d=>cases d <;> rw[hu]at hk <;> first|rfl|(simp at hk;done)
theorem OJ{t k e:TypeId}{gs:List Tg}{zd:DV}(M:Pk P t k e gs zd){K V:Type}{ck:K→List DV}{fv:V→DV}(VM:∀a,rF gs (ck a)=true){F:dI}{γ:fc}{x:K}{us:Array Value}(hF:fG F γ (ck x) us.toList)(w:World) :
  ∀(xs:List (K×V)) (es:List MapEntry) (i:Nat),Bg F (pN ck fv xs) es→∃r,(Instr.findAsking k (.agg us) es i).run P w = .ok r w ∧
   ((AM ck x xs i=none∧r=none)∨∃j v val en,AM ck x xs i=some (i+j,v)∧r=some (i+j,val)∧xs[j]?.map (·.2)=some v∧es[j]? = some en∧en.val=val∧en.key = .agg us∧Rs F fc.no (fv v) val)
 |[],es,i,h=>by
  simp only[pN,List.map_nil,Bg]at h;subst h;exact⟨none,by simp[Instr.findAsking],.inl ⟨rfl,rfl⟩⟩
 |p::xs,es,i,h=>by
  simp only[pN,List.map_cons,Bg]at h;obtain⟨en,r,rfl,h1,h2,h3⟩:=h;simp only[Rs]at h1;obtain⟨vs,e1,r1⟩:=h1;have hq:=M.eq.eq 9997 F γ us vs (ck x) (ck p.1) w (VM x) (VM p.1) hF (r1.mono (sd.refl _) (rM.no _))
  have Jh:(Op.equal k (.agg us) en.key).run P w = .ok (yD (ck x) (ck p.1)) w:=by
   rw[e1];exact hq
  cases hb:yD (ck x) (ck p.1)with
  |true=>
   refine⟨some (i,en.val),by simp[Instr.findAsking,Jh,hb],.inr ⟨0,p.2,en.val,en,by simp[AM,hb],rfl,by simp,by simp,rfl,?_,h2⟩⟩;have:=(EP 0 gs (ck x) (ck p.1) us.toList vs.toList M.num (VM x) (VM p.1) hb hF r1).1;rw[e1]
   congr 1
   exact(Array.ext' this).symm
  |false=>
   obtain⟨r',k1,k2⟩:=OJ M VM hF w xs r (i+1) h3;refine⟨r',by simp[Instr.findAsking,Jh,hb,k1],?_⟩;rcases k2 with⟨a1,a2⟩|⟨j,v,val,en',a1,a2,a3,a4,a5,a6,a7⟩
   ·exact .inl ⟨by simp[AM,hb,a1],a2⟩
   ·refine .inr ⟨j+1,v,val,en',by simp[AM,hb,a1];omega,by rw[a2];congr 2;omega,by simpa using a3,by simpa using a4,a5,a6,a7⟩
theorem Bg.set{F:dI}{dk dv:DV}(f:MapEntry→MapEntry):∀{l:List (DV×DV)} {es:List MapEntry} (j:Nat),Bg F l es→(∀e,es[j]? = some e→Rs F fc.no dk (f e).key∧Rs F fc.no dv (f e).val)→Bg F (l.set j (dk,dv)) (es.modify j f)
 |[],es,j,h,_=>by simp only[Bg]at h;subst h;cases j <;> rfl
 |x::l,es,0,h,hf=>by
  obtain⟨e,r,rfl,h1,h2,h3⟩:=h;obtain⟨q1,q2⟩:=hf e (by simp);simp only[List.set_cons_zero,List.modify_zero_cons];exact⟨_,_,rfl,q1,q2,h3⟩
 |x::l,es,j+1,h,hf=>by
  obtain⟨e,r,rfl,h1,h2,h3⟩:=h;simp only[List.set_cons_succ,List.modify_succ_cons];exact⟨_,_,rfl,h1,h2,Bg.set f j h3 (fun e he=>hf e (by simpa using he))⟩
theorem Bg.push{F:dI}{dk dv:DV}{en:MapEntry}(hk:Rs F fc.no dk en.key)(hv:Rs F fc.no dv en.val):∀{l:List (DV×DV)} {es:List MapEntry},Bg F l es→Bg F (l++[(dk,dv)]) (es++[en])
 |[],es,h=>by simp only[Bg]at h;subst h;exact⟨en,[],rfl,hk,hv,rfl⟩
 |x::l,es,h=>by
  obtain⟨e,r,rfl,h1,h2,h3⟩:=h;exact⟨e,r++[en],rfl,h1,h2,Bg.push hk hv h3⟩
end
section
variable {P:Program} {ops:Array Oper} {σ:AS} {t:Nat} {ty:TypeId} {pos:String} {af:Array Edge}
theorem GY{C:Ctx}{F:dI}{γ:fc}{σ:AS}{a:Act}{w:World}(hs:Sat C F γ σ a w){id:Nat}{v:Value}{l:List (DV×DV)}(hv:Rs F γ (.row id) v)(hh:cB σ.heap id=some (.mp l)) :
  ∃b es ck,v = .map (some b)∧γ id=some (.map (some b))∧w.heap[b]? = some (.map es ck)∧Bg F l es.toList∧yK es ck:=by
 simp only[Rs]at hv;obtain⟨g,h1,b,es,ck,rfl,h3,h4,h5⟩:=hs.ws.uB id _ hh;rw[h1]at hv;injection hv with hv
 exact⟨b,es,ck,hv.symm,h1,h3,h4,h5⟩
theorem yK.modify{es:Array MapEntry}{ck:Nat}(h:yK es ck)(j:Nat)(f:MapEntry→MapEntry)(hf:∀e,(f e).born=e.born):yK (es.modify j f) ck:=by
 refine⟨by rw[Array.size_modify];exact h.1,fun i e he=>?_⟩;rw[Array.getElem?_modify]at he
 split at he
 ·cases hq:es[i]? with
  |none=>simp_all
  |some e0=>
   have:f e0=e:=by simp_all
   rw[←this,hf];exact h.2 i e0 hq
 ·exact h.2 i e he
theorem yK.push{es:Array MapEntry}{ck:Nat}(h:yK es ck){en:MapEntry}(hb:en.born=ck):yK (es.push en) (ck+1):=by
 refine⟨by rw[Array.size_push,h.1],fun i e he=>?_⟩;rw[Array.getElem?_push]at he
 split at he
 ·rename_i hi
  injection he with he
  rw[←he,hb,h.1,hi]
 ·exact h.2 i e he
theorem JD{T:TypeId}:du P ops ⟨some t,.makeMap T none,ty,pos,af,none⟩ [] [] σ ⟨[(t,.row t)],[(t,some (.mp []))],[t]⟩ :=
 du.gen rfl rfl fun C F γ σ' a w h1 _ h3 hs=>by
  have hn:t ∉ σ'.used:=h3 t (by simp);refine⟨.map (some w.heap.size),w.alloc (.map #[] 0),F,γ.up t (.map (some w.heap.size)),?_,sd.refl _,sS _ (hs.ws.fresh hn),?_,?_⟩
  ·simp[execOp,Instr.makeMap]
  ·refine hs.ws.Di hn _ (fun b hb=>by simp[eU]at hb;exact hb.symm) ?_
   exact⟨w.heap.size,#[],0,rfl,heap_alloc_new w _,by simp[Bg],rfl,fun i e h=>by simp at h⟩
  ·simp only[Rs];exact vi _ _ _
theorem NB{T k e:TypeId}{gs:List Tg}{zd:DV}[hM:Pk P T k e gs zd]{x y u:Operand}{id:Nat}{K V:Type}{ck:K→List DV}{fv:V→DV}{xs:List (K×V)}{q:K}{v:V}(VM:∀a,rF gs (ck a)=true)(hid:(fv v).ids = [])(afL:xQ (ck q) = [])
  (hx:ev σ.env x=some (.row id)) (hh:cB σ.heap id=some (.mp (pN ck fv xs))) (hy:ev σ.env y=some (.agg (ck q))) (hu:ev σ.env u=some (fv v)) :
  du P ops ⟨none,.mapUpdate T x y u,ty,pos,af,none⟩ (tm x++(tm y++tm u)) [id] σ ⟨[],[(id,some (.mp (pN ck fv (Hk ck xs q v))))],[]⟩ :=
 du.skip rfl rfl fun C F γ σ' a w h1 h2 hs=>by
  have k1:=hs.ev ((cQ h1 (fun _ h=>by simp[h])).trans hx);have k2:=hs.ev ((cQ h1 (fun _ h=>by simp[h])).trans hy);have k3:=hs.ev ((cQ h1 (fun _ h=>by simp[h])).trans hu);have sO:=(h2 id (by simp)).trans hh;obtain⟨b,es,clock,e1,hg,hb,hR,Nt⟩:=GY hs k1 sO;have k3':Rs F fc.no (fv v) (a.eval u):=BP _ _ (by rw[hid];intro i hi;cases hi) k3;have k2':Rs F fc.no (.agg (ck q)) (a.eval y):=BP _ _ (by simp only[DV.ids];rw[afL];intro i hi;cases hi) k2;have k2c:=k2;simp only[Rs]at k2;obtain⟨us,e2,r2⟩:=k2;obtain⟨r,f1,f2⟩:=OJ hM VM r2 w xs es.toList 0 hR;have hc:=hM.check (VM q) r2 false w;have hf:(Instr.findKey k (.agg us) es.toList).run P w = .ok r w:=by rw[run_findKey_eq w hM.wide];exact f1
  have Ga:(getObj b).run P w = .ok (.map es clock) w:=by simp[getObj,Sem.run,hb]
  have hso:∀o,(setObj b o).run P w = .ok () { w with heap:=w.heap.setIfInBounds b o }:=fun o=>by simp[setObj,Sem.run,hb]
  have main:∀MB tH,Bg F (pN ck fv (Hk ck xs q v)) MB.toList→yK MB tH→(Instr.mapUpdate T (a.eval x) (a.eval y) (a.eval u)).run P w = .ok () { w with heap:=w.heap.setIfInBounds b (.map MB tH) }→∃w',(execOp a.eval ⟨none,.mapUpdate T x y u,ty,pos,af,none⟩).run P w = .ok .skip w' ∧
    WS C F γ ([(id,some (.mp (pN ck fv (Hk ck xs q v))))]++σ'.heap) σ'.used w':=by
   intro MB tH hR' afM mw;have pE:b<w.heap.size:=(Array.getElem?_eq_some_iff.1 hb).1;have s2:(w.heap.setIfInBounds b (.map MB tH))[b]? = some (.map MB tH):=by simp[pE]
   have s1:∀r',r'≠b→(w.heap.setIfInBounds b (.map MB tH))[r']? = w.heap[r']? := fun r' pQ=>by simp[Ne.symm pQ]
   refine⟨_,by simp[execOp,mw];rfl,?_⟩;have W:=hs.ws.FI (w':={ w with heap:=w.heap.setIfInBounds b (.map MB tH) }) sO hg ⟨rfl,rfl,rfl,by simp,fun k _ hk=>s1 k (fun e=>hk (by simp[eU,e]))⟩;have W2:=W.put (id0:=id) (e0:=.mp (pN ck fv (Hk ck xs q v))) hg ⟨b,MB,tH,rfl,s2,hR',afM⟩ (fun b' iO=>?_)
   ·exact W2.congr (fun i e hi=>wA id _ _ i e hi) (fun _ h=>h)
   ·have ho:=hs.ws.own id _ _ b' sO hg iO
    refine⟨ho.1,ho.2,fun i e g pQ hi Pp Pq=>?_⟩;rw[dj]at hi
    split at hi
    ·cases hi
    ·exact pQ (hs.ws.apart id i _ e _ g b' sO hi hg Pp iO Pq).symm
  rcases f2 with⟨g1,rfl⟩|⟨j,v0,val,en,g1,rfl,g3,g4,g5,g6,g7⟩
  ·refine main (es.push { key:=a.eval y,val:=a.eval u,born:=clock }) (clock+1) ?_ (Nt.push rfl) ?_
   ·simp only[Hk,g1,Array.toList_push]
    unfold pN;rw[List.map_append];exact Bg.push k2' k3' hR
   ·simp[Instr.mapUpdate,e1,e2,run_underlying hM.Fo,Ga,hc,hf,hso]
  ·refine main (es.modify j fun e=>{ e with key:=a.eval y,val:=a.eval u }) clock ?_ (Nt.modify j _ (fun _=>rfl)) ?_
   ·simp only[Hk,g1,Array.toList_modify,Nat.zero_add]
    unfold pN;rw[List.map_set];exact Bg.set _ j hR (fun e he=>⟨k2',k3'⟩)
   ·have hsb:=(EP 9999 gs (ck q) (ck q) us.toList us.toList hM.num (VM q) (VM q) (by
     have:=Om gs (ck q) hM.num (VM q);exact this) r2 r2).2
    have yL:(Instr.keyThatStays (.agg us) (.agg us)).run P w = .ok (.agg us) w:=by
     have:Instr.sameBits 10000 (.agg us) (.agg us)=true:=by
      simp only[Instr.sameBits,beq_self_eq_true,Bool.true_and];exact hsb
     simp[Instr.keyThatStays,this]
    have g4':es[j]? = some en:=by simpa using g4
    simp[Instr.mapUpdate,e1,e2,run_underlying hM.Fo,Ga,hc,hf,g4',g6,yL,hso]
end
theorem Bg.len{F:dI}:∀{l:List (DV×DV)} {es:List MapEntry},Bg F l es→es.length=l.length
 |[],es,h=>by simp only[Bg]at h;subst h;rfl
 |x::l,es,h=>by
  obtain⟨e,r,rfl,h1,h2,h3⟩:=h;simp[h3.len]
theorem Bg.get{F:dI}:∀{l:List (DV×DV)} {es:List MapEntry} (j:Nat) {x:DV×DV} {e:MapEntry},Bg F l es→l[j]? = some x→es[j]? = some e→Rs F fc.no x.1 e.key∧Rs F fc.no x.2 e.val
 |[],es,j,x,e,h,h1,h2=>by simp at h1
 |y::l,es,0,x,e,h,h1,h2=>by
  obtain⟨e0,r,rfl,k1,k2,k3⟩:=h;simp at h1 h2;subst h1;subst h2;exact⟨k1,k2⟩
 |y::l,es,j+1,x,e,h,h1,h2=>by
  obtain⟨e0,r,rfl,k1,k2,k3⟩:=h;exact Bg.get j k3 (by simpa using h1) (by simpa using h2)
section
variable {P:Program} {ops:Array Oper} {σ:AS} {t:Nat} {ty:TypeId} {pos:String} {af:Array Edge}
theorem du.agN{o:Oper}{rt rh:List Nat}{d d':DV}{hp:eY}{nw:List Nat}(h:du P ops o rt rh σ ⟨[(t,d)],hp,nw⟩)(hd:pP d d'):du P ops o rt rh σ ⟨[(t,d')],hp,nw⟩:=by
 intro C F γ σ' a w h1 h2 h3 h4 hs K Q hK;refine h C F γ σ' a w h1 h2 h3 h4 hs K Q (fun F' γ' a' w' hF mm=>hK F' γ' a' w' hF ⟨fun i e hi=>?_,mm.ws,mm.size,mm.defers⟩);have H:=mm.env;simp only[AS.app,List.cons_append,List.nil_append]at H hi ⊢
 by_cases hit:t=i
 ·subst hit
  rw[eW,if_pos rfl]at hi;injection hi with hi;subst hi
  have:=H t d (by rw[eW,if_pos rfl]);exact⟨this.1,hd _ _ _ this.2⟩
 ·refine H i e ?_
  rw[eW,if_neg hit]at hi ⊢;exact hi
end
section
variable {P:Program} {ops:Array Oper} {σ:AS} {t:Nat} {ty:TypeId} {pos:String} {af:Array Edge}
end
section
variable {P:Program} {n:Nat} {Q:Exit→AS→Prop} {σ:AS}
theorem Kp{id t t0:Nat}{x:Operand}{T T' Pt ty:TypeId}{Cy pos:String}{Qh af:Array Edge}{e:TypeId}{sz yR:Nat}{zd:DV}[hT:oa P T e sz yR zd]{sz' E:Nat}{eC:List DV}{sN:Nat}(hx:ev σ.env x=some (.row sN))(hh:cB σ.heap sN=some (.row E sz' eC))(ht0:t0<n)(ht:t<n)
  (hq:∀b:Bool,(b=true→eC = [])→Q .normal ⟨(t,.bool b)::(t0,.row sN)::σ.env,σ.heap,σ.used⟩) :
  ik P n (.region id #[⟨some t0,.move x,Pt,Cy,Qh,none⟩,⟨some t,.binOp .eql T (.tmp t0) (.const (.slice none 0 0)) T',ty,pos,af,none⟩] false) Q σ:=by
 intro C F γ a w hn hs;have kx:=hs.ev hx;have Ms:Sat C F γ ⟨(t0,.row sN)::σ.env,σ.heap,σ.used⟩ (a.put (some t0) (a.eval x)) w:=hs.put (by rw[hn];exact ht0) kx;have pE:t0<a.tmps.size:=by rw[hs.size,hn];exact ht0
 have hmv:(execOp a.eval ⟨some t0,.move x,Pt,Cy,Qh,none⟩).run P w = .ok (.value (a.eval x)) w:=by simp[execOp]
 generalize a.eval x=v at kx Ms hmv;obtain⟨A,c,VF,rfl,_,Ku,_⟩:=zq hs kx hh;refine wpIn_region ?_;simp only[show(#[(⟨some t0,.move x,Pt,Cy,Qh,none⟩:Oper),⟨some t,.binOp .eql T (.tmp t0) (.const (.slice none 0 0)) T',ty,pos,af,none⟩]).size=2 from rfl,List.range_succ,List.range_zero,List.nil_append,List.cons_append,wpOpsIn_cons];refine jW hmv ?_
 have e0:(a.put (some t0) (.slice A eC.length c)).eval (.tmp t0) = .slice A eC.length c:=by
  simp[Act.eval,Act.put,Array.getD,pE]
 have e1:binOp .eql T (.slice A eC.length c) (.slice none 0 0)=(do pure (.bool (←Op.equal T (.slice A eC.length c) (.slice none 0 0)))):=by cases A <;> rfl
 have e2:eqGuard .eql T (.tmp t0) (.const (.slice none 0 0)) (.slice A eC.length c) (.slice none 0 0)=pure ():=rfl
 have e3:(Op.equal T (.slice A eC.length c) (.slice none 0 0)).run P w = .ok A.isNone w:=by
  have:∀m,(Op.equalIn (m+1) T (.slice A eC.length c) (.slice none 0 0)).run P w = .ok A.isNone w:=fun m=>by cases A <;> simp[Op.equalIn,run_underlying hT.Fo]
  exact this 9999
 have Jh:(execOp (a.put (some t0) (.slice A eC.length c)).eval ⟨some t,.binOp .eql T (.tmp t0) (.const (.slice none 0 0)) T',ty,pos,af,none⟩).run P w = .ok (.value (.bool A.isNone)) w:=by
  have e4:(a.put (some t0) (.slice A eC.length c)).eval (.const (.slice none 0 0)) = .slice none 0 0:=rfl;simp only[execOp,e0,e4,e1,e2,Sem.run_bind,Sem.run_pure,Result.andThen_ok,e3]
 refine jW Jh ?_
 ·have:=Ms.put (t:=t) (by rw[hn];exact ht) (d:=.bool A.isNone) (v:=.bool A.isNone) (by simp only[Rs])
  refine⟨F,γ,_,this,hq A.isNone (fun hA=>?_)⟩;have hN:A=none:=by simpa using hA
  rcases Ku.2 with⟨_,q⟩|⟨b,cap,cur,q,_⟩
  ·exact List.eq_nil_of_length_eq_zero q
  ·rw[hN]at q;injection q with q;cases q
end
class Mc(P:Program)(t:TypeId):Prop where
 h:P.underlying t=some .string:=by kernel_rfl
section
variable {P:Program} {ops:Array Oper} {σ:AS} {t ty:Nat} {pos:String} {af:Array Edge}
theorem QO{F:dI}:∀(xs:List Int) (vs:List Value),mT F 1 (xs.map (DV.int .u8)) vs→vs=xs.map (Value.int .u8)
 |[],vs,h=>by simp only[List.map_nil,mT]at h;rw[h];rfl
 |x::xs,vs,h=>by
  simp only[List.map_cons,mT]at h;obtain⟨v,rest,h1,h2,h3,h4,h5⟩:=h;simp only[Rs]at h4;subst h4;rw[h1,QO xs rest h5]
  rfl
theorem adw{S T e:TypeId}{bytes:Nat}{zd:DV}[hS:oa P S e 1 bytes zd][hE:AD P e .u8][hT:Mc P T]{x:Operand}{d:DV}{rh:List Nat}(xs:List Int)(hx:ev σ.env x=some d)(hR:Src σ 1 d (xs.map (DV.int .u8)) rh) :
  du P ops ⟨some t,.convert S T x,ty,pos,af,none⟩ (tm x) rh σ ⟨[(t,.str (strOfNums xs))],[],[]⟩ :=
 du.val rfl rfl fun C F γ σ' a w h1 h2 hs=>by
  have k1:=hs.ev ((cQ h1 (fun _ h=>h)).trans hx);obtain⟨A,c,vs,ee,Jc,xF⟩:=hR.read hs h2 k1;have hv:=QO xs vs xF;subst hv;rw[List.length_map]at ee;refine⟨.string (strOfNums xs),?_,by simp only[Rs]⟩
  have key:(convert S T (.slice A xs.length c)).run P w = .ok (.string (strOfNums xs)) w:=by
   by_cases pQ:xs = []
   ·subst pQ
    cases A with
    |none=>exact run_convert_bytes_nil w S e hS.Fo hE.h _ _ T hT.h
    |some p=>
     have hl:(loadCells p 0).run P w = .ok ((([]:List Int)).map (Value.int .u8)).toArray w:=run_loadCells_list (P:=P) w p [] (fun j v hj=>by simp at hj);simp only[List.length_nil];rw[run_convert_bytes_string w S T e _ 0 c hS.Fo hE.h hT.h,run_bytesToString w _ 0 c [] hl,foldl_push_bytes]
     rfl
   ·obtain⟨b,o,rfl,hr⟩:=Jc.elim (by simp[pQ])
    exact run_convert_bytes_arg w S e hS.Fo hE.h b o xs.length c xs rfl (fun i hi=>by
     have:=hr i (.int .u8 (xs.getD i 0)) (by simp[List.getD,List.getElem?_eq_getElem hi]);exact this) T hT.h
  simp only[execOp,ee,key,Sem.run_bind,Sem.run_pure,Result.andThen_ok]
theorem abo{T T':TypeId}{x y:Operand}{a b:ByteArray}(hx:ev σ.env x=some (.str a))(hy:ev σ.env y=some (.str b)) :
  du P ops ⟨some t,.binOp .eql T x y T',ty,pos,af,none⟩ (tm x++tm y) [] σ ⟨[(t,.bool (a.toList==b.toList))],[],[]⟩ :=
 du.val rfl rfl fun C F γ σ' ac w h1 _ hs=>by
  obtain⟨k1,k2⟩:=AO hs h1 hx hy;simp only[Rs]at k1 k2;have e2:eqGuard .eql T x y (.string a) (.string b)=pure ():=rfl;exact⟨.bool (a.toList==b.toList),by simp only[execOp,k1,k2,binOp_string_eql,e2,Sem.run_bind,Sem.run_pure,Result.andThen_ok],by simp only[Rs]⟩
theorem abn{T T':TypeId}{x y:Operand}{a b:ByteArray}(hx:ev σ.env x=some (.str a))(hy:ev σ.env y=some (.str b)) :
  du P ops ⟨some t,.binOp .neq T x y T',ty,pos,af,none⟩ (tm x++tm y) [] σ ⟨[(t,.bool (!(a.toList==b.toList)))],[],[]⟩ :=
 du.val rfl rfl fun C F γ σ' ac w h1 _ hs=>by
  obtain⟨k1,k2⟩:=AO hs h1 hx hy;simp only[Rs]at k1 k2;have e2:eqGuard .neq T x y (.string a) (.string b)=pure ():=rfl;exact⟨.bool (!(a.toList==b.toList)),by simp only[execOp,k1,k2,binOp_string_neq,e2,Sem.run_bind,Sem.run_pure,Result.andThen_ok],by simp only[Rs]⟩
theorem ahI{T T':TypeId}{x y:Operand}{a b:ByteArray}(h:a.size+b.size≤9223372036854775807)(hx:ev σ.env x=some (.str a))(hy:ev σ.env y=some (.str b)) :
  du P ops ⟨some t,.binOp .add T x y T',ty,pos,af,none⟩ (tm x++tm y) [] σ ⟨[(t,.str (a++b))],[],[]⟩ :=
 du.val rfl rfl fun C F γ σ' ac w h1 _ hs=>by
  obtain⟨k1,k2⟩:=AO hs h1 hx hy;simp only[Rs]at k1 k2;have e2:eqGuard .add T x y (.string a) (.string b)=pure ():=rfl
  have e3:Op.stringOp .add a b=pure (.string (a++b)):=by
   have:¬(((a.size+b.size:Nat):Int)>IntKind.i64.max):=by
    have:IntKind.i64.max=9223372036854775807:=by decide
    omega
   simp only[Op.stringOp,if_neg this]
  exact⟨.string (a++b),by simp only[execOp,k1,k2,binOp_string_add,e2,e3,Sem.run_bind,Sem.run_pure,Result.andThen_ok],by simp only[Rs]⟩
end
section
variable {C:Ctx} {F:dI} {γ:fc} {h:eY} {used:List Nat} {w:World}
end
mutual
def DV.sb(s:DV→DV):DV→DV
 |.agg ds=>.agg (Xs s ds)
 |.gW ds=>.gW (Xs s ds)
 |.Ew b d=>.Ew b (d.sb s)
 |.Dh f ds=>.Dh f (Xs s ds)
 |.row i=>s (.row i)
 |.int k n=>.int k n
 |.bool b=>.bool b
 |.str s=>.str s
 |.val v=>.val v
 |.bq=>.bq
 |.sl s e=>.sl s e
 |.fs s e=>.fs s e
 |.jA ds=>.jA ds
 |.ref i o=>s (.ref i o)
 |.rp i j s o=>.rp i j s o
 |.sp i j s o=>.sp i j s o
 |.Ii i o n=>.Ii i o n
 |.rv i l n z=>.rv i l n z
 |.np i o=>.np i o
def Xs(s:DV→DV):List DV→List DV
 |[]=>[]
 |d::ds=>d.sb s::Xs s ds
end
mutual
theorem Tw{F F':dI}{γ:fc}{s:DV→DV}(hF:sd F F')(h:∀d v,Rs F γ d v→Rs F' γ (s d) v):∀(d:DV) (v:Value),Rs F γ d v→Rs F' γ (d.sb s) v
 |.row i,v,hd=>by simp only[DV.sb];exact h _ v hd
 |.ref i o,v,hd=>by simp only[DV.sb];exact h _ v hd
 |.agg ds,v,hd=>by simp only[Rs,DV.sb]at hd ⊢;obtain⟨cs,rfl,hd⟩:=hd;exact⟨cs,rfl,Rx hF h ds _ hd⟩
 |.gW ds,v,hd=>by simp only[Rs,DV.sb]at hd ⊢;obtain⟨cs,rfl,hd⟩:=hd;exact⟨cs,rfl,Rv hF h ds _ hd⟩
 |.Ew b d,v,hd=>by simp only[Rs,DV.sb]at hd ⊢;exact⟨fun e=>Tw hF h d v (hd.1 e),hd.2⟩
 |.Dh f ds,v,hd=>by simp only[Rs,DV.sb]at hd ⊢;obtain⟨cs,rfl,hd⟩:=hd;exact⟨cs,rfl,Rv hF h ds _ hd⟩
 |.int k n,v,hd=>hd.mono hF (rM.refl _)
 |.bool b,v,hd=>hd.mono hF (rM.refl _)
 |.str s,v,hd=>hd.mono hF (rM.refl _)
 |.val x,v,hd=>hd.mono hF (rM.refl _)
 |.bq,v,hd=>hd.mono hF (rM.refl _)
 |.sl s e,v,hd=>hd.mono hF (rM.refl _)
 |.fs s e,v,hd=>hd.mono hF (rM.refl _)
 |.jA ds,v,hd=>hd.mono hF (rM.refl _)
 |.rp i j s o,v,hd=>hd.mono hF (rM.refl _)
 |.sp i j s o,v,hd=>hd.mono hF (rM.refl _)
 |.Ii i o n,v,hd=>hd.mono hF (rM.refl _)
 |.rv i l n z,v,hd=>hd.mono hF (rM.refl _)
 |.np i o,v,hd=>hd.mono hF (rM.refl _)
theorem Rx{F F':dI}{γ:fc}{s:DV→DV}(hF:sd F F')(h:∀d v,Rs F γ d v→Rs F' γ (s d) v):∀(ds:List DV) (vs:List Value),fG F γ ds vs→fG F' γ (Xs s ds) vs
 |[],vs,hd=>by simp only[fG,Xs]at hd ⊢;exact hd
 |d::ds,vs,hd=>by
  simp only[fG,Xs]at hd ⊢;obtain⟨v,rest,h1,h2,h3,h4⟩:=hd;exact⟨v,rest,h1,h2,Tw hF h d v h3,Rx hF h ds _ h4⟩
theorem Rv{F F':dI}{γ:fc}{s:DV→DV}(hF:sd F F')(h:∀d v,Rs F γ d v→Rs F' γ (s d) v):∀(ds:List DV) (vs:List Value),sM F γ ds vs→sM F' γ (Xs s ds) vs
 |[],vs,hd=>by simp only[sM,Xs]at hd ⊢;exact hd
 |d::ds,vs,hd=>by
  simp only[sM,Xs]at hd ⊢;obtain⟨v,rest,h1,h3,h4⟩:=hd;exact⟨v,rest,h1,Tw hF h d v h3,Rv hF h ds _ h4⟩
end
def HE.sb(s:DV→DV):HE→HE
 |.bC T ds=>.bC T (Xs s ds)
 |e=>e
def sbE(s:DV→DV)(e:List (Nat×DV)):List (Nat×DV):=e.map fun p=>(p.1,p.2.sb s)
def sbH(s:DV→DV)(h:eY):eY:=h.map fun p=>(p.1,p.2.map (HE.sb s))
theorem afo{F F':dI}{γ:fc}{s:DV→DV}{w:World}(hF:sd F F')(h:∀d v,Rs F γ d v→Rs F' γ (s d) v){e:HE}{g:Value}(k:Cv F γ w e g):Cv F' γ w (e.sb s) g:=by
 cases e with
 |bC T ds=>obtain⟨b,cs,r1,r2,r3⟩:=k;exact⟨b,cs,r1,r2,Rx hF h ds _ r3⟩
 |_=>exact k.mono hF (rM.refl _)
def FJ(id:Nat)(ds:List DV):DV→DV
 |.ref i o=>bif Nat.beq i id then .jA (ds.drop o)else .ref i o
 |d=>d
theorem WC{σ:AS}{id T:Nat}{ds:List DV}(hh:cB σ.heap id=some (.bC T ds))(hi:xQ ds = []):oE σ ⟨sbE (FJ id ds) σ.env,(id,none)::sbH (FJ id ds) σ.heap,σ.used⟩:=fun C F γ a w hs=>by
 obtain⟨g,hg,b,cs,rfl,e2,e3⟩:=hs.ws.uB id _ hh;have ho:=hs.ws.own id _ _ b hh hg rfl;have f1:=GJ cs ho.1
 have W:WS C (F.up b cs) γ ((id,none)::σ.heap) σ.used w:=(hs.ws.forget id).data e2 ho.1 ho.2 (fun yd e' g' sO qi iO=>by
   rw[dj]at sO
   split at sO
   ·cases sO
   ·rename_i pQ;exact pQ (hs.ws.apart id yd _ e' _ g' b hh sO hg qi rfl iO))
 have e4:fG (F.up b cs) fc.no ds cs.toList:=by
  exact Gy ds _ (by rw[hi];simp) (e3.mono f1 (rM.refl _))
 have h:∀d v,Rs F γ d v→Rs (F.up b cs) γ (FJ id ds d) v:=by
  intro d v hd;cases d with
  |ref i o=>
   simp only[FJ]
   by_cases e:i=id
   ·subst e
    rw[Nat.beq_refl,cond_true];simp only[Rs]at hd ⊢;obtain⟨b',k1,rfl⟩:=hd;rw[hg]at k1;injection k1 with k1;injection k1 with k1;injection k1 with k1;injection k1 with k1;subst k1
    exact⟨b,o,cs,cs.toList.drop o,[],rfl,by simp[dI.up],by simp,e4.drop o⟩
   ·have:Nat.beq i id=false:=by rw[Bool.eq_false_iff];intro e';exact e (Nat.eq_of_beq_eq_true e')
    rw[this];exact hd.mono f1 (rM.refl _)
  |_=>exact hd.mono f1 (rM.refl _)
 refine⟨F.up b cs,γ,fun t d hd=>?_,?_,hs.size,hs.defers⟩
 ·simp only[sbE]at hd
  rw[BF (fun d=>DV.sb (FJ id ds) d)]at hd;cases hl:look σ.env t with
  |none=>rw[hl]at hd;cases hd
  |some d0=>
   rw[hl]at hd;injection hd with hd;subst hd
   exact⟨(hs.env t d0 hl).1,Tw f1 h d0 _ (hs.env t d0 hl).2⟩
 ·have key:∀i e,cB ((id,none)::sbH (FJ id ds) σ.heap) i=some e→∃e0,cB ((id,none)::σ.heap) i=some e0∧e=e0.sb (FJ id ds):=by
   intro i e hi;rw[dj]at hi ⊢
   split at hi
   ·cases hi
   ·unfold cB at hi ⊢
    simp only[sbH]at hi;rw[BF (fun x=>Option.map (HE.sb (FJ id ds)) x)]at hi;cases hl:look σ.heap i with
    |none=>rw[hl]at hi;simp at hi
    |some x=>
     rw[hl]at hi;cases x with
     |none=>simp at hi
     |some e0=>
      simp at hi
      rename_i pQ
      exact⟨e0,by rw[if_neg pQ],hi.symm⟩
  exact {
   uB:=fun i e hi=>by
    obtain⟨e0,k1,rfl⟩:=key i e hi
    have k0:cB σ.heap i=some e0:=by
     rw[dj]at k1
     split at k1
     ·cases k1
     ·exact k1
    obtain⟨g',q1,q2⟩:=hs.ws.uB i e0 k0;exact⟨g',q1,afo f1 h q2⟩
   own:=fun i e g' b' hi qi iO=>by
    obtain⟨e0,k1,rfl⟩:=key i e hi;exact W.own i e0 g' b' k1 qi iO
   apart:=fun i j e e' g1 g2 b' hi Fk hg1 vP Ky Co=>by
    obtain⟨e0,k1,rfl⟩:=key i e hi;obtain⟨e0',k1',rfl⟩:=key j e' Fk;exact W.apart i j e0 e0' g1 g2 b' k1 k1' hg1 vP Ky Co
   fs:=W.fs,f0:=W.f0,vR:=W.vR,os:=W.os,tape:=W.tape,output:=W.output,size:=W.size,uw:=W.uw,us:=W.us,gone:=W.gone,g0:=W.g0,gk:=W.gk,kn:=W.kn }
section
variable {P:Program} {ops:Array Oper} {σ:AS} {t:Nat} {ty:TypeId} {pos:String} {af:Array Edge}
theorem UE{T T':TypeId}[hT:Cu P T]{x:Operand}{ds:List DV}(hx:ev σ.env x=some (.jA ds)):du P ops ⟨some t,.binOp .eql T x (.const (.pointer none)) T',ty,pos,af,none⟩ (tm x) [] σ ⟨[(t,.bool false)],[],[]⟩ :=
 du.val rfl rfl fun C F γ σ' a w h1 h2 hs=>by
  have k1:=hs.ev ((cQ h1 (fun _ h=>h)).trans hx);simp only[Rs]at k1;obtain⟨b,o,cs,vs,rest,e,_⟩:=k1;exact⟨_,BB e w,by simp only[Rs];rfl⟩
theorem UD{T T':TypeId}[hT:Cu P T]{x:Operand}{ds:List DV}(hx:ev σ.env x=some (.jA ds)):du P ops ⟨some t,.binOp .neq T x (.const (.pointer none)) T',ty,pos,af,none⟩ (tm x) [] σ ⟨[(t,.bool true)],[],[]⟩ :=
 du.val rfl rfl fun C F γ σ' a w h1 h2 hs=>by
  have k1:=hs.ev ((cQ h1 (fun _ h=>h)).trans hx);simp only[Rs]at k1;obtain⟨b,o,cs,vs,rest,e,_⟩:=k1;exact⟨_,Fu e w,by simp only[Rs];rfl⟩
theorem Lw{x:Operand}{ds:List DV}(hx:ev σ.env x=some (.jA ds)):du P ops ⟨some t,.nilCheck x,ty,pos,af,none⟩ (tm x) [] σ ⟨[(t,.jA ds)],[],[]⟩ :=
 du.val rfl rfl fun C F γ σ' a w h1 h2 hs=>by
  have k1:=hs.ev ((cQ h1 (fun _ h=>h)).trans hx);have k2:=k1;simp only[Rs]at k1;obtain⟨b,o,cs,vs,rest,e,_⟩:=k1;exact⟨.pointer (some ⟨b,o,none⟩),by simp[execOp,e],by rw[e]at k2;exact k2⟩
end
section
variable {P:Program} {ops:Array Oper} {σ:AS} {t:Nat} {ty:TypeId} {pos:String} {af:Array Edge}
theorem Uz{T:TypeId}[hT:Mc P T]{x:Operand}{s:ByteArray}(hx:ev σ.env x=some (.str s)):du P ops ⟨some t,.call ⟨.builtin .len,#[x],#[T]⟩,ty,pos,af,none⟩ (tm x) [] σ ⟨[(t,.int .i64 (s.size:Int))],[],[]⟩ :=
 du.val rfl rfl fun C F γ σ' a w h1 _ hs=>by
  have k1:=hs.ev ((cQ h1 (fun _ h=>h)).trans hx);simp only[Rs]at k1;exact⟨.int .i64 s.size,by simp[execOp,resolve,invoke,builtin,Builtin.len_,run_underlying hT.h,k1,goInt],by simp only[Rs]⟩
def Ah(s:ByteArray)(i:Int):Option Int:=if 0≤i then(s[i.toNat]?).map (fun b=>(b.toNat:Int))else none
theorem Nz{T:TypeId}[hT:Mc P T]{x y:Operand}{s:ByteArray}{k:IntKind}{i n:Int}(h:Ah s i=some n)(hx:ev σ.env x=some (.str s))(hy:ev σ.env y=some (.int k i)) :
  du P ops ⟨some t,.index T x y,ty,pos,af,none⟩ (tm x++tm y) [] σ ⟨[(t,.int .u8 n)],[],[]⟩ :=
 du.val rfl rfl fun C F γ σ' a w h1 _ hs=>by
  obtain⟨k1,k2⟩:=AO hs h1 hx hy;simp only[Rs]at k1 k2;unfold Ah at h
  split at h
  ·rename_i h0
   cases hb:s[i.toNat]? with
   |none=>rw[hb]at h;cases h
   |some b=>
    rw[hb]at h;simp only[Option.map_some,Option.some.injEq]at h;subst h;exact⟨.int .u8 (b.toNat:Int),by simp[execOp,Instr.index,asIntOf,run_underlying hT.h,k1,k2,h0,hb],by simp only[Rs]⟩
  ·cases h
theorem CC{T:TypeId}[hT:Mc P T]{x y z:Operand}{s:ByteArray}{k k':IntKind}{lo hi:Int}(h:eN s.size lo hi)(hx:ev σ.env x=some (.str s))(hy:ev σ.env y=some (.int k lo))(hz:ev σ.env z=some (.int k' hi)) :
  du P ops ⟨some t,.slice T x (some y) (some z) none,ty,pos,af,none⟩ (tm x++tm y++tm z) [] σ ⟨[(t,.str (s.extract lo.toNat hi.toNat))],[],[]⟩ :=
 du.val rfl rfl fun C F γ σ' a w h1 _ hs=>by
  have k1:=hs.ev ((cQ h1 (fun _ h=>by simp[h])).trans hx);have k2:=hs.ev ((cQ h1 (fun _ h=>by simp[h])).trans hy);have k3:=hs.ev ((cQ h1 (fun _ h=>by simp[h])).trans hz);simp only[Rs]at k1 k2 k3;obtain⟨h1,h2,h3⟩:=h;refine⟨.string (s.extract lo.toNat hi.toNat),?_,by simp only[Rs]⟩;have e1:(0≤hi∧hi≤((s.size:Nat):Int)):=by omega
  have e2:(0≤lo∧lo≤((hi.toNat:Nat):Int)):=by omega
  have e4:max hi 0=hi:=by omega
  simp[execOp,Instr.sliceAt,Instr.slice,Instr.sliceBounds,Instr.sliceBound,asIntOf,run_underlying hT.h,k1,k2,k3,e1,e4,h1,h2]
theorem Dy{T:TypeId}[hT:Mc P T]{x z:Operand}{s:ByteArray}{k':IntKind}{hi:Int}(h:eN s.size 0 hi)(hx:ev σ.env x=some (.str s))(hz:ev σ.env z=some (.int k' hi)) :
  du P ops ⟨some t,.slice T x none (some z) none,ty,pos,af,none⟩ (tm x++tm z) [] σ ⟨[(t,.str (s.extract (Int.toNat 0) hi.toNat))],[],[]⟩ :=
 du.val rfl rfl fun C F γ σ' a w h1 _ hs=>by
  obtain⟨k1,k2⟩:=AO hs h1 hx hz;simp only[Rs]at k1 k2;obtain⟨h1,h2,h3⟩:=h;refine⟨.string (s.extract (Int.toNat 0) hi.toNat),?_,by simp only[Rs]⟩;have e1:(0≤hi∧hi≤((s.size:Nat):Int)):=by omega
  simp[execOp,Instr.sliceAt,Instr.slice,Instr.sliceBounds,Instr.sliceBound,asIntOf,run_underlying hT.h,k1,k2,e1]
/-! tables -/
def adi{α:Type}(g sz:Nat)(f:α→DV)(xs:List α):Prop:=(match look DR g with
 |some cs=>some (cs.toList.map ox)
 |none=>none)=some (xs.flatMap fun x=>(f x).cs)∧(xs.map fun x=>(f x).cs.length)=xs.map fun _=>sz
theorem JS{α:Type}{g:α→List DV}{sz:Nat}:∀{xs:List α} {i:Nat} {a:α},(xs.map fun x=>(g x).length)=(xs.map fun _=>sz)→xs[i]? = some a→∃rest,(xs.flatMap g).drop (i*sz)=g a++rest
 |[],i,a,_,h=>by simp at h
 |x::xs,0,a,_,h=>by
  simp at h;subst h;exact⟨xs.flatMap g,by simp⟩
 |x::xs,i+1,a,hl,h=>by
  simp only[List.map_cons,List.cons.injEq]at hl;obtain⟨rest,hr⟩:=JS (g:=g) (sz:=sz) (i:=i) (a:=a) hl.2 (by simpa using h);refine⟨rest,?_⟩;rw[List.flatMap_cons,Nat.succ_mul,Nat.add_comm,←hl.1,←List.drop_drop,List.drop_left,hl.1];exact hr
theorem pP.Yw(a b:List DV):pP (.jA (a++b)) (.jA a):=fun F γ v h=>by
 simp only[Rs]at h ⊢;obtain⟨bb,o,cs,vs,rest,h1,h2,h3,h4⟩:=h;have hl:=h4.len;refine⟨bb,o,cs,vs.take a.length,vs.drop a.length++rest,h1,h2,by rw[h3,←List.append_assoc,List.take_append_drop],?_⟩;have:=h4.take a.length;simpa using this
theorem Uc{T n e sz g:Nat}[hT:uz P T n e sz]{y:Operand}{k:IntKind}{m:Int}{α:Type}{f:α→DV}{xs:List α}{a:α}(ht:adi g sz f xs)(h:idx xs m=some a)(hy:ev σ.env y=some (.int k m))(hn:xs.length=n) :
  du P ops ⟨some t,.indexAddr T (.global g) y,ty,pos,af,none⟩ (tm (.global g)++tm y) [] σ ⟨[(t,.jA (f a).cs)],[],[]⟩:=by
 obtain⟨h0,h1⟩:=Ce h;obtain⟨rest,hr⟩:=JS (g:=fun x=>(f x).cs) ht.2 h1
 have hx:ev σ.env (.global g)=some (.jA (xs.flatMap fun x=>(f x).cs)):=by
  have:=ht.1;simp only[Proofs.YtpeihknododmlaaGreatDoor.ev];cases hg:look DR g with
  |none=>rw[hg]at this;cases this
  |some cs=>rw[hg]at this;injection this with this;simp only[this]
 have hi:m.toNat<n:=by
  rw[←hn];rcases Nat.lt_or_ge m.toNat xs.length with h|h
  ·exact h
  ·rw[List.getElem?_eq_none h]at h1;cases h1
 exact(Hh m.toNat hx hy (Bw h0) hi hr).agN (pP.Yw _ _)
/-! maps,copies,bytes of strings -/
class Zq(P:Program)(t:TypeId):Prop where
 h:∃k e,P.underlying t=some (.map k e)
theorem aa4{T:TypeId}[hT:Zq P T]{x:Operand}{id:Nat}{K V:Type}{ck:K→List DV}{fv:V→DV}{xs:List (K×V)}(hx:ev σ.env x=some (.row id))(hh:cB σ.heap id=some (.mp (pN ck fv xs))) :
  du P ops ⟨some t,.call ⟨.builtin .len,#[x],#[T]⟩,ty,pos,af,none⟩ (tm x) [id] σ ⟨[(t,.int .i64 (xs.length:Int))],[],[]⟩ :=
 du.val rfl rfl fun C F γ σ' a w h1 h2 hs=>by
  have k1:=hs.ev ((cQ h1 (fun _ h=>h)).trans hx);obtain⟨b,es,clock,e1,hg,hb,hR,Nt⟩:=GY hs k1 ((h2 id (by simp)).trans hh);obtain⟨k,e,hu⟩:=hT.h;have Ga:(getObj b).run P w = .ok (.map es clock) w:=by simp[getObj,Sem.run,hb]
  have hl:es.size=xs.length:=by have:=hR.len;simpa [pN]using this
  exact⟨.int .i64 xs.length,by simp[execOp,resolve,invoke,builtin,Builtin.len_,run_underlying hu,e1,Ga,goInt,hl],by simp only[Rs]⟩
def bytesOf(s:ByteArray):List Int:=s.data.toList.map fun b=>(b.toNat:Int)
theorem ahu{S T e:TypeId}{bytes:Nat}{zd:DV}[hS:Mc P S][hT:oa P T e 1 bytes zd][hE:AD P e .u8]{x:Operand}{s:ByteArray}(h:s.size≤9223372036854775807)(hx:ev σ.env x=some (.str s)) :
  du P ops ⟨some t,.convert S T x,ty,pos,af,none⟩ (tm x) [] σ ⟨[(t,.sl 1 ((bytesOf s).map (DV.int .u8)))],[],[]⟩ :=
 du.gen rfl rfl fun C F γ σ' a w h1 h2 h3 hs=>by
  have k1:=hs.ev ((cQ h1 (fun _ h=>h)).trans hx);simp only[Rs]at k1;have St:vf w (Lib.bytesWorld w e s) none:=⟨by simp[Lib.bytesWorld,World.freeze,World.alloc,World.drew,-World.alloc_eq,-World.drew_eq],by simp[Lib.bytesWorld,World.freeze,World.alloc,World.drew,-World.alloc_eq,-World.drew_eq],by simp[Lib.bytesWorld,World.freeze,World.alloc,World.drew,-World.alloc_eq,-World.drew_eq],by rw[Lib.bytesWorld_size];omega,fun b hb _=>Lib.bytesWorld_at_old w e s b hb⟩;have W:=hs.ws.quiet St
  have hF:F w.heap.size=none:=by
   cases hF:F w.heap.size with
   |none=>rfl
   |some cs=>exact absurd (hs.ws.flt hF) (Nat.lt_irrefl _)
  have W2:=W.data (Lib.bytesWorld_at_new w e s) hF (.inr hs.ws.size) (fun yd e' g' hh qi AG=>by
   obtain⟨g1,q1,q2⟩:=hs.ws.uB yd e' hh;rw[qi]at q1;injection q1 with q1;subst q1
   exact absurd (q2.lt _ AG) (Nat.lt_irrefl _))
  refine⟨.slice (some ⟨w.heap.size,0,none⟩) s.size (grownCap w s.size 0 e),Lib.bytesWorld w e s,F.up w.heap.size (Lib.bytesCells w e s),γ,by simp only[execOp,k1,Lib.run_convert_string_bytes w S T e s hS.h hT.Fo hE.h,Sem.run_bind,Sem.run_pure,Result.andThen_ok],GJ _ hF,rM.refl _,W2,?_⟩;have hl:(bytesOf s).length=s.size:=by simp[bytesOf]
  simp only[Rs,List.length_map,hl];refine⟨_,_,rfl,⟨(fun h=>by cases h),grownCap_ge _ _ _ _,grownCap_le_maxLen _ _ _ _ h⟩,fun _=>⟨w.heap.size,0,Lib.bytesCells w e s,(bytesOf s).map (Value.int .u8),List.replicate (grownCap w s.size 0 e-s.size) (.int .u8 0),rfl,by simp[dI.up],?_,?_⟩⟩
  ·simp[Lib.bytesCells,bytesOf,Function.comp_def]
  ·generalize bytesOf s=l
   induction l with
   |nil=>simp[mT]
   |cons x l ih=>
    simp only[List.map_cons,mT];exact⟨.int .u8 x,_,rfl,rfl,by simp[Value.cells,Value.oneCell'],by simp only[Rs],ih⟩
def yP{α:Type}(xs ys:List α):Nat:=min ys.length xs.length
def IU{α:Type}(xs ys:List α):List α:=ys.take (yP xs ys)++xs.drop (yP xs ys)
theorem GP{T e sz bytes:Nat}{zd:DV}[hT:oa P T e sz bytes zd]{x y:Operand}{id:Nat}{α:Type}{f:α→DV}{xs ys:List α}{dy:DV}{rh:List Nat}(hx:ev σ.env x=some (.row id))(hh:cB σ.heap id=some (.row e sz (xs.map f)))(hy:ev σ.env y=some dy)(hS:Src σ sz dy (ys.map f) rh) :
  du P ops ⟨some t,.call ⟨.builtin .copy,#[x,y],#[T,T]⟩,ty,pos,af,none⟩ (tm x++tm y) (id::rh) σ ⟨[(t,.int .i64 (yP xs ys:Int))],[(id,some (.row e sz ((IU xs ys).map f)))],[]⟩ :=
 du.gen rfl rfl fun C F γ σ' a w uL h2 h3 hs=>by
  obtain⟨k1,k2⟩:=AO hs uL hx hy;have sO:=(h2 id (by simp)).trans hh;obtain⟨A0,c0,VF,e0,HT,Ku,hE0⟩:=zq hs k1 sO;obtain⟨A,c,vs,ey,Jc,hE⟩:=hS.read hs (fun i hi=>h2 i (by simp[hi])) k2;obtain⟨z,xF,_⟩:=hT.h;obtain⟨i,hi,ZQ,Dp,Je⟩:=xF.info;rw[List.length_map]at e0 ey Ku;have RH:=hE.len;have apv:=hE0.len;rw[List.length_map]at RH apv;have hn:yP xs ys=Nat.min ys.length xs.length:=rfl;have hn1:yP xs ys≤ys.length:=Nat.min_le_left _ _;have hn2:yP xs ys≤xs.length:=Nat.min_le_right _ _;have hm1:yP xs ys*sz≤ys.length*sz:=Nat.mul_le_mul_right _ hn1;have hm2:yP xs ys*sz≤xs.length*sz:=Nat.mul_le_mul_right _ hn2;generalize yS:vs.take (yP xs ys*sz)=cs;have Cw:cs.length=yP xs ys*sz:=by rw[←yS,List.length_take];omega
  have ZY:At w A cs:=yS ▸ Jc.take _;have h1c:∀v∈cs,v.oneCell'=true:=fun v hv=>hE.one v (by rw[←yS]at hv;exact List.mem_of_mem_take hv)
  have MD:(Builtin.firstCells sz (yP xs ys) (.slice A ys.length c)).run P w = .ok cs.toArray w:=by
   cases A with
   |none=>
    have:cs = []:=by
     rcases List.eq_nil_or_concat cs with h|⟨_,_,h⟩
     ·exact h
     ·obtain⟨b,o,h',_⟩:=ZY.elim (by rw[h];simp)
      cases h'
    subst this;rfl
   |some ad=>
    simp only[Builtin.firstCells];rw[←Cw];exact run_loadCells_list (P:=P) w ad cs (fun j v hj=>ZY.add j v hj)
  have px:mT F sz ((IU xs ys).map f) (cs++VF.drop (yP xs ys*sz)):=by
   have q1:=hE.take (yP xs ys);have q2:=hE0.drop (yP xs ys)
   have:(IU xs ys).map f=(ys.map f).take (yP xs ys)++(xs.map f).drop (yP xs ys):=by
    simp[IU,List.map_take,List.map_drop]
   rw[this,←yS];exact q1.append q2
  have yQ:(sizeOf e).run P w = .ok sz w:=by simp[sizeOf,typeInfo,hi,Dp]
  rcases Ku.2 with⟨Mq,hx0⟩|⟨g,cap,cur,Ba,_,hgb,hnc,hcm,aiS,htk⟩
  ·have afO:xs = []:=List.eq_nil_of_length_eq_zero hx0
   have h00:yP xs ys=0:=by rw[afO];simp[yP]
   have hc0:cs = []:=List.eq_nil_of_length_eq_zero (by rw[Cw,h00,Nat.zero_mul]);refine⟨.int .i64 (yP xs ys),w,F,γ,?_,sd.refl _,rM.refl _,?_,by simp only[Rs]⟩
   ·subst afO
    rw[e0]at Mq;injection Mq with q1 q2 q3
    subst q1;have hf0:(Builtin.firstCells sz 0 (.slice A ys.length c)).run P w = .ok cs.toArray w:=by rw[←h00];exact MD
    simp[execOp,resolve,invoke,builtin,Builtin.copy_,run_underlying xF.under,yQ,Builtin.lenOf,e0,ey,goInt,h00,hf0]
   ·refine hs.ws.congr (fun i' e' Fk=>?_) (fun _ h=>h)
    rw[List.singleton_append,dj]at Fk
    split at Fk
    ·rename_i q;subst q
     injection Fk with Fk;subst Fk
     have:(IU xs ys).map f=xs.map f:=by subst afO;simp[IU,yP]
     rw[this];exact sO
    ·exact Fk
  ·have yL:=run_storeCells_at P g 0 e cs 0 cur w hgb (by rw[Cw,aiS];have:=Nat.mul_le_mul_right sz hnc;omega) h1c
   obtain⟨s1,s2⟩:=vf.setRow (cur.toList.take (0+0)++cs++cur.toList.drop (0+0+cs.length)).toArray hgb;have hpb:eU (a.eval x)=some g:=by rw[Ba];rfl
   refine⟨.int .i64 (yP xs ys),w.setRow g (cur.toList.take (0+0)++cs++cur.toList.drop (0+0+cs.length)).toArray,F,γ,?_,sd.refl _,rM.refl _,?_,by simp only[Rs]⟩
   ·rw[e0]at Ba
    injection Ba with q1 q2 q3
    simp[execOp,resolve,invoke,builtin,Builtin.copy_,run_underlying xF.under,yQ,Builtin.lenOf,e0,ey,q1,goInt,←hn,MD,yL]
   ·have W:=hs.ws.FI sO HT (by rw[hpb];exact s1)
    have W2:=W.put (id0:=id) (e0:=.row e sz ((IU xs ys).map f)) HT ⟨_,⟨?_,.inr ⟨g,cap,_,by rw[Ba,List.length_map];congr 1;simp[IU];omega,Nat.zero_le _,s2,?_,hcm,?_,?_⟩⟩,px⟩ (fun b' iO=>?_)
    ·exact W2.congr (fun i e hi=>wA id _ _ i e hi) (fun _ h=>h)
    ·have:=px.len;simpa using this
    ·simp[IU];omega
    ·simp[Cw,aiS];have:=Nat.mul_le_mul_right sz hnc;omega
    ·have hl:((IU xs ys).map f).length=xs.length:=by simp[IU];omega
     rw[hl];simp only[Nat.add_zero,List.take_zero,List.nil_append,Nat.zero_add,Cw];rw[List.take_append,List.take_of_length_le (by omega),Cw,←htk,List.drop_take]
    ·rw[hpb]at iO
     injection iO with iO;subst iO
     have q:=hs.ws.own id _ _ g sO HT hpb;refine⟨q.1,q.2,fun yd e' g' pQ CL qi AG=>?_⟩;rw[dj,if_neg (fun h=>pQ h.symm)]at CL;exact pQ (hs.ws.apart id yd _ e' _ g' g sO CL HT qi hpb AG).symm
end
structure EA{α:Type}(e:Nat)(f:α→List DV)(F:Nat→α):Prop where
 h:True
structure EV{α:Type}(e:Nat)(f:α→DV)(a:α):Prop where
 h:True
structure EB{α:Type}(e:Nat)(v:α):Prop where
 h:True
def Vc{α:Type}(F:Nat→α)(lo n:Nat)(ys:List α):Nat→α:=fun j=>if lo≤j∧j<lo+n then(ys[j-lo]?).getD (F j)else F j
def YG{α:Type}(n:Nat)(ys:List α):Nat:=min n ys.length
def Wf(n:Nat)(l i:Int):Prop:=0≤l∧0≤i∧l+i<n
def inV(n l i:Int):Prop:=0≤l∧0≤i∧i<n
def Tk{α:Type}(xs:List α)(lo n:Nat)(z:α):List α:=xs.take lo++List.replicate n z++xs.drop (lo+n)
instance (n:Nat)(l i:Int):Decidable (Wf n l i):=by unfold Wf;infer_instance
instance (n l i:Int):Decidable (inV n l i):=by unfold inV;infer_instance
section
variable {P:Program} {ops:Array Oper} {σ:AS} {t:Nat} {ty:TypeId} {pos:String} {af:Array Edge}
variable {T':TypeId} {u:Nat} {y:Operand} {id off T n n2 sz fo:Nat} {ds:List DV} {d:DV} {m m2 lo:Int} {k k':IntKind} {α:Type} {f:α→List DV} {F:Nat→α} {v:α}
/-! arrays in blocks: loads -/
theorem Xb[hT:qX P T'](hx:ev σ.env (.tmp u)=some (.ref id (off+m.toNat*sz)))(hh:cB σ.heap id=some (.bC T ds))(hs:EA u f F)(h:qv n m)(hl:∀x,(f x).length=sz)(hz:Nat.beq sz 1=true)(hc:(ds.drop off).take (n*sz)=(List.range n).flatMap fun j=>f (F j))(hd:f (F m.toNat) = [d]) :
  du P ops ⟨some t,.load T' (.tmp u),ty,pos,af,none⟩ (tm (.tmp u)) [id] σ ⟨[(t,d)],[],[]⟩:=by
 have e:=Nat.eq_of_beq_eq_true hz;have:=HD f F hl (by omega) h hc 0 (d:=d) (by omega) (by rw[hd];rfl);exact Hf hx hh (by simpa using this)
theorem ahd[hT:qX P T'](hx:ev σ.env (.tmp u)=some (.ref id (off+lo.toNat*1+m.toNat*1)))(hh:cB σ.heap id=some (.bC T ds))(hs:EA u f F)(h:Wf n lo m)(hl:∀x,(f x).length=1)(hc:(ds.drop off).take (n*1)=(List.range n).flatMap fun j=>f (F j))(hd:f (F (lo+m).toNat) = [d]) :
  du P ops ⟨some t,.load T' (.tmp u),ty,pos,af,none⟩ (tm (.tmp u)) [id] σ ⟨[(t,d)],[],[]⟩:=by
 unfold Wf at h;have e:off+(lo+m).toNat*1=off+lo.toNat*1+m.toNat*1:=by omega
 rw[←e]at hx;exact Xb hx hh hs (by unfold qv;omega) hl rfl hc hd
section
variable {β:Type} {g:β→List DV} {F2:Nat→Nat→β} {f2:(Nat→β)→List DV} {x:β}
theorem ahe[hT:qX P T'](hx:ev σ.env (.tmp u)=some (.ref id (off+m.toNat*sz+m2.toNat*1)))(hh:cB σ.heap id=some (.bC T ds))(hs:EA u f2 F2)(hg:EB u g)(h:qv n m)(h2:qv n2 m2)(hl:∀x,(f2 x).length=sz)(hf:∀G,f2 G=(List.range n2).flatMap fun j=>g (G j))(hg1:∀x,(g x).length=1)(hz:Nat.beq sz n2=true)(hc:(ds.drop off).take (n*sz)=(List.range n).flatMap fun j=>f2 (F2 j))(hd:g (F2 m.toNat m2.toNat) = [d]) :
  du P ops ⟨some t,.load T' (.tmp u),ty,pos,af,none⟩ (tm (.tmp u)) [id] σ ⟨[(t,d)],[],[]⟩:=by
 have e:=Nat.eq_of_beq_eq_true hz;have h2':=h2;unfold qv at h2'
 have Cf:(f2 (F2 m.toNat))[m2.toNat*1]? = some d:=by
  have:=HD (ds:=f2 (F2 m.toNat)) (off:=0) (n:=n2) (sz:=1) g (F2 m.toNat) hg1 (by omega) h2 (by rw[List.drop_zero,hf,List.take_of_length_le];rw[uV _ (fun j=>hg1 _)];omega) 0 (d:=d) (by omega) (by rw[hd];rfl);simpa using this
 exact Hf hx hh (HD f2 F2 hl (by omega) h hc (m2.toNat*1) (by omega) Cf)
end
/-! stores -/
theorem LX(hs:∀x,(f x).length=sz)(hz:0<sz)(h:qv n m)(hc:(ds.drop off).take (n*sz)=(List.range n).flatMap fun j=>f (F j))(fo:Nat){cs:List DV}(hk:fo+cs.length≤sz)(hv:vH (f (F m.toNat)) fo cs=f v) :
  vH ds (off+m.toNat*sz+fo) cs=ds.take off++((List.range n).flatMap fun j=>f (xJ F m.toNat v j))++ds.drop (off+n*sz):=by
 have ho:=Ec (fun j=>f (F j)) (fun j=>hs _) hz h hc;have Qf:=uV (fun j=>f (xJ F m.toNat v j)) (fun j=>hs _) n;have hlen:=congrArg List.length hc;rw[List.length_take,List.length_drop,uV (fun j=>f (F j)) (fun j=>hs _)]at hlen;have ht:(ds.take off).length=off:=by rw[List.length_take];omega
 refine acp f F v hs hz h hc fo hk hv ?_ ?_ ?_
 ·rw[List.append_assoc,List.take_left' ht]
 ·rw[List.append_assoc,List.drop_left' ht,List.take_left' Qf]
 ·rw[List.drop_left'];rw[List.length_append,ht,Qf]
theorem ahr(w:Nat)[hT:dE P T' w]{x:Operand}(hx:ev σ.env x=some (.ref id off))(hy:ev σ.env y=some d)(hh:cB σ.heap id=some (.bC T ds))(hf:d.flat=true)(hn:w=d.cs.length)(hl:off+w≤ds.length){vO:List DV}(hd:vH ds off d.cs=vO) :
  du P ops ⟨none,.store T' x y,ty,pos,af,none⟩ (tm x++tm y) [id] σ ⟨[],[(id,some (.bC T vO))],[]⟩ :=
 Lu hx hy hh hf (by rw[hn];exact Nat.beq_refl _) (by rw[Nat.ble_eq];exact hl) hd
theorem adj(w:Nat)[hT:dE P T' w](hx:ev σ.env (.tmp u)=some (.ref id (off+m.toNat*sz+fo)))(hy:ev σ.env y=some d)(hh:cB σ.heap id=some (.bC T ds))(hs:EA u f F)(hb:EB u v)(h:qv n m)(hl:∀x,(f x).length=sz)(hf:d.flat=true)(hn:Nat.beq w d.cs.length=true)(hz:Nat.blt 0 sz=true)(hw:Nat.ble (fo+w) sz=true)(hc:(ds.drop off).take (n*sz)=(List.range n).flatMap fun j=>f (F j))(hv:vH (f (F m.toNat)) fo d.cs=f v) :
  du P ops ⟨none,.store T' (.tmp u) y,ty,pos,af,none⟩ (tm (.tmp u)++tm y) [id] σ ⟨[],[(id,some (.bC T (ds.take off++((List.range n).flatMap fun j=>f (xJ F m.toNat v j))++ds.drop (off+n*sz))))],[]⟩:=by
 have e:=Nat.eq_of_beq_eq_true hn;have h0:0<sz:=Nat.blt_eq ▸ hz;have h1:fo+w≤sz:=Nat.ble_eq ▸ hw;have ho:=Ec (fun j=>f (F j)) (fun j=>hl _) h0 h hc;exact ahr w hx hy hh hf e (by omega) (LX hl h0 h hc fo (by omega) hv)
theorem ag8(w:Nat)[hT:dE P T' w](hx:ev σ.env (.tmp u)=some (.ref id (off+m.toNat*sz)))(hy:ev σ.env y=some d)(hh:cB σ.heap id=some (.bC T ds))(hs:EA u f F)(hb:EB u v)(h:qv n m)(hl:∀x,(f x).length=sz)(hf:d.flat=true)(hn:Nat.beq w d.cs.length=true)(hz:Nat.blt 0 sz=true)(hw:Nat.ble w sz=true)(hc:(ds.drop off).take (n*sz)=(List.range n).flatMap fun j=>f (F j))(hv:vH (f (F m.toNat)) 0 d.cs=f v) :
  du P ops ⟨none,.store T' (.tmp u) y,ty,pos,af,none⟩ (tm (.tmp u)++tm y) [id] σ ⟨[],[(id,some (.bC T (ds.take off++((List.range n).flatMap fun j=>f (xJ F m.toNat v j))++ds.drop (off+n*sz))))],[]⟩ :=
 adj (fo:=0) w hx hy hh hs hb h hl hf hn hz (by rw[Nat.zero_add];exact hw) hc hv
section
variable {β:Type} {g:β→List DV} {F2:Nat→Nat→β} {f2:(Nat→β)→List DV} {x:β}
theorem ag7[hT:dE P T' 1](hx:ev σ.env (.tmp u)=some (.ref id (off+m.toNat*sz+m2.toNat*1)))(hy:ev σ.env y=some d)(hh:cB σ.heap id=some (.bC T ds))(hs:EA u f2 F2)(hg:EB u g)(hb:EB u x)(h:qv n m)(h2:qv n2 m2)(hl:∀x,(f2 x).length=sz)(hf2:∀G,f2 G=(List.range n2).flatMap fun j=>g (G j))(hg1:∀x,(g x).length=1)(hz:Nat.beq sz n2=true)(hf:d.flat=true)(hn:Nat.beq 1 d.cs.length=true)(hc:(ds.drop off).take (n*sz)=(List.range n).flatMap fun j=>f2 (F2 j))(hv:g x=d.cs) :
  du P ops ⟨none,.store T' (.tmp u) y,ty,pos,af,none⟩ (tm (.tmp u)++tm y) [id] σ ⟨[],[(id,some (.bC T (ds.take off++((List.range n).flatMap fun j=>f2 (xJ F2 m.toNat (xJ (F2 m.toNat) m2.toNat x) j))++ds.drop (off+n*sz))))],[]⟩:=by
 have e:=Nat.eq_of_beq_eq_true hz;have e1:=Nat.eq_of_beq_eq_true hn;have h2':=h2;unfold qv at h2';have ho:=Ec (fun j=>f2 (F2 j)) (fun j=>hl _) (by omega) h hc
 have Cf:vH (f2 (F2 m.toNat)) (m2.toNat*1) d.cs=f2 (xJ (F2 m.toNat) m2.toNat x):=by
  have:=LX (ds:=f2 (F2 m.toNat)) (off:=0) (n:=n2) (sz:=1) (f:=g) (F:=F2 m.toNat) (v:=x) (m:=m2) hg1 (by omega) h2 (by rw[List.drop_zero,hf2,List.take_of_length_le];rw[uV _ (fun j=>hg1 _)];omega) 0 (cs:=d.cs) (by omega) (by
   rw[hv];have q:(g (F2 m.toNat m2.toNat)).length=1:=hg1 _;unfold vH;rw[List.take_zero,List.nil_append,List.drop_of_length_le (by omega),List.append_nil])
  rw[List.take_zero,List.nil_append,List.drop_of_length_le (by rw[hl];omega),List.append_nil,←hf2]at this;rw[←this];congr 1;omega
 exact ahr 1 hx hy hh hf e1 (by omega) (LX hl (by omega) h hc (m2.toNat*1) (by omega) Cf)
end
/-! pointers -/
theorem Lv{x:Operand}{i z o:Nat}(hx:ev σ.env x=some (.rp id i z o)):du P ops ⟨some t,.nilCheck x,ty,pos,af,none⟩ (tm x) [] σ ⟨[(t,.rp id i z o)],[],[]⟩ :=
 du.val rfl rfl fun C F γ σ' a w h1 h2 hs=>by
  have k1:=hs.ev ((cQ h1 (fun _ h=>h)).trans hx);have k2:=k1;simp only[Rs]at k1;obtain⟨b,n,c,hg,e⟩:=k1;exact⟨.pointer (some ⟨b,i*z+o,none⟩),by simp[execOp,e],by rw[e]at k2;exact k2⟩
/-! slices of arrays -/
theorem CY{e:Nat}[hT:uz P T n e sz]{x:Operand}{lo hi:Option Operand}(l h:Nat)(hx:ev σ.env x=some (.ref id off))(hl:Bd σ lo 0 l)(hh:Bd σ hi n h)(h1:l≤h)(h2:h≤n)(hz:0<n-l) :
  du P ops ⟨some t,.slice T x lo hi none,ty,pos,af,none⟩ (tm x++Ir lo++Ir hi) [] σ ⟨[(t,.Ii id (off+l*sz) (h-l))],[],[]⟩ :=
 du.val rfl rfl fun C F γ σ' a w uL _ hs=>by
  have k1:=hs.ev ((cQ uL (fun _ h=>by simp[h])).trans hx);simp only[Rs]at k1;obtain⟨b,hg,e⟩:=k1;have hb:=yk (P:=P) hs (hl.agree uL (fun _ h=>by simp[h])) (hh.agree uL (fun _ h=>by simp[h])) h1 h2
  have iO:(Instr.sliceBounds false n n (lo.map a.eval) (hi.map a.eval) none).run P w = .ok (l,h,n) w:=by
   have e1:∀x k n,ev σ'.env x=some (.int k n)→a.eval x = .int k n:=fun x k n hx=>by have:=hs.ev hx;simpa only[Rs]using this
   have hl':=hl.agree uL (fun _ h=>by simp[h]);have sO:=hh.agree uL (fun _ h=>by simp[h]);cases lo with
   |none=>
    cases hi with
    |none=>simp only[Bd]at hl' sO;subst hl';subst sO;simp[Instr.sliceBounds]
    |some y=>
     obtain⟨k,hk⟩:=sO;simp only[Bd]at hl';subst hl';simp[Instr.sliceBounds,e1 _ _ _ hk,uN h2]
   |some x=>
    obtain⟨k',Ek⟩:=hl';cases hi with
    |none=>simp only[Bd]at sO;subst sO;simp[Instr.sliceBounds,e1 _ _ _ Ek,uN h1]
    |some y=>
     obtain⟨k,hk⟩:=sO;simp[Instr.sliceBounds,e1 _ _ _ hk,e1 _ _ _ Ek,uN h2,uN h1]
  refine⟨.slice (some ⟨b,off+l*sz,none⟩) (h-l) (n-l),?_,by simp only[Rs];exact⟨b,n-l,hg,rfl,by omega⟩⟩;have hnl:¬n-l=0:=by omega
  have aiT:¬n=l:=by omega
  by_cases h0:l*sz=0
  ·simp[execOp,Instr.sliceAt,e,run_underlying hT.u,Instr.sureAddr,iO,hT.size,Addr.add,hnl,aiT,h0]
  ·simp[execOp,Instr.sliceAt,e,run_underlying hT.u,Instr.sureAddr,iO,hT.size,Addr.add,hnl,aiT,h0]
theorem QA{e:Nat}[hT:uz P T n e sz]{x:Operand}(hz:Nat.blt 0 n=true)(hx:ev σ.env x=some (.ref id off)) :
  du P ops ⟨some t,.slice T x none none none,ty,pos,af,none⟩ (tm x++Ir none++Ir none) [] σ ⟨[(t,.Ii id off n)],[],[]⟩ :=
 (CY 0 n hx Bd.no Bd.no (Nat.zero_le _) (Nat.le_refl _) (by have:=Nat.blt_eq ▸ hz;omega)).cast (by rw[Nat.zero_mul,Nat.add_zero,Nat.sub_zero])
theorem Qz{e:Nat}[hT:uz P T n e sz]{x a:Operand}(h:eN n lo (n:Int))(hn:lo<n)(hx:ev σ.env x=some (.ref id off))(ha:ev σ.env a=some (.int k lo)) :
  du P ops ⟨some t,.slice T x (some a) none none,ty,pos,af,none⟩ (tm x++Ir (some a)++Ir none) [] σ ⟨[(t,.Ii id (off+lo.toNat*sz) ((n:Int)-lo).toNat)],[],[]⟩:=by
 unfold eN at h;exact(CY lo.toNat n hx (Bd.at ha (by omega)) Bd.no (by omega) (Nat.le_refl _) (by omega)).cast (by congr 4;omega)
theorem NA{e:Nat}[hT:uz P T n e sz]{x a b:Operand}(h:eN n lo m)(hn:lo<n)(hx:ev σ.env x=some (.ref id off))(ha:ev σ.env a=some (.int k lo))(hb:ev σ.env b=some (.int k' m)) :
  du P ops ⟨some t,.slice T x (some a) (some b) none,ty,pos,af,none⟩ (tm x++Ir (some a)++Ir (some b)) [] σ ⟨[(t,.Ii id (off+lo.toNat*sz) (m-lo).toNat)],[],[]⟩:=by
 unfold eN at h;exact(CY lo.toNat m.toNat hx (Bd.at ha (by omega)) (Bd.at hb (by omega)) (by omega) (by omega) (by omega)).cast (by congr 4;omega)
theorem Ub{e:Nat}[hT:uz P T n e sz]{x y:Operand}{i:Nat}(hx:ev σ.env x=some (.ref id off))(hy:ev σ.env y=some (.int k m))(hm:m=(i:Int))(hi:i<n) :
  du P ops ⟨some t,.indexAddr T x y,ty,pos,af,none⟩ (tm x++tm y) [] σ ⟨[(t,.ref id (off+i*sz))],[],[]⟩:=CG i hx hy hm hi
theorem Jr{e:Nat}{bytes:Nat}{zd:DV}[hT:oa P T e 1 bytes zd]{x y:Operand}{q:Nat}(h:(0:Int)≤m∧m<(q:Int))(hx:ev σ.env x=some (.Ii id off q))(hy:ev σ.env y=some (.int k m)) :
  du P ops ⟨some t,.indexAddr T x y,ty,pos,af,none⟩ (tm x++tm y) [] σ ⟨[(t,.ref id (off+m.toNat*1))],[],[]⟩ :=
 du.val rfl rfl fun C F γ σ' a w uL _ hs=>by
  obtain⟨k1,k2⟩:=AO hs uL hx hy;simp only[Rs]at k1 k2;obtain⟨b,c,hg,e1,hqc⟩:=k1;obtain⟨z,xF,_⟩:=hT.h;obtain⟨i,hi,ZQ,Dp,Je⟩:=xF.info;obtain⟨j,rfl⟩:=Int.eq_ofNat_of_zero_le h.1;have pE:j<q:=by omega
  refine⟨.pointer (some ⟨b,off+j*1,none⟩),?_,by simp only[Rs];exact⟨b,hg,by simp⟩⟩
  by_cases h0:j=0
  ·simp[execOp,Instr.indexAt,e1,k2,asIntOf,run_underlying xF.under,pE,sizeOf,typeInfo,hi,Dp,Addr.add,h0]
   omega
  ·simp[execOp,Instr.indexAt,e1,k2,asIntOf,run_underlying xF.under,pE,sizeOf,typeInfo,hi,Dp,Addr.add,h0]
/-! views of rows -/
theorem JC{e:Nat}{yR:Nat}{zd:DV}[hT:oa P T e sz yR zd]{x:Operand}{lo hi:Option Operand}{eC:List DV}(l h:Nat)(hx:ev σ.env x=some (.row id))(hh:cB σ.heap id=some (.row e sz eC))(hl:Bd σ lo 0 l)(hb:Bd σ hi eC.length h)(h1:l≤h)(h2:h≤eC.length) :
  du P ops ⟨some t,.slice T x lo hi none,ty,pos,af,none⟩ (tm x++Ir lo++Ir hi) [id] σ ⟨[(t,.rv id l (h-l) sz)],[],[]⟩ :=
 du.val rfl rfl fun C F γ σ' a w uL CL hs=>by
  have k1:=hs.ev ((cQ uL (fun _ h=>by simp[h])).trans hx);obtain⟨A0,c0,VF,e0,HT,Ku,hE0⟩:=zq hs k1 ((CL id (by simp)).trans hh)
  have hc:eC.length≤c0:=by
   rcases Ku.2 with⟨q,q2⟩|⟨b,cap,cur,q,_,_,q2,_⟩
   ·omega
   ·rw[e0]at q;injection q with _ _ q;omega
  have hbd:=yk (P:=P) hs (hl.agree uL (fun _ h=>by simp[h])) (hb.agree uL (fun _ h=>by simp[h])) h1 (Nat.le_trans h2 hc);refine⟨.slice (if c0=l then A0 else A0.map (·.add (l*sz))) (h-l) (c0-l),?_,?_⟩
  ·simp[execOp,Instr.sliceAt,Instr.slice,run_underlying hT.Fo,e0,hbd,hT.size]
  ·simp only[Rs]
   refine⟨A0,eC.length,c0,by rw[HT,e0],?_,by omega⟩
   congr 1
   by_cases q:c0=l
   ·rw[if_pos q,if_pos (by omega)]
   ·rw[if_neg q,if_neg (by omega)]
section
variable {α:Type} {f:α→DV} {xs:List α}
theorem TZ{e:Nat}{yR:Nat}{zd:DV}[hT:oa P T e sz yR zd]{x a:Operand}(h:eN xs.length lo xs.length)(hx:ev σ.env x=some (.row id))(hh:cB σ.heap id=some (.row e sz (xs.map f)))(ha:ev σ.env a=some (.int k lo)) :
  du P ops ⟨some t,.slice T x (some a) none none,ty,pos,af,none⟩ (tm x++Ir (some a)++Ir none) [id] σ ⟨[(t,.rv id lo.toNat ((xs.length:Int)-lo).toNat sz)],[],[]⟩:=by
 unfold eN at h;exact(JC lo.toNat (xs.map f).length hx hh (Bd.at ha (by omega)) Bd.no (by rw[List.length_map];omega) (Nat.le_refl _)).cast (by rw[List.length_map];congr 4;omega)
theorem Qy{e:Nat}{yR:Nat}{zd:DV}[hT:oa P T e sz yR zd]{x a b:Operand}(h:eN xs.length lo m)(hx:ev σ.env x=some (.row id))(hh:cB σ.heap id=some (.row e sz (xs.map f)))(ha:ev σ.env a=some (.int k lo))(hb:ev σ.env b=some (.int k' m)) :
  du P ops ⟨some t,.slice T x (some a) (some b) none,ty,pos,af,none⟩ (tm x++Ir (some a)++Ir (some b)) [id] σ ⟨[(t,.rv id lo.toNat (m-lo).toNat sz)],[],[]⟩:=by
 unfold eN at h;exact(JC lo.toNat m.toNat hx hh (Bd.at ha (by omega)) (Bd.at hb (by omega)) (by omega) (by rw[List.length_map];omega)).cast (by congr 4;omega)
theorem aa2{e:TypeId}{HR yR:Nat}{zd:DV}[hT:oa P T e HR yR zd]{x:Operand}{l q z:Nat}(hx:ev σ.env x=some (.rv id l q z)):du P ops ⟨some t,.call ⟨.builtin .len,#[x],#[T]⟩,ty,pos,af,none⟩ (tm x) [] σ ⟨[(t,.int .i64 (q:Int))],[],[]⟩ :=
 du.val rfl rfl fun C F γ σ' a w h1 h2 hs=>by
  have k1:=hs.ev ((cQ h1 (fun _ h=>h)).trans hx);simp only[Rs]at k1;obtain⟨A,k,c,_,e,_⟩:=k1;exact⟨.int .i64 q,Gl hT.Fo _ x rfl a w e,by simp only[Rs]⟩
theorem Jo{e:Nat}{bytes:Nat}{zd:DV}[hT:oa P T e sz bytes zd]{x y:Operand}{q:Nat}{eC:List DV}(h:inV (q:Int) lo m)(hx:ev σ.env x=some (.rv id lo.toNat q sz))(hh:cB σ.heap id=some (.row e sz eC))(hy:ev σ.env y=some (.int k m)) :
  du P ops ⟨some t,.indexAddr T x y,ty,pos,af,none⟩ (tm x++tm y) [id] σ ⟨[(t,.rp id (lo+m).toNat sz 0)],[],[]⟩ :=
 du.val rfl rfl fun C F γ σ' a w uL CL hs=>by
  obtain⟨k1,k2⟩:=AO hs uL hx hy;simp only[Rs]at k1 k2;obtain⟨A,k,c,hg,e1,hqc⟩:=k1;unfold inV at h;obtain⟨z,xF,_⟩:=hT.h;obtain⟨i,hi,ZQ,Dp,Je⟩:=xF.info;obtain⟨g,vP,ZZ⟩:=hs.ws.uB id _ ((CL id (by simp)).trans hh);rw[hg]at vP;injection vP with vP;subst vP
  obtain⟨vs,ho,hE⟩:=ZZ;obtain⟨j,rfl⟩:=Int.eq_ofNat_of_zero_le h.2.1;have pE:j<q:=by omega
  have hA:∃b,A=some ⟨b,0,none⟩:=by
   rcases ho.2 with⟨p,_⟩|⟨b,cap,cur,p,_⟩
   ·injection p with p1 p2 p3;omega
   ·injection p with p1 p2 p3;exact⟨b,p1⟩
  obtain⟨b,rfl⟩:=hA;rw[if_neg (by omega)]at e1
  have ea:((⟨b,0,none⟩:Addr).add (lo.toNat*sz)).add (j*sz)=⟨b,(lo+(j:Int)).toNat*sz+0,none⟩:=by
   have:(lo+(j:Int)).toNat=lo.toNat+j:=by omega
   rw[Addr.add_lit,Addr.add_lit,this,Nat.add_mul];congr 1;omega
  refine⟨.pointer (some ⟨b,(lo+(j:Int)).toNat*sz+0,none⟩),?_,by simp only[Rs];exact⟨b,_,c,hg,rfl⟩⟩;rw[←ea];simp[execOp,Instr.indexAt,e1,k2,asIntOf,run_underlying xF.under,pE,sizeOf,typeInfo,hi,Dp]
end
end
/-! functions for which the model stands in -/
class CEx(P:Program)(f:FuncId)(e:outParam (Array Value→Sem Value)):Prop where
 h:∀args w,(callFunc f args).run P w=((e args).run P w).andThen fun v w'=>.ok (.value v) w'
section
variable {P:Program} {ops:Array Oper} {σ:AS} {t:Nat} {ty:TypeId} {pos:String} {af:Array Edge}
theorem Sj{f:FuncId}{e:Array Value→Sem Value}[hE:CEx P f e]{xs:Array Operand}{ats:Array TypeId}{a:Act}{w:World}{v:Value}{vs:Array Value}(hx:xs.map a.eval=vs)(hr:(e vs).run P w = .ok v w) :
  (execOp a.eval ⟨some t,.call ⟨.value (.func f),xs,ats⟩,ty,pos,af,none⟩).run P w = .ok (.value v) w:=by
 have:=hE.h vs w;simp[execOp,resolve,Deferred.ofValue,invoke,Act.eval,hx,this,hr,Result.andThen]
theorem abp{f:FuncId}[hE:CEx P f Extern.AbiNoEscape.same]{x:Operand}{ats:Array TypeId}{d:DV}(hx:ev σ.env x=some d) :
  du P ops ⟨some t,.call ⟨.value (.func f),#[x],ats⟩,ty,pos,af,none⟩ (tm x) [] σ ⟨[(t,d)],[],[]⟩ :=
 du.val rfl rfl fun C F γ σ' a w h1 _ hs=>⟨a.eval x,Sj (vs:=#[a.eval x]) (by simp) (Lib.run_noEscape w _),hs.ev ((cQ h1 (fun _ h=>h)).trans hx)⟩
theorem aeJ{f:FuncId}[hE:CEx P f Extern.BytealgIndexByte.indexByte]{x y:Operand}{ats:Array TypeId}{s:ByteArray}{c:Int}(hx:ev σ.env x=some (.str s))(hy:ev σ.env y=some (.int .u8 c)) :
  du P ops ⟨some t,.call ⟨.value (.func f),#[x,y],ats⟩,ty,pos,af,none⟩ (tm x++tm y) [] σ ⟨[(t,.int .i64 (firstIdx s c.toNat.toUInt8))],[],[]⟩ :=
 du.val rfl rfl fun C F γ σ' a w h1 _ hs=>by
  obtain⟨k1,k2⟩:=AO hs h1 hx hy;simp only[Rs]at k1 k2;exact⟨_,Sj (vs:=#[.string s,.int .u8 c]) (by simp[k1,k2]) (run_indexByte_string s c w),by simp only[Rs]⟩
/-! pointers turned -/
class CUp(P:Program)(S T:TypeId):Prop where
 h:∃t,P.underlying S=some (.pointer t)∧P.underlying T=some .unsafePointer∧(P.info? t).map (fun j=>Nat.beq j.size 0)=some false
class CDn(P:Program)(S T:TypeId)(u:outParam TypeId):Prop where
 h:P.underlying S=some .unsafePointer∧P.underlying T=some (.pointer u)∧(P.info? u).isSome=true
theorem Jz{C:Ctx}{F:dI}{γ:fc}{σ':AS}{a:Act}{w:World}(hs:Sat C F γ σ' a w){id off:Nat}{T:TypeId}{ds:List DV}{v:Value}(hv:Rs F γ (.ref id off) v)(hh:cB σ'.heap id=some (.bC T ds)):∃b,v = .pointer (some ⟨b,off,none⟩)∧w.shape? b=some (T,ds.length):=by
 obtain⟨b,cs,e,hg,hb,hrl⟩:=QN hs hv hh;refine⟨b,e,?_⟩;have:=hrl.len;simp at this;simp[World.shape?,hb,this]
theorem UF{S T:TypeId}[hT:CUp P S T]{x:Operand}{id off:Nat}{T0:TypeId}{ds:List DV}(hx:ev σ.env x=some (.ref id off))(hh:cB σ.heap id=some (.bC T0 ds))(hl:Nat.blt off ds.length=true) :
  du P ops ⟨some t,.convert S T x,ty,pos,af,none⟩ (tm x) [id] σ ⟨[(t,.ref id off)],[],[]⟩ :=
 du.val rfl rfl fun C F γ σ' a w h1 h2 hs=>by
  have k1:=hs.ev ((cQ h1 (fun _ h=>h)).trans hx);obtain⟨b,e,ZH⟩:=Jz hs k1 ((h2 id (by simp)).trans hh);obtain⟨t',q1,q2,q3⟩:=hT.h;obtain⟨j,q3,q4⟩:=Option.map_eq_some_iff.1 q3;have q4:j.size≠0:=fun e=>by rw[e]at q4;cases q4
  refine⟨a.eval x,?_,k1⟩;have:=Lib.run_to_unsafe w ⟨b,off,none⟩ q1 q2 q3 q4 ZH (by have:=Nat.blt_eq ▸ hl;exact this);rw[e];simp[execOp,e,this]
theorem UG{S T u:TypeId}[hT:CDn P S T u]{x:Operand}{id off:Nat}{T0:TypeId}{ds:List DV}(hx:ev σ.env x=some (.ref id off))(hh:cB σ.heap id=some (.bC T0 ds))(hl:liesAt P P.depth T0 (ds.length / P.cellsOf T0) off u 1=true) :
  du P ops ⟨some t,.convert S T x,ty,pos,af,none⟩ (tm x) [id] σ ⟨[(t,.ref id off)],[],[]⟩ :=
 du.val rfl rfl fun C F γ σ' a w h1 h2 hs=>by
  have k1:=hs.ev ((cQ h1 (fun _ h=>h)).trans hx);obtain⟨b,e,ZH⟩:=Jz hs k1 ((h2 id (by simp)).trans hh);obtain⟨q1,q2,q3⟩:=hT.h;obtain⟨j,q3⟩:=Option.isSome_iff_exists.1 q3;refine⟨a.eval x,?_,k1⟩;have:=Lib.run_from_unsafe w ⟨b,off,none⟩ q1 q2 q3 ZH hl;rw[e];simp[execOp,e,this]
class CPi(P:Program)(T:TypeId)(u:outParam TypeId):Prop where
 h:P.underlying T=some (.pointer u)∧(P.info? u).isSome=true
theorem Uu{T T' u:TypeId}[hT:CPi P T u]{x y:Operand}{id off:Nat}(hx:ev σ.env x=some (.ref id off))(hy:ev σ.env y=some (.ref id off)) :
  du P ops ⟨some t,.binOp .neq T x y T',ty,pos,af,none⟩ (tm x++tm y) [] σ ⟨[(t,.bool false)],[],[]⟩ :=
 du.val rfl rfl fun C F γ σ' a w h1 _ hs=>by
  obtain⟨k1,k2⟩:=AO hs h1 hx hy;simp only[Rs]at k1 k2;obtain⟨b,hg,e1⟩:=k1;obtain⟨b',qi,e2⟩:=k2;rw[hg]at qi;injection qi with qi;injection qi with qi;injection qi with qi;injection qi with qi
  subst qi;obtain⟨q1,q2⟩:=hT.h;obtain⟨j,q2⟩:=Option.isSome_iff_exists.1 q2;refine⟨.bool false,?_,by simp only[Rs]⟩;have:=Lib.run_neq_ptr_same (P:=P) w ⟨b,off,none⟩ q1 q2;have e3:eqGuard .neq T x y (.pointer (some ⟨b,off,none⟩)) (.pointer (some ⟨b,off,none⟩))=pure ():=rfl;simp only[execOp,e1,e2,e3,Sem.run_bind,Sem.run_pure,Result.andThen_ok,this]
/-! pointers that may be nil -/
theorem WI(id off:Nat):pP (.val (.pointer none)) (.np id off):=fun F γ v h=>by simp only[Rs]at h ⊢;exact .inl h
theorem pP.anL(id off:Nat):pP (.ref id off) (.np id off):=fun F γ v h=>by simp only[Rs]at h ⊢;exact .inr h
theorem fG.aev{F:dI}{γ:fc}{ds:List DV}{vs:List Value}{j:Nat}{v:Value}{d':DV}(h:fG F γ ds vs)(hv:vs[j]? = some v)(ho:v.oneCell'=true)(hd:Rs F γ d' v):fG F γ (ds.set j d') vs :=
 CO (by rw[List.length_set];exact h.len) fun i d hi=>by
  rw[List.getElem?_set]at hi
  by_cases Dn:j=i
  ·subst Dn
   rw[if_pos rfl]at hi
   split at hi
   ·injection hi with hi;subst hi;exact⟨v,hv,ho,hd⟩
   ·cases hi
  ·rw[if_neg Dn]at hi;exact h.get hi
theorem Sat.word{C:Ctx}{F:dI}{γ:fc}{a:Act}{w:World}{id:Nat}{e e':HE}(hs:Sat C F γ σ a w)(hh:cB σ.heap id=some e)(hE:∀g,γ id=some g→Cv F γ w e g→Cv F γ w e' g):Sat C F γ ⟨σ.env,(id,some e')::σ.heap,σ.used⟩ a w:=by
 obtain⟨g,hg,he⟩:=hs.ws.uB id e hh;refine⟨hs.env,?_,hs.size,hs.defers⟩;refine hs.ws.put hg (hE g hg he) (fun b hb=>?_);have q:=hs.ws.own id _ _ b hh hg hb;exact⟨q.1,q.2,fun i e'' g' pQ hi Pp Pq=>pQ (hs.ws.apart i id e'' _ g' _ b hi hh Pp hg Pq hb)⟩
theorem WJ{id j i o:Nat}{T:TypeId}{ds:List DV}(hh:cB σ.heap id=some (.bC T ds))(hj:ds[j]? = some (.val (.pointer none))):oE σ ⟨σ.env,(id,some (.bC T (ds.set j (.np i o))))::σ.heap,σ.used⟩:=fun C F γ a w hs=>
 ⟨F,γ,hs.word hh fun g hg he=>by
  obtain⟨b,cs,e1,e2,hl⟩:=he;obtain⟨v,q1,q2,q3⟩:=hl.get hj;exact⟨b,cs,e1,e2,hl.aev q1 q2 (WI i o F γ v q3)⟩⟩
theorem aoC{n:Nat}{c:Code}{Q:Exit→AS→Prop}{id j i o:Nat}{T:TypeId}{ds:List DV}(hh:cB σ.heap id=some (.bC T ds))(hj:ds[j]? = some (.np i o))(h1:ik P n c Q ⟨σ.env,(id,some (.bC T (ds.set j (.val (.pointer none)))))::σ.heap,σ.used⟩)(h2:ik P n c Q ⟨σ.env,(id,some (.bC T (ds.set j (.ref i o))))::σ.heap,σ.used⟩):ik P n c Q σ:=fun C F γ a w hn hs=>by
 obtain⟨g,hg,b,cs,e1,e2,hl⟩:=hs.ws.uB id _ hh;obtain⟨v,q1,q2,q3⟩:=hl.get hj;simp only[Rs]at q3;rcases q3 with q3|q3
 ·exact h1 C F γ a w hn (hs.word hh fun g' qi _=>by rw[hg]at qi;injection qi with qi;subst qi;exact⟨b,cs,e1,e2,hl.aev q1 q2 (by simp only[Rs];exact q3)⟩)
 ·exact h2 C F γ a w hn (hs.word hh fun g' qi _=>by rw[hg]at qi;injection qi with qi;subst qi;exact⟨b,cs,e1,e2,hl.aev q1 q2 (by simp only[Rs];exact q3)⟩)
end
/-! copies into arrays -/
theorem mT.ahn{F:dI}{γ:fc}:∀{ds:List DV} {vs:List Value},(∀d∈ds,d.one=true)→mT F 1 ds vs→fG F γ ds vs
 |[],vs,_,h=>by simp only[mT,fG]at h ⊢;exact h
 |d::ds,vs,ho,h=>by
  simp only[mT,fG]at h ⊢;obtain⟨v,rest,e,h1,h2,h3,h4⟩:=h;have h5:=h3.one FX.no (ho d (by simp));rw[wP h5]at e;exact⟨v,rest,e,h5,h3.mono (sd.refl _) (rM.no _),h4.ahn (fun x hx=>ho x (by simp[hx]))⟩
theorem fG.lay{F:dI}{γ:fc}{ds cs:List DV}{vs us:List Value}(h:fG F γ ds vs)(k:fG F γ cs us)(o:Nat):fG F γ (vH ds o cs) (vs.take o++us++vs.drop (o+us.length)):=by
 unfold vH;rw[k.len];exact((h.take o).append k).append (h.drop _)
section
variable {P:Program} {ops:Array Oper} {σ:AS} {t:Nat} {ty:TypeId} {pos:String} {af:Array Edge}
theorem Ok{T e bytes:Nat}{zd:DV}[hT:oa P T e 1 bytes zd]{x y:Operand}{id o q T0:Nat}{ds ys:List DV}{dy:DV}{rh:List Nat}(hx:ev σ.env x=some (.Ii id o q))(hh:cB σ.heap id=some (.bC T0 ds))(hy:ev σ.env y=some dy)(hS:Src σ 1 dy ys rh)(h1:∀d∈ys,d.one=true)(hl:o+min q ys.length≤ds.length) :
  du P ops ⟨some t,.call ⟨.builtin .copy,#[x,y],#[T,T]⟩,ty,pos,af,none⟩ (tm x++tm y) (id::rh) σ ⟨[(t,.int .i64 ((min q ys.length:Nat):Int))],[(id,some (.bC T0 (vH ds o (ys.take (min q ys.length)))))],[]⟩ :=
 du.gen rfl rfl fun C F γ σ' a w uL h2 h3 hs=>by
  obtain⟨k1,k2⟩:=AO hs uL hx hy;have sO:=(h2 id (by simp)).trans hh;simp only[Rs]at k1;obtain⟨b,c0,HT,e0,hqc⟩:=k1;obtain⟨g,hg,b',cs,eg,hb,hrl⟩:=hs.ws.uB id _ sO;rw[HT]at hg;injection hg with hg;rw[←hg]at eg;injection eg with eg;injection eg with eg;injection eg with eg;subst eg
  obtain⟨A,c,vs,ey,Jc,hE⟩:=hS.read hs (fun i hi=>h2 i (by simp[hi])) k2;obtain⟨z,xF,_⟩:=hT.h;obtain⟨i,hi,ZQ,Dp,Je⟩:=xF.info;have RH:=hE.len;have apx:=hrl.len;have apy:min q ys.length=Nat.min ys.length q:=Nat.min_comm _ _;generalize hN:min q ys.length=N at *;have hN1:N≤ys.length:=by omega
  generalize yS:vs.take N=us;have hul:us.length=N:=by rw[←yS,List.length_take];omega
  have ZY:At w A us:=yS ▸ Jc.take _;have h1u:∀v∈us,v.oneCell'=true:=fun v hv=>hE.one v (by rw[←yS]at hv;exact List.mem_of_mem_take hv)
  have MD:(Builtin.firstCells 1 N (.slice A ys.length c)).run P w = .ok us.toArray w:=by
   cases A with
   |none=>
    have:us = []:=by
     rcases List.eq_nil_or_concat us with h|⟨_,_,h⟩
     ·exact h
     ·obtain⟨b,o,h',_⟩:=ZY.elim (by rw[h];simp)
      cases h'
    subst this;rfl
   |some ad=>
    simp only[Builtin.firstCells];rw[←hul];have:=run_loadCells_list (P:=P) w ad us (fun j v hj=>ZY.add j v hj);simpa using this
  have px:fG F γ (ys.take N) us:=by
   have:=(hE.take N);rw[Nat.mul_one]at this;rw[←yS];exact this.ahn (fun d hd=>h1 d (List.mem_of_mem_take hd))
  have yQ:(sizeOf e).run P w = .ok 1 w:=by simp[sizeOf,typeInfo,hi,Dp]
  have yL:=run_storeCells_at P b o T0 us 0 cs w hb (by simp at apx;omega) h1u;obtain⟨s1,s2⟩:=vf.setRow (cs.toList.take (o+0)++us++cs.toList.drop (o+0+us.length)).toArray hb;refine⟨.int .i64 N,w.setRow b (cs.toList.take (o+0)++us++cs.toList.drop (o+0+us.length)).toArray,F,γ,?_,sd.refl _,rM.refl _,?_,by simp only[Rs]⟩
  ·simp[execOp,resolve,invoke,builtin,Builtin.copy_,run_underlying xF.under,yQ,Builtin.lenOf,e0,ey,goInt,←apy,MD,yL]
  ·have s1':vf w (w.setRow b (cs.toList.take (o+0)++us++cs.toList.drop (o+0+us.length)).toArray) (eU (.pointer (some ⟨b,0,none⟩))):=s1
   have W:=hs.ws.FI sO HT s1';have W2:=W.put (id0:=id) (e0:=.bC T0 (vH ds o (ys.take N))) HT ⟨b,_,rfl,s2,?_⟩ (fun b' iO=>?_)
   ·exact W2.congr (fun i e hi=>wA id _ _ i e hi) (fun _ h=>h)
   ·have:=hrl.lay px o
    simpa using this
   ·have ho:=hs.ws.own id _ _ b' sO HT iO
    refine⟨ho.1,ho.2,fun i e g pQ hi Pp Pq=>?_⟩;rw[dj]at hi
    split at hi
    ·cases hi
    ·exact pQ (hs.ws.apart i id e _ g _ b' hi sO Pp HT Pq iO)
theorem SF{α:Type}{fd:α→DV}{f:α→List DV}{F:Nat→α}{ys:List α}{ds:List DV}{off n l N q:Nat}(hf:∀x,f x = [fd x])(hc:(ds.drop off).take (n*1)=(List.range n).flatMap fun j=>f (F j))(ho:off+n≤ds.length)(hq:l+q≤n)(hN:N=min q ys.length) :
  vH ds (off+l) ((ys.map fd).take N)=ds.take off++((List.range n).flatMap fun j=>f (Vc F l q ys j))++ds.drop (off+n*1):=by
 have hfm:∀G:Nat→α,((List.range n).flatMap fun j=>f (G j))=(List.range n).map fun j=>fd (G j):=fun G=>by
  rw[List.flatMap_def,show(fun j=>f (G j))=fun j=>[fd (G j)] from funext fun j=>hf _]
  induction List.range n with
  |nil=>rfl
  |cons a l ih=>simp only[List.map_cons,List.flatten_cons,ih];rfl
 rw[hfm]at hc ⊢
 have cB:∀j,j<n→ds[off+j]? = some (fd (F j)):=fun j hj=>by
  have:=congrArg (fun x:List DV=>x[j]?) hc;simp only[List.getElem?_take,List.getElem?_drop,List.getElem?_map,List.getElem?_range hj,Nat.mul_one,hj,if_true,Option.map_some]at this;exact this
 have hNq:N≤q:=by omega
 have hNy:N≤ys.length:=by omega
 have ht:(List.take off ds).length=off:=by rw[List.length_take];omega
 have ht2:(List.take (off+l) ds).length=off+l:=by rw[List.length_take];omega
 have ht3:((ys.map fd).take N).length=N:=by rw[List.length_take,List.length_map];omega
 have ht4:((List.range n).map fun j=>fd (Vc F l q ys j)).length=n:=by simp
 apply List.ext_getElem?;intro i;unfold vH;rw[ht3,Nat.mul_one];rcases Nat.lt_or_ge i off with h1|h1
 ·rw[List.append_assoc,List.getElem?_append_left (by omega),List.append_assoc,List.getElem?_append_left (by omega),List.getElem?_take,List.getElem?_take,if_pos h1,if_pos (by omega)]
 ·rcases Nat.lt_or_ge i (off+n)with h2|h2
  ·obtain⟨j,rfl⟩:∃j,i=off+j:=⟨i-off,by omega⟩
   have eR:(List.take off ds++(List.map (fun j=>fd (Vc F l q ys j)) (List.range n))++List.drop (off+n) ds)[off+j]? = some (fd (Vc F l q ys j)):=by
    rw[List.append_assoc,List.getElem?_append_right (by omega),ht,List.getElem?_append_left (by omega),List.getElem?_map,show off+j-off=j by omega,List.getElem?_range (by omega),Option.map_some]
   rw[eR];rcases Nat.lt_or_ge j l with h3|h3
   ·rw[List.append_assoc,List.getElem?_append_left (by omega),List.getElem?_take,if_pos (by omega),cB j (by omega)]
    unfold Vc;rw[if_neg (by omega)]
   ·rcases Nat.lt_or_ge j (l+N)with h4|h4
    ·rw[List.append_assoc,List.getElem?_append_right (by omega),ht2,List.getElem?_append_left (by omega),List.getElem?_take,if_pos (by omega),List.getElem?_map]
     unfold Vc;rw[if_pos (by omega),show off+j-(off+l)=j-l by omega,List.getElem?_eq_getElem (by omega)]
     rfl
    ·rw[List.getElem?_append_right (by rw[List.length_append];omega),List.length_append,ht2,ht3,List.getElem?_drop,show off+l+N+(off+j-(off+l+N))=off+j by omega,cB j (by omega)]
     unfold Vc
     split
     ·rw[List.getElem?_eq_none (by omega)];rfl
     ·rfl
  ·rw[List.getElem?_append_right (by rw[List.length_append];omega),List.getElem?_append_right (by rw[List.length_append];omega),List.length_append,List.length_append,ht,ht2,ht3,ht4,List.getElem?_drop,List.getElem?_drop]
   congr 1;omega
theorem NC{T e bytes:Nat}{zd:DV}[hT:oa P T e 1 bytes zd]{u:Nat}{y:Operand}{id off q n T0:Nat}{ds:List DV}{α:Type}{fd:α→DV}{f:α→List DV}{F:Nat→α}{ys:List α}{dy:DV}{rh:List Nat}(hx:ev σ.env (.tmp u)=some (.Ii id off q))(hh:cB σ.heap id=some (.bC T0 ds))(hy:ev σ.env y=some dy)(hs:EA u f F)(hn:EB u n)(hS:Src σ 1 dy (ys.map fd) rh)(hf:∀x,f x = [fd x])(h1:∀x,(fd x).one=true)(hq:q≤n)(ho:Nat.ble (off+n) ds.length=true)(hc:(ds.drop off).take (n*1)=(List.range n).flatMap fun j=>f (F j)) :
  du P ops ⟨some t,.call ⟨.builtin .copy,#[.tmp u,y],#[T,T]⟩,ty,pos,af,none⟩ (tm (.tmp u)++tm y) (id::rh) σ ⟨[(t,.int .i64 (YG q ys:Int))],[(id,some (.bC T0 (ds.take off++((List.range n).flatMap fun j=>f (Vc F 0 q ys j))++ds.drop (off+n*1))))],[]⟩:=by
 have Gz:=Nat.ble_eq ▸ ho;have hm:min q ys.length=min q (ys.map fd).length:=by rw[List.length_map]
 have:=SF (l:=0) hf hc Gz (by omega) hm.symm;refine(Ok hx hh hy hS (fun d hd=>by obtain⟨x,_,rfl⟩:=List.mem_map.1 hd;exact h1 x) (by rw[List.length_map];omega)).cast ?_;rw[←hm]at this ⊢;rw[←this];rfl
theorem Js{T e bytes:Nat}{zd:DV}[hT:oa P T e 1 bytes zd]{u:Nat}{y:Operand}{id off n T0:Nat}{lo m:Int}{ds:List DV}{α:Type}{fd:α→DV}{f:α→List DV}{F:Nat→α}{ys:List α}{dy:DV}{rh:List Nat}(hx:ev σ.env (.tmp u)=some (.Ii id (off+lo.toNat*1) (m-lo).toNat))(hh:cB σ.heap id=some (.bC T0 ds))(hy:ev σ.env y=some dy)(hs:EA u f F)(hn:EB u n)(hq:eN n lo m)(hS:Src σ 1 dy (ys.map fd) rh)(hf:∀x,f x = [fd x])(h1:∀x,(fd x).one=true)(ho:Nat.ble (off+n) ds.length=true)(hc:(ds.drop off).take (n*1)=(List.range n).flatMap fun j=>f (F j)) :
  du P ops ⟨some t,.call ⟨.builtin .copy,#[.tmp u,y],#[T,T]⟩,ty,pos,af,none⟩ (tm (.tmp u)++tm y) (id::rh) σ ⟨[(t,.int .i64 (YG (m-lo).toNat ys:Int))],[(id,some (.bC T0 (ds.take off++((List.range n).flatMap fun j=>f (Vc F lo.toNat (m-lo).toNat ys j))++ds.drop (off+n*1))))],[]⟩:=by
 have Gz:=Nat.ble_eq ▸ ho;unfold eN at hq;have hm:min (m-lo).toNat ys.length=min (m-lo).toNat (ys.map fd).length:=by rw[List.length_map]
 have:=SF (l:=lo.toNat) (q:=(m-lo).toNat) hf hc Gz (by omega) hm.symm;refine(Ok hx hh hy hS (fun d hd=>by obtain⟨x,_,rfl⟩:=List.mem_map.1 hd;exact h1 x) (by rw[List.length_map];omega)).cast ?_;rw[Nat.mul_one];rw[←hm]at this ⊢;rw[←this];rfl
/-! texts that are built -/
class CBs(P:Program)(T U:TypeId)(e:outParam TypeId):Prop where
 h:P.underlying T=some (.slice e)∧P.underlying U=some .string∧(P.info? e).map (fun i=>(i.zero,i.size,i.bytes))=some (some (.int .u8 0),1,1)
theorem NM(s:ByteArray):Lib.strCells s=(bytesOf s).map (Value.int .u8):=by simp[Lib.strCells,bytesOf]
theorem NT(w:World){T U e:TypeId}[hB:CBs P T U e](ty:TypeId){v:Value}{n:Nat}{xs:List Value}(BT:w.ownsRow 0 e 1 v n xs)(s:ByteArray)(hb:n+s.size≤140737488355328) :
  ∃A' c' w',(Builtin.append_ #[T,U] ty #[v,.string s]).run P w = .ok (.slice A' (n+s.size) c') w'∧w'.ownsRow 0 e 1 (.slice A' (n+s.size) c') (n+s.size) (xs++Lib.strCells s)∧w.grownBy w' v.ownBlock ∧
   ((Value.slice A' (n+s.size) c').ownBlock=v.ownBlock∨(Value.slice A' (n+s.size) c').ownBlock=some w.heap.size):=by
 obtain⟨q1,q2,q3⟩:=hB.h;obtain⟨i,hi,hz,h1,h2⟩:=info_parts q3;obtain⟨v',w',hr,ho,hg,Mq⟩:=Lib.run_append_own_string (P:=P) w 0 T U ty e i q1 q2 hi hz h1 h2 v n xs BT s (by unfold maxLen;omega) hb (Nat.zero_le _);obtain⟨A',c',rfl⟩:=DH ho;refine⟨A',c',w',hr,ho,hg,?_⟩;rcases BT.2 with⟨rfl,h0⟩|⟨g,cap,cur,rfl,_,hgb,hnc,hcm,yS,htk⟩
 ·subst h0
  rcases Nat.eq_zero_or_pos s.size with hs|hs
  ·exact .inl (by rw[Mq.2 ⟨rfl,hs⟩])
  ·have:=run_append_nil_string (P:=P) w T U ty e i _ q1 q2 hi hz s hs (by omega) (by rw[h2];omega)
   rw[this]at hr;injection hr with e1 e2
   rw[←e1];exact .inr rfl
 ·rcases Nat.lt_or_ge cap (n+s.size)with si|si
  ·have:=Lib.run_append_grow_string (P:=P) w T U ty e i _ q1 q2 hi hz ⟨g,0,none⟩ n cap xs (by rw[h1,BT.1]) (BT.cells (g:=g) rfl) s si (by omega) (by rw[h2];exact growslice_fits (by omega) (by omega))
   rw[this]at hr;injection hr with e1 e2
   rw[←e1];exact .inr rfl
  ·have:=Lib.run_append_room_string (P:=P) w T U ty e i q1 q2 hi h1 g n cap cur hgb s si (by omega)
   rw[this]at hr;injection hr with e1 e2
   rw[←e1];exact .inl rfl
theorem KW{T U e:TypeId}[hB:CBs P T U e]{x y:Operand}{id:Nat}{xs:List Int}{s:ByteArray}(h:dL 1 (xs.length+(bytesOf s).length))(hx:ev σ.env x=some (.row id))(hh:cB σ.heap id=some (.row e 1 (xs.map (DV.int .u8))))(hy:ev σ.env y=some (.str s)) :
  du P ops ⟨some t,.call ⟨.builtin .append,#[x,y],#[T,U]⟩,ty,pos,af,none⟩ (tm x++tm y) [id] σ ⟨[(t,.row t)],[(t,some (.row e 1 ((xs++bytesOf s).map (DV.int .u8)))),(id,none)],[t]⟩ :=
 du.gen rfl rfl fun C F γ σ' a w uL h2 h3 hs=>by
  obtain⟨k1,k2⟩:=AO hs uL hx hy;have hn:t ∉ σ'.used:=h3 t (by simp);have sO:=(h2 id (by simp)).trans hh;obtain⟨A0,c0,VF,e0,HT,Ku,hE0⟩:=zq hs k1 sO;simp only[Rs]at k2;have hbl:(bytesOf s).length=s.size:=by unfold bytesOf;rw[List.length_map,Array.length_toList];rfl
  rw[List.length_map]at Ku;obtain⟨A',c',w',mw,ho,hg,hob⟩:=NT (P:=P) w (T:=T) (U:=U) ty Ku s (by unfold dL at h;omega);have S:vf w w' (eU (a.eval x)):=by rw[wW Ku];exact Qp hg
  have hE:mT F 1 ((bytesOf s).map (DV.int .u8)) (Lib.strCells s):=by rw[NM];exact NY .u8 _
  refine⟨.slice A' (xs.length+s.size) c',w',F,γ.up t (.slice A' (xs.length+s.size) c'),?_,sd.refl _,sS _ (hs.ws.fresh hn),?_,?_⟩
  ·simp[execOp,resolve,invoke,builtin,k2,mw]
  ·have W:=hs.ws.FI sO HT S
   refine W.add hn ⟨VF++Lib.strCells s,by rw[List.length_map,List.length_append,hbl];exact ho,by rw[List.map_append];exact hE0.append hE⟩ (fun b iO=>?_);rw[wW ho]at iO;rcases hob with h|h
   ·rw[iO,←wW Ku]at h
    have q:=hs.ws.own id _ _ b sO HT h.symm;refine⟨q.1,q.2,fun yd e' g' CL qi AG=>?_⟩;rw[dj]at CL
    split at CL
    ·cases CL
    ·rename_i pQ;exact pQ (hs.ws.apart id yd _ e' _ g' b sO CL HT qi h.symm AG)
   ·rw[iO]at h;injection h with h;subst h
    refine⟨?_,.inr hs.ws.size,fun yd e' g' CL qi AG=>?_⟩
    ·cases hF:F w.heap.size with
     |none=>rfl
     |some cs=>exact absurd (hs.ws.flt hF) (Nat.lt_irrefl _)
    ·rw[dj]at CL
     split at CL
     ·cases CL
     ·obtain⟨g1,q1,q2⟩:=hs.ws.uB yd e' CL
      rw[qi]at q1;injection q1 with q1;subst q1
      exact absurd (q2.lt _ AG) (Nat.lt_irrefl _)
  ·simp only[Rs];exact vi _ _ _
theorem ahq{T:TypeId}{x:Operand}{id E:Nat}{α:Type}{f:α→DV}{xs:List α}(h:0<xs.length)(hx:ev σ.env x=some (.row id))(hh:cB σ.heap id=some (.row E 1 (xs.map f))) :
  du P ops ⟨some t,.call ⟨.builtin .unsafeSliceData,#[x],#[T]⟩,ty,pos,af,none⟩ (tm x) [id] σ ⟨[(t,.rp id 0 1 0)],[],[]⟩ :=
 du.val rfl rfl fun C F γ σ' a w h1 h2 hs=>by
  have k1:=hs.ev ((cQ h1 (fun _ h=>h)).trans hx);obtain⟨A,c,vs,e,hg,ho,_⟩:=zq hs k1 ((h2 id (by simp)).trans hh);rw[List.length_map]at e ho;rcases ho.2 with⟨p,hx⟩|⟨b,cap,cur,p,_,q2,q3,q4,q5,q6⟩
  ·omega
  ·refine⟨.pointer (some ⟨b,0,none⟩),?_,by simp only[Rs];exact⟨b,_,cap,by rw[hg,p],by simp⟩⟩
   simp[execOp,resolve,invoke,builtin,p,Lib.run_unsafeSliceData_row w _ _ _ _ _ (show cap≠0 by omega)]
theorem vf.freeze(w:World)(g n:Nat):vf w (w.freeze ⟨g,0,none⟩ n) (some g):=by
 unfold World.freeze
 split
 ·exact(vf.refl w).any
 ·refine⟨rfl,rfl,rfl,by simp,fun k hk pQ=>?_⟩
  simp only[Array.getElem?_modify];rw[if_neg (fun h=>pQ (by rw[h]))]
def bOk(xs:List Int):Bool:=xs.all fun x=>decide (0≤x)&&decide (x≤255)
theorem ae4{xs:List Int}(h:bOk xs=true):∀x∈xs,0≤x∧x≤255:=fun x hx=>by
 have:=List.all_eq_true.1 h x hx;simpa using this
class CUs(P:Program)(Tp:TypeId)(e:outParam TypeId):Prop where
 h1:P.underlying Tp=some (.pointer e)
 h2:P.cellsOf e=1
theorem aeE{Tp Ti e:TypeId}[hU:CUs P Tp e]{x y:Operand}{id:Nat}{xs:List Int}(h:bOk xs=true)(h0:0<xs.length)(hx:ev σ.env x=some (.rp id 0 1 0))(hh:cB σ.heap id=some (.row e 1 (xs.map (DV.int .u8))))(hy:ev σ.env y=some (.int .i64 (xs.length:Int))) :
  du P ops ⟨some t,.call ⟨.builtin .unsafeString,#[x,y],#[Tp,Ti]⟩,ty,pos,af,none⟩ (tm x++tm y) [id] σ ⟨[(t,.str (strOfNums xs))],[(id,none)],[]⟩ :=
 du.gen rfl rfl fun C F γ σ' a w uL h2 h3 hs=>by
  have hT:=And.intro hU.h1 hU.h2;obtain⟨k1,k2⟩:=AO hs uL hx hy;simp only[Rs]at k1 k2;obtain⟨b,n,c,hg,e1⟩:=k1;have sO:=(h2 id (by simp)).trans hh;obtain⟨g,vP,vs,ho,hE⟩:=hs.ws.uB id _ sO;rw[hg]at vP;injection vP with vP;subst vP
  rw[List.length_map]at ho;have hv:=QO xs vs hE;subst hv;rcases ho.2 with⟨p,hx⟩|⟨b',cap,cur,p,_,q2,q3,q4,q5,q6⟩
  ·omega
  ·injection p with p1 p2 p3
   injection p1 with p1;injection p1 with p1;subst p1;subst p2;subst p3
   have hB:=ae4 h
   have ZU:∀j x,(strOfNums xs).data.toList[j]? = some x→w.cell? ((⟨b,0,none⟩:Addr).add j)=some (.int .u8 x.toNat):=fun j x hj=>by
    rw[strOfNums_data,List.getElem?_map]at hj;obtain⟨n,hn,rfl⟩:=Option.map_eq_some_iff.1 hj;have hr:=hB n (List.mem_of_getElem? hn);have hc:=ho.cells (g:=b) rfl j (.int .u8 n) (by rw[List.getElem?_map,hn];rfl);have e:(((UInt8.ofNat n.toNat).toNat:Nat):Int)=n:=by simp;omega
    rw[e];exact hc
   have hlen:(strOfNums xs).data.toList.length=xs.length:=by rw[strOfNums_data,List.length_map]
   have mw:=Lib.run_unsafeString_row (P:=P) w Tp Ti ty e hT.1 hT.2 b cur.size (by simp[World.shape?,q2]) (strOfNums xs).data.toList (by intro q;rw[q]at hlen;simp at hlen;omega) (by rw[hlen];omega) (by rw[hlen];unfold maxLen at q4;omega) ZU;rw[hlen]at mw;refine⟨.string (strOfNums xs),w.freeze ⟨b,0,none⟩ xs.length,F,γ,?_,sd.refl _,rM.refl _,?_,by simp only[Rs]⟩
   ·have e0:(⟨b,0*1+0,none⟩:Addr)=⟨b,0,none⟩:=rfl
    rw[e0]at e1;simp[execOp,resolve,invoke,builtin,e1,k2,mw]
   ·exact hs.ws.FI sO hg (by simpa [eU]using vf.freeze w b xs.length)
theorem WS.aet{C:Ctx}{F:dI}{γ:fc}{h:eY}{used:List Nat}{w:World}(H:WS C F γ h used w){id E sz:Nat}{eC els':List DV}{g:Value}(hh:cB h id=some (.row E sz eC))(hg:γ id=some g){b cap:Nat}{cur:Array Value}(p:g = .slice (some ⟨b,0,none⟩) eC.length cap)(q2:w.heap[b]? = some (.cells cur E (0,0)))(q3:eC.length≤cap)(q4:cap≤maxLen)(q5:cur.size=cap*sz){cs:List Value}(h1:cs.length=cur.size)(h2:els'.length=eC.length)(hE:mT F sz els' (cs.take (els'.length*sz))) :
  WS C F γ ((id,some (.row E sz els'))::h) used (w.setRow b cs.toArray):=by
 obtain⟨s1,s2⟩:=vf.setRow cs.toArray q2;have s1':vf w (w.setRow b cs.toArray) (eU g):=by rw[p];exact s1
 have W:=H.FI hh hg s1';have W2:=W.put (id0:=id) (e0:=.row E sz els') hg ⟨_,⟨by rw[List.length_take,h1,q5,h2];exact Nat.min_eq_left (Nat.mul_le_mul_right _ q3),.inr ⟨b,cap,_,by rw[p,h2],Nat.zero_le _,s2,by omega,q4,by simp[h1,q5],by simp⟩⟩,hE⟩ (fun b' iO=>?_)
 ·exact W2.congr (fun i e hi=>wA id _ _ i e hi) (fun _ h=>h)
 ·have ho:=H.own id _ _ b' hh hg iO
  refine⟨ho.1,ho.2,fun i e g' pQ hi Pp Pq=>?_⟩;rw[dj]at hi
  split at hi
  ·cases hi
  ·exact pQ (H.apart i id e _ g' _ b' hi hh Pp hg Pq iO)
theorem Ke{T e:TypeId}{sz bytes:Nat}{z:Value}(xF:El P T e z sz bytes)(w:World){b o n c:Nat}{cur:Array Value}{E:TypeId}(hb:w.heap[b]? = some (.cells cur E (0,0)))(hf:o+n*sz≤cur.size)(ho:∀u∈z.cells.toList,u.oneCell'=true)(ty:TypeId)(hn:n≠0) :
  (Builtin.clear_ #[T] ty #[.slice (some ⟨b,o,none⟩) n c]).run P w = .ok (.tuple #[]) (w.setRow b (cur.toList.take o++(List.replicate n z.cells.toList).flatten++cur.toList.drop (o+n*sz)).toArray):=by
 obtain⟨i,hi,ZQ,Dp,Je⟩:=xF.info;have hz0:0<z.cells.size:=by rw[xF.Dv];exact xF.pos
 have e1:(Builtin.zeroCells z.cells n).toList=(List.replicate n z.cells.toList).flatten:=qM z.cells hz0 n;have hl:((List.replicate n z.cells.toList).flatten).length=n*sz:=by simp[xF.Dv]
 have yL:=run_storeCells_at P b o E ((List.replicate n z.cells.toList).flatten) 0 cur w hb (by rw[hl];omega) (fun u hu=>by
  obtain⟨l,hl,hu⟩:=List.mem_flatten.1 hu;rw[List.eq_of_mem_replicate hl]at hu;exact ho u hu)
 rw[hl,Nat.add_zero]at yL;obtain⟨m,rfl⟩:∃m,n=m+1:=⟨n-1,by omega⟩;simp only[List.append_assoc]at yL ⊢;simp[Builtin.clear_,run_underlying xF.under,zeroValue,typeInfo,hi,ZQ,e1,yL]
theorem adk{T e:TypeId}{sz bytes:Nat}{zd:DV}[hT:oa P T e sz bytes zd]{u id l q:Nat}{α:Type}{f:α→DV}{xs:List α}{z:α}(hs:EV u f z)(hx:ev σ.env (.tmp u)=some (.rv id l q sz))(hh:cB σ.heap id=some (.row e sz (xs.map f)))(hl:l+q≤xs.length)(hz:(zd.cs.all DV.one)=true)(hf:oJ [zd] [f z]) :
  du P ops ⟨none,.call ⟨.builtin .clear,#[.tmp u],#[T]⟩,ty,pos,af,none⟩ (tm (.tmp u)) [id] σ ⟨[],[(id,some (.row e sz ((Tk xs l q z).map f)))],[]⟩:=by
 intro C F γ σ' a w h1 h2 h3 h4 hs K Q hK;have hw:Region.wanted (⟨none,.call ⟨.builtin .clear,#[.tmp u],#[T]⟩,ty,pos,af,none⟩:Oper) (yielded ops a.tmps)=true:=by simp[Region.wanted]
 rw[if_pos hw];have k1:=hs.ev ((cQ h1 (fun _ h=>h)).trans hx);have sO:=(h2 id (by simp)).trans hh;simp only[Rs]at k1;obtain⟨A,k,c,hg,e1,hc⟩:=k1;obtain⟨g,vP,vs,ho,hE⟩:=hs.ws.uB id _ sO;rw[hg]at vP;injection vP with vP;subst vP
 obtain⟨z0,xF,TE⟩:=hT.h;have hzo:=Bu (T:=T) TE hz
 have hzl:mT F sz (List.replicate q (f z)) ((List.replicate q z0.cells.toList).flatten):=by
  refine mT.replicate xF.Dv hzo ?_ q;cases hf with
  |cons h _=>exact h _ _ _ (BW TE hzo F)
 rw[List.length_map]at ho;rcases Nat.eq_zero_or_pos q with h0|h0
 ·subst h0
  have mw:(execOp a.eval ⟨none,.call ⟨.builtin .clear,#[.tmp u],#[T]⟩,ty,pos,af,none⟩).run P w = .ok (.value (.tuple #[])) w:=by
   have:(Builtin.clear_ #[T] ty #[a.eval (.tmp u)]).run P w = .ok (.tuple #[]) w:=by
    rw[e1];generalize (if c-l=0 then A else A.map (·.add (l*sz)))=A1;cases A1 <;> simp[Builtin.clear_,run_underlying xF.under]
   simp[execOp,resolve,invoke,builtin,this]
  refine jW mw ?_;simp only[Act.put];have e2:Tk xs l 0 z=xs:=by simp[Tk]
  exact hK F γ _ _ (sd.refl _) (hs.mono (sd.refl _) (rM.refl _) (hs.ws.congr (fun i e' hi=>by
   rw[List.singleton_append,dj,e2]at hi
   split at hi
   ·rename_i q;subst q;injection hi with hi;subst hi;exact sO
   ·exact hi) (fun _ h=>h)))
 ·rcases ho.2 with⟨p,hx0⟩|⟨b,cap,cur,p,_,q2,q3,q4,q5,q6⟩
  ·omega
  ·injection p with p1 p2 p3
   subst p1;subst p2;subst p3;have Cw:¬c-l=0:=by omega
   rw[if_neg Cw,Option.map_some,Addr.add_lit,Nat.zero_add]at e1;have hmul:(l+q)*sz≤c*sz:=Nat.mul_le_mul_right _ hc;rw[Nat.add_mul]at hmul;have aiV:=Ke (P:=P) xF w (n:=q) (c:=c-l) (o:=l*sz) q2 (by rw[q5];omega) hzo ty (by omega)
   have mw:(execOp a.eval ⟨none,.call ⟨.builtin .clear,#[.tmp u],#[T]⟩,ty,pos,af,none⟩).run P w = .ok (.value (.tuple #[])) (w.setRow b (cur.toList.take (l*sz)++(List.replicate q z0.cells.toList).flatten++cur.toList.drop (l*sz+q*sz)).toArray):=by
    simp[execOp,resolve,invoke,builtin,e1,aiV]
   refine jW mw ?_;simp only[Act.put];refine hK F γ _ _ (sd.refl _) (hs.mono (sd.refl _) (rM.refl _) ?_);have hzn:((List.replicate q z0.cells.toList).flatten).length=q*sz:=by have:=hzl.len;rwa [List.length_replicate]at this
   have RH:=hE.len;rw[List.length_map]at RH;have hm2:(l+q)*sz≤xs.length*sz:=Nat.mul_le_mul_right _ hl;rw[Nat.add_mul]at hm2;have hm3:xs.length*sz≤c*sz:=Nat.mul_le_mul_right _ q3;have hlen:(Tk xs l q z).length=xs.length:=by simp[Tk];omega
   refine hs.ws.aet (els':=(Tk xs l q z).map f) sO hg (cap:=c) (cur:=cur) (by rw[List.length_map]) q2 (by rw[List.length_map];exact q3) q4 q5 ?_ ?_ ?_
   ·rw[List.length_append,List.length_append,List.length_take,List.length_drop,hzn,Array.length_toList,q5];omega
   ·rw[List.length_map,List.length_map,hlen]
   ·rw[List.length_map,hlen]
    have RN:(cur.toList.take (l*sz)++(List.replicate q z0.cells.toList).flatten++cur.toList.drop (l*sz+q*sz)).take (xs.length*sz)=vs.take (l*sz)++(List.replicate q z0.cells.toList).flatten++vs.drop ((l+q)*sz):=by
     have eA:(cur.toList.take (l*sz)).length=l*sz:=by rw[List.length_take,Array.length_toList,q5];omega
     have eAB:(cur.toList.take (l*sz)++(List.replicate q z0.cells.toList).flatten).length=l*sz+q*sz:=by rw[List.length_append,eA,hzn]
     have v1:vs.take (l*sz)=cur.toList.take (l*sz):=by rw[←q6,List.take_take,Nat.min_eq_left (by omega)]
     have v2:vs.drop ((l+q)*sz)=(cur.toList.drop (l*sz+q*sz)).take (xs.length*sz-(l*sz+q*sz)):=by rw[←q6,List.drop_take,Nat.add_mul]
     rw[List.take_append,List.take_of_length_le (by rw[eAB];omega),eAB,v1,v2]
    rw[RN];have:(Tk xs l q z).map f=(xs.map f).take l++List.replicate q (f z)++(xs.map f).drop (l+q):=by simp[Tk,List.map_take,List.map_drop]
    rw[this];exact((hE.take l).append hzl).append (hE.drop (l+q))
theorem aen{T e:TypeId}{sz bytes:Nat}{zd:DV}[hT:oa P T e sz bytes zd]{u id:Nat}{lo m:Int}{α:Type}{f:α→DV}{xs:List α}{z:α}(hs:EV u f z)(h:eN xs.length lo m)(hx:ev σ.env (.tmp u)=some (.rv id lo.toNat (m-lo).toNat sz))(hh:cB σ.heap id=some (.row e sz (xs.map f)))(hz:(zd.cs.all DV.one)=true)(hf:oJ [zd] [f z]) :
  du P ops ⟨none,.call ⟨.builtin .clear,#[.tmp u],#[T]⟩,ty,pos,af,none⟩ (tm (.tmp u)) [id] σ ⟨[],[(id,some (.row e sz ((Tk xs lo.toNat (m-lo).toNat z).map f)))],[]⟩:=adk hs hx hh (by unfold eN at h;omega) hz hf
theorem QB{T e:TypeId}{sz bytes:Nat}{zd:DV}[hT:oa P T e sz bytes zd]{x y:Operand}{id:Nat}{k:IntKind}{lo m r:Int}{eC:List DV}(h:inV r lo m)(hx:ev σ.env x=some (.rv id lo.toNat r.toNat sz))(hh:cB σ.heap id=some (.row e sz eC))(hy:ev σ.env y=some (.int k m)) :
  du P ops ⟨some t,.indexAddr T x y,ty,pos,af,none⟩ (tm x++tm y) [id] σ ⟨[(t,.rp id (lo+m).toNat sz 0)],[],[]⟩:=Jo (q:=r.toNat) (by unfold inV at h ⊢;omega) hx hh hy
theorem Vu{n:Nat}{Q:Exit→AS→Prop}{id t t0:Nat}{x:Operand}{T T' Pt ty:TypeId}{Cy pos:String}{Qh af:Array Edge}{e:TypeId}{sz yR:Nat}{zd:DV}[hT:oa P T e sz yR zd]{sN l q z:Nat}{E sz':Nat}{eC:List DV}(hx:ev σ.env x=some (.rv sN l q z))(hh:cB σ.heap sN=some (.row E sz' eC))(ht0:t0<n)(ht:t<n)
  (hq:∀b:Bool,(b=true→q=0)→Q .normal ⟨(t,.bool b)::(t0,.rv sN l q z)::σ.env,σ.heap,σ.used⟩) :
  ik P n (.region id #[⟨some t0,.move x,Pt,Cy,Qh,none⟩,⟨some t,.binOp .eql T (.tmp t0) (.const (.slice none 0 0)) T',ty,pos,af,none⟩] false) Q σ:=by
 intro C F γ a w hn hs;have kx:=hs.ev hx;have Ms:Sat C F γ ⟨(t0,.rv sN l q z)::σ.env,σ.heap,σ.used⟩ (a.put (some t0) (a.eval x)) w:=hs.put (by rw[hn];exact ht0) kx;have pE:t0<a.tmps.size:=by rw[hs.size,hn];exact ht0
 have hmv:(execOp a.eval ⟨some t0,.move x,Pt,Cy,Qh,none⟩).run P w = .ok (.value (a.eval x)) w:=by simp[execOp]
 generalize a.eval x=v at kx Ms hmv;simp only[Rs]at kx;obtain⟨A,k,c,hg,rfl,Pu⟩:=kx;obtain⟨g,vP,vs,ho,hE⟩:=hs.ws.uB sN _ hh;rw[hg]at vP;injection vP with vP;subst vP
 have hA0:(if c-l=0 then A else A.map (·.add (l*z)))=none→q=0:=fun hA=>by
  have hA':A=none:=by
   split at hA
   ·exact hA
   ·cases A <;> simp_all
  rcases ho.2 with⟨p,_⟩|⟨b,cap,cur,p,_⟩
  ·injection p with _ _ p3;omega
  ·injection p with p1 _ _;rw[hA']at p1;cases p1
 generalize (if c-l=0 then A else A.map (·.add (l*z)))=A at hA0 Ms hmv ⊢;refine wpIn_region ?_;simp only[show(#[(⟨some t0,.move x,Pt,Cy,Qh,none⟩:Oper),⟨some t,.binOp .eql T (.tmp t0) (.const (.slice none 0 0)) T',ty,pos,af,none⟩]).size=2 from rfl,List.range_succ,List.range_zero,List.nil_append,List.cons_append,wpOpsIn_cons];refine jW hmv ?_
 have e0:(a.put (some t0) (.slice A q (c-l))).eval (.tmp t0) = .slice A q (c-l):=by
  simp[Act.eval,Act.put,Array.getD,pE]
 have e1:binOp .eql T (.slice A q (c-l)) (.slice none 0 0)=(do pure (.bool (←Op.equal T (.slice A q (c-l)) (.slice none 0 0)))):=by cases A <;> rfl
 have e2:eqGuard .eql T (.tmp t0) (.const (.slice none 0 0)) (.slice A q (c-l)) (.slice none 0 0)=pure ():=rfl
 have e3:(Op.equal T (.slice A q (c-l)) (.slice none 0 0)).run P w = .ok A.isNone w:=by
  have:∀m,(Op.equalIn (m+1) T (.slice A q (c-l)) (.slice none 0 0)).run P w = .ok A.isNone w:=fun m=>by cases A <;> simp[Op.equalIn,run_underlying hT.Fo]
  exact this 9999
 have Jh:(execOp (a.put (some t0) (.slice A q (c-l))).eval ⟨some t,.binOp .eql T (.tmp t0) (.const (.slice none 0 0)) T',ty,pos,af,none⟩).run P w = .ok (.value (.bool A.isNone)) w:=by
  have e4:(a.put (some t0) (.slice A q (c-l))).eval (.const (.slice none 0 0)) = .slice none 0 0:=rfl;simp only[execOp,e0,e4,e1,e2,Sem.run_bind,Sem.run_pure,Result.andThen_ok,e3]
 refine jW Jh ?_
 ·have:=Ms.put (t:=t) (by rw[hn];exact ht) (d:=.bool A.isNone) (v:=.bool A.isNone) (by simp only[Rs])
  refine⟨F,γ,_,this,hq A.isNone (fun hA=>?_)⟩;exact hA0 (by cases A <;> first|rfl|(simp at hA))
/-! maps from texts -/
theorem aic{a b:ByteArray}(h:(a==b)=true):a=b:=by
 cases a with|mk a=>cases b with|mk b=>
 have h:ByteArray.beq ⟨a⟩ ⟨b⟩=true:=h;unfold ByteArray.beq at h;simp at h;rw[h]
theorem Za(a:ByteArray):(a==a)=true:=by
 cases a with|mk a=>
 show ByteArray.beq ⟨a⟩ ⟨a⟩=true;unfold ByteArray.beq;simp
def mfS{V:Type}(k:ByteArray):List (ByteArray×V)→Nat→Option (Nat×V)
 |[],_=>none
 |p::l,i=>if k==p.1 then some (i,p.2)else mfS k l (i+1)
def DN{V:Type}(xs:List (ByteArray×V))(k:ByteArray)(v:V):List (ByteArray×V):=match mfS k xs 0 with
 |some (i,_)=>xs.set i (k,v)
 |none=>xs++[(k,v)]
def Oq{V:Type}(fv:V→DV)(xs:List (ByteArray×V)):List (DV×DV):=xs.map fun p=>(.str p.1,fv p.2)
class adO(P:Program)(t:TypeId)(k e:outParam TypeId):Prop where
 Fo:P.underlying t=some (.map k e)
 key:P.underlying k=some .string
theorem JT{V:Type}{fv:V→DV}{F:dI}(s:ByteArray):∀(xs:List (ByteArray×V)) (es:List MapEntry) (i:Nat),Bg F (Oq fv xs) es→∃r,Instr.findNow .string (.string s) es i=some r ∧
   ((mfS s xs i=none∧r=none)∨∃j v val en,mfS s xs i=some (i+j,v)∧r=some (i+j,val)∧es[j]? = some en∧en.key = .string s)
 |[],es,i,h=>by
  simp only[Oq,List.map_nil,Bg]at h;subst h;exact⟨none,by simp[Instr.findNow],.inl ⟨rfl,rfl⟩⟩
 |p::xs,es,i,h=>by
  simp only[Oq,List.map_cons,Bg]at h;obtain⟨en,r,rfl,h1,h2,h3⟩:=h;simp only[Rs]at h1;cases hb:s==p.1 with
  |true=>
   have hs:s=p.1:=aic hb;refine⟨some (i,en.val),by simp[Instr.findNow,Instr.sameNow,h1,hs,Za],.inr ⟨0,p.2,en.val,en,by simp[mfS,hb],rfl,by simp,by rw[h1,hs]⟩⟩
  |false=>
   obtain⟨r',k1,k2⟩:=JT s xs r (i+1) h3;refine⟨r',by simp[Instr.findNow,Instr.sameNow,h1,hb,k1],?_⟩;rcases k2 with⟨a1,a2⟩|⟨j,v,val,en',a1,a2,a3,a4⟩
   ·exact .inl ⟨by simp[mfS,hb,a1],a2⟩
   ·exact .inr ⟨j+1,v,val,en',by simp[mfS,hb,a1];omega,by rw[a2];congr 2;omega,by simpa using a3,a4⟩
theorem aha{T k e:TypeId}[hM:adO P T k e]{x y u:Operand}{id:Nat}{V:Type}{fv:V→DV}{xs:List (ByteArray×V)}{q:ByteArray}{v:V}(h1:EV 1 fv v)(hid:(fv v).ids = [])(hx:ev σ.env x=some (.row id))(hh:cB σ.heap id=some (.mp (Oq fv xs)))(hy:ev σ.env y=some (.str q))(hu:ev σ.env u=some (fv v)) :
  du P ops ⟨none,.mapUpdate T x y u,ty,pos,af,none⟩ (tm x++(tm y++tm u)) [id] σ ⟨[],[(id,some (.mp (Oq fv (DN xs q v))))],[]⟩ :=
 du.skip rfl rfl fun C F γ σ' a w h1 h2 hs=>by
  have k1:=hs.ev ((cQ h1 (fun _ h=>by simp[h])).trans hx);have k2:=hs.ev ((cQ h1 (fun _ h=>by simp[h])).trans hy);have k3:=hs.ev ((cQ h1 (fun _ h=>by simp[h])).trans hu);have sO:=(h2 id (by simp)).trans hh;obtain⟨b,es,clock,e1,hg,hb,hR,Nt⟩:=GY hs k1 sO;have k3':Rs F fc.no (fv v) (a.eval u):=BP _ _ (by rw[hid];intro i hi;cases hi) k3;simp only[Rs]at k2;obtain⟨r,f1,f2⟩:=JT q xs es.toList 0 hR;have hc:(Instr.checkKey false 10000 k (.string q)).run P w = .ok () w:=by rw[show 10000=9999+1 from rfl];unfold Instr.checkKey;simp[run_underlying hM.key]
  have hf:(Instr.findKey k (.string q) es.toList).run P w = .ok r w:=by simp[Instr.findKey,run_underlying hM.key,f1]
  have Ga:(getObj b).run P w = .ok (.map es clock) w:=by simp[getObj,Sem.run,hb]
  have hso:∀o,(setObj b o).run P w = .ok () { w with heap:=w.heap.setIfInBounds b o }:=fun o=>by simp[setObj,Sem.run,hb]
  have main:∀MB tH,Bg F (Oq fv (DN xs q v)) MB.toList→yK MB tH→(Instr.mapUpdate T (a.eval x) (a.eval y) (a.eval u)).run P w = .ok () { w with heap:=w.heap.setIfInBounds b (.map MB tH) }→∃w',(execOp a.eval ⟨none,.mapUpdate T x y u,ty,pos,af,none⟩).run P w = .ok .skip w' ∧
    WS C F γ ([(id,some (.mp (Oq fv (DN xs q v))))]++σ'.heap) σ'.used w':=by
   intro MB tH hR' afM mw;have pE:b<w.heap.size:=(Array.getElem?_eq_some_iff.1 hb).1;have s2:(w.heap.setIfInBounds b (.map MB tH))[b]? = some (.map MB tH):=by simp[pE]
   have s1:∀r',r'≠b→(w.heap.setIfInBounds b (.map MB tH))[r']? = w.heap[r']? := fun r' pQ=>by simp[Ne.symm pQ]
   refine⟨_,by simp[execOp,mw];rfl,?_⟩;have W:=hs.ws.FI (w':={ w with heap:=w.heap.setIfInBounds b (.map MB tH) }) sO hg ⟨rfl,rfl,rfl,by simp,fun k _ hk=>s1 k (fun e=>hk (by simp[eU,e]))⟩;have W2:=W.put (id0:=id) (e0:=.mp (Oq fv (DN xs q v))) hg ⟨b,MB,tH,rfl,s2,hR',afM⟩ (fun b' iO=>?_)
   ·exact W2.congr (fun i e hi=>wA id _ _ i e hi) (fun _ h=>h)
   ·have ho:=hs.ws.own id _ _ b' sO hg iO
    refine⟨ho.1,ho.2,fun i e g pQ hi Pp Pq=>?_⟩;rw[dj]at hi
    split at hi
    ·cases hi
    ·exact pQ (hs.ws.apart id i _ e _ g b' sO hi hg Pp iO Pq).symm
  rcases f2 with⟨g1,rfl⟩|⟨j,v0,val,en,g1,rfl,g4,g6⟩
  ·refine main (es.push { key:=a.eval y,val:=a.eval u,born:=clock }) (clock+1) ?_ (Nt.push rfl) ?_
   ·simp only[DN,g1,Array.toList_push]
    unfold Oq;rw[List.map_append];exact Bg.push (by rw[k2];simp only[Rs]) k3' hR
   ·simp[Instr.mapUpdate,e1,k2,run_underlying hM.Fo,Ga,hc,hf,hso]
  ·refine main (es.modify j fun e=>{ e with key:=a.eval y,val:=a.eval u }) clock ?_ (Nt.modify j _ (fun _=>rfl)) ?_
   ·simp only[DN,g1,Array.toList_modify,Nat.zero_add]
    unfold Oq;rw[List.map_set];exact Bg.set _ j hR (fun e he=>⟨by rw[k2];simp only[Rs],k3'⟩)
   ·have yL:(Instr.keyThatStays (.string q) (.string q)).run P w = .ok (.string q) w:=by simp[Instr.keyThatStays,Instr.sameBits,Za]
    have g4':es[j]? = some en:=by simpa using g4
    simp[Instr.mapUpdate,e1,k2,run_underlying hM.Fo,Ga,hc,hf,g4',g6,yL,hso]
theorem Xa{T:TypeId}[hT:Zq P T]{x:Operand}{id:Nat}{V:Type}{fv:V→DV}{xs:List (ByteArray×V)}(hx:ev σ.env x=some (.row id))(hh:cB σ.heap id=some (.mp (Oq fv xs))) :
  du P ops ⟨some t,.call ⟨.builtin .len,#[x],#[T]⟩,ty,pos,af,none⟩ (tm x) [id] σ ⟨[(t,.int .i64 (xs.length:Int))],[],[]⟩ :=
 du.val rfl rfl fun C F γ σ' a w h1 h2 hs=>by
  have k1:=hs.ev ((cQ h1 (fun _ h=>h)).trans hx);obtain⟨b,es,clock,e1,hg,hb,hR,Nt⟩:=GY hs k1 ((h2 id (by simp)).trans hh);obtain⟨k,e,hu⟩:=hT.h;have Ga:(getObj b).run P w = .ok (.map es clock) w:=by simp[getObj,Sem.run,hb]
  have hl:es.size=xs.length:=by have:=hR.len;simpa [Oq]using this
  exact⟨.int .i64 xs.length,by simp[execOp,resolve,invoke,builtin,Builtin.len_,run_underlying hu,e1,Ga,goInt,hl],by simp only[Rs]⟩
theorem aek{T n e:Nat}[hT:uz P T n e 1][hs:qX P e]{x y:Operand}{k:IntKind}{m:Int}{α:Type}{f:α→DV}{xs:List α}{a:α}{ds:List DV}(h:idx xs m=some a)(h1:EV t f a)(h2:EB t xs)(hx:ev σ.env x=some (.agg ds))(hd:ds=xs.map f)(hy:ev σ.env y=some (.int k m))(hn:xs.length=n) :
  du P ops ⟨some t,.index T x y,ty,pos,af,none⟩ (tm x++tm y) [] σ ⟨[(t,f a)],[],[]⟩:=ael f xs h (hd ▸ hx) hy hn
theorem QC{T:TypeId}{e:Nat}{bytes:Nat}{zd:DV}[hT:oa P T e 1 bytes zd]{x y:Operand}{id off:Nat}{k:IntKind}{m r:Int}(h:(0:Int)≤m∧m<r)(hx:ev σ.env x=some (.Ii id off r.toNat))(hy:ev σ.env y=some (.int k m)) :
  du P ops ⟨some t,.indexAddr T x y,ty,pos,af,none⟩ (tm x++tm y) [] σ ⟨[(t,.ref id (off+m.toNat*1))],[],[]⟩:=Jr (q:=r.toNat) (by omega) hx hy
theorem aa5{T n e:Nat}[hT:uz P T n e 1][hs:qX P e]{x y:Operand}{k:IntKind}{m:Int}{ds:List DV}{g:Nat→DV}(z:EB t g)(h:qv n m)(hx:ev σ.env x=some (.agg ds))(hy:ev σ.env y=some (.int k m))(hg:ds=(List.range n).map g) :
  du P ops ⟨some t,.index T x y,ty,pos,af,none⟩ (tm x++tm y) [] σ ⟨[(t,g m.toNat)],[],[]⟩:=aem g h hx hy hg
theorem aeH{T1 T2 T3:TypeId}{x y z:Operand}{k k' k'':IntKind}{a b c:Int}(hx:ev σ.env x=some (.int k a))(hy:ev σ.env y=some (.int k' b))(hz:ev σ.env z=some (.int k'' c)):du P ops ⟨some t,.call ⟨.builtin .max,#[x,y,z],#[T1,T2,T3]⟩,ty,pos,af,none⟩ (tm x++(tm y++tm z)) [] σ ⟨[(t,.int k (if c>(if b>a then b else a)then c else(if b>a then b else a)))],[],[]⟩ :=
 du.val rfl rfl fun C F γ σ' ac w uL _ hs=>by
  have k1:=hs.ev ((cQ uL (fun _ h=>by simp[h])).trans hx);have k2:=hs.ev ((cQ uL (fun _ h=>by simp[h])).trans hy);have k3:=hs.ev ((cQ uL (fun _ h=>by simp[h])).trans hz);simp only[Rs]at k1 k2 k3;exact⟨.int k (if c>(if b>a then b else a)then c else(if b>a then b else a)),by simp[execOp,resolve,invoke,builtin,Builtin.max_,k1,k2,k3,Builtin.max2],by simp only[Rs]⟩
theorem aeG{T T':TypeId}{x y:Operand}{k:IntKind}{a b:Int}(hx:ev σ.env x=some (.int k a))(hy:ev σ.env y=some (.int k b))(hr:b≠0) :
  du P ops ⟨some t,.binOp .quo T x y T',ty,pos,af,none⟩ (tm x++tm y) [] σ ⟨[(t,.int k (k.wrap (Int.tdiv a b)))],[],[]⟩ :=
 du.val rfl rfl fun C F γ σ' ac w h1 _ hs=>by
  obtain⟨k1,k2⟩:=AO hs h1 hx hy;simp only[Rs]at k1 k2;refine⟨.int k (k.wrap (Int.tdiv a b)),?_,by simp only[Rs]⟩;simp[execOp,k1,k2,eqGuard,binOp,Op.intDiv,hr]
theorem aeF{T T':TypeId}{x y:Operand}{k:IntKind}{a b:Int}(hx:ev σ.env x=some (.int k a))(hy:ev σ.env y=some (.int k b))(hr:b≠0) :
  du P ops ⟨some t,.binOp .rem T x y T',ty,pos,af,none⟩ (tm x++tm y) [] σ ⟨[(t,.int k (Int.tmod a b))],[],[]⟩ :=
 du.val rfl rfl fun C F γ σ' ac w h1 _ hs=>by
  obtain⟨k1,k2⟩:=AO hs h1 hx hy;simp only[Rs]at k1 k2;refine⟨.int k (Int.tmod a b),?_,by simp only[Rs]⟩;simp[execOp,k1,k2,eqGuard,binOp,Op.intDiv,hr]
end
/-! short words for data -/
@[reducible] def DV.L{α:Type}(sz:Nat)(f:α→DV)(xs:List α):DV:=.sl sz (xs.map f)
@[reducible] def DV.I(n:Int):DV:=.int .i64 n
@[reducible] def DV.N(n:Nat):DV:=.int .i64 (n:Int)
@[reducible] def DV.Z{α:Type}(xs:List α):DV:=.int .i64 (xs.length:Int)
@[reducible] def HE.R{α:Type}(e sz:Nat)(f:α→DV)(xs:List α):HE:=.row e sz (xs.map f)
@[reducible] def SE(e:List (Nat×DV)):AS:=⟨e,[],[]⟩
@[reducible] def SH(e:List (Nat×DV))(h:List (Nat×HE)):AS:=⟨e,h.map fun p=>(p.1,some p.2),h.map (·.1)⟩
@[reducible] def SU(e:List (Nat×DV))(h:List (Nat×HE))(u:List Nat):AS:=⟨e,h.map fun p=>(p.1,some p.2),h.map (·.1)++u⟩
/-! facts for operations -/
structure Fz(l:List Nat):Prop where
 h:True
theorem wz(l:List Nat):Fz l:=⟨trivial⟩
def rn(l:List (Nat×Nat))(i:Nat):Nat:=match look l i with
 |some j=>j
 |none=>i
structure CH(P:Program)(fn:FuncId)(t:Nat)(l:List (Nat×Nat))(n:Nat)(K:RC):Prop where
 h:iM P fn K
theorem ev0{α:Type}(e:Nat)(f:α→DV)(a:α):EV e f a:=⟨trivial⟩
structure MP{α β:Type}(f:α→β)(a:α):Prop where
 h:True
theorem mp0{α β:Type}(f:α→β)(a:α):MP f a:=⟨trivial⟩
def abI:List Nat→Nat→Bool
 |[],_=>false
 |x::xs,t=>match Nat.beq x t with
  |true=>true
  |false=>abI xs t
theorem Su{α:Type}{b:Bool}{d x:α}{a:Option α}(e:b=true)(h:gb b d a=some x):a=some x:=Fy h e
theorem ads{b:Bool}{p:Prop}(e:b=true)(h:b=true→p):p:=h e
theorem pn{f:Nat→Nat}{heap h:eY}(k:xG f heap h:=by first|((repeat first|exact .nil|refine .cons rfl ?_|fail);done) | fail):xG f heap h:=k
theorem po{p h:eY}(k:Dl p h:=by first|((repeat first|exact .nil|refine .cons rfl ?_|fail);done) | fail):Dl p h:=k
theorem dl {a b:List DV} (h:oJ a b:=by first
 |exact oJ.refl _
 |((repeat first
  |exact .nil
  |exact pP.refl _
  |exact pP.bq _
  |exact pP.fn _
  |refine .cons (pP.refl _) ?_
  |refine .cons (WI _ _) ?_
  |refine .cons (pP.anL _ _) ?_
  |refine .cons (pP.bq _) ?_
  |refine .cons (pP.agg ?_) ?_
  |refine .cons (pP.fn _) ?_
            | fail); done)
 |fail):oJ a b:=h
section
variable {P:Program} {ops:Array Oper} {σ:AS} {t:Nat} {ty:TypeId} {pos:String} {af:Array Edge} {rt rh:List Nat} {E:zT} {g:Option (Nat×Bool)} {ds:Option Nat}
theorem aeK{T T':TypeId}{x y:Operand}{a b:Int}(hx:ev σ.env x=some (.int .u64 a))(hy:ev σ.env y=some (.int .u64 b))(hr:xU .u64 (a+b)) :
  du P ops ⟨some t,.binOp .add T x y T',ty,pos,af,none⟩ (tm x++tm y) [] σ ⟨[(t,.int .u64 (a+b))],[],[]⟩:=adx hx hy hr
theorem abx{f:FuncId}[hf:dq P f]{xs:Array Operand}{ats:Array TypeId}{ds args:List DV}{r:DV}{b:Bool}(e:b=true)(hc:b=true→bx P f args r)(ha:Ie σ.env xs.toList=some ds)(hle:oJ ds args)(hp:xQ args = []) :
  du P ops ⟨some t,.call ⟨.value (.func f),xs,ats⟩,ty,pos,af,none⟩ (xs.toList.flatMap tm) [] σ ⟨[(t,r)],[],[]⟩:=Ly (hc e) ha hle hp
theorem ahC{o:Oper}{hp:eY}{nw:List Nat}{E sz:Nat}{eC:List DV}{l:List Nat}(f:Fz l)(hd:o.dst=some t)(hm:abI l t=true)(h:du P ops o rt rh σ ⟨[(t,.row t)],(t,some (.row E sz eC))::hp,nw⟩):du P ops o rt rh σ ⟨[(t,.sl sz eC)],(t,none)::hp,nw⟩:=adv h
theorem ahH{fn:FuncId}[hf:dq P fn]{xs:Array Operand}{ats:Array TypeId}{K:RC}{l:List (Nat×Nat)}{n:Nat}{ds:List DV}(hc:CH P fn t l n K)(ha:Ie σ.env xs.toList=some ds)(hle:oJ ds (yo (rn l) K.args))(vg:xG (rn l) σ.heap K.pre)(hi:za (rn l) (K.pre.map (·.1)++K.new)=true)(RI:Dl K.pre (K.post.drop n)) :
  du P ops ⟨some t,.call ⟨.value (.func fn),xs,ats⟩,ty,pos,af,none⟩ (xs.toList.flatMap tm) (K.pre.map (fun p=>rn l p.1)) σ ⟨[(t,K.res.ua (rn l))],sL (rn l) (K.post.take n),K.new.map (rn l)⟩:=abw (rn l) n hc.h ha hle vg hi RI
theorem ahG{fn:FuncId}[hf:dq P fn]{xs:Array Operand}{ats:Array TypeId}{K:RC}{l:List (Nat×Nat)}{n:Nat}{ds:List DV}{hp:eY}{nw:List Nat}{E sz:Nat}{eC:List DV}{l0:List Nat}(f:Fz l0)(hm:abI l0 t=true)(hc:CH P fn t l n K)(ha:Ie σ.env xs.toList=some ds)(hle:oJ ds (yo (rn l) K.args))(vg:xG (rn l) σ.heap K.pre)(hi:za (rn l) (K.pre.map (·.1)++K.new)=true)(RI:Dl K.pre (K.post.drop n))(hE:(⟨[(t,K.res.ua (rn l))],sL (rn l) (K.post.take n),K.new.map (rn l)⟩:zT)=⟨[(t,.row t)],(t,some (.row E sz eC))::hp,nw⟩) :
  du P ops ⟨some t,.call ⟨.value (.func fn),xs,ats⟩,ty,pos,af,none⟩ (xs.toList.flatMap tm) (K.pre.map (fun p=>rn l p.1)) σ ⟨[(t,.sl sz eC)],(t,none)::hp,nw⟩:=adv (hE ▸ ahH hc ha hle vg hi RI)
theorem anJ{fn:FuncId}[hf:dq P fn]{x:Operand}{Mu:List DV}{xs:Array Operand}{ats:Array TypeId}{K:RC}{l:List (Nat×Nat)}{n:Nat}(hc:CH P fn t l n K){ds:List DV}(hx:ev σ.env x=some (.Dh fn Mu))(ha:Ie σ.env xs.toList=some ds)(hle:oJ (ds++Mu) (yo (rn l) K.args))(vg:xG (rn l) σ.heap K.pre)(hi:za (rn l) (K.pre.map (·.1)++K.new)=true)(RI:Dl K.pre (K.post.drop n)) :
  du P ops ⟨some t,.call ⟨.value x,xs,ats⟩,ty,pos,af,none⟩ (tm x++xs.toList.flatMap tm) (K.pre.map (fun p=>rn l p.1)) σ ⟨[(t,K.res.ua (rn l))],sL (rn l) (K.post.take n),K.new.map (rn l)⟩:=abv (rn l) n hc.h hx ha hle vg hi RI
theorem ahF{fn:FuncId}[hf:dq P fn]{x:Operand}{xs:Array Operand}{ats:Array TypeId}{K:RC}{l:List (Nat×Nat)}{n:Nat}(hc:CH P fn t l n K){ds:List DV}(hx:ev σ.env x=some (.val (.func (.func fn) #[] #[])))(ha:Ie σ.env xs.toList=some ds)(hle:oJ (ds++[]) (yo (rn l) K.args))(vg:xG (rn l) σ.heap K.pre)(hi:za (rn l) (K.pre.map (·.1)++K.new)=true)(RI:Dl K.pre (K.post.drop n)) :
  du P ops ⟨some t,.call ⟨.value x,xs,ats⟩,ty,pos,af,none⟩ (tm x++xs.toList.flatMap tm) (K.pre.map (fun p=>rn l p.1)) σ ⟨[(t,K.res.ua (rn l))],sL (rn l) (K.post.take n),K.new.map (rn l)⟩:=Sx (rn l) n hc.h hx (pP.fn _) ha hle vg hi RI
theorem ahE{fn:FuncId}[hf:dq P fn]{x:Operand}{xs:Array Operand}{ats:Array TypeId}{K:RC}{l:List (Nat×Nat)}{n:Nat}{b:Bool}(hc:b=true→CH P fn t l n K)(hb:b=true){ds:List DV}(hx:ev σ.env x=some (.val (.func (.func fn) #[] #[])))(ha:Ie σ.env xs.toList=some ds)(hle:oJ (ds++[]) (yo (rn l) K.args))(vg:xG (rn l) σ.heap K.pre)(hi:za (rn l) (K.pre.map (·.1)++K.new)=true)(RI:Dl K.pre (K.post.drop n))(hE:(⟨[(t,K.res.ua (rn l))],sL (rn l) (K.post.take n),K.new.map (rn l)⟩:zT)=E) :
  du P ops ⟨some t,.call ⟨.value x,xs,ats⟩,ty,pos,af,none⟩ (tm x++xs.toList.flatMap tm) (K.pre.map (fun p=>rn l p.1)) σ E:=hE ▸ ahF (hc hb) hx ha hle vg hi RI
theorem anA{T e:TypeId}{sz bytes:Nat}{zd:DV}[hT:oa P T e sz bytes zd]{n:Nat}{ps:Array (Nat×Operand)}{zU:List (Nat×DV)}{α:Type}{f:List α→DV}{f1:α→DV}{ys:List α}(hs:EV t f ys)(hf1:∀l,f l = .sl sz (l.map f1))(hz:(zd.cs.all DV.one)=true)(hn:Nat.ble (n*sz) 16777216=true)(he:SW σ.env ps.toList=some zU)(hk:Nat.beq zU.length n=true)
  (hf:DY ((List.range n).map fun i=>(i*sz,sz)) (List.replicate n zd.cs).flatten zU=some ((zU.map (·.2)).flatMap DV.cs)) (Cj:(zU.map (·.2)).all (UY sz)=true) (hy:oJ (zU.map (·.2)) (ys.map f1)) :
  du P ops ⟨some t,.buildSlice T n ps,ty,pos,af,none⟩ (ps.toList.flatMap fun p=>tm p.2) [] σ ⟨[(t,.row t)],[(t,some (.row e sz (ys.map f1)))],[t]⟩:=Xc f1 ys hz hn he hk hf Cj hy
theorem anz{T e:TypeId}{sz bytes:Nat}{zd:DV}[hT:oa P T e sz bytes zd]{x y:Operand}{k k':IntKind}{l c:Int}{α:Type}{f:α→DV}{z:α}(hs:EV t f z)(h:iJ bytes l c)(hx:ev σ.env x=some (.int k l))(hy:ev σ.env y=some (.int k' c))(hz:(zd.cs.all DV.one)=true)(hf:oJ [zd] [f z]) :
  du P ops ⟨some t,.makeSlice T x y,ty,pos,af,none⟩ (tm x++tm y) [] σ ⟨[(t,.row t)],[(t,some (.row e sz ((List.replicate l.toNat z).map f)))],[t]⟩:=aa1 f z h hx hy hz (by cases hf;assumption)
theorem anv{T T2 e:TypeId}{sz bytes:Nat}{zd:DV}[hT:oa P T e sz bytes zd]{k2:IntKind}[hI:AD P T2 k2]{x y:Operand}{k:IntKind}{n:Int}{α:Type}{f:α→DV}{z:α}(hs:EV t f z)(h:0<n∧dL bytes n.toNat)(hx:ev σ.env x=some .bq)(hy:ev σ.env y=some (.int k n))(hz:(zd.cs.all DV.one)=true)(hf:oJ [zd] [f z]) :
  du P ops ⟨some t,.call ⟨.builtin .append,#[x,y],#[T,T2]⟩,ty,pos,af,none⟩ (tm x++tm y) [] σ ⟨[(t,.row t)],[(t,some (.row e sz ((List.replicate n.toNat z).map f)))],[t]⟩:=KV f z h hx hy hz (by cases hf;assumption)
theorem ag6{T':TypeId}{u:Nat}{y:Operand}{id sz o E m:Nat}{n:Int}{α:Type}{xs:List α}{f:α→DV}{a a':α}{dn:DV}[hT:dE P T' m](hx:ev σ.env (.tmp u)=some (.rp id n.toNat sz o))(hy:ev σ.env y=some dn)(hh:cB σ.heap id=some (.row E sz (xs.map f)))(hs:EV u f a')(h:idx xs n=some a)(hf:(f a).flat=true)(hfn:dn.flat=true)(hn:Nat.beq m dn.cs.length=true)
  (HP:dn.ids = []) (hl:Nat.ble (o+m) sz=true) (he:(f a').flat=true) (ZV:vH (f a).cs o dn.cs=(f a').cs) (yQ:Nat.blt 0 m=true) :
  du P ops ⟨none,.store T' (.tmp u) y,ty,pos,af,none⟩ (tm (.tmp u)++tm y) [id] σ ⟨[],[(id,some (.row E sz ((xs.set n.toNat a').map f)))],[]⟩:=TY a' h hx hy hh hf hfn hn HP hl he ZV yQ
class Tb{α:Type}(g:Nat)(sz:outParam Nat)(f:outParam (α→DV))(xs:outParam (List α)):Prop where
 h:adi g sz f xs
theorem Jp{T n e sz g:Nat}[hT:uz P T n e sz]{y:Operand}{k:IntKind}{m:Int}{α:Type}{f:α→DV}{xs:List α}{a:α}[ht:Tb g sz f xs](h:idx xs m=some a)(hy:ev σ.env y=some (.int k m))(hn:xs.length=n):du P ops ⟨some t,.indexAddr T (.global g) y,ty,pos,af,none⟩ (tm (.global g)++tm y) [] σ ⟨[(t,.jA (f a).cs)],[],[]⟩:=Uc ht.h h hy hn
theorem anx{T:TypeId}{K V:Type}{ck:K→List DV}{fv:V→DV}(hs:MP (pN ck fv) []):du P ops ⟨some t,.makeMap T none,ty,pos,af,none⟩ [] [] σ ⟨[(t,.row t)],[(t,some (.mp (pN ck fv ([]:List (K×V)))))],[t]⟩:=JD
theorem ahb{T:TypeId}{V:Type}{fv:V→DV}(hs:MP (Oq fv) []):du P ops ⟨some t,.makeMap T none,ty,pos,af,none⟩ [] [] σ ⟨[(t,.row t)],[(t,some (.mp (Oq fv ([]:List (ByteArray×V)))))],[t]⟩:=JD
theorem anw{T k e:TypeId}{gs:List Tg}{zd:DV}[hM:Pk P T k e gs zd]{x y u:Operand}{id:Nat}{K V:Type}{ck:K→List DV}{fv:V→DV}{xs:List (K×V)}{q:K}{v:V}(h1:EV 0 (fun k=>DV.agg (ck k)) q)(h2:EV 1 fv v)(VM:∀a,rF gs (ck a)=true)(hid:(fv v).ids = [])(afL:xQ (ck q) = [])
  (hx:ev σ.env x=some (.row id)) (hh:cB σ.heap id=some (.mp (pN ck fv xs))) (hy:ev σ.env y=some (.agg (ck q))) (hu:ev σ.env u=some (fv v)) :
  du P ops ⟨none,.mapUpdate T x y u,ty,pos,af,none⟩ (tm x++(tm y++tm u)) [id] σ ⟨[],[(id,some (.mp (pN ck fv (Hk ck xs q v))))],[]⟩:=NB VM hid afL hx hh hy hu
/-! kinds of operations -/
theorem kl{T:TypeId}{x:Operand}(h:du P ops ⟨ds,.load T x,ty,pos,af,g⟩ rt rh σ E):du P ops ⟨ds,.load T x,ty,pos,af,g⟩ rt rh σ E:=h
theorem kb{o:BinOp}{T T':TypeId}{x y:Operand}(h:du P ops ⟨ds,.binOp o T x y T',ty,pos,af,g⟩ rt rh σ E):du P ops ⟨ds,.binOp o T x y T',ty,pos,af,g⟩ rt rh σ E:=h
theorem kf{T i:TypeId}{x:Operand}(h:du P ops ⟨ds,.fieldAddr T x i,ty,pos,af,g⟩ rt rh σ E):du P ops ⟨ds,.fieldAddr T x i,ty,pos,af,g⟩ rt rh σ E:=h
theorem ks{T:TypeId}{x y:Operand}(h:du P ops ⟨ds,.store T x y,ty,pos,af,g⟩ rt rh σ E):du P ops ⟨ds,.store T x y,ty,pos,af,g⟩ rt rh σ E:=h
theorem kc{c:Callee}{xs:Array Operand}{ats:Array TypeId}(h:du P ops ⟨ds,.call ⟨c,xs,ats⟩,ty,pos,af,g⟩ rt rh σ E):du P ops ⟨ds,.call ⟨c,xs,ats⟩,ty,pos,af,g⟩ rt rh σ E:=h
theorem kbi{c:Builtin}{xs:Array Operand}{ats:Array TypeId}(h:du P ops ⟨ds,.call ⟨.builtin c,xs,ats⟩,ty,pos,af,g⟩ rt rh σ E):du P ops ⟨ds,.call ⟨.builtin c,xs,ats⟩,ty,pos,af,g⟩ rt rh σ E:=h
theorem ki{T:TypeId}{x y:Operand}(h:du P ops ⟨ds,.indexAddr T x y,ty,pos,af,g⟩ rt rh σ E):du P ops ⟨ds,.indexAddr T x y,ty,pos,af,g⟩ rt rh σ E:=h
theorem ksl{T:TypeId}{x:Operand}{a b c:Option Operand}(h:du P ops ⟨ds,.slice T x a b c,ty,pos,af,g⟩ rt rh σ E):du P ops ⟨ds,.slice T x a b c,ty,pos,af,g⟩ rt rh σ E:=h
theorem op0 {op:Op} (h:du P ops ⟨ds,op,ty,pos,af,none⟩ rt rh σ E:=by first
 |(apply Ao;rfl)
 |(apply ig;rfl)
 |(apply kf;first|(apply Oj;rfl)|(apply IB;rfl;rfl)|(apply IA;rfl) | fail)
 |(apply kl;first
  |(apply Hf;rfl;rfl;rfl)
  |(apply Ux;rfl;rfl)
  |(apply XH;rfl;rfl;rfl;rfl)
  |(apply Uy;rfl;rfl;rfl)
  |exact EE (by assumption) rfl rfl rfl rfl
  |exact EF (by assumption) rfl rfl rfl rfl rfl
  |exact EE (Su (by assumption) (by assumption)) rfl rfl rfl rfl
  |exact EE (Fy (by assumption) (by assumption)) rfl rfl rfl rfl
  |exact EF (Su (by assumption) (by assumption)) rfl rfl rfl rfl rfl
  |exact EF (Fy (by assumption) (by assumption)) rfl rfl rfl rfl rfl
  |exact Xb rfl rfl (by assumption) (by assumption) (fun _=>rfl) (by rfl) (by rfl) (by rfl)
  |exact Xb rfl rfl (by assumption) (ads (by assumption) (by assumption)) (fun _=>rfl) (by rfl) (by rfl) (by rfl)
  |exact ahd rfl rfl (by assumption) (by assumption) (fun _=>rfl) (by rfl) (by rfl)
  |exact ahe rfl rfl (by assumption) (by assumption) (by assumption) (by assumption) (fun _=>rfl) (fun _=>by rfl) (fun _=>rfl) (by rfl) (by rfl) (by rfl)
  |fail)
 |(apply kb;first
  |(apply adx;rfl;rfl;first|exact SI hj hx|exact SI (by assumption) (by assumption) | fail)
  |(apply aeK;rfl;rfl;exact abQ hj hx)
  |(apply adu;rfl;rfl;rfl)
  
  
  |(apply abo;rfl;rfl)
  |(apply abn;rfl;rfl)
  |exact ahw rfl rfl (by assumption)
  |exact ahv rfl rfl (by assumption)
  |exact aeG rfl rfl (by assumption)
  |exact aeF rfl rfl (by assumption)
  |(apply ahs;rfl;rfl;first|decide|assumption|fail)
  |(apply aht;rfl;rfl;first|decide|assumption|fail)
  |(apply XF;rfl)
  |(apply XD;rfl)
  |(apply XG;rfl)
  
  |(apply UE;rfl)
  |(apply UD;rfl)
  |(apply Uu;rfl;rfl)
  |exact ahD rfl rfl rfl rfl rfl
  |exact ahI (by assumption) rfl rfl
  |fail)
 |(apply UC;rfl;rfl)
 |(apply kc;first
  |(apply kbi;first
   |(apply ahc;rfl)
   |(apply aa3;rfl;rfl)
   |(apply abr;rfl)
   |(apply Uz;rfl)
   |exact ug _ (by assumption) rfl rfl rfl Src.sl
   |exact ug _ (by assumption) rfl rfl rfl (Src.row rfl)
   |exact KW (by assumption) rfl rfl rfl
   |exact GQ _ _ (by assumption) rfl rfl Src.sl
   |exact GQ _ _ (by assumption) rfl rfl (Src.row rfl)
   |(apply ahz;rfl;rfl)
   |(apply ahA;rfl;rfl)
   |(apply aeH;rfl;rfl;rfl)
   |(apply abu;rfl)
   |(apply anv;assumption;assumption;rfl;rfl;rfl;exact dl)
   
   |(apply aa4;rfl;rfl)
   |(apply Xa;rfl;rfl)
   |exact GP rfl rfl rfl Src.sl
   |exact GP rfl rfl rfl (Src.row rfl)
   |exact GP (ys:=[]) rfl rfl rfl Src.bq
   |exact Js rfl rfl rfl (by assumption) (by assumption) (by assumption) Src.sl (fun _=>rfl) (fun _=>rfl) (by rfl) (by rfl)
   |exact Js rfl rfl rfl (by assumption) (by assumption) (by assumption) (Src.row rfl) (fun _=>rfl) (fun _=>rfl) (by rfl) (by rfl)
   |exact NC rfl rfl rfl (by assumption) (by assumption) Src.sl (fun _=>rfl) (fun _=>rfl) (by decide) (by rfl) (by rfl)
   |exact NC rfl rfl rfl (by assumption) (by assumption) (Src.row rfl) (fun _=>rfl) (fun _=>rfl) (by decide) (by rfl) (by rfl)
   |(apply aa2;rfl)
   |exact adk (by assumption) rfl rfl (by assumption) rfl dl
   |exact aen (by assumption) (by assumption) rfl rfl rfl dl
   |exact ahq (by assumption) rfl rfl
   |exact aeE (by assumption) (by assumption) rfl rfl rfl
   |fail)
  |(apply abp;rfl)
  |(apply aeJ;rfl;rfl)
  |exact Ly (by assumption) rfl (oJ.refl _) rfl
  |exact ahH (by assumption) rfl dl pn rfl po
  |exact anJ (by assumption) rfl rfl dl pn rfl po
  |exact ahF (by assumption) rfl rfl dl pn rfl po
  |exact ahE (by assumption) (by assumption) rfl rfl dl pn rfl po (by rfl)
  |(refine Ly (args:=?xqa) (r:=?xqr) ?xqh rfl ?xql ?xqp;case xqh=>assumption;case xql=>exact dl;case xqp=>rfl)
  |exact Ly ((by assumption:_=true→bx _ _ _ _) (by assumption)) rfl (oJ.refl _) rfl
  |(apply abx;assumption;assumption;rfl;exact dl;rfl)
  |exact Lx (by assumption) rfl rfl (oJ.refl _) rfl
  |exact Lx ((by assumption:_=true→bx _ _ _ _) (by assumption)) rfl rfl (oJ.refl _) rfl
  |(refine Lx (args:=?xqa) (r:=?xqr) ?xqh rfl rfl ?xql ?xqp;case xqh=>assumption;case xql=>exact dl;case xqp=>rfl)
  |fail)
 |(apply ki;first
  |exact KU (by assumption) rfl rfl rfl
  |exact EG (by assumption) rfl rfl rfl
  |exact KU (Su (by assumption) (by assumption)) rfl rfl rfl
  |exact KU (Fy (by assumption) (by assumption)) rfl rfl rfl
  |exact EG (Su (by assumption) (by assumption)) rfl rfl rfl
  |exact EG (Fy (by assumption) (by assumption)) rfl rfl rfl
  |exact Jq (by assumption) rfl rfl
  |exact Jq (ads (by assumption) (by assumption)) rfl rfl
  |exact Jr (by assumption) rfl rfl
  |exact QC (by assumption) rfl rfl
  |exact Jo (by assumption) rfl rfl rfl
  |exact QB (by assumption) rfl rfl rfl
  |exact Ub rfl rfl (by rfl) (by decide)
  |exact Jp (by assumption) rfl (by rfl)
  |exact Jp (Fy (by assumption) (by assumption)) rfl (by rfl)
  |fail)
 |(apply ks;first
  |(apply Ur;rfl;rfl;rfl;rfl;rfl)
  |(apply Lu;rfl;rfl;rfl;rfl;rfl;rfl;rfl)
  |(apply ag6;rfl;rfl;rfl;assumption;assumption;rfl;rfl;rfl;rfl;rfl;rfl;rfl;rfl)
  |exact ag8 _ rfl rfl rfl (by assumption) (by assumption) (by assumption) (fun _=>rfl) (by rfl) (by rfl) (by rfl) (by rfl) (by rfl) (by rfl)
  |exact adj _ rfl rfl rfl (by assumption) (by assumption) (by assumption) (fun _=>rfl) (by rfl) (by rfl) (by rfl) (by rfl) (by rfl) (by rfl)
  |exact ag7 rfl rfl rfl (by assumption) (by assumption) (by assumption) (by assumption) (by assumption) (fun _=>rfl) (fun _=>by rfl) (fun _=>rfl) (by rfl) (by rfl) (by rfl) (by rfl) (by rfl)
  |fail)
 |(apply ahx;rfl)
 |(apply abA;rfl;rfl;rfl)
 |(apply abB;rfl)
 |(apply ahJ;rfl;rfl)
 |(apply anA;assumption;exact fun _=>rfl;rfl;rfl;rfl;rfl;rfl;rfl;exact dl)
 |(apply QU;rfl)
 |(apply Lw;rfl)
 |(apply Lv;rfl)
 |(apply ahK;rfl;rfl)
 |(apply anI;rfl;rfl)
 |(apply XJ;rfl)
 |(apply UF;rfl;rfl;rfl)
 |(apply UG;rfl;rfl;kernel_rfl)
 |(apply ksl;first
  |exact Jm (by assumption) rfl rfl
  |exact Jn (by assumption) rfl rfl
  |exact Ua (by assumption) rfl rfl rfl
  |exact TZ (by assumption) rfl rfl rfl
  |exact Qy (by assumption) rfl rfl rfl rfl
  |exact QA (by rfl) rfl
  |exact Qz (by assumption) (by assumption) rfl rfl
  |exact NA (by assumption) (by assumption) rfl rfl rfl
  |(apply QT;rfl;rfl)
  |exact CC (by assumption) rfl rfl rfl
  |exact Dy (by assumption) rfl rfl
  |exact Jm ((by assumption:_=true→eN _ _ _) (by assumption)) rfl rfl
  |exact Jn ((by assumption:_=true→eN _ _ _) (by assumption)) rfl rfl
  |exact CC ((by assumption:_=true→eN _ _ _) (by assumption)) rfl rfl rfl
  |exact Dy ((by assumption:_=true→eN _ _ _) (by assumption)) rfl rfl
  |fail)
 |(apply anz;assumption;assumption;rfl;rfl;rfl;exact dl)
 |(apply UB;rfl;rfl)
 
 |(apply QV;rfl)
 |(apply ahy;rfl)
 |(apply ahp;rfl)
 |exact aa5 (by assumption) (by assumption) rfl rfl (by rfl)
 |exact aek (by assumption) (by assumption) (by assumption) rfl (by rfl) rfl (by rfl)
 |exact Nz (by assumption) rfl rfl
 |exact Nz (Fy (by assumption) (by assumption)) rfl rfl
 |(apply anx;assumption)
 |(apply ahb;assumption)
 |(apply aha;assumption;rfl;rfl;rfl;rfl;rfl)
 |(apply anw;assumption;assumption;exact fun _=>rfl;rfl;rfl;rfl;rfl;rfl;rfl)
 |exact ahu (by assumption) rfl
 |exact adw _ rfl Src.sl
 |exact adw _ rfl (Src.row rfl)
 |fail):du P ops ⟨ds,op,ty,pos,af,none⟩ rt rh σ E:=h
theorem sp{e e':List (Nat×DV)}{L:List Nat}(h:sB e L e':=by first|((repeat first|exact .nil|(apply sB.strip;rfl;assumption)|(apply sB.half;rfl;assumption) | apply sB.uw|fail);done) | fail):sB e L e':=h
theorem go{gd:DV}{want on:Bool}(h:Ni gd want on:=by first|exact .bT|exact .bF|exact .iT|exact .iF|fail):Ni gd want on:=h
theorem gG{op:Op}{g gt:Nat}{want on:Bool}{gd d:DV}{BV:List (Nat×DV)}(Ga:(ops[g]?).bind (·.dst)=some gt)(hb:look σ.env gt=some gd)(hG:Ni gd want on)(hS:on=true→sB σ.env (vT op) BV)
  (h:on=true→du P ops ⟨some t,op,ty,pos,af,none⟩ rt rh ⟨BV,σ.heap,σ.used⟩ ⟨[(t,d)],[],[]⟩):du P ops ⟨some t,op,ty,pos,af,some (g,want)⟩ (gt::vT op++rt) rh σ ⟨[(t,.Ew on d)],[],[]⟩:=XI hG Ga hb hS h
theorem gO{op:Op}{g gt:Nat}{want on:Bool}{gd d:DV}{hp:eY}{nw:List Nat}{BV:List (Nat×DV)}(Ga:(ops[g]?).bind (·.dst)=some gt)(hb:look σ.env gt=some gd)(hG:Ni gd want on)(Qg:on=true)(hS:sB σ.env (vT op) BV)
  (h:du P ops ⟨some t,op,ty,pos,af,none⟩ rt rh ⟨BV,σ.heap,σ.used⟩ ⟨[(t,d)],hp,nw⟩):du P ops ⟨some t,op,ty,pos,af,some (g,want)⟩ (gt::vT op++rt) rh σ ⟨[(t,.Ew on d)],hp,nw⟩:=UA hG Ga hb Qg hS h
theorem gF{op:Op}{g gt:Nat}{want on:Bool}{gd:DV}(Ga:(ops[g]?).bind (·.dst)=some gt)(hb:look σ.env gt=some gd)(hG:Ni gd want on)(Qg:on=false) :
  du P ops ⟨some t,op,ty,pos,af,some (g,want)⟩ [gt] [] σ ⟨[(t,.Ew on .bq)],[],[]⟩:=Hi .bq hG Ga hb Qg
theorem gFb{op:Op}{g gt:Nat}{want on:Bool}{gd:DV}[adI P ty](Ga:(ops[g]?).bind (·.dst)=some gt)(hb:look σ.env gt=some gd)(hG:Ni gd want on)(Qg:on=false) :
  du P ops ⟨some t,op,ty,pos,af,some (g,want)⟩ [gt] [] σ ⟨[(t,.Ew on (.bool false))],[],[]⟩:=Hi (.bool false) hG Ga hb Qg
theorem op1 {o:Oper} (h:du P ops o rt rh σ E:=by first
 |(apply gFb;rfl;rfl;exact go;assumption)
 |(apply gF;rfl;rfl;exact go;assumption)
 |(apply ahC;assumption;rfl;rfl;exact op0)
 |exact ahG (by assumption) (by rfl) (by assumption) rfl dl pn rfl po (by rfl)
 |(apply gG;rfl;rfl;exact go;exact fun hb=>sp;exact fun hb=>op0)
 |exact op0
 |(apply gO;rfl;rfl;exact go;assumption;exact sp;first|(apply ahC;assumption;rfl;rfl;exact op0) | exact op0|fail)
 |fail):du P ops o rt rh σ E:=h
inductive AP{α:Type}:List α→List α→List α→Prop
 |nil {e:List α}:AP [] e e
 |one {x:α} {e:List α}:AP [x] e (x::e)
 |two {x y:α} {e:List α}:AP [x,y] e (x::y::e)
 |cons {x:α} {l e r:List α} (h:AP l e r):AP (x::l) e (x::r)
theorem AP.eq{α:Type}{l e r:List α}(h:AP l e r):l++e=r:=by
 induction h with
 |nil=>rfl
 |one=>rfl
 |two=>rfl
 |cons h ih=>rw[←ih];rfl
theorem ap{α:Type}{l e r:List α}(h:AP l e r:=by first|exact .nil|exact .one|exact .two|(repeat first|exact .one|apply AP.cons|fail) | fail):AP l e r:=h
theorem Trace.cg{o:Oper}{l:List Oper}{σ':AS}{kv:List (Keys×zT)}{e ev e':List (Nat×DV)}{h hp h':eY}{u nw u':List Nat}(k:du P ops o rt rh ⟨e,h,u⟩ ⟨ev,hp,nw⟩)(a1:AP ev e e')(a2:AP hp h h')(a3:AP nw u u')(t:Trace P ops l ⟨e',h',u'⟩ σ' kv):Trace P ops (o::l) ⟨e,h,u⟩ σ' ((⟨rt,rh,ev.map (·.1),hp.map (·.1)⟩,⟨ev,hp,nw⟩)::kv):=by
 refine Trace.cons k ?_;show Trace P ops l ⟨ev++e,hp++h,nw++u⟩ σ' kv;rw[a1.eq,a2.eq,a3.eq];exact t
theorem tr{l:List Oper}{σ':AS}{kv:List (Keys×zT)}(h:Trace P ops l σ σ' kv:=by first|((repeat first|exact .nil _|(apply Trace.cg;exact op1;exact ap;exact ap;exact ap) | fail);done) | fail):Trace P ops l σ σ' kv:=h
end
/-! code -/
section
variable {P:Program} {n:Nat} {Q:Exit→AS→Prop} {σ σ':AS} {id:Nat} {ops:Array Oper} {kv:List (Keys×zT)} {d:Code}
theorem rs(hq:ik P n d Q σ')(ht:Trace P ops ops.toList σ σ' kv:=by first|exact tr|fail)(hd:sH n ops=true:=by kernel_rfl)(px:mJ σ.used (kv.map (·.2.new))=true:=by kernel_rfl):ik P n (.seq (.region id ops false) d) Q σ:=iL (gw ht hd px hq)
theorem r2{id1 id2:Nat}{Eo Ep:Array Oper}{σ1 σ2:AS}{kv1 kv2:List (Keys×zT)}(hq:ik P n d Q σ2)(h1:Trace P Eo Eo.toList σ σ1 kv1:=by first|exact tr|fail)(d1:sH n Eo=true:=by kernel_rfl)(n1:mJ σ.used (kv1.map (·.2.new))=true:=by kernel_rfl)(h2:Trace P Ep Ep.toList σ1 σ2 kv2:=by first|exact tr|fail)(d2:sH n Ep=true:=by kernel_rfl)(n2:mJ σ1.used (kv2.map (·.2.new))=true:=by kernel_rfl):ik P n (.seq (.region id1 Eo false) (.seq (.region id2 Ep false) d)) Q σ:=rs (rs hq h2 d2 n2) h1 d1 n1
theorem r3{id1 id2 id3:Nat}{Eo Ep ME:Array Oper}{σ1 σ2 σ3:AS}{kv1 kv2 kv3:List (Keys×zT)}(hq:ik P n d Q σ3)(h1:Trace P Eo Eo.toList σ σ1 kv1:=by first|exact tr|fail)(d1:sH n Eo=true:=by kernel_rfl)(n1:mJ σ.used (kv1.map (·.2.new))=true:=by kernel_rfl)(h2:Trace P Ep Ep.toList σ1 σ2 kv2:=by first|exact tr|fail)(d2:sH n Ep=true:=by kernel_rfl)(n2:mJ σ1.used (kv2.map (·.2.new))=true:=by kernel_rfl)(h3:Trace P ME ME.toList σ2 σ3 kv3:=by first|exact tr|fail)(d3:sH n ME=true:=by kernel_rfl)(n3:mJ σ2.used (kv3.map (·.2.new))=true:=by kernel_rfl):ik P n (.seq (.region id1 Eo false) (.seq (.region id2 Ep false) (.seq (.region id3 ME false) d))) Q σ:=rs (rs (rs hq h3 d3 n3) h2 d2 n2) h1 d1 n1
theorem r4{id1 id2 id3 id4:Nat}{Eo Ep ME ac7:Array Oper}{σ1 σ2 σ3 σ4:AS}{kv1 kv2 kv3 kv4:List (Keys×zT)}(hq:ik P n d Q σ4)(h1:Trace P Eo Eo.toList σ σ1 kv1:=by first|exact tr|fail)(d1:sH n Eo=true:=by kernel_rfl)(n1:mJ σ.used (kv1.map (·.2.new))=true:=by kernel_rfl)(h2:Trace P Ep Ep.toList σ1 σ2 kv2:=by first|exact tr|fail)(d2:sH n Ep=true:=by kernel_rfl)(n2:mJ σ1.used (kv2.map (·.2.new))=true:=by kernel_rfl)(h3:Trace P ME ME.toList σ2 σ3 kv3:=by first|exact tr|fail)(d3:sH n ME=true:=by kernel_rfl)(n3:mJ σ2.used (kv3.map (·.2.new))=true:=by kernel_rfl)(h4:Trace P ac7 ac7.toList σ3 σ4 kv4:=by first|exact tr|fail)(d4:sH n ac7=true:=by kernel_rfl)(n4:mJ σ3.used (kv4.map (·.2.new))=true:=by kernel_rfl):ik P n (.seq (.region id1 Eo false) (.seq (.region id2 Ep false) (.seq (.region id3 ME false) (.seq (.region id4 ac7 false) d)))) Q σ:=rs (rs (rs (rs hq h4 d4 n4) h3 d3 n3) h2 d2 n2) h1 d1 n1
theorem ds(hq:ik P n d Q σ')(hm:P.follows .mixedOrders=true:=by first|exact mixed|fail)(ht:Trace P ops ops.toList σ σ' kv:=by first|exact tr|fail)(hk:zv ops (kv.map (·.1))=true:=by kernel_rfl)(hd:sH n ops=true:=by kernel_rfl)(px:mJ σ.used (kv.map (·.2.new))=true:=by kernel_rfl):ik P n (.seq (.region id ops true) d) Q σ:=iL (LZ hm ht hk hd px hq)
theorem bk{α:Type}{p:Prop}[Decidable p]{a:Option α}{r:α}{G:Prop}(h:Ih p a=some r)(k:p→a=some r→G):G:=k (tj h).1 (tj h).2
theorem cd{α:Type}{b:Bool}{x y:Option α}{r:α}{c:Operand}{d e:Code}(h:(if b=true then x else y)=some r)(h1:x=some r→ik P n d Q σ)(h2:y=some r→ik P n e Q σ)(hc:ev σ.env c=some (.bool b):=by rfl):ik P n (.cond c d e) Q σ :=
 uc b hc (fun q=>h1 ((adt h).1 q)) (fun q=>h2 ((adt h).2 q))
theorem fz{c:Code}{E sz:Nat}{eC:List DV}(id:Nat)(h:ik P n c Q ⟨Ym id sz eC σ.env,(id,none)::UT id sz eC σ.heap,σ.used⟩)(hh:cB σ.heap id=some (.row E sz eC):=by rfl):ik P n c Q σ:=tW (oE.freeze hh) h
theorem sq{x y:Code}(h:ik P n x (adK P n y Q) σ):ik P n (.seq x y) Q σ:=iL h
theorem sk(h:Q .normal σ):ik P n .skip Q σ:=AA h
theorem bl{c:Code}(h:ik P n c (BR id Q) σ):ik P n (.block id c) Q σ:=zg h
theorem ex(h:Q (.exit id) σ):ik P n (.exit id) Q σ:=Zk h
/-! weakenings -/
def IL(l:List (Nat×Nat))(σ σ':AS):Prop:=oE σ σ'
theorem eo{f:Nat→Nat}{a b:List (Nat×DV)}(h:AV f a b:=by first|((repeat first|exact .nil|refine .cons rfl (pP.refl _) ?_|refine .cons rfl (pP.succ _ _) ?_|refine .cons rfl (pP.bq _) ?_|refine .cons rfl (pP.agg dl) ?_|fail);done) | fail):AV f a b:=h
theorem hl{a b:HE}(h:HLe a b:=by first|exact .refl _|exact .bC dl|exact .PL|fail):HLe a b:=h
theorem ho{f:Nat→Nat}{a b:eY}(h:xE f a b:=by first|((repeat first|exact .nil|refine .cons rfl hl ?_|fail);done) | fail):xE f a b:=h
theorem ish{l:List (Nat×Nat)}(he:(σ'.env.map fun p=>look σ.env p.1)=(σ'.env.map fun p=>some (p.2.ua (rn l))))(hh:(σ'.heap.map fun p=>cB σ.heap (rn l p.1))=(σ'.heap.map fun p=>p.2.map (HE.ua (rn l))))(hs:(σ'.heap.all fun p=>p.2.isSome)=true)(hu:KP (rn l) σ.used σ'.used=true)(hi:za (rn l) (σ'.heap.map (·.1))=true)(hc:Oz σ'=true):IL l σ σ':=oE.sh (rn l) he hh hs hu hi hc
theorem iof{l:List (Nat×Nat)}(he:AV (rn l) σ.env σ'.env)(hh:xE (rn l) σ.heap σ'.heap)(hu:KP (rn l) σ.used σ'.used=true)(hi:za (rn l) (σ'.heap.map (·.1))=true)(hc:Oz σ'=true):IL l σ σ':=oE.of (rn l) he hh hu hi hc
theorem inr(t id E sz:Nat)(ht:look σ.env t=some .bq:=by rfl)(hi:EU id σ.used=false:=by rfl)(h:oE ⟨(t,.row id)::σ.env,(id,some (.row E sz []))::σ.heap,id::σ.used⟩ σ'):oE σ σ':=(yg E sz ht hi).trans h
/-! loops -/
variable {S E β:Type} {c:Code}
theorem nx{St:S→AS}{s':S}{t:xV S E}(hM:some (.next s')=some t)(hi:oE σ (St s')):∃s',t = .next s'∧oE σ (St s'):=⟨s',(Option.some.inj hM).symm,hi⟩
def QG(S':S→AS)(t:S)(Q:Exit→AS→Prop):Exit→AS→Prop
 |.normal,σ=>∃s',s'=t∧oE σ (S' s')
 |e,σ=>Q e σ
theorem no{S':S→AS}{s':S}{t:S}(hM:some s'=some t)(hi:oE σ (S' s')):∃s',s'=t∧oE σ (S' s'):=⟨s',Option.some.inj hM,hi⟩
theorem wh{step:S→Option (xV S E)}{s0:S}{k:E→Option β}{r:β}(St:S→AS)(hM:(Ey step s0).bind k=some r)(h0:oE σ (St s0))
  (round:∀e,k e=some r→∀s t,step s=some t→(∀e',t = .done e'→e'=e)→ik P n c (QW St t (BR id Q)) (St s)):ik P n (.block id (.loop c)) Q σ:=by
 obtain⟨e,h1,h2⟩:=xN hM;exact zg (acv St s0 h1 h0 (round e h2))
theorem fo{body:Nat→S→Option (xV S E)}{mx N:Int}{s0:S}{k:xV S E→Option β}{r:β}(St:Nat→S→AS)(hM:(SS mx N body s0).bind k=some r)(h0:oE σ (St 0 s0))
  (r1:∀t,k t=some r→∀(j:Nat) (s:S) (t':xV S E),(j:Int)<N→N≤mx→body j s=some t'→(∀e',t' = .done e'→t = .done e')→ik P n c (QF St j t' (BR id Q)) (St j s))
  (r2:∀(j:Nat) (s:S),k (.next s)=some r→N≤(j:Int)→N≤mx→ik P n c (Ry (BR id Q)) (St j s)):ik P n (.block id (.loop c)) Q σ:=by
 obtain⟨t,h1,h2⟩:=xN hM;exact zg (aie St s0 h1 h0 (r1 t h2) (fun j s a b e=>r2 j s (e ▸ h2) a b))
theorem fl{body:Nat→S→Option S}{mx N:Int}{s0:S}{k:S→Option β}{r:β}(St:Nat→S→AS)(hM:(EY mx N body s0).bind k=some r)(h0:oE σ (St 0 s0))
  (r1:∀(j:Nat) (s s':S),(j:Int)<N→N≤mx→body j s=some s'→ik P n c (QG (St (j+1)) s' (BR id Q)) (St j s))
  (r2:∀(j:Nat) (s:S),k s=some r→N≤(j:Int)→N≤mx→ik P n c (Ry (BR id Q)) (St j s)):ik P n (.block id (.loop c)) Q σ:=by
 obtain⟨t,h1,h2⟩:=xN hM
 exact zg (ae8 St s0 h1 h0 (fun j s s' a b e=>Dj (r1 j s s' a b e) (fun x σ' hq=>by
  cases x with
  |normal=>obtain⟨_,rfl,hi⟩:=hq;exact hi
  |_=>exact hq)) (fun j a b=>r2 j t h2 a b))
theorem c1{b:Prop}[Decidable b]{c:Operand}{d e:Code}(h:b)(k:ik P n d Q σ)(hc:ev σ.env c=some (.bool (decide b)):=by rfl):ik P n (.cond c d e) Q σ:=uc _ hc (fun _=>k) (fun q=>absurd h (of_decide_eq_false q))
theorem c0{b:Prop}[Decidable b]{c:Operand}{d e:Code}(h:¬b)(k:ik P n e Q σ)(hc:ev σ.env c=some (.bool (decide b)):=by rfl):ik P n (.cond c d e) Q σ:=uc _ hc (fun q=>absurd (of_decide_eq_true q) h) (fun _=>k)
end
/-! results -/
def Lz:List Nat→Bool
 |[]=>true
 |x::xs=>!abI xs x&&Lz xs
section
variable {P:Program} {n:Nat} {σ:AS}
theorem rc{r:ResultVar}{d:DV}(h:tD P σ r d:=by first|exact tD.tmp rfl|exact tD.cell rfl rfl (.sc qX.h rfl) | exact tD.cell rfl rfl (.row _ kE.h (Nat.le_of_ble_eq_true rfl) rfl) | fail):tD P σ r d:=h
theorem dle{a b:DV}(h:pP a b:=by first|exact pP.refl _|exact pP.bq _|exact pP.agg dl|exact pP.gW dl|fail):pP a b:=h
theorem pk{p h:eY}(k:mj p h:=by first|((repeat first|exact .nil|refine .cons rfl ?_|refine .gone ?_|fail);done) | fail):mj p h:=k
theorem rv{rs:Array ResultVar}{d:DV}(h:xD P σ rs d:=by first|exact .r1 rc|exact .r0|exact .r2 rc rc|exact .r3 rc rc rc|fail):xD P σ rs d:=h
theorem rtp{rs:Array ResultVar}{res d:DV}{post:eY}(h:xD P σ rs d:=by first|exact rv|fail)(hle:pP d res:=by first|exact dle|fail)(hp:mj σ.heap post:=by first|exact pk|fail):va P rs res post .ret σ:=qT h hle hp.spec
theorem rt{Q:Exit→AS→Prop}(h:Q .ret σ:=by first|exact rtp|fail):ik P n .ret Q σ:=uZ h
theorem ndp{rs:Array ResultVar}{res d:DV}{post:eY}(h:xD P σ rs d:=by first|exact rv|fail)(hle:pP d res:=by first|exact dle|fail)(hp:mj σ.heap post:=by first|exact pk|fail):va P rs res post .normal σ:=Tv h hle hp.spec
theorem nd{Q:Exit→AS→Prop}(h:Q .normal σ:=by first|exact ndp|fail):Mj Q σ:=XW h
def pf:eY→eY
 |[]=>[]
 |p::ps=>match p.2 with
  |some _=>p::pf ps
  |none=>pf ps
theorem EO:∀{h:eY} {i:Nat} {e:HE},Lz (h.map (·.1))=true→cB h i=some e→cB (pf h) i=some e
 |[],i,e,_,h=>h
 |(k,x)::l,i,e,hn,h=>by
  simp only[List.map_cons,Lz,Bool.and_eq_true,Bool.not_eq_true']at hn;rw[dj]at h;cases x with
  |some y=>
   simp only[pf,dj]
   by_cases e1:k=i
   ·rw[if_pos e1]at h ⊢;exact h
   ·rw[if_neg e1]at h ⊢;exact EO hn.2 h
  |none=>
   simp only[pf]
   by_cases e1:k=i
   ·rw[if_pos e1]at h;cases h
   ·rw[if_neg e1]at h;exact EO hn.2 h
def rvT:List ResultVar→List DV→List (Nat×DV)
 |.tmp t::rs,d::ds=>(t,d)::rvT rs ds
 |.cell _ _::rs,_::ds=>rvT rs ds
 |_,_=>[]
def VW(rs:List ResultVar)(d:DV):List (Nat×DV):=match rs with
 |[.tmp t]=>[(t,d)]
 |rs=>match d with
  |.gW ds=>rvT rs ds
  |_=>[]
theorem ra{rs:Array ResultVar}{res:DV}{post:eY}{Q:Exit→AS→Prop}(l:List (Nat×Nat))(hq:∀τ,va P rs res post .ret τ→Q .ret τ:=by exact fun _ h=>h)(h:IL l σ ⟨VW rs.toList res,pf post,post.map (·.1)⟩:=by first|exact ish rfl rfl rfl rfl rfl rfl|exact iof eo ho rfl rfl rfl|fail)(hr:xD P ⟨VW rs.toList res,pf post,post.map (·.1)⟩ rs res:=by first|exact rv|fail)(hk:Lz (post.map (·.1))=true:=by rfl):ik P n .ret Q σ :=
 tW h (uZ (hq _ (qT hr (pP.refl _) (fun i e k=>EO hk k))))
theorem na{rs:Array ResultVar}{res:DV}{post:eY}{Q:Exit→AS→Prop}(l:List (Nat×Nat))(hq:∀τ,va P rs res post .normal τ→Q .normal τ:=by exact fun _ h=>h)(h:IL l σ ⟨VW rs.toList res,pf post,post.map (·.1)⟩:=by first|exact ish rfl rfl rfl rfl rfl rfl|exact iof eo ho rfl rfl rfl|fail)(hr:xD P ⟨VW rs.toList res,pf post,post.map (·.1)⟩ rs res:=by first|exact rv|fail)(hk:Lz (post.map (·.1))=true:=by rfl):Mj Q σ :=
 adA h (XW (hq _ (Tv hr (pP.refl _) (fun i e k=>EO hk k))))
end
section
variable {P:Program} {ops:Array Oper} {σ:AS} {t:Nat} {ty:TypeId} {pos:String} {af:Array Edge}
theorem ag9{T:TypeId}[hT:Zq P T]{x:Operand}{BU:Nat}{l:List (DV×DV)}(hx:ev σ.env x=some (.row BU))(hh:cB σ.heap BU=some (.mp l)) :
  du P ops ⟨some t,.range T x,ty,pos,af,none⟩ (tm x) [BU] σ ⟨[(t,.ref t 0)],[(t,some (.it BU l.length []))],[t]⟩ :=
 du.gen rfl rfl fun C F γ σ' a w h1 h2 h3 hs=>by
  have hn:t ∉ σ'.used:=h3 t (by simp);have k1:=hs.ev ((cQ h1 (fun _ h=>h)).trans hx);obtain⟨b,es,ck,e1,hg,hb,hR,Nt⟩:=GY hs k1 ((h2 BU (by simp)).trans hh);obtain⟨k,e,hu⟩:=hT.h;have hl:ck=l.length:=by rw[Nt.1,←hR.len];simp
  refine⟨.pointer (some ⟨w.heap.size,0,none⟩),w.alloc (.mapIter (some b) ck #[] ck),F,γ.up t (.pointer (some ⟨w.heap.size,0,none⟩)),?_,sd.refl _,sS _ (hs.ws.fresh hn),?_,?_⟩
  ·simp[execOp,e1,run_range_map w T k e b es ck hu hb]
  ·refine hs.ws.Di hn _ (fun b hb=>by simp[eU]at hb;exact hb.symm) ?_
   exact⟨w.heap.size,b,rfl,hg,by rw[heap_alloc_new w,hl]⟩
  ·simp only[Rs];exact⟨w.heap.size,vi _ _ _,rfl⟩
theorem Sy{γ:fc}:rM fc.no γ:=fun _ _ h=>by cases h
theorem Rd{es:Array MapEntry}{ck:Nat}(h:yK es ck):(es.toList.map (·.born)).Nodup:=by
 have e:es.toList.map (·.born)=List.range es.size:=by
  apply List.ext_getElem?;intro i;rw[List.getElem?_map]
  by_cases hi:i<es.size
  ·rw[List.getElem?_range hi]
   have h1:es[i]? = some es[i]:=Array.getElem?_eq_getElem hi;have:=h.2 i _ h1;rw[←Array.getElem?_toList]at h1;rw[h1,Option.map_some,this]
  ·rw[List.getElem?_eq_none (by simpa using hi),List.getElem?_eq_none (by simpa using hi)];rfl
 rw[e];exact List.nodup_range
theorem ahf{x:Operand}{sN BU N j:Nat}{seen:List Nat}{l:List (DV×DV)}{kd vd:DV}(hx:ev σ.env x=some (.ref sN 0))(hh:cB σ.heap sN=some (.it BU N (seen++[j])))(hm:cB σ.heap BU=some (.mp l))(hN:l.length=N)(hl:l[j]? = some (kd,vd)) :
  du P ops ⟨some t,.entry x,ty,pos,af,none⟩ (tm x) [sN,BU] σ ⟨[(t,.gW [kd,vd])],[],[]⟩ :=
 du.val rfl rfl fun C F γ σ' a w h1 h2 hs=>by
  have k1:=hs.ev ((cQ h1 (fun _ h=>h)).trans hx);simp only[Rs]at k1;obtain⟨b,hg,e1⟩:=k1;obtain⟨g,vP,b',bm,rfl,hgm,hb⟩:=hs.ws.uB sN _ ((h2 sN (by simp)).trans hh);rw[hg]at vP;injection vP with vP;injection vP with vP;injection vP with vP;injection vP with vP;subst vP
  obtain⟨g3,Pv,bm',es,ck,rfl,hbm,hR,Nt⟩:=hs.ws.uB BU _ ((h2 BU (by simp)).trans hm);rw[hgm]at Pv;injection Pv with Pv;injection Pv with Pv;injection Pv with Pv;subst Pv
  have Dt:j<es.toList.length:=by rw[hR.len];exact(List.getElem?_eq_some_iff.1 hl).1
  have hej:es[j]? = some es.toList[j]:=by rw[←Array.getElem?_toList];exact List.getElem?_eq_getElem Dt
  obtain⟨r1,r2⟩:=hR.get j hl (List.getElem?_eq_getElem Dt);have aaa:=Nt.2 j _ hej;have aiZ:(seen++[j]).toArray=seen.toArray.push (es.toList[j]).born:=by rw[aaa];simp
  rw[aiZ]at hb;have afP:ck=N:=by rw[Nt.1,←hN,←hR.len];simp
  rw[←afP]at hb;refine⟨.tuple #[(es.toList[j]).key,(es.toList[j]).val],?_,?_⟩
  ·have mw:=run_entry_at (P:=P) w b bm ck seen.toArray es ck (es.toList[j]) (by simpa using hb) hbm (List.getElem_mem Dt) (Rd Nt)
   have e0:(⟨b,0,none⟩:Addr)=⟨b,0,none⟩:=rfl;simp[execOp,e1,mw]
  ·simp only[Rs,sM]
   exact⟨_,rfl,_,_,rfl,Rs.mono (sd.refl _) Sy _ _ r1,_,_,rfl,Rs.mono (sd.refl _) Sy _ _ r2,rfl⟩
theorem ae7{n:Nat}{Q:Exit→AS→Prop}{id t1 u sN BU N:Nat}{seen:List Nat}{l:List (DV×DV)}{Pt ty1:TypeId}{Cy afQ:String}{Qh af1:Array Edge}(hx:ev σ.env (.tmp u)=some (.ref sN 0))(hh:cB σ.heap sN=some (.it BU N seen))(hm:cB σ.heap BU=some (.mp l))(hN:l.length=N)(ht:t<n)(ht1:t1<n)
  (ai0:(∀j,j<N→j∈seen)→Q .normal ⟨(t1,.bool false)::(t,.gW [.bool false])::σ.env,σ.heap,σ.used⟩)
  (ai1:∀j kd vd,l[j]? = some (kd,vd)→j ∉ seen→Q .normal ⟨(t1,.bool true)::(t,.gW [.bool true,kd,vd])::σ.env,(sN,some (.it BU N (seen++[j])))::σ.heap,σ.used⟩) :
  ik P n (.region id #[⟨some t,.next (.tmp u) false,Pt,Cy,Qh,none⟩,⟨some t1,.extract (.tmp t) 0,ty1,afQ,af1,none⟩] false) Q σ:=by
 intro C F γ a w hn hs;have k1:=hs.ev hx;simp only[Rs]at k1;obtain⟨b,hg,e1⟩:=k1;obtain⟨g,vP,b',bm,rfl,hgm,hb⟩:=hs.ws.uB sN _ hh;rw[hg]at vP;injection vP with vP;injection vP with vP;injection vP with vP;injection vP with vP;subst vP
 obtain⟨g3,Pv,bm',es,ck,rfl,hbm,hR,Nt⟩:=hs.ws.uB BU _ hm;rw[hgm]at Pv;injection Pv with Pv;injection Pv with Pv;injection Pv with Pv;subst Pv
 have yQ:es.size=N:=by rw[←hN,←hR.len];simp
 have hold:∀x∈es.toList,x.born<N:=fun x hx=>by
  obtain⟨i,hi,rfl⟩:=List.getElem_of_mem hx;have:es[i]? = some es.toList[i]:=by rw[←Array.getElem?_toList];exact List.getElem?_eq_getElem hi
  rw[Nt.2 i _ this,←yQ];simpa using hi
 have afP:ck=N:=by rw[Nt.1,yQ]
 have yL:=run_next_at (P:=P) w Pt b bm N N seen.toArray es ck hb hbm hold (Nat.le_refl _);have pE:t<a.tmps.size:=by rw[hs.size,hn];exact ht
 refine wpIn_region ?_;simp only[show(#[(⟨some t,.next (.tmp u) false,Pt,Cy,Qh,none⟩:Oper),⟨some t1,.extract (.tmp t) 0,ty1,afQ,af1,none⟩]).size=2 from rfl,List.range_succ,List.range_zero,List.nil_append,List.cons_append,wpOpsIn_cons]
 have ext:∀(v:Value) (vs:Array Value) (w':World) (bb:Bool),v = .tuple vs→vs[0]? = some (.bool bb)→(execOp (a.put (some t) v).eval ⟨some t1,.extract (.tmp t) 0,ty1,afQ,af1,none⟩).run P w' = .ok (.value (.bool bb)) w':=by
  intro v vs w' bb hv h0;subst hv;have e0:(a.put (some t) (.tuple vs)).eval (.tmp t) = .tuple vs:=by simp[Act.eval,Act.put,Array.getD,pE]
  have e2:(Instr.extract (.tuple vs) 0).run P w' = .ok (.bool bb) w':=by simp[Instr.extract,h0]
  simp only[execOp,e0,e2,Sem.run_bind,Sem.run_pure,Result.andThen_ok]
 rcases yL with⟨h0,mw⟩|⟨e,he,w1,hw1,mw⟩
 ·have Jh:(execOp a.eval ⟨some t,.next (.tmp u) false,Pt,Cy,Qh,none⟩).run P w = .ok (.value (.tuple #[.bool false])) w:=by simp[execOp,e1,mw]
  refine jW Jh ?_;refine jW (ext _ _ w false rfl rfl) ?_;have Ms:=hs.put (t:=t) (by rw[hn];exact ht) (d:=.gW [.bool false]) (v:=.tuple #[.bool false]) (by simp only[Rs,sM];exact⟨_,rfl,_,_,rfl,rfl,rfl⟩);have FG:=Ms.put (t:=t1) (by rw[hn];exact ht1) (d:=.bool false) (v:=.bool false) (by simp only[Rs]);refine⟨F,γ,_,FG,ai0 (fun j hj=>?_)⟩;have Dt:j<es.size:=by omega
  by_cases hq:j∈seen
  ·exact hq
  ·exfalso
   have hm:es[j]∈leftOf es seen.toArray:=by
    unfold leftOf;rw[Array.mem_filter];refine⟨Array.getElem_mem Dt,?_⟩;have:=Nt.2 j es[j] (Array.getElem?_eq_getElem Dt);rw[this];simpa using hq
   have:=Array.size_pos_of_mem hm;omega
 ·have RK:e∈es.toList∧e.born ∉ seen:=by
   unfold leftOf at he;have:e∈Array.filter (fun e=>!seen.toArray.contains e.born) es:=by simpa using he
   rw[Array.mem_filter]at this;exact⟨by simpa using this.1,by simpa using this.2⟩
  obtain⟨j,Dt,rfl⟩:=List.getElem_of_mem RK.1;have hej:es[j]? = some es.toList[j]:=by rw[←Array.getElem?_toList];exact List.getElem?_eq_getElem Dt
  have aaa:=Nt.2 j _ hej;have ai2:j<l.length:=by rw[←hR.len];exact Dt
  obtain⟨r1,r2⟩:=hR.get j (List.getElem?_eq_getElem ai2) (List.getElem?_eq_getElem Dt);rw[aaa]at mw RK;rw[afP]at mw
  have apH:WS C F γ σ.heap σ.used w1:=by
   rcases hw1 with rfl|rfl
   ·exact hs.ws
   ·exact hs.ws.quiet (vf.drew w)
  have Ky:w1.heap[b]? = some (.mapIter (some bm) N seen.toArray N):=by rcases hw1 with rfl|rfl <;> exact hb
  have Jh:(execOp a.eval ⟨some t,.next (.tmp u) false,Pt,Cy,Qh,none⟩).run P w = .ok (.value (.tuple #[.bool true,(es.toList[j]).key,(es.toList[j]).val])) (ChangeMaps.setBlock w1 b (.mapIter (some bm) N (seen.toArray.push j) N)):=by simp[execOp,e1,mw]
  refine jW Jh ?_;refine jW (ext _ _ _ true rfl rfl) ?_
  have S:vf w1 (ChangeMaps.setBlock w1 b (.mapIter (some bm) N (seen.toArray.push j) N)) (eU (.pointer (some ⟨b,0,none⟩))):=by
   refine⟨rfl,rfl,rfl,by simp[ChangeMaps.setBlock],fun i hi pQ=>?_⟩;have:b≠i:=fun e=>pQ (by rw[e];rfl)
   simp[ChangeMaps.setBlock,Array.getElem?_setIfInBounds,this]
  have apI:b<w1.heap.size:=(Array.getElem?_eq_some_iff.1 Ky).1
  have W1:=(apH.FI hh hg S).put (e0:=.it BU N (seen++[j])) hg ⟨b,bm,rfl,hgm,by simp[ChangeMaps.setBlock,apI]⟩ (fun b' iO=>by
   have ho:=hs.ws.own sN _ _ b' hh hg iO;refine⟨ho.1,ho.2,fun i e' g' pQ hi Pp Pq=>?_⟩;rw[dj]at hi
   split at hi
   ·cases hi
   ·exact pQ (hs.ws.apart i sN e' _ g' _ b' hi hh Pp hg Pq iO))
  have W2:=W1.congr (h':=(sN,some (.it BU N (seen++[j])))::σ.heap) (u':=σ.used) (fun i e hi=>by
   rw[dj]at hi ⊢
   split at hi
   ·rename_i q;rw[if_pos q];exact hi
   ·rename_i q;rw[if_neg q,dj,if_neg q];exact hi) (fun _ h=>h)
  have hs0:Sat C F γ ⟨σ.env,(sN,some (.it BU N (seen++[j])))::σ.heap,σ.used⟩ a (ChangeMaps.setBlock w1 b (.mapIter (some bm) N (seen.toArray.push j) N)):=⟨hs.env,W2,hs.size,hs.defers⟩;have Ms:=hs0.put (t:=t) (by rw[hn];exact ht) (d:=.gW [.bool true,(l[j]).1,(l[j]).2]) (v:=.tuple #[.bool true,(es.toList[j]).key,(es.toList[j]).val]) (by simp only[Rs,sM];exact⟨_,rfl,_,_,rfl,rfl,_,_,rfl,Rs.mono (sd.refl _) Sy _ _ r1,_,_,rfl,Rs.mono (sd.refl _) Sy _ _ r2,rfl⟩);have FG:=Ms.put (t:=t1) (by rw[hn];exact ht1) (d:=.bool true) (v:=.bool true) (by simp only[Rs]);exact⟨F,γ,_,FG,ai1 j _ _ (List.getElem?_eq_getElem ai2) RK.2⟩
end
section
variable {P:Program} {ops:Array Oper} {C:Ctx} {σ σ':AS} {ks:List (Keys×zT)}
theorem Cb{α:Type}:∀(es:List (List (Nat×α))) (b:List (Nat×α)) (D:Nat→Bool) (i:Nat),(∀j,i≤j→D j=false)→ml b es D i=b
 |[],b,D,i,_=>rfl
 |e::es,b,D,i,h=>by
  unfold ml;rw[h i (Nat.le_refl _)];simp only[Bool.false_eq_true,if_false];exact Cb es b D (i+1) (fun j hj=>h j (by omega))
theorem JB{α:Type}(es2:List (List (Nat×α))):∀(es1:List (List (Nat×α))) (b:List (Nat×α)) (i n:Nat),n=i+es1.length→ml b (es1++es2) (fun j=>decide (j<n)) i=ml b es1 (fun _=>true) i
 |[],b,i,n,hn=>by
  rw[List.nil_append];exact Cb es2 b _ i (fun j hj=>by simp at hn;simp;omega)
 |e::es1,b,i,n,hn=>by
  rw[List.cons_append];unfold ml;have:decide (i<n)=true:=by simp at hn ⊢;omega
  simp only[this,if_true];exact JB es2 es1 _ (i+1) n (by simp at hn;omega)
theorem Trace.app{l1 l2:List Oper}{σ σi σ':AS}{Qi Pw:List (Keys×zT)}(h1:Trace P ops l1 σ σi Qi)(h2:Trace P ops l2 σi σ' Pw):Trace P ops (l1++l2) σ σ' (Qi++Pw):=by
 induction h1 with
 |nil σ=>exact h2
 |cons h t ih=>exact Trace.cons h (ih h2)
def Sr(rh:List Nat)(j0:Nat)(ks:List Keys):Bool:=ks.zipIdx.all fun(k,j)=>Nat.beq j j0||rh.all fun id=>!k.wh.any (Nat.beq id)
theorem QR{rh:List Nat}{j0:Nat}{ks:List (Keys×zT)}(h:Sr rh j0 (ks.map (·.1))=true):∀id∈rh,∀(j:Nat) k,ks[j]? = some k→id∈k.1.wh→j=j0:=by
 intro id hid j k hk hw;unfold Sr at h;rw[List.all_eq_true]at h;have:=h (k.1,j) (by rw[List.mem_zipIdx_iff_getElem?];simp[List.getElem?_map,hk]);simp only[Bool.or_eq_true,List.all_eq_true]at this;rcases this with q|q
 ·exact Nat.eq_of_beq_eq_true q
 ·have:=q id hid
  simp only[Bool.not_eq_true',List.any_eq_false]at this;exact absurd (Nat.beq_refl id) (this id hw)
theorem acw{n id i0 m:Nat}{Q:Exit→AS→Prop}{σi:AS}{Qi Pw:List (Keys×zT)}{o0:Oper}{Px Kz:List Nat}{E0:zT}{Xj:Keys×zT}(hm:P.follows .mixedOrders=true)(ho:ops.toList[i0]? = some o0)(ht1:Trace P ops (ops.toList.take i0) σ σi Qi)(h0:du P ops o0 Px Kz σi E0)
  (ht2:Trace P ops (ops.toList.drop (i0+1)) (σi.app E0) σ' Pw) (hj:Pw[m]? = some Xj) (ha:du P ops o0 Px Kz ⟨σi.env,Xj.2.heap++σi.heap,σi.used⟩ E0)
  (hk:(zv ops (((Qi++(⟨Px,Kz,E0.env.map (·.1),E0.heap.map (·.1)⟩,E0)::Pw).map (·.1)).set i0 ⟨Px,[],E0.env.map (·.1),E0.heap.map (·.1)⟩)&&Sr Kz (i0+1+m) ((Qi++(⟨Px,Kz,E0.env.map (·.1),E0.heap.map (·.1)⟩,E0)::Pw).map (·.1))&&Kz.all fun id=>Xj.1.wh.any (Nat.beq id))=true)
  (hd:sH n ops=true) (px:mJ σ.used ((Qi++(⟨Px,Kz,E0.env.map (·.1),E0.heap.map (·.1)⟩,E0)::Pw).map (·.2.new))=true) (hq:Q .normal σ'):ik P n (.region id ops true) Q σ:=fun C F γ a w hn hs=>by
 simp only[Bool.and_eq_true]at hk;obtain⟨⟨hk1,ZT⟩,hk3⟩:=hk;have pE:i0<ops.toList.length:=(List.getElem?_eq_some_iff.1 ho).1;have hl1:Qi.length=i0:=by rw[ht1.at.1,List.length_take];omega
 have hsp:ops.toList.take i0++o0::ops.toList.drop (i0+1)=ops.toList:=by
  have e1:ops.toList.drop i0=o0::ops.toList.drop (i0+1):=by
   rw[List.drop_eq_getElem_cons pE];rw[List.getElem?_eq_getElem pE]at ho;rw[Option.some.inj ho]
  rw[←e1,List.take_append_drop]
 have ht:Trace P ops ops.toList σ σ' (Qi++(⟨Px,Kz,E0.env.map (·.1),E0.heap.map (·.1)⟩,E0)::Pw):=by
  have:=ht1.app (Trace.cons h0 ht2)
  rwa [hsp]at this
 have hki:(Qi++(⟨Px,Kz,E0.env.map (·.1),E0.heap.map (·.1)⟩,E0)::Pw)[i0]? = some (⟨Px,Kz,E0.env.map (·.1),E0.heap.map (·.1)⟩,E0):=by
  rw[List.getElem?_append_right (by omega),hl1,Nat.sub_self];rfl
 have hkj:(Qi++(⟨Px,Kz,E0.env.map (·.1),E0.heap.map (·.1)⟩,E0)::Pw)[i0+1+m]? = some (Xj.1,Xj.2):=by
  rw[List.getElem?_append_right (by omega),hl1,show i0+1+m-i0=m+1 by omega,List.getElem?_cons_succ,hj]
 have hwj:∀id∈Kz,id∈Xj.1.wh:=by
  intro id hid;have:=List.all_eq_true.1 hk3 id hid;exact any_beq this
 refine wpIn_region_any hm (JY ht (fun X h=>by rw[hki]at h;injection h with h;exact⟨h.symm,hkj,by omega⟩) hk1 (QR ZT) hwj (fun o σ1 TK g1 g2=>?_) px (fun o ho d hd'=>?_) (fun F' γ' a' w' h=>⟨F',γ',σ',h,hq⟩) ops.size _ F γ a _ (by simp) ?_ ?_ ?_)
 ·have:o=o0:=by
   rw[←Array.getElem?_toList]at TK;rw[ho]at TK;exact(Option.some.inj TK).symm
  subst this;refine du.same ha (fun t Mr=>?_) (fun id hid=>?_)
  ·rw[g1 t Mr,List.map_append,JB _ _ _ 0 i0 (by rw[List.length_map,hl1,Nat.zero_add])]
   exact(ht1.at.2.2.1 t).symm
  ·rw[g2 id hid,gz]
   obtain⟨K',E',_,q1,q2,q3,_⟩:=ht.at.2.1 (i0+1+m) _ (List.getElem?_eq_getElem (by rw[←ht.at.1];exact(List.getElem?_eq_some_iff.1 hkj).1));rw[hkj]at q1;injection q1 with q1;injection q1 with q1 q1'
   have apK:id∈Xj.2.heap.map (·.1):=by rw[q1',←q3,←q1];exact hwj id hid
   obtain⟨x,hx⟩:=uQ apK;rw[hx];rfl
 ·simp only[sH,List.all_eq_true]at hd
  have:=hd o ho;rw[hd']at this;rw[hn];exact Nat.blt_eq ▸ this
 ·intro i o hi
  exfalso
  by_cases h:i<ops.size <;> simp[Array.getD,h]at hi
 ·have:=List.countP_le_length (p:=fun i=>!(Array.replicate ops.size false).getD i false) (l:=List.range ops.size)
  simpa using this
 ·have hF:∀i,(Array.replicate ops.size false).getD i false=false:=fun i=>by
   by_cases h:i<ops.size <;> simp[Array.getD,h]
  have mm:Sat C F γ σ a { w with drawn:=w.drawn+1 }:=⟨hs.env,hs.ws.quiet (vf.drew w),hs.size,hs.defers⟩;refine mm.congr (fun t d h=>?_) (fun id e h=>?_) (fun x hx=>zL.2 (.inl hx))
  ·simp only[over]at h;rw[Cb _ _ _ _ (fun j _=>hF j)]at h;exact h
  ·simp only[over]at h;rw[Cb _ _ _ _ (fun j _=>hF j)]at h;exact h
end
/-! what models bear -/
inductive Wk where
 |r (t id E sz:Nat)
 |c (id sN j E sz:Nat)
 |z (id:Nat)
 |b (id:Nat)
 |p (id j i o:Nat)
abbrev Rn:=List (Nat×Nat)
abbrev Ev:=List (Nat×DV)
@[reducible] def i2{α β:Type}(_:α)(t:β):β:=t
abbrev m64:Int:=9223372036854775807
@[irreducible] def Bi{α β:Type}(a:Option α)(f:α→Option β):Option β:=a.bind f
@[irreducible] def If{α:Type}(b:Bool)(x y:Option α):Option α:=if b=true then x else y
@[irreducible] def Ck{α:Type}(p:Prop)[Decidable p](k:Option α):Option α:=Ih p k
@[irreducible] def o1{α:Type}(a:Option α):Option α:=a
@[irreducible] def sm{α β γ:Type}(v:α⊕β)(f:α→Option γ)(g:β→Option γ):Option γ:=match v with
 |.inl a=>f a
 |.inr b=>g b
@[irreducible] def mv{α β γ:Type}(f:α→β)(a:α)(k:Option γ):Option γ:=k
@[irreducible] def eT{α β:Type}(t:Nat)(f:α→DV)(y:α)(k:α→Option β):Option β:=k y
@[irreducible] def ea{α β:Type}(t:Nat)(f:α→List DV)(F:Nat→α)(k:Option β):Option β:=k
@[irreducible] def eb{α β:Type}(t:Nat)(v:α)(k:Option β):Option β:=k
@[irreducible] def npU(id j:Nat)(a b:Option Unit):Option Unit:=a.bind fun _=>b
@[irreducible] def cl{α:Type}(t:Nat)(l:Rn)(a:Option α):Option α:=a
@[irreducible] def wk{α:Type}(w:List Wk)(a:Option α):Option α:=a
@[irreducible] def nX{α:Type}(w:List Wk)(l:Rn)(a:Option α):Option α:=a
@[irreducible] def rX{α:Type}(l:Rn)(a:Option α):Option α:=a
@[irreducible] def rC{α:Type}(ke kh:List Nat)(l:Rn)(a:Option α):Option α:=a
@[irreducible] def fL{S R:Type}(s:S)(ct:Nat)(u ke kh:List Nat)(ne:S→Ev→Ev)(nh:S→eY→eY)(w:List Wk)(l:Rn)(mx n:Int)(body:Nat→S→Option S)(k:S→Option R):Option R:=(EY mx n body s).bind k
@[irreducible] def fLu{S R:Type}(s:S)(ct:Nat)(u ke kh:List Nat)(ne:S→Ev→Ev)(nh:S→eY→eY)(w:List Wk)(l:Rn)(mx n:Int)(body:Nat→S→Option S)(k:S→Option R):Option R:=(EY mx n body s).bind k
@[irreducible] def fO{S E R:Type}(s:S)(ct:Nat)(u ke kh:List Nat)(ne:S→Ev→Ev)(nh:S→eY→eY)(w:List Wk)(l:Rn)(mx n:Int)(body:Nat→S→Option (xV S E))(k:xV S E→Option R):Option R:=(SS mx n body s).bind k
@[irreducible] def wL{S E R:Type}(s:S)(u ke kh:List Nat)(ne:S→Ev→Ev)(nh:S→eY→eY)(w:List Wk)(l:Rn)(step:S→Option (xV S E))(k:E→Option R):Option R:=(Ey step s).bind k
@[irreducible] def jn{S R:Type}(K:S→Option R)(sN:Nat)(u ke kh:List Nat)(ne:S→Ev→Ev)(nh:S→eY→eY)(e:Option R):Option R:=e
theorem Ks{α β:Type}(a:Option α)(f:α→Option β):Bi a f=a.bind f:=by unfold Bi;rfl
theorem TB{α:Type}(b:Bool)(x y:Option α):If b x y=if b=true then x else y:=by unfold If;rfl
theorem TC{α:Type}(p:Prop)[Decidable p](k:Option α):Ck p k=Ih p k:=by unfold Ck;rfl
theorem aia{α:Type}(t:Nat)(l:Rn)(a:Option α):cl t l a=a:=by unfold cl;rfl
theorem adg{α:Type}(w:List Wk)(a:Option α):wk w a=a:=by unfold wk;rfl
theorem Sz{α:Type}(w:List Wk)(l:Rn)(a:Option α):nX w l a=a:=by unfold nX;rfl
theorem ado{α:Type}(l:Rn)(a:Option α):rX l a=a:=by unfold rX;rfl
/-! contracts of models -/
class MC{α:Type}(a:Option α)(c:outParam (α→Prop)):Prop where
 h:∀{x},a=some x→c x
class MA{α:Type}(a:Option α)(P:outParam Program)(fn:outParam FuncId)(n:outParam (α→Nat))(K:outParam (α→RC)):Prop where
 h:∀{x},a=some x→iM P fn (K x)
instance {α:Type}{a:Option α}{b:Bool}{z:α}{c:α→Prop}[m:MC a c]:MC (gb b z a) (fun x=>b=true→c x):=⟨fun h e=>m.h (Fy h e)⟩
instance {α:Type}{a:Option α}{t:Nat}{l:Rn}{P:Program}{fn:FuncId}{n:α→Nat}{K:α→RC}[m:MA a P fn n K]:MC (cl t l a) (fun x=>CH P fn t l (n x) (K x)):=⟨fun h=>⟨m.h (aia t l a ▸ h)⟩⟩
instance {α:Type}{xs:List α}{i:Int}:MC (idx xs i) (fun _=>True):=⟨fun _=>trivial⟩
section
variable {α β:Type} {r:β} {G:Prop}
theorem nn(h:(none:Option β)=some r):G:=by cases h
theorem bI{a:Option α}{f:α→Option β}{c:α→Prop}[m:MC a c](h:Bi a f=some r)(k:∀x,c x→a=some x→f x=some r→G):G:=by
 rw[Ks]at h;obtain⟨x,h1,h2⟩:=xN h;exact k x (m.h h1) h1 h2
theorem ae'{γ:Type}{t:Nat}{f:γ→List DV}{F:Nat→γ}{k:Option β}(h:ea t f F k=some r)(g:EA t f F→k=some r→G):G:=g ⟨trivial⟩ (by unfold ea at h;exact h)
theorem aoB{γ:Type}{t:Nat}{v:γ}{k:Option β}(h:eb t v k=some r)(g:EB t v→k=some r→G):G:=g ⟨trivial⟩ (by unfold eb at h;exact h)
theorem be{t:Nat}{f:α→DV}{y:α}{k:α→Option β}(h:eT t f y k=some r)(g:EV t f y→k y=some r→G):G:=g (ev0 t f y) (by unfold eT at h;exact h)
end
section
variable {α β γ:Type} {r:γ} {G:Prop}
theorem so{v:α⊕β}{f:α→Option γ}{g:β→Option γ}(h:sm v f g=some r)(k1:∀a,v = .inl a→f a=some r→G)(k2:∀b,v = .inr b→g b=some r→G):G:=by
 unfold sm at h;cases v with
 |inl a=>exact k1 a rfl h
 |inr b=>exact k2 b rfl h
theorem me{f:α→β}{a:α}{k:Option γ}(h:mv f a k=some r)(g:MP f a→k=some r→G):G:=g (mp0 f a) (by unfold mv at h;exact h)
theorem bk'{p:Prop}[Decidable p]{a:Option γ}(h:Ck p a=some r)(k:p→a=some r→G):G:=by rw[TC]at h;exact bk h k
theorem cg{b:Bool}{x y:Option γ}(h:If b x y=some r)(k1:b=true→x=some r→G)(k2:b=false→y=some r→G):G:=by
 rw[TB]at h;cases b with
 |true=>exact k1 rfl h
 |false=>exact k2 rfl h
end
class DC{α:Type}(dec:DV→Option α)(dv:outParam (α→DV)):Prop where
 h:∀{d x},dec d=some x→d=dv x
theorem bD{α β:Type}{r:β}{G:Prop}{dec:DV→Option α}{dv:α→DV}[m:DC dec dv]{d:DV}{f:α→Option β}(h:Bi (dec d) f=some r)(k:∀x,d=dv x→f x=some r→G):G:=by
 rw[Ks]at h;obtain⟨x,h1,h2⟩:=xN h;exact k x (m.h h1) h2
instance {s:ByteArray}{i:Int}:MC (Ah s i) (fun _=>True):=⟨fun _=>trivial⟩
instance {α:Type}{x:α}:MC (some x) (fun _=>True):=⟨fun _=>trivial⟩
/-! states -/
inductive PK(e:Ev):List Nat→Ev→Prop
 |nil:PK e [] []
 |cons {t:Nat} {d:DV} {l:List Nat} {r:Ev} (h:look e t=some d) (k:PK e l r):PK e (t::l) ((t,d)::r)
inductive PH(e:eY):List Nat→eY→Prop
 |nil:PH e [] []
 |cons {t:Nat} {d:HE} {l:List Nat} {r:eY} (h:cB e t=some d) (k:PH e l r):PH e (t::l) ((t,some d)::r)
theorem pke{e:Ev}{l:List Nat}{r:Ev}(h:PK e l r:=by first|((repeat first|exact .nil|(apply PK.cons;rfl) | fail);done) | fail):PK e l r:=h
theorem phe{e:eY}{l:List Nat}{r:eY}(h:PH e l r:=by first|((repeat first|exact .nil|(apply PH.cons;rfl) | fail);done) | fail):PH e l r:=h
@[reducible] def FL(e:Ev)(h:eY)(u:List Nat):AS:=⟨e,h,h.map (·.1)++u⟩
def IM:List Wk→Rn→AS→AS→Prop
 |[],l,σ,σ'=>IL l σ σ'
 |.r t id E sz::w,l,σ,σ'=>look σ.env t=some .bq∧EU id σ.used=false∧IM w l ⟨(t,.row id)::σ.env,(id,some (.row E sz []))::σ.heap,id::σ.used⟩ σ'
 |.c id sN j E sz::w,l,σ,σ'=>∃T ds,cB σ.heap id=some (.bC T ds)∧ds[j]? = some .bq∧EU sN σ.used=false∧Nat.beq sN id=false∧IM w l ⟨σ.env,(id,some (.bC T (ds.set j (.row sN))))::(sN,some (.row E sz []))::σ.heap,sN::σ.used⟩ σ'
 |.z id::w,l,σ,σ'=>∃E sz eC,cB σ.heap id=some (.row E sz eC)∧IM w l ⟨Ym id sz eC σ.env,(id,none)::UT id sz eC σ.heap,σ.used⟩ σ'
 |.b id::w,l,σ,σ'=>∃T ds,cB σ.heap id=some (.bC T ds)∧xQ ds = []∧IM w l ⟨sbE (FJ id ds) σ.env,(id,none)::sbH (FJ id ds) σ.heap,σ.used⟩ σ'
 |.p id j i o::w,l,σ,σ'=>∃T ds,cB σ.heap id=some (.bC T ds)∧ds[j]? = some (.val (.pointer none))∧IM w l ⟨σ.env,(id,some (.bC T (ds.set j (.np i o))))::σ.heap,σ.used⟩ σ'
theorem IM.imp:∀{w:List Wk} {l:Rn} {σ σ':AS},IM w l σ σ'→oE σ σ'
 |[],l,σ,σ',h=>h
 |.r t id E sz::w,l,σ,σ',⟨h1,h2,h3⟩=>(yg E sz h1 h2).trans (IM.imp h3)
 |.c id sN j E sz::w,l,σ,σ',⟨T,ds,h1,h2,h3,h4,h5⟩=>(WH E sz h1 h2 h3 h4).trans (IM.imp h5)
 |.z id::w,l,σ,σ',⟨E,sz,eC,h1,h2⟩=>(oE.freeze h1).trans (IM.imp h2)
 |.b id::w,l,σ,σ',⟨T,ds,h1,h2,h3⟩=>(WC h1 h2).trans (IM.imp h3)
 |.p id j i o::w,l,σ,σ',⟨T,ds,h1,h2,h3⟩=>(WJ h1 h2).trans (IM.imp h3)
theorem imt {w:List Wk} {l:Rn} {σ σ':AS} (h:IM w l σ σ':=by
 first|((repeat first
  |exact ish rfl rfl rfl rfl rfl rfl
  |exact iof eo ho rfl rfl rfl
  |refine⟨rfl,rfl,?_⟩
  |refine⟨_,_,_,rfl,?_⟩
  |refine⟨_,_,rfl,rfl,?_⟩
  |refine⟨_,_,rfl,rfl,rfl,rfl,?_⟩
            | fail); done) | fail) : IM w l σ σ' := h
inductive WM:List Wk→AS→AS→Prop
 |nil {σ:AS}:WM [] σ σ
 |r {t id E sz:Nat} {w:List Wk} {σ σ':AS} (h1:look σ.env t=some .bq) (h2:EU id σ.used=false) (k:WM w ⟨(t,.row id)::σ.env,(id,some (.row E sz []))::σ.heap,id::σ.used⟩ σ'):WM (.r t id E sz::w) σ σ'
 |c {id sN j E sz:Nat} {w:List Wk} {σ σ':AS} {T:TypeId} {ds:List DV} (h1:cB σ.heap id=some (.bC T ds)) (h2:ds[j]? = some .bq) (h3:EU sN σ.used=false) (h4:Nat.beq sN id=false) (k:WM w ⟨σ.env,(id,some (.bC T (ds.set j (.row sN))))::(sN,some (.row E sz []))::σ.heap,sN::σ.used⟩ σ'):WM (.c id sN j E sz::w) σ σ'
 |z {id:Nat} {w:List Wk} {σ σ':AS} {E sz:Nat} {eC:List DV} (h:cB σ.heap id=some (.row E sz eC)) (k:WM w ⟨Ym id sz eC σ.env,(id,none)::UT id sz eC σ.heap,σ.used⟩ σ'):WM (.z id::w) σ σ'
 |b {id:Nat} {w:List Wk} {σ σ':AS} {T:TypeId} {ds:List DV} (h:cB σ.heap id=some (.bC T ds)) (h2:xQ ds = []) (k:WM w ⟨sbE (FJ id ds) σ.env,(id,none)::sbH (FJ id ds) σ.heap,σ.used⟩ σ'):WM (.b id::w) σ σ'
 |p {id j i o:Nat} {w:List Wk} {σ σ':AS} {T:TypeId} {ds:List DV} (h:cB σ.heap id=some (.bC T ds)) (h2:ds[j]? = some (.val (.pointer none))) (k:WM w ⟨σ.env,(id,some (.bC T (ds.set j (.np i o))))::σ.heap,σ.used⟩ σ'):WM (.p id j i o::w) σ σ'
theorem WM.imp{w:List Wk}{σ σ':AS}(h:WM w σ σ'):oE σ σ':=by
 induction h with
 |nil=>exact oE.refl _
 |r h1 h2 _ ih=>exact(yg _ _ h1 h2).trans ih
 |c h1 h2 h3 h4 _ ih=>exact(WH _ _ h1 h2 h3 h4).trans ih
 |z h _ ih=>exact(oE.freeze h).trans ih
 |b h h2 _ ih=>exact(WC h h2).trans ih
 |p h h2 _ ih=>exact(WJ h h2).trans ih
theorem wm{w:List Wk}{σ σ':AS}(h:WM w σ σ':=by first|((repeat first|exact .nil|(apply WM.z;rfl)|(apply WM.r;rfl;rfl)|(apply WM.c;rfl;rfl;rfl;rfl)|(apply WM.b;rfl;rfl)|(apply WM.p;rfl;rfl) | fail);done) | fail):WM w σ σ':=h
/-! code -/
def fr:Code→Option Nat
 |.region id _ _=>some id
 |.seq a b=>(fr a).or (fr b)
 |.cond _ a b=>(fr a).or (fr b)
 |.block _ a=>(fr a).map (· + 10000)
 |.loop a=>fr a
 |_=>none
structure DX(sN i m:Nat):Prop where
 h:True
@[irreducible] def dX{β:Type}(sN i m:Nat)(k:Option β):Option β:=k
theorem dXo{β:Type}{sN i m:Nat}{k:Option β}{r:β}{G:Prop}(h:dX sN i m k=some r)(g:DX sN i m→k=some r→G):G:=g ⟨trivial⟩ (by unfold dX at h;exact h)
def UP{S E:Type}(t:xV S E)(C:E→Prop):Prop:=∀e,t = .done e→C e
theorem up{S E:Type}{t:xV S E}{C:E→Prop}{e:E}(h:some (xV.done e)=some t)(k:UP t C):C e:=k e (Option.some.inj h).symm
section
variable {P:Program} {n:Nat} {Q:Exit→AS→Prop} {σ σ':AS} {id:Nat} {c d:Code} {S E R:Type} {r:R} {ct:Nat} {u ke kh:List Nat} {ne:S→Ev→Ev} {nh:S→eY→eY} {w:List Wk} {l:Rn} {e':Ev} {h':eY}
variable {ops:Array Oper} {kv:List (Keys×zT)} {sN:Nat}
theorem rs0(ht:Trace P ops ops.toList σ σ' kv)(hd:sH n ops=true)(px:mJ σ.used (kv.map (·.2.new))=true)(hq:ik P n d Q σ'):ik P n (.seq (.region sN ops false) d) Q σ:=iL (gw ht hd px hq)
theorem rr0(ht:Trace P ops ops.toList σ σ' kv)(hd:sH n ops=true)(px:mJ σ.used (kv.map (·.2.new))=true)(hq:Q .normal σ'):ik P n (.region sN ops false) Q σ:=gw ht hd px hq
theorem dsX{i0 m:Nat}{σi:AS}{Qi Pw:List (Keys×zT)}{o0:Oper}{Px Kz:List Nat}{E0:zT}{Xj:Keys×zT}(z:DX sN i0 m)(hm:P.follows .mixedOrders=true)(ho:ops.toList[i0]? = some o0)(ht1:Trace P ops (ops.toList.take i0) σ σi Qi)(h0:du P ops o0 Px Kz σi E0)
  (ht2:Trace P ops (ops.toList.drop (i0+1)) (σi.app E0) σ' Pw) (hj:Pw[m]? = some Xj) (ha:du P ops o0 Px Kz ⟨σi.env,Xj.2.heap++σi.heap,σi.used⟩ E0)
  (hk:(zv ops (((Qi++(⟨Px,Kz,E0.env.map (·.1),E0.heap.map (·.1)⟩,E0)::Pw).map (·.1)).set i0 ⟨Px,[],E0.env.map (·.1),E0.heap.map (·.1)⟩)&&Sr Kz (i0+1+m) ((Qi++(⟨Px,Kz,E0.env.map (·.1),E0.heap.map (·.1)⟩,E0)::Pw).map (·.1))&&Kz.all fun id=>Xj.1.wh.any (Nat.beq id))=true)
  (hd:sH n ops=true) (px:mJ σ.used ((Qi++(⟨Px,Kz,E0.env.map (·.1),E0.heap.map (·.1)⟩,E0)::Pw).map (·.2.new))=true) (hq:Q .normal σ'):ik P n (.region sN ops true) Q σ:=acw hm ho ht1 h0 ht2 hj ha hk hd px hq
theorem ds0(hm:P.follows .mixedOrders=true)(ht:Trace P ops ops.toList σ σ' kv)(hk:zv ops (kv.map (·.1))=true)(hd:sH n ops=true)(px:mJ σ.used (kv.map (·.2.new))=true)(hq:ik P n d Q σ'):ik P n (.seq (.region sN ops true) d) Q σ:=iL (LZ hm ht hk hd px hq)
theorem dr0(hm:P.follows .mixedOrders=true)(ht:Trace P ops ops.toList σ σ' kv)(hk:zv ops (kv.map (·.1))=true)(hd:sH n ops=true)(px:mJ σ.used (kv.map (·.2.new))=true)(hq:Q .normal σ'):ik P n (.region sN ops true) Q σ:=LZ hm ht hk hd px hq
theorem wo{a:Option R}(hM:wk w a=some r)(h:WM w σ σ')(k:a=some r→ik P n c Q σ'):ik P n c Q σ:=tW h.imp (k (adg w a ▸ hM))
theorem won{a:Option R}(hM:wk w a=some r)(h:WM w σ σ')(k:a=some r→Mj Q σ'):Mj Q σ:=adA h.imp (k (adg w a ▸ hM))
theorem fol{mx N:Int}{body:Nat→S→Option S}{s0:S}{k:S→Option R}(hM:fL s0 ct u ke kh ne nh w l mx N body k=some r)
  (he:PK σ.env ke e') (hh:PH σ.heap kh h') (h0:IM w l σ (FL ((ct,.N 0)::ne s0 e') (nh s0 h') u))
  (r1:∀(j:Nat) (s s':S),(j:Int)<N→N≤mx→body j s=some s'→ik P n c (QG (fun s=>FL ((ct,.N (j+1))::ne s e') (nh s h') u) s' (BR id Q)) (FL ((ct,.N j)::ne s e') (nh s h') u))
  (r2:∀(j:Nat) (s:S),k s=some r→N≤(j:Int)→N≤mx→ik P n c (Ry (BR id Q)) (FL ((ct,.N j)::ne s e') (nh s h') u)):ik P n (.block id (.loop c)) Q σ :=
 fl (fun j s=>FL ((ct,.N j)::ne s e') (nh s h') u) (by unfold fL at hM;exact hM) h0.imp r1 r2
theorem anR{mx N:Int}{body:Nat→S→Option S}{s0:S}{k:S→Option R}(hM:fLu s0 ct u ke kh ne nh w l mx N body k=some r)
  (he:PK σ.env ke e') (hh:PH σ.heap kh h') (h0:IM w l σ (FL ((ct,.int .u64 ((0:Nat):Int))::ne s0 e') (nh s0 h') u))
  (r1:∀(j:Nat) (s s':S),(j:Int)<N→N≤mx→body j s=some s'→ik P n c (QG (fun s=>FL ((ct,.int .u64 ((j+1:Nat):Int))::ne s e') (nh s h') u) s' (BR id Q)) (FL ((ct,.int .u64 (j:Int))::ne s e') (nh s h') u))
  (r2:∀(j:Nat) (s:S),k s=some r→N≤(j:Int)→N≤mx→ik P n c (Ry (BR id Q)) (FL ((ct,.int .u64 (j:Int))::ne s e') (nh s h') u)):ik P n (.block id (.loop c)) Q σ :=
 fl (fun j s=>FL ((ct,.int .u64 (j:Int))::ne s e') (nh s h') u) (by unfold fLu at hM;exact hM) h0.imp r1 r2
theorem foo{mx N:Int}{body:Nat→S→Option (xV S E)}{s0:S}{k:xV S E→Option R}(hM:fO s0 ct u ke kh ne nh w l mx N body k=some r)
  (he:PK σ.env ke e') (hh:PH σ.heap kh h') (h0:IM w l σ (FL ((ct,.N 0)::ne s0 e') (nh s0 h') u))
  (r1:∀(j:Nat) (s:S) (t':xV S E),(j:Int)<N→N≤mx→body j s=some t'→UP t' (fun e=>k (.done e)=some r)→ik P n c (QF (fun j s=>FL ((ct,.N j)::ne s e') (nh s h') u) j t' (BR id Q)) (FL ((ct,.N j)::ne s e') (nh s h') u))
  (r2:∀(j:Nat) (s:S),k (.next s)=some r→N≤(j:Int)→N≤mx→ik P n c (Ry (BR id Q)) (FL ((ct,.N j)::ne s e') (nh s h') u)):ik P n (.block id (.loop c)) Q σ :=
 fo (fun j s=>FL ((ct,.N j)::ne s e') (nh s h') u) (by unfold fO at hM;exact hM) h0.imp (fun t h j s t' a b hb hE=>r1 j s t' a b hb (fun e he=>by have:=hE e he;subst this;exact h)) r2
theorem woo{step:S→Option (xV S E)}{s0:S}{k:E→Option R}(hM:wL s0 u ke kh ne nh w l step k=some r)
  (he:PK σ.env ke e') (hh:PH σ.heap kh h') (h0:IM w l σ (FL (ne s0 e') (nh s0 h') u))
  (r1:∀(s:S) (t':xV S E),step s=some t'→UP t' (fun e=>k e=some r)→ik P n c (QW (fun s=>FL (ne s e') (nh s h') u) t' (BR id Q)) (FL (ne s e') (nh s h') u)):ik P n (.block id (.loop c)) Q σ :=
 wh (fun s=>FL (ne s e') (nh s h') u) (by unfold wL at hM;exact hM) h0.imp (fun e h s t hb hE=>r1 s t hb (fun e' he=>by have:=hE e' he;subst this;exact h))
theorem jo{K:S→Option R}{a:Option R}(hM:jn K sN u ke kh ne nh a=some r)(hf:fr c=some sN)(he:PK σ.env ke e')(hh:PH σ.heap kh h')(h1:a=some r→ik P n c (acF (fun s=>FL (ne s e') (nh s h') u) (fun s=>K s=some r) Q) σ)(h2:∀s,K s=some r→ik P n d Q (FL (ne s e') (nh s h') u)):ik P n (.seq c d) Q σ:=aif (fun s=>FL (ne s e') (nh s h') u) (fun s=>K s=some r) (h1 (by unfold jn at hM;exact hM)) h2
theorem ol{a:Option R}(hM:o1 a=some r)(h:a=some r→ik P n c (adL (fun _:Unit=>σ) (fun _=>True) (fun _=>0) () (BR id Q)) σ):ik P n (.block id (.loop c)) Q σ:=zg (HG (fun _:Unit=>σ) (fun _=>True) (fun _=>0) () (oE.refl _) trivial fun _ _=>h (by unfold o1 at hM;exact hM))
def nl:Code→Bool
 |.loop _=>false
 |_=>true
theorem bl'(hn:nl c=true)(h:ik P n c (BR id Q) σ):ik P n (.block id c) Q σ:=zg h
theorem kT'{o:Operand}(hc:ev σ.env o=some (.bool true))(k:ik P n c Q σ):ik P n (.cond o c d) Q σ:=uc _ hc (fun _=>k) (fun q=>by cases q)
theorem kF'{o:Operand}(hc:ev σ.env o=some (.bool false))(k:ik P n d Q σ):ik P n (.cond o c d) Q σ:=uc _ hc (fun q=>by cases q) (fun _=>k)
theorem jt{K:S→Option R}{a:Option R}(hM:jn K sN u ke kh ne nh a=some r)(hf:fr c=some sN)(he:PK σ.env ke e')(hh:PH σ.heap kh h')(h1:a=some r→ik P n c (acF (fun s=>FL (ne s e') (nh s h') u) (fun s=>K s=some r) Q) σ)(h2:∀s,K s=some r→Q .normal (FL (ne s e') (nh s h') u)):ik P n c Q σ:=ae6 (fun s=>FL (ne s e') (nh s h') u) (fun s=>K s=some r) (h1 (by unfold jn at hM;exact hM)) h2
theorem ja{K:S→Option R}{St:S→AS}{s:S}(hM:nX w l (K s)=some r)(h:IM w l σ (St s)):∃s,K s=some r∧oE σ (St s):=⟨s,(Sz w l (K s)).symm.trans hM,h.imp⟩
theorem na'{St:S→AS}{s t:S}(hM:nX w l (some s)=some t)(h:IM w l σ (St s)):∃s,s=t∧oE σ (St s):=⟨s,Option.some.inj (Sz w l (some s) ▸ hM),h.imp⟩
theorem wa{St:S→AS}{s:S}{t:xV S E}(hM:nX w l (some (.next s))=some t)(h:IM w l σ (St s)):∃s,t = .next s∧oE σ (St s):=⟨s,(Option.some.inj (Sz w l (some (xV.next s)) ▸ hM)).symm,h.imp⟩
theorem cd'{b:Bool}{x y:Option R}{o:Operand}(h:If b x y=some r)(hc:ev σ.env o=some (.bool b))(h1:x=some r→ik P n c Q σ)(h2:y=some r→ik P n d Q σ):ik P n (.cond o c d) Q σ:=cd (TB b x y ▸ h) h1 h2 hc
theorem c1'{b:Prop}{hb:Decidable b}{o:Operand}(hc:ev σ.env o=some (.bool (@decide b hb)))(h:b)(k:ik P n c Q σ):ik P n (.cond o c d) Q σ:=c1 h k hc
theorem c0'{j:Nat}{N:Int}{o:Operand}(hc:ev σ.env o=some (.bool (decide ((j:Int)<N))))(h:N≤(j:Int))(k:ik P n d Q σ):ik P n (.cond o c d) Q σ:=c0 (Int.not_lt.2 h) k hc
end
theorem nps{P:Program}{n:Nat}{Q:Exit→AS→Prop}{σ:AS}{c:Code}{id j i o:Nat}{a b:Option Unit}{r:Unit}{T:TypeId}{ds:List DV}(hM:npU id j a b=some r)(hh:cB σ.heap id=some (.bC T ds))(hj:ds[j]? = some (.np i o))(h1:a=some r→ik P n c Q ⟨σ.env,(id,some (.bC T (ds.set j (.val (.pointer none)))))::σ.heap,σ.used⟩)(h2:b=some r→ik P n c Q ⟨σ.env,(id,some (.bC T (ds.set j (.ref i o))))::σ.heap,σ.used⟩):ik P n c Q σ:=by
 unfold npU at hM;obtain⟨x,e1,e2⟩:=xN hM;exact aoC hh hj (h1 e1) (h2 e2)
structure HL(l:Rn):Prop where
 h:True
structure HN(w:List Wk)(l:Rn):Prop where
 h:True
theorem rq{α:Type}{l:Rn}{x r:α}{G:Prop}(h:rX l (some x)=some r)(k:HL l→x=r→G):G:=k ⟨trivial⟩ (Option.some.inj (ado l (some x) ▸ h))
theorem upX{S E:Type}{t:xV S E}{C:E→Prop}{e:E}{l:Rn}{G:Prop}(h:rX l (some (xV.done e))=some t)(k:UP t C)(g:HL l→C e→G):G:=g ⟨trivial⟩ (k e (Option.some.inj (ado l (some (xV.done e)) ▸ h)).symm)
theorem upN{S E:Type}{t:xV S E}{C:E→Prop}{e:E}{w:List Wk}{l:Rn}{G:Prop}(h:nX w l (some (xV.done e))=some t)(k:UP t C)(g:HN w l→C e→G):G:=g ⟨trivial⟩ (k e (Option.some.inj (Sz w l (some (xV.done e)) ▸ h)).symm)
section
variable {P:Program} {n:Nat} {σ:AS}
theorem jb{S R:Type}{r:R}{w:List Wk}{l:Rn}{K:S→Option R}{St:S→AS}{s:S}(hM:K s=some r)(z:HN w l)(h:IM w l σ (St s)):∃s,K s=some r∧oE σ (St s):=⟨s,hM,h.imp⟩
theorem ra'{rs:Array ResultVar}{res:DV}{post:eY}{Q:Exit→AS→Prop}{l:Rn}(z:HL l)(hq:∀τ,va P rs res post .ret τ→Q .ret τ:=by exact fun _ h=>h)(h:IL l σ ⟨VW rs.toList res,pf post,post.map (·.1)⟩:=by first|exact ish rfl rfl rfl rfl rfl rfl|exact iof eo ho rfl rfl rfl|fail)(hr:xD P ⟨VW rs.toList res,pf post,post.map (·.1)⟩ rs res:=by first|exact rv|fail)(hk:Lz (post.map (·.1))=true:=by rfl):ik P n .ret Q σ:=ra l hq h hr hk
theorem nb'{rs:Array ResultVar}{res:DV}{post:eY}{Q:Exit→AS→Prop}{l:Rn}(z:HL l)(hq:∀τ,va P rs res post .normal τ→Q .normal τ:=by exact fun _ h=>h)(h:IL l σ ⟨VW rs.toList res,pf post,post.map (·.1)⟩:=by first|exact ish rfl rfl rfl rfl rfl rfl|exact iof eo ho rfl rfl rfl|fail)(hr:xD P ⟨VW rs.toList res,pf post,post.map (·.1)⟩ rs res:=by first|exact rv|fail)(hk:Lz (post.map (·.1))=true:=by rfl):Mj Q σ:=na l hq h hr hk
end
structure HC(ke kh:List Nat)(l:Rn):Prop where
 h:True
theorem rqC{α:Type}{ke kh:List Nat}{l:Rn}{x r:α}{G:Prop}(h:rC ke kh l (some x)=some r)(k:HC ke kh l→x=r→G):G:=k ⟨trivial⟩ (Option.some.inj (by unfold rC at h;exact h))
theorem raC{P:Program}{n:Nat}{σ:AS}{rs:Array ResultVar}{res:DV}{post:eY}{Q:Exit→AS→Prop}{ke kh:List Nat}{l:Rn}{e':Ev}{h':eY}(z:HC ke kh l)(hq:∀τ,va P rs res post .ret τ→Q .ret τ)(he:PK σ.env ke e')(hh:PH σ.heap kh h')(h:IL l σ ⟨VW rs.toList res++e',pf post++h',(pf post++h').map (·.1)++post.map (·.1)⟩)(hr:xD P ⟨VW rs.toList res++e',pf post++h',(pf post++h').map (·.1)++post.map (·.1)⟩ rs res)(hk:Lz (post.map (·.1))=true):ik P n .ret Q σ :=
 tW h (uZ (hq _ (qT hr (pP.refl _) (fun i e k=>by
  have:=EO hk k;unfold cB at this ⊢;rw[gz];cases hl:look (pf post) i with
  |none=>rw[hl]at this;cases this
  |some x=>rw[hl]at this;exact this))))
theorem anE{P:Program}{n:Nat}{σ:AS}{rs:Array ResultVar}{ds ds0:List DV}{post:eY}{Q:Exit→AS→Prop}{t id T:Nat}{l:Rn}(z:HC [t] [id] l)(hq:∀τ,va P rs (.agg ds) post .ret τ→Q .ret τ)(he:look σ.env t=some (.ref id 0))(hh:cB σ.heap id=some (.bC T ds0))(h:IL l σ ⟨VW rs.toList (.agg ds)++[(t,.ref id 0)],pf post++[(id,some (HE.bC T ds))],(pf post++[(id,some (HE.bC T ds))]).map (·.1)++post.map (·.1)⟩)(hr:xD P ⟨VW rs.toList (.agg ds)++[(t,.ref id 0)],pf post++[(id,some (HE.bC T ds))],(pf post++[(id,some (HE.bC T ds))]).map (·.1)++post.map (·.1)⟩ rs (.agg ds))(hk:Lz (post.map (·.1))=true):ik P n .ret Q σ :=
 tW h (uZ (hq _ (qT hr (pP.refl _) (fun i e k=>by
  have:=EO hk k;unfold cB at this ⊢;rw[gz];cases hl:look (pf post) i with
  |none=>rw[hl]at this;cases this
  |some x=>rw[hl]at this;exact this))))
theorem il{l:Rn}{σ σ':AS}(h:IL l σ σ':=by first|exact ish rfl rfl rfl rfl rfl rfl|exact iof eo ho rfl rfl rfl|fail):IL l σ σ':=h
/-! the walk -/
theorem wa' {G:Prop} (h:G:=by
 repeat' first
  |exact nn hM
  |refine be hM fun z hM=>?_
  |refine ae' hM fun z hM=>?_
  |refine aoB hM fun z hM=>?_
  |(apply nps hM;rfl;rfl;intro hM;rotate_left;intro hM)
  |refine bk' hM fun h hM=>?_
  |(refine bD hM fun v c hN=>?_;clear hM;subst c;have hM:=hN;clear hN)
  |refine bI hM fun v c h hM=>?_
  |refine me hM fun z hM=>?_
  |(apply rs0;exact tr;kernel_rfl;kernel_rfl)
  |(apply rr0;exact tr;kernel_rfl;kernel_rfl)
  |refine dXo hM fun z hM=>?_
  |(apply dsX;assumption;exact mixed;rfl;exact tr;exact op1;exact tr;rfl;exact op1;kernel_rfl;kernel_rfl;kernel_rfl)
  |(apply ds0;exact mixed;exact tr;kernel_rfl;kernel_rfl;kernel_rfl)
  |(apply dr0;exact mixed;exact tr;kernel_rfl;kernel_rfl;kernel_rfl)
  |refine ol hM fun hM=>?_
  |(apply fol hM;exact pke;exact phe;exact imt;intro j s t hj hx hM;rotate_left;intro j s hM hj hx;clear hx)
  |(apply anR hM;exact pke;exact phe;exact imt;intro j s t hj hx hM;rotate_left;intro j s hM hj hx;clear hx)
  |(apply foo hM;exact pke;exact phe;exact imt;intro j s t hj hx hM u;rotate_left;intro j s hM hj hx;clear hx)
  |(apply woo hM;exact pke;exact phe;exact imt;intro s t hM u)
  |(apply jo hM;rfl;exact pke;exact phe;intro hM;rotate_left;intro s hM)
  |apply sk
  |(apply bl';rfl)
  |apply sq
  |(apply c0';rfl;exact hj)
  |(apply c1';rfl;exact hj)
  |(apply c1';rfl;assumption)
  |(apply c0';rfl;assumption)
  |(apply cd' hM;rfl;intro hM;rotate_left;intro hM)
  |apply ex
  |(apply wo hM;exact wm;intro hM)
  |(apply na' hM;exact imt)
  |(apply wa hM;exact imt)
  |(apply ja hM;exact imt)
  |(apply jb hM (by assumption);exact imt)
  |(apply kT';rfl)
  |(apply kF';rfl)
  |(replace hM:=up hM (by assumption))
  |refine upX hM (by assumption) fun z hM=>?_
  |refine upN hM (by assumption) fun z hM=>?_
  |(refine rq hM fun z h=>?_;cases h <;> first|exact rt|exact ra' z|exact nd|exact nb' z|fail)
  |(refine rqC hM fun z h=>?_;cases h <;> (apply raC z;exact fun _ h=>h;exact pke;exact phe;exact il;exact rv;rfl))
  |(refine rqC hM fun z h=>?_;cases h <;> (apply anE z;exact fun _ h=>h;rfl;rfl;exact il;exact rv;rfl))
  |(cases hM <;> first|exact rt|exact ra' (by assumption) | exact nd|exact nb' (by assumption) | fail)
  |(apply won hM;exact wm;intro hM)
  |(refine so hM (fun a e hN=>?_) (fun a e hN=>?_) <;> (clear hM;subst e;have hM:=hN;clear hN))
  |(apply jt hM;rfl;exact pke;exact phe;intro hM;rotate_left;intro s hM)
  |refine cg hM (fun h hM=>?_) fun h hM=>?_
  |fail):G:=h
section
variable {P:Program} {fn:FuncId} {func:Func} {c:Code} {args:List DV} {n:Nat} {rs:Array ResultVar} {r res:DV} {pre post:eY} {new:List Nat} {l:List Nat}
theorem pb(hf:P.funcs[fn]? = some func)(hn:func.ntmps=n)(hb:func.body=some c:=by rfl)(FY:func.results=rs:=by rfl)(ha:Nat.ble args.length n=true:=by rfl)(hr:r.ids = []:=by rfl)(h:ik P n c (va P rs r []) ⟨params 0 args,[],[]⟩:=by first|exact wa' | fail):bx P fn args r:=bx.body hf hn hb FY ha hr h
theorem ab(hf:P.funcs[fn]? = some func)(hn:func.ntmps=n)(hb:func.body=some c:=by rfl)(FY:func.results=rs:=by rfl)(ha:Nat.ble args.length n=true:=by rfl)(Cj:Hy ⟨args,pre,res,post,new⟩=true:=by first|kernel_rfl|rfl)(h:ik P n c (va P rs res post) ⟨params 0 args,pre,pre.map (·.1)⟩:=by first|exact wa' | fail):iM P fn ⟨args,pre,res,post,new⟩:=iM.body hf hn hb FY ha Cj h
theorem ae(hf:P.funcs[fn]? = some func)(hn:func.ntmps=n)(hb:func.body=some c:=by rfl)(FY:func.results=rs:=by rfl)(ha:Nat.ble args.length n=true:=by rfl)(Cj:Hy ⟨args,pre,res,post,new⟩=true:=by first|kernel_rfl|rfl)(h:ik P n c (NQ (va P rs res post)) ⟨params 0 args,pre,pre.map (·.1)⟩:=by first|exact wa' | fail):iM P fn ⟨args,pre,res,post,new⟩:=iM.body hf hn hb FY ha Cj (adH h)
theorem pbz(hf:P.funcs[fn]? = some func)(hn:func.ntmps=n)(z:Fz l)(hb:func.body=some c:=by rfl)(FY:func.results=rs:=by rfl)(ha:Nat.ble args.length n=true:=by rfl)(hr:r.ids = []:=by rfl)(h:Fz l→ik P n c (va P rs r []) ⟨params 0 args,[],[]⟩:=by(intro z;exact wa')):bx P fn args r:=bx.body hf hn hb FY ha hr (h z)
theorem abz(hf:P.funcs[fn]? = some func)(hn:func.ntmps=n)(z:Fz l)(hb:func.body=some c:=by rfl)(FY:func.results=rs:=by rfl)(ha:Nat.ble args.length n=true:=by rfl)(Cj:Hy ⟨args,pre,res,post,new⟩=true:=by first|kernel_rfl|rfl)(h:Fz l→ik P n c (va P rs res post) ⟨params 0 args,pre,pre.map (·.1)⟩:=by(intro z;exact wa')):iM P fn ⟨args,pre,res,post,new⟩:=iM.body hf hn hb FY ha Cj (h z)
theorem aez(hf:P.funcs[fn]? = some func)(hn:func.ntmps=n)(z:Fz l)(hb:func.body=some c:=by rfl)(FY:func.results=rs:=by rfl)(ha:Nat.ble args.length n=true:=by rfl)(Cj:Hy ⟨args,pre,res,post,new⟩=true:=by first|kernel_rfl|rfl)(h:Fz l→ik P n c (NQ (va P rs res post)) ⟨params 0 args,pre,pre.map (·.1)⟩:=by(intro z;exact wa')):iM P fn ⟨args,pre,res,post,new⟩:=iM.body hf hn hb FY ha Cj (adH (h z))
end
end Go.Proofs.YtpeihknododmlaaGreatDoor
