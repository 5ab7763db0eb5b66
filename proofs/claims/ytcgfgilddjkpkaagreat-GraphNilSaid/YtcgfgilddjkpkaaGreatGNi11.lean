/-
  What the claim leans on, part 11.
-/
import Derived.Test.YtcgfgilddjkpkaaGreatGNi10
import Derived.MapKept
import Derived.WideKeyRuns
set_option linter.unusedVariables false
set_option linter.unusedSimpArgs false
namespace Go.Proofs.YtcgfgilddjkpkaaGreat
open Go.RowKit
def Tg.num : Tg→Bool
 | .int _=>true
 | .bool=>true
 | _=>false
theorem num_same {g : Tg} (hn : g.num = true) {d e : DV} (hd : g.has d = true) (he : g.has e = true) (hq : eqD d e = true) {F F' : FMap} {γ γ' : Gam} {u v : Value} (hu : Rs F γ d u) (hv : Rs F' γ' e v) (n : Nat) :
  Instr.sameBits n u v = true∧u = v:=by
 cases g with
 | int k=>
  cases d <;> simp only [Tg.has,Bool.false_eq_true,decide_eq_true_eq] at hd
  cases e <;> simp only [Tg.has,Bool.false_eq_true,decide_eq_true_eq] at he
  subst hd; subst he
  simp only [Rs] at hu hv
  subst hu; subst hv
  simp only [eqD,beq_iff_eq] at hq
  subst hq
  cases n <;> simp [Instr.sameBits]
 | bool=>
  cases d <;> simp only [Tg.has,Bool.false_eq_true] at hd
  cases e <;> simp only [Tg.has,Bool.false_eq_true] at he
  simp only [Rs] at hu hv
  subst hu; subst hv
  simp only [eqD,beq_iff_eq] at hq
  subst hq
  cases n <;> simp [Instr.sameBits]
 | str=>cases hn
theorem num_sameL {F F' : FMap} {γ γ' : Gam} (n : Nat) : ∀ (gs : List Tg) (ds es : List DV) (us vs : List Value),gs.all Tg.num = true→hasL gs ds = true→hasL gs es = true→eqDL ds es = true→RsL F γ ds us→RsL F' γ' es vs →
  us = vs∧(us.zip us).all (fun p=>Instr.sameBits n p.1 p.2) = true
 | [],ds,es,us,vs,_,h1,h2,_,r1,r2=>by
  cases ds <;> simp only [hasL,Bool.false_eq_true] at h1
  cases es <;> simp only [hasL,Bool.false_eq_true] at h2
  simp only [RsL] at r1 r2
  subst r1; subst r2
  exact ⟨rfl,rfl⟩
 | g :: gs,ds,es,us,vs,hn,h1,h2,hq,r1,r2=>by
  cases ds with
  | nil=>simp [hasL] at h1
  | cons d ds=>
   cases es with
   | nil=>simp [hasL] at h2
   | cons e es=>
    simp only [hasL,Bool.and_eq_true] at h1 h2
    simp only [eqDL,Bool.and_eq_true] at hq
    simp only [List.all_cons,Bool.and_eq_true] at hn
    simp only [RsL] at r1 r2
    obtain ⟨u,ru,rfl,_,k1,r1⟩ := r1
    obtain ⟨v,rv,rfl,_,k2,r2⟩ := r2
    obtain ⟨a1,a2⟩ := num_same hn.1 h1.1 h2.1 hq.1 k1 k2 n
    obtain ⟨b1,b2⟩ := num_sameL n gs ds es ru rv hn.2 h1.2 h2.2 hq.2 r1 r2
    subst a2; subst b1
    exact ⟨rfl,by simp [a1]; simpa using b2⟩
theorem num_self : ∀ (gs : List Tg) (ds : List DV),gs.all Tg.num = true→hasL gs ds = true→eqDL ds ds = true
 | [],ds,_,h1=>by cases ds <;> first | rfl | (simp [hasL] at h1; done)
 | g :: gs,[],_,h1=>by simp [hasL] at h1
 | g :: gs,d :: ds,hn,h1=>by
  simp only [hasL,Bool.and_eq_true] at h1
  simp only [List.all_cons,Bool.and_eq_true] at hn
  have ih:=num_self gs ds hn.2 h1.2
  simp only [eqDL,ih,Bool.and_true]
  cases g <;> cases d <;> simp_all [Tg.has,Tg.num,eqD]
theorem check_scal {P : Program} {t : TypeId} {g : Tg} (hg : g.typ P t = true) {d : DV} (hd : g.has d = true) {F : FMap} {γ : Gam} {u : Value} (hu : Rs F γ d u) (em : Bool) (n : Nat) (w : World) :
  (Instr.checkKey em (n + 1) t u).run P w = .ok () w:=by
 cases g with
 | int k=>
  cases d <;> simp only [Tg.has,Bool.false_eq_true,decide_eq_true_eq] at hd
  simp only [Rs] at hu
  subst hu
  simp only [Tg.typ] at hg
  split at hg
  ·rename_i k' h; simp [Instr.checkKey,run_underlying h]
  ·cases hg
 | bool=>
  cases d <;> simp only [Tg.has,Bool.false_eq_true] at hd
  simp only [Rs] at hu
  subst hu
  simp only [Tg.typ] at hg
  split at hg
  ·rename_i h; simp [Instr.checkKey,run_underlying h]
  ·cases hg
 | str=>
  cases d <;> simp only [Tg.has,Bool.false_eq_true] at hd
  simp only [Rs] at hu
  subst hu
  simp only [Tg.typ] at hg
  split at hg
  ·rename_i h; simp [Instr.checkKey,run_underlying h]
  ·cases hg
theorem check_fields {P : Program} {F : FMap} {γ : Gam} (em : Bool) (n : Nat) (us : Array Value) (w : World) : ∀ (fs : List Field) (i : Nat) (gs : List Tg) (ds : List DV),flatF P fs i gs = true→hasL gs ds = true →
  RsL F γ ds (us.toList.drop i)→(forIn (m:=Sem) fs PUnit.unit fun f _=>
    if f.name ≠ "_" then do
     let v ← part f.type us f.offset
     Instr.checkKey em (n + 1) f.type v
     pure (ForInStep.yield PUnit.unit)
    else pure (ForInStep.yield PUnit.unit)).run P w = .ok PUnit.unit w
 | [],i,gs,ds,h,h1,r1=>by simp
 | f :: fs,i,[],ds,h,_,_=>by simp [flatF] at h
 | f :: fs,i,g :: gs,ds,h,h1,r1=>by
  simp only [flatF,Bool.and_eq_true] at h
  obtain ⟨⟨⟨f1,f2⟩,f3⟩,f4⟩ := h
  have f2 : f.offset = i:=Nat.eq_of_beq_eq_true f2
  cases ds with
  | nil=>simp [hasL] at h1
  | cons d ds=>
   simp only [hasL,Bool.and_eq_true] at h1
   simp only [RsL] at r1
   obtain ⟨u,ru,e1,_,k1,r1⟩ := r1
   have g1 : us[i]? = some u:=by
    have:=congrArg (·[0]?) e1
    simpa using this
   have d1 : us.toList.drop (i + 1) = ru:=by rw [← List.drop_drop,e1]; rfl
   have ih:=check_fields em n us w fs (i + 1) gs ds f4 h1.2 (by rw [d1]; exact r1)
   have hn : f.name ≠ "_" := by simpa using f1
   simp only [List.forIn_cons,Sem.run_bind,hn,ne_eq,not_false_eq_true,if_true,Result.andThen_ok,f2,part_scal f3 g1,check_scal f3 h1.1 k1,Sem.run_pure]
   exact ih
class CMap (P : Program) (t : TypeId) (k e : outParam TypeId) (gs : outParam (List Tg)) (zd : outParam DV) : Prop where
 und : P.underlying t = some (.map k e)
 key : (P.underlying k).map (fun d=>match d with | .struct fs=>flatF P fs.toList 0 gs | _=>false) = some true
 num : gs.all Tg.num = true
 eq : CEq P k gs
 zero : ((P.info? e).bind (·.zero)).map zeroDV = some zd
 one : (zd.cs.all DV.one) = true
section
variable {P : Program} {w : World}
theorem CMap.check {t k e : TypeId} {gs : List Tg} {zd : DV} (M : CMap P t k e gs zd) {F : FMap} {γ : Gam} {ds : List DV} {us : Array Value} (h : hasL gs ds = true) (r : RsL F γ ds us.toList) (em : Bool) (w : World) :
  (Instr.checkKey em 10000 k (.agg us)).run P w = .ok () w:=by
 have hk:=M.key
 cases hu : P.underlying k with
 | none=>rw [hu] at hk; cases hk
 | some d=>
  cases d <;> rw [hu] at hk <;> simp only [Option.map_some,Option.some.injEq,Bool.false_eq_true] at hk
  rename_i fs
  unfold Instr.checkKey
  simp only [Sem.run_bind,run_underlying hu,Result.andThen_ok]
  rw [← Array.forIn_toList]
  have:=check_fields em 9998 us w fs.toList 0 gs ds hk h (by simpa using r)
  exact (congrArg (fun r=>Result.andThen r fun _ w'=>(pure () : Sem Unit).run P w') this).trans (by simp)
def mfind {K V : Type} (ck : K→List DV) (k : K) : List (K × V)→Nat→Option (Nat × V)
 | [],_=>none
 | p :: l,i=>if eqDL (ck k) (ck p.1) then some (i,p.2) else mfind ck k l (i + 1)
def mget {K V : Type} (ck : K→List DV) (xs : List (K × V)) (k : K) (z : V) : V:=match mfind ck k xs 0 with
 | some (_,v)=>v
 | none=>z
def mput {K V : Type} (ck : K→List DV) (xs : List (K × V)) (k : K) (v : V) : List (K × V):=match mfind ck k xs 0 with
 | some (i,_)=>xs.set i (k,v)
 | none=>xs++[(k,v)]
def mpL {K V : Type} (ck : K→List DV) (fv : V→DV) (xs : List (K × V)) : List (DV × DV):=xs.map fun p=>(.agg (ck p.1),fv p.2)
theorem CMap.wide {t k e : TypeId} {gs : List Tg} {zd : DV} (M : CMap P t k e gs zd) : (match P.underlying k with | some (.array _ _) | some (.struct _)=>true | _=>false) = true:=by
 have hk:=M.key
 cases hu : P.underlying k with
 | none=>rw [hu] at hk; cases hk
 | some d=>cases d <;> rw [hu] at hk <;> first | rfl | (simp at hk; done)
theorem find_run {t k e : TypeId} {gs : List Tg} {zd : DV} (M : CMap P t k e gs zd) {K V : Type} {ck : K→List DV} {fv : V→DV} (hck : ∀ a,hasL gs (ck a) = true) {F : FMap} {γ : Gam} {x : K} {us : Array Value} (hF : RsL F γ (ck x) us.toList) (w : World) :
  ∀ (xs : List (K × V)) (es : List MapEntry) (i : Nat),MpR F (mpL ck fv xs) es→∃ r,(Instr.findAsking k (.agg us) es i).run P w = .ok r w ∧
   ((mfind ck x xs i = none∧r = none)∨∃ j v val en,mfind ck x xs i = some (i + j,v)∧r = some (i + j,val)∧xs[j]?.map (·.2) = some v∧es[j]? = some en∧en.val = val∧en.key = .agg us∧Rs F Gam.no (fv v) val)
 | [],es,i,h=>by
  simp only [mpL,List.map_nil,MpR] at h
  subst h
  exact ⟨none,by simp [Instr.findAsking],.inl ⟨rfl,rfl⟩⟩
 | p :: xs,es,i,h=>by
  simp only [mpL,List.map_cons,MpR] at h
  obtain ⟨en,r,rfl,h1,h2,h3⟩ := h
  simp only [Rs] at h1
  obtain ⟨vs,e1,r1⟩ := h1
  have hq:=M.eq.eq 9997 F γ us vs (ck x) (ck p.1) w (hck x) (hck p.1) hF (r1.mono (FLe.refl _) (GLe.no _))
  have hop : (Op.equal k (.agg us) en.key).run P w = .ok (eqDL (ck x) (ck p.1)) w:=by
   rw [e1]; exact hq
  cases hb : eqDL (ck x) (ck p.1) with
  | true=>
   refine ⟨some (i,en.val),by simp [Instr.findAsking,hop,hb],.inr ⟨0,p.2,en.val,en,by simp [mfind,hb],rfl,by simp,by simp,rfl,?_,h2⟩⟩
   have:=(num_sameL 0 gs (ck x) (ck p.1) us.toList vs.toList M.num (hck x) (hck p.1) hb hF r1).1
   rw [e1]
   congr 1
   exact (Array.ext' this).symm
  | false=>
   obtain ⟨r',k1,k2⟩ := find_run M hck hF w xs r (i + 1) h3
   refine ⟨r',by simp [Instr.findAsking,hop,hb,k1],?_⟩
   rcases k2 with ⟨a1,a2⟩ | ⟨j,v,val,en',a1,a2,a3,a4,a5,a6,a7⟩
   ·exact .inl ⟨by simp [mfind,hb,a1],a2⟩
   ·refine .inr ⟨j + 1,v,val,en',by simp [mfind,hb,a1]; omega,by rw [a2]; congr 2; omega,by simpa using a3,by simpa using a4,a5,a6,a7⟩
theorem MpR.set {F : FMap} {dk dv : DV} (f : MapEntry→MapEntry) : ∀ {l : List (DV × DV)} {es : List MapEntry} (j : Nat),MpR F l es→(∀ e,es[j]? = some e→Rs F Gam.no dk (f e).key∧Rs F Gam.no dv (f e).val)→MpR F (l.set j (dk,dv)) (es.modify j f)
 | [],es,j,h,_=>by simp only [MpR] at h; subst h; cases j <;> rfl
 | x :: l,es,0,h,hf=>by
  obtain ⟨e,r,rfl,h1,h2,h3⟩ := h
  obtain ⟨q1,q2⟩ := hf e (by simp)
  simp only [List.set_cons_zero,List.modify_zero_cons]
  exact ⟨_,_,rfl,q1,q2,h3⟩
 | x :: l,es,j + 1,h,hf=>by
  obtain ⟨e,r,rfl,h1,h2,h3⟩ := h
  simp only [List.set_cons_succ,List.modify_succ_cons]
  exact ⟨_,_,rfl,h1,h2,MpR.set f j h3 (fun e he=>hf e (by simpa using he))⟩
theorem MpR.push {F : FMap} {dk dv : DV} {en : MapEntry} (hk : Rs F Gam.no dk en.key) (hv : Rs F Gam.no dv en.val) : ∀ {l : List (DV × DV)} {es : List MapEntry},MpR F l es→MpR F (l++[(dk,dv)]) (es++[en])
 | [],es,h=>by simp only [MpR] at h; subst h; exact ⟨en,[],rfl,hk,hv,rfl⟩
 | x :: l,es,h=>by
  obtain ⟨e,r,rfl,h1,h2,h3⟩ := h
  exact ⟨e,r++[en],rfl,h1,h2,MpR.push hk hv h3⟩
end
section
variable {P : Program} {ops : Array Oper} {σ : AS} {t : Nat} {ty : TypeId} {pos : String} {af : Array Edge}
theorem rs_map {C : Ctx} {F : FMap} {γ : Gam} {σ : AS} {a : Act} {w : World} (hs : Sat C F γ σ a w) {id : Nat} {v : Value} {l : List (DV × DV)} (hv : Rs F γ (.row id) v) (hh : hget σ.heap id = some (.mp l)) :
  ∃ b es ck,v = .map (some b)∧γ id = some (.map (some b))∧w.heap[b]? = some (.map es ck)∧MpR F l es.toList∧BornOk es ck:=by
 simp only [Rs] at hv
 obtain ⟨g,h1,b,es,ck,rfl,h3,h4,h5⟩ := hs.ws.ent id _ hh
 rw [h1] at hv; injection hv with hv
 exact ⟨b,es,ck,hv.symm,h1,h3,h4,h5⟩
theorem BornOk.modify {es : Array MapEntry} {ck : Nat} (h : BornOk es ck) (j : Nat) (f : MapEntry→MapEntry) (hf : ∀ e,(f e).born = e.born) : BornOk (es.modify j f) ck:=by
 refine ⟨by rw [Array.size_modify]; exact h.1,fun i e he=>?_⟩
 rw [Array.getElem?_modify] at he
 split at he
 ·cases hq : es[i]? with
  | none=>simp_all
  | some e0=>
   have : f e0 = e:=by simp_all
   rw [← this,hf]; exact h.2 i e0 hq
 ·exact h.2 i e he
theorem BornOk.push {es : Array MapEntry} {ck : Nat} (h : BornOk es ck) {en : MapEntry} (hb : en.born = ck) : BornOk (es.push en) (ck + 1):=by
 refine ⟨by rw [Array.size_push,h.1],fun i e he=>?_⟩
 rw [Array.getElem?_push] at he
 split at he
 ·rename_i hi
  injection he with he
  rw [← he,hb,h.1,hi]
 ·exact h.2 i e he
theorem o_makeMap {T : TypeId} : OpG P ops ⟨some t,.makeMap T none,ty,pos,af,none⟩ [] [] σ ⟨[(t,.row t)],[(t,some (.mp []))],[t]⟩ :=
 OpG.gen rfl rfl fun C F γ σ' a w h1 _ h3 hs=>by
  have hn : t ∉ σ'.used:=h3 t (by simp)
  refine ⟨.map (some w.heap.size),w.alloc (.map #[] 0),F,γ.up t (.map (some w.heap.size)),?_,FLe.refl _,Gam.up_le _ (hs.ws.fresh hn),?_,?_⟩
  ·simp [execOp,Instr.makeMap]
  ·refine hs.ws.addNew hn _ (fun b hb=>by simp [Value.pblk] at hb; exact hb.symm) ?_
   exact ⟨w.heap.size,#[],0,rfl,heap_alloc_new w _,by simp [MpR],rfl,fun i e h=>by simp at h⟩
  ·simp only [Rs]; exact Gam.up_same _ _ _
theorem t_makeMap {T : TypeId} {K V : Type} (ck : K→List DV) (fv : V→DV) : OpG P ops ⟨some t,.makeMap T none,ty,pos,af,none⟩ [] [] σ ⟨[(t,.row t)],[(t,some (.mp (mpL ck fv ([] : List (K × V)))))],[t]⟩ := o_makeMap
theorem t_lookup {T k e : TypeId} {gs : List Tg} {zd : DV} [hM : CMap P T k e gs zd] {x y : Operand} {id : Nat} {K V : Type} {ck : K→List DV} {fv : V→DV} {xs : List (K × V)} {q : K} {z v : V} (hv : some (mget ck xs q z) = some v) (hck : ∀ a,hasL gs (ck a) = true) (hz : fv z = zd)
  (hx : ev σ.env x = some (.row id)) (hh : hget σ.heap id = some (.mp (mpL ck fv xs))) (hy : ev σ.env y = some (.agg (ck q))) :
  OpG P ops ⟨some t,.lookup T x y false,ty,pos,af,none⟩ (tm x++tm y) [id] σ ⟨[(t,fv v)],[],[]⟩ :=
 Option.some.inj hv ▸ OpG.val rfl rfl fun C F γ σ' a w hag h2 hs=>by
  obtain ⟨k1,k2⟩ := ev2 hs hag hx hy
  have hh' := (h2 id (by simp)).trans hh
  obtain ⟨b,es,clock,e1,hg,hb,hR,hBo⟩ := rs_map hs k1 hh'
  simp only [Rs] at k2
  obtain ⟨us,e2,r2⟩ := k2
  obtain ⟨r,f1,f2⟩ := find_run hM hck r2 w xs es.toList 0 hR
  have hc:=hM.check (hck q) r2 es.isEmpty w
  have hf : (Instr.findKey k (.agg us) es.toList).run P w = .ok r w:=by rw [run_findKey_eq w hM.wide]; exact f1
  have hgo : (getObj b).run P w = .ok (.map es clock) w:=by simp [getObj,Sem.run,hb]
  have hz' := hM.zero
  cases hq : P.info? e with
  | none=>simp [hq] at hz'
  | some i=>
   cases hz2 : i.zero with
   | none=>simp [hq,hz2] at hz'
   | some zv=>
    simp only [hq,hz2,Option.bind_some,Option.map_some,Option.some.injEq] at hz'
    rcases f2 with ⟨g1,rfl⟩ | ⟨j,v,val,en,g1,rfl,g3,g4,g5,g6,g7⟩
    ·refine ⟨zv,?_,?_⟩
     ·simp [execOp,Instr.lookup,e1,e2,run_underlying hM.und,hgo,hc,hf,zeroValue,typeInfo,hq,hz2]
     ·simp only [mget,g1]
      rw [hz]
      exact (zeroDV_rs hz' (zero_one (T:=T) hz' hM.one) F).mono (FLe.refl _) (GLe.no _)
    ·refine ⟨val,?_,?_⟩
     ·simp [execOp,Instr.lookup,e1,e2,run_underlying hM.und,hgo,hc,hf]
     ·simp only [mget,g1]
      exact g7.mono (FLe.refl _) (GLe.no _)
theorem t_mapUpdate {T k e : TypeId} {gs : List Tg} {zd : DV} [hM : CMap P T k e gs zd] {x y u : Operand} {id : Nat} {K V : Type} {ck : K→List DV} {fv : V→DV} {xs : List (K × V)} {q : K} {v : V} (hck : ∀ a,hasL gs (ck a) = true) (hid : (fv v).ids = []) (hidk : idsL (ck q) = [])
  (hx : ev σ.env x = some (.row id)) (hh : hget σ.heap id = some (.mp (mpL ck fv xs))) (hy : ev σ.env y = some (.agg (ck q))) (hu : ev σ.env u = some (fv v)) :
  OpG P ops ⟨none,.mapUpdate T x y u,ty,pos,af,none⟩ (tm x++(tm y++tm u)) [id] σ ⟨[],[(id,some (.mp (mpL ck fv (mput ck xs q v))))],[]⟩ :=
 OpG.skip rfl rfl fun C F γ σ' a w h1 h2 hs=>by
  have k1:=hs.ev ((ev_agree h1 (fun _ h=>by simp [h])).trans hx)
  have k2:=hs.ev ((ev_agree h1 (fun _ h=>by simp [h])).trans hy)
  have k3:=hs.ev ((ev_agree h1 (fun _ h=>by simp [h])).trans hu)
  have hh' := (h2 id (by simp)).trans hh
  obtain ⟨b,es,clock,e1,hg,hb,hR,hBo⟩ := rs_map hs k1 hh'
  have k3' : Rs F Gam.no (fv v) (a.eval u):=Rs_ids _ _ (by rw [hid]; intro i hi; cases hi) k3
  have k2' : Rs F Gam.no (.agg (ck q)) (a.eval y):=Rs_ids _ _ (by simp only [DV.ids]; rw [hidk]; intro i hi; cases hi) k2
  have k2c:=k2
  simp only [Rs] at k2
  obtain ⟨us,e2,r2⟩ := k2
  obtain ⟨r,f1,f2⟩ := find_run hM hck r2 w xs es.toList 0 hR
  have hc:=hM.check (hck q) r2 false w
  have hf : (Instr.findKey k (.agg us) es.toList).run P w = .ok r w:=by rw [run_findKey_eq w hM.wide]; exact f1
  have hgo : (getObj b).run P w = .ok (.map es clock) w:=by simp [getObj,Sem.run,hb]
  have hso : ∀ o,(setObj b o).run P w = .ok () { w with heap:=w.heap.setIfInBounds b o }:=fun o=>by simp [setObj,Sem.run,hb]
  have main : ∀ es' clock',MpR F (mpL ck fv (mput ck xs q v)) es'.toList→BornOk es' clock'→(Instr.mapUpdate T (a.eval x) (a.eval y) (a.eval u)).run P w = .ok () { w with heap:=w.heap.setIfInBounds b (.map es' clock') }→∃ w',(execOp a.eval ⟨none,.mapUpdate T x y u,ty,pos,af,none⟩).run P w = .ok .skip w' ∧
    WS C F γ ([(id,some (.mp (mpL ck fv (mput ck xs q v))))]++σ'.heap) σ'.used w' := by
   intro es' clock' hR' hBo' hrun
   have hlt : b < w.heap.size:=(Array.getElem?_eq_some_iff.1 hb).1
   have s2 : (w.heap.setIfInBounds b (.map es' clock'))[b]? = some (.map es' clock'):=by simp [hlt]
   have s1 : ∀ r',r'≠b→(w.heap.setIfInBounds b (.map es' clock'))[r']? = w.heap[r']? := fun r' hne=>by simp [Ne.symm hne]
   refine ⟨_,by simp [execOp,hrun]; rfl,?_⟩
   have W:=hs.ws.turn (w' := { w with heap:=w.heap.setIfInBounds b (.map es' clock') }) hh' hg ⟨rfl,rfl,rfl,by simp,fun k _ hk=>s1 k (fun e=>hk (by simp [Value.pblk,e]))⟩
   have W2:=W.put (id0:=id) (e0:=.mp (mpL ck fv (mput ck xs q v))) hg ⟨b,es',clock',rfl,s2,hR',hBo'⟩ (fun b' hb'=>?_)
   ·exact W2.congr (fun i e hi=>over_same id _ _ i e hi) (fun _ h=>h)
   ·have ho:=hs.ws.own id _ _ b' hh' hg hb'
    refine ⟨ho.1,ho.2,fun i e g hne hi hgi hbi=>?_⟩
    rw [hget_cons] at hi
    split at hi
    ·cases hi
    ·exact hne (hs.ws.apart id i _ e _ g b' hh' hi hg hgi hb' hbi).symm
  rcases f2 with ⟨g1,rfl⟩ | ⟨j,v0,val,en,g1,rfl,g3,g4,g5,g6,g7⟩
  ·refine main (es.push { key:=a.eval y,val:=a.eval u,born:=clock }) (clock + 1) ?_ (hBo.push rfl) ?_
   ·simp only [mput,g1,Array.toList_push]
    unfold mpL
    rw [List.map_append]
    exact MpR.push k2' k3' hR
   ·simp [Instr.mapUpdate,e1,e2,run_underlying hM.und,hgo,hc,hf,hso]
  ·refine main (es.modify j fun e=>{ e with key:=a.eval y,val:=a.eval u }) clock ?_ (hBo.modify j _ (fun _=>rfl)) ?_
   ·simp only [mput,g1,Array.toList_modify,Nat.zero_add]
    unfold mpL
    rw [List.map_set]
    exact MpR.set _ j hR (fun e he=>⟨k2',k3'⟩)
   ·have hsb:=(num_sameL 9999 gs (ck q) (ck q) us.toList us.toList hM.num (hck q) (hck q) (by
     have:=num_self gs (ck q) hM.num (hck q)
     exact this) r2 r2).2
    have hst : (Instr.keyThatStays (.agg us) (.agg us)).run P w = .ok (.agg us) w:=by
     have : Instr.sameBits 10000 (.agg us) (.agg us) = true:=by
      simp only [Instr.sameBits,beq_self_eq_true,Bool.true_and]
      exact hsb
     simp [Instr.keyThatStays,this]
    have g4' : es[j]? = some en:=by simpa using g4
    simp [Instr.mapUpdate,e1,e2,run_underlying hM.und,hgo,hc,hf,g4',g6,hst,hso]
end
/-! maps of lists -/
def encSlN {α : Type} (sz : Nat) (f : α→DV) : List α→DV
 | []=>.nils
 | x :: xs=>.sl sz (List.map f (x :: xs))
theorem encSlN_rs {α : Type} {sz : Nat} {f : α→DV} {F : FMap} {γ : Gam} {v : Value} : ∀ {xs : List α},Rs F γ (encSlN sz f xs) v→Rs F γ (.sl sz (xs.map f)) v
 | [],h=>DLe.nils sz F γ v h
 | _ :: _,h=>h
theorem encSlN_of {α : Type} {sz : Nat} {f : α→DV} {F : FMap} {γ : Gam} {v : Value} : ∀ {xs : List α},0 < xs.length→Rs F γ (.sl sz (xs.map f)) v→Rs F γ (encSlN sz f xs) v
 | [],h0,h=>by simp at h0
 | _ :: _,_,h=>h
def ment {K V : Type} (ck : K→List DV) (xs : List (K × V)) (k : K) (z : V) : List (K × V):=match mfind ck k xs 0 with
 | some _=>xs
 | none=>xs++[(k,z)]
def midx {K V : Type} (ck : K→List DV) (xs : List (K × V)) (k : K) : Nat:=match mfind ck k xs 0 with
 | some (i,_)=>i
 | none=>xs.length
def mset {K V : Type} (xs : List (K × V)) (i : Nat) (v : V) : List (K × V):=match xs[i]? with
 | some p=>xs.set i (p.1,v)
 | none=>xs
theorem MpR.len {F : FMap} : ∀ {l : List (DV × DV)} {es : List MapEntry},MpR F l es→es.length = l.length
 | [],es,h=>by simp only [MpR] at h; subst h; rfl
 | x :: l,es,h=>by
  obtain ⟨e,r,rfl,h1,h2,h3⟩ := h
  simp [h3.len]
theorem MpR.get {F : FMap} : ∀ {l : List (DV × DV)} {es : List MapEntry} (j : Nat) {x : DV × DV} {e : MapEntry},MpR F l es→l[j]? = some x→es[j]? = some e→Rs F Gam.no x.1 e.key∧Rs F Gam.no x.2 e.val
 | [],es,j,x,e,h,h1,h2=>by simp at h1
 | y :: l,es,0,x,e,h,h1,h2=>by
  obtain ⟨e0,r,rfl,k1,k2,k3⟩ := h
  simp at h1 h2; subst h1; subst h2
  exact ⟨k1,k2⟩
 | y :: l,es,j + 1,x,e,h,h1,h2=>by
  obtain ⟨e0,r,rfl,k1,k2,k3⟩ := h
  exact MpR.get j k3 (by simpa using h1) (by simpa using h2)
theorem modify_self {α : Type} (f : α→α) : ∀ (es : Array α) (j : Nat),(∀ e,es[j]? = some e→f e = e)→es.modify j f = es:=fun es j h=>by
 apply Array.ext_getElem?
 intro i
 rw [Array.getElem?_modify]
 split
 ·rename_i hij
  subst hij
  cases hq : es[j]? with
  | none=>rfl
  | some e=>simp [h e hq]
 ·rfl
theorem born_find {es : Array MapEntry} {ck n : Nat} (h : BornOk es ck) (hn : n < es.size) : es.findIdx? (fun e=>(e.born : Int) == (n : Int)) = some n:=by
 rw [Array.findIdx?_eq_some_iff_getElem]
 refine ⟨hn,?_,fun j hj=>?_⟩
 ·have:=h.2 n es[n] (by simp [hn])
  simp [this]
 ·have:=h.2 j (es[j]'(by omega)) (by simp [show j < es.size by omega])
  simp [this]; omega
section
variable {P : Program} {ops : Array Oper} {σ : AS} {t : Nat} {ty : TypeId} {pos : String} {af : Array Edge}
theorem OpG.wkVal {o : Oper} {rt rh : List Nat} {d d' : DV} {hp : Heap} {nw : List Nat} (h : OpG P ops o rt rh σ ⟨[(t,d)],hp,nw⟩) (hd : DLe d d') : OpG P ops o rt rh σ ⟨[(t,d')],hp,nw⟩ := by
 intro C F γ σ' a w h1 h2 h3 h4 hs K Q hK
 refine h C F γ σ' a w h1 h2 h3 h4 hs K Q (fun F' γ' a' w' hF hs'=>hK F' γ' a' w' hF ⟨fun i e hi=>?_,hs'.ws,hs'.size,hs'.defers⟩)
 have H:=hs'.env
 simp only [AS.app,List.cons_append,List.nil_append] at H hi ⊢
 by_cases hit : t = i
 ·subst hit
  rw [look_cons,if_pos rfl] at hi
  injection hi with hi; subst hi
  have:=H t d (by rw [look_cons,if_pos rfl])
  exact ⟨this.1,hd _ _ _ this.2⟩
 ·refine H i e ?_
  rw [look_cons,if_neg hit] at hi ⊢
  exact hi
theorem t_lookup_n {T k e : TypeId} {gs : List Tg} {zd : DV} [hM : CMap P T k e gs zd] {x y : Operand} {id sz : Nat} {K α : Type} {ck : K→List DV} {f : α→DV} {xs : List (K × List α)} {q : K} {v : List α} (hv : some (mget ck xs q []) = some v) (hck : ∀ a,hasL gs (ck a) = true) (hz : DV.nils = zd)
  (hx : ev σ.env x = some (.row id)) (hh : hget σ.heap id = some (.mp (mpL ck (encSlN sz f) xs))) (hy : ev σ.env y = some (.agg (ck q))) :
  OpG P ops ⟨some t,.lookup T x y false,ty,pos,af,none⟩ (tm x++tm y) [id] σ ⟨[(t,.sl sz (v.map f))],[],[]⟩ :=
 (t_lookup (fv:=encSlN sz f) hv hck hz hx hh hy).wkVal (fun F γ v' h=>encSlN_rs h)
theorem map_put {C : Ctx} {F : FMap} {γ : Gam} {σ' : AS} {a : Act} {w : World} {P : Program} (hs : Sat C F γ σ' a w) {id b : Nat} {l l' : List (DV × DV)} {es es' : Array MapEntry} {clock clock' : Nat} (hh' : hget σ'.heap id = some (.mp l)) (hg : γ id = some (.map (some b))) (hb : w.heap[b]? = some (.map es clock)) (hR' : MpR F l' es'.toList) (hBo' : BornOk es' clock') :
  WS C F γ ([(id,some (.mp l'))]++σ'.heap) σ'.used { w with heap:=w.heap.setIfInBounds b (.map es' clock') }:=by
 have hlt : b < w.heap.size:=(Array.getElem?_eq_some_iff.1 hb).1
 have s2 : (w.heap.setIfInBounds b (.map es' clock'))[b]? = some (.map es' clock'):=by simp [hlt]
 have s1 : ∀ r',r'≠b→(w.heap.setIfInBounds b (.map es' clock'))[r']? = w.heap[r']? := fun r' hne=>by simp [Ne.symm hne]
 have W:=hs.ws.turn (w' := { w with heap:=w.heap.setIfInBounds b (.map es' clock') }) hh' hg ⟨rfl,rfl,rfl,by simp,fun k _ hk=>s1 k (fun e=>hk (by simp [Value.pblk,e]))⟩
 have W2:=W.put (id0:=id) (e0:=.mp l') hg ⟨b,es',clock',rfl,s2,hR',hBo'⟩ (fun b' hb'=>?_)
 ·exact W2.congr (fun i e hi=>over_same id _ _ i e hi) (fun _ h=>h)
 ·have ho:=hs.ws.own id _ _ b' hh' hg hb'
  refine ⟨ho.1,ho.2,fun i e g hne hi hgi hbi=>?_⟩
  rw [hget_cons] at hi
  split at hi
  ·cases hi
  ·exact hne (hs.ws.apart id i _ e _ g b' hh' hi hg hgi hb' hbi).symm
theorem t_mapEntry_n {T k e : TypeId} {gs : List Tg} {zd : DV} [hM : CMap P T k e gs zd] {x y : Operand} {id sz : Nat} {K α : Type} {ck : K→List DV} {f : α→DV} {xs : List (K × List α)} {q : K} (h0 : mget ck xs q [] = []) (hck : ∀ a,hasL gs (ck a) = true) (hz : DV.nils = zd) (hidk : idsL (ck q) = [])
  (hx : ev σ.env x = some (.row id)) (hh : hget σ.heap id = some (.mp (mpL ck (encSlN sz f) xs))) (hy : ev σ.env y = some (.agg (ck q))) :
  OpG P ops ⟨some t,.mapEntry T x y,ty,pos,af,none⟩ (tm x++tm y) [id] σ ⟨[(t,.tup [.nils,.int .i64 (midx ck xs q : Int)])],[(id,some (.mp (mpL ck (encSlN sz f) (ment ck xs q []))))],[]⟩ :=
 OpG.gen rfl rfl fun C F γ σ' a w h1 h2 h3 hs=>by
  obtain ⟨k1,k2⟩ := ev2 hs h1 hx hy
  have hh' := (h2 id (by simp)).trans hh
  obtain ⟨b,es,clock,e1,hg,hb,hR,hBo⟩ := rs_map hs k1 hh'
  have k2' : Rs F Gam.no (.agg (ck q)) (a.eval y):=Rs_ids _ _ (by simp only [DV.ids]; rw [hidk]; intro i hi; cases hi) k2
  have k2c:=k2
  simp only [Rs] at k2
  obtain ⟨us,e2,r2⟩ := k2
  obtain ⟨r,f1,f2⟩ := find_run hM hck r2 w xs es.toList 0 hR
  have hc:=hM.check (hck q) r2 false w
  have hf : (Instr.findKey k (.agg us) es.toList).run P w = .ok r w:=by rw [run_findKey_eq w hM.wide]; exact f1
  have hgo : (getObj b).run P w = .ok (.map es clock) w:=by simp [getObj,Sem.run,hb]
  have hso : ∀ o,(setObj b o).run P w = .ok () { w with heap:=w.heap.setIfInBounds b o }:=fun o=>by simp [setObj,Sem.run,hb]
  have hz' := hM.zero
  cases hq : P.info? e with
  | none=>simp [hq] at hz'
  | some i=>
   cases hz2 : i.zero with
   | none=>simp [hq,hz2] at hz'
   | some zv=>
    simp only [hq,hz2,Option.bind_some,Option.map_some,Option.some.injEq] at hz'
    have hzr : Rs F γ .nils zv:=by rw [hz]; exact (zeroDV_rs hz' (zero_one (T:=T) hz' hM.one) F).mono (FLe.refl _) (GLe.no _)
    have hzn : Rs F Gam.no (encSlN sz f []) zv:=by simp only [encSlN,Rs] at hzr ⊢; exact hzr
    rcases f2 with ⟨g1,rfl⟩ | ⟨j,v0,val,en,g1,rfl,g3,g4,g5,g6,g7⟩
    ·refine ⟨.tuple #[zv,goInt clock],{ w with heap:=w.heap.setIfInBounds b (.map (es.push { key:=a.eval y,val:=zv,born:=clock }) (clock + 1)) },F,γ,?_,FLe.refl _,GLe.refl _,?_,?_⟩
     ·simp [execOp,Instr.mapEntry,e1,e2,run_underlying hM.und,hgo,hc,hf,zeroValue,typeInfo,hq,hz2,hso]
     ·refine map_put (P:=P) hs hh' hg hb ?_ (hBo.push rfl)
      simp only [ment,g1,Array.toList_push]
      unfold mpL
      rw [List.map_append]
      exact MpR.push k2' hzn hR
     ·have hl : clock = xs.length:=by
       rw [hBo.1]
       have:=hR.len
       simpa [mpL] using this
      simp only [Rs,RsT,midx,g1]
      exact ⟨_,rfl,zv,_,rfl,by simpa [Rs] using hzr,_,[],rfl,by simp [goInt,hl],rfl⟩
    ·have hv0 : v0 = []:=by simp only [mget,g1] at h0; exact h0
     subst hv0
     have g4' : es[j]? = some en:=by simpa using g4
     have hsb:=(num_sameL 9999 gs (ck q) (ck q) us.toList us.toList hM.num (hck q) (hck q) (by
      have:=num_self gs (ck q) hM.num (hck q)
      exact this) r2 r2).2
     have hst : (Instr.keyThatStays (.agg us) (.agg us)).run P w = .ok (.agg us) w:=by
      have : Instr.sameBits 10000 (.agg us) (.agg us) = true:=by
       simp only [Instr.sameBits,beq_self_eq_true,Bool.true_and]
       exact hsb
      simp [Instr.keyThatStays,this]
     have hmod : es.modify j (fun e=>{ e with key:=.agg us }) = es:=modify_self _ es j (fun e' he'=>by
      rw [g4'] at he'; injection he' with he'; subst he'; rw [← g6])
     have hbn : en.born = j:=hBo.2 j en g4'
     refine ⟨.tuple #[val,goInt en.born],{ w with heap:=w.heap.setIfInBounds b (.map es clock) },F,γ,?_,FLe.refl _,GLe.refl _,?_,?_⟩
     ·simp [execOp,Instr.mapEntry,e1,e2,run_underlying hM.und,hgo,hc,hf,g4',g6,hst,hso,hmod]
     ·refine map_put (P:=P) hs hh' hg hb ?_ hBo
      simp only [ment,g1]
      exact hR
     ·simp only [Rs,RsT,midx,g1]
      refine ⟨_,rfl,val,_,rfl,?_,_,[],rfl,by simp [goInt,hbn],rfl⟩
      have:=g7
      simp only [encSlN,Rs] at this
      exact this
theorem t_entryStore_n {T k e : TypeId} {gs : List Tg} {zd : DV} [hM : CMap P T k e gs zd] {x s u : Operand} {id sz : Nat} {K α : Type} {ck : K→List DV} {f : α→DV} {xs : List (K × List α)} {n : Int} {ys : List α} (h : (0≤n∧n.toNat < xs.length)∧0 < ys.length) (hid : (DV.sl sz (ys.map f)).ids = [])
  (hx : ev σ.env x = some (.row id)) (hh : hget σ.heap id = some (.mp (mpL ck (encSlN sz f) xs))) (hs0 : ev σ.env s = some (.int .i64 n)) (hu : ev σ.env u = some (.sl sz (ys.map f))) :
  OpG P ops ⟨none,.entryStore T x s u,ty,pos,af,none⟩ (tm x++(tm s++tm u)) [id] σ ⟨[],[(id,some (.mp (mpL ck (encSlN sz f) (mset xs n.toNat ys))))],[]⟩ :=
 OpG.skip rfl rfl fun C F γ σ' a w h1 h2 hs=>by
  have k1:=hs.ev ((ev_agree h1 (fun _ h=>by simp [h])).trans hx)
  have k2:=hs.ev ((ev_agree h1 (fun _ h=>by simp [h])).trans hs0)
  have k3:=hs.ev ((ev_agree h1 (fun _ h=>by simp [h])).trans hu)
  have hh' := (h2 id (by simp)).trans hh
  obtain ⟨b,es,clock,e1,hg,hb,hR,hBo⟩ := rs_map hs k1 hh'
  have k3' : Rs F Gam.no (.sl sz (ys.map f)) (a.eval u):=Rs_ids _ _ (by rw [hid]; intro i hi; cases hi) k3
  simp only [Rs] at k2
  have hgo : (getObj b).run P w = .ok (.map es clock) w:=by simp [getObj,Sem.run,hb]
  have hso : ∀ o,(setObj b o).run P w = .ok () { w with heap:=w.heap.setIfInBounds b o }:=fun o=>by simp [setObj,Sem.run,hb]
  obtain ⟨⟨p1,p2⟩,p3⟩ := h
  have hn : ((n.toNat : Nat) : Int) = n:=Int.toNat_of_nonneg p1
  have hsz : es.size = xs.length:=by
   have:=hR.len
   simpa [mpL] using this
  have hfi:=born_find hBo (n:=n.toNat) (by omega)
  rw [hn] at hfi
  refine ⟨{ w with heap:=w.heap.setIfInBounds b (.map (es.modify n.toNat fun e=>{ e with val:=a.eval u }) clock) },?_,?_⟩
  ·simp [execOp,Instr.entryStore,e1,k2,asInt,asIntOf,hgo,hfi,hso]
  ·refine map_put (P:=P) hs hh' hg hb ?_ (hBo.modify _ _ (fun _=>rfl))
   obtain ⟨p,hp⟩ : ∃ p,xs[n.toNat]? = some p := ⟨xs[n.toNat],by simp [p2]⟩
   simp only [mset,hp,Array.toList_modify]
   unfold mpL
   rw [List.map_set]
   refine MpR.set _ _ hR (fun e he=>⟨?_,encSlN_of p3 k3'⟩)
   have:=MpR.get (F:=F) n.toNat hR (x:=(.agg (ck p.1),encSlN sz f p.2)) (e:=e) (by simp [mpL,hp]) he
   exact this.1
end
section
variable {P : Program} {ops : Array Oper} {σ : AS} {t : Nat} {ty : TypeId} {pos : String} {af : Array Edge}
theorem t_slice_f {T e : TypeId} {sz by0 : Nat} {zd : DV} [hT : CSl P T e sz by0 zd] {x y u : Operand} {els : List DV} {k k' : IntKind} {m m' : Int} (h : m = (els.length : Int)∧m' = (els.length : Int)) (hx : ev σ.env x = some (.sl sz els)) (hy : ev σ.env y = some (.int k m)) (hu : ev σ.env u = some (.int k' m')) :
  OpG P ops ⟨some t,.slice T x none (some y) (some u),ty,pos,af,none⟩ (tm x++(tm y++tm u)) [] σ ⟨[(t,.fs sz els)],[],[]⟩ :=
 OpG.val rfl rfl fun C F γ σ' a w hag _ hs=>by
  have k1:=hs.ev ((ev_agree hag (fun _ h=>by simp [h])).trans hx)
  have k2:=hs.ev ((ev_agree hag (fun _ h=>by simp [h])).trans hy)
  have k3:=hs.ev ((ev_agree hag (fun _ h=>by simp [h])).trans hu)
  simp only [Rs] at k1 k2 k3
  obtain ⟨A,c,e1,hok,hd⟩ := k1
  obtain ⟨rfl,rfl⟩ := h
  have hb : (Instr.sliceBounds true els.length c none (some (.int k (els.length : Int))) (some (.int k' (els.length : Int)))).run P w = .ok (0,els.length,els.length) w:=by
   simp [Instr.sliceBounds,run_bound (Nat.le_refl els.length),run_bound hok.2.1]
  refine ⟨.slice A els.length els.length,?_,?_⟩
  ·simp [execOp,Instr.sliceAt,Instr.slice,run_underlying hT.und,e1,k2,k3,hb,hT.size,Addr.add]
  ·simp only [Rs]
   exact ⟨A,rfl,⟨fun h=>by have:=hok.1 h; exact ⟨this.1,this.1⟩,Nat.le_refl _,Nat.le_trans hok.2.1 hok.2.2⟩,hd⟩
theorem o_append_f {T e : TypeId} {sz bytes : Nat} {zd : DV} [hT : CSl P T e sz bytes zd] {x y : Operand} {dy : DV} {xs ys : List DV} {rh : List Nat} (hx : ev σ.env x = some (.fs sz xs)) (hy : ev σ.env y = some dy) (hS : Src σ sz dy ys rh) (h0 : 0 < ys.length) (hb : (xs.length + ys.length) * bytes≤140737488355328∧xs.length + ys.length≤140737488355328) :
  OpG P ops ⟨some t,.call ⟨.builtin .append,#[x,y],#[T,T]⟩,ty,pos,af,none⟩ (tm x++tm y) rh σ ⟨[(t,.row t)],[(t,some (.row e sz (xs++ys)))],[t]⟩ :=
 OpG.gen rfl rfl fun C F γ σ' a w hag h2 h3 hs=>by
  obtain ⟨k1,k2⟩ := ev2 hs hag hx hy
  simp only [Rs] at k1
  have hn : t ∉ σ'.used:=h3 t (by simp)
  obtain ⟨A,c,vs,ey,hat,hE⟩ := hS.read hs h2 k2
  obtain ⟨A0,ex,hok,hd⟩ := k1
  obtain ⟨vs0,hat0,hE0⟩ : ∃ vs0,At w A0 vs0∧RsE F sz xs vs0:=by
   by_cases hne : xs = []
   ·subst hne; exact ⟨[],At.nil _ _,by simp [RsE]⟩
   ·obtain ⟨b,o,cs,vs,rest,rfl,hF,hcs,hE⟩ := hd hne
    obtain ⟨t,fz,h1⟩ := hs.ws.fs b cs hF
    refine ⟨vs,At.mk (fun _=>⟨b,o,rfl,fun j v hv=>?_⟩),hE⟩
    have:=blk_range h1 o
    rw [hcs] at this
    exact this j v (by rw [List.getElem?_append_left]; exact hv; exact (List.getElem?_eq_some_iff.1 hv).1)
  obtain ⟨z,hEl,hzd⟩ := hT.h
  obtain ⟨i,hi,hiz,hisz,hiby⟩ := hEl.info
  have hvne : vs≠[]:=by
   intro e
   have:=hE.len
   rw [e] at this
   have hp:=hEl.pos
   have : 0 < ys.length * sz:=Nat.mul_pos h0 hp
   simp at *
   omega
  obtain ⟨bb,oo,rfl,hr⟩ := hat.elim hvne
  have hnx : Builtin.nextslicecap (xs.length + ys.length) xs.length * i.bytes≤281474976710656:=by
   rw [hiby]
   exact growslice_fits (by omega) hb.1
  have hrun : ∃ w',w' = w.drew.alloc (.cells (vs0.toArray++vs.toArray++Builtin.zeroCells z.cells (grownCap w (xs.length + ys.length) xs.length e - (xs.length + ys.length))) e)∧(Builtin.append_ #[T,T] ty #[.slice A0 xs.length xs.length,.slice (some ⟨bb,oo,none⟩) ys.length c]).run P w = .ok (.slice (some ⟨w.heap.size,0,none⟩) (xs.length + ys.length) (grownCap w (xs.length + ys.length) xs.length e)) w' := by
   refine ⟨_,rfl,?_⟩
   cases A0 with
   | none=>
    have hx0 : xs.length = 0:=(hok.1 rfl).1
    have hv0 : vs0 = []:=by
     have:=hE0.len
     rw [hx0] at this
     exact List.eq_nil_of_length_eq_zero (by simpa using this)
    have:=run_append_nil (P:=P) w T ty e i z hEl.under hi hiz ⟨bb,oo,none⟩ ys.length c vs (by rw [hisz]; exact hE.len) (At.add (At.mk (fun _=>⟨bb,oo,rfl,hr⟩))) h0 (by omega) (by rw [hiby]; have:=hb.1; rw [hx0,Nat.zero_add] at this; omega)
    rw [hx0,Nat.zero_add,hv0,this]
    simp
   | some ad=>
    exact run_append_grow (P:=P) w T ty e i z hEl.under hi hiz ad xs.length xs.length vs0 (by rw [hisz]; exact hE0.len) hat0.add ⟨bb,oo,none⟩ ys.length c vs (by rw [hisz]; exact hE.len) (At.add (At.mk (fun _=>⟨bb,oo,rfl,hr⟩))) (by omega) (by omega) hnx
  obtain ⟨w',hw',hrun⟩ := hrun
  have hcap:=grownCap_ge w (xs.length + ys.length) xs.length e
  have hcap2:=grownCap_le_maxLen w (xs.length + ys.length) xs.length e (by unfold maxLen; omega)
  generalize grownCap w (xs.length + ys.length) xs.length e = cap at hrun hcap hcap2 hw'
  subst hw'
  have hEE:=hE0.append hE
  have hzs : z.cells.size = sz:=hEl.zsize
  refine ⟨.slice (some ⟨w.heap.size,0,none⟩) (xs.length + ys.length) cap,_,F,γ.up t (.slice (some ⟨w.heap.size,0,none⟩) (xs.length + ys.length) cap),run_append _ x y rfl a w ex ey hrun,FLe.refl _,Gam.up_le _ (hs.ws.fresh hn),?_,?_⟩
  ·refine (hs.ws.quiet (Stp.drew w)).addNew hn _ (fun b hb=>by simp [Value.pblk] at hb; exact hb.symm) ?_
   have hlen : (vs0++vs).length = (xs.length + ys.length) * sz:=by
    have:=hEE.len
    rw [show (xs++ys).length = xs.length + ys.length from List.length_append] at this
    exact this
   refine ⟨vs0++vs,⟨by rw [hlen,List.length_append],.inr ⟨w.heap.size,cap,_,by rw [List.length_append],Nat.zero_le _,heap_alloc_new w.drew _,by rw [List.length_append]; exact hcap,hcap2,?_,?_⟩⟩,hEE⟩
   ·simp only [Array.size_append,size_zeroCells,hzs,List.size_toArray]
    rw [List.length_append] at hlen
    have : xs.length + ys.length + (cap - (xs.length + ys.length)) = cap:=by omega
    rw [hlen,← Nat.add_mul,this]
   ·rw [List.length_append]
    rw [← hlen]
    simp only [Array.toList_append]
    rw [List.take_append_of_le_length (by simp),List.take_of_length_le (by simp)]
  ·simp only [Rs]; exact Gam.up_same _ _ _
theorem t_append_f {T e : TypeId} {sz bytes : Nat} {zd : DV} [hT : CSl P T e sz bytes zd] {x y : Operand} {dy : DV} {rh : List Nat} {α : Type} {f : α→DV} {xs : List α} (ys : List α) (h : 0 < ys.length∧apOk bytes (xs.length + ys.length)) (hx : ev σ.env x = some (.fs sz (xs.map f))) (hy : ev σ.env y = some dy) (hS : Src σ sz dy (ys.map f) rh) :
  OpG P ops ⟨some t,.call ⟨.builtin .append,#[x,y],#[T,T]⟩,ty,pos,af,none⟩ (tm x++tm y) rh σ ⟨[(t,.row t)],[(t,some (.row e sz ((xs++ys).map f)))],[t]⟩ :=
 (o_append_f hx hy hS (by rw [List.length_map]; exact h.1) (by rw [List.length_map,List.length_map]; exact h.2)).cast (by rw [List.map_append])
/-! rows that slide: what is behind the first elements of a row of the call's own -/
theorem rs_sow {C : Ctx} {F : FMap} {γ : Gam} {σ : AS} {a : Act} {w : World} (hs : Sat C F γ σ a w) {id E sz : Nat} {v : Value} {els : List DV} (hv : Rs F γ (.row id) v) (hh : hget σ.heap id = some (.sow E sz els)) :
  γ id = some v∧Ent F γ w (.sow E sz els) v:=by
 simp only [Rs] at hv
 obtain ⟨g,h1,h2⟩ := hs.ws.ent id _ hh
 rw [h1] at hv; injection hv with hv
 subst hv
 exact ⟨h1,h2⟩
theorem sow_form {F : FMap} {γ : Gam} {w : World} {E sz : Nat} {els : List DV} {v : Value} (h : Ent F γ w (.sow E sz els) v) : ∃ A c,v = .slice A els.length c∧els.length≤c∧c≤maxLen:=by
 rcases h with ⟨rfl,rfl⟩ | ⟨b,off,c,cur,rfl,h2,h3,h4,h5,h6⟩
 ·exact ⟨none,0,rfl,Nat.le_refl _,Nat.zero_le _⟩
 ·exact ⟨_,c,rfl,h3,h4⟩
theorem t_len_s {T e : TypeId} {sz0 by0 : Nat} {zd : DV} [hT : CSl P T e sz0 by0 zd] {x : Operand} {id E sz : Nat} {α : Type} {xs : List α} {f : α→DV} (hx : ev σ.env x = some (.row id)) (hh : hget σ.heap id = some (.sow E sz (xs.map f))) :
  OpG P ops ⟨some t,.call ⟨.builtin .len,#[x],#[T]⟩,ty,pos,af,none⟩ (tm x) [id] σ ⟨[(t,.int .i64 xs.length)],[],[]⟩ :=
 OpG.val rfl rfl fun C F γ σ' a w h1 h2 hs=>by
  have k1:=hs.ev ((ev_agree h1 (fun _ h=>h)).trans hx)
  obtain ⟨_,he⟩ := rs_sow hs k1 ((h2 id (by simp)).trans hh)
  obtain ⟨A,c,e,_⟩ := sow_form he
  rw [List.length_map] at e
  exact ⟨.int .i64 xs.length,run_len hT.und _ x rfl a w e,by simp only [Rs]⟩
theorem o_indexAddr_s {T e : TypeId} {sz by0 : Nat} {zd : DV} [hT : CSl P T e sz by0 zd] {x y : Operand} {id E : Nat} {els : List DV} {k : IntKind} {n : Int} (i : Nat) (hx : ev σ.env x = some (.row id)) (hh : hget σ.heap id = some (.sow E sz els)) (hy : ev σ.env y = some (.int k n)) (hn : n = (i : Int)) (hi : i < els.length) :
  OpG P ops ⟨some t,.indexAddr T x y,ty,pos,af,none⟩ (tm x++tm y) [id] σ ⟨[(t,.sp id i sz 0)],[],[]⟩ :=
 OpG.val rfl rfl fun C F γ σ' a w hag h2 hs=>by
  obtain ⟨k1,k2⟩ := ev2 hs hag hx hy
  obtain ⟨hg,he⟩ := rs_sow hs k1 ((h2 id (by simp)).trans hh)
  simp only [Rs] at k2
  subst hn
  rcases he with ⟨_,h0⟩ | ⟨b,off,c,cur,e,q2,q3,q4,q5,q6⟩
  ·subst h0; simp at hi
  ·refine ⟨.pointer (some ⟨b,off + i * sz,none⟩),?_,?_⟩
   ·by_cases h0 : i * sz = 0
    ·simp [execOp,Instr.indexAt,e,k2,asIntOf,run_underlying hT.und,hi,hT.size,Addr.add,h0]
    ·simp [execOp,Instr.indexAt,e,k2,asIntOf,run_underlying hT.und,hi,hT.size,Addr.add,h0]
   ·simp only [Rs]
    rw [e] at hg
    exact ⟨b,off,_,c,hg,by simp⟩
theorem t_index_s {T e : TypeId} {sz by0 : Nat} {zd : DV} [hT : CSl P T e sz by0 zd] {x y : Operand} {id E : Nat} {k : IntKind} {n : Int} {α : Type} {xs : List α} {f : α→DV} {a : α} (h : idx xs n = some a) (hx : ev σ.env x = some (.row id)) (hh : hget σ.heap id = some (.sow E sz (xs.map f))) (hy : ev σ.env y = some (.int k n)) :
  OpG P ops ⟨some t,.indexAddr T x y,ty,pos,af,none⟩ (tm x++tm y) [id] σ ⟨[(t,.sp id n.toNat sz 0)],[],[]⟩ := by
 obtain ⟨h1,h2⟩ := idx_get h
 exact o_indexAddr_s n.toNat hx hh hy (by omega) (by rw [List.length_map]; exact (List.getElem?_eq_some_iff.1 h2).1)
theorem o_fieldAddr_s {T : TypeId} {i fo n : Nat} {ft : TypeId} [hF : CFld P T i fo n ft] {x : Operand} {id j sz o : Nat} (hx : ev σ.env x = some (.sp id j sz o)) : OpG P ops ⟨some t,.fieldAddr T x i,ty,pos,af,none⟩ (tm x) [] σ ⟨[(t,.sp id j sz (o + fo))],[],[]⟩ :=
 OpG.val rfl rfl fun C F γ σ' a w h1 h2 hs=>by
  have k1:=hs.ev ((ev_agree h1 (fun _ h=>h)).trans hx)
  simp only [Rs] at k1
  obtain ⟨b,off,n,c,hg,e⟩ := k1
  refine ⟨_,by simp [execOp,e,run_fieldAt]; rfl,?_⟩
  simp only [Rs]; exact ⟨b,off,n,c,hg,by rw [Nat.add_assoc]⟩
theorem o_load_sp {T' : TypeId} {x : Operand} {id i sz o E : Nat} {els : List DV} {d r : DV} (hx : ev σ.env x = some (.sp id i sz o)) (hh : hget σ.heap id = some (.sow E sz els)) (hd : els[i]? = some d) (hf : d.flat = true) (hl : LoadD P T' (d.cs.drop o) r) :
  OpG P ops ⟨some t,.load T' x,ty,pos,af,none⟩ (tm x) [id] σ ⟨[(t,r)],[],[]⟩ :=
 OpG.val rfl rfl fun C F γ σ' a w h1 h2 hs=>by
  have k1:=hs.ev ((ev_agree h1 (fun _ h=>h)).trans hx)
  simp only [Rs] at k1
  obtain ⟨b0,off0,n0,c0,hg0,e⟩ := k1
  obtain ⟨g,hg,he⟩ := hs.ws.ent id _ ((h2 id (by simp)).trans hh)
  rw [hg0] at hg; injection hg with hg; subst hg
  have hlt : i < els.length:=(List.getElem?_eq_some_iff.1 hd).1
  rcases he with ⟨q,_⟩ | ⟨b,off,c,cur,q1,q2,q3,q4,q5,q6⟩
  ·cases q
  ·injection q1 with q1 q1b q1c
   injection q1 with q1; injection q1 with q1 q1d _
   subst q1; subst q1d; subst q1b; subst q1c
   obtain ⟨vd,p1,p2,p3,p4⟩ := q6.get hd
   have hcs:=RsL.cs p4 GOne.no hf
   have hr : w.rangeAt b0 (off0 + i * sz + o) (vd.cells.toList.drop o):=by
    intro j v hv
    rw [List.getElem?_drop] at hv
    have hj : o + j < sz:=by
     have:=(List.getElem?_eq_some_iff.1 hv).1
     rw [Array.length_toList,p2] at this; exact this
    rw [← p1,List.getElem?_take,if_pos hj,List.getElem?_drop] at hv
    rw [List.getElem?_take] at hv
    have hm : (i + 1) * sz≤els.length * sz:=Nat.mul_le_mul_right _ hlt
    rw [Nat.succ_mul] at hm
    rw [if_pos (by omega),List.getElem?_drop] at hv
    rw [cell_of_row w b0 _ cur E (0,0) q2]
    rw [show off0 + i * sz + o + j = off0 + (i * sz + (o + j)) by omega]
    simpa using hv
   obtain ⟨v,z1,z2,_⟩ := load_rs hl hr (hcs.drop o)
   exact ⟨v,by simp [execOp,e,Instr.loadAt,Instr.sureAddr,z1],z2.mono (FLe.refl _) (GLe.no _)⟩
theorem t_load_ss {T' : TypeId} {x : Operand} {id sz o E : Nat} {n : Int} {α : Type} {xs : List α} {f : α→DV} {a : α} {r : DV} [hT : CSc P T'] (h : idx xs n = some a) (hx : ev σ.env x = some (.sp id n.toNat sz o)) (hh : hget σ.heap id = some (.sow E sz (xs.map f))) (hf : (f a).flat = true) (hl : (f a).cs[o]? = some r) :
  OpG P ops ⟨some t,.load T' x,ty,pos,af,none⟩ (tm x) [id] σ ⟨[(t,r)],[],[]⟩ := o_load_sp hx hh (idxE_map h) hf (.sc hT.h (by rw [head_drop]; exact hl))
theorem t_load_sr {T' : TypeId} {x : Operand} {id sz o E m : Nat} {n : Int} {α : Type} {xs : List α} {f : α→DV} {a : α} {ds' : List DV} [hT : CRow P T' m] (h : idx xs n = some a) (hx : ev σ.env x = some (.sp id n.toNat sz o)) (hh : hget σ.heap id = some (.sow E sz (xs.map f))) (hf : (f a).flat = true) (hn : Nat.ble m ((f a).cs.drop o).length = true) (hl : ((f a).cs.drop o).take m = ds') :
  OpG P ops ⟨some t,.load T' x,ty,pos,af,none⟩ (tm x) [id] σ ⟨[(t,.agg ds')],[],[]⟩ := o_load_sp hx hh (idxE_map h) hf (.row m hT.h (Nat.le_of_ble_eq_true hn) (by rw [hl]))
theorem sow_drop {F : FMap} {γ : Gam} {w : World} {E sz : Nat} {els : List DV} {A : Option Addr} {c : Nat} (h : Ent F γ w (.sow E sz els) (.slice A els.length c)) {l : Nat} (hl : l≤els.length) : Ent F γ w (.sow E sz (els.drop l)) (.slice (if c - l = 0 then A else A.map (·.add (l * sz))) (els.length - l) (c - l))∧Value.pblk (.slice (if c - l = 0 then A else A.map (·.add (l * sz))) (els.length - l) (c - l)) = Value.pblk (.slice A els.length c):=by
 rcases h with ⟨q,rfl⟩ | ⟨b,off,c',cur,q1,q2,q3,q4,q5,q6⟩
 ·injection q with q1 q2 q3
  subst q1; subst q3
  simp at hl
  subst hl
  exact ⟨.inl ⟨rfl,rfl⟩,rfl⟩
 ·injection q1 with q1 _ q1c
  subst q1; subst q1c
  by_cases h0 : c - l = 0
  ·rw [if_pos h0]
   have hel : els.drop l = []:=List.eq_nil_of_length_eq_zero (by simp; omega)
   have hlen : els.length - l = 0:=by omega
   refine ⟨.inr ⟨b,off,0,cur,?_,q2,by rw [hel]; exact Nat.le_refl _,Nat.zero_le _,by omega,?_⟩,rfl⟩
   ·rw [hel,hlen,h0]; rfl
   ·rw [hel]; simp [RsE]
  ·have ea : (some (⟨b,off,none⟩ : Addr)).map (·.add (l * sz)) = some ⟨b,off + l * sz,none⟩ := by simp [Addr.add_lit]
   rw [if_neg h0,ea]
   have hm : l * sz≤c * sz:=Nat.mul_le_mul_right _ (by omega)
   have e1 : (c - l) * sz = c * sz - l * sz:=Nat.sub_mul _ _ _
   have e2 : (els.length - l) * sz = els.length * sz - l * sz:=Nat.sub_mul _ _ _
   refine ⟨.inr ⟨b,off + l * sz,c - l,cur,?_,q2,by rw [List.length_drop]; omega,by omega,by omega,?_⟩,rfl⟩
   ·rw [List.length_drop]
   ·have:=q6.drop l
    rw [List.drop_take,List.drop_drop] at this
    rw [List.length_drop,e2]
    exact this
theorem o_slice_lo {T e : TypeId} {sz by0 : Nat} {zd : DV} [hT : CSl P T e sz by0 zd] {x y : Operand} {id : Nat} {k : IntKind} {els : List DV} {n : Int} {he0 : HE} (l : Nat) (hx : ev σ.env x = some (.row id)) (hh : hget σ.heap id = some he0) (hle : HLe he0 (.sow e sz els)) (hy : ev σ.env y = some (.int k n)) (hn : n = (l : Int)) (hl : l≤els.length) :
  OpG P ops ⟨some t,.slice T x (some y) none none,ty,pos,af,none⟩ (tm x++tm y) [id] σ ⟨[(t,.row t)],[(t,some (.sow e sz (els.drop l))),(id,none)],[t]⟩ :=
 OpG.gen rfl rfl fun C F γ σ' a w hag h2 h3 hs=>by
  obtain ⟨k1,k2⟩ := ev2 hs hag hx hy
  have hnu : t ∉ σ'.used:=h3 t (by simp)
  have hh' := (h2 id (by simp)).trans hh
  simp only [Rs] at k1 k2
  obtain ⟨g,hg,he1⟩ := hs.ws.ent id _ hh'
  rw [hg] at k1; injection k1 with k1; subst k1
  have he:=hle.ent he1
  obtain ⟨A,c,eA,hc1,hc2⟩ := sow_form he
  rw [eA] at he
  obtain ⟨hd1,hd2⟩ := sow_drop he hl
  have hb:=run_bounds (P:=P) hs (lo:=some y) (hi:=none) (l:=l) (h:=els.length) (len:=els.length) (cap:=c) (Bd.at ((ev_agree hag (fun _ h=>by simp [h])).trans hy) hn) Bd.no hl (by omega)
  simp only [Option.map_none,Option.map_some] at hb
  refine ⟨.slice (if c - l = 0 then A else A.map (·.add (l * sz))) (els.length - l) (c - l),w,F,γ.up t (.slice (if c - l = 0 then A else A.map (·.add (l * sz))) (els.length - l) (c - l)),?_,FLe.refl _,Gam.up_le _ (hs.ws.fresh hnu),?_,?_⟩
  ·simp [execOp,Instr.sliceAt,Instr.slice,run_underlying hT.und,eA,hb,hT.size]
   by_cases h : c = l
   ·rw [if_pos h,if_pos (by omega)]
   ·rw [if_neg h,if_neg (by omega)]
  ·refine (hs.ws.forget id).add hnu hd1 (fun b hb'=>?_)
   rw [hd2,← eA] at hb'
   have q:=hs.ws.own id _ _ b hh' hg hb'
   refine ⟨q.1,q.2,fun id' e' g' hh2 hg' hb''=>?_⟩
   rw [hget_cons] at hh2
   split at hh2
   ·cases hh2
   ·rename_i hne; exact hne (hs.ws.apart id id' _ e' _ g' b hh' hh2 hg hg' hb' hb'')
  ·simp only [Rs]; exact Gam.up_same _ _ _
theorem t_slice_lr {T e : TypeId} {sz by0 : Nat} {zd : DV} [hT : CSl P T e sz by0 zd] {x y : Operand} {id : Nat} {k : IntKind} {α : Type} {f : α→DV} {xs : List α} {n : Int} (h : slOk xs.length n xs.length) (hx : ev σ.env x = some (.row id)) (hh : hget σ.heap id = some (.row e sz (xs.map f))) (hy : ev σ.env y = some (.int k n)) :
  OpG P ops ⟨some t,.slice T x (some y) none none,ty,pos,af,none⟩ (tm x++tm y) [id] σ ⟨[(t,.row t)],[(t,some (.sow e sz ((xs.drop n.toNat).map f))),(id,none)],[t]⟩ := by
 obtain ⟨h1,h2,h3⟩ := h
 refine (o_slice_lo n.toNat hx hh .sow hy (by omega) (by simp; omega)).cast (by rw [List.map_drop])
theorem t_slice_ls {T e : TypeId} {sz by0 : Nat} {zd : DV} [hT : CSl P T e sz by0 zd] {x y : Operand} {id : Nat} {k : IntKind} {α : Type} {f : α→DV} {xs : List α} {n : Int} (h : slOk xs.length n xs.length) (hx : ev σ.env x = some (.row id)) (hh : hget σ.heap id = some (.sow e sz (xs.map f))) (hy : ev σ.env y = some (.int k n)) :
  OpG P ops ⟨some t,.slice T x (some y) none none,ty,pos,af,none⟩ (tm x++tm y) [id] σ ⟨[(t,.row t)],[(t,some (.sow e sz ((xs.drop n.toNat).map f))),(id,none)],[t]⟩ := by
 obtain ⟨h1,h2,h3⟩ := h
 refine (o_slice_lo n.toNat hx hh (.refl _) hy (by omega) (by simp; omega)).cast (by rw [List.map_drop])
theorem run_append_off {w : World} (t ty e : TypeId) (i : TypeInfo) (ht : P.underlying t = some (.slice e)) (hi : P.info? e = some i)
  (g off sLen sCap : Nat) (cur : Array Value) (hg : w.heap[g]? = some (.cells cur e (0,0)))
  (a : Addr) (m c : Nat) (news : List Value) (hl : news.length = m * i.size) (hnews : ∀ j u,news[j]? = some u→w.cell? (a.add j) = some u) (h1 : ∀ u∈news,u.oneCell' = true)
  (hroom : sLen + m≤sCap) (hfit : off + sLen * i.size + news.length≤cur.size) :
  (Builtin.append_ #[t,t] ty #[.slice (some ⟨g,off,none⟩) sLen sCap,.slice (some a) m c]).run P w =
   .ok (.slice (some ⟨g,off,none⟩) (sLen + m) sCap) (w.setRow g (cur.toList.take (off + sLen * i.size)++news++cur.toList.drop (off + sLen * i.size + news.length)).toArray):=by
 have hf:=run_firstCells_some (P:=P) w i.size m a m c news hl hnews
 have hst:=run_storeCells_at P g (off + sLen * i.size) e news 0 cur w hg (by simpa using hfit) h1
 simp only [Nat.add_zero] at hst
 simp [Builtin.append_,run_underlying ht,sizeOf,typeInfo,hi,Builtin.lenOf,hroom,hf,Addr.add_lit,hst]
theorem o_append_s {T e : TypeId} {sz bytes : Nat} {zd : DV} [hT : CSl P T e sz bytes zd] {x y : Operand} {id : Nat} {xs : List DV} {dy : DV} {ys : List DV} {rh : List Nat} (hx : ev σ.env x = some (.row id)) (hh : hget σ.heap id = some (.sow e sz xs)) (hy : ev σ.env y = some dy) (hS : Src σ sz dy ys rh) (h0 : 0 < ys.length)
  (hb : (xs.length + ys.length) * bytes≤140737488355328∧xs.length + ys.length≤140737488355328) :
  OpG P ops ⟨some t,.call ⟨.builtin .append,#[x,y],#[T,T]⟩,ty,pos,af,none⟩ (tm x++tm y) (id :: rh) σ ⟨[(t,.row t)],[(t,some (.sow e sz (xs++ys))),(id,none)],[t]⟩ :=
 OpG.gen rfl rfl fun C F γ σ' a w hag h2 h3 hs=>by
  obtain ⟨k1,k2⟩ := ev2 hs hag hx hy
  have hn : t ∉ σ'.used:=h3 t (by simp)
  have hh' := (h2 id (by simp)).trans hh
  obtain ⟨hg0,he⟩ := rs_sow hs k1 hh'
  obtain ⟨A,c,vs,ey,hat,hE⟩ := hS.read hs (fun i hi=>h2 i (by simp [hi])) k2
  obtain ⟨z,hEl,_⟩ := hT.h
  obtain ⟨i,hi,hiz,hisz,hiby⟩ := hEl.info
  have hvne : vs≠[]:=by
   intro e
   have:=hE.len
   rw [e] at this
   have : 0 < ys.length * sz:=Nat.mul_pos h0 hEl.pos
   simp at *
   omega
  obtain ⟨bb,oo,rfl,hr⟩ := hat.elim hvne
  have hadd:=At.add (At.mk (vs:=vs) (A:=some ⟨bb,oo,none⟩) (fun _=>⟨bb,oo,rfl,hr⟩))
  have fresh : ∀ (v' : Value) (w' : World),(Builtin.append_ #[T,T] ty #[a.eval x,.slice (some ⟨bb,oo,none⟩) ys.length c]).run P w = .ok v' w'→Stp w w' (Value.pblk (a.eval x))→Ent F γ w' (.sow e sz (xs++ys)) v'→(∀ b,Value.pblk v' = some b→Value.pblk (a.eval x) = some b∨w.heap.size≤b) →
    ∃ v w' F' γ',(execOp a.eval ⟨some t,.call ⟨.builtin .append,#[x,y],#[T,T]⟩,ty,pos,af,none⟩).run P w = .ok (.value v) w'∧FLe F F'∧GLe γ γ'∧WS C F' γ' ([(t,some (.sow e sz (xs++ys))),(id,none)]++σ'.heap) ([t]++σ'.used) w'∧Rs F' γ' (.row t) v:=by
   intro v' w' hrun S hent hblk
   refine ⟨v',w',F,γ.up t v',run_append _ x y rfl a w rfl ey hrun,FLe.refl _,Gam.up_le _ (hs.ws.fresh hn),?_,?_⟩
   ·have W:=hs.ws.turn hh' hg0 S
    refine W.add hn hent (fun b hb'=>?_)
    rcases hblk b hb' with h | h
    ·have q:=hs.ws.own id _ _ b hh' hg0 h
     refine ⟨q.1,q.2,fun id' e' g' hh2 hg' hb''=>?_⟩
     rw [hget_cons] at hh2
     split at hh2
     ·cases hh2
     ·rename_i hne; exact hne (hs.ws.apart id id' _ e' _ g' b hh' hh2 hg0 hg' h hb'')
    ·refine ⟨?_,.inr (Nat.le_trans hs.ws.size h),fun id' e' g' hh2 hg' hb''=>?_⟩
     ·cases hF : F b with
      | none=>rfl
      | some cs=>exact absurd (hs.ws.flt hF) (Nat.not_lt.2 h)
     ·rw [hget_cons] at hh2
      split at hh2
      ·cases hh2
      ·obtain ⟨g1,q1,q2⟩ := hs.ws.ent id' e' hh2
       rw [hg'] at q1; injection q1 with q1; subst q1
       exact absurd (q2.lt _ hb'') (Nat.not_lt.2 h)
   ·simp only [Rs]; exact Gam.up_same _ _ _
  have ofOwn : ∀ (v' : Value) (w' : World) (us : List Value),w'.ownsRow 0 e sz v' (xs.length + ys.length) us→RsE F sz (xs++ys) us→Ent F γ w' (.sow e sz (xs++ys)) v' := by
   intro v' w' us ho hEE
   refine HLe.sow.ent (e:=.row e sz (xs++ys)) ⟨us,?_,hEE⟩
   rw [List.length_append]; exact ho
  rcases he with ⟨q,rfl⟩ | ⟨b,off,cc,cur,q1,q2,q3,q4,q5,q6⟩
  ·obtain ⟨A',c',w',hrun,ho,hg,hob⟩ := run_app (P:=P) w hEl ty 0 (.slice none 0 0) 0 [] (own_nil _ _ _ _) (some ⟨bb,oo,none⟩) ys.length c vs hE.len (At.mk (fun _=>⟨bb,oo,rfl,hr⟩)) hE.one (by simpa using hb.1) (by simpa using hb.2) (Nat.zero_le _)
   rw [← q] at hrun
   refine fresh _ _ hrun ?_ (ofOwn _ _ _ (by simpa using ho) (by simpa using hE)) (fun b hb'=>?_)
   ·rw [q]; exact Stp.of_grown hg
   ·rw [pblk_row ho] at hb'
    rcases hob with h | h
    ·simp only [Value.ownBlock] at h hb'; rw [hb'] at h; cases h
    ·rw [hb'] at h; injection h with h; exact .inr (Nat.le_of_eq h.symm)
  ·by_cases hroom : xs.length + ys.length≤cc
   ·have hvl:=hE.len
    have e1 : (xs.length + ys.length) * sz = xs.length * sz + ys.length * sz:=Nat.add_mul _ _ _
    have e2:=Nat.mul_le_mul_right sz hroom
    have hrun:=run_append_off (P:=P) (w:=w) T ty e i hEl.under hi b off xs.length cc cur q2 ⟨bb,oo,none⟩ ys.length c vs (by rw [hisz]; exact hvl) hadd hE.one hroom (by rw [hisz]; omega)
    rw [← q1,hisz] at hrun
    obtain ⟨s1,s2⟩ := Stp.setRow (cur.toList.take (off + xs.length * sz)++vs++cur.toList.drop (off + xs.length * sz + vs.length)).toArray q2
    have hcl : cur.toList.length = cur.size:=Array.length_toList
    have hsz : ((cur.toList.take (off + xs.length * sz)++vs++cur.toList.drop (off + xs.length * sz + vs.length)).toArray).size = cur.size:=by
     simp only [List.size_toArray,List.length_append,List.length_take,List.length_drop,hcl]
     omega
    refine fresh _ _ hrun (by rw [q1]; exact s1) (.inr ⟨b,off,cc,_,by rw [List.length_append],s2,by rw [List.length_append]; exact hroom,q4,by rw [hsz]; exact q5,?_⟩) (fun b' hb'=>.inl (by rw [q1]; exact hb'))
    rw [List.length_append,e1]
    have hl1 : (cur.toList.take (off + xs.length * sz)).length = off + xs.length * sz:=by rw [List.length_take,hcl]; omega
    have e3 : ((cur.toList.take (off + xs.length * sz)++vs++cur.toList.drop (off + xs.length * sz + vs.length)).toArray.toList.drop off).take (xs.length * sz + ys.length * sz) = (cur.toList.drop off).take (xs.length * sz)++vs:=by
     show ((cur.toList.take (off + xs.length * sz)++vs++cur.toList.drop (off + xs.length * sz + vs.length)).drop off).take (xs.length * sz + ys.length * sz) = _
     rw [List.append_assoc,List.drop_append_of_le_length (by omega),List.drop_take,show off + xs.length * sz - off = xs.length * sz by omega]
     have hl2 : ((cur.toList.drop off).take (xs.length * sz)).length = xs.length * sz:=by rw [List.length_take,List.length_drop,hcl]; omega
     rw [← List.append_assoc,List.take_append_of_le_length (by rw [List.length_append,hl2]; omega),List.take_of_length_le (by rw [List.length_append,hl2]; omega)]
    rw [e3]
    exact q6.append hE
   ·have q6l:=q6.len
    have hcl : cur.toList.length = cur.size:=Array.length_toList
    have e2:=Nat.mul_le_mul_right sz q3
    obtain ⟨v',w',hrun,ho,hg⟩ := run_append_arg_grows (P:=P) w T ty e i z sz bytes hEl.under hi hiz hisz hiby hEl.zsize hEl.pos ⟨b,off,none⟩ xs.length cc ((cur.toList.drop off).take (xs.length * sz)) q6l (fun j u hj=>by
     rw [List.getElem?_take] at hj
     split at hj
     ·rw [List.getElem?_drop] at hj
      rw [Addr.add_lit]
      rw [cell_of_row w b _ cur e (0,0) q2]
      simpa using hj
     ·cases hj) ⟨bb,oo,none⟩ ys.length c vs hE.len hadd (by omega) (by unfold maxLen; omega) hb.1
    rw [← q1] at hrun
    have ho0 : w'.ownsRow 0 e sz v' (xs.length + ys.length) ((cur.toList.drop off).take (xs.length * sz)++vs) := ⟨ho.1,ho.2.imp (fun h=>h) (fun ⟨g,cap,cur,a1,a2,a3⟩=>⟨g,cap,cur,a1,Nat.zero_le _,a3⟩)⟩
    refine fresh _ _ hrun ?_ (ofOwn _ _ _ ho0 (q6.append hE)) (fun b' hb'=>?_)
    ·exact (Stp.of_grown hg).any
    ·right
     rcases ho.2 with ⟨h,_⟩ | ⟨g,cap,cur',h,h2',h3',_⟩
     ·rw [h] at hb'; simp [Value.pblk] at hb'
     ·rw [h] at hb'
      simp [Value.pblk] at hb'
      subst hb'
      exact h2'
theorem t_append_s {T e : TypeId} {sz bytes : Nat} {zd : DV} [hT : CSl P T e sz bytes zd] {x y : Operand} {id : Nat} {α : Type} {f : α→DV} {xs : List α} (ys : List α) {dy : DV} {rh : List Nat} (h : 0 < ys.length∧apOk bytes (xs.length + ys.length)) (hx : ev σ.env x = some (.row id)) (hh : hget σ.heap id = some (.sow e sz (xs.map f))) (hy : ev σ.env y = some dy) (hS : Src σ sz dy (ys.map f) rh) :
  OpG P ops ⟨some t,.call ⟨.builtin .append,#[x,y],#[T,T]⟩,ty,pos,af,none⟩ (tm x++tm y) (id :: rh) σ ⟨[(t,.row t)],[(t,some (.sow e sz ((xs++ys).map f))),(id,none)],[t]⟩ :=
 (o_append_s hx hh hy hS (by rw [List.length_map]; exact h.1) (by rw [List.length_map,List.length_map]; exact h.2)).cast (by rw [List.map_append])
end
set_option maxRecDepth 100000
instance : CMap Tryz.prog 52 66 69 [.int .i64,.int .i64,.int .i64] (.nils) := ⟨by kernel_rfl,by kernel_rfl,by kernel_rfl,inferInstance,by kernel_rfl,by kernel_rfl⟩
instance : CMap Tryz.prog 163 66 61 [.int .i64,.int .i64,.int .i64] (.agg [.int .u64 0,.int .u64 0,.int .u64 0,.int .u64 0,.int .u64 0,.int .u64 0,.int .u64 0,.int .u64 0,.int .u64 0,.int .u64 0,.int .u64 0,.int .u64 0,.int .u64 0,.int .u64 0,.int .u64 0,.int .u64 0]) := ⟨by kernel_rfl,by kernel_rfl,by kernel_rfl,inferInstance,by kernel_rfl,by kernel_rfl⟩
end Go.Proofs.YtcgfgilddjkpkaaGreat
