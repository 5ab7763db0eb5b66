/-
  What the claim leans on, part 9.
-/
import Derived.Test.YtcgfgilddjkpkaaGreatGNi8
import Derived.Lib.AppendZerosOnto
set_option linter.unusedVariables false
set_option linter.unusedSimpArgs false
namespace Go.Proofs.YtcgfgilddjkpkaaGreat
open Go.RowKit
section
variable {P : Program} {ops : Array Oper} {σ : AS} {t : Nat} {ty : TypeId} {pos : String} {af : Array Edge}
theorem o_cap_n {T e : TypeId} {sz0 by0 : Nat} {zd : DV} [hT : CSl P T e sz0 by0 zd] {x : Operand} (hx : ev σ.env x = some .nils) : OpG P ops ⟨some t,.call ⟨.builtin .cap,#[x],#[T]⟩,ty,pos,af,none⟩ (tm x) [] σ ⟨[(t,.int .i64 0)],[],[]⟩ :=
 OpG.val rfl rfl fun C F γ σ' a w h1 _ hs=>by
  have k1:=hs.ev ((ev_agree h1 (fun _ h=>h)).trans hx)
  simp only [Rs] at k1
  exact ⟨.int .i64 0,by simp [execOp,resolve,invoke,builtin,Builtin.cap_,run_underlying hT.und,k1,goInt],by simp only [Rs]⟩
theorem o_slice_nn {T e : TypeId} {sz by0 : Nat} {zd : DV} [hT : CSl P T e sz by0 zd] {x y : Operand} {k : IntKind} (hx : ev σ.env x = some .nils) (hy : ev σ.env y = some (.int k 0)) :
  OpG P ops ⟨some t,.slice T x none (some y) none,ty,pos,af,none⟩ (tm x++tm y) [] σ ⟨[(t,.nils)],[],[]⟩ :=
 OpG.val rfl rfl fun C F γ σ' a w hag _ hs=>by
  obtain ⟨k1,k2⟩ := ev2 hs hag hx hy
  simp only [Rs] at k1
  have hb:=run_bounds (P:=P) hs (lo:=none) (hi:=some y) (l:=0) (h:=0) (len:=0) (cap:=0) Bd.no (Bd.at ((ev_agree hag (fun _ h=>by simp [h])).trans hy) rfl) (Nat.le_refl 0) (Nat.le_refl 0)
  simp only [Option.map_none,Option.map_some] at hb
  refine ⟨.slice none 0 0,?_,by simp only [Rs]⟩
  simp [execOp,Instr.sliceAt,Instr.slice,run_underlying hT.und,k1,hb,hT.size]
theorem o_append_zn {T T2 e : TypeId} {sz bytes : Nat} {zd : DV} [hT : CSl P T e sz bytes zd] {k2 : IntKind} [hI : TInt P T2 k2] {x y : Operand} {k : IntKind} {n : Int} (m : Nat) (hx : ev σ.env x = some .nils) (hy : ev σ.env y = some (.int k n)) (hn : n = (m : Int)) (hm : 0 < m) (hb : m * bytes≤140737488355328∧m≤140737488355328) (hz : (zd.cs.all DV.one) = true) :
  OpG P ops ⟨some t,.call ⟨.builtin .append,#[x,y],#[T,T2]⟩,ty,pos,af,none⟩ (tm x++tm y) [] σ ⟨[(t,.row t)],[(t,some (.row e sz (List.replicate m zd)))],[t]⟩ :=
 OpG.gen rfl rfl fun C F γ σ' a w hag h2 h3 hs=>by
  obtain ⟨k1,k2⟩ := ev2 hs hag hx hy
  simp only [Rs] at k1 k2
  have hnu : t ∉ σ'.used:=h3 t (by simp)
  obtain ⟨z,hEl,hzd⟩ := hT.h
  obtain ⟨i,hi,hiz,hisz,hiby⟩ := hEl.info
  have ho:=zero_one (T:=T) hzd hz
  subst hn
  have hcap:=grownCap_ge w (0 + m) 0 e
  have hcap2:=grownCap_le_maxLen w (0 + m) 0 e (by unfold maxLen; omega)
  have hnx : Builtin.nextslicecap (0 + m) 0 = m:=by simp [Builtin.nextslicecap]; omega
  have hrun:=Lib.run_append_grow_zeros (P:=P) w T T2 ty e i z k _ hEl.under hI.h hi hiz none 0 0 [] (by simp [Builtin.firstCells]) m hm (by rw [hisz]; exact hEl.pos) (by omega) (by omega) (by rw [hiby]; omega) (by rw [hnx,hiby]; omega)
  generalize grownCap w (0 + m) 0 e = cap at hrun hcap hcap2
  refine ⟨.slice (some ⟨w.heap.size,0,none⟩) (0 + m) cap,_,F,γ.up t (.slice (some ⟨w.heap.size,0,none⟩) (0 + m) cap),by simp [execOp,resolve,invoke,builtin,k1,k2,hrun]; rfl,FLe.refl _,Gam.up_le _ (hs.ws.fresh hnu),?_,?_⟩
  ·refine (hs.ws.quiet (Stp.drew w)).addNew hnu _ (fun b hb=>by simp [Value.pblk] at hb; exact hb.symm) ?_
   have hzs : z.cells.size = sz:=hEl.zsize
   have hz0 : 0 < z.cells.size:=by rw [hzs]; exact hEl.pos
   have e1 : ∀ q,(Builtin.zeroCells z.cells q).toList = (List.replicate q z.cells.toList).flatten:=fun q=>madeCells_flat z.cells hz0 q
   have hlen : ((List.replicate m z.cells.toList).flatten).length = m * sz:=by simp [hzs]
   refine ⟨(List.replicate m z.cells.toList).flatten,⟨by simp [hzs],.inr ⟨w.heap.size,cap,_,by simp,Nat.zero_le _,heap_alloc_new w.drew _,by simp; omega,hcap2,?_,?_⟩⟩,RsE.replicate hzs ho (zeroDV_rs hzd ho F) m⟩
   ·simp only [Array.size_append,size_zeroCells,hzs,Nat.zero_add]
    have : m + (cap - m) = cap:=by omega
    rw [← Nat.add_mul,this]
   ·rw [List.length_replicate]
    simp only [Array.toList_append,e1,List.nil_append,Nat.zero_add]
    rw [← hlen]
    simp
  ·simp only [Rs]; exact Gam.up_same _ _ _
theorem o_slice_r {T e : TypeId} {sz by0 : Nat} {zd : DV} [hT : CSl P T e sz by0 zd] {x y : Operand} {id : Nat} {k : IntKind} {els : List DV} {n : Int} (h : Nat) (hx : ev σ.env x = some (.row id)) (hh : hget σ.heap id = some (.row e sz els)) (hy : ev σ.env y = some (.int k n)) (hn : n = (h : Int)) (hle : h≤els.length) :
  OpG P ops ⟨some t,.slice T x none (some y) none,ty,pos,af,none⟩ (tm x++tm y) [id] σ ⟨[(t,.row t)],[(t,some (.row e sz (els.take h))),(id,none)],[t]⟩ :=
 OpG.gen rfl rfl fun C F γ σ' a w hag h2 h3 hs=>by
  obtain ⟨k1,k2⟩ := ev2 hs hag hx hy
  have hnu : t ∉ σ'.used:=h3 t (by simp)
  have hh' := (h2 id (by simp)).trans hh
  obtain ⟨A0,c0,vs0,e0,hg0,ho0,hE0⟩ := rs_row hs k1 hh'
  have hc : els.length≤c0:=by
   rcases ho0.2 with ⟨q,q2⟩ | ⟨b,cap,cur,q,_,_,q2,_⟩
   ·omega
   ·rw [e0] at q; injection q with _ _ q; omega
  have hb:=run_bounds (P:=P) hs (lo:=none) (hi:=some y) (l:=0) (h:=h) (len:=els.length) (cap:=c0) Bd.no (Bd.at ((ev_agree hag (fun _ h=>by simp [h])).trans hy) hn) (Nat.zero_le _) (by omega)
  simp only [Option.map_none,Option.map_some] at hb
  have hA : A0 = none∨∃ b,A0 = some ⟨b,0,none⟩ := by
   rcases ho0.2 with ⟨q,_⟩ | ⟨b,cap,cur,q,_⟩
   ·rw [e0] at q; injection q with q _ _; exact .inl q
   ·rw [e0] at q; injection q with q _ _; exact .inr ⟨b,q⟩
  have hA2 : (if c0 = 0 then A0 else A0.map (·.add (0 * sz))) = A0:=by
   rcases hA with rfl | ⟨b,rfl⟩
   ·simp
   ·simp [Addr.add]
  have hown : w.ownsRow 0 e sz (.slice A0 h c0) (els.take h).length (vs0.take (h * sz)):=by
   have hl : (els.take h).length = h:=by simp; omega
   rw [hl]
   refine ⟨?_,?_⟩
   ·have:=ho0.1
    rw [List.length_take,this]
    exact Nat.min_eq_left (Nat.mul_le_mul_right _ hle)
   ·rcases ho0.2 with ⟨q,q2⟩ | ⟨b,cap,cur,q,q1,q2,q3,q4,q5,q6⟩
    ·rw [e0] at q; injection q with q _ q3
     have : h = 0:=by omega
     subst this
     exact .inl ⟨by rw [q,q3],rfl⟩
    ·rw [e0] at q; injection q with q _ q7
     refine .inr ⟨b,cap,cur,by rw [q,q7],q1,q2,by omega,q4,q5,?_⟩
     rw [← q6,List.take_take,Nat.min_eq_left (Nat.mul_le_mul_right _ hle)]
  refine ⟨.slice A0 h c0,w,F,γ.up t (.slice A0 h c0),?_,FLe.refl _,Gam.up_le _ (hs.ws.fresh hnu),?_,?_⟩
  ·have : a.eval x = .slice A0 els.length c0:=e0
   simp [execOp,Instr.sliceAt,Instr.slice,run_underlying hT.und,this,hb,hT.size]
   have:=hA2
   simp at this
   exact this
  ·refine (hs.ws.forget id).add hnu ⟨_,hown,hE0.take h⟩ (fun b hb'=>?_)
   have hpb : Value.pblk (a.eval x) = some b:=by
    rw [e0]
    rcases hA with rfl | ⟨b',rfl⟩
    ·simp [Value.pblk] at hb'
    ·simpa [Value.pblk] using hb'
   have q:=hs.ws.own id _ _ b hh' hg0 hpb
   refine ⟨q.1,q.2,fun id' e' g' hh2 hg' hb''=>?_⟩
   rw [hget_cons] at hh2
   split at hh2
   ·cases hh2
   ·rename_i hne; exact hne (hs.ws.apart id id' _ e' _ g' b hh' hh2 hg0 hg' hpb hb'')
  ·simp only [Rs]; exact Gam.up_same _ _ _
theorem t_slice_r {T e : TypeId} {sz by0 : Nat} {zd : DV} [hT : CSl P T e sz by0 zd] {x y : Operand} {id : Nat} {k : IntKind} {α : Type} {f : α→DV} {xs : List α} {n : Int} (h : slOk xs.length 0 n) (hx : ev σ.env x = some (.row id)) (hh : hget σ.heap id = some (.row e sz (xs.map f))) (hy : ev σ.env y = some (.int k n)) :
  OpG P ops ⟨some t,.slice T x none (some y) none,ty,pos,af,none⟩ (tm x++tm y) [id] σ ⟨[(t,.row t)],[(t,some (.row e sz ((xs.take n.toNat).map f))),(id,none)],[t]⟩ := by
 obtain ⟨h1,h2,h3⟩ := h
 refine (o_slice_r n.toNat hx hh hy (by omega) (by simp; omega)).cast (by rw [List.map_take])
theorem t_append_zn {T T2 e : TypeId} {sz bytes : Nat} {zd : DV} [hT : CSl P T e sz bytes zd] {k2 : IntKind} [hI : TInt P T2 k2] {x y : Operand} {k : IntKind} {n : Int} {α : Type} (f : α→DV) (z : α) (h : 0 < n∧apOk bytes n.toNat) (hx : ev σ.env x = some .nils) (hy : ev σ.env y = some (.int k n)) (hz : (zd.cs.all DV.one) = true) (hf : f z = zd) :
  OpG P ops ⟨some t,.call ⟨.builtin .append,#[x,y],#[T,T2]⟩,ty,pos,af,none⟩ (tm x++tm y) [] σ ⟨[(t,.row t)],[(t,some (.row e sz ((List.replicate n.toNat z).map f)))],[t]⟩ := by
 obtain ⟨h1,h2,h3⟩ := h
 exact (o_append_zn n.toNat hx hy (by omega) (by omega) ⟨h2,h3⟩ hz).cast (by rw [List.map_replicate,hf])
theorem o_callF {f : FuncId} [hf : CFn P f] {x : Operand} {xs : Array Operand} {ats : Array TypeId} {ds args : List DV} {r : DV} (hc : PCall P f args r) (hx : ev σ.env x = some (.val (.func (.func f) #[] #[]))) (ha : evL σ.env xs.toList = some ds) (hle : DLeL ds args) (hp : idsL args = []) :
  OpG P ops ⟨some t,.call ⟨.value x,xs,ats⟩,ty,pos,af,none⟩ (tm x++xs.toList.flatMap tm) [] σ ⟨[(t,r)],[],[]⟩ := by
 intro C F γ σ' a w h1 h2 h3 h4 hs K Q hK
 simp only [Region.wanted,↓reduceIte]
 have kx:=hs.ev ((ev_agree h1 (fun _ h=>List.mem_append_left _ h)).trans hx)
 simp only [Rs] at kx
 have hrun : (execOp a.eval ⟨some t,.call ⟨.value x,xs,ats⟩,ty,pos,af,none⟩).run P w = .ok (.enter f (xs.map a.eval)) w:=by
  simp [execOp,resolve,kx,Deferred.ofValue,invoke,run_callFunc]
 refine wpIn_of_enter (fun c hc=>by cases hc) hrun ?_
 have hv:=hle.rsT (hs.evs ((evL_agree h1 (fun _ h=>List.mem_append_right _ h)).trans ha))
 have hv' : RsT F Gam.no args (xs.toList.map a.eval):=RsT_ids args _ (by rw [hp]; simp) hv
 have e : (xs.toList.map a.eval).toArray = xs.map a.eval:=by rw [← Array.toList_map]
 have:=hc C F γ σ'.heap σ'.used w _ hs.ws hv'
 rw [e] at this
 refine this.mono ?_
 rintro e w' ⟨v,F',rfl,k1,k2,k3⟩
 exact ⟨v,rfl,hK F' γ _ _ k1 ((hs.mono k1 (GLe.refl _) k2).put (h4 t rfl) (k3.mono (FLe.refl _) (GLe.no _)))⟩
theorem DLeL.replicate {d d' : DV} (h : DLe d d') : ∀ n,DLeL (List.replicate n d) (List.replicate n d')
 | 0=>.nil
 | n + 1=>.cons h (DLeL.replicate h n)
theorem t_append_znW {T T2 e : TypeId} {sz bytes : Nat} {zd : DV} [hT : CSl P T e sz bytes zd] {k2 : IntKind} [hI : TInt P T2 k2] {x y : Operand} {k : IntKind} {n : Int} {α : Type} (f : α→DV) (z : α) (h : 0 < n∧apOk bytes n.toNat) (hx : ev σ.env x = some .nils) (hy : ev σ.env y = some (.int k n)) (hz : (zd.cs.all DV.one) = true) (hf : DLe zd (f z)) :
  OpG P ops ⟨some t,.call ⟨.builtin .append,#[x,y],#[T,T2]⟩,ty,pos,af,none⟩ (tm x++tm y) [] σ ⟨[(t,.row t)],[(t,some (.row e sz ((List.replicate n.toNat z).map f)))],[t]⟩ := by
 obtain ⟨h1,h2,h3⟩ := h
 rw [List.map_replicate]
 exact (o_append_zn n.toNat hx hy (by omega) (by omega) ⟨h2,h3⟩ hz).wkRow (DLeL.replicate hf _)
theorem t_makeW {T e : TypeId} {sz bytes : Nat} {zd : DV} [hT : CSl P T e sz bytes zd] {x y : Operand} {k k' : IntKind} {l c : Int} {α : Type} (f : α→DV) (z : α) (h : mkOk bytes l c) (hx : ev σ.env x = some (.int k l)) (hy : ev σ.env y = some (.int k' c)) (hz : (zd.cs.all DV.one) = true) (hf : DLe zd (f z)) :
  OpG P ops ⟨some t,.makeSlice T x y,ty,pos,af,none⟩ (tm x++tm y) [] σ ⟨[(t,.row t)],[(t,some (.row e sz ((List.replicate l.toNat z).map f)))],[t]⟩ := by
 have h' := h
 unfold mkOk at h'
 obtain ⟨h1,h2,h3,h4⟩ := h'
 rw [List.map_replicate]
 refine (o_make l.toNat c.toNat hx hy (by omega) (by omega) (by omega) ⟨?_,by omega⟩ hz).wkRow (DLeL.replicate hf _)
 have : ((bytes * c.toNat : Nat) : Int) = bytes * c:=by rw [Int.natCast_mul,← toNat_of (by omega)]
 omega
end
section
variable {P : Program} {n : Nat} {Q : Exit→AS→Prop} {σ : AS}
theorem a_postN {rs : Array ResultVar} {res d : DV} {post : Heap} (h : ResV P σ rs d) (hle : DLe d res) (hp : ∀ i e,hget post i = some e→hget σ.heap i = some e) : BPost P rs res post .normal σ := ⟨d,h,hle,hp⟩
theorem a_tail {c : Code} {α : Type} (S : α→AS) (I : α→Prop) (h : awp P n c (QCut S I Q) σ) (k : ∀ x,I x→Q .normal (S x)) : awp P n c Q σ:=fun C F γ a w hn hs=>
 wpIn_mono (h C F γ a w hn hs) fun e a' w' ⟨F',γ',σ',h1,h2⟩=>by
  cases e with
  | normal=>
   obtain ⟨x',i1,i2⟩ := h2
   obtain ⟨F2,γ2,s2⟩ := i2 C F' γ' a' w' h1
   exact ⟨F2,γ2,S x',s2,k x' i1⟩
  | exit id=>exact ⟨F',γ',σ',h1,h2⟩
  | goto l=>exact ⟨F',γ',σ',h1,h2⟩
  | ret=>exact ⟨F',γ',σ',h1,h2⟩
  | panic c=>exact ⟨F',γ',σ',h1,h2⟩
  | outgrown=>exact ⟨F',γ',σ',h1,h2⟩
def NEnd (Q : Exit→AS→Prop) (σ : AS) : Prop := ∃ σ',Imp σ σ'∧Q .normal σ'
def NQ (Q : Exit→AS→Prop) : Exit→AS→Prop
 | .normal,σ=>NEnd Q σ
 | e,σ=>Q e σ
theorem n_imp {σ' : AS} (h : Imp σ σ') (k : NEnd Q σ') : NEnd Q σ:=by obtain ⟨τ,h1,h2⟩ := k; exact ⟨τ,h.trans h1,h2⟩
theorem n_done (h : Q .normal σ) : NEnd Q σ := ⟨σ,Imp.refl _,h⟩
theorem a_end {c : Code} (h : awp P n c (NQ Q) σ) : awp P n c Q σ:=fun C F γ a w hn hs=>
 wpIn_mono (h C F γ a w hn hs) fun e a' w' ⟨F',γ',σ',h1,h2⟩=>by
  cases e with
  | normal=>
   obtain ⟨τ,i1,i2⟩ := h2
   obtain ⟨F2,γ2,s2⟩ := i1 C F' γ' a' w' h1
   exact ⟨F2,γ2,τ,s2,i2⟩
  | exit id=>exact ⟨F',γ',σ',h1,h2⟩
  | goto l=>exact ⟨F',γ',σ',h1,h2⟩
  | ret=>exact ⟨F',γ',σ',h1,h2⟩
  | panic c=>exact ⟨F',γ',σ',h1,h2⟩
  | outgrown=>exact ⟨F',γ',σ',h1,h2⟩
theorem a_isnil {id t t0 : Nat} {x : Operand} {T T' ty0 ty : TypeId} {pos0 pos : String} {af0 af : Array Edge} {e : TypeId} {sz by0 : Nat} {zd : DV} [hT : CSl P T e sz by0 zd] {sz' : Nat} {els : List DV} (hx : ev σ.env x = some (.sl sz' els)) (ht0 : t0 < n) (ht : t < n)
  (hq : ∀ b : Bool,(b = true→els = [])→Q .normal ⟨(t,.bool b) :: (t0,.sl sz' els) :: σ.env,σ.heap,σ.used⟩) :
  awp P n (.region id #[⟨some t0,.move x,ty0,pos0,af0,none⟩,⟨some t,.binOp .eql T (.tmp t0) (.const (.slice none 0 0)) T',ty,pos,af,none⟩] false) Q σ:=by
 intro C F γ a w hn hs
 have kx:=hs.ev hx
 have hs1 : Sat C F γ ⟨(t0,.sl sz' els) :: σ.env,σ.heap,σ.used⟩ (a.put (some t0) (a.eval x)) w:=hs.put (by rw [hn]; exact ht0) kx
 have hlt : t0 < a.tmps.size:=by rw [hs.size,hn]; exact ht0
 have hmv : (execOp a.eval ⟨some t0,.move x,ty0,pos0,af0,none⟩).run P w = .ok (.value (a.eval x)) w:=by simp [execOp]
 generalize a.eval x = v at kx hs1 hmv
 simp only [Rs] at kx
 obtain ⟨A,c,rfl,hok,_⟩ := kx
 refine wpIn_region ?_
 simp only [show (#[(⟨some t0,.move x,ty0,pos0,af0,none⟩ : Oper),⟨some t,.binOp .eql T (.tmp t0) (.const (.slice none 0 0)) T',ty,pos,af,none⟩]).size = 2 from rfl,List.range_succ,List.range_zero,List.nil_append,List.cons_append,wpOpsIn_cons]
 refine wpIn_of_val hmv ?_
 have e0 : (a.put (some t0) (.slice A els.length c)).eval (.tmp t0) = .slice A els.length c:=by
  simp [Act.eval,Act.put,Array.getD,hlt]
 have e1 : binOp .eql T (.slice A els.length c) (.slice none 0 0) = (do pure (.bool (← Op.equal T (.slice A els.length c) (.slice none 0 0)))):=by cases A <;> rfl
 have e2 : eqGuard .eql T (.tmp t0) (.const (.slice none 0 0)) (.slice A els.length c) (.slice none 0 0) = pure ():=rfl
 have e3 : (Op.equal T (.slice A els.length c) (.slice none 0 0)).run P w = .ok A.isNone w:=by
  have : ∀ m,(Op.equalIn (m + 1) T (.slice A els.length c) (.slice none 0 0)).run P w = .ok A.isNone w:=fun m=>by cases A <;> simp [Op.equalIn,run_underlying hT.und]
  exact this 9999
 have hop : (execOp (a.put (some t0) (.slice A els.length c)).eval ⟨some t,.binOp .eql T (.tmp t0) (.const (.slice none 0 0)) T',ty,pos,af,none⟩).run P w = .ok (.value (.bool A.isNone)) w:=by
  have e4 : (a.put (some t0) (.slice A els.length c)).eval (.const (.slice none 0 0)) = .slice none 0 0:=rfl
  simp only [execOp,e0,e4,e1,e2,Sem.run_bind,Sem.run_pure,Result.andThen_ok,e3]
 refine wpIn_of_val hop ?_
 ·have:=hs1.put (t:=t) (by rw [hn]; exact ht) (d:=.bool A.isNone) (v:=.bool A.isNone) (by simp only [Rs])
  refine ⟨F,γ,_,this,hq A.isNone (fun hA=>?_)⟩
  have hN : A = none:=by simpa using hA
  have:=(hok.1 hN).1
  exact List.eq_nil_of_length_eq_zero this
end
set_option maxRecDepth 100000
set_option maxHeartbeats 4000000
def slices_Clone_int64_int64 (x0 : List Int) : Option (List Int):=chk (apOk 8 (List.length ([] : List Int) + List.length x0)) (some (([] : List Int)++x0))
theorem slices_Clone_int64_int64_c {x0 : List Int} {r : List Int} (hM : slices_Clone_int64_int64 x0 = some r) : ACall Tryz.prog 47 ⟨[.sl 1 (List.map (DV.int .i64) x0)],[],.row 50000,[(50000,some (.row 2 1 (List.map (DV.int .i64) r)))],[50000]⟩ := by
 unfold slices_Clone_int64_int64 at hM
 obtain ⟨h,hM⟩ := of_chk hM
 obtain rfl:=Option.some.inj hM
 refine ACall.body Tryz.func47 Tryz.ntmps47 rfl rfl rfl rfl ?_
 refine a_seq (a_region (.cons (o_assign rfl)<|.nil _) (by kernel_rfl) (by kernel_rfl) ?_)
 refine a_seq (a_seq ?_)
 refine a_isnil rfl (by decide) (by decide) (fun b hb=>?_)
 refine a_cond _ rfl (fun c=>?_) (fun c=>?_)
 ·have h0 : x0 = []:=List.map_eq_nil_iff.1 (hb c)
  subst h0
  refine a_seq (a_region (.cons (o_assign rfl)<|.nil _) (by kernel_rfl) (by kernel_rfl) ?_)
  refine a_imp (Imp.nilRow (t:=2) (id:=50000) 2 1 rfl rfl) ?_
  exact a_ret (a_post (.r1 (.tmp rfl)) (DLe.refl _) (PostOk.spec (.cons rfl .nil)))
 ·refine a_skip (a_seq (a_region (.cons (t_build (DV.int .i64) ([] : List Int) rfl rfl rfl rfl rfl rfl rfl)<|.cons (o_move rfl)<|.cons (t_append x0 h rfl rfl rfl Src.sl)<|.cons (o_assign rfl)<|.nil _) (by kernel_rfl) (by kernel_rfl) ?_))
  refine a_imp (σ' := ⟨[(2,.row 50000)],[(50000,some (.row 2 1 (List.map (DV.int .i64) (([] : List Int)++x0))))],[50000]⟩) (Imp.of (fun i=>bif Nat.beq i 50000 then 7 else i) (.cons rfl (DLe.refl _) .nil) (.cons rfl (.refl _) .nil) rfl rfl rfl) ?_
  exact a_ret (a_post (.r1 (.tmp rfl)) (DLe.refl _) (PostOk.spec (.cons rfl .nil)))
def groS_K2 (a1 : List CSpan) : Option (List CSpan) :=
 some a1
def groS_K1 (x1 : Int) : Option (List CSpan) :=
 if (decide (0 < (IntKind.wrap .i64 (x1 - (IntKind.wrap .i64 (0 - 0)))))) = true then
  chk (0 < (IntKind.wrap .i64 (x1 - (IntKind.wrap .i64 (0 - 0))))∧apOk 16 (Int.toNat (IntKind.wrap .i64 (x1 - (IntKind.wrap .i64 (0 - 0))))))<|
  chk (slOk (List.length (List.replicate (Int.toNat (IntKind.wrap .i64 (x1 - (IntKind.wrap .i64 (0 - 0))))) (CSpan.mk 0 0))) 0 0)<|
  groS_K2 (List.take (Int.toNat 0) (List.replicate (Int.toNat (IntKind.wrap .i64 (x1 - (IntKind.wrap .i64 (0 - 0))))) (CSpan.mk 0 0)))
 else
  groS_K2 ([] : List CSpan)
def groS (x1 : Int) : Option (List CSpan) :=
 if (decide (x1 < 0)) = true then
  none
 else
  groS_K1 x1
theorem groS_c {x1 : Int} {r : (List CSpan)} (hM : groS x1 = some r) : ACall Tryz.prog 140 ⟨[.nils,.int .i64 x1],[],.row 50000,[(50000,some (.row 147 2 (List.map CSpan.dv r)))],[50000]⟩ := by
 unfold groS at hM
 refine ACall.body Tryz.func140 Tryz.ntmps140 rfl rfl rfl rfl ?_
 refine a_seq (ar (.cons (o_assign rfl)<|.nil _) ?_)
 refine a_cut (α:=Unit) (fun s=>⟨[(0,.nils),(1,.int .i64 x1)],[],[]⟩) (fun s=>groS_K1 x1 = some r) ?_ ?_
 ·refine a_seq (ar (.cons (o_move rfl)<|.cons (o_int rfl rfl rfl)<|.nil _) ?_)
  refine a_cond _ rfl (fun h5=>?_) (fun h5=>?_)
  ·replace hM:=(of_if hM).1 h5
   cases hM
  ·replace hM:=(of_if hM).2 h5
   refine a_skip ?_
   exact ⟨(),hM,(Imp.sh (fun i=>i) rfl rfl rfl rfl rfl rfl)⟩
 ·rintro _ hM
  replace hM : groS_K1 x1 = some r:=hM
  unfold groS_K1 at hM
  refine a_cut (α:=(List CSpan)) (fun s=>⟨[(0,.row 10001)],[(10001,some (.row 147 2 (List.map CSpan.dv s)))],[10001]⟩) (fun s=>groS_K2 s = some r) ?_ ?_
  ·refine a_seq (ar (.cons (o_move rfl)<|.cons (o_move rfl)<|.cons (o_cap_n rfl)<|.cons (o_move rfl)<|.cons (o_len_n rfl)<|.cons (o_int rfl rfl rfl)<|.cons (o_int rfl rfl rfl)<|.cons (o_assign rfl)<|.nil _) ?_)
   refine a_seq (ar (.cons (o_move rfl)<|.cons (o_int rfl rfl rfl)<|.nil _) ?_)
   refine a_cond _ rfl (fun h2=>?_) (fun h2=>?_)
   ·replace hM:=(of_if hM).1 h2
    obtain ⟨h3,hM⟩ := of_chk hM
    obtain ⟨h4,hM⟩ := of_chk hM
    refine ar (.cons (o_move rfl)<|.cons (o_move rfl)<|.cons (o_cap_n rfl)<|.cons (o_slice_nn rfl rfl)<|.cons (o_move rfl)<|.cons (t_append_zn CSpan.dv (CSpan.mk 0 0) h3 rfl rfl rfl rfl)<|.cons (o_move rfl)<|.cons (o_len_n rfl)<|.cons (t_slice_r h4 rfl rfl rfl)<|.cons (o_assign rfl)<|.nil _) ?_
    exact ⟨(List.take (Int.toNat 0) (List.replicate (Int.toNat (IntKind.wrap .i64 (x1 - (IntKind.wrap .i64 (0 - 0))))) (CSpan.mk 0 0))),hM,(Imp.sh (fun i=>bif Nat.beq i 10001 then 25 else i) rfl rfl rfl rfl rfl rfl)⟩
   ·replace hM:=(of_if hM).2 h2
    refine a_skip ?_
    exact ⟨([] : List CSpan),hM,((Imp.nilRow (t:=0) (id:=10002) 147 2 rfl rfl).trans (Imp.sh (fun i=>bif Nat.beq i 10001 then 10002 else i) rfl rfl rfl rfl rfl rfl))⟩
  ·rintro a1 hM
   replace hM : groS_K2 a1 = some r:=hM
   unfold groS_K2 at hM
   refine a_seq (ar (.cons (o_move rfl)<|.cons (o_assign rfl)<|.nil _) ?_)
   obtain rfl:=Option.some.inj hM
   refine a_imp (σ' := ⟨[(4,.row 50000)],[(50000,some (.row 147 2 (List.map CSpan.dv a1)))],[50000]⟩) (Imp.sh (fun i=>bif Nat.beq i 50000 then 10001 else i) rfl rfl rfl rfl rfl rfl) ?_
   exact a_ret (a_post (.r1 (.tmp rfl)) (DLe.refl _) (PostOk.spec (.cons rfl .nil)))
def catS_K2 (a4 : List CSpan) : Option (List CSpan) :=
 some a4
def catS_L3 (x0 : List (List CSpan)) (k5 : Nat) (a6 : List CSpan) : Option (List CSpan) :=
 (idx x0 (k5 : Int)).bind fun v11=>
 chk (apOk 16 (List.length a6 + List.length v11))<|
 some (a6++v11)
def catS_K1 (x0 : List (List CSpan)) (a1 : Int) : Option (List CSpan) :=
 (groS a1).bind fun v3=>
 (foldM' 9223372036854775807 (List.length x0 : Int) (fun k5 s=>catS_L3 x0 k5 s) v3).bind fun s=>catS_K2 s
def catS_L4 (x0 : List (List CSpan)) (k13 : Nat) (a14 : Int) : Option Int :=
 (idx x0 (k13 : Int)).bind fun v19=>
 if (decide ((IntKind.wrap .i64 (a14 + (List.length v19 : Int))) < 0)) = true then
  none
 else
  some (IntKind.wrap .i64 (a14 + (List.length v19 : Int)))
def catS (x0 : List (List CSpan)) : Option (List CSpan) :=
 (foldM' 9223372036854775807 (List.length x0 : Int) (fun k13 s=>catS_L4 x0 k13 s) 0).bind fun s=>catS_K1 x0 s
theorem catS_c {x0 : List (List CSpan)} {r : (List CSpan)} (hM : catS x0 = some r) : ACall Tryz.prog 114 ⟨[.sl 1 (List.map (encSl 2 CSpan.dv) x0)],[],.row 50000,[(50000,some (.row 147 2 (List.map CSpan.dv r)))],[50000]⟩ := by
 unfold catS at hM
 refine ACall.body Tryz.func114 Tryz.ntmps114 rfl rfl rfl rfl ?_
 refine a_seq (ar (.cons (o_assign rfl)<|.nil _) ?_)
 refine a_seq (ar (.cons (o_assign rfl)<|.nil _) ?_)
 refine a_cut (α:=Int) (fun s=>⟨[(0,.sl 1 (List.map (encSl 2 CSpan.dv) x0)),(3,.int .i64 s)],[],[]⟩) (fun s=>catS_K1 x0 s = some r) ?_ ?_
 ·refine a_seq (ar (.cons (o_move rfl)<|.cons (t_len rfl)<|.cons (o_move rfl)<|.nil _) ?_)
  obtain ⟨a14,hL15,hK15⟩ := of_bind hM
  refine a_block ?_
  refine a_fold (fun k13 (s : Int)=>⟨[(0,.sl 1 (List.map (encSl 2 CSpan.dv) x0)),(3,.int .i64 s),(9,.sl 1 (List.map (encSl 2 CSpan.dv) x0)),(10,.int .i64 (List.length x0 : Int)),(11,.int .i64 (k13 : Int))],[],[]⟩) _ hL15 (Imp.sh (fun i=>i) rfl rfl rfl rfl rfl rfl) ?_ ?_
  ·rintro k13 a14 t16 hk13 hx13 hM
   replace hM : catS_L4 x0 k13 a14 = some t16:=hM
   unfold catS_L4 at hM
   refine a_seq (ar (.cons (o_int rfl rfl rfl)<|.nil _) ?_)
   refine a_seq ?_
   refine a_cond _ rfl (fun _=>?_) (fun c=>absurd hk13 (of_decide_eq_false c))
   refine a_skip (a_seq (a_block (a_seq ?_)))
   obtain ⟨v19,h18,hM⟩ := of_bind hM
   refine ar (.cons (t_index h18 rfl rfl rfl)<|.cons (o_load_es rfl rfl)<|.cons (o_assign rfl)<|.nil _) ?_
   refine a_seq (ar (.cons (o_move rfl)<|.cons (o_move rfl)<|.cons (t_len rfl)<|.cons (o_int rfl rfl rfl)<|.cons (o_assign rfl)<|.nil _) ?_)
   refine a_seq (ar (.cons (o_move rfl)<|.cons (o_int rfl rfl rfl)<|.nil _) ?_)
   refine a_cond _ rfl (fun h20=>?_) (fun h20=>?_)
   ·replace hM:=(of_if hM).1 h20
    cases hM
   ·replace hM:=(of_if hM).2 h20
    refine a_skip (ar (.cons (o_add rfl rfl (inR_i64 hk13 hx13))<|.cons (o_move rfl)<|.nil _) ?_)
    obtain rfl:=Option.some.inj hM
    exact (Imp.of (fun i=>i) (.cons rfl (DLe.refl _) (.cons rfl (DLe.refl _) (.cons rfl (DLe.refl _) (.cons rfl (DLe.refl _) (.cons rfl (DLe.succ _ _) .nil))))) .nil rfl rfl rfl)
  ·rintro k13 hk13 hx13
   refine a_seq (ar (.cons (o_int rfl rfl rfl)<|.nil _) ?_)
   refine a_seq ?_
   refine a_cond _ rfl (fun c=>absurd (of_decide_eq_true c) (Int.not_lt.2 hk13)) (fun _=>?_)
   refine a_exit ?_
   exact ⟨a14,hK15,(Imp.sh (fun i=>i) rfl rfl rfl rfl rfl rfl)⟩
 ·rintro a1 hM
  replace hM : catS_K1 x0 a1 = some r:=hM
  unfold catS_K1 at hM
  refine a_seq ?_
  obtain ⟨v3,h2,hM⟩ := of_bind hM
  refine ar (.cons (o_move rfl)<|.cons (o_callN (fun i=>bif Nat.beq i 50000 then 24 else i) 1 (groS_c h2) rfl (DLeL.refl _) .nil rfl .nil)<|.cons (o_assign rfl)<|.nil _) ?_
  refine a_cut (α:=(List CSpan)) (fun s=>⟨[(6,.row 10001)],[(10001,some (.row 147 2 (List.map CSpan.dv s)))],[10001]⟩) (fun s=>catS_K2 s = some r) ?_ ?_
  ·refine a_seq (ar (.cons (o_move rfl)<|.cons (t_len rfl)<|.cons (o_move rfl)<|.nil _) ?_)
   obtain ⟨a6,hL7,hK7⟩ := of_bind hM
   refine a_block ?_
   refine a_fold (fun k5 (s : (List CSpan))=>⟨[(6,.row 10002),(25,.sl 1 (List.map (encSl 2 CSpan.dv) x0)),(26,.int .i64 (List.length x0 : Int)),(27,.int .i64 (k5 : Int))],[(10002,some (.row 147 2 (List.map CSpan.dv s)))],[10002]⟩) _ hL7 (Imp.sh (fun i=>bif Nat.beq i 10002 then 24 else i) rfl rfl rfl rfl rfl rfl) ?_ ?_
   ·rintro k5 a6 t8 hk5 hx5 hM
    replace hM : catS_L3 x0 k5 a6 = some t8:=hM
    unfold catS_L3 at hM
    refine a_seq (ar (.cons (o_int rfl rfl rfl)<|.nil _) ?_)
    refine a_seq ?_
    refine a_cond _ rfl (fun _=>?_) (fun c=>absurd hk5 (of_decide_eq_false c))
    refine a_skip (a_seq (a_block (a_seq ?_)))
    obtain ⟨v11,h10,hM⟩ := of_bind hM
    refine ar (.cons (t_index h10 rfl rfl rfl)<|.cons (o_load_es rfl rfl)<|.cons (o_assign rfl)<|.nil _) ?_
    obtain ⟨h12,hM⟩ := of_chk hM
    refine ar (.cons (o_move rfl)<|.cons (o_move rfl)<|.cons (t_append v11 h12 rfl rfl rfl Src.sl)<|.cons (o_assign rfl)<|.nil _) ?_
    refine ar (.cons (o_add rfl rfl (inR_i64 hk5 hx5))<|.cons (o_move rfl)<|.nil _) ?_
    obtain rfl:=Option.some.inj hM
    exact (Imp.of (fun i=>bif Nat.beq i 10002 then 33 else i) (.cons rfl (DLe.refl _) (.cons rfl (DLe.refl _) (.cons rfl (DLe.refl _) (.cons rfl (DLe.succ _ _) .nil)))) (.cons rfl (.refl _) .nil) rfl rfl rfl)
   ·rintro k5 hk5 hx5
    refine a_seq (ar (.cons (o_int rfl rfl rfl)<|.nil _) ?_)
    refine a_seq ?_
    refine a_cond _ rfl (fun c=>absurd (of_decide_eq_true c) (Int.not_lt.2 hk5)) (fun _=>?_)
    refine a_exit ?_
    exact ⟨a6,hK7,(Imp.sh (fun i=>bif Nat.beq i 10001 then 10002 else i) rfl rfl rfl rfl rfl rfl)⟩
  ·rintro a4 hM
   replace hM : catS_K2 a4 = some r:=hM
   unfold catS_K2 at hM
   refine a_seq (ar (.cons (o_move rfl)<|.cons (o_assign rfl)<|.nil _) ?_)
   obtain rfl:=Option.some.inj hM
   refine a_imp (σ' := ⟨[(2,.row 50000)],[(50000,some (.row 147 2 (List.map CSpan.dv a4)))],[50000]⟩) (Imp.sh (fun i=>bif Nat.beq i 50000 then 10001 else i) rfl rfl rfl rfl rfl rfl) ?_
   exact a_ret (a_post (.r1 (.tmp rfl)) (DLe.refl _) (PostOk.spec (.cons rfl .nil)))
def groR_K2 (a1 : List RRec) : Option (List RRec) :=
 some a1
def groR_K1 (x1 : Int) : Option (List RRec) :=
 if (decide (0 < (IntKind.wrap .i64 (x1 - (IntKind.wrap .i64 (0 - 0)))))) = true then
  chk (0 < (IntKind.wrap .i64 (x1 - (IntKind.wrap .i64 (0 - 0))))∧apOk 248 (Int.toNat (IntKind.wrap .i64 (x1 - (IntKind.wrap .i64 (0 - 0))))))<|
  chk (slOk (List.length (List.replicate (Int.toNat (IntKind.wrap .i64 (x1 - (IntKind.wrap .i64 (0 - 0))))) (RRec.mk 0 0 (VClk.mk (arr 0 [])) 0 (AEv.mk 0 0 0 0 0 0 0 0 []) 0))) 0 0)<|
  groR_K2 (List.take (Int.toNat 0) (List.replicate (Int.toNat (IntKind.wrap .i64 (x1 - (IntKind.wrap .i64 (0 - 0))))) (RRec.mk 0 0 (VClk.mk (arr 0 [])) 0 (AEv.mk 0 0 0 0 0 0 0 0 []) 0)))
 else
  groR_K2 ([] : List RRec)
def groR (x1 : Int) : Option (List RRec) :=
 if (decide (x1 < 0)) = true then
  none
 else
  groR_K1 x1
theorem groR_c {x1 : Int} {r : (List RRec)} (hM : groR x1 = some r) : ACall Tryz.prog 138 ⟨[.nils,.int .i64 x1],[],.row 50000,[(50000,some (.row 64 29 (List.map RRec.dv r)))],[50000]⟩ := by
 unfold groR at hM
 refine ACall.body Tryz.func138 Tryz.ntmps138 rfl rfl rfl rfl ?_
 refine a_seq (ar (.cons (o_assign rfl)<|.nil _) ?_)
 refine a_cut (α:=Unit) (fun s=>⟨[(0,.nils),(1,.int .i64 x1)],[],[]⟩) (fun s=>groR_K1 x1 = some r) ?_ ?_
 ·refine a_seq (ar (.cons (o_move rfl)<|.cons (o_int rfl rfl rfl)<|.nil _) ?_)
  refine a_cond _ rfl (fun h5=>?_) (fun h5=>?_)
  ·replace hM:=(of_if hM).1 h5
   cases hM
  ·replace hM:=(of_if hM).2 h5
   refine a_skip ?_
   exact ⟨(),hM,(Imp.sh (fun i=>i) rfl rfl rfl rfl rfl rfl)⟩
 ·rintro _ hM
  replace hM : groR_K1 x1 = some r:=hM
  unfold groR_K1 at hM
  refine a_cut (α:=(List RRec)) (fun s=>⟨[(0,.row 10001)],[(10001,some (.row 64 29 (List.map RRec.dv s)))],[10001]⟩) (fun s=>groR_K2 s = some r) ?_ ?_
  ·refine a_seq (ar (.cons (o_move rfl)<|.cons (o_move rfl)<|.cons (o_cap_n rfl)<|.cons (o_move rfl)<|.cons (o_len_n rfl)<|.cons (o_int rfl rfl rfl)<|.cons (o_int rfl rfl rfl)<|.cons (o_assign rfl)<|.nil _) ?_)
   refine a_seq (ar (.cons (o_move rfl)<|.cons (o_int rfl rfl rfl)<|.nil _) ?_)
   refine a_cond _ rfl (fun h2=>?_) (fun h2=>?_)
   ·replace hM:=(of_if hM).1 h2
    obtain ⟨h3,hM⟩ := of_chk hM
    obtain ⟨h4,hM⟩ := of_chk hM
    refine ar (.cons (o_move rfl)<|.cons (o_move rfl)<|.cons (o_cap_n rfl)<|.cons (o_slice_nn rfl rfl)<|.cons (o_move rfl)<|.cons (t_append_znW RRec.dv (RRec.mk 0 0 (VClk.mk (arr 0 [])) 0 (AEv.mk 0 0 0 0 0 0 0 0 []) 0) h3 rfl rfl rfl (DLe.agg (.cons (DLe.refl _) (.cons (DLe.refl _) (.cons (DLe.refl _) (.cons (DLe.refl _) (.cons (DLe.refl _) (.cons (DLe.refl _) (.cons (DLe.refl _) (.cons (DLe.refl _) (.cons (DLe.refl _) (.cons (DLe.refl _) (.cons (DLe.refl _) (.cons (DLe.refl _) (.cons (DLe.refl _) (.cons (DLe.refl _) (.cons (DLe.refl _) (.cons (DLe.refl _) (.cons (DLe.refl _) (.cons (DLe.refl _) (.cons (DLe.refl _) (.cons (DLe.refl _) (.cons (DLe.refl _) (.cons (DLe.refl _) (.cons (DLe.refl _) (.cons (DLe.refl _) (.cons (DLe.refl _) (.cons (DLe.refl _) (.cons (DLe.refl _) (.cons (DLe.nils _) (.cons (DLe.refl _) .nil)))))))))))))))))))))))))))))))<|.cons (o_move rfl)<|.cons (o_len_n rfl)<|.cons (t_slice_r h4 rfl rfl rfl)<|.cons (o_assign rfl)<|.nil _) ?_
    exact ⟨(List.take (Int.toNat 0) (List.replicate (Int.toNat (IntKind.wrap .i64 (x1 - (IntKind.wrap .i64 (0 - 0))))) (RRec.mk 0 0 (VClk.mk (arr 0 [])) 0 (AEv.mk 0 0 0 0 0 0 0 0 []) 0))),hM,(Imp.sh (fun i=>bif Nat.beq i 10001 then 25 else i) rfl rfl rfl rfl rfl rfl)⟩
   ·replace hM:=(of_if hM).2 h2
    refine a_skip ?_
    exact ⟨([] : List RRec),hM,((Imp.nilRow (t:=0) (id:=10002) 64 29 rfl rfl).trans (Imp.sh (fun i=>bif Nat.beq i 10001 then 10002 else i) rfl rfl rfl rfl rfl rfl))⟩
  ·rintro a1 hM
   replace hM : groR_K2 a1 = some r:=hM
   unfold groR_K2 at hM
   refine a_seq (ar (.cons (o_move rfl)<|.cons (o_assign rfl)<|.nil _) ?_)
   obtain rfl:=Option.some.inj hM
   refine a_imp (σ' := ⟨[(4,.row 50000)],[(50000,some (.row 64 29 (List.map RRec.dv a1)))],[50000]⟩) (Imp.sh (fun i=>bif Nat.beq i 50000 then 10001 else i) rfl rfl rfl rfl rfl rfl) ?_
   exact a_ret (a_post (.r1 (.tmp rfl)) (DLe.refl _) (PostOk.spec (.cons rfl .nil)))
def catR_K2 (a4 : List RRec) : Option (List RRec) :=
 some a4
def catR_L3 (x0 : List (List RRec)) (k5 : Nat) (a6 : List RRec) : Option (List RRec) :=
 (idx x0 (k5 : Int)).bind fun v11=>
 chk (apOk 248 (List.length a6 + List.length v11))<|
 some (a6++v11)
def catR_K1 (x0 : List (List RRec)) (a1 : Int) : Option (List RRec) :=
 (groR a1).bind fun v3=>
 (foldM' 9223372036854775807 (List.length x0 : Int) (fun k5 s=>catR_L3 x0 k5 s) v3).bind fun s=>catR_K2 s
def catR_L4 (x0 : List (List RRec)) (k13 : Nat) (a14 : Int) : Option Int :=
 (idx x0 (k13 : Int)).bind fun v19=>
 if (decide ((IntKind.wrap .i64 (a14 + (List.length v19 : Int))) < 0)) = true then
  none
 else
  some (IntKind.wrap .i64 (a14 + (List.length v19 : Int)))
def catR (x0 : List (List RRec)) : Option (List RRec) :=
 (foldM' 9223372036854775807 (List.length x0 : Int) (fun k13 s=>catR_L4 x0 k13 s) 0).bind fun s=>catR_K1 x0 s
theorem catR_c {x0 : List (List RRec)} {r : (List RRec)} (hM : catR x0 = some r) : ACall Tryz.prog 110 ⟨[.sl 1 (List.map (encSl 29 RRec.dv) x0)],[],.row 50000,[(50000,some (.row 64 29 (List.map RRec.dv r)))],[50000]⟩ := by
 unfold catR at hM
 refine ACall.body Tryz.func110 Tryz.ntmps110 rfl rfl rfl rfl ?_
 refine a_seq (ar (.cons (o_assign rfl)<|.nil _) ?_)
 refine a_seq (ar (.cons (o_assign rfl)<|.nil _) ?_)
 refine a_cut (α:=Int) (fun s=>⟨[(0,.sl 1 (List.map (encSl 29 RRec.dv) x0)),(3,.int .i64 s)],[],[]⟩) (fun s=>catR_K1 x0 s = some r) ?_ ?_
 ·refine a_seq (ar (.cons (o_move rfl)<|.cons (t_len rfl)<|.cons (o_move rfl)<|.nil _) ?_)
  obtain ⟨a14,hL15,hK15⟩ := of_bind hM
  refine a_block ?_
  refine a_fold (fun k13 (s : Int)=>⟨[(0,.sl 1 (List.map (encSl 29 RRec.dv) x0)),(3,.int .i64 s),(9,.sl 1 (List.map (encSl 29 RRec.dv) x0)),(10,.int .i64 (List.length x0 : Int)),(11,.int .i64 (k13 : Int))],[],[]⟩) _ hL15 (Imp.sh (fun i=>i) rfl rfl rfl rfl rfl rfl) ?_ ?_
  ·rintro k13 a14 t16 hk13 hx13 hM
   replace hM : catR_L4 x0 k13 a14 = some t16:=hM
   unfold catR_L4 at hM
   refine a_seq (ar (.cons (o_int rfl rfl rfl)<|.nil _) ?_)
   refine a_seq ?_
   refine a_cond _ rfl (fun _=>?_) (fun c=>absurd hk13 (of_decide_eq_false c))
   refine a_skip (a_seq (a_block (a_seq ?_)))
   obtain ⟨v19,h18,hM⟩ := of_bind hM
   refine ar (.cons (t_index h18 rfl rfl rfl)<|.cons (o_load_es rfl rfl)<|.cons (o_assign rfl)<|.nil _) ?_
   refine a_seq (ar (.cons (o_move rfl)<|.cons (o_move rfl)<|.cons (t_len rfl)<|.cons (o_int rfl rfl rfl)<|.cons (o_assign rfl)<|.nil _) ?_)
   refine a_seq (ar (.cons (o_move rfl)<|.cons (o_int rfl rfl rfl)<|.nil _) ?_)
   refine a_cond _ rfl (fun h20=>?_) (fun h20=>?_)
   ·replace hM:=(of_if hM).1 h20
    cases hM
   ·replace hM:=(of_if hM).2 h20
    refine a_skip (ar (.cons (o_add rfl rfl (inR_i64 hk13 hx13))<|.cons (o_move rfl)<|.nil _) ?_)
    obtain rfl:=Option.some.inj hM
    exact (Imp.of (fun i=>i) (.cons rfl (DLe.refl _) (.cons rfl (DLe.refl _) (.cons rfl (DLe.refl _) (.cons rfl (DLe.refl _) (.cons rfl (DLe.succ _ _) .nil))))) .nil rfl rfl rfl)
  ·rintro k13 hk13 hx13
   refine a_seq (ar (.cons (o_int rfl rfl rfl)<|.nil _) ?_)
   refine a_seq ?_
   refine a_cond _ rfl (fun c=>absurd (of_decide_eq_true c) (Int.not_lt.2 hk13)) (fun _=>?_)
   refine a_exit ?_
   exact ⟨a14,hK15,(Imp.sh (fun i=>i) rfl rfl rfl rfl rfl rfl)⟩
 ·rintro a1 hM
  replace hM : catR_K1 x0 a1 = some r:=hM
  unfold catR_K1 at hM
  refine a_seq ?_
  obtain ⟨v3,h2,hM⟩ := of_bind hM
  refine ar (.cons (o_move rfl)<|.cons (o_callN (fun i=>bif Nat.beq i 50000 then 24 else i) 1 (groR_c h2) rfl (DLeL.refl _) .nil rfl .nil)<|.cons (o_assign rfl)<|.nil _) ?_
  refine a_cut (α:=(List RRec)) (fun s=>⟨[(6,.row 10001)],[(10001,some (.row 64 29 (List.map RRec.dv s)))],[10001]⟩) (fun s=>catR_K2 s = some r) ?_ ?_
  ·refine a_seq (ar (.cons (o_move rfl)<|.cons (t_len rfl)<|.cons (o_move rfl)<|.nil _) ?_)
   obtain ⟨a6,hL7,hK7⟩ := of_bind hM
   refine a_block ?_
   refine a_fold (fun k5 (s : (List RRec))=>⟨[(6,.row 10002),(25,.sl 1 (List.map (encSl 29 RRec.dv) x0)),(26,.int .i64 (List.length x0 : Int)),(27,.int .i64 (k5 : Int))],[(10002,some (.row 64 29 (List.map RRec.dv s)))],[10002]⟩) _ hL7 (Imp.sh (fun i=>bif Nat.beq i 10002 then 24 else i) rfl rfl rfl rfl rfl rfl) ?_ ?_
   ·rintro k5 a6 t8 hk5 hx5 hM
    replace hM : catR_L3 x0 k5 a6 = some t8:=hM
    unfold catR_L3 at hM
    refine a_seq (ar (.cons (o_int rfl rfl rfl)<|.nil _) ?_)
    refine a_seq ?_
    refine a_cond _ rfl (fun _=>?_) (fun c=>absurd hk5 (of_decide_eq_false c))
    refine a_skip (a_seq (a_block (a_seq ?_)))
    obtain ⟨v11,h10,hM⟩ := of_bind hM
    refine ar (.cons (t_index h10 rfl rfl rfl)<|.cons (o_load_es rfl rfl)<|.cons (o_assign rfl)<|.nil _) ?_
    obtain ⟨h12,hM⟩ := of_chk hM
    refine ar (.cons (o_move rfl)<|.cons (o_move rfl)<|.cons (t_append v11 h12 rfl rfl rfl Src.sl)<|.cons (o_assign rfl)<|.nil _) ?_
    refine ar (.cons (o_add rfl rfl (inR_i64 hk5 hx5))<|.cons (o_move rfl)<|.nil _) ?_
    obtain rfl:=Option.some.inj hM
    exact (Imp.of (fun i=>bif Nat.beq i 10002 then 33 else i) (.cons rfl (DLe.refl _) (.cons rfl (DLe.refl _) (.cons rfl (DLe.refl _) (.cons rfl (DLe.succ _ _) .nil)))) (.cons rfl (.refl _) .nil) rfl rfl rfl)
   ·rintro k5 hk5 hx5
    refine a_seq (ar (.cons (o_int rfl rfl rfl)<|.nil _) ?_)
    refine a_seq ?_
    refine a_cond _ rfl (fun c=>absurd (of_decide_eq_true c) (Int.not_lt.2 hk5)) (fun _=>?_)
    refine a_exit ?_
    exact ⟨a6,hK7,(Imp.sh (fun i=>bif Nat.beq i 10001 then 10002 else i) rfl rfl rfl rfl rfl rfl)⟩
  ·rintro a4 hM
   replace hM : catR_K2 a4 = some r:=hM
   unfold catR_K2 at hM
   refine a_seq (ar (.cons (o_move rfl)<|.cons (o_assign rfl)<|.nil _) ?_)
   obtain rfl:=Option.some.inj hM
   refine a_imp (σ' := ⟨[(2,.row 50000)],[(50000,some (.row 64 29 (List.map RRec.dv a4)))],[50000]⟩) (Imp.sh (fun i=>bif Nat.beq i 50000 then 10001 else i) rfl rfl rfl rfl rfl rfl) ?_
   exact a_ret (a_post (.r1 (.tmp rfl)) (DLe.refl _) (PostOk.spec (.cons rfl .nil)))
def collect_bySeq (x0 : RRec) (x1 : RRec) : Option Int :=
 if (decide (x0.gSeq < x1.gSeq)) = true then
  some (-1)
 else
  if (decide (x1.gSeq < x0.gSeq)) = true then
   some 1
  else
   some 0
theorem collect_bySeq_c {x0 : RRec} {x1 : RRec} {r : Int} (hM : collect_bySeq x0 x1 = some r) : PCall Tryz.prog 112 [.agg (RRec.cs x0),.agg (RRec.cs x1)] (.int .i64 r):=by
 unfold collect_bySeq at hM
 refine PCall.body Tryz.func112 Tryz.ntmps112 rfl rfl rfl rfl ?_
 refine a_seq (ar (.cons (o_box rfl rfl)<|.cons (o_box rfl rfl)<|.cons (o_assign rfl)<|.nil _) ?_)
 refine a_seq (a_block (a_seq (ar (.cons (o_fieldAddr rfl)<|.cons (o_load_s rfl rfl rfl)<|.cons (o_fieldAddr rfl)<|.cons (o_load_s rfl rfl rfl)<|.cons (o_int rfl rfl rfl)<|.cons (o_assign rfl)<|.nil _) ?_)))
 refine a_cond _ rfl (fun h1=>?_) (fun h1=>?_)
 ·replace hM:=(of_if hM).1 h1
  refine a_seq (ar (.cons (o_assign rfl)<|.nil _) ?_)
  obtain rfl:=Option.some.inj hM
  exact a_ret (a_post (.r1 (.tmp rfl)) (DLe.refl _) PostOk.nil.spec)
 ·replace hM:=(of_if hM).2 h1
  refine a_seq (ar (.cons (o_fieldAddr rfl)<|.cons (o_load_s rfl rfl rfl)<|.cons (o_fieldAddr rfl)<|.cons (o_load_s rfl rfl rfl)<|.cons (o_int rfl rfl rfl)<|.cons (o_assign rfl)<|.nil _) ?_)
  refine a_cond _ rfl (fun h2=>?_) (fun h2=>?_)
  ·replace hM:=(of_if hM).1 h2
   refine a_seq (ar (.cons (o_assign rfl)<|.nil _) ?_)
   obtain rfl:=Option.some.inj hM
   exact a_ret (a_post (.r1 (.tmp rfl)) (DLe.refl _) PostOk.nil.spec)
  ·replace hM:=(of_if hM).2 h2
   refine a_skip (a_seq (ar (.cons (o_assign rfl)<|.nil _) ?_))
   obtain rfl:=Option.some.inj hM
   exact a_ret (a_post (.r1 (.tmp rfl)) (DLe.refl _) PostOk.nil.spec)
def insM_K1 (a1 : List RRec) : Option (List RRec) :=
 some a1
def insM_K3 (a3 : Int) (a7 : List RRec) : Option (Ctl ((List RRec) × Int) (List RRec)) :=
 some (.next (a7,(IntKind.wrap .i64 (a3 + 1))))
def insM_L4 (x1 : Int) (a8 : List RRec) (a9 : Int) : Option (Ctl ((List RRec) × Int) (List RRec)) :=
 (gb (decide (x1 < a9)) (RRec.mk 0 0 (VClk.mk (arr 0 [])) 0 (AEv.mk 0 0 0 0 0 0 0 0 []) 0) (idx a8 a9)).bind fun v13=>
 (gb (decide (x1 < a9)) (RRec.mk 0 0 (VClk.mk (arr 0 [])) 0 (AEv.mk 0 0 0 0 0 0 0 0 []) 0) (idx a8 (IntKind.wrap .i64 (a9 - 1)))).bind fun v15=>
 (gb (decide (x1 < a9)) (0) (collect_bySeq v13 v15)).bind fun v17=>
 if ((decide (x1 < a9)) && (decide (v17 < 0))) = true then
  (idx a8 (IntKind.wrap .i64 (a9 - 1))).bind fun v20=>
  (idx a8 a9).bind fun v22=>
  (idx a8 a9).bind fun v24=>
  (idx (List.set a8 (Int.toNat a9) v20) (IntKind.wrap .i64 (a9 - 1))).bind fun v26=>
  some (.next ((List.set (List.set a8 (Int.toNat a9) v20) (Int.toNat (IntKind.wrap .i64 (a9 - 1))) v22),(IntKind.wrap .i64 (a9 - 1))))
 else
  some (.done a8)
def insM_L2 (x1 : Int) (x2 : Int) (a2 : List RRec) (a3 : Int) : Option (Ctl ((List RRec) × Int) (List RRec)) :=
 if (decide (a3 < x2)) = true then
  (whileM (E:=(List RRec)) (fun s=>insM_L4 x1 s.1 s.2) (a2,a3)).bind fun e=>insM_K3 a3 e
 else
  some (.done a2)
def insM (x1 : Int) (x2 : Int) (o0 : List RRec) : Option (List RRec) :=
 (whileM (E:=(List RRec)) (fun s=>insM_L2 x1 x2 s.1 s.2) (o0,(IntKind.wrap .i64 (x1 + 1)))).bind fun e=>insM_K1 e
theorem insM_c {x1 : Int} {x2 : Int} {o0 : List RRec} {r : (List RRec)} (hM : insM x1 x2 o0 = some r) : ACall Tryz.prog 75 ⟨[.row 100000,.int .i64 x1,.int .i64 x2,.val (.func (.func 112) #[] #[])],[(100000,some (.row 64 29 (List.map RRec.dv o0)))],.tup [],[(100000,some (.row 64 29 (List.map RRec.dv r)))],[]⟩ := by
 unfold insM at hM
 refine ACall.body Tryz.func75 Tryz.ntmps75 rfl rfl rfl rfl ?_
 refine a_end ?_
 refine a_seq (ar (.cons (o_move rfl)<|.cons (o_int rfl rfl rfl)<|.cons (o_assign rfl)<|.nil _) ?_)
 refine a_tail (α:=(List RRec)) (fun s=>⟨[],[(100000,some (.row 64 29 (List.map RRec.dv s)))],[100000]⟩) (fun s=>insM_K1 s = some r) ?_ ?_
 ·obtain ⟨e4,hL4,hK4⟩ := of_bind hM
  refine a_block (a_while (fun s : (List RRec) × Int=>⟨[(0,.row 100000),(1,.int .i64 x1),(2,.int .i64 x2),(3,.val (.func (.func 112) #[] #[])),(8,.int .i64 s.2)],[(100000,some (.row 64 29 (List.map RRec.dv s.1)))],[100000]⟩) _ hL4 (Imp.sh (fun i=>i) rfl rfl rfl rfl rfl rfl) ?_)
  rintro ⟨a2,a3⟩ t5 hM hE4
  replace hM : insM_L2 x1 x2 a2 a3 = some t5:=hM
  unfold insM_L2 at hM
  refine a_seq (a_seq (ar (.cons (o_move rfl)<|.cons (o_move rfl)<|.cons (o_int rfl rfl rfl)<|.nil _) ?_))
  refine a_cond _ rfl (fun h6=>?_) (fun h6=>?_)
  ·replace hM:=(of_if hM).1 h6
   refine a_skip ?_
   refine a_cut (α:=(List RRec)) (fun s=>⟨[(0,.row 100000),(1,.int .i64 x1),(2,.int .i64 x2),(3,.val (.func (.func 112) #[] #[])),(8,.int .i64 a3)],[(100000,some (.row 64 29 (List.map RRec.dv s)))],[100000]⟩) (fun s=>insM_K3 a3 s = some t5) ?_ ?_
   ·refine a_block (a_seq (ar (.cons (o_move rfl)<|.cons (o_assign rfl)<|.nil _) ?_))
    obtain ⟨e10,hL10,hK10⟩ := of_bind hM
    refine a_block (a_while (fun s : (List RRec) × Int=>⟨[(0,.row 100000),(1,.int .i64 x1),(2,.int .i64 x2),(3,.val (.func (.func 112) #[] #[])),(8,.int .i64 a3),(9,.int .i64 s.2)],[(100000,some (.row 64 29 (List.map RRec.dv s.1)))],[100000]⟩) _ hL10 (Imp.sh (fun i=>i) rfl rfl rfl rfl rfl rfl) ?_)
    rintro ⟨a8,a9⟩ t11 hM hE10
    replace hM : insM_L4 x1 a8 a9 = some t11:=hM
    unfold insM_L4 at hM
    refine a_seq (a_seq ?_)
    obtain ⟨v13,h12,hM⟩ := of_bind hM
    obtain ⟨v15,h14,hM⟩ := of_bind hM
    obtain ⟨v17,h16,hM⟩ := of_bind hM
    refine ad mixed (.cons (o_move rfl)<|.cons (o_move rfl)<|.cons (o_int rfl rfl rfl)<|.cons (o_move rfl)<|.cons (o_guardG .bT rfl rfl (fun hb=>(.keep .nil)) (fun hb=>o_move rfl))<|.cons (o_guardG .bT rfl rfl (fun hb=>(.keep .nil)) (fun hb=>o_move rfl))<|.cons (o_guardG .bT rfl rfl (fun hb=>(.keep .nil)) (fun hb=>o_move rfl))<|.cons (o_guardG .bT rfl rfl (fun hb=>(.strip rfl hb (.strip rfl hb .nil))) (fun hb=>t_index_r (of_gb h12 hb) rfl rfl rfl))<|.cons (o_guardG .bT rfl rfl (fun hb=>(.strip rfl hb .nil)) (fun hb=>t_load_pr (of_gb h12 hb) rfl rfl rfl rfl rfl))<|.cons (o_guardG .bT rfl rfl (fun hb=>(.keep .nil)) (fun hb=>o_move rfl))<|.cons (o_guardG .bT rfl rfl (fun hb=>(.keep .nil)) (fun hb=>o_move rfl))<|.cons (o_guardG .bT rfl rfl (fun hb=>(.strip rfl hb .nil)) (fun hb=>o_int rfl rfl rfl))<|.cons (o_guardG .bT rfl rfl (fun hb=>(.strip rfl hb (.strip rfl hb .nil))) (fun hb=>t_index_r (of_gb h14 hb) rfl rfl rfl))<|.cons (o_guardG .bT rfl rfl (fun hb=>(.strip rfl hb .nil)) (fun hb=>t_load_pr (of_gb h14 hb) rfl rfl rfl rfl rfl))<|.cons (o_guardG .bT rfl rfl (fun hb=>(.strip rfl hb (.strip rfl hb (.strip rfl hb .nil)))) (fun hb=>o_callF (collect_bySeq_c (of_gb h16 hb)) rfl rfl (DLeL.refl _) rfl))<|.cons (o_guardG .bT rfl rfl (fun hb=>(.strip rfl hb .nil)) (fun hb=>o_int rfl rfl rfl))<|.cons (o_and rfl rfl)<|.nil _) ?_
    refine a_cond _ rfl (fun h18=>?_) (fun h18=>?_)
    ·replace hM:=(of_if hM).1 h18
     refine a_skip (a_seq (a_block ?_))
     obtain ⟨v20,h19,hM⟩ := of_bind hM
     obtain ⟨v22,h21,hM⟩ := of_bind hM
     obtain ⟨v24,h23,hM⟩ := of_bind hM
     obtain ⟨v26,h25,hM⟩ := of_bind hM
     refine ad mixed (.cons (o_move rfl)<|.cons (o_move rfl)<|.cons (o_move rfl)<|.cons (o_move rfl)<|.cons (o_int rfl rfl rfl)<|.cons (o_move rfl)<|.cons (o_move rfl)<|.cons (o_int rfl rfl rfl)<|.cons (t_index_r h19 rfl rfl rfl)<|.cons (t_load_pr h19 rfl rfl rfl rfl rfl)<|.cons (o_move rfl)<|.cons (o_move rfl)<|.cons (t_index_r h21 rfl rfl rfl)<|.cons (t_load_pr h21 rfl rfl rfl rfl rfl)<|.cons (t_index_r h23 rfl rfl rfl)<|.cons (t_store_p v20 h23 rfl rfl rfl rfl rfl rfl rfl rfl rfl rfl rfl)<|.cons (t_index_r h25 rfl rfl rfl)<|.cons (t_store_p v22 h25 rfl rfl rfl rfl rfl rfl rfl rfl rfl rfl rfl)<|.nil _) ?_
     refine ar (.cons (o_move rfl)<|.cons (o_int rfl rfl rfl)<|.cons (o_assign rfl)<|.nil _) ?_
     obtain rfl:=Option.some.inj hM
     exact ⟨((List.set (List.set a8 (Int.toNat a9) v20) (Int.toNat (IntKind.wrap .i64 (a9 - 1))) v22),(IntKind.wrap .i64 (a9 - 1))),rfl,(Imp.sh (fun i=>i) rfl rfl rfl rfl rfl rfl)⟩
    ·replace hM:=(of_if hM).2 h18
     refine a_exit ?_
     obtain rfl:=Option.some.inj hM
     obtain rfl:=hE10 _ rfl
     exact ⟨a8,hK10,(Imp.sh (fun i=>i) rfl rfl rfl rfl rfl rfl)⟩
   ·rintro a7 hM
    replace hM : insM_K3 a3 a7 = some t5:=hM
    unfold insM_K3 at hM
    refine ar (.cons (o_move rfl)<|.cons (o_int rfl rfl rfl)<|.cons (o_assign rfl)<|.nil _) ?_
    obtain rfl:=Option.some.inj hM
    exact ⟨(a7,(IntKind.wrap .i64 (a3 + 1))),rfl,(Imp.sh (fun i=>i) rfl rfl rfl rfl rfl rfl)⟩
  ·replace hM:=(of_if hM).2 h6
   refine a_exit ?_
   obtain rfl:=Option.some.inj hM
   obtain rfl:=hE4 _ rfl
   exact ⟨a2,hK4,(Imp.sh (fun i=>i) rfl rfl rfl rfl rfl rfl)⟩
 ·rintro a1 hM
  replace hM : insM_K1 a1 = some r:=hM
  unfold insM_K1 at hM
  obtain rfl:=Option.some.inj hM
  refine n_imp (σ' := ⟨[],[(100000,some (.row 64 29 (List.map RRec.dv a1)))],[100000]⟩) (Imp.sh (fun i=>i) rfl rfl rfl rfl rfl rfl) ?_
  exact n_done (a_postN (.r0 ) (DLe.refl _) (PostOk.spec (.cons rfl .nil)))
def swpM_K1 (a1 : List RRec) : Option (List RRec) :=
 some a1
def swpM_L2 (x1 : Int) (x2 : Int) (x3 : Int) (a2 : List RRec) (a3 : Int) : Option (Ctl ((List RRec) × Int) (List RRec)) :=
 if (decide (a3 < x3)) = true then
  (idx a2 (IntKind.wrap .i64 (x2 + a3))).bind fun v8=>
  (idx a2 (IntKind.wrap .i64 (x1 + a3))).bind fun v10=>
  (idx a2 (IntKind.wrap .i64 (x1 + a3))).bind fun v12=>
  (idx (List.set a2 (Int.toNat (IntKind.wrap .i64 (x1 + a3))) v8) (IntKind.wrap .i64 (x2 + a3))).bind fun v14=>
  some (.next ((List.set (List.set a2 (Int.toNat (IntKind.wrap .i64 (x1 + a3))) v8) (Int.toNat (IntKind.wrap .i64 (x2 + a3))) v10),(IntKind.wrap .i64 (a3 + 1))))
 else
  some (.done a2)
def swpM (x1 : Int) (x2 : Int) (x3 : Int) (o0 : List RRec) : Option (List RRec) :=
 (whileM (E:=(List RRec)) (fun s=>swpM_L2 x1 x2 x3 s.1 s.2) (o0,0)).bind fun e=>swpM_K1 e
theorem swpM_c {x1 : Int} {x2 : Int} {x3 : Int} {o0 : List RRec} {r : (List RRec)} (hM : swpM x1 x2 x3 o0 = some r) : ACall Tryz.prog 166 ⟨[.row 100000,.int .i64 x1,.int .i64 x2,.int .i64 x3,.val (.func (.func 112) #[] #[])],[(100000,some (.row 64 29 (List.map RRec.dv o0)))],.tup [],[(100000,some (.row 64 29 (List.map RRec.dv r)))],[]⟩ := by
 unfold swpM at hM
 refine ACall.body Tryz.func166 Tryz.ntmps166 rfl rfl rfl rfl ?_
 refine a_end ?_
 refine a_seq (ar (.cons (o_assign rfl)<|.nil _) ?_)
 refine a_tail (α:=(List RRec)) (fun s=>⟨[],[(100000,some (.row 64 29 (List.map RRec.dv s)))],[100000]⟩) (fun s=>swpM_K1 s = some r) ?_ ?_
 ·obtain ⟨e4,hL4,hK4⟩ := of_bind hM
  refine a_block (a_while (fun s : (List RRec) × Int=>⟨[(0,.row 100000),(1,.int .i64 x1),(2,.int .i64 x2),(3,.int .i64 x3),(10,.int .i64 s.2)],[(100000,some (.row 64 29 (List.map RRec.dv s.1)))],[100000]⟩) _ hL4 (Imp.sh (fun i=>i) rfl rfl rfl rfl rfl rfl) ?_)
  rintro ⟨a2,a3⟩ t5 hM hE4
  replace hM : swpM_L2 x1 x2 x3 a2 a3 = some t5:=hM
  unfold swpM_L2 at hM
  refine a_seq (a_seq (ar (.cons (o_move rfl)<|.cons (o_move rfl)<|.cons (o_int rfl rfl rfl)<|.nil _) ?_))
  refine a_cond _ rfl (fun h6=>?_) (fun h6=>?_)
  ·replace hM:=(of_if hM).1 h6
   refine a_skip (a_seq (a_block ?_))
   obtain ⟨v8,h7,hM⟩ := of_bind hM
   obtain ⟨v10,h9,hM⟩ := of_bind hM
   obtain ⟨v12,h11,hM⟩ := of_bind hM
   obtain ⟨v14,h13,hM⟩ := of_bind hM
   refine ad mixed (.cons (o_move rfl)<|.cons (o_move rfl)<|.cons (o_move rfl)<|.cons (o_int rfl rfl rfl)<|.cons (o_move rfl)<|.cons (o_move rfl)<|.cons (o_move rfl)<|.cons (o_int rfl rfl rfl)<|.cons (o_move rfl)<|.cons (o_move rfl)<|.cons (o_move rfl)<|.cons (o_int rfl rfl rfl)<|.cons (t_index_r h7 rfl rfl rfl)<|.cons (t_load_pr h7 rfl rfl rfl rfl rfl)<|.cons (o_move rfl)<|.cons (o_move rfl)<|.cons (o_move rfl)<|.cons (o_int rfl rfl rfl)<|.cons (t_index_r h9 rfl rfl rfl)<|.cons (t_load_pr h9 rfl rfl rfl rfl rfl)<|.cons (t_index_r h11 rfl rfl rfl)<|.cons (t_store_p v8 h11 rfl rfl rfl rfl rfl rfl rfl rfl rfl rfl rfl)<|.cons (t_index_r h13 rfl rfl rfl)<|.cons (t_store_p v10 h13 rfl rfl rfl rfl rfl rfl rfl rfl rfl rfl rfl)<|.nil _) ?_
   refine ar (.cons (o_move rfl)<|.cons (o_int rfl rfl rfl)<|.cons (o_assign rfl)<|.nil _) ?_
   obtain rfl:=Option.some.inj hM
   exact ⟨((List.set (List.set a2 (Int.toNat (IntKind.wrap .i64 (x1 + a3))) v8) (Int.toNat (IntKind.wrap .i64 (x2 + a3))) v10),(IntKind.wrap .i64 (a3 + 1))),rfl,(Imp.sh (fun i=>i) rfl rfl rfl rfl rfl rfl)⟩
  ·replace hM:=(of_if hM).2 h6
   refine a_exit ?_
   obtain rfl:=Option.some.inj hM
   obtain rfl:=hE4 _ rfl
   exact ⟨a2,hK4,(Imp.sh (fun i=>i) rfl rfl rfl rfl rfl rfl)⟩
 ·rintro a1 hM
  replace hM : swpM_K1 a1 = some r:=hM
  unfold swpM_K1 at hM
  obtain rfl:=Option.some.inj hM
  refine n_imp (σ' := ⟨[],[(100000,some (.row 64 29 (List.map RRec.dv a1)))],[100000]⟩) (Imp.sh (fun i=>i) rfl rfl rfl rfl rfl rfl) ?_
  exact n_done (a_postN (.r0 ) (DLe.refl _) (PostOk.spec (.cons rfl .nil)))
def rotM_K1 (x2 : Int) (a1 : List RRec) (a2 : Int) : Option (List RRec) :=
 (swpM (IntKind.wrap .i64 (x2 - a2)) x2 a2 a1).bind fun v4=>
 some v4
def rotM_L2 (x2 : Int) (a5 : List RRec) (a6 : Int) (a7 : Int) : Option (Ctl ((List RRec) × Int × Int) ((List RRec) × Int)) :=
 if (a6 != a7) = true then
  if (decide (a7 < a6)) = true then
   (swpM (IntKind.wrap .i64 (x2 - a6)) x2 a7 a5).bind fun v13=>
   some (.next (v13,(IntKind.wrap .i64 (a6 - a7)),a7))
  else
   (swpM (IntKind.wrap .i64 (x2 - a6)) (IntKind.wrap .i64 ((IntKind.wrap .i64 (x2 + a7)) - a6)) a6 a5).bind fun v15=>
   some (.next (v15,a6,(IntKind.wrap .i64 (a7 - a6))))
 else
  some (.done (a5,a6))
def rotM (x1 : Int) (x2 : Int) (x3 : Int) (o0 : List RRec) : Option (List RRec) :=
 (whileM (E:=(List RRec) × Int) (fun s=>rotM_L2 x2 s.1 s.2.1 s.2.2) (o0,(IntKind.wrap .i64 (x2 - x1)),(IntKind.wrap .i64 (x3 - x2)))).bind fun e=>rotM_K1 x2 e.1 e.2
theorem rotM_c {x1 : Int} {x2 : Int} {x3 : Int} {o0 : List RRec} {r : (List RRec)} (hM : rotM x1 x2 x3 o0 = some r) : ACall Tryz.prog 162 ⟨[.row 100000,.int .i64 x1,.int .i64 x2,.int .i64 x3,.val (.func (.func 112) #[] #[])],[(100000,some (.row 64 29 (List.map RRec.dv o0)))],.tup [],[(100000,some (.row 64 29 (List.map RRec.dv r)))],[]⟩ := by
 unfold rotM at hM
 refine ACall.body Tryz.func162 Tryz.ntmps162 rfl rfl rfl rfl ?_
 refine a_end ?_
 refine a_seq (ar (.cons (o_move rfl)<|.cons (o_move rfl)<|.cons (o_int rfl rfl rfl)<|.cons (o_assign rfl)<|.nil _) ?_)
 refine a_seq (ar (.cons (o_move rfl)<|.cons (o_move rfl)<|.cons (o_int rfl rfl rfl)<|.cons (o_assign rfl)<|.nil _) ?_)
 refine a_cut (α:=(List RRec) × Int) (fun s=>⟨[(0,.row 100000),(2,.int .i64 x2),(4,.val (.func (.func 112) #[] #[])),(10,.int .i64 s.2)],[(100000,some (.row 64 29 (List.map RRec.dv s.1)))],[100000]⟩) (fun s=>rotM_K1 x2 s.1 s.2 = some r) ?_ ?_
 ·obtain ⟨e8,hL8,hK8⟩ := of_bind hM
  refine a_block (a_while (fun s : (List RRec) × Int × Int=>⟨[(0,.row 100000),(2,.int .i64 x2),(4,.val (.func (.func 112) #[] #[])),(10,.int .i64 s.2.1),(11,.int .i64 s.2.2)],[(100000,some (.row 64 29 (List.map RRec.dv s.1)))],[100000]⟩) _ hL8 (Imp.sh (fun i=>i) rfl rfl rfl rfl rfl rfl) ?_)
  rintro ⟨a5,a6,a7⟩ t9 hM hE8
  replace hM : rotM_L2 x2 a5 a6 a7 = some t9:=hM
  unfold rotM_L2 at hM
  refine a_seq (a_seq (ar (.cons (o_move rfl)<|.cons (o_move rfl)<|.cons (o_int rfl rfl rfl)<|.nil _) ?_))
  refine a_cond _ rfl (fun h10=>?_) (fun h10=>?_)
  ·replace hM:=(of_if hM).1 h10
   refine a_skip (a_block (a_seq (ar (.cons (o_move rfl)<|.cons (o_move rfl)<|.cons (o_int rfl rfl rfl)<|.nil _) ?_)))
   refine a_cond _ rfl (fun h11=>?_) (fun h11=>?_)
   ·replace hM:=(of_if hM).1 h11
    refine a_seq ?_
    obtain ⟨v13,h12,hM⟩ := of_bind hM
    refine ar (.cons (o_move rfl)<|.cons (o_move rfl)<|.cons (o_move rfl)<|.cons (o_int rfl rfl rfl)<|.cons (o_move rfl)<|.cons (o_move rfl)<|.cons (o_move rfl)<|.cons (o_callN (fun i=>bif Nat.beq i 100000 then 100000 else i) 1 (swpM_c h12) rfl (DLeL.refl _) (.cons rfl .nil) rfl .nil)<|.nil _) ?_
    refine ar (.cons (o_move rfl)<|.cons (o_move rfl)<|.cons (o_int rfl rfl rfl)<|.cons (o_assign rfl)<|.nil _) ?_
    obtain rfl:=Option.some.inj hM
    exact ⟨(v13,(IntKind.wrap .i64 (a6 - a7)),a7),rfl,(Imp.sh (fun i=>i) rfl rfl rfl rfl rfl rfl)⟩
   ·replace hM:=(of_if hM).2 h11
    refine a_seq ?_
    obtain ⟨v15,h14,hM⟩ := of_bind hM
    refine ar (.cons (o_move rfl)<|.cons (o_move rfl)<|.cons (o_move rfl)<|.cons (o_int rfl rfl rfl)<|.cons (o_move rfl)<|.cons (o_move rfl)<|.cons (o_int rfl rfl rfl)<|.cons (o_move rfl)<|.cons (o_int rfl rfl rfl)<|.cons (o_move rfl)<|.cons (o_move rfl)<|.cons (o_callN (fun i=>bif Nat.beq i 100000 then 100000 else i) 1 (swpM_c h14) rfl (DLeL.refl _) (.cons rfl .nil) rfl .nil)<|.nil _) ?_
    refine ar (.cons (o_move rfl)<|.cons (o_move rfl)<|.cons (o_int rfl rfl rfl)<|.cons (o_assign rfl)<|.nil _) ?_
    obtain rfl:=Option.some.inj hM
    exact ⟨(v15,a6,(IntKind.wrap .i64 (a7 - a6))),rfl,(Imp.sh (fun i=>i) rfl rfl rfl rfl rfl rfl)⟩
  ·replace hM:=(of_if hM).2 h10
   refine a_exit ?_
   obtain rfl:=Option.some.inj hM
   obtain rfl:=hE8 _ rfl
   exact ⟨(a5,a6),hK8,(Imp.sh (fun i=>i) rfl rfl rfl rfl rfl rfl)⟩
 ·rintro ⟨a1,a2⟩ hM
  replace hM : rotM_K1 x2 a1 a2 = some r:=hM
  unfold rotM_K1 at hM
  obtain ⟨v4,h3,hM⟩ := of_bind hM
  refine ar (.cons (o_move rfl)<|.cons (o_move rfl)<|.cons (o_move rfl)<|.cons (o_int rfl rfl rfl)<|.cons (o_move rfl)<|.cons (o_move rfl)<|.cons (o_move rfl)<|.cons (o_callN (fun i=>bif Nat.beq i 100000 then 100000 else i) 1 (swpM_c h3) rfl (DLeL.refl _) (.cons rfl .nil) rfl .nil)<|.nil _) ?_
  obtain rfl:=Option.some.inj hM
  refine n_imp (σ' := ⟨[],[(100000,some (.row 64 29 (List.map RRec.dv v4)))],[100000]⟩) (Imp.sh (fun i=>i) rfl rfl rfl rfl rfl rfl) ?_
  exact n_done (a_postN (.r0 ) (DLe.refl _) (PostOk.spec (.cons rfl .nil)))
def symM_K6 (x1 : Int) (x2 : Int) (x3 : Int) (self : Int→Int→Int→(List RRec)→Option (List RRec)) (a3 : Int) (a5 : List RRec) : Option (List RRec) :=
 if ((decide ((IntKind.wrap .i64 (Int.fdiv (IntKind.wrap .u64 (IntKind.wrap .i64 (x1 + x3))) (2 ^ min (Int.toNat 1) (IntKind.bits .u64)))) < (IntKind.wrap .i64 ((IntKind.wrap .i64 ((IntKind.wrap .i64 (Int.fdiv (IntKind.wrap .u64 (IntKind.wrap .i64 (x1 + x3))) (2 ^ min (Int.toNat 1) (IntKind.bits .u64)))) + x2)) - a3)))) && (decide ((IntKind.wrap .i64 ((IntKind.wrap .i64 ((IntKind.wrap .i64 (Int.fdiv (IntKind.wrap .u64 (IntKind.wrap .i64 (x1 + x3))) (2 ^ min (Int.toNat 1) (IntKind.bits .u64)))) + x2)) - a3)) < x3))) = true then
  (self (IntKind.wrap .i64 (Int.fdiv (IntKind.wrap .u64 (IntKind.wrap .i64 (x1 + x3))) (2 ^ min (Int.toNat 1) (IntKind.bits .u64)))) (IntKind.wrap .i64 ((IntKind.wrap .i64 ((IntKind.wrap .i64 (Int.fdiv (IntKind.wrap .u64 (IntKind.wrap .i64 (x1 + x3))) (2 ^ min (Int.toNat 1) (IntKind.bits .u64)))) + x2)) - a3)) x3 a5).bind fun v8=>
  some v8
 else
  some a5
def symM_K5 (x1 : Int) (x2 : Int) (x3 : Int) (self : Int→Int→Int→(List RRec)→Option (List RRec)) (a3 : Int) (a4 : List RRec) : Option (List RRec) :=
 if ((decide (x1 < a3)) && (decide (a3 < (IntKind.wrap .i64 (Int.fdiv (IntKind.wrap .u64 (IntKind.wrap .i64 (x1 + x3))) (2 ^ min (Int.toNat 1) (IntKind.bits .u64))))))) = true then
  (self x1 a3 (IntKind.wrap .i64 (Int.fdiv (IntKind.wrap .u64 (IntKind.wrap .i64 (x1 + x3))) (2 ^ min (Int.toNat 1) (IntKind.bits .u64)))) a4).bind fun v11=>
  symM_K6 x1 x2 x3 self a3 v11
 else
  symM_K6 x1 x2 x3 self a3 a4
def symM_K4 (x1 : Int) (x2 : Int) (x3 : Int) (o0 : List RRec) (self : Int→Int→Int→(List RRec)→Option (List RRec)) (a3 : Int) : Option (List RRec) :=
 if ((decide (a3 < x2)) && (decide (x2 < (IntKind.wrap .i64 ((IntKind.wrap .i64 ((IntKind.wrap .i64 (Int.fdiv (IntKind.wrap .u64 (IntKind.wrap .i64 (x1 + x3))) (2 ^ min (Int.toNat 1) (IntKind.bits .u64)))) + x2)) - a3))))) = true then
  (rotM a3 x2 (IntKind.wrap .i64 ((IntKind.wrap .i64 ((IntKind.wrap .i64 (Int.fdiv (IntKind.wrap .u64 (IntKind.wrap .i64 (x1 + x3))) (2 ^ min (Int.toNat 1) (IntKind.bits .u64)))) + x2)) - a3)) o0).bind fun v14=>
  symM_K5 x1 x2 x3 self a3 v14
 else
  symM_K5 x1 x2 x3 self a3 o0
def symM_L7 (x1 : Int) (x2 : Int) (x3 : Int) (o0 : List RRec) (a15 : Int) (a16 : Int) : Option (Ctl (Int × Int) Int) :=
 if (decide (a15 < a16)) = true then
  (idx o0 (IntKind.wrap .i64 ((IntKind.wrap .i64 ((IntKind.wrap .i64 ((IntKind.wrap .i64 (Int.fdiv (IntKind.wrap .u64 (IntKind.wrap .i64 (x1 + x3))) (2 ^ min (Int.toNat 1) (IntKind.bits .u64)))) + x2)) - 1)) - (IntKind.wrap .i64 (Int.fdiv (IntKind.wrap .u64 (IntKind.wrap .i64 (a15 + a16))) (2 ^ min (Int.toNat 1) (IntKind.bits .u64))))))).bind fun v21=>
  (idx o0 (IntKind.wrap .i64 (Int.fdiv (IntKind.wrap .u64 (IntKind.wrap .i64 (a15 + a16))) (2 ^ min (Int.toNat 1) (IntKind.bits .u64))))).bind fun v23=>
  (collect_bySeq v21 v23).bind fun v25=>
  if (!(decide (v25 < 0))) = true then
   some (.next ((IntKind.wrap .i64 ((IntKind.wrap .i64 (Int.fdiv (IntKind.wrap .u64 (IntKind.wrap .i64 (a15 + a16))) (2 ^ min (Int.toNat 1) (IntKind.bits .u64)))) + 1)),a16))
  else
   some (.next (a15,(IntKind.wrap .i64 (Int.fdiv (IntKind.wrap .u64 (IntKind.wrap .i64 (a15 + a16))) (2 ^ min (Int.toNat 1) (IntKind.bits .u64))))))
 else
  some (.done a15)
def symM_K3 (x1 : Int) (x2 : Int) (x3 : Int) (o0 : List RRec) (self : Int→Int→Int→(List RRec)→Option (List RRec)) (a1 : Int) (a2 : Int) : Option (List RRec) :=
 (whileM (E:=Int) (fun s=>symM_L7 x1 x2 x3 o0 s.1 s.2) (a1,a2)).bind fun e=>symM_K4 x1 x2 x3 o0 self e
def symM_K2 (x1 : Int) (x2 : Int) (x3 : Int) (o0 : List RRec) (self : Int→Int→Int→(List RRec)→Option (List RRec)) : Option (List RRec) :=
 if (decide ((IntKind.wrap .i64 (Int.fdiv (IntKind.wrap .u64 (IntKind.wrap .i64 (x1 + x3))) (2 ^ min (Int.toNat 1) (IntKind.bits .u64)))) < x2)) = true then
  symM_K3 x1 x2 x3 o0 self (IntKind.wrap .i64 ((IntKind.wrap .i64 ((IntKind.wrap .i64 (Int.fdiv (IntKind.wrap .u64 (IntKind.wrap .i64 (x1 + x3))) (2 ^ min (Int.toNat 1) (IntKind.bits .u64)))) + x2)) - x3)) (IntKind.wrap .i64 (Int.fdiv (IntKind.wrap .u64 (IntKind.wrap .i64 (x1 + x3))) (2 ^ min (Int.toNat 1) (IntKind.bits .u64))))
 else
  symM_K3 x1 x2 x3 o0 self x1 x2
def symM_K9 (a30 : List RRec) : Option (List RRec) :=
 some a30
def symM_L10 (a29 : Int) (a31 : List RRec) (a32 : Int) : Option (Ctl ((List RRec) × Int) (List RRec)) :=
 if (decide (a29 < a32)) = true then
  (idx a31 (IntKind.wrap .i64 (a32 - 1))).bind fun v37=>
  (idx a31 a32).bind fun v39=>
  (idx a31 a32).bind fun v41=>
  (idx (List.set a31 (Int.toNat a32) v37) (IntKind.wrap .i64 (a32 - 1))).bind fun v43=>
  some (.next ((List.set (List.set a31 (Int.toNat a32) v37) (Int.toNat (IntKind.wrap .i64 (a32 - 1))) v39),(IntKind.wrap .i64 (a32 - 1))))
 else
  some (.done a31)
def symM_K8 (x2 : Int) (o0 : List RRec) (a29 : Int) : Option (List RRec) :=
 (whileM (E:=(List RRec)) (fun s=>symM_L10 a29 s.1 s.2) (o0,x2)).bind fun e=>symM_K9 e
def symM_L11 (x2 : Int) (o0 : List RRec) (a44 : Int) (a45 : Int) : Option (Ctl (Int × Int) Int) :=
 if (decide (a44 < a45)) = true then
  (idx o0 x2).bind fun v50=>
  (idx o0 (IntKind.wrap .i64 (Int.fdiv (IntKind.wrap .u64 (IntKind.wrap .i64 (a44 + a45))) (2 ^ min (Int.toNat 1) (IntKind.bits .u64))))).bind fun v52=>
  (collect_bySeq v50 v52).bind fun v54=>
  if (!(decide (v54 < 0))) = true then
   some (.next ((IntKind.wrap .i64 ((IntKind.wrap .i64 (Int.fdiv (IntKind.wrap .u64 (IntKind.wrap .i64 (a44 + a45))) (2 ^ min (Int.toNat 1) (IntKind.bits .u64)))) + 1)),a45))
  else
   some (.next (a44,(IntKind.wrap .i64 (Int.fdiv (IntKind.wrap .u64 (IntKind.wrap .i64 (a44 + a45))) (2 ^ min (Int.toNat 1) (IntKind.bits .u64))))))
 else
  some (.done a44)
def symM_K1 (x1 : Int) (x2 : Int) (x3 : Int) (o0 : List RRec) (self : Int→Int→Int→(List RRec)→Option (List RRec)) : Option (List RRec) :=
 if ((IntKind.wrap .i64 (x3 - x2)) == 1) = true then
  (whileM (E:=Int) (fun s=>symM_L11 x2 o0 s.1 s.2) (x1,x2)).bind fun e=>symM_K8 x2 o0 e
 else
  symM_K2 x1 x2 x3 o0 self
def symM_K13 (a58 : List RRec) : Option (List RRec) :=
 some a58
def symM_L14 (a57 : Int) (a59 : List RRec) (a60 : Int) : Option (Ctl ((List RRec) × Int) (List RRec)) :=
 if (decide (a60 < (IntKind.wrap .i64 (a57 - 1)))) = true then
  (idx a59 (IntKind.wrap .i64 (a60 + 1))).bind fun v65=>
  (idx a59 a60).bind fun v67=>
  (idx a59 a60).bind fun v69=>
  (idx (List.set a59 (Int.toNat a60) v65) (IntKind.wrap .i64 (a60 + 1))).bind fun v71=>
  some (.next ((List.set (List.set a59 (Int.toNat a60) v65) (Int.toNat (IntKind.wrap .i64 (a60 + 1))) v67),(IntKind.wrap .i64 (a60 + 1))))
 else
  some (.done a59)
def symM_K12 (x1 : Int) (o0 : List RRec) (a57 : Int) : Option (List RRec) :=
 (whileM (E:=(List RRec)) (fun s=>symM_L14 a57 s.1 s.2) (o0,x1)).bind fun e=>symM_K13 e
def symM_L15 (x1 : Int) (o0 : List RRec) (a72 : Int) (a73 : Int) : Option (Ctl (Int × Int) Int) :=
 if (decide (a72 < a73)) = true then
  (idx o0 (IntKind.wrap .i64 (Int.fdiv (IntKind.wrap .u64 (IntKind.wrap .i64 (a72 + a73))) (2 ^ min (Int.toNat 1) (IntKind.bits .u64))))).bind fun v78=>
  (idx o0 x1).bind fun v80=>
  (collect_bySeq v78 v80).bind fun v82=>
  if (decide (v82 < 0)) = true then
   some (.next ((IntKind.wrap .i64 ((IntKind.wrap .i64 (Int.fdiv (IntKind.wrap .u64 (IntKind.wrap .i64 (a72 + a73))) (2 ^ min (Int.toNat 1) (IntKind.bits .u64)))) + 1)),a73))
  else
   some (.next (a72,(IntKind.wrap .i64 (Int.fdiv (IntKind.wrap .u64 (IntKind.wrap .i64 (a72 + a73))) (2 ^ min (Int.toNat 1) (IntKind.bits .u64))))))
 else
  some (.done a72)
def symM_B (self : Int→Int→Int→(List RRec)→Option (List RRec)) (x1 : Int) (x2 : Int) (x3 : Int) (o0 : List RRec) : Option (List RRec) :=
 if ((IntKind.wrap .i64 (x2 - x1)) == 1) = true then
  (whileM (E:=Int) (fun s=>symM_L15 x1 o0 s.1 s.2) (x2,x3)).bind fun e=>symM_K12 x1 o0 e
 else
  symM_K1 x1 x2 x3 o0 self
def symM : Nat→Int→Int→Int→(List RRec)→Option (List RRec)
 | 0,_,_,_,_=>none
 | fu + 1,x1,x2,x3,o0=>symM_B (symM fu) x1 x2 x3 o0
theorem symM_c : ∀ (fu : Nat) {x1 : Int} {x2 : Int} {x3 : Int} {o0 : List RRec} {r : (List RRec)} (hM : symM fu x1 x2 x3 o0 = some r),ACall Tryz.prog 150 ⟨[.row 100000,.int .i64 x1,.int .i64 x2,.int .i64 x3,.val (.func (.func 112) #[] #[])],[(100000,some (.row 64 29 (List.map RRec.dv o0)))],.tup [],[(100000,some (.row 64 29 (List.map RRec.dv r)))],[]⟩ := by
 intro fu
 induction fu with
 | zero=>intro x1 x2 x3 o0 r hM; cases hM
 | succ fu ih=>
  intro x1 x2 x3 o0 r hM
  replace hM : symM_B (symM fu) x1 x2 x3 o0 = some r:=hM
  unfold symM_B at hM
  refine ACall.body Tryz.func150 Tryz.ntmps150 rfl rfl rfl rfl ?_
  refine a_end ?_
  refine a_cut (α:=Unit) (fun s=>⟨[(0,.row 100000),(1,.int .i64 x1),(2,.int .i64 x2),(3,.int .i64 x3),(4,.val (.func (.func 112) #[] #[]))],[(100000,some (.row 64 29 (List.map RRec.dv o0)))],[100000]⟩) (fun s=>symM_K1 x1 x2 x3 o0 (symM fu) = some r) ?_ ?_
  ·refine a_seq (ar (.cons (o_move rfl)<|.cons (o_move rfl)<|.cons (o_int rfl rfl rfl)<|.cons (o_int rfl rfl rfl)<|.nil _) ?_)
   refine a_cond _ rfl (fun h56=>?_) (fun h56=>?_)
   ·replace hM:=(of_if hM).1 h56
    refine a_seq (ar (.cons (o_move rfl)<|.cons (o_assign rfl)<|.nil _) ?_)
    refine a_seq (ar (.cons (o_move rfl)<|.cons (o_assign rfl)<|.nil _) ?_)
    refine a_cut (α:=Int) (fun s=>⟨[(0,.row 100000),(1,.int .i64 x1),(10,.int .i64 s)],[(100000,some (.row 64 29 (List.map RRec.dv o0)))],[100000]⟩) (fun s=>symM_K12 x1 o0 s = some r) ?_ ?_
    ·obtain ⟨e74,hL74,hK74⟩ := of_bind hM
     refine a_block (a_while (fun s : Int × Int=>⟨[(0,.row 100000),(1,.int .i64 x1),(4,.val (.func (.func 112) #[] #[])),(10,.int .i64 s.1),(11,.int .i64 s.2)],[(100000,some (.row 64 29 (List.map RRec.dv o0)))],[100000]⟩) _ hL74 (Imp.sh (fun i=>i) rfl rfl rfl rfl rfl rfl) ?_)
     rintro ⟨a72,a73⟩ t75 hM hE74
     replace hM : symM_L15 x1 o0 a72 a73 = some t75:=hM
     unfold symM_L15 at hM
     refine a_seq (a_seq (ar (.cons (o_move rfl)<|.cons (o_move rfl)<|.cons (o_int rfl rfl rfl)<|.nil _) ?_))
     refine a_cond _ rfl (fun h76=>?_) (fun h76=>?_)
     ·replace hM:=(of_if hM).1 h76
      refine a_skip (a_block (a_seq (ar (.cons (o_move rfl)<|.cons (o_move rfl)<|.cons (o_int rfl rfl rfl)<|.cons (o_conv_w rfl)<|.cons (o_shr rfl rfl (by decide))<|.cons (o_conv_w rfl)<|.cons (o_assign rfl)<|.nil _) ?_)))
      refine a_seq ?_
      obtain ⟨v78,h77,hM⟩ := of_bind hM
      obtain ⟨v80,h79,hM⟩ := of_bind hM
      obtain ⟨v82,h81,hM⟩ := of_bind hM
      refine ad mixed (.cons (o_move rfl)<|.cons (o_move rfl)<|.cons (o_move rfl)<|.cons (t_index_r h77 rfl rfl rfl)<|.cons (t_load_pr h77 rfl rfl rfl rfl rfl)<|.cons (o_move rfl)<|.cons (o_move rfl)<|.cons (t_index_r h79 rfl rfl rfl)<|.cons (t_load_pr h79 rfl rfl rfl rfl rfl)<|.cons (o_callF (collect_bySeq_c h81) rfl rfl (DLeL.refl _) rfl)<|.cons (o_int rfl rfl rfl)<|.nil _) ?_
      refine a_cond _ rfl (fun h83=>?_) (fun h83=>?_)
      ·replace hM:=(of_if hM).1 h83
       refine ar (.cons (o_move rfl)<|.cons (o_int rfl rfl rfl)<|.cons (o_assign rfl)<|.nil _) ?_
       obtain rfl:=Option.some.inj hM
       exact ⟨((IntKind.wrap .i64 ((IntKind.wrap .i64 (Int.fdiv (IntKind.wrap .u64 (IntKind.wrap .i64 (a72 + a73))) (2 ^ min (Int.toNat 1) (IntKind.bits .u64)))) + 1)),a73),rfl,(Imp.sh (fun i=>i) rfl rfl rfl rfl rfl rfl)⟩
      ·replace hM:=(of_if hM).2 h83
       refine ar (.cons (o_move rfl)<|.cons (o_assign rfl)<|.nil _) ?_
       obtain rfl:=Option.some.inj hM
       exact ⟨(a72,(IntKind.wrap .i64 (Int.fdiv (IntKind.wrap .u64 (IntKind.wrap .i64 (a72 + a73))) (2 ^ min (Int.toNat 1) (IntKind.bits .u64))))),rfl,(Imp.sh (fun i=>i) rfl rfl rfl rfl rfl rfl)⟩
     ·replace hM:=(of_if hM).2 h76
      refine a_exit ?_
      obtain rfl:=Option.some.inj hM
      obtain rfl:=hE74 _ rfl
      exact ⟨a72,hK74,(Imp.sh (fun i=>i) rfl rfl rfl rfl rfl rfl)⟩
    ·rintro a57 hM
     replace hM : symM_K12 x1 o0 a57 = some r:=hM
     unfold symM_K12 at hM
     refine a_cut (α:=(List RRec)) (fun s=>⟨[],[(100000,some (.row 64 29 (List.map RRec.dv s)))],[100000]⟩) (fun s=>symM_K13 s = some r) ?_ ?_
     ·refine a_seq (ar (.cons (o_move rfl)<|.cons (o_assign rfl)<|.nil _) ?_)
      obtain ⟨e61,hL61,hK61⟩ := of_bind hM
      refine a_block (a_while (fun s : (List RRec) × Int=>⟨[(0,.row 100000),(10,.int .i64 a57),(13,.int .i64 s.2)],[(100000,some (.row 64 29 (List.map RRec.dv s.1)))],[100000]⟩) _ hL61 (Imp.sh (fun i=>i) rfl rfl rfl rfl rfl rfl) ?_)
      rintro ⟨a59,a60⟩ t62 hM hE61
      replace hM : symM_L14 a57 a59 a60 = some t62:=hM
      unfold symM_L14 at hM
      refine a_seq (a_seq (ar (.cons (o_move rfl)<|.cons (o_move rfl)<|.cons (o_int rfl rfl rfl)<|.cons (o_int rfl rfl rfl)<|.nil _) ?_))
      refine a_cond _ rfl (fun h63=>?_) (fun h63=>?_)
      ·replace hM:=(of_if hM).1 h63
       refine a_skip (a_seq (a_block ?_))
       obtain ⟨v65,h64,hM⟩ := of_bind hM
       obtain ⟨v67,h66,hM⟩ := of_bind hM
       obtain ⟨v69,h68,hM⟩ := of_bind hM
       obtain ⟨v71,h70,hM⟩ := of_bind hM
       refine ad mixed (.cons (o_move rfl)<|.cons (o_move rfl)<|.cons (o_move rfl)<|.cons (o_move rfl)<|.cons (o_int rfl rfl rfl)<|.cons (o_move rfl)<|.cons (o_move rfl)<|.cons (o_int rfl rfl rfl)<|.cons (t_index_r h64 rfl rfl rfl)<|.cons (t_load_pr h64 rfl rfl rfl rfl rfl)<|.cons (o_move rfl)<|.cons (o_move rfl)<|.cons (t_index_r h66 rfl rfl rfl)<|.cons (t_load_pr h66 rfl rfl rfl rfl rfl)<|.cons (t_index_r h68 rfl rfl rfl)<|.cons (t_store_p v65 h68 rfl rfl rfl rfl rfl rfl rfl rfl rfl rfl rfl)<|.cons (t_index_r h70 rfl rfl rfl)<|.cons (t_store_p v67 h70 rfl rfl rfl rfl rfl rfl rfl rfl rfl rfl rfl)<|.nil _) ?_
       refine ar (.cons (o_move rfl)<|.cons (o_int rfl rfl rfl)<|.cons (o_assign rfl)<|.nil _) ?_
       obtain rfl:=Option.some.inj hM
       exact ⟨((List.set (List.set a59 (Int.toNat a60) v65) (Int.toNat (IntKind.wrap .i64 (a60 + 1))) v67),(IntKind.wrap .i64 (a60 + 1))),rfl,(Imp.sh (fun i=>i) rfl rfl rfl rfl rfl rfl)⟩
      ·replace hM:=(of_if hM).2 h63
       refine a_exit ?_
       obtain rfl:=Option.some.inj hM
       obtain rfl:=hE61 _ rfl
       exact ⟨a59,hK61,(Imp.sh (fun i=>i) rfl rfl rfl rfl rfl rfl)⟩
     ·rintro a58 hM
      replace hM : symM_K13 a58 = some r:=hM
      unfold symM_K13 at hM
      obtain rfl:=Option.some.inj hM
      refine a_imp (σ' := ⟨[],[(100000,some (.row 64 29 (List.map RRec.dv a58)))],[100000]⟩) (Imp.sh (fun i=>i) rfl rfl rfl rfl rfl rfl) ?_
      exact a_ret (a_post (.r0 ) (DLe.refl _) (PostOk.spec (.cons rfl .nil)))
   ·replace hM:=(of_if hM).2 h56
    refine a_skip ?_
    exact ⟨(),hM,(Imp.sh (fun i=>i) rfl rfl rfl rfl rfl rfl)⟩
  ·rintro _ hM
   replace hM : symM_K1 x1 x2 x3 o0 (symM fu) = some r:=hM
   unfold symM_K1 at hM
   refine a_cut (α:=Unit) (fun s=>⟨[(0,.row 100000),(1,.int .i64 x1),(2,.int .i64 x2),(3,.int .i64 x3),(4,.val (.func (.func 112) #[] #[]))],[(100000,some (.row 64 29 (List.map RRec.dv o0)))],[100000]⟩) (fun s=>symM_K2 x1 x2 x3 o0 (symM fu) = some r) ?_ ?_
   ·refine a_seq (ar (.cons (o_move rfl)<|.cons (o_move rfl)<|.cons (o_int rfl rfl rfl)<|.cons (o_int rfl rfl rfl)<|.nil _) ?_)
    refine a_cond _ rfl (fun h28=>?_) (fun h28=>?_)
    ·replace hM:=(of_if hM).1 h28
     refine a_seq (ar (.cons (o_move rfl)<|.cons (o_assign rfl)<|.nil _) ?_)
     refine a_seq (ar (.cons (o_move rfl)<|.cons (o_assign rfl)<|.nil _) ?_)
     refine a_cut (α:=Int) (fun s=>⟨[(0,.row 100000),(2,.int .i64 x2),(14,.int .i64 s)],[(100000,some (.row 64 29 (List.map RRec.dv o0)))],[100000]⟩) (fun s=>symM_K8 x2 o0 s = some r) ?_ ?_
     ·obtain ⟨e46,hL46,hK46⟩ := of_bind hM
      refine a_block (a_while (fun s : Int × Int=>⟨[(0,.row 100000),(2,.int .i64 x2),(4,.val (.func (.func 112) #[] #[])),(14,.int .i64 s.1),(15,.int .i64 s.2)],[(100000,some (.row 64 29 (List.map RRec.dv o0)))],[100000]⟩) _ hL46 (Imp.sh (fun i=>i) rfl rfl rfl rfl rfl rfl) ?_)
      rintro ⟨a44,a45⟩ t47 hM hE46
      replace hM : symM_L11 x2 o0 a44 a45 = some t47:=hM
      unfold symM_L11 at hM
      refine a_seq (a_seq (ar (.cons (o_move rfl)<|.cons (o_move rfl)<|.cons (o_int rfl rfl rfl)<|.nil _) ?_))
      refine a_cond _ rfl (fun h48=>?_) (fun h48=>?_)
      ·replace hM:=(of_if hM).1 h48
       refine a_skip (a_block (a_seq (ar (.cons (o_move rfl)<|.cons (o_move rfl)<|.cons (o_int rfl rfl rfl)<|.cons (o_conv_w rfl)<|.cons (o_shr rfl rfl (by decide))<|.cons (o_conv_w rfl)<|.cons (o_assign rfl)<|.nil _) ?_)))
       refine a_seq ?_
       obtain ⟨v50,h49,hM⟩ := of_bind hM
       obtain ⟨v52,h51,hM⟩ := of_bind hM
       obtain ⟨v54,h53,hM⟩ := of_bind hM
       refine ad mixed (.cons (o_move rfl)<|.cons (o_move rfl)<|.cons (o_move rfl)<|.cons (t_index_r h49 rfl rfl rfl)<|.cons (t_load_pr h49 rfl rfl rfl rfl rfl)<|.cons (o_move rfl)<|.cons (o_move rfl)<|.cons (t_index_r h51 rfl rfl rfl)<|.cons (t_load_pr h51 rfl rfl rfl rfl rfl)<|.cons (o_callF (collect_bySeq_c h53) rfl rfl (DLeL.refl _) rfl)<|.cons (o_int rfl rfl rfl)<|.cons (o_not rfl)<|.nil _) ?_
       refine a_cond _ rfl (fun h55=>?_) (fun h55=>?_)
       ·replace hM:=(of_if hM).1 h55
        refine ar (.cons (o_move rfl)<|.cons (o_int rfl rfl rfl)<|.cons (o_assign rfl)<|.nil _) ?_
        obtain rfl:=Option.some.inj hM
        exact ⟨((IntKind.wrap .i64 ((IntKind.wrap .i64 (Int.fdiv (IntKind.wrap .u64 (IntKind.wrap .i64 (a44 + a45))) (2 ^ min (Int.toNat 1) (IntKind.bits .u64)))) + 1)),a45),rfl,(Imp.sh (fun i=>i) rfl rfl rfl rfl rfl rfl)⟩
       ·replace hM:=(of_if hM).2 h55
        refine ar (.cons (o_move rfl)<|.cons (o_assign rfl)<|.nil _) ?_
        obtain rfl:=Option.some.inj hM
        exact ⟨(a44,(IntKind.wrap .i64 (Int.fdiv (IntKind.wrap .u64 (IntKind.wrap .i64 (a44 + a45))) (2 ^ min (Int.toNat 1) (IntKind.bits .u64))))),rfl,(Imp.sh (fun i=>i) rfl rfl rfl rfl rfl rfl)⟩
      ·replace hM:=(of_if hM).2 h48
       refine a_exit ?_
       obtain rfl:=Option.some.inj hM
       obtain rfl:=hE46 _ rfl
       exact ⟨a44,hK46,(Imp.sh (fun i=>i) rfl rfl rfl rfl rfl rfl)⟩
     ·rintro a29 hM
      replace hM : symM_K8 x2 o0 a29 = some r:=hM
      unfold symM_K8 at hM
      refine a_cut (α:=(List RRec)) (fun s=>⟨[],[(100000,some (.row 64 29 (List.map RRec.dv s)))],[100000]⟩) (fun s=>symM_K9 s = some r) ?_ ?_
      ·refine a_seq (ar (.cons (o_move rfl)<|.cons (o_assign rfl)<|.nil _) ?_)
       obtain ⟨e33,hL33,hK33⟩ := of_bind hM
       refine a_block (a_while (fun s : (List RRec) × Int=>⟨[(0,.row 100000),(14,.int .i64 a29),(17,.int .i64 s.2)],[(100000,some (.row 64 29 (List.map RRec.dv s.1)))],[100000]⟩) _ hL33 (Imp.sh (fun i=>i) rfl rfl rfl rfl rfl rfl) ?_)
       rintro ⟨a31,a32⟩ t34 hM hE33
       replace hM : symM_L10 a29 a31 a32 = some t34:=hM
       unfold symM_L10 at hM
       refine a_seq (a_seq (ar (.cons (o_move rfl)<|.cons (o_move rfl)<|.cons (o_int rfl rfl rfl)<|.nil _) ?_))
       refine a_cond _ rfl (fun h35=>?_) (fun h35=>?_)
       ·replace hM:=(of_if hM).1 h35
        refine a_skip (a_seq (a_block ?_))
        obtain ⟨v37,h36,hM⟩ := of_bind hM
        obtain ⟨v39,h38,hM⟩ := of_bind hM
        obtain ⟨v41,h40,hM⟩ := of_bind hM
        obtain ⟨v43,h42,hM⟩ := of_bind hM
        refine ad mixed (.cons (o_move rfl)<|.cons (o_move rfl)<|.cons (o_move rfl)<|.cons (o_move rfl)<|.cons (o_int rfl rfl rfl)<|.cons (o_move rfl)<|.cons (o_move rfl)<|.cons (o_int rfl rfl rfl)<|.cons (t_index_r h36 rfl rfl rfl)<|.cons (t_load_pr h36 rfl rfl rfl rfl rfl)<|.cons (o_move rfl)<|.cons (o_move rfl)<|.cons (t_index_r h38 rfl rfl rfl)<|.cons (t_load_pr h38 rfl rfl rfl rfl rfl)<|.cons (t_index_r h40 rfl rfl rfl)<|.cons (t_store_p v37 h40 rfl rfl rfl rfl rfl rfl rfl rfl rfl rfl rfl)<|.cons (t_index_r h42 rfl rfl rfl)<|.cons (t_store_p v39 h42 rfl rfl rfl rfl rfl rfl rfl rfl rfl rfl rfl)<|.nil _) ?_
        refine ar (.cons (o_move rfl)<|.cons (o_int rfl rfl rfl)<|.cons (o_assign rfl)<|.nil _) ?_
        obtain rfl:=Option.some.inj hM
        exact ⟨((List.set (List.set a31 (Int.toNat a32) v37) (Int.toNat (IntKind.wrap .i64 (a32 - 1))) v39),(IntKind.wrap .i64 (a32 - 1))),rfl,(Imp.sh (fun i=>i) rfl rfl rfl rfl rfl rfl)⟩
       ·replace hM:=(of_if hM).2 h35
        refine a_exit ?_
        obtain rfl:=Option.some.inj hM
        obtain rfl:=hE33 _ rfl
        exact ⟨a31,hK33,(Imp.sh (fun i=>i) rfl rfl rfl rfl rfl rfl)⟩
      ·rintro a30 hM
       replace hM : symM_K9 a30 = some r:=hM
       unfold symM_K9 at hM
       obtain rfl:=Option.some.inj hM
       refine a_imp (σ' := ⟨[],[(100000,some (.row 64 29 (List.map RRec.dv a30)))],[100000]⟩) (Imp.sh (fun i=>i) rfl rfl rfl rfl rfl rfl) ?_
       exact a_ret (a_post (.r0 ) (DLe.refl _) (PostOk.spec (.cons rfl .nil)))
    ·replace hM:=(of_if hM).2 h28
     refine a_skip ?_
     exact ⟨(),hM,(Imp.sh (fun i=>i) rfl rfl rfl rfl rfl rfl)⟩
   ·rintro _ hM
    replace hM : symM_K2 x1 x2 x3 o0 (symM fu) = some r:=hM
    unfold symM_K2 at hM
    refine a_seq (ar (.cons (o_move rfl)<|.cons (o_move rfl)<|.cons (o_int rfl rfl rfl)<|.cons (o_conv_w rfl)<|.cons (o_shr rfl rfl (by decide))<|.cons (o_conv_w rfl)<|.cons (o_assign rfl)<|.nil _) ?_)
    refine a_seq (ar (.cons (o_move rfl)<|.cons (o_move rfl)<|.cons (o_int rfl rfl rfl)<|.cons (o_assign rfl)<|.nil _) ?_)
    refine a_seq (ar (.cons (o_assign rfl)<|.cons (o_assign rfl)<|.nil _) ?_)
    refine a_cut (α:=Int × Int) (fun s=>⟨[(0,.row 100000),(1,.int .i64 x1),(2,.int .i64 x2),(3,.int .i64 x3),(4,.val (.func (.func 112) #[] #[])),(18,.int .i64 (IntKind.wrap .i64 (Int.fdiv (IntKind.wrap .u64 (IntKind.wrap .i64 (x1 + x3))) (2 ^ min (Int.toNat 1) (IntKind.bits .u64))))),(19,.int .i64 (IntKind.wrap .i64 ((IntKind.wrap .i64 (Int.fdiv (IntKind.wrap .u64 (IntKind.wrap .i64 (x1 + x3))) (2 ^ min (Int.toNat 1) (IntKind.bits .u64)))) + x2))),(20,.int .i64 s.1),(21,.int .i64 s.2)],[(100000,some (.row 64 29 (List.map RRec.dv o0)))],[100000]⟩) (fun s=>symM_K3 x1 x2 x3 o0 (symM fu) s.1 s.2 = some r) ?_ ?_
    ·refine a_seq (ar (.cons (o_move rfl)<|.cons (o_move rfl)<|.cons (o_int rfl rfl rfl)<|.nil _) ?_)
     refine a_cond _ rfl (fun h27=>?_) (fun h27=>?_)
     ·replace hM:=(of_if hM).1 h27
      refine a_seq (ar (.cons (o_move rfl)<|.cons (o_move rfl)<|.cons (o_int rfl rfl rfl)<|.cons (o_assign rfl)<|.nil _) ?_)
      refine ar (.cons (o_move rfl)<|.cons (o_assign rfl)<|.nil _) ?_
      exact ⟨((IntKind.wrap .i64 ((IntKind.wrap .i64 ((IntKind.wrap .i64 (Int.fdiv (IntKind.wrap .u64 (IntKind.wrap .i64 (x1 + x3))) (2 ^ min (Int.toNat 1) (IntKind.bits .u64)))) + x2)) - x3)),(IntKind.wrap .i64 (Int.fdiv (IntKind.wrap .u64 (IntKind.wrap .i64 (x1 + x3))) (2 ^ min (Int.toNat 1) (IntKind.bits .u64))))),hM,(Imp.sh (fun i=>i) rfl rfl rfl rfl rfl rfl)⟩
     ·replace hM:=(of_if hM).2 h27
      refine a_seq (ar (.cons (o_move rfl)<|.cons (o_assign rfl)<|.nil _) ?_)
      refine ar (.cons (o_move rfl)<|.cons (o_assign rfl)<|.nil _) ?_
      exact ⟨(x1,x2),hM,(Imp.sh (fun i=>i) rfl rfl rfl rfl rfl rfl)⟩
    ·rintro ⟨a1,a2⟩ hM
     replace hM : symM_K3 x1 x2 x3 o0 (symM fu) a1 a2 = some r:=hM
     unfold symM_K3 at hM
     refine a_seq (ar (.cons (o_move rfl)<|.cons (o_int rfl rfl rfl)<|.cons (o_assign rfl)<|.nil _) ?_)
     refine a_cut (α:=Int) (fun s=>⟨[(0,.row 100000),(1,.int .i64 x1),(2,.int .i64 x2),(3,.int .i64 x3),(4,.val (.func (.func 112) #[] #[])),(18,.int .i64 (IntKind.wrap .i64 (Int.fdiv (IntKind.wrap .u64 (IntKind.wrap .i64 (x1 + x3))) (2 ^ min (Int.toNat 1) (IntKind.bits .u64))))),(19,.int .i64 (IntKind.wrap .i64 ((IntKind.wrap .i64 (Int.fdiv (IntKind.wrap .u64 (IntKind.wrap .i64 (x1 + x3))) (2 ^ min (Int.toNat 1) (IntKind.bits .u64)))) + x2))),(20,.int .i64 s)],[(100000,some (.row 64 29 (List.map RRec.dv o0)))],[100000]⟩) (fun s=>symM_K4 x1 x2 x3 o0 (symM fu) s = some r) ?_ ?_
     ·obtain ⟨e17,hL17,hK17⟩ := of_bind hM
      refine a_block (a_while (fun s : Int × Int=>⟨[(0,.row 100000),(1,.int .i64 x1),(2,.int .i64 x2),(3,.int .i64 x3),(4,.val (.func (.func 112) #[] #[])),(18,.int .i64 (IntKind.wrap .i64 (Int.fdiv (IntKind.wrap .u64 (IntKind.wrap .i64 (x1 + x3))) (2 ^ min (Int.toNat 1) (IntKind.bits .u64))))),(19,.int .i64 (IntKind.wrap .i64 ((IntKind.wrap .i64 (Int.fdiv (IntKind.wrap .u64 (IntKind.wrap .i64 (x1 + x3))) (2 ^ min (Int.toNat 1) (IntKind.bits .u64)))) + x2))),(20,.int .i64 s.1),(21,.int .i64 s.2),(22,.int .i64 (IntKind.wrap .i64 ((IntKind.wrap .i64 ((IntKind.wrap .i64 (Int.fdiv (IntKind.wrap .u64 (IntKind.wrap .i64 (x1 + x3))) (2 ^ min (Int.toNat 1) (IntKind.bits .u64)))) + x2)) - 1)))],[(100000,some (.row 64 29 (List.map RRec.dv o0)))],[100000]⟩) _ hL17 (Imp.sh (fun i=>i) rfl rfl rfl rfl rfl rfl) ?_)
      rintro ⟨a15,a16⟩ t18 hM hE17
      replace hM : symM_L7 x1 x2 x3 o0 a15 a16 = some t18:=hM
      unfold symM_L7 at hM
      refine a_seq (a_seq (ar (.cons (o_move rfl)<|.cons (o_move rfl)<|.cons (o_int rfl rfl rfl)<|.nil _) ?_))
      refine a_cond _ rfl (fun h19=>?_) (fun h19=>?_)
      ·replace hM:=(of_if hM).1 h19
       refine a_skip (a_block (a_seq (ar (.cons (o_move rfl)<|.cons (o_move rfl)<|.cons (o_int rfl rfl rfl)<|.cons (o_conv_w rfl)<|.cons (o_shr rfl rfl (by decide))<|.cons (o_conv_w rfl)<|.cons (o_assign rfl)<|.nil _) ?_)))
       refine a_seq ?_
       obtain ⟨v21,h20,hM⟩ := of_bind hM
       obtain ⟨v23,h22,hM⟩ := of_bind hM
       obtain ⟨v25,h24,hM⟩ := of_bind hM
       refine ad mixed (.cons (o_move rfl)<|.cons (o_move rfl)<|.cons (o_move rfl)<|.cons (o_move rfl)<|.cons (o_int rfl rfl rfl)<|.cons (t_index_r h20 rfl rfl rfl)<|.cons (t_load_pr h20 rfl rfl rfl rfl rfl)<|.cons (o_move rfl)<|.cons (o_move rfl)<|.cons (t_index_r h22 rfl rfl rfl)<|.cons (t_load_pr h22 rfl rfl rfl rfl rfl)<|.cons (o_callF (collect_bySeq_c h24) rfl rfl (DLeL.refl _) rfl)<|.cons (o_int rfl rfl rfl)<|.cons (o_not rfl)<|.nil _) ?_
       refine a_cond _ rfl (fun h26=>?_) (fun h26=>?_)
       ·replace hM:=(of_if hM).1 h26
        refine ar (.cons (o_move rfl)<|.cons (o_int rfl rfl rfl)<|.cons (o_assign rfl)<|.nil _) ?_
        obtain rfl:=Option.some.inj hM
        exact ⟨((IntKind.wrap .i64 ((IntKind.wrap .i64 (Int.fdiv (IntKind.wrap .u64 (IntKind.wrap .i64 (a15 + a16))) (2 ^ min (Int.toNat 1) (IntKind.bits .u64)))) + 1)),a16),rfl,(Imp.sh (fun i=>i) rfl rfl rfl rfl rfl rfl)⟩
       ·replace hM:=(of_if hM).2 h26
        refine ar (.cons (o_move rfl)<|.cons (o_assign rfl)<|.nil _) ?_
        obtain rfl:=Option.some.inj hM
        exact ⟨(a15,(IntKind.wrap .i64 (Int.fdiv (IntKind.wrap .u64 (IntKind.wrap .i64 (a15 + a16))) (2 ^ min (Int.toNat 1) (IntKind.bits .u64))))),rfl,(Imp.sh (fun i=>i) rfl rfl rfl rfl rfl rfl)⟩
      ·replace hM:=(of_if hM).2 h19
       refine a_exit ?_
       obtain rfl:=Option.some.inj hM
       obtain rfl:=hE17 _ rfl
       exact ⟨a15,hK17,(Imp.sh (fun i=>i) rfl rfl rfl rfl rfl rfl)⟩
     ·rintro a3 hM
      replace hM : symM_K4 x1 x2 x3 o0 (symM fu) a3 = some r:=hM
      unfold symM_K4 at hM
      refine a_seq (ar (.cons (o_move rfl)<|.cons (o_move rfl)<|.cons (o_int rfl rfl rfl)<|.cons (o_assign rfl)<|.nil _) ?_)
      refine a_cut (α:=(List RRec)) (fun s=>⟨[(0,.row 100000),(1,.int .i64 x1),(3,.int .i64 x3),(4,.val (.func (.func 112) #[] #[])),(18,.int .i64 (IntKind.wrap .i64 (Int.fdiv (IntKind.wrap .u64 (IntKind.wrap .i64 (x1 + x3))) (2 ^ min (Int.toNat 1) (IntKind.bits .u64))))),(20,.int .i64 a3),(24,.int .i64 (IntKind.wrap .i64 ((IntKind.wrap .i64 ((IntKind.wrap .i64 (Int.fdiv (IntKind.wrap .u64 (IntKind.wrap .i64 (x1 + x3))) (2 ^ min (Int.toNat 1) (IntKind.bits .u64)))) + x2)) - a3)))],[(100000,some (.row 64 29 (List.map RRec.dv s)))],[100000]⟩) (fun s=>symM_K5 x1 x2 x3 (symM fu) a3 s = some r) ?_ ?_
      ·refine a_seq (ar (.cons (o_move rfl)<|.cons (o_move rfl)<|.cons (o_int rfl rfl rfl)<|.cons (o_move rfl)<|.cons (o_guardG .bT rfl rfl (fun hb=>(.keep .nil)) (fun hb=>o_move rfl))<|.cons (o_guardG .bT rfl rfl (fun hb=>(.keep .nil)) (fun hb=>o_move rfl))<|.cons (o_guardG .bT rfl rfl (fun hb=>(.strip rfl hb (.strip rfl hb .nil))) (fun hb=>o_int rfl rfl rfl))<|.cons (o_and rfl rfl)<|.nil _) ?_)
       refine a_cond _ rfl (fun h12=>?_) (fun h12=>?_)
       ·replace hM:=(of_if hM).1 h12
        obtain ⟨v14,h13,hM⟩ := of_bind hM
        refine ar (.cons (o_move rfl)<|.cons (o_move rfl)<|.cons (o_move rfl)<|.cons (o_move rfl)<|.cons (o_move rfl)<|.cons (o_callN (fun i=>bif Nat.beq i 100000 then 100000 else i) 1 (rotM_c h13) rfl (DLeL.refl _) (.cons rfl .nil) rfl .nil)<|.nil _) ?_
        exact ⟨v14,hM,(Imp.sh (fun i=>i) rfl rfl rfl rfl rfl rfl)⟩
       ·replace hM:=(of_if hM).2 h12
        refine a_skip ?_
        exact ⟨o0,hM,(Imp.sh (fun i=>i) rfl rfl rfl rfl rfl rfl)⟩
      ·rintro a4 hM
       replace hM : symM_K5 x1 x2 x3 (symM fu) a3 a4 = some r:=hM
       unfold symM_K5 at hM
       refine a_cut (α:=(List RRec)) (fun s=>⟨[(0,.row 100000),(3,.int .i64 x3),(4,.val (.func (.func 112) #[] #[])),(18,.int .i64 (IntKind.wrap .i64 (Int.fdiv (IntKind.wrap .u64 (IntKind.wrap .i64 (x1 + x3))) (2 ^ min (Int.toNat 1) (IntKind.bits .u64))))),(24,.int .i64 (IntKind.wrap .i64 ((IntKind.wrap .i64 ((IntKind.wrap .i64 (Int.fdiv (IntKind.wrap .u64 (IntKind.wrap .i64 (x1 + x3))) (2 ^ min (Int.toNat 1) (IntKind.bits .u64)))) + x2)) - a3)))],[(100000,some (.row 64 29 (List.map RRec.dv s)))],[100000]⟩) (fun s=>symM_K6 x1 x2 x3 (symM fu) a3 s = some r) ?_ ?_
       ·refine a_seq (ar (.cons (o_move rfl)<|.cons (o_move rfl)<|.cons (o_int rfl rfl rfl)<|.cons (o_move rfl)<|.cons (o_guardG .bT rfl rfl (fun hb=>(.keep .nil)) (fun hb=>o_move rfl))<|.cons (o_guardG .bT rfl rfl (fun hb=>(.keep .nil)) (fun hb=>o_move rfl))<|.cons (o_guardG .bT rfl rfl (fun hb=>(.strip rfl hb (.strip rfl hb .nil))) (fun hb=>o_int rfl rfl rfl))<|.cons (o_and rfl rfl)<|.nil _) ?_)
        refine a_cond _ rfl (fun h9=>?_) (fun h9=>?_)
        ·replace hM:=(of_if hM).1 h9
         obtain ⟨v11,h10,hM⟩ := of_bind hM
         refine ar (.cons (o_move rfl)<|.cons (o_move rfl)<|.cons (o_move rfl)<|.cons (o_move rfl)<|.cons (o_move rfl)<|.cons (o_callN (fun i=>bif Nat.beq i 100000 then 100000 else i) 1 (ih h10) rfl (DLeL.refl _) (.cons rfl .nil) rfl .nil)<|.nil _) ?_
         exact ⟨v11,hM,(Imp.sh (fun i=>i) rfl rfl rfl rfl rfl rfl)⟩
        ·replace hM:=(of_if hM).2 h9
         refine a_skip ?_
         exact ⟨a4,hM,(Imp.sh (fun i=>i) rfl rfl rfl rfl rfl rfl)⟩
       ·rintro a5 hM
        replace hM : symM_K6 x1 x2 x3 (symM fu) a3 a5 = some r:=hM
        unfold symM_K6 at hM
        refine a_seq (ar (.cons (o_move rfl)<|.cons (o_move rfl)<|.cons (o_int rfl rfl rfl)<|.cons (o_move rfl)<|.cons (o_guardG .bT rfl rfl (fun hb=>(.keep .nil)) (fun hb=>o_move rfl))<|.cons (o_guardG .bT rfl rfl (fun hb=>(.keep .nil)) (fun hb=>o_move rfl))<|.cons (o_guardG .bT rfl rfl (fun hb=>(.strip rfl hb (.strip rfl hb .nil))) (fun hb=>o_int rfl rfl rfl))<|.cons (o_and rfl rfl)<|.nil _) ?_)
        refine a_cond _ rfl (fun h6=>?_) (fun h6=>?_)
        ·replace hM:=(of_if hM).1 h6
         obtain ⟨v8,h7,hM⟩ := of_bind hM
         refine ar (.cons (o_move rfl)<|.cons (o_move rfl)<|.cons (o_move rfl)<|.cons (o_move rfl)<|.cons (o_move rfl)<|.cons (o_callN (fun i=>bif Nat.beq i 100000 then 100000 else i) 1 (ih h7) rfl (DLeL.refl _) (.cons rfl .nil) rfl .nil)<|.nil _) ?_
         obtain rfl:=Option.some.inj hM
         refine n_imp (σ' := ⟨[],[(100000,some (.row 64 29 (List.map RRec.dv v8)))],[100000]⟩) (Imp.sh (fun i=>i) rfl rfl rfl rfl rfl rfl) ?_
         exact n_done (a_postN (.r0 ) (DLe.refl _) (PostOk.spec (.cons rfl .nil)))
        ·replace hM:=(of_if hM).2 h6
         refine a_skip ?_
         obtain rfl:=Option.some.inj hM
         refine n_imp (σ' := ⟨[],[(100000,some (.row 64 29 (List.map RRec.dv a5)))],[100000]⟩) (Imp.sh (fun i=>i) rfl rfl rfl rfl rfl rfl) ?_
         exact n_done (a_postN (.r0 ) (DLe.refl _) (PostOk.spec (.cons rfl .nil)))
def stabM_K2 (a5 : List RRec) : Option (List RRec) :=
 some a5
def stabM_K4 (x1 : Int) (a7 : Int) (a11 : List RRec) (a12 : Int) : Option (Ctl ((List RRec) × Int) (List RRec)) :=
 if (decide ((IntKind.wrap .i64 (a12 + a7)) < x1)) = true then
  (symM 64 a12 (IntKind.wrap .i64 (a12 + a7)) x1 a11).bind fun v15=>
  some (.next (v15,(IntKind.wrap .i64 (a7 * 2))))
 else
  some (.next (a11,(IntKind.wrap .i64 (a7 * 2))))
def stabM_L5 (x1 : Int) (a7 : Int) (a16 : List RRec) (a17 : Int) (a18 : Int) : Option (Ctl ((List RRec) × Int × Int) ((List RRec) × Int)) :=
 if (decide (a18≤x1)) = true then
  (symM 64 a17 (IntKind.wrap .i64 (a17 + a7)) a18 a16).bind fun v23=>
  some (.next (v23,a18,(IntKind.wrap .i64 (a18 + (IntKind.wrap .i64 (2 * a7))))))
 else
  some (.done (a16,a17))
def stabM_L3 (x1 : Int) (a6 : List RRec) (a7 : Int) : Option (Ctl ((List RRec) × Int) (List RRec)) :=
 if (decide (a7 < x1)) = true then
  (whileM (E:=(List RRec) × Int) (fun s=>stabM_L5 x1 a7 s.1 s.2.1 s.2.2) (a6,0,(IntKind.wrap .i64 (2 * a7)))).bind fun e=>stabM_K4 x1 a7 e.1 e.2
 else
  some (.done a6)
def stabM_K1 (x1 : Int) (a1 : List RRec) (a2 : Int) : Option (List RRec) :=
 (insM a2 x1 a1).bind fun v4=>
 (whileM (E:=(List RRec)) (fun s=>stabM_L3 x1 s.1 s.2) (v4,20)).bind fun e=>stabM_K2 e
def stabM_L6 (x1 : Int) (a24 : List RRec) (a25 : Int) (a26 : Int) : Option (Ctl ((List RRec) × Int × Int) ((List RRec) × Int)) :=
 if (decide (a26≤x1)) = true then
  (insM a25 a26 a24).bind fun v31=>
  some (.next (v31,a26,(IntKind.wrap .i64 (a26 + 20))))
 else
  some (.done (a24,a25))
def stabM (x1 : Int) (o0 : List RRec) : Option (List RRec) :=
 (whileM (E:=(List RRec) × Int) (fun s=>stabM_L6 x1 s.1 s.2.1 s.2.2) (o0,0,20)).bind fun e=>stabM_K1 x1 e.1 e.2
theorem stabM_c {x1 : Int} {o0 : List RRec} {r : (List RRec)} (hM : stabM x1 o0 = some r) : ACall Tryz.prog 139 ⟨[.row 100000,.int .i64 x1,.val (.func (.func 112) #[] #[])],[(100000,some (.row 64 29 (List.map RRec.dv o0)))],.tup [],[(100000,some (.row 64 29 (List.map RRec.dv r)))],[]⟩ := by
 unfold stabM at hM
 refine ACall.body Tryz.func139 Tryz.ntmps139 rfl rfl rfl rfl ?_
 refine a_end ?_
 refine a_seq (ar (.cons (o_assign rfl)<|.nil _) ?_)
 refine a_seq (ar (.cons (o_move rfl)<|.cons (o_assign rfl)<|.cons (o_assign rfl)<|.nil _) ?_)
 refine a_cut (α:=(List RRec) × Int) (fun s=>⟨[(0,.row 100000),(1,.int .i64 x1),(2,.val (.func (.func 112) #[] #[])),(6,.int .i64 20),(7,.int .i64 s.2)],[(100000,some (.row 64 29 (List.map RRec.dv s.1)))],[100000]⟩) (fun s=>stabM_K1 x1 s.1 s.2 = some r) ?_ ?_
 ·obtain ⟨e27,hL27,hK27⟩ := of_bind hM
  refine a_block (a_while (fun s : (List RRec) × Int × Int=>⟨[(0,.row 100000),(1,.int .i64 x1),(2,.val (.func (.func 112) #[] #[])),(6,.int .i64 20),(7,.int .i64 s.2.1),(8,.int .i64 s.2.2)],[(100000,some (.row 64 29 (List.map RRec.dv s.1)))],[100000]⟩) _ hL27 (Imp.sh (fun i=>i) rfl rfl rfl rfl rfl rfl) ?_)
  rintro ⟨a24,a25,a26⟩ t28 hM hE27
  replace hM : stabM_L6 x1 a24 a25 a26 = some t28:=hM
  unfold stabM_L6 at hM
  refine a_seq (a_seq (ar (.cons (o_move rfl)<|.cons (o_move rfl)<|.cons (o_int rfl rfl rfl)<|.nil _) ?_))
  refine a_cond _ rfl (fun h29=>?_) (fun h29=>?_)
  ·replace hM:=(of_if hM).1 h29
   refine a_skip (a_block (a_seq ?_))
   obtain ⟨v31,h30,hM⟩ := of_bind hM
   refine ar (.cons (o_move rfl)<|.cons (o_move rfl)<|.cons (o_move rfl)<|.cons (o_move rfl)<|.cons (o_callN (fun i=>bif Nat.beq i 100000 then 100000 else i) 1 (insM_c h30) rfl (DLeL.refl _) (.cons rfl .nil) rfl .nil)<|.nil _) ?_
   refine a_seq (ar (.cons (o_move rfl)<|.cons (o_assign rfl)<|.nil _) ?_)
   refine ar (.cons (o_move rfl)<|.cons (o_move rfl)<|.cons (o_int rfl rfl rfl)<|.cons (o_assign rfl)<|.nil _) ?_
   obtain rfl:=Option.some.inj hM
   exact ⟨(v31,a26,(IntKind.wrap .i64 (a26 + 20))),rfl,(Imp.sh (fun i=>i) rfl rfl rfl rfl rfl rfl)⟩
  ·replace hM:=(of_if hM).2 h29
   refine a_exit ?_
   obtain rfl:=Option.some.inj hM
   obtain rfl:=hE27 _ rfl
   exact ⟨(a24,a25),hK27,(Imp.sh (fun i=>i) rfl rfl rfl rfl rfl rfl)⟩
 ·rintro ⟨a1,a2⟩ hM
  replace hM : stabM_K1 x1 a1 a2 = some r:=hM
  unfold stabM_K1 at hM
  refine a_seq ?_
  obtain ⟨v4,h3,hM⟩ := of_bind hM
  refine ar (.cons (o_move rfl)<|.cons (o_move rfl)<|.cons (o_move rfl)<|.cons (o_move rfl)<|.cons (o_callN (fun i=>bif Nat.beq i 100000 then 100000 else i) 1 (insM_c h3) rfl (DLeL.refl _) (.cons rfl .nil) rfl .nil)<|.nil _) ?_
  refine a_tail (α:=(List RRec)) (fun s=>⟨[],[(100000,some (.row 64 29 (List.map RRec.dv s)))],[100000]⟩) (fun s=>stabM_K2 s = some r) ?_ ?_
  ·obtain ⟨e8,hL8,hK8⟩ := of_bind hM
   refine a_block (a_while (fun s : (List RRec) × Int=>⟨[(0,.row 100000),(1,.int .i64 x1),(2,.val (.func (.func 112) #[] #[])),(6,.int .i64 s.2)],[(100000,some (.row 64 29 (List.map RRec.dv s.1)))],[100000]⟩) _ hL8 (Imp.sh (fun i=>i) rfl rfl rfl rfl rfl rfl) ?_)
   rintro ⟨a6,a7⟩ t9 hM hE8
   replace hM : stabM_L3 x1 a6 a7 = some t9:=hM
   unfold stabM_L3 at hM
   refine a_seq (a_seq (ar (.cons (o_move rfl)<|.cons (o_move rfl)<|.cons (o_int rfl rfl rfl)<|.nil _) ?_))
   refine a_cond _ rfl (fun h10=>?_) (fun h10=>?_)
   ·replace hM:=(of_if hM).1 h10
    refine a_skip (a_block (a_seq (ar (.cons (o_move rfl)<|.cons (o_int rfl rfl rfl)<|.cons (o_assign rfl)<|.cons (o_assign rfl)<|.nil _) ?_)))
    refine a_cut (α:=(List RRec) × Int) (fun s=>⟨[(0,.row 100000),(1,.int .i64 x1),(2,.val (.func (.func 112) #[] #[])),(6,.int .i64 a7),(7,.int .i64 s.2)],[(100000,some (.row 64 29 (List.map RRec.dv s.1)))],[100000]⟩) (fun s=>stabM_K4 x1 a7 s.1 s.2 = some t9) ?_ ?_
    ·obtain ⟨e19,hL19,hK19⟩ := of_bind hM
     refine a_block (a_while (fun s : (List RRec) × Int × Int=>⟨[(0,.row 100000),(1,.int .i64 x1),(2,.val (.func (.func 112) #[] #[])),(6,.int .i64 a7),(7,.int .i64 s.2.1),(8,.int .i64 s.2.2)],[(100000,some (.row 64 29 (List.map RRec.dv s.1)))],[100000]⟩) _ hL19 (Imp.sh (fun i=>i) rfl rfl rfl rfl rfl rfl) ?_)
     rintro ⟨a16,a17,a18⟩ t20 hM hE19
     replace hM : stabM_L5 x1 a7 a16 a17 a18 = some t20:=hM
     unfold stabM_L5 at hM
     refine a_seq (a_seq (ar (.cons (o_move rfl)<|.cons (o_move rfl)<|.cons (o_int rfl rfl rfl)<|.nil _) ?_))
     refine a_cond _ rfl (fun h21=>?_) (fun h21=>?_)
     ·replace hM:=(of_if hM).1 h21
      refine a_skip (a_block (a_seq ?_))
      obtain ⟨v23,h22,hM⟩ := of_bind hM
      refine ar (.cons (o_move rfl)<|.cons (o_move rfl)<|.cons (o_move rfl)<|.cons (o_move rfl)<|.cons (o_int rfl rfl rfl)<|.cons (o_move rfl)<|.cons (o_move rfl)<|.cons (o_callN (fun i=>bif Nat.beq i 100000 then 100000 else i) 1 (symM_c 64 h22) rfl (DLeL.refl _) (.cons rfl .nil) rfl .nil)<|.nil _) ?_
      refine a_seq (ar (.cons (o_move rfl)<|.cons (o_assign rfl)<|.nil _) ?_)
      refine ar (.cons (o_move rfl)<|.cons (o_move rfl)<|.cons (o_int rfl rfl rfl)<|.cons (o_int rfl rfl rfl)<|.cons (o_assign rfl)<|.nil _) ?_
      obtain rfl:=Option.some.inj hM
      exact ⟨(v23,a18,(IntKind.wrap .i64 (a18 + (IntKind.wrap .i64 (2 * a7))))),rfl,(Imp.sh (fun i=>i) rfl rfl rfl rfl rfl rfl)⟩
     ·replace hM:=(of_if hM).2 h21
      refine a_exit ?_
      obtain rfl:=Option.some.inj hM
      obtain rfl:=hE19 _ rfl
      exact ⟨(a16,a17),hK19,(Imp.sh (fun i=>i) rfl rfl rfl rfl rfl rfl)⟩
    ·rintro ⟨a11,a12⟩ hM
     replace hM : stabM_K4 x1 a7 a11 a12 = some t9:=hM
     unfold stabM_K4 at hM
     refine a_seq (a_seq (ar (.cons (o_move rfl)<|.cons (o_move rfl)<|.cons (o_int rfl rfl rfl)<|.cons (o_assign rfl)<|.nil _) ?_))
     refine a_seq (ar (.cons (o_move rfl)<|.cons (o_move rfl)<|.cons (o_int rfl rfl rfl)<|.nil _) ?_)
     refine a_cond _ rfl (fun h13=>?_) (fun h13=>?_)
     ·replace hM:=(of_if hM).1 h13
      obtain ⟨v15,h14,hM⟩ := of_bind hM
      refine ar (.cons (o_move rfl)<|.cons (o_move rfl)<|.cons (o_move rfl)<|.cons (o_move rfl)<|.cons (o_move rfl)<|.cons (o_callN (fun i=>bif Nat.beq i 100000 then 100000 else i) 1 (symM_c 64 h14) rfl (DLeL.refl _) (.cons rfl .nil) rfl .nil)<|.nil _) ?_
      refine ar (.cons (o_move rfl)<|.cons (o_int rfl rfl rfl)<|.cons (o_assign rfl)<|.nil _) ?_
      obtain rfl:=Option.some.inj hM
      exact ⟨(v15,(IntKind.wrap .i64 (a7 * 2))),rfl,(Imp.sh (fun i=>i) rfl rfl rfl rfl rfl rfl)⟩
     ·replace hM:=(of_if hM).2 h13
      refine a_skip (ar (.cons (o_move rfl)<|.cons (o_int rfl rfl rfl)<|.cons (o_assign rfl)<|.nil _) ?_)
      obtain rfl:=Option.some.inj hM
      exact ⟨(a11,(IntKind.wrap .i64 (a7 * 2))),rfl,(Imp.sh (fun i=>i) rfl rfl rfl rfl rfl rfl)⟩
   ·replace hM:=(of_if hM).2 h10
    refine a_exit ?_
    obtain rfl:=Option.some.inj hM
    obtain rfl:=hE8 _ rfl
    exact ⟨a6,hK8,(Imp.sh (fun i=>i) rfl rfl rfl rfl rfl rfl)⟩
  ·rintro a5 hM
   replace hM : stabM_K2 a5 = some r:=hM
   unfold stabM_K2 at hM
   obtain rfl:=Option.some.inj hM
   refine n_imp (σ' := ⟨[],[(100000,some (.row 64 29 (List.map RRec.dv a5)))],[100000]⟩) (Imp.sh (fun i=>i) rfl rfl rfl rfl rfl rfl) ?_
   exact n_done (a_postN (.r0 ) (DLe.refl _) (PostOk.spec (.cons rfl .nil)))
def sortM (o0 : List RRec) : Option (List RRec) :=
 (stabM (List.length o0 : Int) o0).bind fun v2=>
 some v2
theorem sortM_c {o0 : List RRec} {r : (List RRec)} (hM : sortM o0 = some r) : ACall Tryz.prog 111 ⟨[.row 100000,.val (.func (.func 112) #[] #[])],[(100000,some (.row 64 29 (List.map RRec.dv o0)))],.tup [],[(100000,some (.row 64 29 (List.map RRec.dv r)))],[]⟩ := by
 unfold sortM at hM
 refine ACall.body Tryz.func111 Tryz.ntmps111 rfl rfl rfl rfl ?_
 refine a_end ?_
 obtain ⟨v2,h1,hM⟩ := of_bind hM
 refine ar (.cons (o_move rfl)<|.cons (o_move rfl)<|.cons (t_len_r rfl rfl)<|.cons (o_move rfl)<|.cons (o_callN (fun i=>bif Nat.beq i 100000 then 100000 else i) 1 (stabM_c h1) rfl (DLeL.refl _) (.cons rfl .nil) rfl .nil)<|.nil _) ?_
 obtain rfl:=Option.some.inj hM
 refine n_imp (σ' := ⟨[],[(100000,some (.row 64 29 (List.map RRec.dv v2)))],[100000]⟩) (Imp.sh (fun i=>i) rfl rfl rfl rfl rfl rfl) ?_
 exact n_done (a_postN (.r0 ) (DLe.refl _) (PostOk.spec (.cons rfl .nil)))
def collect_mergeEntries_K1 (a5 : List RRec) (a6 : Int) : Option ((List RRec) × Bool) :=
 chk (slOk (List.length a5) 0 a6)<|
 some ((List.take (Int.toNat a6) a5),true)
def collect_mergeEntries_L2 (k8 : Nat) (a9 : List RRec) (a10 : Int) : Option (Ctl ((List RRec) × Int) ((List RRec) × Bool)) :=
 (idx a9 (k8 : Int)).bind fun v15=>
 (gb (decide (0 < (k8 : Int))) (RRec.mk 0 0 (VClk.mk (arr 0 [])) 0 (AEv.mk 0 0 0 0 0 0 0 0 []) 0) (idx a9 (IntKind.wrap .i64 (a10 - 1)))).bind fun v17=>
 if ((decide (0 < (k8 : Int))) && (v17.gSeq == v15.gSeq)) = true then
  (idx a9 (IntKind.wrap .i64 (a10 - 1))).bind fun v20=>
  (record_Equal v20 v15).bind fun v22=>
  if (!v22) = true then
   some (.done (([] : List RRec),false))
  else
   some (.next (a9,a10))
 else
  (idx a9 a10).bind fun v25=>
  some (.next ((List.set a9 (Int.toNat a10) v15),(IntKind.wrap .i64 (a10 + 1))))
def collect_mergeEntries (x0 : List RRec) (x1 : List RRec) : Option ((List RRec) × Bool) :=
 (catR [x0,x1]).bind fun v2=>
 (sortM v2).bind fun v4=>
 (forM' (E:=(List RRec) × Bool) 9223372036854775807 (List.length v4 : Int) (fun k8 s=>collect_mergeEntries_L2 k8 s.1 s.2) (v4,0)).bind fun
  | .next s=>collect_mergeEntries_K1 s.1 s.2
  | .done r=>some r
theorem collect_mergeEntries_c {x0 : List RRec} {x1 : List RRec} {r : (List RRec) × Bool} (hM : collect_mergeEntries x0 x1 = some r) : PCall Tryz.prog 71 [.sl 29 (List.map RRec.dv x0),.sl 29 (List.map RRec.dv x1)] (.tup [.sl 29 (List.map RRec.dv r.1),.bool r.2]):=by
 unfold collect_mergeEntries at hM
 refine PCall.body Tryz.func71 Tryz.ntmps71 rfl rfl rfl rfl ?_
 refine a_seq (ar (.cons (o_assign rfl)<|.cons (o_assign rfl)<|.nil _) ?_)
 refine a_seq ?_
 obtain ⟨v2,h1,hM⟩ := of_bind hM
 refine ar (.cons (o_move rfl)<|.cons (o_move rfl)<|.cons (o_frz (t_build (encSl 29 RRec.dv) ([x0,x1] : List (List RRec)) rfl rfl rfl rfl rfl rfl rfl))<|.cons (o_callN (fun i=>bif Nat.beq i 50000 then 13 else i) 1 (catR_c h1) rfl (DLeL.refl _) .nil rfl .nil)<|.cons (o_assign rfl)<|.nil _) ?_
 refine a_seq ?_
 obtain ⟨v4,h3,hM⟩ := of_bind hM
 refine ar (.cons (o_move rfl)<|.cons (o_callN (fun i=>bif Nat.beq i 100000 then 13 else i) 1 (sortM_c h3) rfl (DLeL.refl _) (.cons rfl .nil) rfl .nil)<|.nil _) ?_
 refine a_seq (ar (.cons (o_assign rfl)<|.nil _) ?_)
 refine a_cut (α:=(List RRec) × Int) (fun s=>⟨[(6,.sl 29 (List.map RRec.dv s.1)),(7,.int .i64 s.2)],[],[]⟩) (fun s=>collect_mergeEntries_K1 s.1 s.2 = some r) ?_ ?_
 ·refine a_seq (ar (.cons (o_move rfl)<|.cons (t_len_r rfl rfl)<|.cons (o_move rfl)<|.nil _) ?_)
  obtain ⟨t11,hL11,hK11⟩ := of_bind hM
  refine a_block ?_
  refine a_for (fun k8 (s : (List RRec) × Int)=>⟨[(6,.row 10001),(7,.int .i64 s.2),(16,.row 10001),(17,.int .i64 (List.length v4 : Int)),(18,.int .i64 (k8 : Int))],[(10001,some (.row 64 29 (List.map RRec.dv s.1)))],[10001]⟩) _ hL11 (Imp.sh (fun i=>bif Nat.beq i 10001 then 13 else i) rfl rfl rfl rfl rfl rfl) ?_ ?_
  ·rintro k8 ⟨a9,a10⟩ t12 hk8 hx8 hM hE11
   replace hM : collect_mergeEntries_L2 k8 a9 a10 = some t12:=hM
   unfold collect_mergeEntries_L2 at hM
   refine a_seq (ar (.cons (o_int rfl rfl rfl)<|.nil _) ?_)
   refine a_seq ?_
   refine a_cond _ rfl (fun _=>?_) (fun c=>absurd hk8 (of_decide_eq_false c))
   refine a_skip (a_seq (a_block (a_seq ?_)))
   obtain ⟨v15,h14,hM⟩ := of_bind hM
   refine ar (.cons (o_move rfl)<|.cons (t_index_r h14 rfl rfl rfl)<|.cons (t_load_pr h14 rfl rfl rfl rfl rfl)<|.cons (o_alloc rfl)<|.cons (o_assign rfl)<|.cons (o_store rfl rfl rfl rfl rfl rfl rfl)<|.nil _) ?_
   refine a_seq (a_seq ?_)
   obtain ⟨v17,h16,hM⟩ := of_bind hM
   refine ad mixed (.cons (o_move rfl)<|.cons (o_int rfl rfl rfl)<|.cons (o_move rfl)<|.cons (o_guardG .bT rfl rfl (fun hb=>(.keep .nil)) (fun hb=>o_move rfl))<|.cons (o_guardG .bT rfl rfl (fun hb=>(.keep .nil)) (fun hb=>o_move rfl))<|.cons (o_guardG .bT rfl rfl (fun hb=>(.strip rfl hb .nil)) (fun hb=>o_int rfl rfl rfl))<|.cons (o_guardG .bT rfl rfl (fun hb=>(.strip rfl hb (.strip rfl hb .nil))) (fun hb=>t_index_r (of_gb h16 hb) rfl rfl rfl))<|.cons (o_guardG .bT rfl rfl (fun hb=>(.strip rfl hb .nil)) (fun hb=>o_fieldAddr_p rfl))<|.cons (o_guardG .bT rfl rfl (fun hb=>(.strip rfl hb .nil)) (fun hb=>t_load_ps (of_gb h16 hb) rfl rfl rfl rfl))<|.cons (o_guardG .bT rfl rfl (fun hb=>(.keep .nil)) (fun hb=>o_fieldAddr rfl))<|.cons (o_guardG .bT rfl rfl (fun hb=>(.strip rfl hb .nil)) (fun hb=>o_load_s rfl rfl rfl))<|.cons (o_guardG .bT rfl rfl (fun hb=>(.strip rfl hb (.strip rfl hb .nil))) (fun hb=>o_int rfl rfl rfl))<|.cons (o_and rfl rfl)<|.nil _) ?_
   refine a_cond _ rfl (fun h18=>?_) (fun h18=>?_)
   ·replace hM:=(of_if hM).1 h18
    refine a_seq (a_seq ?_)
    obtain ⟨v20,h19,hM⟩ := of_bind hM
    obtain ⟨v22,h21,hM⟩ := of_bind hM
    refine ad mixed (.cons (o_move rfl)<|.cons (o_move rfl)<|.cons (o_int rfl rfl rfl)<|.cons (t_index_r h19 rfl rfl rfl)<|.cons (t_load_pr h19 rfl rfl rfl rfl rfl)<|.cons (o_load_r rfl rfl rfl rfl)<|.cons (o_call (record_Equal_c h21) rfl (DLeL.refl _) rfl)<|.cons (o_not rfl)<|.nil _) ?_
    refine a_cond _ rfl (fun h23=>?_) (fun h23=>?_)
    ·replace hM:=(of_if hM).1 h23
     refine a_seq (ar (.cons (o_assign rfl)<|.cons (o_assign rfl)<|.nil _) ?_)
     obtain rfl:=Option.some.inj hM
     obtain rfl:=hE11 _ rfl
     obtain rfl:=Option.some.inj hK11
     exact a_ret (a_post (.r2 (.tmp rfl) (.tmp rfl)) (DLe.tup (.cons (DLe.nils _) (.cons (DLe.refl _) .nil))) PostOk.nil.spec)
    ·replace hM:=(of_if hM).2 h23
     refine a_skip (a_exit (ar (.cons (o_add rfl rfl (inR_i64 hk8 hx8))<|.cons (o_move rfl)<|.nil _) ?_))
     obtain rfl:=Option.some.inj hM
     exact ⟨(a9,a10),rfl,(Imp.of (fun i=>i) (.cons rfl (DLe.refl _) (.cons rfl (DLe.refl _) (.cons rfl (DLe.refl _) (.cons rfl (DLe.refl _) (.cons rfl (DLe.succ _ _) .nil))))) (.cons rfl (.refl _) .nil) rfl rfl rfl)⟩
   ·replace hM:=(of_if hM).2 h18
    refine a_skip (a_seq ?_)
    obtain ⟨v25,h24,hM⟩ := of_bind hM
    refine ar (.cons (o_move rfl)<|.cons (o_move rfl)<|.cons (o_load_r rfl rfl rfl rfl)<|.cons (t_index_r h24 rfl rfl rfl)<|.cons (t_store_p v15 h24 rfl rfl rfl rfl rfl rfl rfl rfl rfl rfl rfl)<|.nil _) ?_
    refine ar (.cons (o_move rfl)<|.cons (o_int rfl rfl rfl)<|.cons (o_assign rfl)<|.nil _) ?_
    refine ar (.cons (o_add rfl rfl (inR_i64 hk8 hx8))<|.cons (o_move rfl)<|.nil _) ?_
    obtain rfl:=Option.some.inj hM
    exact ⟨((List.set a9 (Int.toNat a10) v15),(IntKind.wrap .i64 (a10 + 1))),rfl,(Imp.of (fun i=>i) (.cons rfl (DLe.refl _) (.cons rfl (DLe.refl _) (.cons rfl (DLe.refl _) (.cons rfl (DLe.refl _) (.cons rfl (DLe.succ _ _) .nil))))) (.cons rfl (.refl _) .nil) rfl rfl rfl)⟩
  ·rintro k8 ⟨a9,a10⟩ hk8 hx8 rfl
   refine a_seq (ar (.cons (o_int rfl rfl rfl)<|.nil _) ?_)
   refine a_seq ?_
   refine a_cond _ rfl (fun c=>absurd (of_decide_eq_true c) (Int.not_lt.2 hk8)) (fun _=>?_)
   refine a_exit ?_
   exact ⟨(a9,a10),hK11,((Imp.freeze (id:=10001) rfl).trans (Imp.sh (fun i=>i) rfl rfl rfl rfl rfl rfl))⟩
 ·rintro ⟨a5,a6⟩ hM
  replace hM : collect_mergeEntries_K1 a5 a6 = some r:=hM
  unfold collect_mergeEntries_K1 at hM
  refine a_seq ?_
  obtain ⟨h7,hM⟩ := of_chk hM
  refine ar (.cons (o_move rfl)<|.cons (o_move rfl)<|.cons (t_slice_h h7 rfl rfl)<|.cons (o_assign rfl)<|.cons (o_assign rfl)<|.nil _) ?_
  obtain rfl:=Option.some.inj hM
  exact a_ret (a_post (.r2 (.tmp rfl) (.tmp rfl)) (DLe.refl _) PostOk.nil.spec)
def collect_New (x0 : Int) : Option ((CColl) ⊕ (Unit)) :=
 if ((decide (x0 < 1)) || (decide (8 < x0))) = true then
  some (.inr ())
 else
  chk (mkOk 64 (IntKind.wrap .i64 (x0 + 1)) (IntKind.wrap .i64 (x0 + 1)))<|
  some (.inl (CColl.mk (List.replicate (Int.toNat (IntKind.wrap .i64 (x0 + 1))) (CPart.mk [] [] false 0))))
theorem collect_New_c0 {x0 : Int} {r : CColl} (hM : collect_New x0 = some (.inl r)) : ACall Tryz.prog 14 ⟨[.int .i64 x0],[],.tup [.ref 50000 0,.int .i64 0],[(50000,some (.blk 90 [.row 50001])),(50001,some (.row 101 4 (List.map CPart.dv r.gparts)))],[50000,50001]⟩ := by
 unfold collect_New at hM
 refine ACall.body Tryz.func14 Tryz.ntmps14 rfl rfl rfl rfl ?_
 refine a_seq (ar (.cons (o_assign rfl)<|.cons (o_assign rfl)<|.nil _) ?_)
 refine a_seq (a_seq (ar (.cons (o_move rfl)<|.cons (o_int rfl rfl rfl)<|.cons (o_move rfl)<|.cons (o_guardG .bF rfl rfl (fun hb=>(.keep .nil)) (fun hb=>o_move rfl))<|.cons (o_guardG .bF rfl rfl (fun hb=>(.strip rfl hb .nil)) (fun hb=>o_int rfl rfl rfl))<|.cons (o_or rfl rfl)<|.nil _) ?_))
 refine a_cond _ rfl (fun h1=>?_) (fun h1=>?_)
 ·replace hM:=(of_if hM).1 h1
  refine a_seq (ar (.cons (o_assign rfl)<|.cons (o_assign rfl)<|.nil _) ?_)
  cases hM
 ·replace hM:=(of_if hM).2 h1
  refine a_skip (a_seq ?_)
  obtain ⟨h2,hM⟩ := of_chk hM
  refine ar (.cons (o_move rfl)<|.cons (o_int rfl rfl rfl)<|.cons (t_makeW CPart.dv (CPart.mk [] [] false 0) h2 rfl rfl rfl (DLe.agg (.cons (DLe.nils _) (.cons (DLe.nils _) (.cons (DLe.refl _) (.cons (DLe.refl _) .nil))))))<|.cons (o_build rfl rfl rfl)<|.cons (o_box rfl rfl)<|.cons (o_assign rfl)<|.cons (o_assign rfl)<|.nil _) ?_
  obtain rfl:=Sum.inl.inj (Option.some.inj hM)
  refine a_imp (σ' := ⟨[(2,.ref 50000 0),(3,.int .i64 0)],[(50000,some (.blk 90 [.row 50001])),(50001,some (.row 101 4 (List.map CPart.dv ((CColl.mk (List.replicate (Int.toNat (IntKind.wrap .i64 (x0 + 1))) (CPart.mk [] [] false 0))).gparts))))],[50000,50001]⟩) (Imp.sh (fun i=>bif Nat.beq i 50001 then 12 else bif Nat.beq i 50000 then 14 else i) rfl rfl rfl rfl rfl rfl) ?_
  exact a_ret (a_post (.r2 (.tmp rfl) (.tmp rfl)) (DLe.refl _) (PostOk.spec (.cons rfl (.cons rfl .nil))))
def collect_clone (x0 : RRec) : Option RRec :=
 (slices_Clone_int64_int64 x0.gEvent.gArgs).bind fun v2=>
 some (RRec.mk x0.gComponent x0.gSeq x0.gClock x0.gWhat (AEv.mk x0.gEvent.gTick x0.gEvent.gComponent x0.gEvent.gKind x0.gEvent.gPeer x0.gEvent.gN x0.gEvent.gCopy x0.gEvent.gHandler x0.gEvent.gD v2) x0.gCount)
theorem collect_clone_c {x0 : RRec} {r : RRec} (hM : collect_clone x0 = some r) : PCall Tryz.prog 70 [.agg (RRec.cs x0)] (.agg (RRec.cs r)):=by
 unfold collect_clone at hM
 refine PCall.body Tryz.func70 Tryz.ntmps70 rfl rfl rfl rfl ?_
 refine a_seq (ar (.cons (o_box rfl rfl)<|.cons (o_alloc rfl)<|.nil _) ?_)
 refine a_seq ?_
 obtain ⟨v2,h1,hM⟩ := of_bind hM
 refine ar (.cons (o_fieldAddr rfl)<|.cons (o_fieldAddr rfl)<|.cons (o_load_s rfl rfl rfl)<|.cons (o_callN (fun i=>bif Nat.beq i 50000 then 6 else i) 1 (slices_Clone_int64_int64_c h1) rfl (DLeL.refl _) .nil rfl .nil)<|.cons (o_fieldAddr rfl)<|.cons (o_fieldAddr rfl)<|.cons (o_store_s rfl rfl rfl rfl rfl)<|.nil _) ?_
 refine a_seq (ar (.cons (o_load_r rfl rfl rfl rfl)<|.cons (o_store rfl rfl rfl rfl rfl rfl rfl)<|.nil _) ?_)
 obtain rfl:=Option.some.inj hM
 refine a_imp (Imp.freeze (id:=6) rfl) ?_
 exact a_ret (a_post (.r1 (.cell rfl rfl (.row _ CRow.h (Nat.le_of_ble_eq_true rfl) rfl))) (DLe.refl _) PostOk.nil.spec)
def collect_cloneAll_K1 (a1 : List RRec) : Option (List RRec) :=
 some a1
def collect_cloneAll_L2 (x0 : List RRec) (k2 : Nat) (a3 : List RRec) : Option (List RRec) :=
 (idx x0 (k2 : Int)).bind fun v8=>
 (collect_clone v8).bind fun v10=>
 chk (apOk 248 (List.length a3 + List.length [v10]))<|
 some (a3++[v10])
def collect_cloneAll (x0 : List RRec) : Option (List RRec) :=
 (foldM' 9223372036854775807 (List.length x0 : Int) (fun k2 s=>collect_cloneAll_L2 x0 k2 s) ([] : List RRec)).bind fun s=>collect_cloneAll_K1 s
theorem collect_cloneAll_c {x0 : List RRec} {r : (List RRec)} (hM : collect_cloneAll x0 = some r) : PCall Tryz.prog 45 [.sl 29 (List.map RRec.dv x0)] (.sl 29 (List.map RRec.dv r)):=by
 unfold collect_cloneAll at hM
 refine PCall.body Tryz.func45 Tryz.ntmps45 rfl rfl rfl rfl ?_
 refine a_seq (ar (.cons (o_assign rfl)<|.nil _) ?_)
 refine a_seq (ar (.cons (o_assign rfl)<|.nil _) ?_)
 refine a_cut (α:=(List RRec)) (fun s=>⟨[(3,.sl 29 (List.map RRec.dv s))],[],[]⟩) (fun s=>collect_cloneAll_K1 s = some r) ?_ ?_
 ·refine a_seq (ar (.cons (o_move rfl)<|.cons (t_len rfl)<|.cons (o_move rfl)<|.nil _) ?_)
  obtain ⟨a3,hL4,hK4⟩ := of_bind hM
  refine a_block ?_
  refine a_fold (fun k2 (s : (List RRec))=>⟨[(3,.row 10001),(6,.sl 29 (List.map RRec.dv x0)),(7,.int .i64 (List.length x0 : Int)),(8,.int .i64 (k2 : Int))],[(10001,some (.row 64 29 (List.map RRec.dv s)))],[10001]⟩) _ hL4 ((Imp.nilRow (t:=3) (id:=10002) 64 29 rfl rfl).trans (Imp.sh (fun i=>bif Nat.beq i 10001 then 10002 else i) rfl rfl rfl rfl rfl rfl)) ?_ ?_
  ·rintro k2 a3 t5 hk2 hx2 hM
   replace hM : collect_cloneAll_L2 x0 k2 a3 = some t5:=hM
   unfold collect_cloneAll_L2 at hM
   refine a_seq (ar (.cons (o_int rfl rfl rfl)<|.nil _) ?_)
   refine a_seq ?_
   refine a_cond _ rfl (fun _=>?_) (fun c=>absurd hk2 (of_decide_eq_false c))
   refine a_skip (a_seq (a_block (a_seq ?_)))
   obtain ⟨v8,h7,hM⟩ := of_bind hM
   refine ar (.cons (t_index h7 rfl rfl rfl)<|.cons (o_load_er rfl rfl rfl)<|.cons (o_alloc rfl)<|.cons (o_store rfl rfl rfl rfl rfl rfl rfl)<|.nil _) ?_
   obtain ⟨v10,h9,hM⟩ := of_bind hM
   obtain ⟨h11,hM⟩ := of_chk hM
   refine ar (.cons (o_move rfl)<|.cons (o_load_r rfl rfl rfl rfl)<|.cons (o_call (collect_clone_c h9) rfl (DLeL.refl _) rfl)<|.cons (t_build RRec.dv ([v10] : List RRec) rfl rfl rfl rfl rfl rfl rfl)<|.cons (t_append [v10] h11 rfl rfl rfl (Src.row rfl))<|.cons (o_assign rfl)<|.nil _) ?_
   refine ar (.cons (o_add rfl rfl (inR_i64 hk2 hx2))<|.cons (o_move rfl)<|.nil _) ?_
   obtain rfl:=Option.some.inj hM
   exact (Imp.of (fun i=>bif Nat.beq i 10001 then 16 else i) (.cons rfl (DLe.refl _) (.cons rfl (DLe.refl _) (.cons rfl (DLe.refl _) (.cons rfl (DLe.succ _ _) .nil)))) (.cons rfl (.refl _) .nil) rfl rfl rfl)
  ·rintro k2 hk2 hx2
   refine a_seq (ar (.cons (o_int rfl rfl rfl)<|.nil _) ?_)
   refine a_seq ?_
   refine a_cond _ rfl (fun c=>absurd (of_decide_eq_true c) (Int.not_lt.2 hk2)) (fun _=>?_)
   refine a_exit ?_
   exact ⟨a3,hK4,((Imp.freeze (id:=10001) rfl).trans (Imp.sh (fun i=>i) rfl rfl rfl rfl rfl rfl))⟩
 ·rintro a1 hM
  replace hM : collect_cloneAll_K1 a1 = some r:=hM
  unfold collect_cloneAll_K1 at hM
  refine a_seq (ar (.cons (o_move rfl)<|.cons (o_assign rfl)<|.nil _) ?_)
  obtain rfl:=Option.some.inj hM
  exact a_ret (a_post (.r1 (.tmp rfl)) (DLe.refl _) PostOk.nil.spec)
def collect_without_K1 (a1 : List CSpan) : Option (List CSpan) :=
 some a1
def collect_without_K3 (a8 : List CSpan) (a9 : Int) : Option ((List CSpan) × Int) :=
 some (a8,a9)
def collect_without_K5 (v11 : CSpan) (a13 : List CSpan) (a14 : Int) (a15 : Int) : Option ((List CSpan) × Int) :=
 if (decide (a15 < v11.gto)) = true then
  chk (apOk 16 (List.length a13 + List.length [(CSpan.mk a15 v11.gto)]))<|
  collect_without_K3 (a13++[(CSpan.mk a15 v11.gto)]) a14
 else
  collect_without_K3 a13 a14
def collect_without_K7 (x1 : List RRec) (a19 : Int) (a26 : List CSpan) : Option (Ctl ((List CSpan) × Int × Int) ((List CSpan) × Int × Int)) :=
 (idx x1 a19).bind fun v28=>
 some (.next (a26,(IntKind.wrap .i64 (a19 + 1)),(IntKind.wrap .u64 (v28.gSeq + 1))))
def collect_without_L6 (x1 : List RRec) (v11 : CSpan) (a18 : List CSpan) (a19 : Int) (a20 : Int) : Option (Ctl ((List CSpan) × Int × Int) ((List CSpan) × Int × Int)) :=
 (gb (decide (a19 < (List.length x1 : Int))) (RRec.mk 0 0 (VClk.mk (arr 0 [])) 0 (AEv.mk 0 0 0 0 0 0 0 0 []) 0) (idx x1 a19)).bind fun v24=>
 if ((decide (a19 < (List.length x1 : Int))) && (decide (v24.gSeq < v11.gto))) = true then
  (idx x1 a19).bind fun v30=>
  if (decide (a20 < v30.gSeq)) = true then
   (idx x1 a19).bind fun v33=>
   chk (apOk 16 (List.length a18 + List.length [(CSpan.mk a20 v33.gSeq)]))<|
   collect_without_K7 x1 a19 (a18++[(CSpan.mk a20 v33.gSeq)])
  else
   collect_without_K7 x1 a19 a18
 else
  some (.done (a18,a19,a20))
def collect_without_K4 (x1 : List RRec) (a3 : List CSpan) (v11 : CSpan) (a12 : Int) : Option ((List CSpan) × Int) :=
 (whileM (E:=(List CSpan) × Int × Int) (fun s=>collect_without_L6 x1 v11 s.1 s.2.1 s.2.2) (a3,a12,v11.gfrom)).bind fun e=>collect_without_K5 v11 e.1 e.2.1 e.2.2
def collect_without_L8 (x1 : List RRec) (v11 : CSpan) (a35 : Int) : Option (Ctl Int Int) :=
 (gb (decide (a35 < (List.length x1 : Int))) (RRec.mk 0 0 (VClk.mk (arr 0 [])) 0 (AEv.mk 0 0 0 0 0 0 0 0 []) 0) (idx x1 a35)).bind fun v39=>
 if ((decide (a35 < (List.length x1 : Int))) && (decide (v39.gSeq < v11.gfrom))) = true then
  some (.next (IntKind.wrap .i64 (a35 + 1)))
 else
  some (.done a35)
def collect_without_L2 (x0 : List CSpan) (x1 : List RRec) (k2 : Nat) (a3 : List CSpan) (a4 : Int) : Option ((List CSpan) × Int) :=
 (idx x0 (k2 : Int)).bind fun v11=>
 (whileM (E:=Int) (fun s=>collect_without_L8 x1 v11 s) a4).bind fun e=>collect_without_K4 x1 a3 v11 e
def collect_without (x0 : List CSpan) (x1 : List RRec) : Option (List CSpan) :=
 (foldM' 9223372036854775807 (List.length x0 : Int) (fun k2 s=>collect_without_L2 x0 x1 k2 s.1 s.2) (([] : List CSpan),0)).bind fun s=>collect_without_K1 s.1
theorem collect_without_c {x0 : List CSpan} {x1 : List RRec} {r : (List CSpan)} (hM : collect_without x0 x1 = some r) : PCall Tryz.prog 73 [.sl 2 (List.map CSpan.dv x0),.sl 29 (List.map RRec.dv x1)] (.sl 2 (List.map CSpan.dv r)):=by
 unfold collect_without at hM
 refine PCall.body Tryz.func73 Tryz.ntmps73 rfl rfl rfl rfl ?_
 refine a_seq (ar (.cons (o_assign rfl)<|.nil _) ?_)
 refine a_seq (ar (.cons (o_assign rfl)<|.nil _) ?_)
 refine a_seq (ar (.cons (o_assign rfl)<|.nil _) ?_)
 refine a_cut (α:=(List CSpan)) (fun s=>⟨[(5,.sl 2 (List.map CSpan.dv s))],[],[]⟩) (fun s=>collect_without_K1 s = some r) ?_ ?_
 ·refine a_seq (ar (.cons (o_move rfl)<|.cons (t_len rfl)<|.cons (o_move rfl)<|.nil _) ?_)
  obtain ⟨⟨a3,a4⟩,hL5,hK5⟩ := of_bind hM
  refine a_block ?_
  refine a_fold (fun k2 (s : (List CSpan) × Int)=>⟨[(1,.sl 29 (List.map RRec.dv x1)),(5,.row 10001),(6,.int .i64 s.2),(10,.sl 2 (List.map CSpan.dv x0)),(11,.int .i64 (List.length x0 : Int)),(12,.int .i64 (k2 : Int))],[(10001,some (.row 147 2 (List.map CSpan.dv s.1)))],[10001]⟩) _ hL5 ((Imp.nilRow (t:=5) (id:=10008) 147 2 rfl rfl).trans (Imp.sh (fun i=>bif Nat.beq i 10001 then 10008 else i) rfl rfl rfl rfl rfl rfl)) ?_ ?_
  ·rintro k2 ⟨a3,a4⟩ t6 hk2 hx2 hM
   replace hM : collect_without_L2 x0 x1 k2 a3 a4 = some t6:=hM
   unfold collect_without_L2 at hM
   refine a_seq (ar (.cons (o_int rfl rfl rfl)<|.nil _) ?_)
   refine a_seq ?_
   refine a_cond _ rfl (fun _=>?_) (fun c=>absurd hk2 (of_decide_eq_false c))
   refine a_skip ?_
   refine a_cut (α:=(List CSpan) × Int) (fun s=>⟨[(1,.sl 29 (List.map RRec.dv x1)),(5,.row 10002),(6,.int .i64 s.2),(10,.sl 2 (List.map CSpan.dv x0)),(11,.int .i64 (List.length x0 : Int)),(12,.int .i64 (k2 : Int))],[(10002,some (.row 147 2 (List.map CSpan.dv s.1)))],[10002]⟩) (fun s=>collect_without_K3 s.1 s.2 = some t6) ?_ ?_
   ·refine a_block (a_seq ?_)
    obtain ⟨v11,h10,hM⟩ := of_bind hM
    refine ar (.cons (t_index h10 rfl rfl rfl)<|.cons (o_load_er rfl rfl rfl)<|.cons (o_alloc rfl)<|.cons (o_store rfl rfl rfl rfl rfl rfl rfl)<|.nil _) ?_
    refine a_cut (α:=Int) (fun s=>⟨[(1,.sl 29 (List.map RRec.dv x1)),(5,.row 10003),(6,.int .i64 s),(8,.ref 8 0),(10,.sl 2 (List.map CSpan.dv x0)),(11,.int .i64 (List.length x0 : Int)),(12,.int .i64 (k2 : Int))],[(8,some (.blk 147 (CSpan.cs v11))),(10003,some (.row 147 2 (List.map CSpan.dv a3)))],[8,10003]⟩) (fun s=>collect_without_K4 x1 a3 v11 s = some t6) ?_ ?_
    ·obtain ⟨e36,hL36,hK36⟩ := of_bind hM
     refine a_block (a_while (fun s : Int=>⟨[(1,.sl 29 (List.map RRec.dv x1)),(5,.row 10007),(6,.int .i64 s),(8,.ref 8 0),(10,.sl 2 (List.map CSpan.dv x0)),(11,.int .i64 (List.length x0 : Int)),(12,.int .i64 (k2 : Int))],[(8,some (.blk 147 (CSpan.cs v11))),(10007,some (.row 147 2 (List.map CSpan.dv a3)))],[8,10007]⟩) _ hL36 (Imp.sh (fun i=>bif Nat.beq i 10007 then 10001 else i) rfl rfl rfl rfl rfl rfl) ?_)
     rintro a35 t37 hM hE36
     replace hM : collect_without_L8 x1 v11 a35 = some t37:=hM
     unfold collect_without_L8 at hM
     refine a_seq (a_seq ?_)
     obtain ⟨v39,h38,hM⟩ := of_bind hM
     refine ad mixed (.cons (o_move rfl)<|.cons (o_move rfl)<|.cons (t_len rfl)<|.cons (o_int rfl rfl rfl)<|.cons (o_move rfl)<|.cons (o_guardG .bT rfl rfl (fun hb=>(.keep .nil)) (fun hb=>o_move rfl))<|.cons (o_guardG .bT rfl rfl (fun hb=>(.keep .nil)) (fun hb=>o_move rfl))<|.cons (o_guardG .bT rfl rfl (fun hb=>(.strip rfl hb (.strip rfl hb .nil))) (fun hb=>t_index (of_gb h38 hb) rfl rfl rfl))<|.cons (o_guardG .bT rfl rfl (fun hb=>(.strip rfl hb .nil)) (fun hb=>o_fieldAddr_e rfl rfl))<|.cons (o_guardG .bT rfl rfl (fun hb=>(.strip rfl hb .nil)) (fun hb=>o_load_es rfl rfl))<|.cons (o_guardG .bT rfl rfl (fun hb=>(.keep .nil)) (fun hb=>o_fieldAddr rfl))<|.cons (o_guardG .bT rfl rfl (fun hb=>(.strip rfl hb .nil)) (fun hb=>o_load_s rfl rfl rfl))<|.cons (o_guardG .bT rfl rfl (fun hb=>(.strip rfl hb (.strip rfl hb .nil))) (fun hb=>o_int rfl rfl rfl))<|.cons (o_and rfl rfl)<|.nil _) ?_
     refine a_cond _ rfl (fun h40=>?_) (fun h40=>?_)
     ·replace hM:=(of_if hM).1 h40
      refine a_skip (a_block (ar (.cons (o_move rfl)<|.cons (o_int rfl rfl rfl)<|.cons (o_assign rfl)<|.nil _) ?_))
      obtain rfl:=Option.some.inj hM
      exact ⟨(IntKind.wrap .i64 (a35 + 1)),rfl,(Imp.sh (fun i=>i) rfl rfl rfl rfl rfl rfl)⟩
     ·replace hM:=(of_if hM).2 h40
      refine a_exit ?_
      obtain rfl:=Option.some.inj hM
      obtain rfl:=hE36 _ rfl
      exact ⟨a35,hK36,(Imp.sh (fun i=>bif Nat.beq i 10003 then 10007 else i) rfl rfl rfl rfl rfl rfl)⟩
    ·rintro a12 hM
     replace hM : collect_without_K4 x1 a3 v11 a12 = some t6:=hM
     unfold collect_without_K4 at hM
     refine a_seq (ar (.cons (o_fieldAddr rfl)<|.cons (o_load_s rfl rfl rfl)<|.cons (o_assign rfl)<|.nil _) ?_)
     refine a_cut (α:=(List CSpan) × Int × Int) (fun s=>⟨[(1,.sl 29 (List.map RRec.dv x1)),(5,.row 10004),(6,.int .i64 s.2.1),(8,.ref 8 0),(9,.int .u64 s.2.2),(10,.sl 2 (List.map CSpan.dv x0)),(11,.int .i64 (List.length x0 : Int)),(12,.int .i64 (k2 : Int))],[(8,some (.blk 147 (CSpan.cs v11))),(10004,some (.row 147 2 (List.map CSpan.dv s.1)))],[8,10004]⟩) (fun s=>collect_without_K5 v11 s.1 s.2.1 s.2.2 = some t6) ?_ ?_
     ·obtain ⟨e21,hL21,hK21⟩ := of_bind hM
      refine a_block (a_while (fun s : (List CSpan) × Int × Int=>⟨[(1,.sl 29 (List.map RRec.dv x1)),(5,.row 10005),(6,.int .i64 s.2.1),(8,.ref 8 0),(9,.int .u64 s.2.2),(10,.sl 2 (List.map CSpan.dv x0)),(11,.int .i64 (List.length x0 : Int)),(12,.int .i64 (k2 : Int))],[(8,some (.blk 147 (CSpan.cs v11))),(10005,some (.row 147 2 (List.map CSpan.dv s.1)))],[8,10005]⟩) _ hL21 (Imp.sh (fun i=>bif Nat.beq i 10005 then 10003 else i) rfl rfl rfl rfl rfl rfl) ?_)
      rintro ⟨a18,a19,a20⟩ t22 hM hE21
      replace hM : collect_without_L6 x1 v11 a18 a19 a20 = some t22:=hM
      unfold collect_without_L6 at hM
      refine a_seq (a_seq ?_)
      obtain ⟨v24,h23,hM⟩ := of_bind hM
      refine ad mixed (.cons (o_move rfl)<|.cons (o_move rfl)<|.cons (t_len rfl)<|.cons (o_int rfl rfl rfl)<|.cons (o_move rfl)<|.cons (o_guardG .bT rfl rfl (fun hb=>(.keep .nil)) (fun hb=>o_move rfl))<|.cons (o_guardG .bT rfl rfl (fun hb=>(.keep .nil)) (fun hb=>o_move rfl))<|.cons (o_guardG .bT rfl rfl (fun hb=>(.strip rfl hb (.strip rfl hb .nil))) (fun hb=>t_index (of_gb h23 hb) rfl rfl rfl))<|.cons (o_guardG .bT rfl rfl (fun hb=>(.strip rfl hb .nil)) (fun hb=>o_fieldAddr_e rfl rfl))<|.cons (o_guardG .bT rfl rfl (fun hb=>(.strip rfl hb .nil)) (fun hb=>o_load_es rfl rfl))<|.cons (o_guardG .bT rfl rfl (fun hb=>(.keep .nil)) (fun hb=>o_fieldAddr rfl))<|.cons (o_guardG .bT rfl rfl (fun hb=>(.strip rfl hb .nil)) (fun hb=>o_load_s rfl rfl rfl))<|.cons (o_guardG .bT rfl rfl (fun hb=>(.strip rfl hb (.strip rfl hb .nil))) (fun hb=>o_int rfl rfl rfl))<|.cons (o_and rfl rfl)<|.nil _) ?_
      refine a_cond _ rfl (fun h25=>?_) (fun h25=>?_)
      ·replace hM:=(of_if hM).1 h25
       refine a_skip (a_block ?_)
       refine a_cut (α:=(List CSpan)) (fun s=>⟨[(1,.sl 29 (List.map RRec.dv x1)),(5,.row 10006),(6,.int .i64 a19),(8,.ref 8 0),(10,.sl 2 (List.map CSpan.dv x0)),(11,.int .i64 (List.length x0 : Int)),(12,.int .i64 (k2 : Int))],[(8,some (.blk 147 (CSpan.cs v11))),(10006,some (.row 147 2 (List.map CSpan.dv s)))],[8,10006]⟩) (fun s=>collect_without_K7 x1 a19 s = some t22) ?_ ?_
       ·refine a_seq ?_
        obtain ⟨v30,h29,hM⟩ := of_bind hM
        refine ar (.cons (o_move rfl)<|.cons (o_move rfl)<|.cons (o_move rfl)<|.cons (t_index h29 rfl rfl rfl)<|.cons (o_fieldAddr_e rfl rfl)<|.cons (o_load_es rfl rfl)<|.cons (o_int rfl rfl rfl)<|.nil _) ?_
        refine a_cond _ rfl (fun h31=>?_) (fun h31=>?_)
        ·replace hM:=(of_if hM).1 h31
         obtain ⟨v33,h32,hM⟩ := of_bind hM
         obtain ⟨h34,hM⟩ := of_chk hM
         refine ar (.cons (o_move rfl)<|.cons (o_move rfl)<|.cons (o_move rfl)<|.cons (o_move rfl)<|.cons (t_index h32 rfl rfl rfl)<|.cons (o_fieldAddr_e rfl rfl)<|.cons (o_load_es rfl rfl)<|.cons (o_build rfl rfl rfl)<|.cons (t_build CSpan.dv ([(CSpan.mk a20 v33.gSeq)] : List CSpan) rfl rfl rfl rfl rfl rfl rfl)<|.cons (t_append [(CSpan.mk a20 v33.gSeq)] h34 rfl rfl rfl (Src.row rfl))<|.cons (o_assign rfl)<|.nil _) ?_
         exact ⟨(a18++[(CSpan.mk a20 v33.gSeq)]),hM,(Imp.sh (fun i=>bif Nat.beq i 10006 then 64 else i) rfl rfl rfl rfl rfl rfl)⟩
        ·replace hM:=(of_if hM).2 h31
         refine a_skip ?_
         exact ⟨a18,hM,(Imp.sh (fun i=>bif Nat.beq i 10006 then 10005 else i) rfl rfl rfl rfl rfl rfl)⟩
       ·rintro a26 hM
        replace hM : collect_without_K7 x1 a19 a26 = some t22:=hM
        unfold collect_without_K7 at hM
        refine a_seq ?_
        obtain ⟨v28,h27,hM⟩ := of_bind hM
        refine ar (.cons (o_move rfl)<|.cons (o_move rfl)<|.cons (t_index h27 rfl rfl rfl)<|.cons (o_fieldAddr_e rfl rfl)<|.cons (o_load_es rfl rfl)<|.cons (o_int rfl rfl rfl)<|.cons (o_assign rfl)<|.nil _) ?_
        refine ar (.cons (o_move rfl)<|.cons (o_int rfl rfl rfl)<|.cons (o_assign rfl)<|.nil _) ?_
        obtain rfl:=Option.some.inj hM
        exact ⟨(a26,(IntKind.wrap .i64 (a19 + 1)),(IntKind.wrap .u64 (v28.gSeq + 1))),rfl,(Imp.sh (fun i=>bif Nat.beq i 10005 then 10006 else i) rfl rfl rfl rfl rfl rfl)⟩
      ·replace hM:=(of_if hM).2 h25
       refine a_exit ?_
       obtain rfl:=Option.some.inj hM
       obtain rfl:=hE21 _ rfl
       exact ⟨(a18,a19,a20),hK21,(Imp.sh (fun i=>bif Nat.beq i 10004 then 10005 else i) rfl rfl rfl rfl rfl rfl)⟩
     ·rintro ⟨a13,a14,a15⟩ hM
      replace hM : collect_without_K5 v11 a13 a14 a15 = some t6:=hM
      unfold collect_without_K5 at hM
      refine a_seq (ar (.cons (o_move rfl)<|.cons (o_fieldAddr rfl)<|.cons (o_load_s rfl rfl rfl)<|.cons (o_int rfl rfl rfl)<|.nil _) ?_)
      refine a_cond _ rfl (fun h16=>?_) (fun h16=>?_)
      ·replace hM:=(of_if hM).1 h16
       obtain ⟨h17,hM⟩ := of_chk hM
       refine ar (.cons (o_move rfl)<|.cons (o_move rfl)<|.cons (o_fieldAddr rfl)<|.cons (o_load_s rfl rfl rfl)<|.cons (o_build rfl rfl rfl)<|.cons (t_build CSpan.dv ([(CSpan.mk a15 v11.gto)] : List CSpan) rfl rfl rfl rfl rfl rfl rfl)<|.cons (t_append [(CSpan.mk a15 v11.gto)] h17 rfl rfl rfl (Src.row rfl))<|.cons (o_assign rfl)<|.nil _) ?_
       exact ⟨((a13++[(CSpan.mk a15 v11.gto)]),a14),hM,(Imp.sh (fun i=>bif Nat.beq i 10002 then 83 else i) rfl rfl rfl rfl rfl rfl)⟩
      ·replace hM:=(of_if hM).2 h16
       refine a_skip ?_
       exact ⟨(a13,a14),hM,(Imp.sh (fun i=>bif Nat.beq i 10002 then 10004 else i) rfl rfl rfl rfl rfl rfl)⟩
   ·rintro ⟨a8,a9⟩ hM
    replace hM : collect_without_K3 a8 a9 = some t6:=hM
    unfold collect_without_K3 at hM
    refine ar (.cons (o_add rfl rfl (inR_i64 hk2 hx2))<|.cons (o_move rfl)<|.nil _) ?_
    obtain rfl:=Option.some.inj hM
    exact (Imp.of (fun i=>bif Nat.beq i 10001 then 10002 else i) (.cons rfl (DLe.refl _) (.cons rfl (DLe.refl _) (.cons rfl (DLe.refl _) (.cons rfl (DLe.refl _) (.cons rfl (DLe.refl _) (.cons rfl (DLe.succ _ _) .nil)))))) (.cons rfl (.refl _) .nil) rfl rfl rfl)
  ·rintro k2 hk2 hx2
   refine a_seq (ar (.cons (o_int rfl rfl rfl)<|.nil _) ?_)
   refine a_seq ?_
   refine a_cond _ rfl (fun c=>absurd (of_decide_eq_true c) (Int.not_lt.2 hk2)) (fun _=>?_)
   refine a_exit ?_
   exact ⟨a3,hK5,((Imp.freeze (id:=10001) rfl).trans (Imp.sh (fun i=>i) rfl rfl rfl rfl rfl rfl))⟩
 ·rintro a1 hM
  replace hM : collect_without_K1 a1 = some r:=hM
  unfold collect_without_K1 at hM
  refine a_seq (ar (.cons (o_move rfl)<|.cons (o_assign rfl)<|.nil _) ?_)
  obtain rfl:=Option.some.inj hM
  exact a_ret (a_post (.r1 (.tmp rfl)) (DLe.refl _) PostOk.nil.spec)
def CPartOf_K1 (a1 : List RRec) (a2 : List CSpan) (a3 : Bool) (a4 : Int) : Option (CPart × Bool) :=
 some ((CPart.mk a1 a2 a3 a4),true)
def CPartOf_L2 (x0 : List RRec) (x1 : Int) (k5 : Nat) (a6 : List RRec) (a7 : List CSpan) (a8 : Bool) (a9 : Int) : Option (Ctl ((List RRec) × (List CSpan) × Bool × Int) (CPart × Bool)) :=
 (idx x0 (k5 : Int)).bind fun v14=>
 if (v14.gComponent != x1) = true then
  some (.done ((CPart.mk [] [] false 0),false))
 else
  if (v14.gWhat == 1) = true then
   (collect_clone v14).bind fun v18=>
   chk (apOk 248 (List.length a6 + List.length [v18]))<|
   some (.next ((a6++[v18]),a7,a8,a9))
  else
   if (v14.gWhat == 2) = true then
    chk (apOk 16 (List.length a7 + List.length [(CSpan.mk v14.gSeq (IntKind.wrap .u64 (v14.gSeq + v14.gCount)))]))<|
    some (.next (a6,(a7++[(CSpan.mk v14.gSeq (IntKind.wrap .u64 (v14.gSeq + v14.gCount)))]),a8,a9))
   else
    if (v14.gWhat == 3) = true then
     if (a8 && (a9 != v14.gSeq)) = true then
      some (.done ((CPart.mk [] [] false 0),false))
     else
      some (.next (a6,a7,true,v14.gSeq))
    else
     some (.next (a6,a7,a8,a9))
def CPartOf (x0 : List RRec) (x1 : Int) : Option (CPart × Bool) :=
 (forM' (E:=CPart × Bool) 9223372036854775807 (List.length x0 : Int) (fun k5 s=>CPartOf_L2 x0 x1 k5 s.1 s.2.1 s.2.2.1 s.2.2.2) (([] : List RRec),([] : List CSpan),false,0)).bind fun
  | .next s=>CPartOf_K1 s.1 s.2.1 s.2.2.1 s.2.2.2
  | .done r=>some r
theorem CPartOf_c {x0 : List RRec} {x1 : Int} {r : CPart × Bool} (hM : CPartOf x0 x1 = some r) : PCall Tryz.prog 43 [.sl 29 (List.map RRec.dv x0),.int .i64 x1] (.tup [.agg (CPart.cs r.1),.bool r.2]):=by
 unfold CPartOf at hM
 refine PCall.body Tryz.func43 Tryz.ntmps43 rfl rfl rfl rfl ?_
 refine a_seq (ar (.cons (o_alloc rfl)<|.cons (o_assign rfl)<|.nil _) ?_)
 refine a_seq (ar (.cons (o_alloc rfl)<|.nil _) ?_)
 refine a_cut (α:=(List RRec) × (List CSpan) × Bool × Int) (fun s=>⟨[(4,.ref 4 0),(6,.ref 6 0)],[(4,some (.blk 101 [.nils,.nils,.bool false,.int .u64 0])),(6,some (.blk 101 [.row 10001,.row 10002,.bool s.2.2.1,.int .u64 s.2.2.2])),(10001,some (.row 64 29 (List.map RRec.dv s.1))),(10002,some (.row 147 2 (List.map CSpan.dv s.2.1)))],[4,6,10001,10002]⟩) (fun s=>CPartOf_K1 s.1 s.2.1 s.2.2.1 s.2.2.2 = some r) ?_ ?_
 ·refine a_seq (ar (.cons (o_move rfl)<|.cons (t_len rfl)<|.cons (o_move rfl)<|.nil _) ?_)
  obtain ⟨t10,hL10,hK10⟩ := of_bind hM
  refine a_block ?_
  refine a_for (fun k5 (s : (List RRec) × (List CSpan) × Bool × Int)=>⟨[(1,.int .i64 x1),(4,.ref 4 0),(6,.ref 6 0),(9,.sl 29 (List.map RRec.dv x0)),(10,.int .i64 (List.length x0 : Int)),(11,.int .i64 (k5 : Int))],[(4,some (.blk 101 [.nils,.nils,.bool false,.int .u64 0])),(6,some (.blk 101 [.row 10003,.row 10004,.bool s.2.2.1,.int .u64 s.2.2.2])),(10003,some (.row 64 29 (List.map RRec.dv s.1))),(10004,some (.row 147 2 (List.map CSpan.dv s.2.1)))],[4,6,10003,10004]⟩) _ hL10 ((Imp.nilC (id:=6) (rid:=10005) (j:=0) 64 29 rfl rfl rfl rfl).trans ((Imp.nilC (id:=6) (rid:=10006) (j:=1) 147 2 rfl rfl rfl rfl).trans (Imp.sh (fun i=>bif Nat.beq i 10004 then 10006 else bif Nat.beq i 10003 then 10005 else i) rfl rfl rfl rfl rfl rfl))) ?_ ?_
  ·rintro k5 ⟨a6,a7,a8,a9⟩ t11 hk5 hx5 hM hE10
   replace hM : CPartOf_L2 x0 x1 k5 a6 a7 a8 a9 = some t11:=hM
   unfold CPartOf_L2 at hM
   refine a_seq (ar (.cons (o_int rfl rfl rfl)<|.nil _) ?_)
   refine a_seq ?_
   refine a_cond _ rfl (fun _=>?_) (fun c=>absurd hk5 (of_decide_eq_false c))
   refine a_skip (a_seq (a_block (a_seq ?_)))
   obtain ⟨v14,h13,hM⟩ := of_bind hM
   refine ar (.cons (t_index h13 rfl rfl rfl)<|.cons (o_load_er rfl rfl rfl)<|.cons (o_alloc rfl)<|.cons (o_store rfl rfl rfl rfl rfl rfl rfl)<|.nil _) ?_
   refine a_seq (a_seq (ar (.cons (o_fieldAddr rfl)<|.cons (o_load_s rfl rfl rfl)<|.cons (o_move rfl)<|.cons (o_int rfl rfl rfl)<|.nil _) ?_))
   refine a_cond _ rfl (fun h15=>?_) (fun h15=>?_)
   ·replace hM:=(of_if hM).1 h15
    refine a_seq (ar (.cons (o_build rfl rfl rfl)<|.cons (o_store rfl rfl rfl rfl rfl rfl rfl)<|.cons (o_assign rfl)<|.nil _) ?_)
    obtain rfl:=Option.some.inj hM
    obtain rfl:=hE10 _ rfl
    obtain rfl:=Option.some.inj hK10
    exact a_ret (a_post (.r2 (.cell rfl rfl (.row _ CRow.h (Nat.le_of_ble_eq_true rfl) rfl)) (.tmp rfl)) (DLe.tup (.cons (DLe.agg (.cons (DLe.nils _) (.cons (DLe.nils _) (.cons (DLe.refl _) (.cons (DLe.refl _) .nil))))) (.cons (DLe.refl _) .nil))) PostOk.nil.spec)
   ·replace hM:=(of_if hM).2 h15
    refine a_skip (a_seq (ar (.cons (o_fieldAddr rfl)<|.cons (o_load_s rfl rfl rfl)<|.nil _) ?_))
    refine a_block (a_seq (ar (.cons (o_int rfl rfl rfl)<|.cons (o_assign rfl)<|.nil _) ?_))
    refine a_cond _ rfl (fun h16=>?_) (fun h16=>?_)
    ·replace hM:=(of_if hM).1 h16
     obtain ⟨v18,h17,hM⟩ := of_bind hM
     obtain ⟨h19,hM⟩ := of_chk hM
     refine ad mixed (.cons (o_fieldAddr rfl)<|.cons (o_load_s rfl rfl rfl)<|.cons (o_load_r rfl rfl rfl rfl)<|.cons (o_call (collect_clone_c h17) rfl (DLeL.refl _) rfl)<|.cons (t_build RRec.dv ([v18] : List RRec) rfl rfl rfl rfl rfl rfl rfl)<|.cons (t_append [v18] h19 rfl rfl rfl (Src.row rfl))<|.cons (o_fieldAddr rfl)<|.cons (o_store_s rfl rfl rfl rfl rfl)<|.nil _) ?_
     refine ar (.cons (o_add rfl rfl (inR_i64 hk5 hx5))<|.cons (o_move rfl)<|.nil _) ?_
     obtain rfl:=Option.some.inj hM
     exact ⟨((a6++[v18]),a7,a8,a9),rfl,(Imp.of (fun i=>bif Nat.beq i 10003 then 29 else i) (.cons rfl (DLe.refl _) (.cons rfl (DLe.refl _) (.cons rfl (DLe.refl _) (.cons rfl (DLe.refl _) (.cons rfl (DLe.refl _) (.cons rfl (DLe.succ _ _) .nil)))))) (.cons rfl (.refl _) (.cons rfl (.refl _) (.cons rfl (.refl _) (.cons rfl (.refl _) .nil)))) rfl rfl rfl)⟩
    ·replace hM:=(of_if hM).2 h16
     refine a_seq (ar (.cons (o_int rfl rfl rfl)<|.cons (o_assign rfl)<|.nil _) ?_)
     refine a_cond _ rfl (fun h20=>?_) (fun h20=>?_)
     ·replace hM:=(of_if hM).1 h20
      obtain ⟨h21,hM⟩ := of_chk hM
      refine ar (.cons (o_fieldAddr rfl)<|.cons (o_load_s rfl rfl rfl)<|.cons (o_fieldAddr rfl)<|.cons (o_load_s rfl rfl rfl)<|.cons (o_fieldAddr rfl)<|.cons (o_load_s rfl rfl rfl)<|.cons (o_fieldAddr rfl)<|.cons (o_load_s rfl rfl rfl)<|.cons (o_int rfl rfl rfl)<|.cons (o_build rfl rfl rfl)<|.cons (t_build CSpan.dv ([(CSpan.mk v14.gSeq (IntKind.wrap .u64 (v14.gSeq + v14.gCount)))] : List CSpan) rfl rfl rfl rfl rfl rfl rfl)<|.cons (t_append [(CSpan.mk v14.gSeq (IntKind.wrap .u64 (v14.gSeq + v14.gCount)))] h21 rfl rfl rfl (Src.row rfl))<|.cons (o_fieldAddr rfl)<|.cons (o_store_s rfl rfl rfl rfl rfl)<|.nil _) ?_
      refine ar (.cons (o_add rfl rfl (inR_i64 hk5 hx5))<|.cons (o_move rfl)<|.nil _) ?_
      obtain rfl:=Option.some.inj hM
      exact ⟨(a6,(a7++[(CSpan.mk v14.gSeq (IntKind.wrap .u64 (v14.gSeq + v14.gCount)))]),a8,a9),rfl,(Imp.of (fun i=>bif Nat.beq i 10004 then 44 else i) (.cons rfl (DLe.refl _) (.cons rfl (DLe.refl _) (.cons rfl (DLe.refl _) (.cons rfl (DLe.refl _) (.cons rfl (DLe.refl _) (.cons rfl (DLe.succ _ _) .nil)))))) (.cons rfl (.refl _) (.cons rfl (.refl _) (.cons rfl (.refl _) (.cons rfl (.refl _) .nil)))) rfl rfl rfl)⟩
     ·replace hM:=(of_if hM).2 h20
      refine a_seq (ar (.cons (o_int rfl rfl rfl)<|.cons (o_assign rfl)<|.nil _) ?_)
      refine a_cond _ rfl (fun h22=>?_) (fun h22=>?_)
      ·replace hM:=(of_if hM).1 h22
       refine a_seq (a_seq (ar (.cons (o_fieldAddr rfl)<|.cons (o_load_s rfl rfl rfl)<|.cons (o_move rfl)<|.cons (o_guardG .bT rfl rfl (fun hb=>(.keep .nil)) (fun hb=>o_fieldAddr rfl))<|.cons (o_guardG .bT rfl rfl (fun hb=>(.strip rfl hb .nil)) (fun hb=>o_load_s rfl rfl rfl))<|.cons (o_guardG .bT rfl rfl (fun hb=>(.keep .nil)) (fun hb=>o_fieldAddr rfl))<|.cons (o_guardG .bT rfl rfl (fun hb=>(.strip rfl hb .nil)) (fun hb=>o_load_s rfl rfl rfl))<|.cons (o_guardG .bT rfl rfl (fun hb=>(.strip rfl hb (.strip rfl hb .nil))) (fun hb=>o_int rfl rfl rfl))<|.cons (o_and rfl rfl)<|.nil _) ?_))
       refine a_cond _ rfl (fun h23=>?_) (fun h23=>?_)
       ·replace hM:=(of_if hM).1 h23
        refine a_seq (ar (.cons (o_build rfl rfl rfl)<|.cons (o_store rfl rfl rfl rfl rfl rfl rfl)<|.cons (o_assign rfl)<|.nil _) ?_)
        obtain rfl:=Option.some.inj hM
        obtain rfl:=hE10 _ rfl
        obtain rfl:=Option.some.inj hK10
        exact a_ret (a_post (.r2 (.cell rfl rfl (.row _ CRow.h (Nat.le_of_ble_eq_true rfl) rfl)) (.tmp rfl)) (DLe.tup (.cons (DLe.agg (.cons (DLe.nils _) (.cons (DLe.nils _) (.cons (DLe.refl _) (.cons (DLe.refl _) .nil))))) (.cons (DLe.refl _) .nil))) PostOk.nil.spec)
       ·replace hM:=(of_if hM).2 h23
        refine a_skip (ad mixed (.cons (o_fieldAddr rfl)<|.cons (o_load_s rfl rfl rfl)<|.cons (o_fieldAddr rfl)<|.cons (o_store_s rfl rfl rfl rfl rfl)<|.cons (o_fieldAddr rfl)<|.cons (o_store_s rfl rfl rfl rfl rfl)<|.nil _) ?_)
        refine ar (.cons (o_add rfl rfl (inR_i64 hk5 hx5))<|.cons (o_move rfl)<|.nil _) ?_
        obtain rfl:=Option.some.inj hM
        exact ⟨(a6,a7,true,v14.gSeq),rfl,(Imp.of (fun i=>i) (.cons rfl (DLe.refl _) (.cons rfl (DLe.refl _) (.cons rfl (DLe.refl _) (.cons rfl (DLe.refl _) (.cons rfl (DLe.refl _) (.cons rfl (DLe.succ _ _) .nil)))))) (.cons rfl (.refl _) (.cons rfl (.refl _) (.cons rfl (.refl _) (.cons rfl (.refl _) .nil)))) rfl rfl rfl)⟩
      ·replace hM:=(of_if hM).2 h22
       refine a_skip (ar (.cons (o_add rfl rfl (inR_i64 hk5 hx5))<|.cons (o_move rfl)<|.nil _) ?_)
       obtain rfl:=Option.some.inj hM
       exact ⟨(a6,a7,a8,a9),rfl,(Imp.of (fun i=>i) (.cons rfl (DLe.refl _) (.cons rfl (DLe.refl _) (.cons rfl (DLe.refl _) (.cons rfl (DLe.refl _) (.cons rfl (DLe.refl _) (.cons rfl (DLe.succ _ _) .nil)))))) (.cons rfl (.refl _) (.cons rfl (.refl _) (.cons rfl (.refl _) (.cons rfl (.refl _) .nil)))) rfl rfl rfl)⟩
  ·rintro k5 ⟨a6,a7,a8,a9⟩ hk5 hx5 rfl
   refine a_seq (ar (.cons (o_int rfl rfl rfl)<|.nil _) ?_)
   refine a_seq ?_
   refine a_cond _ rfl (fun c=>absurd (of_decide_eq_true c) (Int.not_lt.2 hk5)) (fun _=>?_)
   refine a_exit ?_
   exact ⟨(a6,a7,a8,a9),hK10,(Imp.sh (fun i=>bif Nat.beq i 10002 then 10004 else bif Nat.beq i 10001 then 10003 else i) rfl rfl rfl rfl rfl rfl)⟩
 ·rintro ⟨a1,a2,a3,a4⟩ hM
  replace hM : CPartOf_K1 a1 a2 a3 a4 = some r:=hM
  unfold CPartOf_K1 at hM
  refine a_seq (ar (.cons (o_load_r rfl rfl rfl rfl)<|.cons (o_store rfl rfl rfl rfl rfl rfl rfl)<|.cons (o_assign rfl)<|.nil _) ?_)
  obtain rfl:=Option.some.inj hM
  refine a_imp (Imp.freeze (id:=10001) rfl) ?_
  refine a_imp (Imp.freeze (id:=10002) rfl) ?_
  exact a_ret (a_post (.r2 (.cell rfl rfl (.row _ CRow.h (Nat.le_of_ble_eq_true rfl) rfl)) (.tmp rfl)) (DLe.refl _) PostOk.nil.spec)
end Go.Proofs.YtcgfgilddjkpkaaGreat
