/-
  What the claim leans on, part 5.
-/
import Derived.Test.YtcgfgilddjkpkaaGreatGNi4
import Derived.ProofKit
import Derived.OpenShut
import Derived.JoinedCond
set_option maxHeartbeats 1000000
set_option maxRecDepth 100000
set_option linter.unusedVariables false
set_option linter.unusedSimpArgs false
namespace Go.Proofs.YtcgfgilddjkpkaaGreat
open Go.ChangeShapes Go.WideShapes Go.ChangeAt Go.RowKit
section
variable {H : Type} {enc : TypeId × Value→H} {P : Program}
theorem trodAll_below (hl : laidOutB P = true) {W W' : World} (hb : Ext W W') : ∀ (ts : List TypeId) (vs : List Value) (ds : List (DataW H)) (ps : List MemPlace),
  (∀ t∈ts,P.readableRec t = true∧t < P.types.size)→DataW.TrodAll enc P W 0 (fun _=>true) true ts vs ds ps→(∀ x∈ps,x.block < W.heap.size) →
  DataW.TrodAll enc P W' 0 (fun b=>decide (b < W.heap.size)) true ts vs ds ps
 | [],vs,ds,ps,_,h,_=>by
  obtain ⟨rfl,rfl,rfl⟩ := trodAll_nil h
  exact trodAll_mk0
 | t :: ts,vs,ds,ps,hr,h,hlt=>by
  obtain ⟨v0,vs0,d0,ds0,p0,q0,rfl,rfl,rfl,h0,r0⟩ := trodAll_cons h
  have h1:=Below.trod hl (hr t (by simp)).1 (hr t (by simp)).2 h0 hb.below (fun x hx=>hlt x (by simp [hx]))
  have h2:=trodAll_below hl hb ts vs0 ds0 q0 (fun t' ht'=>hr t' (by simp [ht'])) r0 (fun x hx=>hlt x (by simp [hx]))
  exact trodAll_cons_mk h1 h2
theorem law_post {f : Func} {s : ChangeSpec} {W W' : World} {args : Array Value} {ds : List (DataW H)} {before : List MemPlace} {tb : TypeId} (hl : laidOutB P = true)
  (hW : DataW.Whole enc P f.params.toList s.vars false W args.toList ds [] before) (hvars : s.vars = [])
  (hres : f.resultTypes = #[tb]) (hbool : P.underlying tb = some .bool) (hr : ∀ t∈f.params.toList,P.readableRec t = true∧t < P.types.size)
  (hf : s.fn H ds = { results:=[.lit (.bool true)],args:=ds }) (hb : Ext W W') :
  s.post enc P f false true false false W args (.bool true) W' := by
 have hW' := hW
 obtain ⟨p,q,hA,hV,rfl,hfz,hnd⟩ := hW
 rw [hvars] at hV
 obtain ⟨_,rfl⟩ := trodVars_none hV
 have hlt : ∀ x∈p,x.block < W.heap.size:=fun x hx=>hW'.lt x (by simp [hx])
 refine ⟨ds,[],p++[],[],p,[],hW',?_,?_,?_,hb.below.frame _,fun h=>by cases h⟩
 ·rw [List.append_nil,hf,hres]
  exact trodAll_cons_mk (shut_bool hbool true) trodAll_mk0
 ·rw [List.append_nil,hf]
  exact trodAll_below hl hb _ _ _ _ hr hA hlt
 ·rw [List.append_nil,hf,hvars]; rfl
end
end Go.Proofs.YtcgfgilddjkpkaaGreat
namespace Go.Proofs.YtcgfgilddjkpkaaGreat
open Go.RowKit
/-! models -/
def idx {α : Type} (xs : List α) (i : Int) : Option α:=if 0≤i then xs[i.toNat]? else none
theorem idx_get {α : Type} {xs : List α} {i : Int} {x : α} (h : idx xs i = some x) : 0≤i∧xs[i.toNat]? = some x:=by
 unfold idx at h
 split at h
 ·exact ⟨by assumption,h⟩
 ·cases h
def chk {α : Type} (p : Prop) [Decidable p] (k : Option α) : Option α:=if p then k else none
theorem of_chk {α : Type} {p : Prop} [Decidable p] {k : Option α} {r : α} (h : chk p k = some r) : p∧k = some r:=by
 unfold chk at h
 split at h
 ·exact ⟨by assumption,h⟩
 ·cases h
theorem of_bind {α β : Type} {a : Option α} {f : α→Option β} {r : β} (h : a.bind f = some r) : ∃ x,a = some x∧f x = some r:=by
 cases a with
 | none=>cases h
 | some x=>exact ⟨x,rfl,h⟩
theorem of_if {α : Type} {b : Bool} {x y : Option α} {r : α} (h : (if b = true then x else y) = some r) : (b = true→x = some r)∧(b = false→y = some r) :=
 ⟨fun e=>by rw [if_pos e] at h; exact h,fun e=>by rw [if_neg (by rw [e]; decide)] at h; exact h⟩
def gb {α : Type} (b : Bool) (d : α) (a : Option α) : Option α:=if b = true then a else some d
theorem of_gb {α : Type} {b : Bool} {d x : α} {a : Option α} (h : gb b d a = some x) : b = true→a = some x:=fun e=>by
 unfold gb at h; rw [if_pos e] at h; exact h
inductive Ctl (S E : Type) where
 | next (s : S)
 | done (e : E)
def whileGo {S E : Type} (step : S→Option (Ctl S E)) : Nat→S→Option E
 | 0,_=>none
 | n + 1,s=>(step s).bind fun
  | .next s'=>whileGo step n s'
  | .done e=>some e
@[irreducible] def whileM {S E : Type} (step : S→Option (Ctl S E)) (s : S) : Option E:=whileGo step 1180591620717411303424 s
def forGo {S E : Type} (body : Nat→S→Option (Ctl S E)) : Nat→Nat→S→Option (Ctl S E)
 | 0,_,s=>some (.next s)
 | m + 1,k,s=>(body k s).bind fun
  | .next s'=>forGo body m (k + 1) s'
  | .done e=>some (.done e)
def forM' {S E : Type} (mx n : Int) (body : Nat→S→Option (Ctl S E)) (s : S) : Option (Ctl S E):=chk (n≤mx) (forGo body n.toNat 0 s)
def foldGo {S : Type} (body : Nat→S→Option S) : Nat→Nat→S→Option S
 | 0,_,s=>some s
 | m + 1,k,s=>(body k s).bind fun s'=>foldGo body m (k + 1) s'
def foldM' {S : Type} (mx n : Int) (body : Nat→S→Option S) (s : S) : Option S:=chk (n≤mx) (foldGo body n.toNat 0 s)
def arr {α : Type} (d : α) (l : List α) : Nat→α:=fun i=>l.getD i d
def upd {α : Type} (f : Nat→α) (i : Nat) (v : α) : Nat→α:=fun j=>if j = i then v else f j
def slc {α : Type} (xs : List α) (lo hi : Int) : List α:=(xs.take hi.toNat).drop lo.toNat
theorem toNat_of {n : Int} (h : 0≤n) : n = ((n.toNat : Nat) : Int):=by omega
/-! loops -/
section
variable {P : Program} {nn : Nat} {Q : Exit→AS→Prop} {σ : AS} {c : Code} {S E : Type}
def QW (St : S→AS) (t : Ctl S E) (Q : Exit→AS→Prop) : Exit→AS→Prop
 | .normal,σ=>∃ s',t = .next s'∧Imp σ (St s')
 | e,σ=>Q e σ
theorem a_while {step : S→Option (Ctl S E)} {e : E} (St : S→AS) (s0 : S) (hM : whileM step s0 = some e) (h0 : Imp σ (St s0))
  (round : ∀ s t,step s = some t→(∀ e',t = .done e'→e' = e)→awp P nn c (QW St t Q) (St s)) : awp P nn (.loop c) Q σ:=by
 have hM' : whileGo step 1180591620717411303424 s0 = some e:=by unfold whileM at hM; exact hM
 refine a_loop (fun x : S × Nat=>St x.1) (fun x=>whileGo step x.2 x.1 = some e) (fun x=>x.2) (s0,1180591620717411303424) h0 hM' ?_
 rintro ⟨s,m⟩ hI
 cases m with
 | zero=>cases hI
 | succ m=>
  obtain ⟨t,ht,hk⟩ := of_bind (show (step s).bind _ = some e from hI)
  refine a_mono (round s t ht (fun e' he=>?_)) (fun ex σ' hq=>?_)
  ·subst he; injection hk
  ·cases ex with
   | normal=>
    obtain ⟨s',rfl,hi⟩ := hq
    exact ⟨(s',m),hk,Nat.lt_succ_self m,hi⟩
   | _=>exact hq
def QF (St : Nat→S→AS) (k : Nat) (t : Ctl S E) (Q : Exit→AS→Prop) : Exit→AS→Prop
 | .normal,σ=>∃ s',t = .next s'∧Imp σ (St (k + 1) s')
 | e,σ=>Q e σ
def QEnd (Q : Exit→AS→Prop) : Exit→AS→Prop
 | .normal,_=>False
 | e,σ=>Q e σ
theorem a_for {body : Nat→S→Option (Ctl S E)} {mx n : Int} {t : Ctl S E} (St : Nat→S→AS) (s0 : S) (hM : forM' mx n body s0 = some t) (h0 : Imp σ (St 0 s0))
  (r1 : ∀ (k : Nat) (s : S) (t' : Ctl S E),(k : Int) < n→n≤mx→body k s = some t'→(∀ e',t' = .done e'→t = .done e')→awp P nn c (QF St k t' Q) (St k s))
  (r2 : ∀ (k : Nat) (s : S),n≤(k : Int)→n≤mx→t = .next s→awp P nn c (QEnd Q) (St k s)) : awp P nn (.loop c) Q σ:=by
 obtain ⟨hmx,hM⟩ := of_chk (show chk (n≤mx) _ = some t from hM)
 refine a_loop (fun x : Nat × S=>St x.1 x.2) (fun x=>forGo body (n.toNat - x.1) x.1 x.2 = some t) (fun x=>n.toNat - x.1) (0,s0) h0 hM ?_
 rintro ⟨k,s⟩ hI
 by_cases hk : (k : Int) < n
 ·have e : n.toNat - k = (n.toNat - (k + 1)) + 1:=by omega
  simp only [] at hI
  rw [e] at hI
  obtain ⟨t',ht,hk'⟩ := of_bind (show (body k s).bind _ = some t from hI)
  refine a_mono (r1 k s t' hk hmx ht (fun e' he=>?_)) (fun ex σ' hq=>?_)
  ·subst he; injection hk' with hk'; exact hk'.symm
  ·cases ex with
   | normal=>
    obtain ⟨s',rfl,hi⟩ := hq
    exact ⟨(k + 1,s'),hk',by simp only []; omega,hi⟩
   | _=>exact hq
 ·have e : n.toNat - k = 0:=by omega
  simp only [] at hI
  rw [e] at hI
  injection hI with hI
  refine a_mono (r2 k s (by omega) hmx hI.symm) (fun ex σ' hq=>?_)
  cases ex with
  | normal=>exact hq.elim
  | _=>exact hq
def QFo (St : Nat→S→AS) (k : Nat) (s' : S) (Q : Exit→AS→Prop) : Exit→AS→Prop
 | .normal,σ=>Imp σ (St (k + 1) s')
 | e,σ=>Q e σ
theorem a_fold {body : Nat→S→Option S} {mx n : Int} {t : S} (St : Nat→S→AS) (s0 : S) (hM : foldM' mx n body s0 = some t) (h0 : Imp σ (St 0 s0))
  (r1 : ∀ (k : Nat) (s s' : S),(k : Int) < n→n≤mx→body k s = some s'→awp P nn c (QFo St k s' Q) (St k s))
  (r2 : ∀ (k : Nat),n≤(k : Int)→n≤mx→awp P nn c (QEnd Q) (St k t)) : awp P nn (.loop c) Q σ:=by
 obtain ⟨hmx,hM⟩ := of_chk (show chk (n≤mx) _ = some t from hM)
 refine a_loop (fun x : Nat × S=>St x.1 x.2) (fun x=>foldGo body (n.toNat - x.1) x.1 x.2 = some t) (fun x=>n.toNat - x.1) (0,s0) h0 hM ?_
 rintro ⟨k,s⟩ hI
 by_cases hk : (k : Int) < n
 ·have e : n.toNat - k = (n.toNat - (k + 1)) + 1:=by omega
  simp only [] at hI
  rw [e] at hI
  obtain ⟨t',ht,hk'⟩ := of_bind (show (body k s).bind _ = some t from hI)
  refine a_mono (r1 k s t' hk hmx ht) (fun ex σ' hq=>?_)
  cases ex with
  | normal=>exact ⟨(k + 1,t'),hk',by simp only []; omega,hq⟩
  | _=>exact hq
 ·have e : n.toNat - k = 0:=by omega
  simp only [] at hI
  rw [e] at hI
  injection hI with hI
  subst hI
  refine a_mono (r2 k (by omega) hmx) (fun ex σ' hq=>?_)
  cases ex with
  | normal=>exact hq.elim
  | _=>exact hq
end
theorem inR_i64 {k : Nat} {n : Int} (h : (k : Int) < n) (hx : n≤9223372036854775807) : InR .i64 ((k : Int) + 1):=by simp only [InR]; omega
def encSl {α : Type} (sz : Nat) (f : α→DV) (xs : List α) : DV:=.sl sz (xs.map f)
theorem DLe.succ (k : IntKind) (n : Nat) : DLe (.int k ((n : Int) + 1)) (.int k ((n + 1 : Nat) : Int)):=DLe.of_eq (by simp)
theorem Imp.nilC {σ : AS} {id rid j : Nat} {T : TypeId} {ds : List DV} (E sz : Nat) (hh : hget σ.heap id = some (.blk T ds)) (hj : ds[j]? = some .nils) (hi : memB rid σ.used = false) (hne : Nat.beq rid id = false) :
  Imp σ ⟨σ.env,(id,some (.blk T (ds.set j (.row rid)))) :: (rid,some (.row E sz [])) :: σ.heap,rid :: σ.used⟩ := fun C F γ a w hs=>by
 have hn : rid ∉ σ.used:=fun h=>by
  have : memB rid σ.used = true:=List.any_eq_true.2 ⟨rid,h,by simp⟩
  rw [hi] at this; cases this
 have hrid : rid≠id:=fun e=>by subst e; simp at hne
 have hle:=Gam.up_le (.slice none 0 0) (hs.ws.fresh hn)
 have W:=hs.ws.add hn (e0:=.row E sz []) (g:=.slice none 0 0) ⟨[],own_nil _ _ _ _,by simp [RsE]⟩ (fun b hb=>by simp [Value.pblk] at hb)
 have hh' : hget ((rid,some (.row E sz [])) :: σ.heap) id = some (.blk T ds):=by rw [hget_cons,if_neg hrid]; exact hh
 obtain ⟨g,hg,b,cs,rfl,hb,hl⟩ := W.ent id _ hh'
 have hl' : RsL F (γ.up rid (.slice none 0 0)) (ds.set j (.row rid)) cs.toList:=by
  refine RsL.of_get (by rw [List.length_set]; exact hl.len) (fun i d hd=>?_)
  rw [List.getElem?_set] at hd
  by_cases hij : j = i
  ·subst hij
   obtain ⟨v,q1,q2,q3⟩ := hl.get hj
   have hjl : j < ds.length:=(List.getElem?_eq_some_iff.1 hj).1
   simp [hjl] at hd
   subst hd
   refine ⟨v,q1,q2,?_⟩
   simp only [Rs] at q3 ⊢
   rw [q3]; exact Gam.up_same _ _ _
  ·rw [if_neg hij] at hd; exact hl.get hd
 have W2:=W.put (id0:=id) (e0:=.blk T (ds.set j (.row rid))) hg ⟨b,cs,rfl,hb,hl'⟩ (fun b' hb'=>by
  have ho:=W.own id _ _ b' hh' hg hb'
  exact ⟨ho.1,ho.2,fun i e g hne hi hgi hbi=>hne (W.apart i id e _ g _ b' hi hh' hgi hg hbi hb')⟩)
 exact ⟨F,_,fun t' d hd=>⟨(hs.env t' d hd).1,(hs.env t' d hd).2.mono (FLe.refl _) hle⟩,W2,hs.size,hs.defers⟩
/-! rules over typed lists -/
section
variable {P : Program} {ops : Array Oper} {σ : AS} {t : Nat} {ty : TypeId} {pos : String} {af : Array Edge}
theorem OpG.cast {o : Oper} {rt rh : List Nat} {E E' : Eff} (h : OpG P ops o rt rh σ E) (e : E = E') : OpG P ops o rt rh σ E' := e ▸ h
theorem t_len {T e : TypeId} {sz0 by0 : Nat} {zd : DV} [hT : CSl P T e sz0 by0 zd] {x : Operand} {sz : Nat} {α : Type} {xs : List α} {f : α→DV} (hx : ev σ.env x = some (.sl sz (xs.map f))) : OpG P ops ⟨some t,.call ⟨.builtin .len,#[x],#[T]⟩,ty,pos,af,none⟩ (tm x) [] σ ⟨[(t,.int .i64 xs.length)],[],[]⟩ :=
 (o_len hx).cast (by rw [List.length_map])
theorem t_len_r {T e : TypeId} {sz0 by0 : Nat} {zd : DV} [hT : CSl P T e sz0 by0 zd] {x : Operand} {id E sz : Nat} {α : Type} {xs : List α} {f : α→DV} (hx : ev σ.env x = some (.row id)) (hh : hget σ.heap id = some (.row E sz (xs.map f))) : OpG P ops ⟨some t,.call ⟨.builtin .len,#[x],#[T]⟩,ty,pos,af,none⟩ (tm x) [id] σ ⟨[(t,.int .i64 xs.length)],[],[]⟩ :=
 (o_len_r hx hh).cast (by rw [List.length_map])
theorem idxE_map {α : Type} {xs : List α} {f : α→DV} {n : Int} {x : α} (h : idx xs n = some x) : (xs.map f)[n.toNat]? = some (f x):=by
 rw [List.getElem?_map,(idx_get h).2]; rfl
theorem idxE_lt {α β : Type} {xs : List α} {f : α→β} {n : Int} {x : α} (h : idx xs n = some x) : n.toNat < (xs.map f).length:=by
 rw [List.length_map]
 exact (List.getElem?_eq_some_iff.1 (idx_get h).2).1
theorem t_index {T e : TypeId} {sz by0 : Nat} {zd : DV} [hT : CSl P T e sz by0 zd] {x y : Operand} {k : IntKind} {n : Int} {α : Type} {xs : List α} {f : α→DV} {a : α} (h : idx xs n = some a) (hx : ev σ.env x = some (.sl sz (xs.map f))) (hy : ev σ.env y = some (.int k n)) (hf : (f a).flat = true) :
  OpG P ops ⟨some t,.indexAddr T x y,ty,pos,af,none⟩ (tm x++tm y) [] σ ⟨[(t,.eptr (f a).cs)],[],[]⟩ :=
 o_indexAddr n.toNat hx hy (toNat_of (idx_get h).1) (idxE_map h) hf
theorem t_index_r {T e : TypeId} {sz by0 : Nat} {zd : DV} [hT : CSl P T e sz by0 zd] {x y : Operand} {id E : Nat} {k : IntKind} {n : Int} {α : Type} {xs : List α} {f : α→DV} {a : α} (h : idx xs n = some a) (hx : ev σ.env x = some (.row id)) (hh : hget σ.heap id = some (.row E sz (xs.map f))) (hy : ev σ.env y = some (.int k n)) :
  OpG P ops ⟨some t,.indexAddr T x y,ty,pos,af,none⟩ (tm x++tm y) [id] σ ⟨[(t,.rp id n.toNat sz 0)],[],[]⟩ :=
 o_indexAddr_r n.toNat hx hh hy (toNat_of (idx_get h).1) (idxE_lt h)
theorem t_load_ps {T' : TypeId} {x : Operand} {id sz o E : Nat} {n : Int} {α : Type} {xs : List α} {f : α→DV} {a : α} {r : DV} [hT : CSc P T'] (h : idx xs n = some a) (hx : ev σ.env x = some (.rp id n.toNat sz o)) (hh : hget σ.heap id = some (.row E sz (xs.map f))) (hf : (f a).flat = true) (hl : (f a).cs[o]? = some r) :
  OpG P ops ⟨some t,.load T' x,ty,pos,af,none⟩ (tm x) [id] σ ⟨[(t,r)],[],[]⟩ := o_load_ps hx hh (idxE_map h) hf hl
theorem t_load_pr {T' : TypeId} {x : Operand} {id sz o E m : Nat} {n : Int} {α : Type} {xs : List α} {f : α→DV} {a : α} {ds' : List DV} [hT : CRow P T' m] (h : idx xs n = some a) (hx : ev σ.env x = some (.rp id n.toNat sz o)) (hh : hget σ.heap id = some (.row E sz (xs.map f))) (hf : (f a).flat = true) (hn : Nat.ble m ((f a).cs.drop o).length = true) (hl : ((f a).cs.drop o).take m = ds') :
  OpG P ops ⟨some t,.load T' x,ty,pos,af,none⟩ (tm x) [id] σ ⟨[(t,.agg ds')],[],[]⟩ := o_load_pr hx hh (idxE_map h) hf hn hl
theorem t_store_p {T' : TypeId} {x y : Operand} {id sz o E m : Nat} {n : Int} {α : Type} {xs : List α} {f : α→DV} {a : α} (a' : α) {dn : DV} [hT : CSize P T' m] (h : idx xs n = some a) (hx : ev σ.env x = some (.rp id n.toNat sz o)) (hy : ev σ.env y = some dn) (hh : hget σ.heap id = some (.row E sz (xs.map f))) (hf : (f a).flat = true) (hfn : dn.flat = true) (hn : Nat.beq m dn.cs.length = true)
  (hids : dn.ids = []) (hl : Nat.ble (o + m) sz = true) (he : (f a').flat = true) (hlay : layD (f a).cs o dn.cs = (f a').cs) (hsz : Nat.blt 0 m = true) :
  OpG P ops ⟨none,.store T' x y,ty,pos,af,none⟩ (tm x++tm y) [id] σ ⟨[],[(id,some (.row E sz ((xs.set n.toNat a').map f)))],[]⟩ :=
 (o_store_p hx hy hh (idxE_map h) hf hfn hn hids hl he hlay (Nat.blt_eq ▸ hsz)).cast (by rw [List.map_set])
def apOk (bytes n : Nat) : Prop:=n * bytes≤140737488355328∧n≤140737488355328
instance (b n : Nat) : Decidable (apOk b n):=inferInstanceAs (Decidable (_∧_))
theorem t_append {T e : TypeId} {sz bytes : Nat} {zd : DV} [hT : CSl P T e sz bytes zd] {x y : Operand} {id : Nat} {α : Type} {f : α→DV} {xs : List α} (ys : List α) {dy : DV} {rh : List Nat} (hb : apOk bytes (xs.length + ys.length)) (hx : ev σ.env x = some (.row id)) (hh : hget σ.heap id = some (.row e sz (xs.map f))) (hy : ev σ.env y = some dy) (hS : Src σ sz dy (ys.map f) rh) :
  OpG P ops ⟨some t,.call ⟨.builtin .append,#[x,y],#[T,T]⟩,ty,pos,af,none⟩ (tm x++tm y) (id :: rh) σ ⟨[(t,.row t)],[(t,some (.row e sz ((xs++ys).map f))),(id,none)],[t]⟩ :=
 (o_append hx hh hy hS (by rw [List.length_map,List.length_map]; exact hb)).cast (by rw [List.map_append])
theorem t_append_n {T e : TypeId} {sz bytes : Nat} {zd : DV} [hT : CSl P T e sz bytes zd] {x y : Operand} {α : Type} (f : α→DV) (ys : List α) {dy : DV} {rh : List Nat} (hb : apOk bytes ys.length) (hx : ev σ.env x = some .nils) (hy : ev σ.env y = some dy) (hS : Src σ sz dy (ys.map f) rh) :
  OpG P ops ⟨some t,.call ⟨.builtin .append,#[x,y],#[T,T]⟩,ty,pos,af,none⟩ (tm x++tm y) rh σ ⟨[(t,.row t)],[(t,some (.row e sz (ys.map f)))],[t]⟩ :=
 o_append_n hx hy hS (by rw [List.length_map]; exact hb)
theorem t_build {T e : TypeId} {sz bytes : Nat} {zd : DV} [hT : CSl P T e sz bytes zd] {n : Nat} {ps : Array (Nat × Operand)} {dps : List (Nat × DV)} {α : Type} (f : α→DV) (ys : List α) (hz : (zd.cs.all DV.one) = true) (hn : Nat.ble (n * sz) 16777216 = true) (he : evP σ.env ps.toList = some dps) (hk : Nat.beq dps.length n = true)
  (hf : fillD ((List.range n).map fun i=>(i * sz,sz)) (List.replicate n zd.cs).flatten dps = some ((dps.map (·.2)).flatMap DV.cs)) (hok : (dps.map (·.2)).all (elOk sz) = true) (hy : dps.map (·.2) = ys.map f) :
  OpG P ops ⟨some t,.buildSlice T n ps,ty,pos,af,none⟩ (ps.toList.flatMap fun p=>tm p.2) [] σ ⟨[(t,.row t)],[(t,some (.row e sz (ys.map f)))],[t]⟩ :=
 (o_buildSlice hz hn he hk hf hok).cast (by rw [hy])
def mkOk (bytes : Nat) (l c : Int) : Prop:=0≤l∧l≤c∧bytes * c≤281474976710656∧c≤281474976710656
instance (b : Nat) (l c : Int) : Decidable (mkOk b l c):=inferInstanceAs (Decidable (_∧_))
theorem t_make {T e : TypeId} {sz bytes : Nat} {zd : DV} [hT : CSl P T e sz bytes zd] {x y : Operand} {k k' : IntKind} {l c : Int} {α : Type} (f : α→DV) (z : α) (h : mkOk bytes l c) (hx : ev σ.env x = some (.int k l)) (hy : ev σ.env y = some (.int k' c)) (hz : (zd.cs.all DV.one) = true) (hf : f z = zd) :
  OpG P ops ⟨some t,.makeSlice T x y,ty,pos,af,none⟩ (tm x++tm y) [] σ ⟨[(t,.row t)],[(t,some (.row e sz ((List.replicate l.toNat z).map f)))],[t]⟩ := by
 have h' := h
 unfold mkOk at h'
 obtain ⟨h1,h2,h3,h4⟩ := h'
 refine (o_make l.toNat c.toNat hx hy (by omega) (by omega) (by omega) ⟨?_,by omega⟩ hz).cast (by rw [List.map_replicate,hf])
 have : ((bytes * c.toNat : Nat) : Int) = bytes * c:=by rw [Int.natCast_mul,← toNat_of (by omega)]
 omega
def slOk (n : Nat) (lo hi : Int) : Prop:=0≤lo∧lo≤hi∧hi≤n
instance (n : Nat) (l c : Int) : Decidable (slOk n l c):=inferInstanceAs (Decidable (_∧_))
theorem t_slice {T e : TypeId} {sz by0 : Nat} {zd : DV} [hT : CSl P T e sz by0 zd] {x a b : Operand} {k k' : IntKind} {lo hi : Int} {α : Type} {xs : List α} {f : α→DV} (h : slOk xs.length lo hi) (hx : ev σ.env x = some (.sl sz (xs.map f))) (ha : ev σ.env a = some (.int k lo)) (hb : ev σ.env b = some (.int k' hi)) :
  OpG P ops ⟨some t,.slice T x (some a) (some b) none,ty,pos,af,none⟩ (tm x++tmO (some a)++tmO (some b)) [] σ ⟨[(t,.sl sz ((slc xs lo hi).map f))],[],[]⟩ := by
 have h' := h
 unfold slOk at h'
 refine (o_slice lo.toNat hi.toNat hx (Bd.at ha (by omega)) (Bd.at hb (by omega)) (by omega) (by rw [List.length_map]; omega)).cast ?_
 rw [slc,List.map_drop,List.map_take]
theorem t_slice_l {T e : TypeId} {sz by0 : Nat} {zd : DV} [hT : CSl P T e sz by0 zd] {x a : Operand} {k : IntKind} {lo : Int} {α : Type} {xs : List α} {f : α→DV} (h : slOk xs.length lo xs.length) (hx : ev σ.env x = some (.sl sz (xs.map f))) (ha : ev σ.env a = some (.int k lo)) :
  OpG P ops ⟨some t,.slice T x (some a) none none,ty,pos,af,none⟩ (tm x++tmO (some a)++tmO none) [] σ ⟨[(t,.sl sz ((xs.drop lo.toNat).map f))],[],[]⟩ := by
 have h' := h
 unfold slOk at h'
 refine (o_slice lo.toNat (xs.map f).length hx (Bd.at ha (by omega)) Bd.no (by rw [List.length_map]; omega) (Nat.le_refl _)).cast ?_
 rw [List.take_length,List.map_drop]
theorem t_slice_h {T e : TypeId} {sz by0 : Nat} {zd : DV} [hT : CSl P T e sz by0 zd] {x b : Operand} {k' : IntKind} {hi : Int} {α : Type} {xs : List α} {f : α→DV} (h : slOk xs.length 0 hi) (hx : ev σ.env x = some (.sl sz (xs.map f))) (hb : ev σ.env b = some (.int k' hi)) :
  OpG P ops ⟨some t,.slice T x none (some b) none,ty,pos,af,none⟩ (tm x++tmO none++tmO (some b)) [] σ ⟨[(t,.sl sz ((xs.take hi.toNat).map f))],[],[]⟩ := by
 have h' := h
 unfold slOk at h'
 refine (o_slice 0 hi.toNat hx Bd.no (Bd.at hb (by omega)) (by omega) (by rw [List.length_map]; omega)).cast ?_
 rw [List.drop_zero,List.map_take]
def dvOk (k : IntKind) (a b : Int) : Prop:=0≤a∧0 < b∧InR k (a / b)
instance (k : IntKind) (n : Int) : Decidable (InR k n):=by cases k <;> exact inferInstanceAs (Decidable (_∧_))
instance (k : IntKind) (a b : Int) : Decidable (dvOk k a b):=inferInstanceAs (Decidable (_∧_))
def inA (n : Nat) (i : Int) : Prop:=0≤i∧i < n
instance (n : Nat) (i : Int) : Decidable (inA n i):=inferInstanceAs (Decidable (_∧_))
inductive GOn : DV→Bool→Bool→Prop
 | bT {b : Bool} : GOn (.bool b) true b
 | bF {b : Bool} : GOn (.bool b) false (!b)
 | iT {c b : Bool} : GOn (.ifb c (.bool b)) true (c && b)
 | iF {c b : Bool} : GOn (.ifb c (.bool b)) false (c && !b)
inductive Strip2 : List (Nat × DV)→List Nat→List (Nat × DV)→Prop
 | nil {e : List (Nat × DV)} : Strip2 e [] e
 | keep {e e' : List (Nat × DV)} {t : Nat} {L : List Nat} (h : Strip2 e L e') : Strip2 e (t :: L) e'
 | strip {e e' : List (Nat × DV)} {t : Nat} {L : List Nat} {c : Bool} {d : DV} (h : look e t = some (.ifb c d)) (hc : c = true) (k : Strip2 e L e') : Strip2 e (t :: L) ((t,d) :: e')
 | half {e e' : List (Nat × DV)} {t : Nat} {L : List Nat} {c b : Bool} {d : DV} (h : look e t = some (.ifb (c && b) d)) (hc : c = true) (k : Strip2 e L e') : Strip2 e (t :: L) ((t,.ifb b d) :: e')
theorem Strip2.spec {e : List (Nat × DV)} {L : List Nat} {e' : List (Nat × DV)} (h : Strip2 e L e') : ∀ t,look e' t = look e t∨(t∈L∧∃ d0 d,look e t = some d0∧look e' t = some d∧∀ F γ v,Rs F γ d0 v↔Rs F γ d v):=by
 induction h with
 | nil=>intro t; exact .inl rfl
 | keep h ih=>
  intro t
  rcases ih t with h | ⟨h1,h2⟩
  ·exact .inl h
  ·exact .inr ⟨List.mem_cons_of_mem _ h1,h2⟩
 | @strip e' t0 L c d h hc k ih=>
  intro t
  rw [look_cons]
  by_cases ht : t0 = t
  ·subst ht; rw [if_pos rfl]
   refine .inr ⟨List.mem_cons_self ..,_,_,h,rfl,fun F γ v=>?_⟩
   subst hc
   simp only [Rs]
   exact ⟨fun k=>k.1 trivial,fun k=>⟨fun _=>k,fun e=>by cases e⟩⟩
  ·rw [if_neg ht]
   rcases ih t with h | ⟨h1,h2⟩
   ·exact .inl h
   ·exact .inr ⟨List.mem_cons_of_mem _ h1,h2⟩
 | @half e' t0 L c b d h hc k ih=>
  intro t
  rw [look_cons]
  by_cases ht : t0 = t
  ·subst ht; rw [if_pos rfl]
   refine .inr ⟨List.mem_cons_self ..,_,_,h,rfl,fun F γ v=>?_⟩
   subst hc
   simp only [Bool.true_and]
  ·rw [if_neg ht]
   rcases ih t with h | ⟨h1,h2⟩
   ·exact .inl h
   ·exact .inr ⟨List.mem_cons_of_mem _ h1,h2⟩
theorem GOn.wanted {C : Ctx} {F : FMap} {γ : Gam} {σ' : AS} {a : Act} {w : World} (hs : Sat C F γ σ' a w) {op : Op} {g gt : Nat} {want on : Bool} {gd : DV} (hG : GOn gd want on) (hgo : (ops[g]?).bind (·.dst) = some gt) (hb' : look σ'.env gt = some gd) :
  Region.wanted ⟨some t,op,ty,pos,af,some (g,want)⟩ (yielded ops a.tmps) = on:=by
 have hsl:=(hs.env gt _ hb').2
 have hlt:=(hs.env gt _ hb').1
 have hsz : gt < a.tmps.size:=by rw [hs.size]; exact hlt
 have hget : ∀ x,a.tmps.getD gt undef = x→a.tmps[gt] = x:=fun x hx=>by simpa [Array.getD,hsz] using hx
 have hW : Region.wanted ⟨some t,op,ty,pos,af,some (g,want)⟩ (yielded ops a.tmps) = (yielded ops a.tmps g == some want):=rfl
 rw [hW]
 have hy : ∀ x,a.tmps.getD gt undef = x→yielded ops a.tmps g = match x with | .bool b=>some b | _=>none:=fun x hx=>by
  unfold yielded
  rw [hgo]
  simp only [Option.bind_some]
  rw [Array.getElem?_eq_getElem hsz,hget x hx]
  cases x <;> rfl
 cases hG with
 | bT=>simp only [Rs] at hsl; rw [hy _ hsl]; cases on <;> rfl
 | bF=>simp only [Rs] at hsl; rw [hy _ hsl]; rename_i b; cases b <;> rfl
 | iT=>
  rename_i c b
  simp only [Rs] at hsl
  cases c with
  | true=>rw [hy _ (hsl.1 rfl)]; cases b <;> rfl
  | false=>rw [hy _ (hsl.2 rfl)]; rfl
 | iF=>
  rename_i c b
  simp only [Rs] at hsl
  cases c with
  | true=>rw [hy _ (hsl.1 rfl)]; cases b <;> rfl
  | false=>rw [hy _ (hsl.2 rfl)]; rfl
theorem o_guardG {op : Op} {g gt : Nat} {want on : Bool} {gd : DV} {rt rh : List Nat} {d : DV} {env' : List (Nat × DV)} (hG : GOn gd want on) (hgo : (ops[g]?).bind (·.dst) = some gt) (hb : look σ.env gt = some gd) (hS : on = true→Strip2 σ.env (tmsOf op) env')
  (h : on = true→OpG P ops ⟨some t,op,ty,pos,af,none⟩ rt rh ⟨env',σ.heap,σ.used⟩ ⟨[(t,d)],[],[]⟩) : OpG P ops ⟨some t,op,ty,pos,af,some (g,want)⟩ (gt :: tmsOf op++rt) rh σ ⟨[(t,.ifb on d)],[],[]⟩ := by
 intro C F γ σ' a w h1 h2 h3 h4 hs K Q hK
 have hb' : look σ'.env gt = some gd:=(h1 gt (by simp)).trans hb
 rw [GOn.wanted hs hG hgo hb']
 have ht : t < C.n:=h4 t rfl
 by_cases hbw : on = true
 ·rw [if_pos hbw]
  have hst:=(hS hbw).spec
  obtain ⟨L,hL⟩ : ∃ L : List (Nat × DV),∀ x,look L x = if x∈tmsOf op then look env' x else none := ⟨_,look_pick env' (tmsOf op)⟩
  have hs2 : Sat C F γ ⟨L++σ'.env,σ'.heap,σ'.used⟩ a w:=by
   refine ⟨fun x dx hx=>?_,hs.ws,hs.size,hs.defers⟩
   simp only at hx
   rw [look_append,hL] at hx
   by_cases hm : x∈tmsOf op
   ·rw [if_pos hm] at hx
    have agree : look σ'.env x = look σ.env x:=h1 x (by simp [hm])
    rcases hst x with h | ⟨_,d0,d',k1,k2,k3⟩
    ·rw [h,agree] at hx
     refine hs.env x dx (agree.trans ?_)
     cases hl : look σ.env x <;> simp_all
    ·rw [k2] at hx; simp at hx; subst hx
     have:=hs.env x _ (agree.trans k1)
     exact ⟨this.1,(k3 _ _ _).1 this.2⟩
   ·rw [if_neg hm] at hx; exact hs.env x dx (by simpa using hx)
  have key:=h hbw C F γ ⟨L++σ'.env,σ'.heap,σ'.used⟩ a w (fun x hx=>?_) h2 (by simp) h4 hs2 K Q (fun F' γ' a' w' hF hs'=>hK F' γ' a' w' hF ?_)
  ·have hw : Region.wanted ⟨some t,op,ty,pos,af,none⟩ (yielded ops a.tmps) = true:=rfl
   rw [if_pos hw] at key
   exact key
  ·simp only
   rw [look_append,hL]
   by_cases hm : x∈tmsOf op
   ·rw [if_pos hm]
    have agree : look σ'.env x = look σ.env x:=h1 x (by simp [hm])
    rcases hst x with h | ⟨_,d0,d',k1,k2,k3⟩
    ·rw [agree,← h]; cases look env' x <;> rfl
    ·rw [k2]; rfl
   ·rw [if_neg hm]
    rcases hst x with h | ⟨hx',_⟩
    ·rw [h,← h1 x (by simp [hx])]; rfl
    ·exact absurd hx' hm
  ·refine ⟨fun x dx hx=>?_,hs'.ws.congr (fun _ _ h=>h) (fun _ h=>h),hs'.size,hs'.defers⟩
   simp only [AS.app,List.singleton_append] at hx
   rw [look_cons] at hx
   by_cases hxt : t = x
   ·rw [if_pos hxt] at hx; injection hx with hx; subst hx; subst hxt
    have:=hs'.env t d (by simp only [AS.app,List.singleton_append]; rw [look_cons,if_pos rfl])
    refine ⟨this.1,?_⟩
    simp only [Rs]
    exact ⟨fun _=>this.2,fun h=>by rw [hbw] at h; cases h⟩
   ·rw [if_neg hxt] at hx
    have get : ∀ d1,(look L x).or (look σ'.env x) = some d1→x < C.n∧Rs F' γ' d1 (a'.tmps.getD x undef):=fun d1 h=>hs'.env x d1 (by simp only [AS.app,List.singleton_append]; rw [look_cons,if_neg hxt,look_append]; exact h)
    rw [hL] at get
    by_cases hm : x∈tmsOf op
    ·rw [if_pos hm] at get
     have agree : look σ'.env x = look σ.env x:=h1 x (by simp [hm])
     rcases hst x with h | ⟨_,d0,d',k1,k2,k3⟩
     ·refine get dx ?_
      rw [h,← agree,hx]; rfl
     ·rw [agree,k1] at hx; injection hx with hx; subst hx
      have:=get d' (by rw [k2]; rfl)
      exact ⟨this.1,(k3 _ _ _).2 this.2⟩
    ·rw [if_neg hm] at get
     exact get dx (by simpa using hx)
 ·have hT : on = false:=Bool.eq_false_iff.2 hbw
  subst hT
  rw [if_neg (by decide)]
  refine hK F γ _ _ (FLe.refl _) (hs.put ht ?_)
  simp only [Rs]
  exact ⟨fun h=>(by cases h),fun _=>trivial⟩
theorem DLeL.rsE {F : FMap} {sz : Nat} {ds ds' : List DV} (h : DLeL ds ds') : ∀ {vs : List Value},RsE F sz ds vs→RsE F sz ds' vs:=by
 induction h with
 | nil=>intro vs h; exact h
 | cons h1 k ih=>
  intro vs h
  simp only [RsE] at h ⊢
  obtain ⟨v,rest,r1,r2,r3,r4,r5⟩ := h
  exact ⟨v,rest,r1,r2,r3,h1 _ _ _ r4,ih r5⟩
theorem DLeL.len {ds ds' : List DV} (h : DLeL ds ds') : ds.length = ds'.length:=by
 induction h with
 | nil=>rfl
 | cons _ _ ih=>simp [ih]
theorem OpG.wkRow {o : Oper} {rt rh : List Nat} {env : List (Nat × DV)} {hp : Heap} {nw : List Nat} {E sz : Nat} {els els' : List DV} (h : OpG P ops o rt rh σ ⟨env,(t,some (.row E sz els)) :: hp,nw⟩) (hd : DLeL els els') : OpG P ops o rt rh σ ⟨env,(t,some (.row E sz els')) :: hp,nw⟩ := by
 intro C F γ σ' a w h1 h2 h3 h4 hs K Q hK
 refine h C F γ σ' a w h1 h2 h3 h4 hs K Q (fun F' γ' a' w' hF hs'=>hK F' γ' a' w' hF ⟨hs'.env,?_,hs'.size,hs'.defers⟩)
 have H:=hs'.ws
 simp only [AS.app,List.cons_append] at H ⊢
 have back : ∀ i e',hget ((t,some (.row E sz els')) :: (hp++σ'.heap)) i = some e'→∃ e,hget ((t,some (.row E sz els)) :: (hp++σ'.heap)) i = some e∧(∀ F γ w g,Ent F γ w e g→Ent F γ w e' g):=fun i e' hi=>by
  rw [hget_cons] at hi ⊢
  by_cases hit : t = i
  ·rw [if_pos hit] at hi ⊢; injection hi with hi; subst hi
   refine ⟨_,rfl,fun F γ w g hg=>?_⟩
   obtain ⟨vs,q1,q2⟩ := hg
   exact ⟨vs,by rw [← hd.len]; exact q1,hd.rsE q2⟩
  ·rw [if_neg hit] at hi ⊢
   exact ⟨e',hi,fun _ _ _ _ h=>h⟩
 exact {
  ent:=fun i e' hi=>by
   obtain ⟨e,k1,k2⟩ := back i e' hi
   obtain ⟨g,g1,g2⟩ := H.ent i e k1
   exact ⟨g,g1,k2 _ _ _ _ g2⟩
  own:=fun i e' g b hi=>by
   obtain ⟨e,k1,k2⟩ := back i e' hi
   exact H.own i e g b k1
  apart:=fun i i' e e' g g' b hi hi'=>by
   obtain ⟨e1,k1,_⟩ := back i e hi
   obtain ⟨e2,k2,_⟩ := back i' e' hi'
   exact H.apart i i' e1 e2 g g' b k1 k2
  fs:=H.fs,f0:=H.f0,fnew:=H.fnew,os:=H.os,tape:=H.tape,output:=H.output,size:=H.size,keep:=H.keep,us:=H.us,gone:=H.gone,g0:=H.g0,gk:=H.gk,kn:=H.kn }
theorem t_buildW {T e : TypeId} {sz bytes : Nat} {zd : DV} [hT : CSl P T e sz bytes zd] {n : Nat} {ps : Array (Nat × Operand)} {dps : List (Nat × DV)} {α : Type} (f : α→DV) (ys : List α) (hz : (zd.cs.all DV.one) = true) (hn : Nat.ble (n * sz) 16777216 = true) (he : evP σ.env ps.toList = some dps) (hk : Nat.beq dps.length n = true)
  (hf : fillD ((List.range n).map fun i=>(i * sz,sz)) (List.replicate n zd.cs).flatten dps = some ((dps.map (·.2)).flatMap DV.cs)) (hok : (dps.map (·.2)).all (elOk sz) = true) (hy : DLeL (dps.map (·.2)) (ys.map f)) :
  OpG P ops ⟨some t,.buildSlice T n ps,ty,pos,af,none⟩ (ps.toList.flatMap fun p=>tm p.2) [] σ ⟨[(t,.row t)],[(t,some (.row e sz (ys.map f)))],[t]⟩ :=
 (o_buildSlice hz hn he hk hf hok).wkRow hy
theorem run_index {T n e sz : Nat} [hT : CArr P T n e sz] {cs : Array Value} {k : IntKind} {i : Nat} (hi : i < n) {v : Value} {w : World} (hp : (part e cs (i * sz)).run P w = .ok v w) : (Instr.index T (.agg cs) (.int k (i : Int))).run P w = .ok v w:=by
 simp [Instr.index,asIntOf,run_underlying hT.u,hT.size,hi,hp]
theorem o_index {T n e sz : Nat} [hT : CArr P T n e sz] [hs : CSc P e] {x y : Operand} {k : IntKind} {m : Int} {ds : List DV} {d : DV} (i : Nat) (hx : ev σ.env x = some (.agg ds)) (hy : ev σ.env y = some (.int k m)) (hm : m = (i : Int)) (hi : i < n) (hd : ds[i * sz]? = some d) :
  OpG P ops ⟨some t,.index T x y,ty,pos,af,none⟩ (tm x++tm y) [] σ ⟨[(t,d)],[],[]⟩ :=
 OpG.val rfl rfl fun C F γ σ' a w hag h2 hst=>by
  obtain ⟨k1,k2⟩ := ev2 hst hag hx hy
  simp only [Rs] at k1 k2
  obtain ⟨cs,e,hl⟩ := k1
  subst hm
  obtain ⟨v,r1,r2⟩ := part_rs (.sc hs.h (by rw [head_drop]; exact hd)) hl w
  refine ⟨v,?_,r2⟩
  have:=run_index (P:=P) (T:=T) (k:=k) hi r1
  simp [execOp,e,k2,this]
theorem t_idxL {T n e : Nat} [hT : CArr P T n e 1] [hs : CSc P e] {x y : Operand} {k : IntKind} {m : Int} {α : Type} (f : α→DV) (xs : List α) {a : α} (h : idx xs m = some a) (hx : ev σ.env x = some (.agg (xs.map f))) (hy : ev σ.env y = some (.int k m)) (hn : xs.length = n) :
  OpG P ops ⟨some t,.index T x y,ty,pos,af,none⟩ (tm x++tm y) [] σ ⟨[(t,f a)],[],[]⟩ := by
 have hlt:=idxE_lt (f:=f) h
 rw [List.length_map,hn] at hlt
 exact o_index m.toNat hx hy (toNat_of (idx_get h).1) hlt (by rw [Nat.mul_one]; exact idxE_map h)
end
theorem EnvOk.all {f : Nat→Nat} {e : List (Nat × DV)} : ∀ {e' : List (Nat × DV)},(e'.map fun p=>look e p.1) = (e'.map fun p=>some (p.2.ren f))→EnvOk f e e'
 | [],_=>.nil
 | (t,d) :: r,h=>by
  simp only [List.map_cons,List.cons.injEq] at h
  exact .cons h.1 (DLe.refl _) (EnvOk.all h.2)
theorem HeapOk.all {f : Nat→Nat} {e : Heap} : ∀ {e' : Heap},(e'.map fun p=>hget e (f p.1)) = (e'.map fun p=>p.2.map (HE.ren f))→(e'.all fun p=>p.2.isSome) = true→HeapOk f e e'
 | [],_,_=>.nil
 | (t,none) :: r,_,k=>by simp at k
 | (t,some d) :: r,h,k=>by
  simp only [List.map_cons,List.cons.injEq,Option.map_some] at h
  simp only [List.all_cons,Option.isSome_some,Bool.true_and] at k
  exact .cons h.1 (.refl _) (HeapOk.all h.2 k)
theorem Imp.sh {σ σ' : AS} (f : Nat→Nat) (he : (σ'.env.map fun p=>look σ.env p.1) = (σ'.env.map fun p=>some (p.2.ren f))) (hh : (σ'.heap.map fun p=>hget σ.heap (f p.1)) = (σ'.heap.map fun p=>p.2.map (HE.ren f))) (hs : (σ'.heap.all fun p=>p.2.isSome) = true) (hu : usedOk f σ.used σ'.used = true) (hi : injOk f (σ'.heap.map (·.1)) = true) (hc : idsOk σ' = true) : Imp σ σ' := Imp.of f (.all he) (.all hh hs) hu hi hc
theorem ar {P : Program} {n : Nat} {Q : Exit→AS→Prop} {σ : AS} {id : Nat} {ops : Array Oper} {σ' : AS} {ks : List (Keys × Eff)} (ht : Trace P ops ops.toList σ σ' ks) (hq : Q .normal σ') (hd : dstOk n ops = true:=by kernel_rfl) (hnew : newsOk σ.used (ks.map (·.2.new)) = true:=by kernel_rfl) : awp P n (.region id ops false) Q σ:=a_region ht hd hnew hq
theorem ad {P : Program} {n : Nat} {Q : Exit→AS→Prop} {σ : AS} {id : Nat} {ops : Array Oper} {σ' : AS} {ks : List (Keys × Eff)} (hm : P.follows .mixedOrders = true) (ht : Trace P ops ops.toList σ σ' ks) (hq : Q .normal σ') (hk : drawOk ops (ks.map (·.1)) = true:=by kernel_rfl) (hd : dstOk n ops = true:=by kernel_rfl) (hnew : newsOk σ.used (ks.map (·.2.new)) = true:=by kernel_rfl) : awp P n (.region id ops true) Q σ:=a_draw hm ht hk hd hnew hq
end Go.Proofs.YtcgfgilddjkpkaaGreat
