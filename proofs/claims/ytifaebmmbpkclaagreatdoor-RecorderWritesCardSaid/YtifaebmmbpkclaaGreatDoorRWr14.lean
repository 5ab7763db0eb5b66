/-
  What the claim leans on, part 14.
-/
import Derived.Test.YtifaebmmbpkclaaGreatDoorRWr13
import Derived.RangeFuncSeq
import Derived.RangeFuncLeaves
set_option linter.unusedVariables false
set_option linter.unusedSimpArgs false
namespace Go.Proofs.YtifaebmmbpkclaaGreatDoor
open Go.RowKit
structure Grw (F : FMap) (w : World) (F' : FMap) (w' : World) : Prop where
 stp : Stp w w' none
 fle : FLe F F'
 new : ∀ b cs,F' b = some cs→F b = some cs∨w.heap.size≤b
 sat : ∀ b cs,F' b = some cs→∃ t fz,w'.heap[b]? = some (.cells cs t fz)
structure JOk (J : Nat→FMap→World→Prop) : Prop where
 grw : ∀ k F w F' w',J k F w→Grw F w F' w'→J k F' w'
 sat : ∀ k F w,J k F w→∀ b cs,F b = some cs→∃ t fz,w.heap[b]? = some (.cells cs t fz)
 kn : ∀ k F w,J k F w→Tbs F
def Ylds (P : Program) (l : Nat) (J : Nat→FMap→World→Prop) (ds : List DV) : Prop :=
 ∀ k d v F w,ds[k]? = some d→J k F w→Rs F Gam.no d v→YieldAt (FW none) 0 P l #[v] w (fun e w'=>∃ F',e = .returned (.bool true)∧FLe F F'∧J (k + 1) F' w')
def Iter (P : Program) (f : FuncId) (caps ds : List DV) : Prop :=
 ∀ (l : Nat) (J : Nat→FMap→World→Prop) (F : FMap) (w : World) (vs : List Value),JOk J→Ylds P l J ds→J 0 F w→RsT F Gam.no caps vs →
  CallsIn (FW none) 0 P f (#[.func (.yield l) #[] #[]]++vs.toArray) w (fun e w'=>∃ v F',e = .returned v∧FLe F F'∧J ds.length F' w')
def bare (w : World) (F : FMap) (n : Nat) : Ctx := ⟨w,fun _=>False,F,n,Gam.no,none,[]⟩
theorem Sat.grw {w0 w : World} {F0 F : FMap} {n : Nat} {γ : Gam} {σ : AS} {a : Act} (h : Sat (bare w0 F0 n) F γ σ a w) : Grw F0 w0 F w where
 stp := ⟨h.ws.os,h.ws.tape,h.ws.output,h.ws.size,fun k hk _=>h.ws.keep k hk (fun h=>h)⟩
 fle:=h.ws.f0
 new:=fun b cs hb=>by
  rcases h.ws.fnew b cs hb with h | h | h
  ·exact .inl h
  ·exact h.elim
  ·exact .inr h
 sat:=h.ws.fs
theorem WS.bare {w : World} {F : FMap} (n : Nat) (h : ∀ b cs,F b = some cs→∃ t fz,w.heap[b]? = some (.cells cs t fz)) (hk : Tbs F) : WS (bare w F n) F Gam.no [] [] w where
 ent:=fun id e h=>by simp [hget,look] at h
 own:=fun id e g b h=>by simp [hget,look] at h
 apart:=fun id id' e e' g g' b h=>by simp [hget,look] at h
 fs:=h
 f0:=FLe.refl _
 fnew:=fun b cs h=>.inl h
 os:=rfl
 tape:=rfl
 output:=rfl
 size:=Nat.le_refl _
 keep:=fun _ _ _=>rfl
 us:=fun id g h=>by cases h
 gone:=GOne.no
 g0:=GLe.refl _
 gk:=fun id g h=>by cases h
 kn:=hk
def awpJ (P : Program) (J : Nat→FMap→World→Prop) (n : Nat) (c : Code) (Q : Exit→Nat→AS→Prop) (k : Nat) (σ : AS) : Prop :=
 ∀ (w0 : World) (F0 F : FMap) (γ : Gam) (a : Act) (w : World),J k F0 w0→Sat (bare w0 F0 n) F γ σ a w →
  c.wpIn (FW none) 0 P (fun e a' w'=>∃ w0' F0' F' γ' k' σ',J k' F0' w0'∧FLe F0 F0'∧Sat (bare w0' F0' n) F' γ' σ' a' w'∧Q e k' σ') a w
section
variable {P : Program} {J : Nat→FMap→World→Prop} {n : Nat} {Q : Exit→Nat→AS→Prop} {σ : AS} {k : Nat}
theorem j_of {c : Code} (h : awp P n c (fun e σ'=>Q e k σ') σ) : awpJ P J n c Q k σ:=fun w0 F0 F γ a w hJ hs=>
 wpIn_mono (h (bare w0 F0 n) F γ a w rfl hs) fun e a' w' ⟨F',γ',σ',h1,h2⟩=>⟨w0,F0,F',γ',k,σ',hJ,FLe.refl _,h1,h2⟩
theorem j_imp {c : Code} {σ' : AS} (hi : Imp σ σ') (h : awpJ P J n c Q k σ') : awpJ P J n c Q k σ:=fun w0 F0 F γ a w hJ hs=>by
 obtain ⟨F1,γ1,h1⟩ := hi _ F γ a w hs
 exact h w0 F0 F1 γ1 a w hJ h1
def JThen (P : Program) (J : Nat→FMap→World→Prop) (n : Nat) (y : Code) (Q : Exit→Nat→AS→Prop) : Exit→Nat→AS→Prop
 | .normal,k,σ=>awpJ P J n y Q k σ
 | e,k,σ=>Q e k σ
theorem j_seq {x y : Code} (h : awpJ P J n x (JThen P J n y Q) k σ) : awpJ P J n (.seq x y) Q k σ:=fun w0 F0 F γ a w hJ hs=>
 wpIn_seq (wpIn_mono (h w0 F0 F γ a w hJ hs) fun e a' w' ⟨w1,F1,F',γ',k',σ',j1,j2,h1,h2⟩=>by
  cases e with
  | normal=>
   refine wpIn_mono (h2 w1 F1 F' γ' a' w' j1 h1) fun e a2 w2 ⟨w3,F3,F4,γ4,k4,σ4,q1,q2,q3,q4⟩=>⟨w3,F3,F4,γ4,k4,σ4,q1,j2.trans q2,q3,q4⟩
  | exit id=>exact ⟨w1,F1,F',γ',k',σ',j1,j2,h1,h2⟩
  | goto l=>exact ⟨w1,F1,F',γ',k',σ',j1,j2,h1,h2⟩
  | ret=>exact ⟨w1,F1,F',γ',k',σ',j1,j2,h1,h2⟩
  | panic c=>exact ⟨w1,F1,F',γ',k',σ',j1,j2,h1,h2⟩
  | outgrown=>exact ⟨w1,F1,F',γ',k',σ',j1,j2,h1,h2⟩)
theorem j_cond {c : Operand} {x y : Code} (b : Bool) (hc : ev σ.env c = some (.bool b)) (ht : b = true→awpJ P J n x Q k σ) (hf : b = false→awpJ P J n y Q k σ) : awpJ P J n (.cond c x y) Q k σ:=fun w0 F0 F γ a w hJ hs=>by
 have:=hs.ev hc
 simp only [Rs] at this
 exact wpIn_cond_split this (fun e=>ht e w0 F0 F γ a w hJ hs) (fun e=>hf e w0 F0 F γ a w hJ hs)
def JBlk (id : Nat) (Q : Exit→Nat→AS→Prop) : Exit→Nat→AS→Prop
 | .exit id',k,σ=>bif Nat.beq id' id then Q .normal k σ else Q (.exit id') k σ
 | e,k,σ=>Q e k σ
theorem j_block {id : Nat} {c : Code} (h : awpJ P J n c (JBlk id Q) k σ) : awpJ P J n (.block id c) Q k σ:=fun w0 F0 F γ a w hJ hs=>
 wpIn_block (wpIn_mono (h w0 F0 F γ a w hJ hs) fun e a' w' ⟨w1,F1,F',γ',k',σ',j1,j2,h1,h2⟩=>by
  cases e with
  | exit id'=>
   simp only [JBlk] at h2
   simp only [Exit.inBlock]
   by_cases hid : id' = id
   ·subst hid; simp at h2; rw [if_pos rfl]; exact ⟨w1,F1,F',γ',k',σ',j1,j2,h1,h2⟩
   ·have : Nat.beq id' id = false:=by rw [Bool.eq_false_iff]; intro e; exact hid (Nat.eq_of_beq_eq_true e)
    rw [this] at h2; rw [if_neg hid]; exact ⟨w1,F1,F',γ',k',σ',j1,j2,h1,h2⟩
  | normal=>exact ⟨w1,F1,F',γ',k',σ',j1,j2,h1,h2⟩
  | goto l=>exact ⟨w1,F1,F',γ',k',σ',j1,j2,h1,h2⟩
  | ret=>exact ⟨w1,F1,F',γ',k',σ',j1,j2,h1,h2⟩
  | panic c=>exact ⟨w1,F1,F',γ',k',σ',j1,j2,h1,h2⟩
  | outgrown=>exact ⟨w1,F1,F',γ',k',σ',j1,j2,h1,h2⟩)
def JLoop {α : Type} (S : α→AS) (I : Nat→α→Prop) (μ : α→Nat) (x : α) (Q : Exit→Nat→AS→Prop) : Exit→Nat→AS→Prop
 | .normal,k,σ=>∃ x',I k x'∧μ x' < μ x∧Imp σ (S x')
 | e,k,σ=>Q e k σ
theorem j_loop {c : Code} {α : Type} (S : α→AS) (I : Nat→α→Prop) (μ : α→Nat) (x0 : α) (h0 : Imp σ (S x0)) (hI : I k x0) (round : ∀ k x,I k x→awpJ P J n c (JLoop S I μ x Q) k (S x)) : awpJ P J n (.loop c) Q k σ:=fun w0 F0 F γ a w hJ hs=>by
 obtain ⟨F1,γ1,h1⟩ := h0 _ F γ a w hs
 refine wpIn_loop_ghost (fun m a w=>∃ x k w1 F1 F γ,I k x∧μ x = m∧J k F1 w1∧FLe F0 F1∧Sat (bare w1 F1 n) F γ (S x) a w) (μ x0) ⟨x0,k,w0,F0,F1,γ1,hI,rfl,hJ,FLe.refl _,h1⟩ ?_
 rintro m a w ⟨x,k,w1,F1,F,γ,hx,rfl,hJ,hF,hs⟩
 refine wpIn_mono (round k x hx w1 F1 F γ a w hJ hs) fun e a' w' ⟨w2,F2,F',γ',k',σ',j1,j2,h1,h2⟩=>?_
 cases e with
 | normal=>
  obtain ⟨x',i1,i2,i3⟩ := h2
  obtain ⟨F3,γ3,h3⟩ := i3 _ F' γ' a' w' h1
  exact ⟨μ x',i2,x',k',w2,F2,F3,γ3,i1,rfl,j1,hF.trans j2,h3⟩
 | exit id=>exact ⟨w2,F2,F',γ',k',σ',j1,hF.trans j2,h1,h2⟩
 | goto l=>exact ⟨w2,F2,F',γ',k',σ',j1,hF.trans j2,h1,h2⟩
 | ret=>exact ⟨w2,F2,F',γ',k',σ',j1,hF.trans j2,h1,h2⟩
 | panic c=>exact ⟨w2,F2,F',γ',k',σ',j1,hF.trans j2,h1,h2⟩
 | outgrown=>exact ⟨w2,F2,F',γ',k',σ',j1,hF.trans j2,h1,h2⟩
end
def OpJ (P : Program) (J : Nat→FMap→World→Prop) (n : Nat) (ops : Array Oper) (o : Oper) (k : Nat) (σ : AS) (k' : Nat) (σ' : AS) : Prop :=
 ∀ (w0 : World) (F0 F : FMap) (γ : Gam) (a : Act) (w : World),J k F0 w0→Sat (bare w0 F0 n) F γ σ a w→(∀ d,o.dst = some d→d < n) →
  ∀ (K : Act→World→Prop) (Q : Exit→Act→World→Prop),(∀ w1 F1 F' γ' a' w',J k' F1 w1→FLe F0 F1→Sat (bare w1 F1 n) F' γ' σ' a' w'→K a' w') →
   if Region.wanted o (yielded ops a.tmps) then o.wpIn (FW none) 0 P a w K Q else K (a.put o.dst undef) w
inductive TraceJ (P : Program) (J : Nat→FMap→World→Prop) (n : Nat) (ops : Array Oper) : List Oper→Nat→AS→Nat→AS→Prop
 | nil (k : Nat) (σ : AS) : TraceJ P J n ops [] k σ k σ
 | cons {o : Oper} {rest : List Oper} {k : Nat} {σ : AS} {k1 : Nat} {σ1 : AS} {k2 : Nat} {σ2 : AS} (h : OpJ P J n ops o k σ k1 σ1) (t : TraceJ P J n ops rest k1 σ1 k2 σ2) : TraceJ P J n ops (o :: rest) k σ k2 σ2
section
variable {P : Program} {J : Nat→FMap→World→Prop} {n : Nat} {Q : Exit→Nat→AS→Prop} {σ : AS} {k : Nat} {ops : Array Oper}
theorem OpG.toJ {o : Oper} {rt rh : List Nat} {E : Eff} (h : OpG P ops o rt rh σ E) (hn : newsOk σ.used [E.new] = true) : OpJ P J n ops o k σ k (σ.app E):=fun w0 F0 F γ a w hJ hs hd K Q hK=>
 h (bare w0 F0 n) F γ σ a w (fun _ _=>rfl) (fun _ _=>rfl) (fun id hi=>(newsOk_spec _ _ hn).1 E.new (by simp) id hi) hd hs K Q (fun F' γ' a' w' _ hs'=>hK w0 F0 F' γ' a' w' hJ (FLe.refl _) hs')
theorem TraceJ.seq {Q : Exit→Act→World→Prop} : ∀ (l : List Oper) (i : Nat) (k : Nat) (σ : AS) (k' : Nat) (σ' : AS),TraceJ P J n ops l k σ k' σ'→(∀ j o,l[j]? = some o→ops[i + j]? = some o) →
  (∀ o∈l,∀ d,o.dst = some d→d < n)→∀ (w0 : World) (F0 F : FMap) (γ : Gam) (a : Act) (w : World),J k F0 w0→Sat (bare w0 F0 n) F γ σ a w →
   (∀ w1 F1 F' γ' a' w',J k' F1 w1→FLe F0 F1→Sat (bare w1 F1 n) F' γ' σ' a' w'→Q .normal a' w')→wpOpsIn (FW none) 0 P ops Q ((List.range l.length).map (i + ·)) a w:=by
 intro l
 induction l with
 | nil=>
  intro i k σ k' σ' ht _ _ w0 F0 F γ a w hJ hs hq
  cases ht
  exact hq w0 F0 F γ a w hJ (FLe.refl _) hs
 | cons o rest ih=>
  intro i k σ k' σ' ht hops hn w0 F0 F γ a w hJ hs hq
  cases ht with
  | cons h t=>
   rename_i k1 σ1
   have e : (List.range (o :: rest).length).map (i + ·) = i :: (List.range rest.length).map (i + 1 + ·):=by
    rw [List.length_cons,List.range_succ_eq_map,List.map_cons,List.map_map]
    congr 1
    apply List.map_congr_left
    intro x _; simp only [Function.comp]; omega
   rw [e,wpOpsIn_cons]
   unfold wpOpIn
   have ho : ops[i]? = some o:=by simpa using hops 0 o rfl
   rw [ho]
   have key:=h w0 F0 F γ a w hJ hs (fun d hd=>hn o (List.mem_cons_self ..) d hd) (wpOpsIn (FW none) 0 P ops Q ((List.range rest.length).map (i + 1 + ·))) Q (fun w1 F1 F' γ' a' w' j1 j2 hs'=>?_)
   ·simp only
    split
    ·rename_i hw; rw [if_pos hw] at key; exact key
    ·rename_i hw; rw [if_neg hw] at key; exact ⟨fun _ _=>trivial,key⟩
   ·refine ih (i + 1) k1 σ1 k' σ' t (fun j o' hj=>?_) (fun o' ho'=>hn o' (List.mem_cons_of_mem _ ho')) w1 F1 F' γ' a' w' j1 hs' (fun w2 F2 F3 γ3 a3 w3 q1 q2 q3=>hq w2 F2 F3 γ3 a3 w3 q1 (j2.trans q2) q3)
    have:=hops (j + 1) o' (by simpa using hj)
    rw [← this]; congr 1; omega
theorem j_region {id : Nat} {k' : Nat} {σ' : AS} (ht : TraceJ P J n ops ops.toList k σ k' σ') (hd : dstOk n ops = true) (hq : Q .normal k' σ') : awpJ P J n (.region id ops false) Q k σ:=fun w0 F0 F γ a w hJ hs=>by
 refine wpIn_region ?_
 have:=TraceJ.seq (Q:=fun e a' w'=>∃ w0' F0' F' γ' k' σ',J k' F0' w0'∧FLe F0 F0'∧Sat (bare w0' F0' n) F' γ' σ' a' w'∧Q e k' σ') ops.toList 0 k σ k' σ' ht (fun j o hj=>by simpa using hj) (fun o ho d hd'=>?_) w0 F0 F γ a w hJ hs (fun w1 F1 F' γ' a' w' j1 j2 h=>⟨w1,F1,F',γ',k',σ',j1,j2,h,hq⟩)
 ·simpa using this
 ·simp only [dstOk,List.all_eq_true] at hd
  have:=hd o ho
  rw [hd'] at this
  exact Nat.blt_eq ▸ this
theorem Sat.bared {w0 w w' : World} {F0 F F' : FMap} {γ : Gam} {σ : AS} {a : Act} (hs : Sat (bare w0 F0 n) F γ σ a w) (hF : FLe F F') (hJ : ∀ b cs,F' b = some cs→∃ t fz,w'.heap[b]? = some (.cells cs t fz)) {env' : List (Nat × DV)} (hE : ∀ t d,look env' t = some d→look σ.env t = some d∧d.ids = []) :
  Sat (bare w' F' n) F' Gam.no ⟨env',[],[]⟩ a w' where
 env:=fun t d ht=>by
  obtain ⟨h1,h2⟩ := hE t d ht
  have:=hs.env t d h1
  exact ⟨this.1,Rs_ids d _ (by rw [h2]; intro i hi; cases hi) (this.2.mono hF (GLe.refl _))⟩
 ws:=WS.bare n hJ ((hs.ws.kn.mono hs.ws.f0).mono hF)
 size:=hs.size
 defers:=hs.defers
theorem o_yield {o : Oper} {x y : Operand} {ats : Array TypeId} {t l : Nat} {ds : List DV} {d dx dy r : DV} (ho : o.op = .call ⟨.value x,#[y],ats⟩) (hd : o.dst = some t)
  (hw : ∀ w0 F0 F γ a w,Sat (bare w0 F0 n) F γ σ a w→Region.wanted o (yielded ops a.tmps) = true) (ex : ev σ.env x = some dx) (hx : ∀ F γ v,Rs F γ dx v→v = .func (.yield l) #[] #[])
  (ey : ev σ.env y = some dy) (hy : ∀ F γ v,Rs F γ dy v→Rs F Gam.no d v) (JO : JOk J) (Y : Ylds P l J ds) (hk : ds[k]? = some d)
  (env' : List (Nat × DV)) (hE : ∀ t d,look env' t = some d→look σ.env t = some d∧d.ids = []) (hr : ∀ F γ,Rs F γ r (.bool true)) : OpJ P J n ops o k σ (k + 1) ⟨(t,r) :: env',[],[]⟩ := by
 intro w0 F0 F γ a w hJ hs hdn K Q hK
 rw [if_pos (hw w0 F0 F γ a w hs)]
 have hv:=hx _ _ _ (hs.ev ex)
 obtain ⟨fn,tmps,assign,body,hrun,hround⟩ := Y k d (a.eval y) F w hk (JO.grw k F0 w0 F w hJ hs.grw) (hy _ _ _ (hs.ev ey))
 refine ⟨fun _ _=>trivial,?_⟩
 have he : (execOp a.eval o).run P w = .ok (.round l fn tmps assign body) w:=by
  simp [execOp,ho,resolve,hv,Deferred.ofValue,invoke,hrun]
 rw [Oper.semAt_eq _ _ _ (fun c hc=>by rw [ho] at hc; cases hc),he]
 refine ⟨fun h=>by simp [FW,Fence.wide] at h,hround.mono ?_⟩
 rintro e w' ⟨F',rfl,hF,hJ'⟩
 show K (a.put o.dst (.bool true)) w'
 rw [hd]
 exact hK w' F' F' Gam.no _ w' hJ' (hs.ws.f0.trans hF) ((hs.bared hF (JO.sat _ _ _ hJ') hE).put (hdn t hd) (hr _ _))
theorem o_callJ {o : Oper} {f : FuncId} [hf : CFn P f] {xs : Array Operand} {ats : Array TypeId} {t : Nat} {dxs args : List DV} {k' : Nat} (ho : o.op = .call ⟨.value (.func f),xs,ats⟩) (hd : o.dst = some t) (hg : o.guard = none)
  (ha : evL σ.env xs.toList = some dxs) (hle : DLeL dxs args) (hi : idsL args = []) (JO : JOk J)
  (hc : ∀ (F : FMap) (w : World) (vs : List Value),J k F w→RsT F Gam.no args vs→CallsIn (FW none) 0 P f vs.toArray w (fun e w'=>∃ F',e = .returned (.tuple #[])∧FLe F F'∧J k' F' w'))
  (env' : List (Nat × DV)) (hE : ∀ t d,look env' t = some d→look σ.env t = some d∧d.ids = []) : OpJ P J n ops o k σ k' ⟨(t,.tup []) :: env',[],[]⟩ := by
 intro w0 F0 F γ a w hJ hs hdn K Q hK
 rw [if_pos (by simp [Region.wanted,hg])]
 have hv:=hle.rsT (hs.evs ha)
 have hv' : RsT F Gam.no args (xs.toList.map a.eval):=RsT_ids args _ (by rw [hi]; simp) hv
 refine ⟨fun _ _=>trivial,?_⟩
 rw [Oper.semAt_eq _ _ _ (fun c hc=>by rw [ho] at hc; cases hc),run_call o xs ats ho a w]
 refine ⟨fun h=>by simp [FW,Fence.wide] at h,?_⟩
 have e : (xs.toList.map a.eval).toArray = xs.map a.eval:=by rw [← Array.toList_map]
 have:=hc F w _ (JO.grw k F0 w0 F w hJ hs.grw) hv'
 rw [e] at this
 refine this.mono ?_
 rintro e w' ⟨F',rfl,hF,hJ'⟩
 show K (a.put o.dst (.tuple #[])) w'
 rw [hd]
 exact hK w' F' F' Gam.no _ w' hJ' (hs.ws.f0.trans hF) ((hs.bared hF (JO.sat _ _ _ hJ') hE).put (hdn t hd) (by simp [Rs,RsT]))
theorem callsJ {f : FuncId} {fn : Func} {c : Code} {args : List DV} {vs : List Value} {k' : Nat} {F : FMap} {w : World} (JO : JOk J) (hf : P.funcs[f]? = some fn) (hb : fn.body = some c) (hn : fn.ntmps = n) (hrs : fn.results = #[]) (ha : args.length≤n)
  (h : awpJ P J n c (fun e m _=>(e = .normal∨e = .ret)∧m = k') k ⟨params 0 args,[],[]⟩) (hJ : J k F w) (hv : RsT F Gam.no args vs) :
  CallsIn (FW none) 0 P f vs.toArray w (fun e w'=>∃ F',e = .returned (.tuple #[])∧FLe F F'∧J k' F' w'):=by
 subst hn
 refine callsIn_of_wp hf hb trivial ?_
 have hs : Sat (bare w F fn.ntmps) F Gam.no ⟨params 0 args,[],[]⟩ { tmps:=vs.toArray++Array.replicate (fn.ntmps - vs.toArray.size) undef,defers:=[] } w :=
  ⟨params_sat hv ha,WS.bare _ (JO.sat _ _ _ hJ) (JO.kn _ _ _ hJ),by
   have:=hv.len
   simp [bare]; omega,rfl⟩
 refine wpIn_mono (h w F F Gam.no _ w hJ hs) ?_
 rintro e a' w' ⟨w1,F1,F',γ',m,σ',j1,j2,h1,h2,rfl⟩
 have main : a'.defers = []∧∃ v,(results fn a'.tmps).run P w' = .ok v w'∧(∃ F',Ending.returned v = .returned (.tuple #[])∧FLe F F'∧J m F' w') :=
  ⟨h1.defers,.tuple #[],results0 hrs,F',rfl,j2.trans h1.ws.f0,JO.grw _ _ _ _ _ j1 h1.grw⟩
 rcases h2 with rfl | rfl
 ·exact main
 ·exact main
end
set_option maxRecDepth 100000
set_option maxHeartbeats 4000000
def frame_update_K1 (a1 : Int) : Option Int :=
 some a1
def frame_update_K3 (a7 : Int) : Option Int :=
 some a7
def frame_update_L4 (k10 : Nat) (a11 : Int) : Option Int :=
 if ((bitI .and .u32 a11 1) == 1) = true then
  some (bitI .xor .u32 (Int.fdiv a11 (2 ^ min (Int.toNat 1) (IntKind.bits .u32))) 2197175160)
 else
  some (Int.fdiv a11 (2 ^ min (Int.toNat 1) (IntKind.bits .u32)))
def frame_update_L2 (x1 : List Int) (k2 : Nat) (a3 : Int) : Option Int :=
 (idx x1 (k2 : Int)).bind fun v9=>
 (foldM' 9223372036854775807 8 (fun k10 s=>frame_update_L4 k10 s) (bitI .xor .u32 a3 (IntKind.wrap .u32 v9))).bind fun s=>frame_update_K3 s
def frame_update (x0 : Int) (x1 : List Int) : Option Int :=
 (foldM' 9223372036854775807 (List.length x1 : Int) (fun k2 s=>frame_update_L2 x1 k2 s) x0).bind fun s=>frame_update_K1 s
theorem frame_update_c {x0 : Int} {x1 : List Int} {r : Int} (hM : frame_update x0 x1 = some r) : PCall Tryz.prog 59 [.int .u32 x0,.sl 1 (List.map (DV.int .u8) x1)] (.int .u32 r):=by
 unfold frame_update at hM
 refine PCall.body Tryz.func59 Tryz.ntmps59 rfl rfl rfl rfl ?_
 refine a_seq (ar (.cons (o_assign rfl)<|.nil _) ?_)
 refine a_cut (α:=Int) (fun s=>⟨[(0,.int .u32 s)],[],[]⟩) (fun s=>frame_update_K1 s = some r) ?_ ?_
 ·refine a_seq (ar (.cons (o_move rfl)<|.cons (t_len rfl)<|.cons (o_move rfl)<|.nil _) ?_)
  obtain ⟨a3,hL4,hK4⟩ := of_bind hM
  refine a_block ?_
  refine a_fold (fun k2 (s : Int)=>⟨[(0,.int .u32 s),(8,.sl 1 (List.map (DV.int .u8) x1)),(9,.int .i64 (List.length x1 : Int)),(10,.int .i64 (k2 : Int))],[],[]⟩) _ hL4 (Imp.sh (fun i=>i) rfl rfl rfl rfl rfl rfl) ?_ ?_
  ·rintro k2 a3 t5 hk2 hx2 hM
   replace hM : frame_update_L2 x1 k2 a3 = some t5:=hM
   unfold frame_update_L2 at hM
   refine a_seq (ar (.cons (o_int rfl rfl rfl)<|.nil _) ?_)
   refine a_seq ?_
   refine a_cond _ rfl (fun _=>?_) (fun c=>absurd hk2 (of_decide_eq_false c))
   refine a_skip ?_
   refine a_cut (α:=Int) (fun s=>⟨[(0,.int .u32 s),(8,.sl 1 (List.map (DV.int .u8) x1)),(9,.int .i64 (List.length x1 : Int)),(10,.int .i64 (k2 : Int))],[],[]⟩) (fun s=>frame_update_K3 s = some t5) ?_ ?_
   ·refine a_block (a_seq ?_)
    obtain ⟨v9,h8,hM⟩ := of_bind hM
    refine ar (.cons (t_index h8 rfl rfl rfl)<|.cons (o_load_es rfl rfl)<|.cons (o_assign rfl)<|.nil _) ?_
    refine a_seq (ar (.cons (o_move rfl)<|.cons (o_move rfl)<|.cons (o_conv_w rfl)<|.cons (o_int rfl rfl rfl)<|.cons (o_assign rfl)<|.nil _) ?_)
    refine a_seq (ar (.cons (o_move rfl)<|.nil _) ?_)
    obtain ⟨a11,hL12,hK12⟩ := of_bind hM
    refine a_block ?_
    refine a_fold (fun k10 (s : Int)=>⟨[(0,.int .u32 s),(8,.sl 1 (List.map (DV.int .u8) x1)),(9,.int .i64 (List.length x1 : Int)),(10,.int .i64 (k2 : Int)),(18,.int .i64 (k10 : Int))],[],[]⟩) _ hL12 (Imp.sh (fun i=>i) rfl rfl rfl rfl rfl rfl) ?_ ?_
    ·rintro k10 a11 t13 hk10 hx10 hM
     replace hM : frame_update_L4 k10 a11 = some t13:=hM
     unfold frame_update_L4 at hM
     refine a_seq (ar (.cons (o_int rfl rfl rfl)<|.nil _) ?_)
     refine a_seq ?_
     refine a_cond _ rfl (fun _=>?_) (fun c=>absurd hk10 (of_decide_eq_false c))
     refine a_skip (a_seq (a_block (a_seq (ar (.cons (o_move rfl)<|.cons (o_int rfl rfl rfl)<|.cons (o_assign rfl)<|.nil _) ?_))))
     refine a_seq (ar (.cons (o_move rfl)<|.cons (o_shr rfl rfl (by decide))<|.cons (o_assign rfl)<|.nil _) ?_)
     refine a_seq (ar (.cons (o_move rfl)<|.cons (o_int rfl rfl rfl)<|.nil _) ?_)
     refine a_cond _ rfl (fun h15=>?_) (fun h15=>?_)
     ·replace hM:=(of_if hM).1 h15
      refine ar (.cons (o_move rfl)<|.cons (o_int rfl rfl rfl)<|.cons (o_assign rfl)<|.nil _) ?_
      refine ar (.cons (o_add rfl rfl (inR_i64 hk10 hx10))<|.cons (o_move rfl)<|.nil _) ?_
      obtain rfl:=Option.some.inj hM
      exact (Imp.of (fun i=>i) (.cons rfl (DLe.refl _) (.cons rfl (DLe.refl _) (.cons rfl (DLe.refl _) (.cons rfl (DLe.refl _) (.cons rfl (DLe.succ _ _) .nil))))) .nil rfl rfl rfl)
     ·replace hM:=(of_if hM).2 h15
      refine a_skip (ar (.cons (o_add rfl rfl (inR_i64 hk10 hx10))<|.cons (o_move rfl)<|.nil _) ?_)
      obtain rfl:=Option.some.inj hM
      exact (Imp.of (fun i=>i) (.cons rfl (DLe.refl _) (.cons rfl (DLe.refl _) (.cons rfl (DLe.refl _) (.cons rfl (DLe.refl _) (.cons rfl (DLe.succ _ _) .nil))))) .nil rfl rfl rfl)
    ·rintro k10 hk10 hx10
     refine a_seq (ar (.cons (o_int rfl rfl rfl)<|.nil _) ?_)
     refine a_seq ?_
     refine a_cond _ rfl (fun c=>absurd (of_decide_eq_true c) (Int.not_lt.2 hk10)) (fun _=>?_)
     refine a_exit ?_
     exact ⟨a11,hK12,(Imp.sh (fun i=>i) rfl rfl rfl rfl rfl rfl)⟩
   ·rintro a7 hM
    replace hM : frame_update_K3 a7 = some t5:=hM
    unfold frame_update_K3 at hM
    refine ar (.cons (o_add rfl rfl (inR_i64 hk2 hx2))<|.cons (o_move rfl)<|.nil _) ?_
    obtain rfl:=Option.some.inj hM
    exact (Imp.of (fun i=>i) (.cons rfl (DLe.refl _) (.cons rfl (DLe.refl _) (.cons rfl (DLe.refl _) (.cons rfl (DLe.succ _ _) .nil)))) .nil rfl rfl rfl)
  ·rintro k2 hk2 hx2
   refine a_seq (ar (.cons (o_int rfl rfl rfl)<|.nil _) ?_)
   refine a_seq ?_
   refine a_cond _ rfl (fun c=>absurd (of_decide_eq_true c) (Int.not_lt.2 hk2)) (fun _=>?_)
   refine a_exit ?_
   exact ⟨a3,hK4,(Imp.sh (fun i=>i) rfl rfl rfl rfl rfl rfl)⟩
 ·rintro a1 hM
  replace hM : frame_update_K1 a1 = some r:=hM
  unfold frame_update_K1 at hM
  refine a_seq (ar (.cons (o_move rfl)<|.cons (o_assign rfl)<|.nil _) ?_)
  obtain rfl:=Option.some.inj hM
  exact a_ret (a_post (.r1 (.tmp rfl)) (DLe.refl _) PostOk.nil.spec)
def frame_checksum (x0 : List Int) (x1 : List Int) : Option Int :=
 (frame_update 4294967295 x0).bind fun v2=>
 (frame_update v2 x1).bind fun v4=>
 some (bitI .xor .u32 (if IntKind.signed .u32 = true then -1 else IntKind.max .u32) v4)
theorem frame_checksum_c {x0 : List Int} {x1 : List Int} {r : Int} (hM : frame_checksum x0 x1 = some r) : PCall Tryz.prog 32 [.sl 1 (List.map (DV.int .u8) x0),.sl 1 (List.map (DV.int .u8) x1)] (.int .u32 r):=by
 unfold frame_checksum at hM
 refine PCall.body Tryz.func32 Tryz.ntmps32 rfl rfl rfl rfl ?_
 refine a_seq (ar (.cons (o_assign rfl)<|.nil _) ?_)
 refine a_seq ?_
 obtain ⟨v2,h1,hM⟩ := of_bind hM
 obtain ⟨v4,h3,hM⟩ := of_bind hM
 refine ar (.cons (o_move rfl)<|.cons (o_call (frame_update_c h1) rfl (DLeL.refl _) rfl)<|.cons (o_move rfl)<|.cons (o_call (frame_update_c h3) rfl (DLeL.refl _) rfl)<|.cons (o_xor rfl)<|.cons (o_assign rfl)<|.nil _) ?_
 obtain rfl:=Option.some.inj hM
 exact a_ret (a_post (.r1 (.tmp rfl)) (DLe.refl _) PostOk.nil.spec)
def frame_stands (x0 : List Int) : Option (Int × Bool) :=
 (gb (!(decide ((List.length x0 : Int) < 8))) 0 (idx x0 0)).bind fun v2=>
 (gb (!((decide ((List.length x0 : Int) < 8)) || (v2 != 165))) 0 (idx x0 1)).bind fun v4=>
 if (((decide ((List.length x0 : Int) < 8)) || (v2 != 165)) || (v4 != 90)) = true then
  some (0,false)
 else
  (idx x0 2).bind fun v7=>
  (idx x0 3).bind fun v9=>
  if ((decide (4000 < (bitI .or .i64 (IntKind.wrap .i64 v7) (IntKind.wrap .i64 ((IntKind.wrap .i64 v9) * 2 ^ min (Int.toNat 8) (IntKind.bits .i64)))))) || (decide ((IntKind.wrap .i64 ((List.length x0 : Int) - 8)) < (bitI .or .i64 (IntKind.wrap .i64 v7) (IntKind.wrap .i64 ((IntKind.wrap .i64 v9) * 2 ^ min (Int.toNat 8) (IntKind.bits .i64))))))) = true then
   some (0,false)
  else
   (idx x0 4).bind fun v12=>
   (idx x0 5).bind fun v14=>
   (idx x0 6).bind fun v16=>
   (idx x0 7).bind fun v18=>
   chk (slOk (List.length x0) 2 4)<|
   chk (slOk (List.length x0) 8 (IntKind.wrap .i64 (8 + (bitI .or .i64 (IntKind.wrap .i64 v7) (IntKind.wrap .i64 ((IntKind.wrap .i64 v9) * 2 ^ min (Int.toNat 8) (IntKind.bits .i64)))))))<|
   (frame_checksum (slc x0 2 4) (slc x0 8 (IntKind.wrap .i64 (8 + (bitI .or .i64 (IntKind.wrap .i64 v7) (IntKind.wrap .i64 ((IntKind.wrap .i64 v9) * 2 ^ min (Int.toNat 8) (IntKind.bits .i64)))))))).bind fun v22=>
   if ((bitI .or .u32 (bitI .or .u32 (bitI .or .u32 (IntKind.wrap .u32 v12) (IntKind.wrap .u32 ((IntKind.wrap .u32 v14) * 2 ^ min (Int.toNat 8) (IntKind.bits .u32)))) (IntKind.wrap .u32 ((IntKind.wrap .u32 v16) * 2 ^ min (Int.toNat 16) (IntKind.bits .u32)))) (IntKind.wrap .u32 ((IntKind.wrap .u32 v18) * 2 ^ min (Int.toNat 24) (IntKind.bits .u32)))) != v22) = true then
    some (0,false)
   else
    some ((IntKind.wrap .i64 (8 + (bitI .or .i64 (IntKind.wrap .i64 v7) (IntKind.wrap .i64 ((IntKind.wrap .i64 v9) * 2 ^ min (Int.toNat 8) (IntKind.bits .i64)))))),true)
theorem frame_stands_c {x0 : List Int} {r : Int × Bool} (hM : frame_stands x0 = some r) : PCall Tryz.prog 86 [.sl 1 (List.map (DV.int .u8) x0)] (.tup [.int .i64 r.1,.bool r.2]):=by
 unfold frame_stands at hM
 refine PCall.body Tryz.func86 Tryz.ntmps86 rfl rfl rfl rfl ?_
 refine a_seq (ar (.cons (o_assign rfl)<|.cons (o_assign rfl)<|.nil _) ?_)
 refine a_seq (a_seq ?_)
 obtain ⟨v2,h1,hM⟩ := of_bind hM
 obtain ⟨v4,h3,hM⟩ := of_bind hM
 refine ar (.cons (o_move rfl)<|.cons (t_len rfl)<|.cons (o_int rfl rfl rfl)<|.cons (o_move rfl)<|.cons (o_guardG .bF rfl rfl (fun hb=>(.keep .nil)) (fun hb=>o_move rfl))<|.cons (o_guardG .bF rfl rfl (fun hb=>(.strip rfl hb .nil)) (fun hb=>t_index (of_gb h1 hb) rfl rfl rfl))<|.cons (o_guardG .bF rfl rfl (fun hb=>(.strip rfl hb .nil)) (fun hb=>o_load_es rfl rfl))<|.cons (o_guardG .bF rfl rfl (fun hb=>(.strip rfl hb .nil)) (fun hb=>o_int rfl rfl rfl))<|.cons (o_or rfl rfl)<|.cons (o_move rfl)<|.cons (o_guardG .bF rfl rfl (fun hb=>(.keep .nil)) (fun hb=>o_move rfl))<|.cons (o_guardG .bF rfl rfl (fun hb=>(.strip rfl hb .nil)) (fun hb=>t_index (of_gb h3 hb) rfl rfl rfl))<|.cons (o_guardG .bF rfl rfl (fun hb=>(.strip rfl hb .nil)) (fun hb=>o_load_es rfl rfl))<|.cons (o_guardG .bF rfl rfl (fun hb=>(.strip rfl hb .nil)) (fun hb=>o_int rfl rfl rfl))<|.cons (o_or rfl rfl)<|.nil _) ?_
 refine a_cond _ rfl (fun h5=>?_) (fun h5=>?_)
 ·replace hM:=(of_if hM).1 h5
  refine a_seq (ar (.cons (o_assign rfl)<|.cons (o_assign rfl)<|.nil _) ?_)
  obtain rfl:=Option.some.inj hM
  exact a_ret (a_post (.r2 (.tmp rfl) (.tmp rfl)) (DLe.refl _) PostOk.nil.spec)
 ·replace hM:=(of_if hM).2 h5
  refine a_skip (a_seq ?_)
  obtain ⟨v7,h6,hM⟩ := of_bind hM
  obtain ⟨v9,h8,hM⟩ := of_bind hM
  refine ad mixed (.cons (o_move rfl)<|.cons (t_index h6 rfl rfl rfl)<|.cons (o_load_es rfl rfl)<|.cons (o_conv_w rfl)<|.cons (o_move rfl)<|.cons (t_index h8 rfl rfl rfl)<|.cons (o_load_es rfl rfl)<|.cons (o_conv_w rfl)<|.cons (o_shl rfl rfl (by decide))<|.cons (o_int rfl rfl rfl)<|.cons (o_assign rfl)<|.nil _) ?_
  refine a_seq (a_seq (ar (.cons (o_move rfl)<|.cons (o_int rfl rfl rfl)<|.cons (o_move rfl)<|.cons (o_guardG .bF rfl rfl (fun hb=>(.keep .nil)) (fun hb=>o_move rfl))<|.cons (o_guardG .bF rfl rfl (fun hb=>(.keep .nil)) (fun hb=>o_move rfl))<|.cons (o_guardG .bF rfl rfl (fun hb=>(.strip rfl hb .nil)) (fun hb=>t_len rfl))<|.cons (o_guardG .bF rfl rfl (fun hb=>(.strip rfl hb .nil)) (fun hb=>o_int rfl rfl rfl))<|.cons (o_guardG .bF rfl rfl (fun hb=>(.strip rfl hb (.strip rfl hb .nil))) (fun hb=>o_int rfl rfl rfl))<|.cons (o_or rfl rfl)<|.nil _) ?_))
  refine a_cond _ rfl (fun h10=>?_) (fun h10=>?_)
  ·replace hM:=(of_if hM).1 h10
   refine a_seq (ar (.cons (o_assign rfl)<|.cons (o_assign rfl)<|.nil _) ?_)
   obtain rfl:=Option.some.inj hM
   exact a_ret (a_post (.r2 (.tmp rfl) (.tmp rfl)) (DLe.refl _) PostOk.nil.spec)
  ·replace hM:=(of_if hM).2 h10
   refine a_skip (a_seq ?_)
   obtain ⟨v12,h11,hM⟩ := of_bind hM
   obtain ⟨v14,h13,hM⟩ := of_bind hM
   obtain ⟨v16,h15,hM⟩ := of_bind hM
   obtain ⟨v18,h17,hM⟩ := of_bind hM
   refine ad mixed (.cons (o_move rfl)<|.cons (t_index h11 rfl rfl rfl)<|.cons (o_load_es rfl rfl)<|.cons (o_conv_w rfl)<|.cons (o_move rfl)<|.cons (t_index h13 rfl rfl rfl)<|.cons (o_load_es rfl rfl)<|.cons (o_conv_w rfl)<|.cons (o_shl rfl rfl (by decide))<|.cons (o_int rfl rfl rfl)<|.cons (o_move rfl)<|.cons (t_index h15 rfl rfl rfl)<|.cons (o_load_es rfl rfl)<|.cons (o_conv_w rfl)<|.cons (o_shl rfl rfl (by decide))<|.cons (o_int rfl rfl rfl)<|.cons (o_move rfl)<|.cons (t_index h17 rfl rfl rfl)<|.cons (o_load_es rfl rfl)<|.cons (o_conv_w rfl)<|.cons (o_shl rfl rfl (by decide))<|.cons (o_int rfl rfl rfl)<|.cons (o_assign rfl)<|.nil _) ?_
   refine a_seq (a_seq ?_)
   obtain ⟨h19,hM⟩ := of_chk hM
   obtain ⟨h20,hM⟩ := of_chk hM
   obtain ⟨v22,h21,hM⟩ := of_bind hM
   refine ad mixed (.cons (o_move rfl)<|.cons (o_move rfl)<|.cons (t_slice h19 rfl rfl rfl)<|.cons (o_move rfl)<|.cons (o_move rfl)<|.cons (o_int rfl rfl rfl)<|.cons (t_slice h20 rfl rfl rfl)<|.cons (o_call (frame_checksum_c h21) rfl (DLeL.refl _) rfl)<|.cons (o_int rfl rfl rfl)<|.nil _) ?_
   refine a_cond _ rfl (fun h23=>?_) (fun h23=>?_)
   ·replace hM:=(of_if hM).1 h23
    refine a_seq (ar (.cons (o_assign rfl)<|.cons (o_assign rfl)<|.nil _) ?_)
    obtain rfl:=Option.some.inj hM
    exact a_ret (a_post (.r2 (.tmp rfl) (.tmp rfl)) (DLe.refl _) PostOk.nil.spec)
   ·replace hM:=(of_if hM).2 h23
    refine a_skip (a_seq (ar (.cons (o_move rfl)<|.cons (o_int rfl rfl rfl)<|.cons (o_assign rfl)<|.cons (o_assign rfl)<|.nil _) ?_))
    obtain rfl:=Option.some.inj hM
    exact a_ret (a_post (.r2 (.tmp rfl) (.tmp rfl)) (DLe.refl _) PostOk.nil.spec)
def frame_Append (x0 : List Int) (x1 : List Int) : Option ((List Int) × Int) :=
 if (decide (4000 < (List.length x1 : Int))) = true then
  some (([] : List Int),3)
 else
  (frame_checksum [(IntKind.wrap .u8 (List.length x1 : Int)),(IntKind.wrap .u8 (Int.fdiv (List.length x1 : Int) (2 ^ min (Int.toNat 8) (IntKind.bits .i64))))] x1).bind fun v3=>
  chk (mkOk 1 0 (IntKind.wrap .i64 ((IntKind.wrap .i64 ((List.length x0 : Int) + 8)) + (List.length x1 : Int))))<|
  chk (apOk 1 (List.length ([] : List Int) + List.length x0))<|
  (idx [(IntKind.wrap .u8 (List.length x1 : Int)),(IntKind.wrap .u8 (Int.fdiv (List.length x1 : Int) (2 ^ min (Int.toNat 8) (IntKind.bits .i64))))] 0).bind fun v7=>
  (idx [(IntKind.wrap .u8 (List.length x1 : Int)),(IntKind.wrap .u8 (Int.fdiv (List.length x1 : Int) (2 ^ min (Int.toNat 8) (IntKind.bits .i64))))] 1).bind fun v9=>
  chk (apOk 1 (List.length (([] : List Int)++x0) + List.length [165,90,v7,v9]))<|
  chk (apOk 1 (List.length ((([] : List Int)++x0)++[165,90,v7,v9]) + List.length [(IntKind.wrap .u8 v3),(IntKind.wrap .u8 (Int.fdiv v3 (2 ^ min (Int.toNat 8) (IntKind.bits .u32)))),(IntKind.wrap .u8 (Int.fdiv v3 (2 ^ min (Int.toNat 16) (IntKind.bits .u32)))),(IntKind.wrap .u8 (Int.fdiv v3 (2 ^ min (Int.toNat 24) (IntKind.bits .u32))))]))<|
  chk (apOk 1 (List.length (((([] : List Int)++x0)++[165,90,v7,v9])++[(IntKind.wrap .u8 v3),(IntKind.wrap .u8 (Int.fdiv v3 (2 ^ min (Int.toNat 8) (IntKind.bits .u32)))),(IntKind.wrap .u8 (Int.fdiv v3 (2 ^ min (Int.toNat 16) (IntKind.bits .u32)))),(IntKind.wrap .u8 (Int.fdiv v3 (2 ^ min (Int.toNat 24) (IntKind.bits .u32))))]) + List.length x1))<|
  some (((((([] : List Int)++x0)++[165,90,v7,v9])++[(IntKind.wrap .u8 v3),(IntKind.wrap .u8 (Int.fdiv v3 (2 ^ min (Int.toNat 8) (IntKind.bits .u32)))),(IntKind.wrap .u8 (Int.fdiv v3 (2 ^ min (Int.toNat 16) (IntKind.bits .u32)))),(IntKind.wrap .u8 (Int.fdiv v3 (2 ^ min (Int.toNat 24) (IntKind.bits .u32))))])++x1),0)
theorem frame_Append_c {x0 : List Int} {x1 : List Int} {r : (List Int) × Int} (hM : frame_Append x0 x1 = some r) : ACall Tryz.prog 12 ⟨[.sl 1 (List.map (DV.int .u8) x0),.sl 1 (List.map (DV.int .u8) x1)],[],.tup [.row 50000,.int .i64 r.2],[(50000,some (.row 5 1 (List.map (DV.int .u8) r.1)))],[50000]⟩ := by
 unfold frame_Append at hM
 refine ACall.body Tryz.func12 Tryz.ntmps12 rfl rfl rfl rfl ?_
 refine a_seq (ar (.cons (o_assign rfl)<|.cons (o_assign rfl)<|.nil _) ?_)
 refine a_seq (a_seq (ar (.cons (o_move rfl)<|.cons (t_len rfl)<|.cons (o_int rfl rfl rfl)<|.nil _) ?_))
 refine a_cond _ rfl (fun h1=>?_) (fun h1=>?_)
 ·replace hM:=(of_if hM).1 h1
  refine a_seq (ar (.cons (o_assign rfl)<|.cons (o_assign rfl)<|.nil _) ?_)
  obtain rfl:=Option.some.inj hM
  refine a_imp (Imp.nilRow (t:=4) (id:=49004) 5 1 rfl rfl) ?_
  refine a_imp (σ' := ⟨[(4,.row 50000),(5,.int .i64 3)],[(50000,some (.row 5 1 (List.map (DV.int .u8) ([] : List Int))))],[50000]⟩) (Imp.sh (fun i=>bif Nat.beq i 50000 then 49004 else i) rfl rfl rfl rfl rfl rfl) ?_
  exact a_ret (a_post (.r2 (.tmp rfl) (.tmp rfl)) (DLe.refl _) (PostOk.spec (.cons rfl .nil)))
 ·replace hM:=(of_if hM).2 h1
  refine a_skip (a_seq (ar (.cons (o_move rfl)<|.cons (t_len rfl)<|.cons (o_conv_w rfl)<|.cons (o_move rfl)<|.cons (t_len rfl)<|.cons (o_shr rfl rfl (by decide))<|.cons (o_conv_w rfl)<|.cons (t_build (DV.int .u8) ([(IntKind.wrap .u8 (List.length x1 : Int)),(IntKind.wrap .u8 (Int.fdiv (List.length x1 : Int) (2 ^ min (Int.toNat 8) (IntKind.bits .i64))))] : List Int) rfl rfl rfl rfl rfl rfl rfl)<|.cons (o_assign rfl)<|.nil _) ?_))
  refine a_seq (a_imp (Imp.freeze (id:=19) rfl) ?_)
  obtain ⟨v3,h2,hM⟩ := of_bind hM
  refine ar (.cons (o_move rfl)<|.cons (o_move rfl)<|.cons (o_call (frame_checksum_c h2) rfl (DLeL.refl _) rfl)<|.cons (o_assign rfl)<|.nil _) ?_
  refine a_seq ?_
  obtain ⟨h4,hM⟩ := of_chk hM
  refine ar (.cons (o_move rfl)<|.cons (t_len rfl)<|.cons (o_int rfl rfl rfl)<|.cons (o_move rfl)<|.cons (t_len rfl)<|.cons (o_int rfl rfl rfl)<|.cons (t_make (DV.int .u8) 0 h4 rfl rfl rfl rfl)<|.cons (o_assign rfl)<|.nil _) ?_
  refine a_seq ?_
  obtain ⟨h5,hM⟩ := of_chk hM
  obtain ⟨v7,h6,hM⟩ := of_bind hM
  obtain ⟨v9,h8,hM⟩ := of_bind hM
  obtain ⟨h10,hM⟩ := of_chk hM
  refine ad mixed (.cons (o_move rfl)<|.cons (o_move rfl)<|.cons (t_append x0 h5 rfl rfl rfl Src.sl)<|.cons (o_move rfl)<|.cons (t_index h6 rfl rfl rfl)<|.cons (o_load_es rfl rfl)<|.cons (o_move rfl)<|.cons (t_index h8 rfl rfl rfl)<|.cons (o_load_es rfl rfl)<|.cons (t_build (DV.int .u8) ([165,90,v7,v9] : List Int) rfl rfl rfl rfl rfl rfl rfl)<|.cons (t_append [165,90,v7,v9] h10 rfl rfl rfl (Src.row rfl))<|.cons (o_assign rfl)<|.nil _) ?_
  refine a_seq ?_
  obtain ⟨h11,hM⟩ := of_chk hM
  refine ar (.cons (o_move rfl)<|.cons (o_move rfl)<|.cons (o_conv_w rfl)<|.cons (o_move rfl)<|.cons (o_shr rfl rfl (by decide))<|.cons (o_conv_w rfl)<|.cons (o_move rfl)<|.cons (o_shr rfl rfl (by decide))<|.cons (o_conv_w rfl)<|.cons (o_move rfl)<|.cons (o_shr rfl rfl (by decide))<|.cons (o_conv_w rfl)<|.cons (t_build (DV.int .u8) ([(IntKind.wrap .u8 v3),(IntKind.wrap .u8 (Int.fdiv v3 (2 ^ min (Int.toNat 8) (IntKind.bits .u32)))),(IntKind.wrap .u8 (Int.fdiv v3 (2 ^ min (Int.toNat 16) (IntKind.bits .u32)))),(IntKind.wrap .u8 (Int.fdiv v3 (2 ^ min (Int.toNat 24) (IntKind.bits .u32))))] : List Int) rfl rfl rfl rfl rfl rfl rfl)<|.cons (t_append [(IntKind.wrap .u8 v3),(IntKind.wrap .u8 (Int.fdiv v3 (2 ^ min (Int.toNat 8) (IntKind.bits .u32)))),(IntKind.wrap .u8 (Int.fdiv v3 (2 ^ min (Int.toNat 16) (IntKind.bits .u32)))),(IntKind.wrap .u8 (Int.fdiv v3 (2 ^ min (Int.toNat 24) (IntKind.bits .u32))))] h11 rfl rfl rfl (Src.row rfl))<|.cons (o_assign rfl)<|.nil _) ?_
  refine a_seq ?_
  obtain ⟨h12,hM⟩ := of_chk hM
  refine ar (.cons (o_move rfl)<|.cons (o_move rfl)<|.cons (t_append x1 h12 rfl rfl rfl Src.sl)<|.cons (o_assign rfl)<|.cons (o_assign rfl)<|.nil _) ?_
  obtain rfl:=Option.some.inj hM
  refine a_imp (σ' := ⟨[(4,.row 50000),(5,.int .i64 0)],[(50000,some (.row 5 1 (List.map (DV.int .u8) ((((([] : List Int)++x0)++[165,90,v7,v9])++[(IntKind.wrap .u8 v3),(IntKind.wrap .u8 (Int.fdiv v3 (2 ^ min (Int.toNat 8) (IntKind.bits .u32)))),(IntKind.wrap .u8 (Int.fdiv v3 (2 ^ min (Int.toNat 16) (IntKind.bits .u32)))),(IntKind.wrap .u8 (Int.fdiv v3 (2 ^ min (Int.toNat 24) (IntKind.bits .u32))))])++x1))))],[50000]⟩) (Imp.sh (fun i=>bif Nat.beq i 50000 then 57 else i) rfl rfl rfl rfl rfl rfl) ?_
  exact a_ret (a_post (.r2 (.tmp rfl) (.tmp rfl)) (DLe.refl _) (PostOk.spec (.cons rfl .nil)))
structure ring_Ring where
 gcapacity : Int
 gused : Int
 glist : List RRec
 gbegun : Bool
 gcomponent : Int
 gfirst : Int
 gnext : Int
def ring_clone (x0 : RRec) : Option RRec :=
 chk (apOk 8 (List.length x0.gEvent.gArgs))<|
 some x0
theorem ring_clone_c {x0 : RRec} {r : RRec} (hM : ring_clone x0 = some r) : PCall Tryz.prog 57 [.agg (RRec.cs x0)] (.agg (RRec.cs r)):=by
 unfold ring_clone at hM
 refine PCall.body Tryz.func57 Tryz.ntmps57 rfl rfl rfl rfl ?_
 refine a_seq (ar (.cons (o_box rfl rfl)<|.cons (o_alloc rfl)<|.nil _) ?_)
 refine a_seq ?_
 obtain ⟨h1,hM⟩ := of_chk hM
 refine ar (.cons (o_fieldAddr rfl)<|.cons (o_fieldAddr rfl)<|.cons (o_load_s rfl rfl rfl)<|.cons (t_append_n (DV.int .i64) x0.gEvent.gArgs h1 rfl rfl Src.sl)<|.cons (o_fieldAddr rfl)<|.cons (o_fieldAddr rfl)<|.cons (o_store_s rfl rfl rfl rfl rfl)<|.nil _) ?_
 refine a_seq (ar (.cons (o_load_r rfl rfl rfl rfl)<|.cons (o_store rfl rfl rfl rfl rfl rfl rfl)<|.nil _) ?_)
 obtain rfl:=Option.some.inj hM
 refine a_imp (Imp.freeze (id:=6) rfl) ?_
 exact a_ret (a_post (.r1 (.cell rfl rfl (.row _ CRow.h (Nat.le_of_ble_eq_true rfl) rfl))) (DLe.refl _) PostOk.nil.spec)
def ring_New (x0 : Int) : Option ((ring_Ring) ⊕ (Unit)) :=
 if (decide (x0 < 1)) = true then
  some (.inr ())
 else
  some (.inl (ring_Ring.mk x0 0 ([] : List RRec) false 0 0 0))
theorem ring_New_c0 {x0 : Int} {r : ring_Ring} (hM : ring_New x0 = some (.inl r)) : ACall Tryz.prog 29 ⟨[.int .i64 x0],[],.tup [.ref 50000 0,.int .i64 0],[(50000,some (.blk 131 [.int .i64 r.gcapacity,.int .i64 r.gused,.row 50001,.bool r.gbegun,.int .i64 r.gcomponent,.int .u64 r.gfirst,.int .u64 r.gnext])),(50001,some (.row 51 29 (List.map RRec.dv r.glist)))],[50000,50001]⟩ := by
 unfold ring_New at hM
 refine ACall.body Tryz.func29 Tryz.ntmps29 rfl rfl rfl rfl ?_
 refine a_seq (ar (.cons (o_assign rfl)<|.cons (o_assign rfl)<|.nil _) ?_)
 refine a_seq (a_seq (ar (.cons (o_move rfl)<|.cons (o_int rfl rfl rfl)<|.nil _) ?_))
 refine a_cond _ rfl (fun h1=>?_) (fun h1=>?_)
 ·replace hM:=(of_if hM).1 h1
  refine a_seq (ar (.cons (o_assign rfl)<|.cons (o_assign rfl)<|.nil _) ?_)
  cases hM
 ·replace hM:=(of_if hM).2 h1
  refine a_skip (a_seq (ar (.cons (o_move rfl)<|.cons (o_build rfl rfl rfl)<|.cons (o_box rfl rfl)<|.cons (o_assign rfl)<|.cons (o_assign rfl)<|.nil _) ?_))
  obtain rfl:=Sum.inl.inj (Option.some.inj hM)
  refine a_imp (Imp.nilC (id:=8) (rid:=48802) (j:=2) 51 29 rfl rfl rfl rfl) ?_
  refine a_imp (σ' := ⟨[(2,.ref 50000 0),(3,.int .i64 0)],[(50000,some (.blk 131 [.int .i64 ((ring_Ring.mk x0 0 ([] : List RRec) false 0 0 0).gcapacity),.int .i64 ((ring_Ring.mk x0 0 ([] : List RRec) false 0 0 0).gused),.row 50001,.bool ((ring_Ring.mk x0 0 ([] : List RRec) false 0 0 0).gbegun),.int .i64 ((ring_Ring.mk x0 0 ([] : List RRec) false 0 0 0).gcomponent),.int .u64 ((ring_Ring.mk x0 0 ([] : List RRec) false 0 0 0).gfirst),.int .u64 ((ring_Ring.mk x0 0 ([] : List RRec) false 0 0 0).gnext)])),(50001,some (.row 51 29 (List.map RRec.dv ((ring_Ring.mk x0 0 ([] : List RRec) false 0 0 0).glist))))],[50000,50001]⟩) (Imp.sh (fun i=>bif Nat.beq i 50001 then 48802 else bif Nat.beq i 50000 then 8 else i) rfl rfl rfl rfl rfl rfl) ?_
  exact a_ret (a_post (.r2 (.tmp rfl) (.tmp rfl)) (DLe.refl _) (PostOk.spec (.cons rfl (.cons rfl .nil))))
theorem ring_New_c1 {x0 : Int} {r : Unit} (hM : ring_New x0 = some (.inr r)) : ACall Tryz.prog 29 ⟨[.int .i64 x0],[],.tup [.val (.pointer none),.int .i64 1],[],[]⟩ := by
 unfold ring_New at hM
 refine ACall.body Tryz.func29 Tryz.ntmps29 rfl rfl rfl rfl ?_
 refine a_seq (ar (.cons (o_assign rfl)<|.cons (o_assign rfl)<|.nil _) ?_)
 refine a_seq (a_seq (ar (.cons (o_move rfl)<|.cons (o_int rfl rfl rfl)<|.nil _) ?_))
 refine a_cond _ rfl (fun h1=>?_) (fun h1=>?_)
 ·replace hM:=(of_if hM).1 h1
  refine a_seq (ar (.cons (o_assign rfl)<|.cons (o_assign rfl)<|.nil _) ?_)
  obtain rfl:=Sum.inr.inj (Option.some.inj hM)
  refine a_imp (σ' := ⟨[(2,.val (.pointer none)),(3,.int .i64 1)],[],[]⟩) (Imp.sh (fun i=>i) rfl rfl rfl rfl rfl rfl) ?_
  exact a_ret (a_post (.r2 (.tmp rfl) (.tmp rfl)) (DLe.refl _) (PostOk.spec .nil))
 ·replace hM:=(of_if hM).2 h1
  refine a_skip (a_seq (ar (.cons (o_move rfl)<|.cons (o_build rfl rfl rfl)<|.cons (o_box rfl rfl)<|.cons (o_assign rfl)<|.cons (o_assign rfl)<|.nil _) ?_))
  cases hM
def ring_Ring_Put_a1_K3 (o0 : ring_Ring) (a5 : Bool) (a6 : Int) (a7 : Int) (a8 : Int) (v10 : RRec) (a14 : Int) (a15 : Int) : Option (Int × Int × ring_Ring) :=
 chk (slOk (List.length (o0.glist++[v10])) a14 (List.length (o0.glist++[v10])))<|
 some (a14,0,(ring_Ring.mk o0.gcapacity a15 (List.drop (Int.toNat a14) (o0.glist++[v10])) a5 a6 a7 a8))
def ring_Ring_Put_a1_L4 (o0 : ring_Ring) (v10 : RRec) (a17 : Int) (a18 : Int) : Option (Ctl (Int × Int) (Int × Int)) :=
 (gb ((decide (a17 < (List.length (o0.glist++[v10]) : Int))) && !(decide (o0.gcapacity < a18))) (RRec.mk 0 0 (VClk.mk (arr 0 [])) 0 (AEv.mk 0 0 0 0 0 0 0 0 []) 0) (idx (o0.glist++[v10]) a17)).bind fun v22=>
 if ((decide (a17 < (List.length (o0.glist++[v10]) : Int))) && ((decide (o0.gcapacity < a18)) || (v22.gWhat == 2))) = true then
  (idx (o0.glist++[v10]) a17).bind fun v25=>
  (record_Size v25).bind fun v27=>
  some (.next ((IntKind.wrap .i64 (a17 + 1)),(IntKind.wrap .i64 (a18 - v27))))
 else
  some (.done (a17,a18))
def ring_Ring_Put_a1_K2 (x1 : RRec) (o0 : ring_Ring) (a5 : Bool) (a6 : Int) (a7 : Int) (a8 : Int) : Option (Int × Int × ring_Ring) :=
 (ring_clone x1).bind fun v10=>
 chk (0 < List.length [v10]∧apOk 248 (List.length o0.glist + List.length [v10]))<|
 (record_Size x1).bind fun v13=>
 (whileM (E:=Int × Int) (fun s=>ring_Ring_Put_a1_L4 o0 v10 s.1 s.2) (0,(IntKind.wrap .i64 (o0.gused + v13)))).bind fun e=>ring_Ring_Put_a1_K3 o0 a5 a6 a7 a8 v10 e.1 e.2
def ring_Ring_Put_a1_K1 (x1 : RRec) (o0 : ring_Ring) (a5 : Bool) (a6 : Int) (a7 : Int) : Option (Int × Int × ring_Ring) :=
 if (x1.gWhat == 2) = true then
  ring_Ring_Put_a1_K2 x1 o0 a5 a6 a7 (IntKind.wrap .u64 (x1.gSeq + x1.gCount))
 else
  ring_Ring_Put_a1_K2 x1 o0 a5 a6 a7 (IntKind.wrap .u64 (x1.gSeq + 1))
def ring_Ring_Put_a1 (x1 : RRec) (o0 : ring_Ring) : Option (Int × Int × ring_Ring) :=
 (record_Check x1).bind fun v2=>
 if ((v2 != 0) || (x1.gWhat == 3)) = true then
  some (0,1,o0)
 else
  if (o0.gbegun && ((x1.gComponent != o0.gcomponent) || (x1.gSeq != o0.gnext))) = true then
   some (0,11,o0)
  else
   if (!o0.gbegun) = true then
    ring_Ring_Put_a1_K1 x1 o0 true x1.gComponent x1.gSeq
   else
    ring_Ring_Put_a1_K1 x1 o0 o0.gbegun o0.gcomponent o0.gfirst
theorem ring_Ring_Put_a1_c {x1 : RRec} {o0 : ring_Ring} {r : Int × Int × ring_Ring} (hM : ring_Ring_Put_a1 x1 o0 = some r) : ACall Tryz.prog 30 ⟨[.ref 100000 0,.agg (RRec.cs x1)],[(100000,some (.blk 131 [.int .i64 o0.gcapacity,.int .i64 o0.gused,.row 100001,.bool o0.gbegun,.int .i64 o0.gcomponent,.int .u64 o0.gfirst,.int .u64 o0.gnext])),(100001,some (.sow 51 29 (List.map RRec.dv o0.glist)))],.tup [.int .i64 r.1,.int .i64 r.2.1],[(100000,some (.blk 131 [.int .i64 r.2.2.gcapacity,.int .i64 r.2.2.gused,.row 50000,.bool r.2.2.gbegun,.int .i64 r.2.2.gcomponent,.int .u64 r.2.2.gfirst,.int .u64 r.2.2.gnext])),(50000,some (.sow 51 29 (List.map RRec.dv r.2.2.glist))),(100001,none)],[50000]⟩ := by
 unfold ring_Ring_Put_a1 at hM
 refine ACall.body Tryz.func30 Tryz.ntmps30 rfl rfl rfl rfl ?_
 refine a_seq (ar (.cons (o_box rfl rfl)<|.cons (o_assign rfl)<|.cons (o_assign rfl)<|.nil _) ?_)
 refine a_seq (a_seq ?_)
 obtain ⟨v2,h1,hM⟩ := of_bind hM
 refine ar (.cons (o_move rfl)<|.cons (o_ptr_eq rfl)<|.cons (o_move rfl)<|.cons (o_guardOn .bF rfl rfl rfl (.keep .nil) (o_load_r rfl rfl rfl rfl))<|.cons (o_guardOn .bF rfl rfl rfl (.strip rfl rfl .nil) (o_call (record_Check_c h1) rfl (DLeL.refl _) rfl))<|.cons (o_guardOn .bF rfl rfl rfl (.strip rfl rfl .nil) (o_int rfl rfl rfl))<|.cons (o_or rfl rfl)<|.cons (o_move rfl)<|.cons (o_guardG .bF rfl rfl (fun hb=>(.keep .nil)) (fun hb=>o_fieldAddr rfl))<|.cons (o_guardG .bF rfl rfl (fun hb=>(.strip rfl hb .nil)) (fun hb=>o_load_s rfl rfl rfl))<|.cons (o_guardG .bF rfl rfl (fun hb=>(.strip rfl hb .nil)) (fun hb=>o_int rfl rfl rfl))<|.cons (o_or rfl rfl)<|.nil _) ?_
 refine a_cond _ rfl (fun h3=>?_) (fun h3=>?_)
 ·replace hM:=(of_if hM).1 h3
  refine a_seq (ar (.cons (o_assign rfl)<|.cons (o_assign rfl)<|.nil _) ?_)
  obtain rfl:=Option.some.inj hM
  refine a_imp (σ' := ⟨[(4,.int .i64 0),(5,.int .i64 1)],[(50000,some (.sow 51 29 (List.map RRec.dv o0.glist))),(100000,some (.blk 131 [.int .i64 o0.gcapacity,.int .i64 o0.gused,.row 50000,.bool o0.gbegun,.int .i64 o0.gcomponent,.int .u64 o0.gfirst,.int .u64 o0.gnext]))],[50000,100000,100001]⟩) (Imp.sh (fun i=>bif Nat.beq i 50000 then 100001 else i) rfl rfl rfl rfl rfl rfl) ?_
  exact a_ret (a_post (.r2 (.tmp rfl) (.tmp rfl)) (DLe.refl _) (PostOk.spec (.cons rfl (.cons rfl (.gone .nil)))))
 ·replace hM:=(of_if hM).2 h3
  refine a_skip (a_seq (a_seq (ad mixed (.cons (o_move rfl)<|.cons (o_nilCheck rfl)<|.cons (o_fieldAddr rfl)<|.cons (o_load_s rfl rfl rfl)<|.cons (o_move rfl)<|.cons (o_guardG .bT rfl rfl (fun hb=>(.keep .nil)) (fun hb=>o_fieldAddr rfl))<|.cons (o_guardG .bT rfl rfl (fun hb=>(.strip rfl hb .nil)) (fun hb=>o_load_s rfl rfl rfl))<|.cons (o_guardG .bT rfl rfl (fun hb=>(.keep .nil)) (fun hb=>o_move rfl))<|.cons (o_guardG .bT rfl rfl (fun hb=>(.strip rfl hb .nil)) (fun hb=>o_nilCheck rfl))<|.cons (o_guardG .bT rfl rfl (fun hb=>(.strip rfl hb .nil)) (fun hb=>o_fieldAddr rfl))<|.cons (o_guardG .bT rfl rfl (fun hb=>(.strip rfl hb .nil)) (fun hb=>o_load_s rfl rfl rfl))<|.cons (o_guardG .bT rfl rfl (fun hb=>(.strip rfl hb (.strip rfl hb .nil))) (fun hb=>o_int rfl rfl rfl))<|.cons (o_guardG .bT rfl rfl (fun hb=>(.strip rfl hb .nil)) (fun hb=>o_move rfl))<|.cons (o_guardG .iF rfl rfl (fun hb=>(.keep .nil)) (fun hb=>o_fieldAddr rfl))<|.cons (o_guardG .iF rfl rfl (fun hb=>(.strip rfl hb .nil)) (fun hb=>o_load_s rfl rfl rfl))<|.cons (o_guardG .iF rfl rfl (fun hb=>(.keep .nil)) (fun hb=>o_move rfl))<|.cons (o_guardG .iF rfl rfl (fun hb=>(.strip rfl hb .nil)) (fun hb=>o_nilCheck rfl))<|.cons (o_guardG .iF rfl rfl (fun hb=>(.strip rfl hb .nil)) (fun hb=>o_fieldAddr rfl))<|.cons (o_guardG .iF rfl rfl (fun hb=>(.strip rfl hb .nil)) (fun hb=>o_load_s rfl rfl rfl))<|.cons (o_guardG .iF rfl rfl (fun hb=>(.strip rfl hb (.strip rfl hb .nil))) (fun hb=>o_int rfl rfl rfl))<|.cons (o_guardG .bT rfl rfl (fun hb=>(.strip rfl hb (.half rfl hb .nil))) (fun hb=>o_or rfl rfl))<|.cons (o_and rfl rfl)<|.nil _) ?_)))
  refine a_cond _ rfl (fun h4=>?_) (fun h4=>?_)
  ·replace hM:=(of_if hM).1 h4
   refine a_seq (ar (.cons (o_assign rfl)<|.cons (o_assign rfl)<|.nil _) ?_)
   obtain rfl:=Option.some.inj hM
   refine a_imp (σ' := ⟨[(4,.int .i64 0),(5,.int .i64 11)],[(50000,some (.sow 51 29 (List.map RRec.dv o0.glist))),(100000,some (.blk 131 [.int .i64 o0.gcapacity,.int .i64 o0.gused,.row 50000,.bool o0.gbegun,.int .i64 o0.gcomponent,.int .u64 o0.gfirst,.int .u64 o0.gnext]))],[50000,100000,100001]⟩) (Imp.sh (fun i=>bif Nat.beq i 50000 then 100001 else i) rfl rfl rfl rfl rfl rfl) ?_
   exact a_ret (a_post (.r2 (.tmp rfl) (.tmp rfl)) (DLe.refl _) (PostOk.spec (.cons rfl (.cons rfl (.gone .nil)))))
  ·replace hM:=(of_if hM).2 h4
   refine a_skip ?_
   refine a_cut (α:=Bool × Int × Int) (fun s=>⟨[(0,.ref 100000 0),(3,.ref 3 0)],[(3,some (.blk 51 (RRec.cs x1))),(100000,some (.blk 131 [.int .i64 o0.gcapacity,.int .i64 o0.gused,.row 100001,.bool s.1,.int .i64 s.2.1,.int .u64 s.2.2,.int .u64 o0.gnext])),(100001,some (.sow 51 29 (List.map RRec.dv o0.glist)))],[3,100000,100001]⟩) (fun s=>ring_Ring_Put_a1_K1 x1 o0 s.1 s.2.1 s.2.2 = some r) ?_ ?_
   ·refine a_seq (ar (.cons (o_move rfl)<|.cons (o_nilCheck rfl)<|.cons (o_fieldAddr rfl)<|.cons (o_load_s rfl rfl rfl)<|.cons (o_not rfl)<|.nil _) ?_)
    refine a_cond _ rfl (fun h29=>?_) (fun h29=>?_)
    ·replace hM:=(of_if hM).1 h29
     refine ad mixed (.cons (o_move rfl)<|.cons (o_move rfl)<|.cons (o_move rfl)<|.cons (o_fieldAddr rfl)<|.cons (o_load_s rfl rfl rfl)<|.cons (o_fieldAddr rfl)<|.cons (o_load_s rfl rfl rfl)<|.cons (o_nilCheck rfl)<|.cons (o_fieldAddr rfl)<|.cons (o_store_s rfl rfl rfl rfl rfl)<|.cons (o_nilCheck rfl)<|.cons (o_fieldAddr rfl)<|.cons (o_store_s rfl rfl rfl rfl rfl)<|.cons (o_nilCheck rfl)<|.cons (o_fieldAddr rfl)<|.cons (o_store_s rfl rfl rfl rfl rfl)<|.nil _) ?_
     exact ⟨(true,x1.gComponent,x1.gSeq),hM,(Imp.sh (fun i=>i) rfl rfl rfl rfl rfl rfl)⟩
    ·replace hM:=(of_if hM).2 h29
     refine a_skip ?_
     exact ⟨(o0.gbegun,o0.gcomponent,o0.gfirst),hM,(Imp.sh (fun i=>i) rfl rfl rfl rfl rfl rfl)⟩
   ·rintro ⟨a5,a6,a7⟩ hM
    replace hM : ring_Ring_Put_a1_K1 x1 o0 a5 a6 a7 = some r:=hM
    unfold ring_Ring_Put_a1_K1 at hM
    refine a_seq (ar (.cons (o_move rfl)<|.cons (o_fieldAddr rfl)<|.cons (o_load_s rfl rfl rfl)<|.cons (o_int rfl rfl rfl)<|.cons (o_nilCheck rfl)<|.cons (o_fieldAddr rfl)<|.cons (o_store_s rfl rfl rfl rfl rfl)<|.nil _) ?_)
    refine a_cut (α:=Int) (fun s=>⟨[(0,.ref 100000 0),(3,.ref 3 0)],[(3,some (.blk 51 (RRec.cs x1))),(100000,some (.blk 131 [.int .i64 o0.gcapacity,.int .i64 o0.gused,.row 100001,.bool a5,.int .i64 a6,.int .u64 a7,.int .u64 s])),(100001,some (.sow 51 29 (List.map RRec.dv o0.glist)))],[3,100000,100001]⟩) (fun s=>ring_Ring_Put_a1_K2 x1 o0 a5 a6 a7 s = some r) ?_ ?_
    ·refine a_seq (ar (.cons (o_fieldAddr rfl)<|.cons (o_load_s rfl rfl rfl)<|.cons (o_int rfl rfl rfl)<|.nil _) ?_)
     refine a_cond _ rfl (fun h28=>?_) (fun h28=>?_)
     ·replace hM:=(of_if hM).1 h28
      refine ar (.cons (o_move rfl)<|.cons (o_fieldAddr rfl)<|.cons (o_load_s rfl rfl rfl)<|.cons (o_fieldAddr rfl)<|.cons (o_load_s rfl rfl rfl)<|.cons (o_int rfl rfl rfl)<|.cons (o_nilCheck rfl)<|.cons (o_fieldAddr rfl)<|.cons (o_store_s rfl rfl rfl rfl rfl)<|.nil _) ?_
      exact ⟨(IntKind.wrap .u64 (x1.gSeq + x1.gCount)),hM,(Imp.sh (fun i=>i) rfl rfl rfl rfl rfl rfl)⟩
     ·replace hM:=(of_if hM).2 h28
      refine a_skip ?_
      exact ⟨(IntKind.wrap .u64 (x1.gSeq + 1)),hM,(Imp.sh (fun i=>i) rfl rfl rfl rfl rfl rfl)⟩
    ·rintro a8 hM
     replace hM : ring_Ring_Put_a1_K2 x1 o0 a5 a6 a7 a8 = some r:=hM
     unfold ring_Ring_Put_a1_K2 at hM
     refine a_seq ?_
     obtain ⟨v10,h9,hM⟩ := of_bind hM
     obtain ⟨h11,hM⟩ := of_chk hM
     refine ad mixed (.cons (o_move rfl)<|.cons (o_move rfl)<|.cons (o_nilCheck rfl)<|.cons (o_fieldAddr rfl)<|.cons (o_load_s rfl rfl rfl)<|.cons (o_load_r rfl rfl rfl rfl)<|.cons (o_call (ring_clone_c h9) rfl (DLeL.refl _) rfl)<|.cons (t_build RRec.dv ([v10] : List RRec) rfl rfl rfl rfl rfl rfl rfl)<|.cons (t_append_s [v10] h11 rfl rfl rfl (Src.row rfl))<|.cons (o_nilCheck rfl)<|.cons (o_fieldAddr rfl)<|.cons (o_store_s rfl rfl rfl rfl rfl)<|.nil _) ?_
     refine a_seq ?_
     obtain ⟨v13,h12,hM⟩ := of_bind hM
     refine ad mixed (.cons (o_move rfl)<|.cons (o_nilCheck rfl)<|.cons (o_fieldAddr rfl)<|.cons (o_load_s rfl rfl rfl)<|.cons (o_load_r rfl rfl rfl rfl)<|.cons (o_call (record_Size_c h12) rfl (DLeL.refl _) rfl)<|.cons (o_int rfl rfl rfl)<|.cons (o_nilCheck rfl)<|.cons (o_fieldAddr rfl)<|.cons (o_store_s rfl rfl rfl rfl rfl)<|.nil _) ?_
     refine a_seq (ar (.cons (o_assign rfl)<|.nil _) ?_)
     refine a_cut (α:=Int × Int) (fun s=>⟨[(0,.ref 100000 0),(6,.int .i64 s.1)],[(10001,some (.sow 51 29 (List.map RRec.dv (o0.glist++[v10])))),(100000,some (.blk 131 [.int .i64 o0.gcapacity,.int .i64 s.2,.row 10001,.bool a5,.int .i64 a6,.int .u64 a7,.int .u64 a8]))],[10001,100000,100001]⟩) (fun s=>ring_Ring_Put_a1_K3 o0 a5 a6 a7 a8 v10 s.1 s.2 = some r) ?_ ?_
     ·obtain ⟨e19,hL19,hK19⟩ := of_bind hM
      refine a_block (a_while (fun s : Int × Int=>⟨[(0,.ref 100000 0),(6,.int .i64 s.1)],[(10002,some (.sow 51 29 (List.map RRec.dv (o0.glist++[v10])))),(100000,some (.blk 131 [.int .i64 o0.gcapacity,.int .i64 s.2,.row 10002,.bool a5,.int .i64 a6,.int .u64 a7,.int .u64 a8]))],[10002,100000,100001]⟩) _ hL19 (Imp.sh (fun i=>bif Nat.beq i 10002 then 84 else i) rfl rfl rfl rfl rfl rfl) ?_)
      rintro ⟨a17,a18⟩ t20 hM hE19
      replace hM : ring_Ring_Put_a1_L4 o0 v10 a17 a18 = some t20:=hM
      unfold ring_Ring_Put_a1_L4 at hM
      refine a_seq (a_seq ?_)
      obtain ⟨v22,h21,hM⟩ := of_bind hM
      refine ad mixed (.cons (o_move rfl)<|.cons (o_move rfl)<|.cons (o_nilCheck rfl)<|.cons (o_fieldAddr rfl)<|.cons (o_load_s rfl rfl rfl)<|.cons (t_len_s rfl rfl)<|.cons (o_int rfl rfl rfl)<|.cons (o_move rfl)<|.cons (o_guardG .bT rfl rfl (fun hb=>(.keep .nil)) (fun hb=>o_move rfl))<|.cons (o_guardG .bT rfl rfl (fun hb=>(.strip rfl hb .nil)) (fun hb=>o_nilCheck rfl))<|.cons (o_guardG .bT rfl rfl (fun hb=>(.strip rfl hb .nil)) (fun hb=>o_fieldAddr rfl))<|.cons (o_guardG .bT rfl rfl (fun hb=>(.strip rfl hb .nil)) (fun hb=>o_load_s rfl rfl rfl))<|.cons (o_guardG .bT rfl rfl (fun hb=>(.keep .nil)) (fun hb=>o_move rfl))<|.cons (o_guardG .bT rfl rfl (fun hb=>(.strip rfl hb .nil)) (fun hb=>o_nilCheck rfl))<|.cons (o_guardG .bT rfl rfl (fun hb=>(.strip rfl hb .nil)) (fun hb=>o_fieldAddr rfl))<|.cons (o_guardG .bT rfl rfl (fun hb=>(.strip rfl hb .nil)) (fun hb=>o_load_s rfl rfl rfl))<|.cons (o_guardG .bT rfl rfl (fun hb=>(.strip rfl hb (.strip rfl hb .nil))) (fun hb=>o_int rfl rfl rfl))<|.cons (o_guardG .bT rfl rfl (fun hb=>(.strip rfl hb .nil)) (fun hb=>o_move rfl))<|.cons (o_guardG .iF rfl rfl (fun hb=>(.keep .nil)) (fun hb=>o_move rfl))<|.cons (o_guardG .iF rfl rfl (fun hb=>(.strip rfl hb .nil)) (fun hb=>o_nilCheck rfl))<|.cons (o_guardG .iF rfl rfl (fun hb=>(.strip rfl hb .nil)) (fun hb=>o_fieldAddr rfl))<|.cons (o_guardG .iF rfl rfl (fun hb=>(.strip rfl hb .nil)) (fun hb=>o_load_s rfl rfl rfl))<|.cons (o_guardG .iF rfl rfl (fun hb=>(.keep .nil)) (fun hb=>o_move rfl))<|.cons (o_guardG .iF rfl rfl (fun hb=>(.strip rfl hb (.strip rfl hb .nil))) (fun hb=>t_index_s (of_gb h21 hb) rfl rfl rfl))<|.cons (o_guardG .iF rfl rfl (fun hb=>(.strip rfl hb .nil)) (fun hb=>o_fieldAddr_s rfl))<|.cons (o_guardG .iF rfl rfl (fun hb=>(.strip rfl hb .nil)) (fun hb=>t_load_ss (of_gb h21 hb) rfl rfl rfl rfl))<|.cons (o_guardG .iF rfl rfl (fun hb=>(.strip rfl hb .nil)) (fun hb=>o_int rfl rfl rfl))<|.cons (o_guardG .bT rfl rfl (fun hb=>(.strip rfl hb (.half rfl hb .nil))) (fun hb=>o_or rfl rfl))<|.cons (o_and rfl rfl)<|.nil _) ?_
      refine a_cond _ rfl (fun h23=>?_) (fun h23=>?_)
      ·replace hM:=(of_if hM).1 h23
       refine a_skip (a_block (a_seq ?_))
       obtain ⟨v25,h24,hM⟩ := of_bind hM
       obtain ⟨v27,h26,hM⟩ := of_bind hM
       refine ad mixed (.cons (o_move rfl)<|.cons (o_nilCheck rfl)<|.cons (o_fieldAddr rfl)<|.cons (o_load_s rfl rfl rfl)<|.cons (o_move rfl)<|.cons (o_nilCheck rfl)<|.cons (o_fieldAddr rfl)<|.cons (o_load_s rfl rfl rfl)<|.cons (o_move rfl)<|.cons (t_index_s h24 rfl rfl rfl)<|.cons (t_load_sr h24 rfl rfl rfl rfl rfl)<|.cons (o_call (record_Size_c h26) rfl (DLeL.refl _) rfl)<|.cons (o_int rfl rfl rfl)<|.cons (o_nilCheck rfl)<|.cons (o_fieldAddr rfl)<|.cons (o_store_s rfl rfl rfl rfl rfl)<|.nil _) ?_
       refine ar (.cons (o_move rfl)<|.cons (o_int rfl rfl rfl)<|.cons (o_assign rfl)<|.nil _) ?_
       obtain rfl:=Option.some.inj hM
       exact ⟨((IntKind.wrap .i64 (a17 + 1)),(IntKind.wrap .i64 (a18 - v27))),rfl,(Imp.sh (fun i=>i) rfl rfl rfl rfl rfl rfl)⟩
      ·replace hM:=(of_if hM).2 h23
       refine a_exit ?_
       obtain rfl:=Option.some.inj hM
       obtain rfl:=hE19 _ rfl
       exact ⟨(a17,a18),hK19,(Imp.sh (fun i=>bif Nat.beq i 10001 then 10002 else i) rfl rfl rfl rfl rfl rfl)⟩
     ·rintro ⟨a14,a15⟩ hM
      replace hM : ring_Ring_Put_a1_K3 o0 a5 a6 a7 a8 v10 a14 a15 = some r:=hM
      unfold ring_Ring_Put_a1_K3 at hM
      refine a_seq ?_
      obtain ⟨h16,hM⟩ := of_chk hM
      refine ar (.cons (o_move rfl)<|.cons (o_move rfl)<|.cons (o_nilCheck rfl)<|.cons (o_fieldAddr rfl)<|.cons (o_load_s rfl rfl rfl)<|.cons (o_move rfl)<|.cons (t_slice_ls h16 rfl rfl rfl)<|.cons (o_nilCheck rfl)<|.cons (o_fieldAddr rfl)<|.cons (o_store_s rfl rfl rfl rfl rfl)<|.nil _) ?_
      refine a_seq (ar (.cons (o_move rfl)<|.cons (o_assign rfl)<|.cons (o_assign rfl)<|.nil _) ?_)
      obtain rfl:=Option.some.inj hM
      refine a_imp (σ' := ⟨[(4,.int .i64 a14),(5,.int .i64 0)],[(50000,some (.sow 51 29 (List.map RRec.dv ((ring_Ring.mk o0.gcapacity a15 (List.drop (Int.toNat a14) (o0.glist++[v10])) a5 a6 a7 a8).glist)))),(100000,some (.blk 131 [.int .i64 ((ring_Ring.mk o0.gcapacity a15 (List.drop (Int.toNat a14) (o0.glist++[v10])) a5 a6 a7 a8).gcapacity),.int .i64 ((ring_Ring.mk o0.gcapacity a15 (List.drop (Int.toNat a14) (o0.glist++[v10])) a5 a6 a7 a8).gused),.row 50000,.bool ((ring_Ring.mk o0.gcapacity a15 (List.drop (Int.toNat a14) (o0.glist++[v10])) a5 a6 a7 a8).gbegun),.int .i64 ((ring_Ring.mk o0.gcapacity a15 (List.drop (Int.toNat a14) (o0.glist++[v10])) a5 a6 a7 a8).gcomponent),.int .u64 ((ring_Ring.mk o0.gcapacity a15 (List.drop (Int.toNat a14) (o0.glist++[v10])) a5 a6 a7 a8).gfirst),.int .u64 ((ring_Ring.mk o0.gcapacity a15 (List.drop (Int.toNat a14) (o0.glist++[v10])) a5 a6 a7 a8).gnext)]))],[50000,100000,100001]⟩) (Imp.sh (fun i=>bif Nat.beq i 50000 then 148 else i) rfl rfl rfl rfl rfl rfl) ?_
      exact a_ret (a_post (.r2 (.tmp rfl) (.tmp rfl)) (DLe.refl _) (PostOk.spec (.cons rfl (.cons rfl (.gone .nil)))))
def ring_Ring_Lost_a (o0 : ring_Ring) : Option Int :=
 if ((List.length o0.glist : Int) == 0) = true then
  some (IntKind.wrap .u64 (o0.gnext - o0.gfirst))
 else
  (idx o0.glist 0).bind fun v4=>
  some (IntKind.wrap .u64 (v4.gSeq - o0.gfirst))
theorem ring_Ring_Lost_a_c {o0 : ring_Ring} {r : Int} (hM : ring_Ring_Lost_a o0 = some r) : ACall Tryz.prog 58 ⟨[.ref 100000 0],[(100000,some (.blk 131 [.int .i64 o0.gcapacity,.int .i64 o0.gused,.row 100001,.bool o0.gbegun,.int .i64 o0.gcomponent,.int .u64 o0.gfirst,.int .u64 o0.gnext])),(100001,some (.sow 51 29 (List.map RRec.dv o0.glist)))],.int .u64 r,[(100000,some (.blk 131 [.int .i64 o0.gcapacity,.int .i64 o0.gused,.row 100001,.bool o0.gbegun,.int .i64 o0.gcomponent,.int .u64 o0.gfirst,.int .u64 o0.gnext])),(100001,some (.sow 51 29 (List.map RRec.dv o0.glist)))],[]⟩ := by
 unfold ring_Ring_Lost_a at hM
 refine ACall.body Tryz.func58 Tryz.ntmps58 rfl rfl rfl rfl ?_
 refine a_seq (ar (.cons (o_assign rfl)<|.nil _) ?_)
 refine a_seq (a_seq (ar (.cons (o_move rfl)<|.cons (o_ptr_eq rfl)<|.nil _) ?_))
 refine a_cond _ rfl (fun c=>by cases c) (fun _=>?_)
 refine a_skip (a_seq (a_seq (ar (.cons (o_move rfl)<|.cons (o_nilCheck rfl)<|.cons (o_fieldAddr rfl)<|.cons (o_load_s rfl rfl rfl)<|.cons (t_len_s rfl rfl)<|.cons (o_int rfl rfl rfl)<|.nil _) ?_)))
 refine a_cond _ rfl (fun h2=>?_) (fun h2=>?_)
 ·replace hM:=(of_if hM).1 h2
  refine a_seq (ad mixed (.cons (o_move rfl)<|.cons (o_nilCheck rfl)<|.cons (o_fieldAddr rfl)<|.cons (o_load_s rfl rfl rfl)<|.cons (o_move rfl)<|.cons (o_nilCheck rfl)<|.cons (o_fieldAddr rfl)<|.cons (o_load_s rfl rfl rfl)<|.cons (o_int rfl rfl rfl)<|.cons (o_assign rfl)<|.nil _) ?_)
  obtain rfl:=Option.some.inj hM
  refine a_imp (σ' := ⟨[(2,.int .u64 (IntKind.wrap .u64 (o0.gnext - o0.gfirst)))],[(100000,some (.blk 131 [.int .i64 o0.gcapacity,.int .i64 o0.gused,.row 100001,.bool o0.gbegun,.int .i64 o0.gcomponent,.int .u64 o0.gfirst,.int .u64 o0.gnext])),(100001,some (.sow 51 29 (List.map RRec.dv o0.glist)))],[100000,100001]⟩) (Imp.sh (fun i=>i) rfl rfl rfl rfl rfl rfl) ?_
  exact a_ret (a_post (.r1 (.tmp rfl)) (DLe.refl _) (PostOk.spec (.cons rfl (.cons rfl .nil))))
 ·replace hM:=(of_if hM).2 h2
  refine a_skip (a_seq ?_)
  obtain ⟨v4,h3,hM⟩ := of_bind hM
  refine ad mixed (.cons (o_move rfl)<|.cons (o_nilCheck rfl)<|.cons (o_fieldAddr rfl)<|.cons (o_load_s rfl rfl rfl)<|.cons (t_index_s h3 rfl rfl rfl)<|.cons (o_fieldAddr_s rfl)<|.cons (t_load_ss h3 rfl rfl rfl rfl)<|.cons (o_move rfl)<|.cons (o_nilCheck rfl)<|.cons (o_fieldAddr rfl)<|.cons (o_load_s rfl rfl rfl)<|.cons (o_int rfl rfl rfl)<|.cons (o_assign rfl)<|.nil _) ?_
  obtain rfl:=Option.some.inj hM
  refine a_imp (σ' := ⟨[(2,.int .u64 (IntKind.wrap .u64 (v4.gSeq - o0.gfirst)))],[(100000,some (.blk 131 [.int .i64 o0.gcapacity,.int .i64 o0.gused,.row 100001,.bool o0.gbegun,.int .i64 o0.gcomponent,.int .u64 o0.gfirst,.int .u64 o0.gnext])),(100001,some (.sow 51 29 (List.map RRec.dv o0.glist)))],[100000,100001]⟩) (Imp.sh (fun i=>i) rfl rfl rfl rfl rfl rfl) ?_
  exact a_ret (a_post (.r1 (.tmp rfl)) (DLe.refl _) (PostOk.spec (.cons rfl (.cons rfl .nil))))
def ring_Ring_Records_a_K2 (a3 : List RRec) : Option (List RRec) :=
 some a3
def ring_Ring_Records_a_L3 (o0 : ring_Ring) (k4 : Nat) (a5 : List RRec) : Option (List RRec) :=
 (idx o0.glist (k4 : Int)).bind fun v10=>
 (ring_clone v10).bind fun v12=>
 chk (apOk 248 (List.length a5 + List.length [v12]))<|
 some (a5++[v12])
def ring_Ring_Records_a_K1 (o0 : ring_Ring) (a2 : List RRec) : Option (List RRec) :=
 (foldM' 9223372036854775807 (List.length o0.glist : Int) (fun k4 s=>ring_Ring_Records_a_L3 o0 k4 s) a2).bind fun s=>ring_Ring_Records_a_K2 s
def ring_Ring_Records_a (o0 : ring_Ring) : Option (List RRec) :=
 (ring_Ring_Lost_a o0).bind fun v15=>
 if (decide (0 < v15)) = true then
  chk (apOk 248 (List.length [(RRec.mk o0.gcomponent o0.gfirst (VClk.mk (arr 0 [0,0,0,0,0,0,0,0,0,0,0,0,0,0,0,0])) 2 (AEv.mk 0 0 0 0 0 0 0 0 []) v15)]))<|
  ring_Ring_Records_a_K1 o0 [(RRec.mk o0.gcomponent o0.gfirst (VClk.mk (arr 0 [0,0,0,0,0,0,0,0,0,0,0,0,0,0,0,0])) 2 (AEv.mk 0 0 0 0 0 0 0 0 []) v15)]
 else
  ring_Ring_Records_a_K1 o0 ([] : List RRec)
theorem ring_Ring_Records_a_c {o0 : ring_Ring} {r : (List RRec)} (hM : ring_Ring_Records_a o0 = some r) : ACall Tryz.prog 31 ⟨[.ref 100000 0],[(100000,some (.blk 131 [.int .i64 o0.gcapacity,.int .i64 o0.gused,.row 100001,.bool o0.gbegun,.int .i64 o0.gcomponent,.int .u64 o0.gfirst,.int .u64 o0.gnext])),(100001,some (.sow 51 29 (List.map RRec.dv o0.glist)))],.row 50000,[(50000,some (.row 51 29 (List.map RRec.dv r))),(100000,some (.blk 131 [.int .i64 o0.gcapacity,.int .i64 o0.gused,.row 100001,.bool o0.gbegun,.int .i64 o0.gcomponent,.int .u64 o0.gfirst,.int .u64 o0.gnext])),(100001,some (.sow 51 29 (List.map RRec.dv o0.glist)))],[50000]⟩ := by
 unfold ring_Ring_Records_a at hM
 refine ACall.body Tryz.func31 Tryz.ntmps31 rfl rfl rfl rfl ?_
 refine a_seq (ar (.cons (o_assign rfl)<|.nil _) ?_)
 refine a_seq (a_seq (ar (.cons (o_move rfl)<|.cons (o_ptr_eq rfl)<|.nil _) ?_))
 refine a_cond _ rfl (fun c=>by cases c) (fun _=>?_)
 refine a_skip (a_seq (ar (.cons (o_assign rfl)<|.nil _) ?_))
 refine a_cut (α:=(List RRec)) (fun s=>⟨[(0,.ref 100000 0),(3,.row 10001)],[(10001,some (.row 51 29 (List.map RRec.dv s))),(100000,some (.blk 131 [.int .i64 o0.gcapacity,.int .i64 o0.gused,.row 100001,.bool o0.gbegun,.int .i64 o0.gcomponent,.int .u64 o0.gfirst,.int .u64 o0.gnext])),(100001,some (.sow 51 29 (List.map RRec.dv o0.glist)))],[10001,100000,100001]⟩) (fun s=>ring_Ring_Records_a_K1 o0 s = some r) ?_ ?_
 ·refine a_seq ?_
  obtain ⟨v15,h14,hM⟩ := of_bind hM
  refine ar (.cons (o_move rfl)<|.cons (o_callN (fun i=>bif Nat.beq i 100000 then 100000 else bif Nat.beq i 100001 then 100001 else i) 0 (ring_Ring_Lost_a_c h14) rfl (DLeL.refl _) (.cons rfl (.cons rfl .nil)) rfl (.cons rfl (.cons rfl .nil)))<|.cons (o_assign rfl)<|.nil _) ?_
  refine a_seq (ar (.cons (o_move rfl)<|.cons (o_int rfl rfl rfl)<|.nil _) ?_)
  refine a_cond _ rfl (fun h16=>?_) (fun h16=>?_)
  ·replace hM:=(of_if hM).1 h16
   obtain ⟨h17,hM⟩ := of_chk hM
   refine ad mixed (.cons (o_move rfl)<|.cons (o_move rfl)<|.cons (o_nilCheck rfl)<|.cons (o_fieldAddr rfl)<|.cons (o_load_s rfl rfl rfl)<|.cons (o_move rfl)<|.cons (o_nilCheck rfl)<|.cons (o_fieldAddr rfl)<|.cons (o_load_s rfl rfl rfl)<|.cons (o_move rfl)<|.cons (o_build rfl rfl rfl)<|.cons (t_buildW RRec.dv ([(RRec.mk o0.gcomponent o0.gfirst (VClk.mk (arr 0 [0,0,0,0,0,0,0,0,0,0,0,0,0,0,0,0])) 2 (AEv.mk 0 0 0 0 0 0 0 0 []) v15)] : List RRec) rfl rfl rfl rfl rfl rfl (.cons (DLe.agg (.cons (DLe.refl _) (.cons (DLe.refl _) (.cons (DLe.refl _) (.cons (DLe.refl _) (.cons (DLe.refl _) (.cons (DLe.refl _) (.cons (DLe.refl _) (.cons (DLe.refl _) (.cons (DLe.refl _) (.cons (DLe.refl _) (.cons (DLe.refl _) (.cons (DLe.refl _) (.cons (DLe.refl _) (.cons (DLe.refl _) (.cons (DLe.refl _) (.cons (DLe.refl _) (.cons (DLe.refl _) (.cons (DLe.refl _) (.cons (DLe.refl _) (.cons (DLe.refl _) (.cons (DLe.refl _) (.cons (DLe.refl _) (.cons (DLe.refl _) (.cons (DLe.refl _) (.cons (DLe.refl _) (.cons (DLe.refl _) (.cons (DLe.refl _) (.cons (DLe.nils _) (.cons (DLe.refl _) .nil)))))))))))))))))))))))))))))) .nil))<|.cons (t_append_n RRec.dv [(RRec.mk o0.gcomponent o0.gfirst (VClk.mk (arr 0 [0,0,0,0,0,0,0,0,0,0,0,0,0,0,0,0])) 2 (AEv.mk 0 0 0 0 0 0 0 0 []) v15)] h17 rfl rfl (Src.row rfl))<|.cons (o_assign rfl)<|.nil _) ?_
   exact ⟨[(RRec.mk o0.gcomponent o0.gfirst (VClk.mk (arr 0 [0,0,0,0,0,0,0,0,0,0,0,0,0,0,0,0])) 2 (AEv.mk 0 0 0 0 0 0 0 0 []) v15)],hM,(Imp.sh (fun i=>bif Nat.beq i 10001 then 25 else i) rfl rfl rfl rfl rfl rfl)⟩
  ·replace hM:=(of_if hM).2 h16
   refine a_skip ?_
   exact ⟨([] : List RRec),hM,((Imp.nilRow (t:=3) (id:=10004) 51 29 rfl rfl).trans (Imp.sh (fun i=>bif Nat.beq i 10001 then 10004 else i) rfl rfl rfl rfl rfl rfl))⟩
 ·rintro a2 hM
  replace hM : ring_Ring_Records_a_K1 o0 a2 = some r:=hM
  unfold ring_Ring_Records_a_K1 at hM
  refine a_cut (α:=(List RRec)) (fun s=>⟨[(3,.row 10002)],[(10002,some (.row 51 29 (List.map RRec.dv s))),(100000,some (.blk 131 [.int .i64 o0.gcapacity,.int .i64 o0.gused,.row 100001,.bool o0.gbegun,.int .i64 o0.gcomponent,.int .u64 o0.gfirst,.int .u64 o0.gnext])),(100001,some (.sow 51 29 (List.map RRec.dv o0.glist)))],[10002,100000,100001]⟩) (fun s=>ring_Ring_Records_a_K2 s = some r) ?_ ?_
  ·refine a_seq (ar (.cons (o_move rfl)<|.cons (o_nilCheck rfl)<|.cons (o_fieldAddr rfl)<|.cons (o_load_s rfl rfl rfl)<|.cons (t_len_s rfl rfl)<|.cons (o_move rfl)<|.nil _) ?_)
   obtain ⟨a5,hL6,hK6⟩ := of_bind hM
   refine a_block ?_
   refine a_fold (fun k4 (s : (List RRec))=>⟨[(3,.row 10003),(29,.row 100001),(30,.int .i64 (List.length o0.glist : Int)),(31,.int .i64 (k4 : Int))],[(10003,some (.row 51 29 (List.map RRec.dv s))),(100000,some (.blk 131 [.int .i64 o0.gcapacity,.int .i64 o0.gused,.row 100001,.bool o0.gbegun,.int .i64 o0.gcomponent,.int .u64 o0.gfirst,.int .u64 o0.gnext])),(100001,some (.sow 51 29 (List.map RRec.dv o0.glist)))],[10003,100000,100001]⟩) _ hL6 (Imp.sh (fun i=>bif Nat.beq i 10003 then 10001 else i) rfl rfl rfl rfl rfl rfl) ?_ ?_
   ·rintro k4 a5 t7 hk4 hx4 hM
    replace hM : ring_Ring_Records_a_L3 o0 k4 a5 = some t7:=hM
    unfold ring_Ring_Records_a_L3 at hM
    refine a_seq (ar (.cons (o_int rfl rfl rfl)<|.nil _) ?_)
    refine a_seq ?_
    refine a_cond _ rfl (fun _=>?_) (fun c=>absurd hk4 (of_decide_eq_false c))
    refine a_skip (a_seq (a_block (a_seq ?_)))
    obtain ⟨v10,h9,hM⟩ := of_bind hM
    refine ar (.cons (t_index_s h9 rfl rfl rfl)<|.cons (t_load_sr h9 rfl rfl rfl rfl rfl)<|.cons (o_alloc rfl)<|.cons (o_store rfl rfl rfl rfl rfl rfl rfl)<|.nil _) ?_
    obtain ⟨v12,h11,hM⟩ := of_bind hM
    obtain ⟨h13,hM⟩ := of_chk hM
    refine ar (.cons (o_move rfl)<|.cons (o_load_r rfl rfl rfl rfl)<|.cons (o_call (ring_clone_c h11) rfl (DLeL.refl _) rfl)<|.cons (t_build RRec.dv ([v12] : List RRec) rfl rfl rfl rfl rfl rfl rfl)<|.cons (t_append [v12] h13 rfl rfl rfl (Src.row rfl))<|.cons (o_assign rfl)<|.nil _) ?_
    refine ar (.cons (o_add rfl rfl (inR_i64 hk4 hx4))<|.cons (o_move rfl)<|.nil _) ?_
    obtain rfl:=Option.some.inj hM
    exact (Imp.of (fun i=>bif Nat.beq i 10003 then 39 else i) (.cons rfl (DLe.refl _) (.cons rfl (DLe.refl _) (.cons rfl (DLe.refl _) (.cons rfl (DLe.succ _ _) .nil)))) (.cons rfl (.refl _) (.cons rfl (.refl _) (.cons rfl (.refl _) .nil))) rfl rfl rfl)
   ·rintro k4 hk4 hx4
    refine a_seq (ar (.cons (o_int rfl rfl rfl)<|.nil _) ?_)
    refine a_seq ?_
    refine a_cond _ rfl (fun c=>absurd (of_decide_eq_true c) (Int.not_lt.2 hk4)) (fun _=>?_)
    refine a_exit ?_
    exact ⟨a5,hK6,(Imp.sh (fun i=>bif Nat.beq i 10002 then 10003 else i) rfl rfl rfl rfl rfl rfl)⟩
  ·rintro a3 hM
   replace hM : ring_Ring_Records_a_K2 a3 = some r:=hM
   unfold ring_Ring_Records_a_K2 at hM
   refine a_seq (ar (.cons (o_move rfl)<|.cons (o_assign rfl)<|.nil _) ?_)
   obtain rfl:=Option.some.inj hM
   refine a_imp (σ' := ⟨[(2,.row 50000)],[(50000,some (.row 51 29 (List.map RRec.dv a3))),(100000,some (.blk 131 [.int .i64 o0.gcapacity,.int .i64 o0.gused,.row 100001,.bool o0.gbegun,.int .i64 o0.gcomponent,.int .u64 o0.gfirst,.int .u64 o0.gnext])),(100001,some (.sow 51 29 (List.map RRec.dv o0.glist)))],[50000,100000,100001]⟩) (Imp.sh (fun i=>bif Nat.beq i 50000 then 10002 else i) rfl rfl rfl rfl rfl rfl) ?_
   exact a_ret (a_post (.r1 (.tmp rfl)) (DLe.refl _) (PostOk.spec (.cons rfl (.cons rfl (.cons rfl .nil)))))
def recorder_newest_K1 (a4 : Int) (a5 : Int) (a6 : List RRec) (a7 : Bool) (a8 : Int) (a9 : Int) (a10 : Int) : Option ((List RRec) × Int) :=
 (ring_Ring_Records_a (ring_Ring.mk a4 a5 a6 a7 a8 a9 a10)).bind fun v12=>
 some (v12,0)
def recorder_newest_L2 (x0 : List RRec) (k13 : Nat) (a14 : Int) (a15 : Int) (a16 : List RRec) (a17 : Bool) (a18 : Int) (a19 : Int) (a20 : Int) : Option (Ctl (Int × Int × (List RRec) × Bool × Int × Int × Int) ((List RRec) × Int)) :=
 (idx x0 (k13 : Int)).bind fun v25=>
 (ring_Ring_Put_a1 v25 (ring_Ring.mk a14 a15 a16 a17 a18 a19 a20)).bind fun v27=>
 if (v27.2.1 != 0) = true then
  some (.done (([] : List RRec),v27.2.1))
 else
  some (.next (v27.2.2.gcapacity,v27.2.2.gused,v27.2.2.glist,v27.2.2.gbegun,v27.2.2.gcomponent,v27.2.2.gfirst,v27.2.2.gnext))
def recorder_newest (x0 : List RRec) (x1 : Int) : Option ((List RRec) × Int) :=
 (ring_New x1).bind fun v2=>
 match v2 with
 | .inl v2_0=>
  (forM' (E:=(List RRec) × Int) 9223372036854775807 (List.length x0 : Int) (fun k13 s=>recorder_newest_L2 x0 k13 s.1 s.2.1 s.2.2.1 s.2.2.2.1 s.2.2.2.2.1 s.2.2.2.2.2.1 s.2.2.2.2.2.2) (v2_0.gcapacity,v2_0.gused,v2_0.glist,v2_0.gbegun,v2_0.gcomponent,v2_0.gfirst,v2_0.gnext)).bind fun
   | .next s=>recorder_newest_K1 s.1 s.2.1 s.2.2.1 s.2.2.2.1 s.2.2.2.2.1 s.2.2.2.2.2.1 s.2.2.2.2.2.2
   | .done r=>some r
 | .inr v2_1=>
  some (([] : List RRec),1)
theorem recorder_newest_c {x0 : List RRec} {x1 : Int} {r : (List RRec) × Int} (hM : recorder_newest x0 x1 = some r) : PCall Tryz.prog 25 [.sl 29 (List.map RRec.dv x0),.int .i64 x1] (.tup [.sl 29 (List.map RRec.dv r.1),.int .i64 r.2]):=by
 unfold recorder_newest at hM
 refine PCall.body Tryz.func25 Tryz.ntmps25 rfl rfl rfl rfl ?_
 refine a_seq (ar (.cons (o_assign rfl)<|.cons (o_assign rfl)<|.nil _) ?_)
 refine a_seq ?_
 obtain ⟨v2,h1,hM⟩ := of_bind hM
 rcases v2 with v2_0 | v2_1
 ·refine ar (.cons (o_move rfl)<|.cons (o_callN (fun i=>bif Nat.beq i 50001 then 10002 else bif Nat.beq i 50000 then 10001 else i) 2 (ring_New_c0 h1) rfl (DLeL.refl _) .nil rfl .nil)<|.cons (o_move rfl)<|.cons (o_extract rfl rfl)<|.cons (o_extract rfl rfl)<|.cons (o_assign rfl)<|.cons (o_assign rfl)<|.nil _) ?_
  refine a_seq (a_seq (ar (.cons (o_move rfl)<|.cons (o_int rfl rfl rfl)<|.nil _) ?_))
  refine a_cond _ rfl (fun c=>by cases c) (fun _=>?_)
  refine a_skip ?_
  refine a_cut (α:=Int × Int × (List RRec) × Bool × Int × Int × Int) (fun s=>⟨[(6,.ref 10001 0)],[(10001,some (.blk 131 [.int .i64 s.1,.int .i64 s.2.1,.row 10003,.bool s.2.2.2.1,.int .i64 s.2.2.2.2.1,.int .u64 s.2.2.2.2.2.1,.int .u64 s.2.2.2.2.2.2])),(10003,some (.sow 51 29 (List.map RRec.dv s.2.2.1)))],[10001,10003]⟩) (fun s=>recorder_newest_K1 s.1 s.2.1 s.2.2.1 s.2.2.2.1 s.2.2.2.2.1 s.2.2.2.2.2.1 s.2.2.2.2.2.2 = some r) ?_ ?_
  ·refine a_seq (ar (.cons (o_move rfl)<|.cons (t_len rfl)<|.cons (o_move rfl)<|.nil _) ?_)
   obtain ⟨t21,hL21,hK21⟩ := of_bind hM
   refine a_block ?_
   refine a_for (fun k13 (s : Int × Int × (List RRec) × Bool × Int × Int × Int)=>⟨[(6,.ref 10001 0),(20,.sl 29 (List.map RRec.dv x0)),(21,.int .i64 (List.length x0 : Int)),(22,.int .i64 (k13 : Int))],[(10001,some (.blk 131 [.int .i64 s.1,.int .i64 s.2.1,.row 10004,.bool s.2.2.2.1,.int .i64 s.2.2.2.2.1,.int .u64 s.2.2.2.2.2.1,.int .u64 s.2.2.2.2.2.2])),(10004,some (.sow 51 29 (List.map RRec.dv s.2.2.1)))],[10001,10004]⟩) _ hL21 (Imp.of (fun i=>bif Nat.beq i 10004 then 10002 else i) (.cons rfl (DLe.refl _) (.cons rfl (DLe.refl _) (.cons rfl (DLe.refl _) (.cons rfl (DLe.refl _) .nil)))) (.cons rfl (.refl _) (.cons rfl .sow .nil)) rfl rfl rfl) ?_ ?_
   ·rintro k13 ⟨a14,a15,a16,a17,a18,a19,a20⟩ t22 hk13 hx13 hM hE21
    replace hM : recorder_newest_L2 x0 k13 a14 a15 a16 a17 a18 a19 a20 = some t22:=hM
    unfold recorder_newest_L2 at hM
    refine a_seq (ar (.cons (o_int rfl rfl rfl)<|.nil _) ?_)
    refine a_seq ?_
    refine a_cond _ rfl (fun _=>?_) (fun c=>absurd hk13 (of_decide_eq_false c))
    refine a_skip (a_seq (a_block (a_seq ?_)))
    obtain ⟨v25,h24,hM⟩ := of_bind hM
    refine ar (.cons (t_index h24 rfl rfl rfl)<|.cons (o_load_er rfl rfl rfl)<|.cons (o_alloc rfl)<|.cons (o_store rfl rfl rfl rfl rfl rfl rfl)<|.nil _) ?_
    refine a_seq ?_
    obtain ⟨v27,h26,hM⟩ := of_bind hM
    refine ar (.cons (o_move rfl)<|.cons (o_load_r rfl rfl rfl rfl)<|.cons (o_callN (fun i=>bif Nat.beq i 50000 then 10005 else bif Nat.beq i 100000 then 10001 else bif Nat.beq i 100001 then 10004 else i) 3 (ring_Ring_Put_a1_c h26) rfl (DLeL.refl _) (.cons rfl (.cons rfl .nil)) rfl .nil)<|.cons (o_move rfl)<|.cons (o_extract rfl rfl)<|.cons (o_extract rfl rfl)<|.cons (o_assign rfl)<|.cons (o_assign rfl)<|.nil _) ?_
    refine a_seq (ar (.cons (o_move rfl)<|.cons (o_int rfl rfl rfl)<|.nil _) ?_)
    refine a_cond _ rfl (fun h28=>?_) (fun h28=>?_)
    ·replace hM:=(of_if hM).1 h28
     refine a_seq (ar (.cons (o_move rfl)<|.cons (o_assign rfl)<|.cons (o_assign rfl)<|.nil _) ?_)
     obtain rfl:=Option.some.inj hM
     obtain rfl:=hE21 _ rfl
     obtain rfl:=Option.some.inj hK21
     exact a_ret (a_post (.r2 (.tmp rfl) (.tmp rfl)) (DLe.tup (.cons (DLe.nils _) (.cons (DLe.refl _) .nil))) PostOk.nil.spec)
    ·replace hM:=(of_if hM).2 h28
     refine a_skip (ar (.cons (o_add rfl rfl (inR_i64 hk13 hx13))<|.cons (o_move rfl)<|.nil _) ?_)
     obtain rfl:=Option.some.inj hM
     exact ⟨(v27.2.2.gcapacity,v27.2.2.gused,v27.2.2.glist,v27.2.2.gbegun,v27.2.2.gcomponent,v27.2.2.gfirst,v27.2.2.gnext),rfl,(Imp.of (fun i=>bif Nat.beq i 10004 then 10005 else i) (.cons rfl (DLe.refl _) (.cons rfl (DLe.refl _) (.cons rfl (DLe.refl _) (.cons rfl (DLe.succ _ _) .nil)))) (.cons rfl (.refl _) (.cons rfl (.refl _) .nil)) rfl rfl rfl)⟩
   ·rintro k13 ⟨a14,a15,a16,a17,a18,a19,a20⟩ hk13 hx13 rfl
    refine a_seq (ar (.cons (o_int rfl rfl rfl)<|.nil _) ?_)
    refine a_seq ?_
    refine a_cond _ rfl (fun c=>absurd (of_decide_eq_true c) (Int.not_lt.2 hk13)) (fun _=>?_)
    refine a_exit ?_
    exact ⟨(a14,a15,a16,a17,a18,a19,a20),hK21,(Imp.sh (fun i=>bif Nat.beq i 10003 then 10004 else i) rfl rfl rfl rfl rfl rfl)⟩
  ·rintro ⟨a4,a5,a6,a7,a8,a9,a10⟩ hM
   replace hM : recorder_newest_K1 a4 a5 a6 a7 a8 a9 a10 = some r:=hM
   unfold recorder_newest_K1 at hM
   refine a_seq ?_
   obtain ⟨v12,h11,hM⟩ := of_bind hM
   refine ar (.cons (o_move rfl)<|.cons (o_callN (fun i=>bif Nat.beq i 50000 then 37 else bif Nat.beq i 100000 then 10001 else bif Nat.beq i 100001 then 10003 else i) 1 (ring_Ring_Records_a_c h11) rfl (DLeL.refl _) (.cons rfl (.cons rfl .nil)) rfl (.cons rfl (.cons rfl .nil)))<|.cons (o_assign rfl)<|.cons (o_assign rfl)<|.nil _) ?_
   obtain rfl:=Option.some.inj hM
   refine a_imp (Imp.freeze (id:=37) rfl) ?_
   exact a_ret (a_post (.r2 (.tmp rfl) (.tmp rfl)) (DLe.refl _) PostOk.nil.spec)
 ·refine ar (.cons (o_move rfl)<|.cons (o_callN (fun i=>i) 0 (ring_New_c1 h1) rfl (DLeL.refl _) .nil rfl .nil)<|.cons (o_move rfl)<|.cons (o_extract rfl rfl)<|.cons (o_extract rfl rfl)<|.cons (o_assign rfl)<|.cons (o_assign rfl)<|.nil _) ?_
  refine a_seq (a_seq (ar (.cons (o_move rfl)<|.cons (o_int rfl rfl rfl)<|.nil _) ?_))
  refine a_cond _ rfl (fun _=>?_) (fun c=>by cases c)
  refine a_seq (ar (.cons (o_move rfl)<|.cons (o_assign rfl)<|.cons (o_assign rfl)<|.nil _) ?_)
  obtain rfl:=Option.some.inj hM
  exact a_ret (a_post (.r2 (.tmp rfl) (.tmp rfl)) (DLe.tup (.cons (DLe.nils _) (.cons (DLe.refl _) .nil))) PostOk.nil.spec)
def budget_Of_K1 : Option Int :=
 some 0
def budget_Of_K9 (x0 : AEv) (a8 : Bool) : Option Int :=
 if a8 = true then
  some 3
 else
  if (x0.gKind == 10) = true then
   if (x0.gCopy == 1) = true then
    some 1
   else
    some 3
  else
   if (x0.gKind == 7) = true then
    some 4
   else
    budget_Of_K1
def budget_Of_K6 (x0 : AEv) (a5 : Bool) : Option Int :=
 if a5 = true then
  some 2
 else
  if (x0.gKind == 8) = true then
   budget_Of_K9 x0 (x0.gKind == 8)
  else
   budget_Of_K9 x0 (x0.gKind == 9)
def budget_Of_K3 (x0 : AEv) (a2 : Bool) : Option Int :=
 if a2 = true then
  some 1
 else
  if (x0.gKind == 5) = true then
   budget_Of_K6 x0 (x0.gKind == 5)
  else
   budget_Of_K6 x0 (x0.gKind == 6)
def budget_Of (x0 : AEv) : Option Int :=
 if (x0.gKind == 1) = true then
  budget_Of_K3 x0 (x0.gKind == 1)
 else
  if (x0.gKind == 2) = true then
   budget_Of_K3 x0 (x0.gKind == 2)
  else
   if (x0.gKind == 3) = true then
    budget_Of_K3 x0 (x0.gKind == 3)
   else
    if (x0.gKind == 4) = true then
     budget_Of_K3 x0 (x0.gKind == 4)
    else
     budget_Of_K3 x0 (x0.gKind == 11)
theorem budget_Of_c {x0 : AEv} {r : Int} (hM : budget_Of x0 = some r) : PCall Tryz.prog 54 [.agg (AEv.cs x0)] (.int .u8 r):=by
 unfold budget_Of at hM
 refine PCall.body Tryz.func54 Tryz.ntmps54 rfl rfl rfl rfl ?_
 refine a_seq ?_
 refine a_region (.cons (o_box rfl rfl)<|.cons (o_assign rfl)<|.nil _) (by kernel_rfl) (by kernel_rfl) ?_
 refine a_cut (α:=Unit) (fun s=>⟨[],[],[]⟩) (fun s=>budget_Of_K1 = some r) ?_ ?_
 ·refine a_seq ?_
  refine a_region (.cons (o_fieldAddr rfl)<|.cons (o_load_s rfl rfl rfl)<|.nil _) (by kernel_rfl) (by kernel_rfl) ?_
  refine a_block ?_
  refine a_cut (α:=Bool) (fun s=>⟨[(1,.ref 1 0),(4,.int .u8 x0.gKind),(5,.bool s)],[(1,some (.blk 49 (AEv.cs x0)))],[1]⟩) (fun s=>budget_Of_K3 x0 s = some r) ?_ ?_
  ·refine a_seq ?_
   refine a_region (.cons (o_int rfl rfl rfl)<|.cons (o_assign rfl)<|.nil _) (by kernel_rfl) (by kernel_rfl) ?_
   refine a_cond _ rfl (fun h16=>?_) (fun h16=>?_)
   ·replace hM:=(of_if hM).1 h16
    refine a_skip ?_
    exact ⟨(x0.gKind == 1),hM,(Imp.of (fun i=>i) (.cons rfl (DLe.refl _) (.cons rfl (DLe.refl _) (.cons rfl (DLe.refl _) .nil))) (.cons rfl (.refl _) .nil) rfl rfl rfl)⟩
   ·replace hM:=(of_if hM).2 h16
    refine a_seq ?_
    refine a_region (.cons (o_int rfl rfl rfl)<|.cons (o_assign rfl)<|.nil _) (by kernel_rfl) (by kernel_rfl) ?_
    refine a_cond _ rfl (fun h17=>?_) (fun h17=>?_)
    ·replace hM:=(of_if hM).1 h17
     refine a_skip ?_
     exact ⟨(x0.gKind == 2),hM,(Imp.of (fun i=>i) (.cons rfl (DLe.refl _) (.cons rfl (DLe.refl _) (.cons rfl (DLe.refl _) .nil))) (.cons rfl (.refl _) .nil) rfl rfl rfl)⟩
    ·replace hM:=(of_if hM).2 h17
     refine a_seq ?_
     refine a_region (.cons (o_int rfl rfl rfl)<|.cons (o_assign rfl)<|.nil _) (by kernel_rfl) (by kernel_rfl) ?_
     refine a_cond _ rfl (fun h18=>?_) (fun h18=>?_)
     ·replace hM:=(of_if hM).1 h18
      refine a_skip ?_
      exact ⟨(x0.gKind == 3),hM,(Imp.of (fun i=>i) (.cons rfl (DLe.refl _) (.cons rfl (DLe.refl _) (.cons rfl (DLe.refl _) .nil))) (.cons rfl (.refl _) .nil) rfl rfl rfl)⟩
     ·replace hM:=(of_if hM).2 h18
      refine a_seq ?_
      refine a_region (.cons (o_int rfl rfl rfl)<|.cons (o_assign rfl)<|.nil _) (by kernel_rfl) (by kernel_rfl) ?_
      refine a_cond _ rfl (fun h19=>?_) (fun h19=>?_)
      ·replace hM:=(of_if hM).1 h19
       refine a_skip ?_
       exact ⟨(x0.gKind == 4),hM,(Imp.of (fun i=>i) (.cons rfl (DLe.refl _) (.cons rfl (DLe.refl _) (.cons rfl (DLe.refl _) .nil))) (.cons rfl (.refl _) .nil) rfl rfl rfl)⟩
      ·replace hM:=(of_if hM).2 h19
       refine a_region (.cons (o_int rfl rfl rfl)<|.cons (o_assign rfl)<|.nil _) (by kernel_rfl) (by kernel_rfl) ?_
       exact ⟨(x0.gKind == 11),hM,(Imp.of (fun i=>i) (.cons rfl (DLe.refl _) (.cons rfl (DLe.refl _) (.cons rfl (DLe.refl _) .nil))) (.cons rfl (.refl _) .nil) rfl rfl rfl)⟩
  ·rintro a2 hM
   replace hM : budget_Of_K3 x0 a2 = some r:=hM
   unfold budget_Of_K3 at hM
   refine a_cond _ rfl (fun h4=>?_) (fun h4=>?_)
   ·replace hM:=(of_if hM).1 h4
    refine a_seq ?_
    refine a_region (.cons (o_assign rfl)<|.nil _) (by kernel_rfl) (by kernel_rfl) ?_
    obtain rfl:=Option.some.inj hM
    exact a_ret (a_post (.r1 (.tmp rfl)) (DLe.refl _) PostOk.nil.spec)
   ·replace hM:=(of_if hM).2 h4
    refine a_cut (α:=Bool) (fun s=>⟨[(1,.ref 1 0),(4,.int .u8 x0.gKind),(11,.bool s)],[(1,some (.blk 49 (AEv.cs x0)))],[1]⟩) (fun s=>budget_Of_K6 x0 s = some r) ?_ ?_
    ·refine a_seq ?_
     refine a_region (.cons (o_int rfl rfl rfl)<|.cons (o_assign rfl)<|.nil _) (by kernel_rfl) (by kernel_rfl) ?_
     refine a_cond _ rfl (fun h15=>?_) (fun h15=>?_)
     ·replace hM:=(of_if hM).1 h15
      refine a_skip ?_
      exact ⟨(x0.gKind == 5),hM,(Imp.of (fun i=>i) (.cons rfl (DLe.refl _) (.cons rfl (DLe.refl _) (.cons rfl (DLe.refl _) .nil))) (.cons rfl (.refl _) .nil) rfl rfl rfl)⟩
     ·replace hM:=(of_if hM).2 h15
      refine a_region (.cons (o_int rfl rfl rfl)<|.cons (o_assign rfl)<|.nil _) (by kernel_rfl) (by kernel_rfl) ?_
      exact ⟨(x0.gKind == 6),hM,(Imp.of (fun i=>i) (.cons rfl (DLe.refl _) (.cons rfl (DLe.refl _) (.cons rfl (DLe.refl _) .nil))) (.cons rfl (.refl _) .nil) rfl rfl rfl)⟩
    ·rintro a5 hM
     replace hM : budget_Of_K6 x0 a5 = some r:=hM
     unfold budget_Of_K6 at hM
     refine a_cond _ rfl (fun h7=>?_) (fun h7=>?_)
     ·replace hM:=(of_if hM).1 h7
      refine a_seq ?_
      refine a_region (.cons (o_assign rfl)<|.nil _) (by kernel_rfl) (by kernel_rfl) ?_
      obtain rfl:=Option.some.inj hM
      exact a_ret (a_post (.r1 (.tmp rfl)) (DLe.refl _) PostOk.nil.spec)
     ·replace hM:=(of_if hM).2 h7
      refine a_cut (α:=Bool) (fun s=>⟨[(1,.ref 1 0),(4,.int .u8 x0.gKind),(14,.bool s)],[(1,some (.blk 49 (AEv.cs x0)))],[1]⟩) (fun s=>budget_Of_K9 x0 s = some r) ?_ ?_
      ·refine a_seq ?_
       refine a_region (.cons (o_int rfl rfl rfl)<|.cons (o_assign rfl)<|.nil _) (by kernel_rfl) (by kernel_rfl) ?_
       refine a_cond _ rfl (fun h14=>?_) (fun h14=>?_)
       ·replace hM:=(of_if hM).1 h14
        refine a_skip ?_
        exact ⟨(x0.gKind == 8),hM,(Imp.of (fun i=>i) (.cons rfl (DLe.refl _) (.cons rfl (DLe.refl _) (.cons rfl (DLe.refl _) .nil))) (.cons rfl (.refl _) .nil) rfl rfl rfl)⟩
       ·replace hM:=(of_if hM).2 h14
        refine a_region (.cons (o_int rfl rfl rfl)<|.cons (o_assign rfl)<|.nil _) (by kernel_rfl) (by kernel_rfl) ?_
        exact ⟨(x0.gKind == 9),hM,(Imp.of (fun i=>i) (.cons rfl (DLe.refl _) (.cons rfl (DLe.refl _) (.cons rfl (DLe.refl _) .nil))) (.cons rfl (.refl _) .nil) rfl rfl rfl)⟩
      ·rintro a8 hM
       replace hM : budget_Of_K9 x0 a8 = some r:=hM
       unfold budget_Of_K9 at hM
       refine a_cond _ rfl (fun h10=>?_) (fun h10=>?_)
       ·replace hM:=(of_if hM).1 h10
        refine a_seq ?_
        refine a_region (.cons (o_assign rfl)<|.nil _) (by kernel_rfl) (by kernel_rfl) ?_
        obtain rfl:=Option.some.inj hM
        exact a_ret (a_post (.r1 (.tmp rfl)) (DLe.refl _) PostOk.nil.spec)
       ·replace hM:=(of_if hM).2 h10
        refine a_seq ?_
        refine a_region (.cons (o_int rfl rfl rfl)<|.cons (o_assign rfl)<|.nil _) (by kernel_rfl) (by kernel_rfl) ?_
        refine a_cond _ rfl (fun h11=>?_) (fun h11=>?_)
        ·replace hM:=(of_if hM).1 h11
         refine a_seq ?_
         refine a_seq ?_
         refine a_region (.cons (o_fieldAddr rfl)<|.cons (o_load_s rfl rfl rfl)<|.cons (o_int rfl rfl rfl)<|.nil _) (by kernel_rfl) (by kernel_rfl) ?_
         refine a_cond _ rfl (fun h12=>?_) (fun h12=>?_)
         ·replace hM:=(of_if hM).1 h12
          refine a_seq ?_
          refine a_region (.cons (o_assign rfl)<|.nil _) (by kernel_rfl) (by kernel_rfl) ?_
          obtain rfl:=Option.some.inj hM
          exact a_ret (a_post (.r1 (.tmp rfl)) (DLe.refl _) PostOk.nil.spec)
         ·replace hM:=(of_if hM).2 h12
          refine a_skip ?_
          refine a_seq ?_
          refine a_region (.cons (o_assign rfl)<|.nil _) (by kernel_rfl) (by kernel_rfl) ?_
          obtain rfl:=Option.some.inj hM
          exact a_ret (a_post (.r1 (.tmp rfl)) (DLe.refl _) PostOk.nil.spec)
        ·replace hM:=(of_if hM).2 h11
         refine a_seq ?_
         refine a_region (.cons (o_int rfl rfl rfl)<|.cons (o_assign rfl)<|.nil _) (by kernel_rfl) (by kernel_rfl) ?_
         refine a_cond _ rfl (fun h13=>?_) (fun h13=>?_)
         ·replace hM:=(of_if hM).1 h13
          refine a_seq ?_
          refine a_region (.cons (o_assign rfl)<|.nil _) (by kernel_rfl) (by kernel_rfl) ?_
          obtain rfl:=Option.some.inj hM
          exact a_ret (a_post (.r1 (.tmp rfl)) (DLe.refl _) PostOk.nil.spec)
         ·replace hM:=(of_if hM).2 h13
          refine a_skip ?_
          exact ⟨(),hM,(Imp.of (fun i=>i) .nil .nil rfl rfl rfl)⟩
 ·rintro _ hM
  replace hM : budget_Of_K1 = some r:=hM
  unfold budget_Of_K1 at hM
  refine a_seq ?_
  refine a_region (.cons (o_assign rfl)<|.nil _) (by kernel_rfl) (by kernel_rfl) ?_
  obtain rfl:=Option.some.inj hM
  exact a_ret (a_post (.r1 (.tmp rfl)) (DLe.refl _) PostOk.nil.spec)
def math_bits_Mul64 (x0 : Int) (x1 : Int) : Option (Int × Int) :=
 some ((IntKind.wrap .u64 ((IntKind.wrap .u64 ((IntKind.wrap .u64 ((Int.fdiv x0 (2 ^ min (Int.toNat 32) (IntKind.bits .u64))) * (Int.fdiv x1 (2 ^ min (Int.toNat 32) (IntKind.bits .u64))))) + (Int.fdiv (IntKind.wrap .u64 ((IntKind.wrap .u64 ((Int.fdiv x0 (2 ^ min (Int.toNat 32) (IntKind.bits .u64))) * (bitI .and .u64 x1 4294967295))) + (Int.fdiv (IntKind.wrap .u64 ((bitI .and .u64 x0 4294967295) * (bitI .and .u64 x1 4294967295))) (2 ^ min (Int.toNat 32) (IntKind.bits .u64))))) (2 ^ min (Int.toNat 32) (IntKind.bits .u64))))) + (Int.fdiv (IntKind.wrap .u64 ((bitI .and .u64 (IntKind.wrap .u64 ((IntKind.wrap .u64 ((Int.fdiv x0 (2 ^ min (Int.toNat 32) (IntKind.bits .u64))) * (bitI .and .u64 x1 4294967295))) + (Int.fdiv (IntKind.wrap .u64 ((bitI .and .u64 x0 4294967295) * (bitI .and .u64 x1 4294967295))) (2 ^ min (Int.toNat 32) (IntKind.bits .u64))))) 4294967295) + (IntKind.wrap .u64 ((bitI .and .u64 x0 4294967295) * (Int.fdiv x1 (2 ^ min (Int.toNat 32) (IntKind.bits .u64))))))) (2 ^ min (Int.toNat 32) (IntKind.bits .u64))))),(IntKind.wrap .u64 (x0 * x1)))
theorem math_bits_Mul64_c {x0 : Int} {x1 : Int} {r : Int × Int} (hM : math_bits_Mul64 x0 x1 = some r) : PCall Tryz.prog 94 [.int .u64 x0,.int .u64 x1] (.tup [.int .u64 r.1,.int .u64 r.2]):=by
 unfold math_bits_Mul64 at hM
 refine PCall.body Tryz.func94 Tryz.ntmps94 rfl rfl rfl rfl ?_
 refine a_seq ?_
 refine a_region (.cons (o_assign rfl)<|.cons (o_assign rfl)<|.nil _) (by kernel_rfl) (by kernel_rfl) ?_
 refine a_seq ?_
 refine a_region (.cons (o_move rfl)<|.cons (o_int rfl rfl rfl)<|.cons (o_assign rfl)<|.nil _) (by kernel_rfl) (by kernel_rfl) ?_
 refine a_seq ?_
 refine a_region (.cons (o_move rfl)<|.cons (o_shr rfl rfl (by decide))<|.cons (o_assign rfl)<|.nil _) (by kernel_rfl) (by kernel_rfl) ?_
 refine a_seq ?_
 refine a_region (.cons (o_move rfl)<|.cons (o_int rfl rfl rfl)<|.cons (o_assign rfl)<|.nil _) (by kernel_rfl) (by kernel_rfl) ?_
 refine a_seq ?_
 refine a_region (.cons (o_move rfl)<|.cons (o_shr rfl rfl (by decide))<|.cons (o_assign rfl)<|.nil _) (by kernel_rfl) (by kernel_rfl) ?_
 refine a_seq ?_
 refine a_region (.cons (o_move rfl)<|.cons (o_move rfl)<|.cons (o_int rfl rfl rfl)<|.cons (o_assign rfl)<|.nil _) (by kernel_rfl) (by kernel_rfl) ?_
 refine a_seq ?_
 refine a_region (.cons (o_move rfl)<|.cons (o_move rfl)<|.cons (o_int rfl rfl rfl)<|.cons (o_move rfl)<|.cons (o_shr rfl rfl (by decide))<|.cons (o_int rfl rfl rfl)<|.cons (o_assign rfl)<|.nil _) (by kernel_rfl) (by kernel_rfl) ?_
 refine a_seq ?_
 refine a_region (.cons (o_move rfl)<|.cons (o_int rfl rfl rfl)<|.cons (o_assign rfl)<|.nil _) (by kernel_rfl) (by kernel_rfl) ?_
 refine a_seq ?_
 refine a_region (.cons (o_move rfl)<|.cons (o_shr rfl rfl (by decide))<|.cons (o_assign rfl)<|.nil _) (by kernel_rfl) (by kernel_rfl) ?_
 refine a_seq ?_
 refine a_region (.cons (o_move rfl)<|.cons (o_move rfl)<|.cons (o_move rfl)<|.cons (o_int rfl rfl rfl)<|.cons (o_int rfl rfl rfl)<|.cons (o_assign rfl)<|.nil _) (by kernel_rfl) (by kernel_rfl) ?_
 refine a_seq ?_
 refine a_region (.cons (o_move rfl)<|.cons (o_move rfl)<|.cons (o_int rfl rfl rfl)<|.cons (o_move rfl)<|.cons (o_int rfl rfl rfl)<|.cons (o_move rfl)<|.cons (o_shr rfl rfl (by decide))<|.cons (o_int rfl rfl rfl)<|.cons (o_assign rfl)<|.nil _) (by kernel_rfl) (by kernel_rfl) ?_
 refine a_seq ?_
 refine a_region (.cons (o_move rfl)<|.cons (o_move rfl)<|.cons (o_int rfl rfl rfl)<|.cons (o_assign rfl)<|.nil _) (by kernel_rfl) (by kernel_rfl) ?_
 obtain rfl:=Option.some.inj hM
 exact a_ret (a_post (.r2 (.tmp rfl) (.tmp rfl)) (DLe.refl _) PostOk.nil.spec)
def math_bits_Div64_K2 (x0 : Int) (x1 : Int) (x2 : Int) : Option (Int × Int) :=
 if (x0 == 0) = true then
  chk (dvOk .u64 x1 x2)<|
  chk ((0 : Int)≤x1∧(0 : Int) < x2)<|
  some ((x1 / x2),(x1 % x2))
 else
  none
def math_bits_Div64_K1 (x0 : Int) (x1 : Int) (x2 : Int) : Option (Int × Int) :=
 if (decide (x2≤x0)) = true then
  none
 else
  math_bits_Div64_K2 x0 x1 x2
def math_bits_Div64 (x0 : Int) (x1 : Int) (x2 : Int) : Option (Int × Int) :=
 if (x2 == 0) = true then
  none
 else
  math_bits_Div64_K1 x0 x1 x2
theorem math_bits_Div64_c {x0 : Int} {x1 : Int} {x2 : Int} {r : Int × Int} (hM : math_bits_Div64 x0 x1 x2 = some r) : PCall Tryz.prog 95 [.int .u64 x0,.int .u64 x1,.int .u64 x2] (.tup [.int .u64 r.1,.int .u64 r.2]):=by
 unfold math_bits_Div64 at hM
 refine PCall.body Tryz.func95 Tryz.ntmps95 rfl rfl rfl rfl ?_
 refine a_seq ?_
 refine a_region (.cons (o_assign rfl)<|.cons (o_assign rfl)<|.nil _) (by kernel_rfl) (by kernel_rfl) ?_
 refine a_cut (α:=Unit) (fun s=>⟨[(0,.int .u64 x0),(1,.int .u64 x1),(2,.int .u64 x2)],[],[]⟩) (fun s=>math_bits_Div64_K1 x0 x1 x2 = some r) ?_ ?_
 ·refine a_seq ?_
  refine a_region (.cons (o_move rfl)<|.cons (o_int rfl rfl rfl)<|.nil _) (by kernel_rfl) (by kernel_rfl) ?_
  refine a_cond _ rfl (fun h7=>?_) (fun h7=>?_)
  ·replace hM:=(of_if hM).1 h7
   cases hM
  ·replace hM:=(of_if hM).2 h7
   refine a_skip ?_
   exact ⟨(),hM,(Imp.of (fun i=>i) (.cons rfl (DLe.refl _) (.cons rfl (DLe.refl _) (.cons rfl (DLe.refl _) .nil))) .nil rfl rfl rfl)⟩
 ·rintro _ hM
  replace hM : math_bits_Div64_K1 x0 x1 x2 = some r:=hM
  unfold math_bits_Div64_K1 at hM
  refine a_cut (α:=Unit) (fun s=>⟨[(0,.int .u64 x0),(1,.int .u64 x1),(2,.int .u64 x2)],[],[]⟩) (fun s=>math_bits_Div64_K2 x0 x1 x2 = some r) ?_ ?_
  ·refine a_seq ?_
   refine a_region (.cons (o_move rfl)<|.cons (o_move rfl)<|.cons (o_int rfl rfl rfl)<|.nil _) (by kernel_rfl) (by kernel_rfl) ?_
   refine a_cond _ rfl (fun h6=>?_) (fun h6=>?_)
   ·replace hM:=(of_if hM).1 h6
    cases hM
   ·replace hM:=(of_if hM).2 h6
    refine a_skip ?_
    exact ⟨(),hM,(Imp.of (fun i=>i) (.cons rfl (DLe.refl _) (.cons rfl (DLe.refl _) (.cons rfl (DLe.refl _) .nil))) .nil rfl rfl rfl)⟩
  ·rintro _ hM
   replace hM : math_bits_Div64_K2 x0 x1 x2 = some r:=hM
   unfold math_bits_Div64_K2 at hM
   refine a_seq ?_
   refine a_seq ?_
   refine a_region (.cons (o_move rfl)<|.cons (o_int rfl rfl rfl)<|.nil _) (by kernel_rfl) (by kernel_rfl) ?_
   refine a_cond _ rfl (fun h3=>?_) (fun h3=>?_)
   ·replace hM:=(of_if hM).1 h3
    refine a_seq ?_
    obtain ⟨h4,hM⟩ := of_chk hM
    obtain ⟨h5,hM⟩ := of_chk hM
    refine a_draw mixed (.cons (o_move rfl)<|.cons (o_move rfl)<|.cons (o_quo rfl rfl h4)<|.cons (o_move rfl)<|.cons (o_move rfl)<|.cons (o_rem rfl rfl h5)<|.cons (o_assign rfl)<|.cons (o_assign rfl)<|.nil _) (by kernel_rfl) (by kernel_rfl) (by kernel_rfl) ?_
    obtain rfl:=Option.some.inj hM
    exact a_ret (a_post (.r2 (.tmp rfl) (.tmp rfl)) (DLe.refl _) PostOk.nil.spec)
   ·replace hM:=(of_if hM).2 h3
    refine a_skip ?_
    refine a_seq ?_
    cases hM
def budget_share (x0 : Int) (x1 : Int) (x2 : Int) : Option Int :=
 (math_bits_Mul64 (IntKind.wrap .u64 x0) (IntKind.wrap .u64 x1)).bind fun v2=>
 (math_bits_Div64 v2.1 v2.2 (IntKind.wrap .u64 x2)).bind fun v4=>
 some (IntKind.wrap .i64 v4.1)
theorem budget_share_c {x0 : Int} {x1 : Int} {x2 : Int} {r : Int} (hM : budget_share x0 x1 x2 = some r) : PCall Tryz.prog 79 [.int .i64 x0,.int .i64 x1,.int .i64 x2] (.int .i64 r):=by
 unfold budget_share at hM
 refine PCall.body Tryz.func79 Tryz.ntmps79 rfl rfl rfl rfl ?_
 refine a_seq ?_
 refine a_region (.cons (o_assign rfl)<|.nil _) (by kernel_rfl) (by kernel_rfl) ?_
 refine a_seq ?_
 obtain ⟨v2,h1,hM⟩ := of_bind hM
 refine a_region (.cons (o_move rfl)<|.cons (o_conv_w rfl)<|.cons (o_move rfl)<|.cons (o_conv_w rfl)<|.cons (o_call (math_bits_Mul64_c h1) rfl (DLeL.refl _) rfl)<|.cons (o_move rfl)<|.cons (o_extract rfl rfl)<|.cons (o_extract rfl rfl)<|.cons (o_assign rfl)<|.cons (o_assign rfl)<|.nil _) (by kernel_rfl) (by kernel_rfl) ?_
 refine a_seq ?_
 obtain ⟨v4,h3,hM⟩ := of_bind hM
 refine a_region (.cons (o_move rfl)<|.cons (o_move rfl)<|.cons (o_move rfl)<|.cons (o_conv_w rfl)<|.cons (o_call (math_bits_Div64_c h3) rfl (DLeL.refl _) rfl)<|.cons (o_move rfl)<|.cons (o_extract rfl rfl)<|.cons (o_extract rfl rfl)<|.cons (o_assign rfl)<|.cons (o_assign rfl)<|.nil _) (by kernel_rfl) (by kernel_rfl) ?_
 refine a_seq ?_
 refine a_region (.cons (o_move rfl)<|.cons (o_conv_w rfl)<|.cons (o_assign rfl)<|.nil _) (by kernel_rfl) (by kernel_rfl) ?_
 obtain rfl:=Option.some.inj hM
 exact a_ret (a_post (.r1 (.tmp rfl)) (DLe.refl _) PostOk.nil.spec)
def budget_Spread_K4 (a3 : List Int) : Option (List Int) :=
 some a3
def budget_Spread_L7 (x0 : Int) (x1 : Int) (k5 : Nat) (a6 : List Int) : Option (List Int) :=
 (budget_share (k5 : Int) x0 (if x1 < x0 then x1 else x0)).bind fun v11=>
 chk (apOk 8 (List.length a6 + List.length [v11]))<|
 some (a6++[v11])
def budget_Spread (x0 : Int) (x1 : Int) : Option (List Int) :=
 if ((decide (x0 < 1)) || (decide (x1 < 1))) = true then
  some ([] : List Int)
 else
  chk (mkOk 8 0 (if x1 < x0 then x1 else x0))<|
  (foldM' 9223372036854775807 (if x1 < x0 then x1 else x0) (fun k5 s=>budget_Spread_L7 x0 x1 k5 s) ([] : List Int)).bind fun s=>budget_Spread_K4 s
theorem budget_Spread_c {x0 : Int} {x1 : Int} {r : (List Int)} (hM : budget_Spread x0 x1 = some r) : PCall Tryz.prog 56 [.int .i64 x0,.int .i64 x1] (.sl 1 (List.map (DV.int .i64) r)):=by
 unfold budget_Spread at hM
 refine PCall.body Tryz.func56 Tryz.ntmps56 rfl rfl rfl rfl ?_
 refine a_seq ?_
 refine a_region (.cons (o_assign rfl)<|.nil _) (by kernel_rfl) (by kernel_rfl) ?_
 refine a_seq ?_
 refine a_seq ?_
 refine a_region (.cons (o_move rfl)<|.cons (o_int rfl rfl rfl)<|.cons (o_move rfl)<|.cons (o_guardG .bF rfl rfl (fun hb=>(.keep .nil)) (fun hb=>o_move rfl))<|.cons (o_guardG .bF rfl rfl (fun hb=>(.strip rfl hb .nil)) (fun hb=>o_int rfl rfl rfl))<|.cons (o_or rfl rfl)<|.nil _) (by kernel_rfl) (by kernel_rfl) ?_
 refine a_cond _ rfl (fun h1=>?_) (fun h1=>?_)
 ·replace hM:=(of_if hM).1 h1
  refine a_seq ?_
  refine a_region (.cons (o_assign rfl)<|.nil _) (by kernel_rfl) (by kernel_rfl) ?_
  obtain rfl:=Option.some.inj hM
  exact a_ret (a_post (.r1 (.tmp rfl)) (DLe.nils _) PostOk.nil.spec)
 ·replace hM:=(of_if hM).2 h1
  refine a_skip ?_
  refine a_seq ?_
  refine a_region (.cons (o_move rfl)<|.cons (o_move rfl)<|.cons (o_min rfl rfl)<|.cons (o_assign rfl)<|.nil _) (by kernel_rfl) (by kernel_rfl) ?_
  refine a_seq ?_
  obtain ⟨h2,hM⟩ := of_chk hM
  refine a_region (.cons (o_move rfl)<|.cons (t_make (DV.int .i64) 0 h2 rfl rfl rfl rfl)<|.cons (o_assign rfl)<|.nil _) (by kernel_rfl) (by kernel_rfl) ?_
  refine a_cut (α:=(List Int)) (fun s=>⟨[(5,.sl 1 (List.map (DV.int .i64) s))],[],[]⟩) (fun s=>budget_Spread_K4 s = some r) ?_ ?_
  ·refine a_seq ?_
   refine a_region (.cons (o_move rfl)<|.cons (o_move rfl)<|.nil _) (by kernel_rfl) (by kernel_rfl) ?_
   obtain ⟨a6,hL7,hK7⟩ := of_bind hM
   refine a_block ?_
   refine a_fold (fun k5 s=>⟨[(0,.int .i64 x0),(1,.int .i64 (if x1 < x0 then x1 else x0)),(5,.row 10001),(18,.int .i64 (if x1 < x0 then x1 else x0)),(19,.int .i64 (k5 : Int))],[(10001,some (.row 3 1 (List.map (DV.int .i64) s)))],[10001]⟩) _ hL7 (Imp.of (fun i=>bif Nat.beq i 10001 then 17 else i) (.cons rfl (DLe.refl _) (.cons rfl (DLe.refl _) (.cons rfl (DLe.refl _) (.cons rfl (DLe.refl _) (.cons rfl (DLe.refl _) .nil))))) (.cons rfl (.refl _) .nil) rfl rfl rfl) ?_ ?_
   ·rintro k5 a6 t8 hk5 hx5 hM
    replace hM : budget_Spread_L7 x0 x1 k5 a6 = some t8:=hM
    unfold budget_Spread_L7 at hM
    refine a_seq ?_
    refine a_region (.cons (o_int rfl rfl rfl)<|.nil _) (by kernel_rfl) (by kernel_rfl) ?_
    refine a_seq ?_
    refine a_cond _ rfl (fun _=>?_) (fun c=>absurd hk5 (of_decide_eq_false c))
    refine a_skip ?_
    refine a_seq ?_
    refine a_block ?_
    refine a_seq ?_
    refine a_region (.cons (o_move rfl)<|.cons (o_assign rfl)<|.nil _) (by kernel_rfl) (by kernel_rfl) ?_
    obtain ⟨v11,h10,hM⟩ := of_bind hM
    obtain ⟨h12,hM⟩ := of_chk hM
    refine a_region (.cons (o_move rfl)<|.cons (o_move rfl)<|.cons (o_move rfl)<|.cons (o_move rfl)<|.cons (o_call (budget_share_c h10) rfl (DLeL.refl _) rfl)<|.cons (t_build (DV.int .i64) ([v11] : List Int) rfl rfl rfl rfl rfl rfl rfl)<|.cons (t_append [v11] h12 rfl rfl rfl (Src.row rfl))<|.cons (o_assign rfl)<|.nil _) (by kernel_rfl) (by kernel_rfl) ?_
    refine a_region (.cons (o_add rfl rfl (inR_i64 hk5 hx5))<|.cons (o_move rfl)<|.nil _) (by kernel_rfl) (by kernel_rfl) ?_
    obtain rfl:=Option.some.inj hM
    exact (Imp.of (fun i=>bif Nat.beq i 10001 then 28 else i) (.cons rfl (DLe.refl _) (.cons rfl (DLe.refl _) (.cons rfl (DLe.refl _) (.cons rfl (DLe.refl _) (.cons rfl (DLe.succ _ _) .nil))))) (.cons rfl (.refl _) .nil) rfl rfl rfl)
   ·rintro k5 hk5 hx5
    refine a_seq ?_
    refine a_region (.cons (o_int rfl rfl rfl)<|.nil _) (by kernel_rfl) (by kernel_rfl) ?_
    refine a_seq ?_
    refine a_cond _ rfl (fun c=>absurd (of_decide_eq_true c) (Int.not_lt.2 hk5)) (fun _=>?_)
    refine a_exit ?_
    exact ⟨a6,hK7,((Imp.freeze (id:=10001) rfl).trans (Imp.of (fun i=>i) (.cons rfl (DLe.refl _) .nil) .nil rfl rfl rfl))⟩
  ·rintro a3 hM
   replace hM : budget_Spread_K4 a3 = some r:=hM
   unfold budget_Spread_K4 at hM
   refine a_seq ?_
   refine a_region (.cons (o_move rfl)<|.cons (o_assign rfl)<|.nil _) (by kernel_rfl) (by kernel_rfl) ?_
   obtain rfl:=Option.some.inj hM
   exact a_ret (a_post (.r1 (.tmp rfl)) (DLe.refl _) PostOk.nil.spec)
def budget_most_K1 : Option (Int × Int) :=
 some (0,0)
def budget_most_K6 (a2 : Int) : Option (Ctl Int ((Unit) ⊕ (Int × Int))) :=
 some (.next (IntKind.wrap .i64 (a2 - 1)))
def budget_most_K8 (x1 : Int) (a2 : Int) (a7 : Int) : Option (Ctl Int ((Unit) ⊕ (Int × Int))) :=
 if (decide (a7≤x1)) = true then
  some (.done (.inr (a2,a7)))
 else
  budget_most_K6 a2
def budget_most_L12 (x0 : List Int) (x1 : Int) (a2 : Int) (a10 : Int) (a11 : Int) : Option (Ctl (Int × Int) Int) :=
 if ((decide (a11 < a2)) && (decide (a10≤x1))) = true then
  (budget_share a11 (List.length x0 : Int) a2).bind fun v16=>
  (idx x0 v16).bind fun v18=>
  some (.next ((IntKind.wrap .i64 (a10 + v18)),(IntKind.wrap .i64 (a11 + 1))))
 else
  some (.done a10)
def budget_most_L3 (x0 : List Int) (x1 : Int) (a2 : Int) : Option (Ctl Int ((Unit) ⊕ (Int × Int))) :=
 if (decide (0 < a2)) = true then
  (whileM (E:=Int) (fun s=>budget_most_L12 x0 x1 a2 s.1 s.2) (0,0)).bind fun e=>budget_most_K8 x1 a2 e
 else
  some (.done (.inl ()))
def budget_most (x0 : List Int) (x1 : Int) : Option (Int × Int) :=
 (whileM (E:=(Unit) ⊕ (Int × Int)) (fun s=>budget_most_L3 x0 x1 s) (List.length x0 : Int)).bind fun
  | .inl e=>budget_most_K1
  | .inr r=>some r
theorem budget_most_c {x0 : List Int} {x1 : Int} {r : Int × Int} (hM : budget_most x0 x1 = some r) : PCall Tryz.prog 55 [.sl 1 (List.map (DV.int .i64) x0),.int .i64 x1] (.tup [.int .i64 r.1,.int .i64 r.2]):=by
 unfold budget_most at hM
 refine PCall.body Tryz.func55 Tryz.ntmps55 rfl rfl rfl rfl ?_
 refine a_seq ?_
 refine a_region (.cons (o_assign rfl)<|.cons (o_assign rfl)<|.nil _) (by kernel_rfl) (by kernel_rfl) ?_
 refine a_seq ?_
 refine a_region (.cons (o_move rfl)<|.cons (t_len rfl)<|.cons (o_assign rfl)<|.nil _) (by kernel_rfl) (by kernel_rfl) ?_
 refine a_cut (α:=Unit) (fun s=>⟨[],[],[]⟩) (fun s=>budget_most_K1 = some r) ?_ ?_
 ·refine a_seq ?_
  refine a_region (.cons (o_move rfl)<|.cons (o_assign rfl)<|.nil _) (by kernel_rfl) (by kernel_rfl) ?_
  obtain ⟨e3,hL3,hK3⟩ := of_bind hM
  refine a_block ?_
  refine a_while (fun s=>⟨[(0,.sl 1 (List.map (DV.int .i64) x0)),(1,.int .i64 x1),(6,.int .i64 (List.length x0 : Int)),(7,.int .i64 s)],[],[]⟩) _ hL3 (Imp.of (fun i=>i) (.cons rfl (DLe.refl _) (.cons rfl (DLe.refl _) (.cons rfl (DLe.refl _) (.cons rfl (DLe.refl _) .nil)))) .nil rfl rfl rfl) ?_
  rintro a2 t4 hM hE3
  replace hM : budget_most_L3 x0 x1 a2 = some t4:=hM
  unfold budget_most_L3 at hM
  refine a_seq ?_
  refine a_seq ?_
  refine a_region (.cons (o_move rfl)<|.cons (o_int rfl rfl rfl)<|.nil _) (by kernel_rfl) (by kernel_rfl) ?_
  refine a_cond _ rfl (fun h5=>?_) (fun h5=>?_)
  ·replace hM:=(of_if hM).1 h5
   refine a_skip ?_
   refine a_cut (α:=Unit) (fun s=>⟨[(0,.sl 1 (List.map (DV.int .i64) x0)),(1,.int .i64 x1),(6,.int .i64 (List.length x0 : Int)),(7,.int .i64 a2)],[],[]⟩) (fun s=>budget_most_K6 a2 = some t4) ?_ ?_
   ·refine a_block ?_
    refine a_seq ?_
    refine a_region (.cons (o_assign rfl)<|.nil _) (by kernel_rfl) (by kernel_rfl) ?_
    refine a_cut (α:=Int) (fun s=>⟨[(0,.sl 1 (List.map (DV.int .i64) x0)),(1,.int .i64 x1),(6,.int .i64 (List.length x0 : Int)),(7,.int .i64 a2),(8,.int .i64 s)],[],[]⟩) (fun s=>budget_most_K8 x1 a2 s = some t4) ?_ ?_
    ·refine a_seq ?_
     refine a_region (.cons (o_assign rfl)<|.nil _) (by kernel_rfl) (by kernel_rfl) ?_
     obtain ⟨e12,hL12,hK12⟩ := of_bind hM
     refine a_block ?_
     refine a_while (fun s=>⟨[(0,.sl 1 (List.map (DV.int .i64) x0)),(1,.int .i64 x1),(6,.int .i64 (List.length x0 : Int)),(7,.int .i64 a2),(8,.int .i64 s.1),(9,.int .i64 s.2)],[],[]⟩) _ hL12 (Imp.of (fun i=>i) (.cons rfl (DLe.refl _) (.cons rfl (DLe.refl _) (.cons rfl (DLe.refl _) (.cons rfl (DLe.refl _) (.cons rfl (DLe.refl _) (.cons rfl (DLe.refl _) .nil)))))) .nil rfl rfl rfl) ?_
     rintro ⟨a10,a11⟩ t13 hM hE12
     replace hM : budget_most_L12 x0 x1 a2 a10 a11 = some t13:=hM
     unfold budget_most_L12 at hM
     refine a_seq ?_
     refine a_seq ?_
     refine a_region (.cons (o_move rfl)<|.cons (o_move rfl)<|.cons (o_int rfl rfl rfl)<|.cons (o_move rfl)<|.cons (o_guardG .bT rfl rfl (fun hb=>(.keep .nil)) (fun hb=>o_move rfl))<|.cons (o_guardG .bT rfl rfl (fun hb=>(.keep .nil)) (fun hb=>o_move rfl))<|.cons (o_guardG .bT rfl rfl (fun hb=>(.strip rfl hb (.strip rfl hb .nil))) (fun hb=>o_int rfl rfl rfl))<|.cons (o_and rfl rfl)<|.nil _) (by kernel_rfl) (by kernel_rfl) ?_
     refine a_cond _ rfl (fun h14=>?_) (fun h14=>?_)
     ·replace hM:=(of_if hM).1 h14
      refine a_skip ?_
      refine a_seq ?_
      refine a_block ?_
      obtain ⟨v16,h15,hM⟩ := of_bind hM
      obtain ⟨v18,h17,hM⟩ := of_bind hM
      refine a_region (.cons (o_move rfl)<|.cons (o_move rfl)<|.cons (o_move rfl)<|.cons (o_move rfl)<|.cons (o_move rfl)<|.cons (o_call (budget_share_c h15) rfl (DLeL.refl _) rfl)<|.cons (t_index h17 rfl rfl rfl)<|.cons (o_load_es rfl rfl)<|.cons (o_int rfl rfl rfl)<|.cons (o_assign rfl)<|.nil _) (by kernel_rfl) (by kernel_rfl) ?_
      refine a_region (.cons (o_move rfl)<|.cons (o_int rfl rfl rfl)<|.cons (o_assign rfl)<|.nil _) (by kernel_rfl) (by kernel_rfl) ?_
      obtain rfl:=Option.some.inj hM
      exact ⟨((IntKind.wrap .i64 (a10 + v18)),(IntKind.wrap .i64 (a11 + 1))),rfl,(Imp.of (fun i=>i) (.cons rfl (DLe.refl _) (.cons rfl (DLe.refl _) (.cons rfl (DLe.refl _) (.cons rfl (DLe.refl _) (.cons rfl (DLe.refl _) (.cons rfl (DLe.refl _) .nil)))))) .nil rfl rfl rfl)⟩
     ·replace hM:=(of_if hM).2 h14
      refine a_exit ?_
      obtain rfl:=Option.some.inj hM
      obtain rfl:=hE12 _ rfl
      exact ⟨a10,hK12,(Imp.of (fun i=>i) (.cons rfl (DLe.refl _) (.cons rfl (DLe.refl _) (.cons rfl (DLe.refl _) (.cons rfl (DLe.refl _) (.cons rfl (DLe.refl _) .nil))))) .nil rfl rfl rfl)⟩
    ·rintro a7 hM
     replace hM : budget_most_K8 x1 a2 a7 = some t4:=hM
     unfold budget_most_K8 at hM
     refine a_seq ?_
     refine a_region (.cons (o_move rfl)<|.cons (o_move rfl)<|.cons (o_int rfl rfl rfl)<|.nil _) (by kernel_rfl) (by kernel_rfl) ?_
     refine a_cond _ rfl (fun h9=>?_) (fun h9=>?_)
     ·replace hM:=(of_if hM).1 h9
      refine a_seq ?_
      refine a_region (.cons (o_move rfl)<|.cons (o_move rfl)<|.cons (o_assign rfl)<|.cons (o_assign rfl)<|.nil _) (by kernel_rfl) (by kernel_rfl) ?_
      obtain rfl:=Option.some.inj hM
      obtain rfl:=hE3 _ rfl
      obtain rfl:=Option.some.inj hK3
      exact a_ret (a_post (.r2 (.tmp rfl) (.tmp rfl)) (DLe.refl _) PostOk.nil.spec)
     ·replace hM:=(of_if hM).2 h9
      refine a_skip ?_
      exact ⟨(),hM,(Imp.of (fun i=>i) (.cons rfl (DLe.refl _) (.cons rfl (DLe.refl _) (.cons rfl (DLe.refl _) (.cons rfl (DLe.refl _) .nil)))) .nil rfl rfl rfl)⟩
   ·rintro _ hM
    replace hM : budget_most_K6 a2 = some t4:=hM
    unfold budget_most_K6 at hM
    refine a_region (.cons (o_move rfl)<|.cons (o_int rfl rfl rfl)<|.cons (o_assign rfl)<|.nil _) (by kernel_rfl) (by kernel_rfl) ?_
    obtain rfl:=Option.some.inj hM
    exact ⟨(IntKind.wrap .i64 (a2 - 1)),rfl,(Imp.of (fun i=>i) (.cons rfl (DLe.refl _) (.cons rfl (DLe.refl _) (.cons rfl (DLe.refl _) (.cons rfl (DLe.refl _) .nil)))) .nil rfl rfl rfl)⟩
  ·replace hM:=(of_if hM).2 h5
   refine a_exit ?_
   obtain rfl:=Option.some.inj hM
   obtain rfl:=hE3 _ rfl
   exact ⟨(),hK3,(Imp.of (fun i=>i) .nil .nil rfl rfl rfl)⟩
 ·rintro _ hM
  replace hM : budget_most_K1 = some r:=hM
  unfold budget_most_K1 at hM
  refine a_seq ?_
  refine a_region (.cons (o_assign rfl)<|.cons (o_assign rfl)<|.nil _) (by kernel_rfl) (by kernel_rfl) ?_
  obtain rfl:=Option.some.inj hM
  exact a_ret (a_post (.r2 (.tmp rfl) (.tmp rfl)) (DLe.refl _) PostOk.nil.spec)
def budget_Plan_K17 (a15 : List Bool) (a16 : Int) : Option ((List Bool) × Int) :=
 some (a15,a16)
def budget_Plan_K28 (a25 : List Bool) (a26 : Int) (a27 : Int) : Option (Ctl ((List Bool) × Int × Int) ((List Bool) × Int)) :=
 some (.next (a25,a26,a27))
def budget_Plan_K35 (a8 : List Int) (a20 : Int) (a21 : Int) (v33 : Int × Int) (a34 : List Bool) : Option (Ctl ((List Bool) × Int × Int) ((List Bool) × Int)) :=
 if (decide (v33.1 < (List.length a8 : Int))) = true then
  some (.done (a34,(IntKind.wrap .i64 (a20 + v33.2))))
 else
  budget_Plan_K28 a34 (IntKind.wrap .i64 (a20 + v33.2)) (IntKind.wrap .i64 (a21 - v33.2))
def budget_Plan_L41 (a8 : List Int) (v38 : (List Int)) (k39 : Nat) (a40 : List Bool) : Option (List Bool) :=
 (idx v38 (k39 : Int)).bind fun v45=>
 (idx a8 v45).bind fun v47=>
 (idx a40 v47).bind fun v49=>
 some (List.set a40 (Int.toNat v47) true)
def budget_Plan_K54 (a7 : List Int) (a20 : Int) (a21 : Int) (v52 : Int × Int) (a53 : List Bool) : Option (Ctl ((List Bool) × Int × Int) ((List Bool) × Int)) :=
 if (decide (v52.1 < (List.length a7 : Int))) = true then
  some (.done (a53,(IntKind.wrap .i64 (a20 + v52.2))))
 else
  budget_Plan_K28 a53 (IntKind.wrap .i64 (a20 + v52.2)) (IntKind.wrap .i64 (a21 - v52.2))
def budget_Plan_L60 (a7 : List Int) (v57 : (List Int)) (k58 : Nat) (a59 : List Bool) : Option (List Bool) :=
 (idx v57 (k58 : Int)).bind fun v64=>
 (idx a7 v64).bind fun v66=>
 (idx a59 v66).bind fun v68=>
 some (List.set a59 (Int.toNat v66) true)
def budget_Plan_K73 (a6 : List Int) (a20 : Int) (a21 : Int) (v71 : Int × Int) (a72 : List Bool) : Option (Ctl ((List Bool) × Int × Int) ((List Bool) × Int)) :=
 if (decide (v71.1 < (List.length a6 : Int))) = true then
  some (.done (a72,(IntKind.wrap .i64 (a20 + v71.2))))
 else
  budget_Plan_K28 a72 (IntKind.wrap .i64 (a20 + v71.2)) (IntKind.wrap .i64 (a21 - v71.2))
def budget_Plan_L79 (a6 : List Int) (v76 : (List Int)) (k77 : Nat) (a78 : List Bool) : Option (List Bool) :=
 (idx v76 (k77 : Int)).bind fun v83=>
 (idx a6 v83).bind fun v85=>
 (idx a78 v85).bind fun v87=>
 some (List.set a78 (Int.toNat v85) true)
def budget_Plan_K92 (a5 : List Int) (a20 : Int) (a21 : Int) (v90 : Int × Int) (a91 : List Bool) : Option (Ctl ((List Bool) × Int × Int) ((List Bool) × Int)) :=
 if (decide (v90.1 < (List.length a5 : Int))) = true then
  some (.done (a91,(IntKind.wrap .i64 (a20 + v90.2))))
 else
  budget_Plan_K28 a91 (IntKind.wrap .i64 (a20 + v90.2)) (IntKind.wrap .i64 (a21 - v90.2))
def budget_Plan_L98 (a5 : List Int) (v95 : (List Int)) (k96 : Nat) (a97 : List Bool) : Option (List Bool) :=
 (idx v95 (k96 : Int)).bind fun v102=>
 (idx a5 v102).bind fun v104=>
 (idx a97 v104).bind fun v106=>
 some (List.set a97 (Int.toNat v104) true)
def budget_Plan_K111 (a4 : List Int) (a20 : Int) (a21 : Int) (v109 : Int × Int) (a110 : List Bool) : Option (Ctl ((List Bool) × Int × Int) ((List Bool) × Int)) :=
 if (decide (v109.1 < (List.length a4 : Int))) = true then
  some (.done (a110,(IntKind.wrap .i64 (a20 + v109.2))))
 else
  budget_Plan_K28 a110 (IntKind.wrap .i64 (a20 + v109.2)) (IntKind.wrap .i64 (a21 - v109.2))
def budget_Plan_L117 (a4 : List Int) (v114 : (List Int)) (k115 : Nat) (a116 : List Bool) : Option (List Bool) :=
 (idx v114 (k115 : Int)).bind fun v121=>
 (idx a4 v121).bind fun v123=>
 (idx a116 v123).bind fun v125=>
 some (List.set a116 (Int.toNat v123) true)
def budget_Plan_L22 (a4 : List Int) (a5 : List Int) (a6 : List Int) (a7 : List Int) (a8 : List Int) (a9 : List Int) (a10 : List Int) (a11 : List Int) (a12 : List Int) (a13 : List Int) (k18 : Nat) (a19 : List Bool) (a20 : Int) (a21 : Int) : Option (Ctl ((List Bool) × Int × Int) ((List Bool) × Int)) :=
 (idx ([1,2,3,4,0] : List Int) (k18 : Int)).bind fun v30=>
 if (v30 == 0) = true then
  (budget_most a9 a21).bind fun v109=>
  (budget_Spread (List.length a4 : Int) v109.1).bind fun v114=>
  (foldM' 9223372036854775807 (List.length v114 : Int) (fun k115 s=>budget_Plan_L117 a4 v114 k115 s) a19).bind fun s=>budget_Plan_K111 a4 a20 a21 v109 s
 else
  if (v30 == 1) = true then
   (budget_most a10 a21).bind fun v90=>
   (budget_Spread (List.length a5 : Int) v90.1).bind fun v95=>
   (foldM' 9223372036854775807 (List.length v95 : Int) (fun k96 s=>budget_Plan_L98 a5 v95 k96 s) a19).bind fun s=>budget_Plan_K92 a5 a20 a21 v90 s
  else
   if (v30 == 2) = true then
    (budget_most a11 a21).bind fun v71=>
    (budget_Spread (List.length a6 : Int) v71.1).bind fun v76=>
    (foldM' 9223372036854775807 (List.length v76 : Int) (fun k77 s=>budget_Plan_L79 a6 v76 k77 s) a19).bind fun s=>budget_Plan_K73 a6 a20 a21 v71 s
   else
    if (v30 == 3) = true then
     (budget_most a12 a21).bind fun v52=>
     (budget_Spread (List.length a7 : Int) v52.1).bind fun v57=>
     (foldM' 9223372036854775807 (List.length v57 : Int) (fun k58 s=>budget_Plan_L60 a7 v57 k58 s) a19).bind fun s=>budget_Plan_K54 a7 a20 a21 v52 s
    else
     if (v30 == 4) = true then
      (budget_most a13 a21).bind fun v33=>
      (budget_Spread (List.length a8 : Int) v33.1).bind fun v38=>
      (foldM' 9223372036854775807 (List.length v38 : Int) (fun k39 s=>budget_Plan_L41 a8 v38 k39 s) a19).bind fun s=>budget_Plan_K35 a8 a20 a21 v33 s
     else
      none
def budget_Plan_K14 (x1 : Int) (a2 : List Bool) (a3 : Int) (a4 : List Int) (a5 : List Int) (a6 : List Int) (a7 : List Int) (a8 : List Int) (a9 : List Int) (a10 : List Int) (a11 : List Int) (a12 : List Int) (a13 : List Int) : Option ((List Bool) × Int) :=
 (forM' (E:=(List Bool) × Int) 9223372036854775807 5 (fun k18 s=>budget_Plan_L22 a4 a5 a6 a7 a8 a9 a10 a11 a12 a13 k18 s.1 s.2.1 s.2.2) (a2,a3,(if (IntKind.wrap .i64 ((if x1 > 0 then x1 else 0) - a3)) > 0 then (IntKind.wrap .i64 ((if x1 > 0 then x1 else 0) - a3)) else 0))).bind fun
  | .next s=>budget_Plan_K17 s.1 s.2.1
  | .done e=>budget_Plan_K17 e.1 e.2
def budget_Plan_L139 (x0 : List RRec) (k126 : Nat) (a127 : List Bool) (a128 : Int) (a129 : List Int) (a130 : List Int) (a131 : List Int) (a132 : List Int) (a133 : List Int) (a134 : List Int) (a135 : List Int) (a136 : List Int) (a137 : List Int) (a138 : List Int) : Option ((List Bool) × Int × (List Int) × (List Int) × (List Int) × (List Int) × (List Int) × (List Int) × (List Int) × (List Int) × (List Int) × (List Int)) :=
 (idx x0 (k126 : Int)).bind fun v143=>
 (record_Size v143).bind fun v145=>
 if (v143.gWhat != 1) = true then
  (idx a127 (k126 : Int)).bind fun v148=>
  some ((List.set a127 (Int.toNat (k126 : Int)) true),(IntKind.wrap .i64 (a128 + v145)),a129,a130,a131,a132,a133,a134,a135,a136,a137,a138)
 else
  (budget_Of v143.gEvent).bind fun v150=>
  if (v150 == 0) = true then
   chk (apOk 8 (List.length a129 + List.length [(k126 : Int)]))<|
   chk (apOk 8 (List.length a134 + List.length [v145]))<|
   some (a127,a128,(a129++[(k126 : Int)]),a130,a131,a132,a133,(a134++[v145]),a135,a136,a137,a138)
  else
   if (v150 == 1) = true then
    chk (apOk 8 (List.length a130 + List.length [(k126 : Int)]))<|
    chk (apOk 8 (List.length a135 + List.length [v145]))<|
    some (a127,a128,a129,(a130++[(k126 : Int)]),a131,a132,a133,a134,(a135++[v145]),a136,a137,a138)
   else
    if (v150 == 2) = true then
     chk (apOk 8 (List.length a131 + List.length [(k126 : Int)]))<|
     chk (apOk 8 (List.length a136 + List.length [v145]))<|
     some (a127,a128,a129,a130,(a131++[(k126 : Int)]),a132,a133,a134,a135,(a136++[v145]),a137,a138)
    else
     if (v150 == 3) = true then
      chk (apOk 8 (List.length a132 + List.length [(k126 : Int)]))<|
      chk (apOk 8 (List.length a137 + List.length [v145]))<|
      some (a127,a128,a129,a130,a131,(a132++[(k126 : Int)]),a133,a134,a135,a136,(a137++[v145]),a138)
     else
      if (v150 == 4) = true then
       chk (apOk 8 (List.length a133 + List.length [(k126 : Int)]))<|
       chk (apOk 8 (List.length a138 + List.length [v145]))<|
       some (a127,a128,a129,a130,a131,a132,(a133++[(k126 : Int)]),a134,a135,a136,a137,(a138++[v145]))
      else
       none
def budget_Plan (x0 : List RRec) (x1 : Int) : Option ((List Bool) × Int) :=
 chk (mkOk 1 (List.length x0 : Int) (List.length x0 : Int))<|
 (foldM' 9223372036854775807 (List.length x0 : Int) (fun k126 s=>budget_Plan_L139 x0 k126 s.1 s.2.1 s.2.2.1 s.2.2.2.1 s.2.2.2.2.1 s.2.2.2.2.2.1 s.2.2.2.2.2.2.1 s.2.2.2.2.2.2.2.1 s.2.2.2.2.2.2.2.2.1 s.2.2.2.2.2.2.2.2.2.1 s.2.2.2.2.2.2.2.2.2.2.1 s.2.2.2.2.2.2.2.2.2.2.2) ((List.replicate (Int.toNat (List.length x0 : Int)) false),0,([] : List Int),([] : List Int),([] : List Int),([] : List Int),([] : List Int),([] : List Int),([] : List Int),([] : List Int),([] : List Int),([] : List Int))).bind fun s=>budget_Plan_K14 x1 s.1 s.2.1 s.2.2.1 s.2.2.2.1 s.2.2.2.2.1 s.2.2.2.2.2.1 s.2.2.2.2.2.2.1 s.2.2.2.2.2.2.2.1 s.2.2.2.2.2.2.2.2.1 s.2.2.2.2.2.2.2.2.2.1 s.2.2.2.2.2.2.2.2.2.2.1 s.2.2.2.2.2.2.2.2.2.2.2
theorem budget_Plan_c {x0 : List RRec} {x1 : Int} {r : (List Bool) × Int} (hM : budget_Plan x0 x1 = some r) : PCall Tryz.prog 27 [.sl 29 (List.map RRec.dv x0),.int .i64 x1] (.tup [.sl 1 (List.map DV.bool r.1),.int .i64 r.2]):=by
 unfold budget_Plan at hM
 refine PCall.body Tryz.func27 Tryz.ntmps27 rfl rfl rfl rfl ?_
 refine a_seq ?_
 refine a_region (.cons (o_assign rfl)<|.cons (o_assign rfl)<|.nil _) (by kernel_rfl) (by kernel_rfl) ?_
 refine a_seq ?_
 obtain ⟨h1,hM⟩ := of_chk hM
 refine a_region (.cons (o_move rfl)<|.cons (t_len rfl)<|.cons (t_make DV.bool false h1 rfl rfl rfl rfl)<|.cons (o_assign rfl)<|.nil _) (by kernel_rfl) (by kernel_rfl) ?_
 refine a_seq ?_
 refine a_region (.cons (o_alloc rfl)<|.cons (o_alloc rfl)<|.nil _) (by kernel_rfl) (by kernel_rfl) ?_
 refine a_cut (α:=(List Bool) × Int × (List Int) × (List Int) × (List Int) × (List Int) × (List Int) × (List Int) × (List Int) × (List Int) × (List Int) × (List Int)) (fun s=>⟨[(1,.int .i64 x1),(4,.row 10001),(5,.int .i64 s.2.1),(6,.ref 6 0),(7,.ref 7 0)],[(6,some (.blk 122 [.row 10002,.row 10003,.row 10004,.row 10005,.row 10006])),(7,some (.blk 122 [.row 10007,.row 10008,.row 10009,.row 10010,.row 10011])),(10001,some (.row 4 1 (List.map DV.bool s.1))),(10002,some (.row 3 1 (List.map (DV.int .i64) s.2.2.1))),(10003,some (.row 3 1 (List.map (DV.int .i64) s.2.2.2.1))),(10004,some (.row 3 1 (List.map (DV.int .i64) s.2.2.2.2.1))),(10005,some (.row 3 1 (List.map (DV.int .i64) s.2.2.2.2.2.1))),(10006,some (.row 3 1 (List.map (DV.int .i64) s.2.2.2.2.2.2.1))),(10007,some (.row 3 1 (List.map (DV.int .i64) s.2.2.2.2.2.2.2.1))),(10008,some (.row 3 1 (List.map (DV.int .i64) s.2.2.2.2.2.2.2.2.1))),(10009,some (.row 3 1 (List.map (DV.int .i64) s.2.2.2.2.2.2.2.2.2.1))),(10010,some (.row 3 1 (List.map (DV.int .i64) s.2.2.2.2.2.2.2.2.2.2.1))),(10011,some (.row 3 1 (List.map (DV.int .i64) s.2.2.2.2.2.2.2.2.2.2.2)))],[6,7,10001,10002,10003,10004,10005,10006,10007,10008,10009,10010,10011]⟩) (fun s=>budget_Plan_K14 x1 s.1 s.2.1 s.2.2.1 s.2.2.2.1 s.2.2.2.2.1 s.2.2.2.2.2.1 s.2.2.2.2.2.2.1 s.2.2.2.2.2.2.2.1 s.2.2.2.2.2.2.2.2.1 s.2.2.2.2.2.2.2.2.2.1 s.2.2.2.2.2.2.2.2.2.2.1 s.2.2.2.2.2.2.2.2.2.2.2 = some r) ?_ ?_
 ·refine a_seq ?_
  refine a_region (.cons (o_move rfl)<|.cons (t_len rfl)<|.cons (o_move rfl)<|.nil _) (by kernel_rfl) (by kernel_rfl) ?_
  obtain ⟨⟨a127,a128,a129,a130,a131,a132,a133,a134,a135,a136,a137,a138⟩,hL139,hK139⟩ := of_bind hM
  refine a_block ?_
  refine a_fold (fun k126 s=>⟨[(1,.int .i64 x1),(4,.row 10089),(5,.int .i64 s.2.1),(6,.ref 6 0),(7,.ref 7 0),(22,.sl 29 (List.map RRec.dv x0)),(23,.int .i64 (List.length x0 : Int)),(24,.int .i64 (k126 : Int))],[(6,some (.blk 122 [.row 10090,.row 10091,.row 10092,.row 10093,.row 10094])),(7,some (.blk 122 [.row 10095,.row 10096,.row 10097,.row 10098,.row 10099])),(10089,some (.row 4 1 (List.map DV.bool s.1))),(10090,some (.row 3 1 (List.map (DV.int .i64) s.2.2.1))),(10091,some (.row 3 1 (List.map (DV.int .i64) s.2.2.2.1))),(10092,some (.row 3 1 (List.map (DV.int .i64) s.2.2.2.2.1))),(10093,some (.row 3 1 (List.map (DV.int .i64) s.2.2.2.2.2.1))),(10094,some (.row 3 1 (List.map (DV.int .i64) s.2.2.2.2.2.2.1))),(10095,some (.row 3 1 (List.map (DV.int .i64) s.2.2.2.2.2.2.2.1))),(10096,some (.row 3 1 (List.map (DV.int .i64) s.2.2.2.2.2.2.2.2.1))),(10097,some (.row 3 1 (List.map (DV.int .i64) s.2.2.2.2.2.2.2.2.2.1))),(10098,some (.row 3 1 (List.map (DV.int .i64) s.2.2.2.2.2.2.2.2.2.2.1))),(10099,some (.row 3 1 (List.map (DV.int .i64) s.2.2.2.2.2.2.2.2.2.2.2)))],[6,7,10089,10090,10091,10092,10093,10094,10095,10096,10097,10098,10099]⟩) _ hL139 ((Imp.nilC (id:=6) (rid:=10100) (j:=0) 3 1 rfl rfl rfl rfl).trans ((Imp.nilC (id:=6) (rid:=10101) (j:=1) 3 1 rfl rfl rfl rfl).trans ((Imp.nilC (id:=6) (rid:=10102) (j:=2) 3 1 rfl rfl rfl rfl).trans ((Imp.nilC (id:=6) (rid:=10103) (j:=3) 3 1 rfl rfl rfl rfl).trans ((Imp.nilC (id:=6) (rid:=10104) (j:=4) 3 1 rfl rfl rfl rfl).trans ((Imp.nilC (id:=7) (rid:=10105) (j:=0) 3 1 rfl rfl rfl rfl).trans ((Imp.nilC (id:=7) (rid:=10106) (j:=1) 3 1 rfl rfl rfl rfl).trans ((Imp.nilC (id:=7) (rid:=10107) (j:=2) 3 1 rfl rfl rfl rfl).trans ((Imp.nilC (id:=7) (rid:=10108) (j:=3) 3 1 rfl rfl rfl rfl).trans ((Imp.nilC (id:=7) (rid:=10109) (j:=4) 3 1 rfl rfl rfl rfl).trans (Imp.of (fun i=>bif Nat.beq i 10099 then 10109 else bif Nat.beq i 10098 then 10108 else bif Nat.beq i 10097 then 10107 else bif Nat.beq i 10096 then 10106 else bif Nat.beq i 10095 then 10105 else bif Nat.beq i 10094 then 10104 else bif Nat.beq i 10093 then 10103 else bif Nat.beq i 10092 then 10102 else bif Nat.beq i 10091 then 10101 else bif Nat.beq i 10090 then 10100 else bif Nat.beq i 10089 then 21 else i) (.cons rfl (DLe.refl _) (.cons rfl (DLe.refl _) (.cons rfl (DLe.refl _) (.cons rfl (DLe.refl _) (.cons rfl (DLe.refl _) (.cons rfl (DLe.refl _) (.cons rfl (DLe.refl _) (.cons rfl (DLe.refl _) .nil)))))))) (.cons rfl (.refl _) (.cons rfl (.refl _) (.cons rfl (.refl _) (.cons rfl (.refl _) (.cons rfl (.refl _) (.cons rfl (.refl _) (.cons rfl (.refl _) (.cons rfl (.refl _) (.cons rfl (.refl _) (.cons rfl (.refl _) (.cons rfl (.refl _) (.cons rfl (.refl _) (.cons rfl (.refl _) .nil))))))))))))) rfl rfl rfl))))))))))) ?_ ?_
  ·rintro k126 ⟨a127,a128,a129,a130,a131,a132,a133,a134,a135,a136,a137,a138⟩ t140 hk126 hx126 hM
   replace hM : budget_Plan_L139 x0 k126 a127 a128 a129 a130 a131 a132 a133 a134 a135 a136 a137 a138 = some t140:=hM
   unfold budget_Plan_L139 at hM
   refine a_seq ?_
   refine a_region (.cons (o_int rfl rfl rfl)<|.nil _) (by kernel_rfl) (by kernel_rfl) ?_
   refine a_seq ?_
   refine a_cond _ rfl (fun _=>?_) (fun c=>absurd hk126 (of_decide_eq_false c))
   refine a_skip ?_
   refine a_seq ?_
   refine a_block ?_
   refine a_seq ?_
   obtain ⟨v143,h142,hM⟩ := of_bind hM
   refine a_region (.cons (o_move rfl)<|.cons (t_index h142 rfl rfl rfl)<|.cons (o_load_er rfl rfl rfl)<|.cons (o_alloc rfl)<|.cons (o_assign rfl)<|.cons (o_store rfl rfl rfl rfl rfl rfl rfl)<|.nil _) (by kernel_rfl) (by kernel_rfl) ?_
   refine a_seq ?_
   obtain ⟨v145,h144,hM⟩ := of_bind hM
   refine a_region (.cons (o_load_r rfl rfl rfl rfl)<|.cons (o_call (record_Size_c h144) rfl (DLeL.refl _) rfl)<|.cons (o_assign rfl)<|.nil _) (by kernel_rfl) (by kernel_rfl) ?_
   refine a_seq ?_
   refine a_seq ?_
   refine a_region (.cons (o_fieldAddr rfl)<|.cons (o_load_s rfl rfl rfl)<|.cons (o_int rfl rfl rfl)<|.nil _) (by kernel_rfl) (by kernel_rfl) ?_
   refine a_cond _ rfl (fun h146=>?_) (fun h146=>?_)
   ·replace hM:=(of_if hM).1 h146
    refine a_seq ?_
    obtain ⟨v148,h147,hM⟩ := of_bind hM
    refine a_region (.cons (o_move rfl)<|.cons (o_move rfl)<|.cons (t_index_r h147 rfl rfl rfl)<|.cons (t_store_p true h147 rfl rfl rfl rfl rfl rfl rfl rfl rfl rfl rfl)<|.nil _) (by kernel_rfl) (by kernel_rfl) ?_
    refine a_seq ?_
    refine a_region (.cons (o_move rfl)<|.cons (o_move rfl)<|.cons (o_int rfl rfl rfl)<|.cons (o_assign rfl)<|.nil _) (by kernel_rfl) (by kernel_rfl) ?_
    refine a_exit ?_
    refine a_region (.cons (o_add rfl rfl (inR_i64 hk126 hx126))<|.cons (o_move rfl)<|.nil _) (by kernel_rfl) (by kernel_rfl) ?_
    obtain rfl:=Option.some.inj hM
    exact (Imp.of (fun i=>i) (.cons rfl (DLe.refl _) (.cons rfl (DLe.refl _) (.cons rfl (DLe.refl _) (.cons rfl (DLe.refl _) (.cons rfl (DLe.refl _) (.cons rfl (DLe.refl _) (.cons rfl (DLe.refl _) (.cons rfl (DLe.succ _ _) .nil)))))))) (.cons rfl (.refl _) (.cons rfl (.refl _) (.cons rfl (.refl _) (.cons rfl (.refl _) (.cons rfl (.refl _) (.cons rfl (.refl _) (.cons rfl (.refl _) (.cons rfl (.refl _) (.cons rfl (.refl _) (.cons rfl (.refl _) (.cons rfl (.refl _) (.cons rfl (.refl _) (.cons rfl (.refl _) .nil))))))))))))) rfl rfl rfl)
   ·replace hM:=(of_if hM).2 h146
    refine a_skip ?_
    refine a_seq ?_
    obtain ⟨v150,h149,hM⟩ := of_bind hM
    refine a_region (.cons (o_fieldAddr rfl)<|.cons (o_load_r rfl rfl rfl rfl)<|.cons (o_call (budget_Of_c h149) rfl (DLeL.refl _) rfl)<|.cons (o_assign rfl)<|.nil _) (by kernel_rfl) (by kernel_rfl) ?_
    refine a_seq ?_
    by_cases h163 : (v150 == 0) = true
    ·replace hM:=(of_if hM).1 h163
     obtain rfl : v150 = 0:=eq_of_beq h163
     obtain ⟨h164,hM⟩ := of_chk hM
     refine a_region (.cons (o_move rfl)<|.cons (o_move rfl)<|.cons (o_indexAddr_a 0 rfl rfl rfl (by decide))<|.cons (o_load_s rfl rfl rfl)<|.cons (o_move rfl)<|.cons (t_build (DV.int .i64) ([(k126 : Int)] : List Int) rfl rfl rfl rfl rfl rfl rfl)<|.cons (t_append [(k126 : Int)] h164 rfl rfl rfl (Src.row rfl))<|.cons (o_indexAddr_a 0 rfl rfl rfl (by decide))<|.cons (o_store_s rfl rfl rfl rfl rfl)<|.nil _) (by kernel_rfl) (by kernel_rfl) ?_
     obtain ⟨h165,hM⟩ := of_chk hM
     refine a_region (.cons (o_move rfl)<|.cons (o_move rfl)<|.cons (o_indexAddr_a 0 rfl rfl rfl (by decide))<|.cons (o_load_s rfl rfl rfl)<|.cons (o_move rfl)<|.cons (t_build (DV.int .i64) ([v145] : List Int) rfl rfl rfl rfl rfl rfl rfl)<|.cons (t_append [v145] h165 rfl rfl rfl (Src.row rfl))<|.cons (o_indexAddr_a 0 rfl rfl rfl (by decide))<|.cons (o_store_s rfl rfl rfl rfl rfl)<|.nil _) (by kernel_rfl) (by kernel_rfl) ?_
     refine a_region (.cons (o_add rfl rfl (inR_i64 hk126 hx126))<|.cons (o_move rfl)<|.nil _) (by kernel_rfl) (by kernel_rfl) ?_
     obtain rfl:=Option.some.inj hM
     exact (Imp.of (fun i=>bif Nat.beq i 10095 then 57 else bif Nat.beq i 10090 then 49 else i) (.cons rfl (DLe.refl _) (.cons rfl (DLe.refl _) (.cons rfl (DLe.refl _) (.cons rfl (DLe.refl _) (.cons rfl (DLe.refl _) (.cons rfl (DLe.refl _) (.cons rfl (DLe.refl _) (.cons rfl (DLe.succ _ _) .nil)))))))) (.cons rfl (.refl _) (.cons rfl (.refl _) (.cons rfl (.refl _) (.cons rfl (.refl _) (.cons rfl (.refl _) (.cons rfl (.refl _) (.cons rfl (.refl _) (.cons rfl (.refl _) (.cons rfl (.refl _) (.cons rfl (.refl _) (.cons rfl (.refl _) (.cons rfl (.refl _) (.cons rfl (.refl _) .nil))))))))))))) rfl rfl rfl)
    ·replace hM:=(of_if hM).2 (Bool.eq_false_iff.2 h163)
     by_cases h160 : (v150 == 1) = true
     ·replace hM:=(of_if hM).1 h160
      obtain rfl : v150 = 1:=eq_of_beq h160
      obtain ⟨h161,hM⟩ := of_chk hM
      refine a_region (.cons (o_move rfl)<|.cons (o_move rfl)<|.cons (o_indexAddr_a 1 rfl rfl rfl (by decide))<|.cons (o_load_s rfl rfl rfl)<|.cons (o_move rfl)<|.cons (t_build (DV.int .i64) ([(k126 : Int)] : List Int) rfl rfl rfl rfl rfl rfl rfl)<|.cons (t_append [(k126 : Int)] h161 rfl rfl rfl (Src.row rfl))<|.cons (o_indexAddr_a 1 rfl rfl rfl (by decide))<|.cons (o_store_s rfl rfl rfl rfl rfl)<|.nil _) (by kernel_rfl) (by kernel_rfl) ?_
      obtain ⟨h162,hM⟩ := of_chk hM
      refine a_region (.cons (o_move rfl)<|.cons (o_move rfl)<|.cons (o_indexAddr_a 1 rfl rfl rfl (by decide))<|.cons (o_load_s rfl rfl rfl)<|.cons (o_move rfl)<|.cons (t_build (DV.int .i64) ([v145] : List Int) rfl rfl rfl rfl rfl rfl rfl)<|.cons (t_append [v145] h162 rfl rfl rfl (Src.row rfl))<|.cons (o_indexAddr_a 1 rfl rfl rfl (by decide))<|.cons (o_store_s rfl rfl rfl rfl rfl)<|.nil _) (by kernel_rfl) (by kernel_rfl) ?_
      refine a_region (.cons (o_add rfl rfl (inR_i64 hk126 hx126))<|.cons (o_move rfl)<|.nil _) (by kernel_rfl) (by kernel_rfl) ?_
      obtain rfl:=Option.some.inj hM
      exact (Imp.of (fun i=>bif Nat.beq i 10096 then 57 else bif Nat.beq i 10091 then 49 else i) (.cons rfl (DLe.refl _) (.cons rfl (DLe.refl _) (.cons rfl (DLe.refl _) (.cons rfl (DLe.refl _) (.cons rfl (DLe.refl _) (.cons rfl (DLe.refl _) (.cons rfl (DLe.refl _) (.cons rfl (DLe.succ _ _) .nil)))))))) (.cons rfl (.refl _) (.cons rfl (.refl _) (.cons rfl (.refl _) (.cons rfl (.refl _) (.cons rfl (.refl _) (.cons rfl (.refl _) (.cons rfl (.refl _) (.cons rfl (.refl _) (.cons rfl (.refl _) (.cons rfl (.refl _) (.cons rfl (.refl _) (.cons rfl (.refl _) (.cons rfl (.refl _) .nil))))))))))))) rfl rfl rfl)
     ·replace hM:=(of_if hM).2 (Bool.eq_false_iff.2 h160)
      by_cases h157 : (v150 == 2) = true
      ·replace hM:=(of_if hM).1 h157
       obtain rfl : v150 = 2:=eq_of_beq h157
       obtain ⟨h158,hM⟩ := of_chk hM
       refine a_region (.cons (o_move rfl)<|.cons (o_move rfl)<|.cons (o_indexAddr_a 2 rfl rfl rfl (by decide))<|.cons (o_load_s rfl rfl rfl)<|.cons (o_move rfl)<|.cons (t_build (DV.int .i64) ([(k126 : Int)] : List Int) rfl rfl rfl rfl rfl rfl rfl)<|.cons (t_append [(k126 : Int)] h158 rfl rfl rfl (Src.row rfl))<|.cons (o_indexAddr_a 2 rfl rfl rfl (by decide))<|.cons (o_store_s rfl rfl rfl rfl rfl)<|.nil _) (by kernel_rfl) (by kernel_rfl) ?_
       obtain ⟨h159,hM⟩ := of_chk hM
       refine a_region (.cons (o_move rfl)<|.cons (o_move rfl)<|.cons (o_indexAddr_a 2 rfl rfl rfl (by decide))<|.cons (o_load_s rfl rfl rfl)<|.cons (o_move rfl)<|.cons (t_build (DV.int .i64) ([v145] : List Int) rfl rfl rfl rfl rfl rfl rfl)<|.cons (t_append [v145] h159 rfl rfl rfl (Src.row rfl))<|.cons (o_indexAddr_a 2 rfl rfl rfl (by decide))<|.cons (o_store_s rfl rfl rfl rfl rfl)<|.nil _) (by kernel_rfl) (by kernel_rfl) ?_
       refine a_region (.cons (o_add rfl rfl (inR_i64 hk126 hx126))<|.cons (o_move rfl)<|.nil _) (by kernel_rfl) (by kernel_rfl) ?_
       obtain rfl:=Option.some.inj hM
       exact (Imp.of (fun i=>bif Nat.beq i 10097 then 57 else bif Nat.beq i 10092 then 49 else i) (.cons rfl (DLe.refl _) (.cons rfl (DLe.refl _) (.cons rfl (DLe.refl _) (.cons rfl (DLe.refl _) (.cons rfl (DLe.refl _) (.cons rfl (DLe.refl _) (.cons rfl (DLe.refl _) (.cons rfl (DLe.succ _ _) .nil)))))))) (.cons rfl (.refl _) (.cons rfl (.refl _) (.cons rfl (.refl _) (.cons rfl (.refl _) (.cons rfl (.refl _) (.cons rfl (.refl _) (.cons rfl (.refl _) (.cons rfl (.refl _) (.cons rfl (.refl _) (.cons rfl (.refl _) (.cons rfl (.refl _) (.cons rfl (.refl _) (.cons rfl (.refl _) .nil))))))))))))) rfl rfl rfl)
      ·replace hM:=(of_if hM).2 (Bool.eq_false_iff.2 h157)
       by_cases h154 : (v150 == 3) = true
       ·replace hM:=(of_if hM).1 h154
        obtain rfl : v150 = 3:=eq_of_beq h154
        obtain ⟨h155,hM⟩ := of_chk hM
        refine a_region (.cons (o_move rfl)<|.cons (o_move rfl)<|.cons (o_indexAddr_a 3 rfl rfl rfl (by decide))<|.cons (o_load_s rfl rfl rfl)<|.cons (o_move rfl)<|.cons (t_build (DV.int .i64) ([(k126 : Int)] : List Int) rfl rfl rfl rfl rfl rfl rfl)<|.cons (t_append [(k126 : Int)] h155 rfl rfl rfl (Src.row rfl))<|.cons (o_indexAddr_a 3 rfl rfl rfl (by decide))<|.cons (o_store_s rfl rfl rfl rfl rfl)<|.nil _) (by kernel_rfl) (by kernel_rfl) ?_
        obtain ⟨h156,hM⟩ := of_chk hM
        refine a_region (.cons (o_move rfl)<|.cons (o_move rfl)<|.cons (o_indexAddr_a 3 rfl rfl rfl (by decide))<|.cons (o_load_s rfl rfl rfl)<|.cons (o_move rfl)<|.cons (t_build (DV.int .i64) ([v145] : List Int) rfl rfl rfl rfl rfl rfl rfl)<|.cons (t_append [v145] h156 rfl rfl rfl (Src.row rfl))<|.cons (o_indexAddr_a 3 rfl rfl rfl (by decide))<|.cons (o_store_s rfl rfl rfl rfl rfl)<|.nil _) (by kernel_rfl) (by kernel_rfl) ?_
        refine a_region (.cons (o_add rfl rfl (inR_i64 hk126 hx126))<|.cons (o_move rfl)<|.nil _) (by kernel_rfl) (by kernel_rfl) ?_
        obtain rfl:=Option.some.inj hM
        exact (Imp.of (fun i=>bif Nat.beq i 10098 then 57 else bif Nat.beq i 10093 then 49 else i) (.cons rfl (DLe.refl _) (.cons rfl (DLe.refl _) (.cons rfl (DLe.refl _) (.cons rfl (DLe.refl _) (.cons rfl (DLe.refl _) (.cons rfl (DLe.refl _) (.cons rfl (DLe.refl _) (.cons rfl (DLe.succ _ _) .nil)))))))) (.cons rfl (.refl _) (.cons rfl (.refl _) (.cons rfl (.refl _) (.cons rfl (.refl _) (.cons rfl (.refl _) (.cons rfl (.refl _) (.cons rfl (.refl _) (.cons rfl (.refl _) (.cons rfl (.refl _) (.cons rfl (.refl _) (.cons rfl (.refl _) (.cons rfl (.refl _) (.cons rfl (.refl _) .nil))))))))))))) rfl rfl rfl)
       ·replace hM:=(of_if hM).2 (Bool.eq_false_iff.2 h154)
        by_cases h151 : (v150 == 4) = true
        ·replace hM:=(of_if hM).1 h151
         obtain rfl : v150 = 4:=eq_of_beq h151
         obtain ⟨h152,hM⟩ := of_chk hM
         refine a_region (.cons (o_move rfl)<|.cons (o_move rfl)<|.cons (o_indexAddr_a 4 rfl rfl rfl (by decide))<|.cons (o_load_s rfl rfl rfl)<|.cons (o_move rfl)<|.cons (t_build (DV.int .i64) ([(k126 : Int)] : List Int) rfl rfl rfl rfl rfl rfl rfl)<|.cons (t_append [(k126 : Int)] h152 rfl rfl rfl (Src.row rfl))<|.cons (o_indexAddr_a 4 rfl rfl rfl (by decide))<|.cons (o_store_s rfl rfl rfl rfl rfl)<|.nil _) (by kernel_rfl) (by kernel_rfl) ?_
         obtain ⟨h153,hM⟩ := of_chk hM
         refine a_region (.cons (o_move rfl)<|.cons (o_move rfl)<|.cons (o_indexAddr_a 4 rfl rfl rfl (by decide))<|.cons (o_load_s rfl rfl rfl)<|.cons (o_move rfl)<|.cons (t_build (DV.int .i64) ([v145] : List Int) rfl rfl rfl rfl rfl rfl rfl)<|.cons (t_append [v145] h153 rfl rfl rfl (Src.row rfl))<|.cons (o_indexAddr_a 4 rfl rfl rfl (by decide))<|.cons (o_store_s rfl rfl rfl rfl rfl)<|.nil _) (by kernel_rfl) (by kernel_rfl) ?_
         refine a_region (.cons (o_add rfl rfl (inR_i64 hk126 hx126))<|.cons (o_move rfl)<|.nil _) (by kernel_rfl) (by kernel_rfl) ?_
         obtain rfl:=Option.some.inj hM
         exact (Imp.of (fun i=>bif Nat.beq i 10099 then 57 else bif Nat.beq i 10094 then 49 else i) (.cons rfl (DLe.refl _) (.cons rfl (DLe.refl _) (.cons rfl (DLe.refl _) (.cons rfl (DLe.refl _) (.cons rfl (DLe.refl _) (.cons rfl (DLe.refl _) (.cons rfl (DLe.refl _) (.cons rfl (DLe.succ _ _) .nil)))))))) (.cons rfl (.refl _) (.cons rfl (.refl _) (.cons rfl (.refl _) (.cons rfl (.refl _) (.cons rfl (.refl _) (.cons rfl (.refl _) (.cons rfl (.refl _) (.cons rfl (.refl _) (.cons rfl (.refl _) (.cons rfl (.refl _) (.cons rfl (.refl _) (.cons rfl (.refl _) (.cons rfl (.refl _) .nil))))))))))))) rfl rfl rfl)
        ·replace hM:=(of_if hM).2 (Bool.eq_false_iff.2 h151)
         cases hM
  ·rintro k126 hk126 hx126
   refine a_seq ?_
   refine a_region (.cons (o_int rfl rfl rfl)<|.nil _) (by kernel_rfl) (by kernel_rfl) ?_
   refine a_seq ?_
   refine a_cond _ rfl (fun c=>absurd (of_decide_eq_true c) (Int.not_lt.2 hk126)) (fun _=>?_)
   refine a_exit ?_
   exact ⟨(a127,a128,a129,a130,a131,a132,a133,a134,a135,a136,a137,a138),hK139,(Imp.of (fun i=>bif Nat.beq i 10011 then 10099 else bif Nat.beq i 10010 then 10098 else bif Nat.beq i 10009 then 10097 else bif Nat.beq i 10008 then 10096 else bif Nat.beq i 10007 then 10095 else bif Nat.beq i 10006 then 10094 else bif Nat.beq i 10005 then 10093 else bif Nat.beq i 10004 then 10092 else bif Nat.beq i 10003 then 10091 else bif Nat.beq i 10002 then 10090 else bif Nat.beq i 10001 then 10089 else i) (.cons rfl (DLe.refl _) (.cons rfl (DLe.refl _) (.cons rfl (DLe.refl _) (.cons rfl (DLe.refl _) (.cons rfl (DLe.refl _) .nil))))) (.cons rfl (.refl _) (.cons rfl (.refl _) (.cons rfl (.refl _) (.cons rfl (.refl _) (.cons rfl (.refl _) (.cons rfl (.refl _) (.cons rfl (.refl _) (.cons rfl (.refl _) (.cons rfl (.refl _) (.cons rfl (.refl _) (.cons rfl (.refl _) (.cons rfl (.refl _) (.cons rfl (.refl _) .nil))))))))))))) rfl rfl rfl)⟩
 ·rintro ⟨a2,a3,a4,a5,a6,a7,a8,a9,a10,a11,a12,a13⟩ hM
  replace hM : budget_Plan_K14 x1 a2 a3 a4 a5 a6 a7 a8 a9 a10 a11 a12 a13 = some r:=hM
  unfold budget_Plan_K14 at hM
  refine a_seq ?_
  refine a_region (.cons (o_move rfl)<|.cons (o_max rfl rfl)<|.cons (o_move rfl)<|.cons (o_int rfl rfl rfl)<|.cons (o_max rfl rfl)<|.cons (o_assign rfl)<|.nil _) (by kernel_rfl) (by kernel_rfl) ?_
  refine a_cut (α:=(List Bool) × Int) (fun s=>⟨[(4,.sl 1 (List.map DV.bool s.1)),(5,.int .i64 s.2)],[],[]⟩) (fun s=>budget_Plan_K17 s.1 s.2 = some r) ?_ ?_
  ·refine a_seq ?_
   refine a_region (.cons (o_build rfl rfl rfl)<|.cons (o_move rfl)<|.nil _) (by kernel_rfl) (by kernel_rfl) ?_
   obtain ⟨t22,hL22,hK22⟩ := of_bind hM
   refine a_block ?_
   refine a_for (fun k18 s=>⟨[(4,.row 10012),(5,.int .i64 s.2.1),(6,.ref 6 0),(7,.ref 7 0),(12,.int .i64 s.2.2),(65,.agg [.int .u8 1,.int .u8 2,.int .u8 3,.int .u8 4,.int .u8 0]),(66,.int .i64 (k18 : Int))],[(6,some (.blk 122 [.row 10013,.row 10014,.row 10015,.row 10016,.row 10017])),(7,some (.blk 122 [.sl 1 (List.map (DV.int .i64) a9),.sl 1 (List.map (DV.int .i64) a10),.sl 1 (List.map (DV.int .i64) a11),.sl 1 (List.map (DV.int .i64) a12),.sl 1 (List.map (DV.int .i64) a13)])),(10012,some (.row 4 1 (List.map DV.bool s.1))),(10013,some (.row 3 1 (List.map (DV.int .i64) a4))),(10014,some (.row 3 1 (List.map (DV.int .i64) a5))),(10015,some (.row 3 1 (List.map (DV.int .i64) a6))),(10016,some (.row 3 1 (List.map (DV.int .i64) a7))),(10017,some (.row 3 1 (List.map (DV.int .i64) a8)))],[6,7,10012,10013,10014,10015,10016,10017]⟩) _ hL22 ((Imp.freeze (id:=10007) rfl).trans ((Imp.freeze (id:=10008) rfl).trans ((Imp.freeze (id:=10009) rfl).trans ((Imp.freeze (id:=10010) rfl).trans ((Imp.freeze (id:=10011) rfl).trans (Imp.of (fun i=>bif Nat.beq i 10017 then 10006 else bif Nat.beq i 10016 then 10005 else bif Nat.beq i 10015 then 10004 else bif Nat.beq i 10014 then 10003 else bif Nat.beq i 10013 then 10002 else bif Nat.beq i 10012 then 10001 else i) (.cons rfl (DLe.refl _) (.cons rfl (DLe.refl _) (.cons rfl (DLe.refl _) (.cons rfl (DLe.refl _) (.cons rfl (DLe.refl _) (.cons rfl (DLe.refl _) (.cons rfl (DLe.refl _) .nil))))))) (.cons rfl (.refl _) (.cons rfl (.refl _) (.cons rfl (.refl _) (.cons rfl (.refl _) (.cons rfl (.refl _) (.cons rfl (.refl _) (.cons rfl (.refl _) (.cons rfl (.refl _) .nil)))))))) rfl rfl rfl)))))) ?_ ?_
   ·rintro k18 ⟨a19,a20,a21⟩ t23 hk18 hx18 hM hE22
    replace hM : budget_Plan_L22 a4 a5 a6 a7 a8 a9 a10 a11 a12 a13 k18 a19 a20 a21 = some t23:=hM
    unfold budget_Plan_L22 at hM
    refine a_seq ?_
    refine a_region (.cons (o_int rfl rfl rfl)<|.nil _) (by kernel_rfl) (by kernel_rfl) ?_
    refine a_seq ?_
    refine a_cond _ rfl (fun _=>?_) (fun c=>absurd hk18 (of_decide_eq_false c))
    refine a_skip ?_
    refine a_cut (α:=(List Bool) × Int × Int) (fun s=>⟨[(4,.row 10023),(5,.int .i64 s.2.1),(6,.ref 6 0),(7,.ref 7 0),(12,.int .i64 s.2.2),(65,.agg [.int .u8 1,.int .u8 2,.int .u8 3,.int .u8 4,.int .u8 0]),(66,.int .i64 (k18 : Int))],[(6,some (.blk 122 [.row 10024,.row 10025,.row 10026,.row 10027,.row 10028])),(7,some (.blk 122 [.sl 1 (List.map (DV.int .i64) a9),.sl 1 (List.map (DV.int .i64) a10),.sl 1 (List.map (DV.int .i64) a11),.sl 1 (List.map (DV.int .i64) a12),.sl 1 (List.map (DV.int .i64) a13)])),(10023,some (.row 4 1 (List.map DV.bool s.1))),(10024,some (.row 3 1 (List.map (DV.int .i64) a4))),(10025,some (.row 3 1 (List.map (DV.int .i64) a5))),(10026,some (.row 3 1 (List.map (DV.int .i64) a6))),(10027,some (.row 3 1 (List.map (DV.int .i64) a7))),(10028,some (.row 3 1 (List.map (DV.int .i64) a8)))],[6,7,10023,10024,10025,10026,10027,10028]⟩) (fun s=>budget_Plan_K28 s.1 s.2.1 s.2.2 = some t23) ?_ ?_
    ·refine a_block ?_
     refine a_seq ?_
     obtain ⟨v30,h29,hM⟩ := of_bind hM
     refine a_region (.cons (t_idxL (DV.int .u8) ([1,2,3,4,0] : List Int) h29 rfl rfl rfl)<|.cons (o_assign rfl)<|.nil _) (by kernel_rfl) (by kernel_rfl) ?_
     refine a_seq ?_
     by_cases h107 : (v30 == 0) = true
     ·replace hM:=(of_if hM).1 h107
      obtain rfl : v30 = 0:=eq_of_beq h107
      obtain ⟨v109,h108,hM⟩ := of_bind hM
      refine a_region (.cons (o_move rfl)<|.cons (o_indexAddr_a 0 rfl rfl rfl (by decide))<|.cons (o_load_s rfl rfl rfl)<|.cons (o_move rfl)<|.cons (o_call (budget_most_c h108) rfl (DLeL.refl _) rfl)<|.cons (o_move rfl)<|.cons (o_extract rfl rfl)<|.cons (o_extract rfl rfl)<|.cons (o_assign rfl)<|.cons (o_assign rfl)<|.nil _) (by kernel_rfl) (by kernel_rfl) ?_
      refine a_cut (α:=(List Bool)) (fun s=>⟨[(4,.row 10077),(5,.int .i64 a20),(6,.ref 6 0),(7,.ref 7 0),(12,.int .i64 a21),(14,.int .u8 0),(15,.int .i64 v109.1),(16,.int .i64 v109.2),(65,.agg [.int .u8 1,.int .u8 2,.int .u8 3,.int .u8 4,.int .u8 0]),(66,.int .i64 (k18 : Int))],[(6,some (.blk 122 [.row 10078,.row 10079,.row 10080,.row 10081,.row 10082])),(7,some (.blk 122 [.sl 1 (List.map (DV.int .i64) a9),.sl 1 (List.map (DV.int .i64) a10),.sl 1 (List.map (DV.int .i64) a11),.sl 1 (List.map (DV.int .i64) a12),.sl 1 (List.map (DV.int .i64) a13)])),(10077,some (.row 4 1 (List.map DV.bool s))),(10078,some (.row 3 1 (List.map (DV.int .i64) a4))),(10079,some (.row 3 1 (List.map (DV.int .i64) a5))),(10080,some (.row 3 1 (List.map (DV.int .i64) a6))),(10081,some (.row 3 1 (List.map (DV.int .i64) a7))),(10082,some (.row 3 1 (List.map (DV.int .i64) a8)))],[6,7,10077,10078,10079,10080,10081,10082]⟩) (fun s=>budget_Plan_K111 a4 a20 a21 v109 s = some t23) ?_ ?_
      ·refine a_seq ?_
       obtain ⟨v114,h113,hM⟩ := of_bind hM
       refine a_region (.cons (o_move rfl)<|.cons (o_indexAddr_a 0 rfl rfl rfl (by decide))<|.cons (o_load_s rfl rfl rfl)<|.cons (t_len_r rfl rfl)<|.cons (o_move rfl)<|.cons (o_call (budget_Spread_c h113) rfl (DLeL.refl _) rfl)<|.cons (t_len rfl)<|.cons (o_move rfl)<|.nil _) (by kernel_rfl) (by kernel_rfl) ?_
       obtain ⟨a116,hL117,hK117⟩ := of_bind hM
       refine a_block ?_
       refine a_fold (fun k115 s=>⟨[(4,.row 10083),(5,.int .i64 a20),(6,.ref 6 0),(7,.ref 7 0),(12,.int .i64 a21),(14,.int .u8 0),(15,.int .i64 v109.1),(16,.int .i64 v109.2),(65,.agg [.int .u8 1,.int .u8 2,.int .u8 3,.int .u8 4,.int .u8 0]),(66,.int .i64 (k18 : Int)),(82,.sl 1 (List.map (DV.int .i64) v114)),(83,.int .i64 (List.length v114 : Int)),(84,.int .i64 (k115 : Int))],[(6,some (.blk 122 [.row 10084,.row 10085,.row 10086,.row 10087,.row 10088])),(7,some (.blk 122 [.sl 1 (List.map (DV.int .i64) a9),.sl 1 (List.map (DV.int .i64) a10),.sl 1 (List.map (DV.int .i64) a11),.sl 1 (List.map (DV.int .i64) a12),.sl 1 (List.map (DV.int .i64) a13)])),(10083,some (.row 4 1 (List.map DV.bool s))),(10084,some (.row 3 1 (List.map (DV.int .i64) a4))),(10085,some (.row 3 1 (List.map (DV.int .i64) a5))),(10086,some (.row 3 1 (List.map (DV.int .i64) a6))),(10087,some (.row 3 1 (List.map (DV.int .i64) a7))),(10088,some (.row 3 1 (List.map (DV.int .i64) a8)))],[6,7,10083,10084,10085,10086,10087,10088]⟩) _ hL117 (Imp.of (fun i=>bif Nat.beq i 10088 then 10017 else bif Nat.beq i 10087 then 10016 else bif Nat.beq i 10086 then 10015 else bif Nat.beq i 10085 then 10014 else bif Nat.beq i 10084 then 10013 else bif Nat.beq i 10083 then 10012 else i) (.cons rfl (DLe.refl _) (.cons rfl (DLe.refl _) (.cons rfl (DLe.refl _) (.cons rfl (DLe.refl _) (.cons rfl (DLe.refl _) (.cons rfl (DLe.refl _) (.cons rfl (DLe.refl _) (.cons rfl (DLe.refl _) (.cons rfl (DLe.refl _) (.cons rfl (DLe.refl _) (.cons rfl (DLe.refl _) (.cons rfl (DLe.refl _) (.cons rfl (DLe.refl _) .nil))))))))))))) (.cons rfl (.refl _) (.cons rfl (.refl _) (.cons rfl (.refl _) (.cons rfl (.refl _) (.cons rfl (.refl _) (.cons rfl (.refl _) (.cons rfl (.refl _) (.cons rfl (.refl _) .nil)))))))) rfl rfl rfl) ?_ ?_
       ·rintro k115 a116 t118 hk115 hx115 hM
        replace hM : budget_Plan_L117 a4 v114 k115 a116 = some t118:=hM
        unfold budget_Plan_L117 at hM
        refine a_seq ?_
        refine a_region (.cons (o_int rfl rfl rfl)<|.nil _) (by kernel_rfl) (by kernel_rfl) ?_
        refine a_seq ?_
        refine a_cond _ rfl (fun _=>?_) (fun c=>absurd hk115 (of_decide_eq_false c))
        refine a_skip ?_
        refine a_seq ?_
        refine a_block ?_
        refine a_seq ?_
        obtain ⟨v121,h120,hM⟩ := of_bind hM
        refine a_region (.cons (t_index h120 rfl rfl rfl)<|.cons (o_load_es rfl rfl)<|.cons (o_assign rfl)<|.nil _) (by kernel_rfl) (by kernel_rfl) ?_
        obtain ⟨v123,h122,hM⟩ := of_bind hM
        obtain ⟨v125,h124,hM⟩ := of_bind hM
        refine a_region (.cons (o_move rfl)<|.cons (o_move rfl)<|.cons (o_indexAddr_a 0 rfl rfl rfl (by decide))<|.cons (o_load_s rfl rfl rfl)<|.cons (o_move rfl)<|.cons (t_index_r h122 rfl rfl rfl)<|.cons (t_load_ps h122 rfl rfl rfl rfl)<|.cons (t_index_r h124 rfl rfl rfl)<|.cons (t_store_p true h124 rfl rfl rfl rfl rfl rfl rfl rfl rfl rfl rfl)<|.nil _) (by kernel_rfl) (by kernel_rfl) ?_
        refine a_region (.cons (o_add rfl rfl (inR_i64 hk115 hx115))<|.cons (o_move rfl)<|.nil _) (by kernel_rfl) (by kernel_rfl) ?_
        obtain rfl:=Option.some.inj hM
        exact (Imp.of (fun i=>i) (.cons rfl (DLe.refl _) (.cons rfl (DLe.refl _) (.cons rfl (DLe.refl _) (.cons rfl (DLe.refl _) (.cons rfl (DLe.refl _) (.cons rfl (DLe.refl _) (.cons rfl (DLe.refl _) (.cons rfl (DLe.refl _) (.cons rfl (DLe.refl _) (.cons rfl (DLe.refl _) (.cons rfl (DLe.refl _) (.cons rfl (DLe.refl _) (.cons rfl (DLe.succ _ _) .nil))))))))))))) (.cons rfl (.refl _) (.cons rfl (.refl _) (.cons rfl (.refl _) (.cons rfl (.refl _) (.cons rfl (.refl _) (.cons rfl (.refl _) (.cons rfl (.refl _) (.cons rfl (.refl _) .nil)))))))) rfl rfl rfl)
       ·rintro k115 hk115 hx115
        refine a_seq ?_
        refine a_region (.cons (o_int rfl rfl rfl)<|.nil _) (by kernel_rfl) (by kernel_rfl) ?_
        refine a_seq ?_
        refine a_cond _ rfl (fun c=>absurd (of_decide_eq_true c) (Int.not_lt.2 hk115)) (fun _=>?_)
        refine a_exit ?_
        exact ⟨a116,hK117,(Imp.of (fun i=>bif Nat.beq i 10082 then 10088 else bif Nat.beq i 10081 then 10087 else bif Nat.beq i 10080 then 10086 else bif Nat.beq i 10079 then 10085 else bif Nat.beq i 10078 then 10084 else bif Nat.beq i 10077 then 10083 else i) (.cons rfl (DLe.refl _) (.cons rfl (DLe.refl _) (.cons rfl (DLe.refl _) (.cons rfl (DLe.refl _) (.cons rfl (DLe.refl _) (.cons rfl (DLe.refl _) (.cons rfl (DLe.refl _) (.cons rfl (DLe.refl _) (.cons rfl (DLe.refl _) (.cons rfl (DLe.refl _) .nil)))))))))) (.cons rfl (.refl _) (.cons rfl (.refl _) (.cons rfl (.refl _) (.cons rfl (.refl _) (.cons rfl (.refl _) (.cons rfl (.refl _) (.cons rfl (.refl _) (.cons rfl (.refl _) .nil)))))))) rfl rfl rfl)⟩
      ·rintro a110 hM
       replace hM : budget_Plan_K111 a4 a20 a21 v109 a110 = some t23:=hM
       unfold budget_Plan_K111 at hM
       refine a_seq ?_
       refine a_region (.cons (o_move rfl)<|.cons (o_move rfl)<|.cons (o_int rfl rfl rfl)<|.cons (o_assign rfl)<|.nil _) (by kernel_rfl) (by kernel_rfl) ?_
       refine a_seq ?_
       refine a_region (.cons (o_move rfl)<|.cons (o_move rfl)<|.cons (o_int rfl rfl rfl)<|.cons (o_assign rfl)<|.nil _) (by kernel_rfl) (by kernel_rfl) ?_
       refine a_seq ?_
       refine a_region (.cons (o_move rfl)<|.cons (o_move rfl)<|.cons (o_indexAddr_a 0 rfl rfl rfl (by decide))<|.cons (o_load_s rfl rfl rfl)<|.cons (t_len_r rfl rfl)<|.cons (o_int rfl rfl rfl)<|.nil _) (by kernel_rfl) (by kernel_rfl) ?_
       refine a_cond _ rfl (fun h112=>?_) (fun h112=>?_)
       ·replace hM:=(of_if hM).1 h112
        refine a_exit ?_
        obtain rfl:=Option.some.inj hM
        obtain rfl:=hE22 _ rfl
        exact ⟨(a110,(IntKind.wrap .i64 (a20 + v109.2))),hK22,((Imp.freeze (id:=10077) rfl).trans (Imp.of (fun i=>i) (.cons rfl (DLe.refl _) (.cons rfl (DLe.refl _) .nil)) .nil rfl rfl rfl))⟩
       ·replace hM:=(of_if hM).2 h112
        refine a_skip ?_
        exact ⟨(a110,(IntKind.wrap .i64 (a20 + v109.2)),(IntKind.wrap .i64 (a21 - v109.2))),hM,(Imp.of (fun i=>bif Nat.beq i 10028 then 10082 else bif Nat.beq i 10027 then 10081 else bif Nat.beq i 10026 then 10080 else bif Nat.beq i 10025 then 10079 else bif Nat.beq i 10024 then 10078 else bif Nat.beq i 10023 then 10077 else i) (.cons rfl (DLe.refl _) (.cons rfl (DLe.refl _) (.cons rfl (DLe.refl _) (.cons rfl (DLe.refl _) (.cons rfl (DLe.refl _) (.cons rfl (DLe.refl _) (.cons rfl (DLe.refl _) .nil))))))) (.cons rfl (.refl _) (.cons rfl (.refl _) (.cons rfl (.refl _) (.cons rfl (.refl _) (.cons rfl (.refl _) (.cons rfl (.refl _) (.cons rfl (.refl _) (.cons rfl (.refl _) .nil)))))))) rfl rfl rfl)⟩
     ·replace hM:=(of_if hM).2 (Bool.eq_false_iff.2 h107)
      by_cases h88 : (v30 == 1) = true
      ·replace hM:=(of_if hM).1 h88
       obtain rfl : v30 = 1:=eq_of_beq h88
       obtain ⟨v90,h89,hM⟩ := of_bind hM
       refine a_region (.cons (o_move rfl)<|.cons (o_indexAddr_a 1 rfl rfl rfl (by decide))<|.cons (o_load_s rfl rfl rfl)<|.cons (o_move rfl)<|.cons (o_call (budget_most_c h89) rfl (DLeL.refl _) rfl)<|.cons (o_move rfl)<|.cons (o_extract rfl rfl)<|.cons (o_extract rfl rfl)<|.cons (o_assign rfl)<|.cons (o_assign rfl)<|.nil _) (by kernel_rfl) (by kernel_rfl) ?_
       refine a_cut (α:=(List Bool)) (fun s=>⟨[(4,.row 10065),(5,.int .i64 a20),(6,.ref 6 0),(7,.ref 7 0),(12,.int .i64 a21),(14,.int .u8 1),(15,.int .i64 v90.1),(16,.int .i64 v90.2),(65,.agg [.int .u8 1,.int .u8 2,.int .u8 3,.int .u8 4,.int .u8 0]),(66,.int .i64 (k18 : Int))],[(6,some (.blk 122 [.row 10066,.row 10067,.row 10068,.row 10069,.row 10070])),(7,some (.blk 122 [.sl 1 (List.map (DV.int .i64) a9),.sl 1 (List.map (DV.int .i64) a10),.sl 1 (List.map (DV.int .i64) a11),.sl 1 (List.map (DV.int .i64) a12),.sl 1 (List.map (DV.int .i64) a13)])),(10065,some (.row 4 1 (List.map DV.bool s))),(10066,some (.row 3 1 (List.map (DV.int .i64) a4))),(10067,some (.row 3 1 (List.map (DV.int .i64) a5))),(10068,some (.row 3 1 (List.map (DV.int .i64) a6))),(10069,some (.row 3 1 (List.map (DV.int .i64) a7))),(10070,some (.row 3 1 (List.map (DV.int .i64) a8)))],[6,7,10065,10066,10067,10068,10069,10070]⟩) (fun s=>budget_Plan_K92 a5 a20 a21 v90 s = some t23) ?_ ?_
       ·refine a_seq ?_
        obtain ⟨v95,h94,hM⟩ := of_bind hM
        refine a_region (.cons (o_move rfl)<|.cons (o_indexAddr_a 1 rfl rfl rfl (by decide))<|.cons (o_load_s rfl rfl rfl)<|.cons (t_len_r rfl rfl)<|.cons (o_move rfl)<|.cons (o_call (budget_Spread_c h94) rfl (DLeL.refl _) rfl)<|.cons (t_len rfl)<|.cons (o_move rfl)<|.nil _) (by kernel_rfl) (by kernel_rfl) ?_
        obtain ⟨a97,hL98,hK98⟩ := of_bind hM
        refine a_block ?_
        refine a_fold (fun k96 s=>⟨[(4,.row 10071),(5,.int .i64 a20),(6,.ref 6 0),(7,.ref 7 0),(12,.int .i64 a21),(14,.int .u8 1),(15,.int .i64 v90.1),(16,.int .i64 v90.2),(65,.agg [.int .u8 1,.int .u8 2,.int .u8 3,.int .u8 4,.int .u8 0]),(66,.int .i64 (k18 : Int)),(82,.sl 1 (List.map (DV.int .i64) v95)),(83,.int .i64 (List.length v95 : Int)),(84,.int .i64 (k96 : Int))],[(6,some (.blk 122 [.row 10072,.row 10073,.row 10074,.row 10075,.row 10076])),(7,some (.blk 122 [.sl 1 (List.map (DV.int .i64) a9),.sl 1 (List.map (DV.int .i64) a10),.sl 1 (List.map (DV.int .i64) a11),.sl 1 (List.map (DV.int .i64) a12),.sl 1 (List.map (DV.int .i64) a13)])),(10071,some (.row 4 1 (List.map DV.bool s))),(10072,some (.row 3 1 (List.map (DV.int .i64) a4))),(10073,some (.row 3 1 (List.map (DV.int .i64) a5))),(10074,some (.row 3 1 (List.map (DV.int .i64) a6))),(10075,some (.row 3 1 (List.map (DV.int .i64) a7))),(10076,some (.row 3 1 (List.map (DV.int .i64) a8)))],[6,7,10071,10072,10073,10074,10075,10076]⟩) _ hL98 (Imp.of (fun i=>bif Nat.beq i 10076 then 10017 else bif Nat.beq i 10075 then 10016 else bif Nat.beq i 10074 then 10015 else bif Nat.beq i 10073 then 10014 else bif Nat.beq i 10072 then 10013 else bif Nat.beq i 10071 then 10012 else i) (.cons rfl (DLe.refl _) (.cons rfl (DLe.refl _) (.cons rfl (DLe.refl _) (.cons rfl (DLe.refl _) (.cons rfl (DLe.refl _) (.cons rfl (DLe.refl _) (.cons rfl (DLe.refl _) (.cons rfl (DLe.refl _) (.cons rfl (DLe.refl _) (.cons rfl (DLe.refl _) (.cons rfl (DLe.refl _) (.cons rfl (DLe.refl _) (.cons rfl (DLe.refl _) .nil))))))))))))) (.cons rfl (.refl _) (.cons rfl (.refl _) (.cons rfl (.refl _) (.cons rfl (.refl _) (.cons rfl (.refl _) (.cons rfl (.refl _) (.cons rfl (.refl _) (.cons rfl (.refl _) .nil)))))))) rfl rfl rfl) ?_ ?_
        ·rintro k96 a97 t99 hk96 hx96 hM
         replace hM : budget_Plan_L98 a5 v95 k96 a97 = some t99:=hM
         unfold budget_Plan_L98 at hM
         refine a_seq ?_
         refine a_region (.cons (o_int rfl rfl rfl)<|.nil _) (by kernel_rfl) (by kernel_rfl) ?_
         refine a_seq ?_
         refine a_cond _ rfl (fun _=>?_) (fun c=>absurd hk96 (of_decide_eq_false c))
         refine a_skip ?_
         refine a_seq ?_
         refine a_block ?_
         refine a_seq ?_
         obtain ⟨v102,h101,hM⟩ := of_bind hM
         refine a_region (.cons (t_index h101 rfl rfl rfl)<|.cons (o_load_es rfl rfl)<|.cons (o_assign rfl)<|.nil _) (by kernel_rfl) (by kernel_rfl) ?_
         obtain ⟨v104,h103,hM⟩ := of_bind hM
         obtain ⟨v106,h105,hM⟩ := of_bind hM
         refine a_region (.cons (o_move rfl)<|.cons (o_move rfl)<|.cons (o_indexAddr_a 1 rfl rfl rfl (by decide))<|.cons (o_load_s rfl rfl rfl)<|.cons (o_move rfl)<|.cons (t_index_r h103 rfl rfl rfl)<|.cons (t_load_ps h103 rfl rfl rfl rfl)<|.cons (t_index_r h105 rfl rfl rfl)<|.cons (t_store_p true h105 rfl rfl rfl rfl rfl rfl rfl rfl rfl rfl rfl)<|.nil _) (by kernel_rfl) (by kernel_rfl) ?_
         refine a_region (.cons (o_add rfl rfl (inR_i64 hk96 hx96))<|.cons (o_move rfl)<|.nil _) (by kernel_rfl) (by kernel_rfl) ?_
         obtain rfl:=Option.some.inj hM
         exact (Imp.of (fun i=>i) (.cons rfl (DLe.refl _) (.cons rfl (DLe.refl _) (.cons rfl (DLe.refl _) (.cons rfl (DLe.refl _) (.cons rfl (DLe.refl _) (.cons rfl (DLe.refl _) (.cons rfl (DLe.refl _) (.cons rfl (DLe.refl _) (.cons rfl (DLe.refl _) (.cons rfl (DLe.refl _) (.cons rfl (DLe.refl _) (.cons rfl (DLe.refl _) (.cons rfl (DLe.succ _ _) .nil))))))))))))) (.cons rfl (.refl _) (.cons rfl (.refl _) (.cons rfl (.refl _) (.cons rfl (.refl _) (.cons rfl (.refl _) (.cons rfl (.refl _) (.cons rfl (.refl _) (.cons rfl (.refl _) .nil)))))))) rfl rfl rfl)
        ·rintro k96 hk96 hx96
         refine a_seq ?_
         refine a_region (.cons (o_int rfl rfl rfl)<|.nil _) (by kernel_rfl) (by kernel_rfl) ?_
         refine a_seq ?_
         refine a_cond _ rfl (fun c=>absurd (of_decide_eq_true c) (Int.not_lt.2 hk96)) (fun _=>?_)
         refine a_exit ?_
         exact ⟨a97,hK98,(Imp.of (fun i=>bif Nat.beq i 10070 then 10076 else bif Nat.beq i 10069 then 10075 else bif Nat.beq i 10068 then 10074 else bif Nat.beq i 10067 then 10073 else bif Nat.beq i 10066 then 10072 else bif Nat.beq i 10065 then 10071 else i) (.cons rfl (DLe.refl _) (.cons rfl (DLe.refl _) (.cons rfl (DLe.refl _) (.cons rfl (DLe.refl _) (.cons rfl (DLe.refl _) (.cons rfl (DLe.refl _) (.cons rfl (DLe.refl _) (.cons rfl (DLe.refl _) (.cons rfl (DLe.refl _) (.cons rfl (DLe.refl _) .nil)))))))))) (.cons rfl (.refl _) (.cons rfl (.refl _) (.cons rfl (.refl _) (.cons rfl (.refl _) (.cons rfl (.refl _) (.cons rfl (.refl _) (.cons rfl (.refl _) (.cons rfl (.refl _) .nil)))))))) rfl rfl rfl)⟩
       ·rintro a91 hM
        replace hM : budget_Plan_K92 a5 a20 a21 v90 a91 = some t23:=hM
        unfold budget_Plan_K92 at hM
        refine a_seq ?_
        refine a_region (.cons (o_move rfl)<|.cons (o_move rfl)<|.cons (o_int rfl rfl rfl)<|.cons (o_assign rfl)<|.nil _) (by kernel_rfl) (by kernel_rfl) ?_
        refine a_seq ?_
        refine a_region (.cons (o_move rfl)<|.cons (o_move rfl)<|.cons (o_int rfl rfl rfl)<|.cons (o_assign rfl)<|.nil _) (by kernel_rfl) (by kernel_rfl) ?_
        refine a_seq ?_
        refine a_region (.cons (o_move rfl)<|.cons (o_move rfl)<|.cons (o_indexAddr_a 1 rfl rfl rfl (by decide))<|.cons (o_load_s rfl rfl rfl)<|.cons (t_len_r rfl rfl)<|.cons (o_int rfl rfl rfl)<|.nil _) (by kernel_rfl) (by kernel_rfl) ?_
        refine a_cond _ rfl (fun h93=>?_) (fun h93=>?_)
        ·replace hM:=(of_if hM).1 h93
         refine a_exit ?_
         obtain rfl:=Option.some.inj hM
         obtain rfl:=hE22 _ rfl
         exact ⟨(a91,(IntKind.wrap .i64 (a20 + v90.2))),hK22,((Imp.freeze (id:=10065) rfl).trans (Imp.of (fun i=>i) (.cons rfl (DLe.refl _) (.cons rfl (DLe.refl _) .nil)) .nil rfl rfl rfl))⟩
        ·replace hM:=(of_if hM).2 h93
         refine a_skip ?_
         exact ⟨(a91,(IntKind.wrap .i64 (a20 + v90.2)),(IntKind.wrap .i64 (a21 - v90.2))),hM,(Imp.of (fun i=>bif Nat.beq i 10028 then 10070 else bif Nat.beq i 10027 then 10069 else bif Nat.beq i 10026 then 10068 else bif Nat.beq i 10025 then 10067 else bif Nat.beq i 10024 then 10066 else bif Nat.beq i 10023 then 10065 else i) (.cons rfl (DLe.refl _) (.cons rfl (DLe.refl _) (.cons rfl (DLe.refl _) (.cons rfl (DLe.refl _) (.cons rfl (DLe.refl _) (.cons rfl (DLe.refl _) (.cons rfl (DLe.refl _) .nil))))))) (.cons rfl (.refl _) (.cons rfl (.refl _) (.cons rfl (.refl _) (.cons rfl (.refl _) (.cons rfl (.refl _) (.cons rfl (.refl _) (.cons rfl (.refl _) (.cons rfl (.refl _) .nil)))))))) rfl rfl rfl)⟩
      ·replace hM:=(of_if hM).2 (Bool.eq_false_iff.2 h88)
       by_cases h69 : (v30 == 2) = true
       ·replace hM:=(of_if hM).1 h69
        obtain rfl : v30 = 2:=eq_of_beq h69
        obtain ⟨v71,h70,hM⟩ := of_bind hM
        refine a_region (.cons (o_move rfl)<|.cons (o_indexAddr_a 2 rfl rfl rfl (by decide))<|.cons (o_load_s rfl rfl rfl)<|.cons (o_move rfl)<|.cons (o_call (budget_most_c h70) rfl (DLeL.refl _) rfl)<|.cons (o_move rfl)<|.cons (o_extract rfl rfl)<|.cons (o_extract rfl rfl)<|.cons (o_assign rfl)<|.cons (o_assign rfl)<|.nil _) (by kernel_rfl) (by kernel_rfl) ?_
        refine a_cut (α:=(List Bool)) (fun s=>⟨[(4,.row 10053),(5,.int .i64 a20),(6,.ref 6 0),(7,.ref 7 0),(12,.int .i64 a21),(14,.int .u8 2),(15,.int .i64 v71.1),(16,.int .i64 v71.2),(65,.agg [.int .u8 1,.int .u8 2,.int .u8 3,.int .u8 4,.int .u8 0]),(66,.int .i64 (k18 : Int))],[(6,some (.blk 122 [.row 10054,.row 10055,.row 10056,.row 10057,.row 10058])),(7,some (.blk 122 [.sl 1 (List.map (DV.int .i64) a9),.sl 1 (List.map (DV.int .i64) a10),.sl 1 (List.map (DV.int .i64) a11),.sl 1 (List.map (DV.int .i64) a12),.sl 1 (List.map (DV.int .i64) a13)])),(10053,some (.row 4 1 (List.map DV.bool s))),(10054,some (.row 3 1 (List.map (DV.int .i64) a4))),(10055,some (.row 3 1 (List.map (DV.int .i64) a5))),(10056,some (.row 3 1 (List.map (DV.int .i64) a6))),(10057,some (.row 3 1 (List.map (DV.int .i64) a7))),(10058,some (.row 3 1 (List.map (DV.int .i64) a8)))],[6,7,10053,10054,10055,10056,10057,10058]⟩) (fun s=>budget_Plan_K73 a6 a20 a21 v71 s = some t23) ?_ ?_
        ·refine a_seq ?_
         obtain ⟨v76,h75,hM⟩ := of_bind hM
         refine a_region (.cons (o_move rfl)<|.cons (o_indexAddr_a 2 rfl rfl rfl (by decide))<|.cons (o_load_s rfl rfl rfl)<|.cons (t_len_r rfl rfl)<|.cons (o_move rfl)<|.cons (o_call (budget_Spread_c h75) rfl (DLeL.refl _) rfl)<|.cons (t_len rfl)<|.cons (o_move rfl)<|.nil _) (by kernel_rfl) (by kernel_rfl) ?_
         obtain ⟨a78,hL79,hK79⟩ := of_bind hM
         refine a_block ?_
         refine a_fold (fun k77 s=>⟨[(4,.row 10059),(5,.int .i64 a20),(6,.ref 6 0),(7,.ref 7 0),(12,.int .i64 a21),(14,.int .u8 2),(15,.int .i64 v71.1),(16,.int .i64 v71.2),(65,.agg [.int .u8 1,.int .u8 2,.int .u8 3,.int .u8 4,.int .u8 0]),(66,.int .i64 (k18 : Int)),(82,.sl 1 (List.map (DV.int .i64) v76)),(83,.int .i64 (List.length v76 : Int)),(84,.int .i64 (k77 : Int))],[(6,some (.blk 122 [.row 10060,.row 10061,.row 10062,.row 10063,.row 10064])),(7,some (.blk 122 [.sl 1 (List.map (DV.int .i64) a9),.sl 1 (List.map (DV.int .i64) a10),.sl 1 (List.map (DV.int .i64) a11),.sl 1 (List.map (DV.int .i64) a12),.sl 1 (List.map (DV.int .i64) a13)])),(10059,some (.row 4 1 (List.map DV.bool s))),(10060,some (.row 3 1 (List.map (DV.int .i64) a4))),(10061,some (.row 3 1 (List.map (DV.int .i64) a5))),(10062,some (.row 3 1 (List.map (DV.int .i64) a6))),(10063,some (.row 3 1 (List.map (DV.int .i64) a7))),(10064,some (.row 3 1 (List.map (DV.int .i64) a8)))],[6,7,10059,10060,10061,10062,10063,10064]⟩) _ hL79 (Imp.of (fun i=>bif Nat.beq i 10064 then 10017 else bif Nat.beq i 10063 then 10016 else bif Nat.beq i 10062 then 10015 else bif Nat.beq i 10061 then 10014 else bif Nat.beq i 10060 then 10013 else bif Nat.beq i 10059 then 10012 else i) (.cons rfl (DLe.refl _) (.cons rfl (DLe.refl _) (.cons rfl (DLe.refl _) (.cons rfl (DLe.refl _) (.cons rfl (DLe.refl _) (.cons rfl (DLe.refl _) (.cons rfl (DLe.refl _) (.cons rfl (DLe.refl _) (.cons rfl (DLe.refl _) (.cons rfl (DLe.refl _) (.cons rfl (DLe.refl _) (.cons rfl (DLe.refl _) (.cons rfl (DLe.refl _) .nil))))))))))))) (.cons rfl (.refl _) (.cons rfl (.refl _) (.cons rfl (.refl _) (.cons rfl (.refl _) (.cons rfl (.refl _) (.cons rfl (.refl _) (.cons rfl (.refl _) (.cons rfl (.refl _) .nil)))))))) rfl rfl rfl) ?_ ?_
         ·rintro k77 a78 t80 hk77 hx77 hM
          replace hM : budget_Plan_L79 a6 v76 k77 a78 = some t80:=hM
          unfold budget_Plan_L79 at hM
          refine a_seq ?_
          refine a_region (.cons (o_int rfl rfl rfl)<|.nil _) (by kernel_rfl) (by kernel_rfl) ?_
          refine a_seq ?_
          refine a_cond _ rfl (fun _=>?_) (fun c=>absurd hk77 (of_decide_eq_false c))
          refine a_skip ?_
          refine a_seq ?_
          refine a_block ?_
          refine a_seq ?_
          obtain ⟨v83,h82,hM⟩ := of_bind hM
          refine a_region (.cons (t_index h82 rfl rfl rfl)<|.cons (o_load_es rfl rfl)<|.cons (o_assign rfl)<|.nil _) (by kernel_rfl) (by kernel_rfl) ?_
          obtain ⟨v85,h84,hM⟩ := of_bind hM
          obtain ⟨v87,h86,hM⟩ := of_bind hM
          refine a_region (.cons (o_move rfl)<|.cons (o_move rfl)<|.cons (o_indexAddr_a 2 rfl rfl rfl (by decide))<|.cons (o_load_s rfl rfl rfl)<|.cons (o_move rfl)<|.cons (t_index_r h84 rfl rfl rfl)<|.cons (t_load_ps h84 rfl rfl rfl rfl)<|.cons (t_index_r h86 rfl rfl rfl)<|.cons (t_store_p true h86 rfl rfl rfl rfl rfl rfl rfl rfl rfl rfl rfl)<|.nil _) (by kernel_rfl) (by kernel_rfl) ?_
          refine a_region (.cons (o_add rfl rfl (inR_i64 hk77 hx77))<|.cons (o_move rfl)<|.nil _) (by kernel_rfl) (by kernel_rfl) ?_
          obtain rfl:=Option.some.inj hM
          exact (Imp.of (fun i=>i) (.cons rfl (DLe.refl _) (.cons rfl (DLe.refl _) (.cons rfl (DLe.refl _) (.cons rfl (DLe.refl _) (.cons rfl (DLe.refl _) (.cons rfl (DLe.refl _) (.cons rfl (DLe.refl _) (.cons rfl (DLe.refl _) (.cons rfl (DLe.refl _) (.cons rfl (DLe.refl _) (.cons rfl (DLe.refl _) (.cons rfl (DLe.refl _) (.cons rfl (DLe.succ _ _) .nil))))))))))))) (.cons rfl (.refl _) (.cons rfl (.refl _) (.cons rfl (.refl _) (.cons rfl (.refl _) (.cons rfl (.refl _) (.cons rfl (.refl _) (.cons rfl (.refl _) (.cons rfl (.refl _) .nil)))))))) rfl rfl rfl)
         ·rintro k77 hk77 hx77
          refine a_seq ?_
          refine a_region (.cons (o_int rfl rfl rfl)<|.nil _) (by kernel_rfl) (by kernel_rfl) ?_
          refine a_seq ?_
          refine a_cond _ rfl (fun c=>absurd (of_decide_eq_true c) (Int.not_lt.2 hk77)) (fun _=>?_)
          refine a_exit ?_
          exact ⟨a78,hK79,(Imp.of (fun i=>bif Nat.beq i 10058 then 10064 else bif Nat.beq i 10057 then 10063 else bif Nat.beq i 10056 then 10062 else bif Nat.beq i 10055 then 10061 else bif Nat.beq i 10054 then 10060 else bif Nat.beq i 10053 then 10059 else i) (.cons rfl (DLe.refl _) (.cons rfl (DLe.refl _) (.cons rfl (DLe.refl _) (.cons rfl (DLe.refl _) (.cons rfl (DLe.refl _) (.cons rfl (DLe.refl _) (.cons rfl (DLe.refl _) (.cons rfl (DLe.refl _) (.cons rfl (DLe.refl _) (.cons rfl (DLe.refl _) .nil)))))))))) (.cons rfl (.refl _) (.cons rfl (.refl _) (.cons rfl (.refl _) (.cons rfl (.refl _) (.cons rfl (.refl _) (.cons rfl (.refl _) (.cons rfl (.refl _) (.cons rfl (.refl _) .nil)))))))) rfl rfl rfl)⟩
        ·rintro a72 hM
         replace hM : budget_Plan_K73 a6 a20 a21 v71 a72 = some t23:=hM
         unfold budget_Plan_K73 at hM
         refine a_seq ?_
         refine a_region (.cons (o_move rfl)<|.cons (o_move rfl)<|.cons (o_int rfl rfl rfl)<|.cons (o_assign rfl)<|.nil _) (by kernel_rfl) (by kernel_rfl) ?_
         refine a_seq ?_
         refine a_region (.cons (o_move rfl)<|.cons (o_move rfl)<|.cons (o_int rfl rfl rfl)<|.cons (o_assign rfl)<|.nil _) (by kernel_rfl) (by kernel_rfl) ?_
         refine a_seq ?_
         refine a_region (.cons (o_move rfl)<|.cons (o_move rfl)<|.cons (o_indexAddr_a 2 rfl rfl rfl (by decide))<|.cons (o_load_s rfl rfl rfl)<|.cons (t_len_r rfl rfl)<|.cons (o_int rfl rfl rfl)<|.nil _) (by kernel_rfl) (by kernel_rfl) ?_
         refine a_cond _ rfl (fun h74=>?_) (fun h74=>?_)
         ·replace hM:=(of_if hM).1 h74
          refine a_exit ?_
          obtain rfl:=Option.some.inj hM
          obtain rfl:=hE22 _ rfl
          exact ⟨(a72,(IntKind.wrap .i64 (a20 + v71.2))),hK22,((Imp.freeze (id:=10053) rfl).trans (Imp.of (fun i=>i) (.cons rfl (DLe.refl _) (.cons rfl (DLe.refl _) .nil)) .nil rfl rfl rfl))⟩
         ·replace hM:=(of_if hM).2 h74
          refine a_skip ?_
          exact ⟨(a72,(IntKind.wrap .i64 (a20 + v71.2)),(IntKind.wrap .i64 (a21 - v71.2))),hM,(Imp.of (fun i=>bif Nat.beq i 10028 then 10058 else bif Nat.beq i 10027 then 10057 else bif Nat.beq i 10026 then 10056 else bif Nat.beq i 10025 then 10055 else bif Nat.beq i 10024 then 10054 else bif Nat.beq i 10023 then 10053 else i) (.cons rfl (DLe.refl _) (.cons rfl (DLe.refl _) (.cons rfl (DLe.refl _) (.cons rfl (DLe.refl _) (.cons rfl (DLe.refl _) (.cons rfl (DLe.refl _) (.cons rfl (DLe.refl _) .nil))))))) (.cons rfl (.refl _) (.cons rfl (.refl _) (.cons rfl (.refl _) (.cons rfl (.refl _) (.cons rfl (.refl _) (.cons rfl (.refl _) (.cons rfl (.refl _) (.cons rfl (.refl _) .nil)))))))) rfl rfl rfl)⟩
       ·replace hM:=(of_if hM).2 (Bool.eq_false_iff.2 h69)
        by_cases h50 : (v30 == 3) = true
        ·replace hM:=(of_if hM).1 h50
         obtain rfl : v30 = 3:=eq_of_beq h50
         obtain ⟨v52,h51,hM⟩ := of_bind hM
         refine a_region (.cons (o_move rfl)<|.cons (o_indexAddr_a 3 rfl rfl rfl (by decide))<|.cons (o_load_s rfl rfl rfl)<|.cons (o_move rfl)<|.cons (o_call (budget_most_c h51) rfl (DLeL.refl _) rfl)<|.cons (o_move rfl)<|.cons (o_extract rfl rfl)<|.cons (o_extract rfl rfl)<|.cons (o_assign rfl)<|.cons (o_assign rfl)<|.nil _) (by kernel_rfl) (by kernel_rfl) ?_
         refine a_cut (α:=(List Bool)) (fun s=>⟨[(4,.row 10041),(5,.int .i64 a20),(6,.ref 6 0),(7,.ref 7 0),(12,.int .i64 a21),(14,.int .u8 3),(15,.int .i64 v52.1),(16,.int .i64 v52.2),(65,.agg [.int .u8 1,.int .u8 2,.int .u8 3,.int .u8 4,.int .u8 0]),(66,.int .i64 (k18 : Int))],[(6,some (.blk 122 [.row 10042,.row 10043,.row 10044,.row 10045,.row 10046])),(7,some (.blk 122 [.sl 1 (List.map (DV.int .i64) a9),.sl 1 (List.map (DV.int .i64) a10),.sl 1 (List.map (DV.int .i64) a11),.sl 1 (List.map (DV.int .i64) a12),.sl 1 (List.map (DV.int .i64) a13)])),(10041,some (.row 4 1 (List.map DV.bool s))),(10042,some (.row 3 1 (List.map (DV.int .i64) a4))),(10043,some (.row 3 1 (List.map (DV.int .i64) a5))),(10044,some (.row 3 1 (List.map (DV.int .i64) a6))),(10045,some (.row 3 1 (List.map (DV.int .i64) a7))),(10046,some (.row 3 1 (List.map (DV.int .i64) a8)))],[6,7,10041,10042,10043,10044,10045,10046]⟩) (fun s=>budget_Plan_K54 a7 a20 a21 v52 s = some t23) ?_ ?_
         ·refine a_seq ?_
          obtain ⟨v57,h56,hM⟩ := of_bind hM
          refine a_region (.cons (o_move rfl)<|.cons (o_indexAddr_a 3 rfl rfl rfl (by decide))<|.cons (o_load_s rfl rfl rfl)<|.cons (t_len_r rfl rfl)<|.cons (o_move rfl)<|.cons (o_call (budget_Spread_c h56) rfl (DLeL.refl _) rfl)<|.cons (t_len rfl)<|.cons (o_move rfl)<|.nil _) (by kernel_rfl) (by kernel_rfl) ?_
          obtain ⟨a59,hL60,hK60⟩ := of_bind hM
          refine a_block ?_
          refine a_fold (fun k58 s=>⟨[(4,.row 10047),(5,.int .i64 a20),(6,.ref 6 0),(7,.ref 7 0),(12,.int .i64 a21),(14,.int .u8 3),(15,.int .i64 v52.1),(16,.int .i64 v52.2),(65,.agg [.int .u8 1,.int .u8 2,.int .u8 3,.int .u8 4,.int .u8 0]),(66,.int .i64 (k18 : Int)),(82,.sl 1 (List.map (DV.int .i64) v57)),(83,.int .i64 (List.length v57 : Int)),(84,.int .i64 (k58 : Int))],[(6,some (.blk 122 [.row 10048,.row 10049,.row 10050,.row 10051,.row 10052])),(7,some (.blk 122 [.sl 1 (List.map (DV.int .i64) a9),.sl 1 (List.map (DV.int .i64) a10),.sl 1 (List.map (DV.int .i64) a11),.sl 1 (List.map (DV.int .i64) a12),.sl 1 (List.map (DV.int .i64) a13)])),(10047,some (.row 4 1 (List.map DV.bool s))),(10048,some (.row 3 1 (List.map (DV.int .i64) a4))),(10049,some (.row 3 1 (List.map (DV.int .i64) a5))),(10050,some (.row 3 1 (List.map (DV.int .i64) a6))),(10051,some (.row 3 1 (List.map (DV.int .i64) a7))),(10052,some (.row 3 1 (List.map (DV.int .i64) a8)))],[6,7,10047,10048,10049,10050,10051,10052]⟩) _ hL60 (Imp.of (fun i=>bif Nat.beq i 10052 then 10017 else bif Nat.beq i 10051 then 10016 else bif Nat.beq i 10050 then 10015 else bif Nat.beq i 10049 then 10014 else bif Nat.beq i 10048 then 10013 else bif Nat.beq i 10047 then 10012 else i) (.cons rfl (DLe.refl _) (.cons rfl (DLe.refl _) (.cons rfl (DLe.refl _) (.cons rfl (DLe.refl _) (.cons rfl (DLe.refl _) (.cons rfl (DLe.refl _) (.cons rfl (DLe.refl _) (.cons rfl (DLe.refl _) (.cons rfl (DLe.refl _) (.cons rfl (DLe.refl _) (.cons rfl (DLe.refl _) (.cons rfl (DLe.refl _) (.cons rfl (DLe.refl _) .nil))))))))))))) (.cons rfl (.refl _) (.cons rfl (.refl _) (.cons rfl (.refl _) (.cons rfl (.refl _) (.cons rfl (.refl _) (.cons rfl (.refl _) (.cons rfl (.refl _) (.cons rfl (.refl _) .nil)))))))) rfl rfl rfl) ?_ ?_
          ·rintro k58 a59 t61 hk58 hx58 hM
           replace hM : budget_Plan_L60 a7 v57 k58 a59 = some t61:=hM
           unfold budget_Plan_L60 at hM
           refine a_seq ?_
           refine a_region (.cons (o_int rfl rfl rfl)<|.nil _) (by kernel_rfl) (by kernel_rfl) ?_
           refine a_seq ?_
           refine a_cond _ rfl (fun _=>?_) (fun c=>absurd hk58 (of_decide_eq_false c))
           refine a_skip ?_
           refine a_seq ?_
           refine a_block ?_
           refine a_seq ?_
           obtain ⟨v64,h63,hM⟩ := of_bind hM
           refine a_region (.cons (t_index h63 rfl rfl rfl)<|.cons (o_load_es rfl rfl)<|.cons (o_assign rfl)<|.nil _) (by kernel_rfl) (by kernel_rfl) ?_
           obtain ⟨v66,h65,hM⟩ := of_bind hM
           obtain ⟨v68,h67,hM⟩ := of_bind hM
           refine a_region (.cons (o_move rfl)<|.cons (o_move rfl)<|.cons (o_indexAddr_a 3 rfl rfl rfl (by decide))<|.cons (o_load_s rfl rfl rfl)<|.cons (o_move rfl)<|.cons (t_index_r h65 rfl rfl rfl)<|.cons (t_load_ps h65 rfl rfl rfl rfl)<|.cons (t_index_r h67 rfl rfl rfl)<|.cons (t_store_p true h67 rfl rfl rfl rfl rfl rfl rfl rfl rfl rfl rfl)<|.nil _) (by kernel_rfl) (by kernel_rfl) ?_
           refine a_region (.cons (o_add rfl rfl (inR_i64 hk58 hx58))<|.cons (o_move rfl)<|.nil _) (by kernel_rfl) (by kernel_rfl) ?_
           obtain rfl:=Option.some.inj hM
           exact (Imp.of (fun i=>i) (.cons rfl (DLe.refl _) (.cons rfl (DLe.refl _) (.cons rfl (DLe.refl _) (.cons rfl (DLe.refl _) (.cons rfl (DLe.refl _) (.cons rfl (DLe.refl _) (.cons rfl (DLe.refl _) (.cons rfl (DLe.refl _) (.cons rfl (DLe.refl _) (.cons rfl (DLe.refl _) (.cons rfl (DLe.refl _) (.cons rfl (DLe.refl _) (.cons rfl (DLe.succ _ _) .nil))))))))))))) (.cons rfl (.refl _) (.cons rfl (.refl _) (.cons rfl (.refl _) (.cons rfl (.refl _) (.cons rfl (.refl _) (.cons rfl (.refl _) (.cons rfl (.refl _) (.cons rfl (.refl _) .nil)))))))) rfl rfl rfl)
          ·rintro k58 hk58 hx58
           refine a_seq ?_
           refine a_region (.cons (o_int rfl rfl rfl)<|.nil _) (by kernel_rfl) (by kernel_rfl) ?_
           refine a_seq ?_
           refine a_cond _ rfl (fun c=>absurd (of_decide_eq_true c) (Int.not_lt.2 hk58)) (fun _=>?_)
           refine a_exit ?_
           exact ⟨a59,hK60,(Imp.of (fun i=>bif Nat.beq i 10046 then 10052 else bif Nat.beq i 10045 then 10051 else bif Nat.beq i 10044 then 10050 else bif Nat.beq i 10043 then 10049 else bif Nat.beq i 10042 then 10048 else bif Nat.beq i 10041 then 10047 else i) (.cons rfl (DLe.refl _) (.cons rfl (DLe.refl _) (.cons rfl (DLe.refl _) (.cons rfl (DLe.refl _) (.cons rfl (DLe.refl _) (.cons rfl (DLe.refl _) (.cons rfl (DLe.refl _) (.cons rfl (DLe.refl _) (.cons rfl (DLe.refl _) (.cons rfl (DLe.refl _) .nil)))))))))) (.cons rfl (.refl _) (.cons rfl (.refl _) (.cons rfl (.refl _) (.cons rfl (.refl _) (.cons rfl (.refl _) (.cons rfl (.refl _) (.cons rfl (.refl _) (.cons rfl (.refl _) .nil)))))))) rfl rfl rfl)⟩
         ·rintro a53 hM
          replace hM : budget_Plan_K54 a7 a20 a21 v52 a53 = some t23:=hM
          unfold budget_Plan_K54 at hM
          refine a_seq ?_
          refine a_region (.cons (o_move rfl)<|.cons (o_move rfl)<|.cons (o_int rfl rfl rfl)<|.cons (o_assign rfl)<|.nil _) (by kernel_rfl) (by kernel_rfl) ?_
          refine a_seq ?_
          refine a_region (.cons (o_move rfl)<|.cons (o_move rfl)<|.cons (o_int rfl rfl rfl)<|.cons (o_assign rfl)<|.nil _) (by kernel_rfl) (by kernel_rfl) ?_
          refine a_seq ?_
          refine a_region (.cons (o_move rfl)<|.cons (o_move rfl)<|.cons (o_indexAddr_a 3 rfl rfl rfl (by decide))<|.cons (o_load_s rfl rfl rfl)<|.cons (t_len_r rfl rfl)<|.cons (o_int rfl rfl rfl)<|.nil _) (by kernel_rfl) (by kernel_rfl) ?_
          refine a_cond _ rfl (fun h55=>?_) (fun h55=>?_)
          ·replace hM:=(of_if hM).1 h55
           refine a_exit ?_
           obtain rfl:=Option.some.inj hM
           obtain rfl:=hE22 _ rfl
           exact ⟨(a53,(IntKind.wrap .i64 (a20 + v52.2))),hK22,((Imp.freeze (id:=10041) rfl).trans (Imp.of (fun i=>i) (.cons rfl (DLe.refl _) (.cons rfl (DLe.refl _) .nil)) .nil rfl rfl rfl))⟩
          ·replace hM:=(of_if hM).2 h55
           refine a_skip ?_
           exact ⟨(a53,(IntKind.wrap .i64 (a20 + v52.2)),(IntKind.wrap .i64 (a21 - v52.2))),hM,(Imp.of (fun i=>bif Nat.beq i 10028 then 10046 else bif Nat.beq i 10027 then 10045 else bif Nat.beq i 10026 then 10044 else bif Nat.beq i 10025 then 10043 else bif Nat.beq i 10024 then 10042 else bif Nat.beq i 10023 then 10041 else i) (.cons rfl (DLe.refl _) (.cons rfl (DLe.refl _) (.cons rfl (DLe.refl _) (.cons rfl (DLe.refl _) (.cons rfl (DLe.refl _) (.cons rfl (DLe.refl _) (.cons rfl (DLe.refl _) .nil))))))) (.cons rfl (.refl _) (.cons rfl (.refl _) (.cons rfl (.refl _) (.cons rfl (.refl _) (.cons rfl (.refl _) (.cons rfl (.refl _) (.cons rfl (.refl _) (.cons rfl (.refl _) .nil)))))))) rfl rfl rfl)⟩
        ·replace hM:=(of_if hM).2 (Bool.eq_false_iff.2 h50)
         by_cases h31 : (v30 == 4) = true
         ·replace hM:=(of_if hM).1 h31
          obtain rfl : v30 = 4:=eq_of_beq h31
          obtain ⟨v33,h32,hM⟩ := of_bind hM
          refine a_region (.cons (o_move rfl)<|.cons (o_indexAddr_a 4 rfl rfl rfl (by decide))<|.cons (o_load_s rfl rfl rfl)<|.cons (o_move rfl)<|.cons (o_call (budget_most_c h32) rfl (DLeL.refl _) rfl)<|.cons (o_move rfl)<|.cons (o_extract rfl rfl)<|.cons (o_extract rfl rfl)<|.cons (o_assign rfl)<|.cons (o_assign rfl)<|.nil _) (by kernel_rfl) (by kernel_rfl) ?_
          refine a_cut (α:=(List Bool)) (fun s=>⟨[(4,.row 10029),(5,.int .i64 a20),(6,.ref 6 0),(7,.ref 7 0),(12,.int .i64 a21),(14,.int .u8 4),(15,.int .i64 v33.1),(16,.int .i64 v33.2),(65,.agg [.int .u8 1,.int .u8 2,.int .u8 3,.int .u8 4,.int .u8 0]),(66,.int .i64 (k18 : Int))],[(6,some (.blk 122 [.row 10030,.row 10031,.row 10032,.row 10033,.row 10034])),(7,some (.blk 122 [.sl 1 (List.map (DV.int .i64) a9),.sl 1 (List.map (DV.int .i64) a10),.sl 1 (List.map (DV.int .i64) a11),.sl 1 (List.map (DV.int .i64) a12),.sl 1 (List.map (DV.int .i64) a13)])),(10029,some (.row 4 1 (List.map DV.bool s))),(10030,some (.row 3 1 (List.map (DV.int .i64) a4))),(10031,some (.row 3 1 (List.map (DV.int .i64) a5))),(10032,some (.row 3 1 (List.map (DV.int .i64) a6))),(10033,some (.row 3 1 (List.map (DV.int .i64) a7))),(10034,some (.row 3 1 (List.map (DV.int .i64) a8)))],[6,7,10029,10030,10031,10032,10033,10034]⟩) (fun s=>budget_Plan_K35 a8 a20 a21 v33 s = some t23) ?_ ?_
          ·refine a_seq ?_
           obtain ⟨v38,h37,hM⟩ := of_bind hM
           refine a_region (.cons (o_move rfl)<|.cons (o_indexAddr_a 4 rfl rfl rfl (by decide))<|.cons (o_load_s rfl rfl rfl)<|.cons (t_len_r rfl rfl)<|.cons (o_move rfl)<|.cons (o_call (budget_Spread_c h37) rfl (DLeL.refl _) rfl)<|.cons (t_len rfl)<|.cons (o_move rfl)<|.nil _) (by kernel_rfl) (by kernel_rfl) ?_
           obtain ⟨a40,hL41,hK41⟩ := of_bind hM
           refine a_block ?_
           refine a_fold (fun k39 s=>⟨[(4,.row 10035),(5,.int .i64 a20),(6,.ref 6 0),(7,.ref 7 0),(12,.int .i64 a21),(14,.int .u8 4),(15,.int .i64 v33.1),(16,.int .i64 v33.2),(65,.agg [.int .u8 1,.int .u8 2,.int .u8 3,.int .u8 4,.int .u8 0]),(66,.int .i64 (k18 : Int)),(82,.sl 1 (List.map (DV.int .i64) v38)),(83,.int .i64 (List.length v38 : Int)),(84,.int .i64 (k39 : Int))],[(6,some (.blk 122 [.row 10036,.row 10037,.row 10038,.row 10039,.row 10040])),(7,some (.blk 122 [.sl 1 (List.map (DV.int .i64) a9),.sl 1 (List.map (DV.int .i64) a10),.sl 1 (List.map (DV.int .i64) a11),.sl 1 (List.map (DV.int .i64) a12),.sl 1 (List.map (DV.int .i64) a13)])),(10035,some (.row 4 1 (List.map DV.bool s))),(10036,some (.row 3 1 (List.map (DV.int .i64) a4))),(10037,some (.row 3 1 (List.map (DV.int .i64) a5))),(10038,some (.row 3 1 (List.map (DV.int .i64) a6))),(10039,some (.row 3 1 (List.map (DV.int .i64) a7))),(10040,some (.row 3 1 (List.map (DV.int .i64) a8)))],[6,7,10035,10036,10037,10038,10039,10040]⟩) _ hL41 (Imp.of (fun i=>bif Nat.beq i 10040 then 10017 else bif Nat.beq i 10039 then 10016 else bif Nat.beq i 10038 then 10015 else bif Nat.beq i 10037 then 10014 else bif Nat.beq i 10036 then 10013 else bif Nat.beq i 10035 then 10012 else i) (.cons rfl (DLe.refl _) (.cons rfl (DLe.refl _) (.cons rfl (DLe.refl _) (.cons rfl (DLe.refl _) (.cons rfl (DLe.refl _) (.cons rfl (DLe.refl _) (.cons rfl (DLe.refl _) (.cons rfl (DLe.refl _) (.cons rfl (DLe.refl _) (.cons rfl (DLe.refl _) (.cons rfl (DLe.refl _) (.cons rfl (DLe.refl _) (.cons rfl (DLe.refl _) .nil))))))))))))) (.cons rfl (.refl _) (.cons rfl (.refl _) (.cons rfl (.refl _) (.cons rfl (.refl _) (.cons rfl (.refl _) (.cons rfl (.refl _) (.cons rfl (.refl _) (.cons rfl (.refl _) .nil)))))))) rfl rfl rfl) ?_ ?_
           ·rintro k39 a40 t42 hk39 hx39 hM
            replace hM : budget_Plan_L41 a8 v38 k39 a40 = some t42:=hM
            unfold budget_Plan_L41 at hM
            refine a_seq ?_
            refine a_region (.cons (o_int rfl rfl rfl)<|.nil _) (by kernel_rfl) (by kernel_rfl) ?_
            refine a_seq ?_
            refine a_cond _ rfl (fun _=>?_) (fun c=>absurd hk39 (of_decide_eq_false c))
            refine a_skip ?_
            refine a_seq ?_
            refine a_block ?_
            refine a_seq ?_
            obtain ⟨v45,h44,hM⟩ := of_bind hM
            refine a_region (.cons (t_index h44 rfl rfl rfl)<|.cons (o_load_es rfl rfl)<|.cons (o_assign rfl)<|.nil _) (by kernel_rfl) (by kernel_rfl) ?_
            obtain ⟨v47,h46,hM⟩ := of_bind hM
            obtain ⟨v49,h48,hM⟩ := of_bind hM
            refine a_region (.cons (o_move rfl)<|.cons (o_move rfl)<|.cons (o_indexAddr_a 4 rfl rfl rfl (by decide))<|.cons (o_load_s rfl rfl rfl)<|.cons (o_move rfl)<|.cons (t_index_r h46 rfl rfl rfl)<|.cons (t_load_ps h46 rfl rfl rfl rfl)<|.cons (t_index_r h48 rfl rfl rfl)<|.cons (t_store_p true h48 rfl rfl rfl rfl rfl rfl rfl rfl rfl rfl rfl)<|.nil _) (by kernel_rfl) (by kernel_rfl) ?_
            refine a_region (.cons (o_add rfl rfl (inR_i64 hk39 hx39))<|.cons (o_move rfl)<|.nil _) (by kernel_rfl) (by kernel_rfl) ?_
            obtain rfl:=Option.some.inj hM
            exact (Imp.of (fun i=>i) (.cons rfl (DLe.refl _) (.cons rfl (DLe.refl _) (.cons rfl (DLe.refl _) (.cons rfl (DLe.refl _) (.cons rfl (DLe.refl _) (.cons rfl (DLe.refl _) (.cons rfl (DLe.refl _) (.cons rfl (DLe.refl _) (.cons rfl (DLe.refl _) (.cons rfl (DLe.refl _) (.cons rfl (DLe.refl _) (.cons rfl (DLe.refl _) (.cons rfl (DLe.succ _ _) .nil))))))))))))) (.cons rfl (.refl _) (.cons rfl (.refl _) (.cons rfl (.refl _) (.cons rfl (.refl _) (.cons rfl (.refl _) (.cons rfl (.refl _) (.cons rfl (.refl _) (.cons rfl (.refl _) .nil)))))))) rfl rfl rfl)
           ·rintro k39 hk39 hx39
            refine a_seq ?_
            refine a_region (.cons (o_int rfl rfl rfl)<|.nil _) (by kernel_rfl) (by kernel_rfl) ?_
            refine a_seq ?_
            refine a_cond _ rfl (fun c=>absurd (of_decide_eq_true c) (Int.not_lt.2 hk39)) (fun _=>?_)
            refine a_exit ?_
            exact ⟨a40,hK41,(Imp.of (fun i=>bif Nat.beq i 10034 then 10040 else bif Nat.beq i 10033 then 10039 else bif Nat.beq i 10032 then 10038 else bif Nat.beq i 10031 then 10037 else bif Nat.beq i 10030 then 10036 else bif Nat.beq i 10029 then 10035 else i) (.cons rfl (DLe.refl _) (.cons rfl (DLe.refl _) (.cons rfl (DLe.refl _) (.cons rfl (DLe.refl _) (.cons rfl (DLe.refl _) (.cons rfl (DLe.refl _) (.cons rfl (DLe.refl _) (.cons rfl (DLe.refl _) (.cons rfl (DLe.refl _) (.cons rfl (DLe.refl _) .nil)))))))))) (.cons rfl (.refl _) (.cons rfl (.refl _) (.cons rfl (.refl _) (.cons rfl (.refl _) (.cons rfl (.refl _) (.cons rfl (.refl _) (.cons rfl (.refl _) (.cons rfl (.refl _) .nil)))))))) rfl rfl rfl)⟩
          ·rintro a34 hM
           replace hM : budget_Plan_K35 a8 a20 a21 v33 a34 = some t23:=hM
           unfold budget_Plan_K35 at hM
           refine a_seq ?_
           refine a_region (.cons (o_move rfl)<|.cons (o_move rfl)<|.cons (o_int rfl rfl rfl)<|.cons (o_assign rfl)<|.nil _) (by kernel_rfl) (by kernel_rfl) ?_
           refine a_seq ?_
           refine a_region (.cons (o_move rfl)<|.cons (o_move rfl)<|.cons (o_int rfl rfl rfl)<|.cons (o_assign rfl)<|.nil _) (by kernel_rfl) (by kernel_rfl) ?_
           refine a_seq ?_
           refine a_region (.cons (o_move rfl)<|.cons (o_move rfl)<|.cons (o_indexAddr_a 4 rfl rfl rfl (by decide))<|.cons (o_load_s rfl rfl rfl)<|.cons (t_len_r rfl rfl)<|.cons (o_int rfl rfl rfl)<|.nil _) (by kernel_rfl) (by kernel_rfl) ?_
           refine a_cond _ rfl (fun h36=>?_) (fun h36=>?_)
           ·replace hM:=(of_if hM).1 h36
            refine a_exit ?_
            obtain rfl:=Option.some.inj hM
            obtain rfl:=hE22 _ rfl
            exact ⟨(a34,(IntKind.wrap .i64 (a20 + v33.2))),hK22,((Imp.freeze (id:=10029) rfl).trans (Imp.of (fun i=>i) (.cons rfl (DLe.refl _) (.cons rfl (DLe.refl _) .nil)) .nil rfl rfl rfl))⟩
           ·replace hM:=(of_if hM).2 h36
            refine a_skip ?_
            exact ⟨(a34,(IntKind.wrap .i64 (a20 + v33.2)),(IntKind.wrap .i64 (a21 - v33.2))),hM,(Imp.of (fun i=>bif Nat.beq i 10028 then 10034 else bif Nat.beq i 10027 then 10033 else bif Nat.beq i 10026 then 10032 else bif Nat.beq i 10025 then 10031 else bif Nat.beq i 10024 then 10030 else bif Nat.beq i 10023 then 10029 else i) (.cons rfl (DLe.refl _) (.cons rfl (DLe.refl _) (.cons rfl (DLe.refl _) (.cons rfl (DLe.refl _) (.cons rfl (DLe.refl _) (.cons rfl (DLe.refl _) (.cons rfl (DLe.refl _) .nil))))))) (.cons rfl (.refl _) (.cons rfl (.refl _) (.cons rfl (.refl _) (.cons rfl (.refl _) (.cons rfl (.refl _) (.cons rfl (.refl _) (.cons rfl (.refl _) (.cons rfl (.refl _) .nil)))))))) rfl rfl rfl)⟩
         ·replace hM:=(of_if hM).2 (Bool.eq_false_iff.2 h31)
          cases hM
    ·rintro ⟨a25,a26,a27⟩ hM
     replace hM : budget_Plan_K28 a25 a26 a27 = some t23:=hM
     unfold budget_Plan_K28 at hM
     refine a_region (.cons (o_add rfl rfl (inR_i64 hk18 hx18))<|.cons (o_move rfl)<|.nil _) (by kernel_rfl) (by kernel_rfl) ?_
     obtain rfl:=Option.some.inj hM
     exact ⟨(a25,a26,a27),rfl,(Imp.of (fun i=>bif Nat.beq i 10017 then 10028 else bif Nat.beq i 10016 then 10027 else bif Nat.beq i 10015 then 10026 else bif Nat.beq i 10014 then 10025 else bif Nat.beq i 10013 then 10024 else bif Nat.beq i 10012 then 10023 else i) (.cons rfl (DLe.refl _) (.cons rfl (DLe.refl _) (.cons rfl (DLe.refl _) (.cons rfl (DLe.refl _) (.cons rfl (DLe.refl _) (.cons rfl (DLe.refl _) (.cons rfl (DLe.succ _ _) .nil))))))) (.cons rfl (.refl _) (.cons rfl (.refl _) (.cons rfl (.refl _) (.cons rfl (.refl _) (.cons rfl (.refl _) (.cons rfl (.refl _) (.cons rfl (.refl _) (.cons rfl (.refl _) .nil)))))))) rfl rfl rfl)⟩
   ·rintro k18 ⟨a19,a20,a21⟩ hk18 hx18 rfl
    refine a_seq ?_
    refine a_region (.cons (o_int rfl rfl rfl)<|.nil _) (by kernel_rfl) (by kernel_rfl) ?_
    refine a_seq ?_
    refine a_cond _ rfl (fun c=>absurd (of_decide_eq_true c) (Int.not_lt.2 hk18)) (fun _=>?_)
    refine a_exit ?_
    exact ⟨(a19,a20),hK22,((Imp.freeze (id:=10012) rfl).trans (Imp.of (fun i=>i) (.cons rfl (DLe.refl _) (.cons rfl (DLe.refl _) .nil)) .nil rfl rfl rfl))⟩
  ·rintro ⟨a15,a16⟩ hM
   replace hM : budget_Plan_K17 a15 a16 = some r:=hM
   unfold budget_Plan_K17 at hM
   refine a_seq ?_
   refine a_region (.cons (o_move rfl)<|.cons (o_move rfl)<|.cons (o_assign rfl)<|.cons (o_assign rfl)<|.nil _) (by kernel_rfl) (by kernel_rfl) ?_
   obtain rfl:=Option.some.inj hM
   exact a_ret (a_post (.r2 (.tmp rfl) (.tmp rfl)) (DLe.refl _) PostOk.nil.spec)
def recorder_Record_K1 (a5 : List RRec) : Option ((List RRec) × Int) :=
 some (a5,0)
def recorder_Record_L2 (x0 : List AEv) (x2 : Int) (v2 : (List VClk) × Int) (k6 : Nat) (a7 : List RRec) : Option (Ctl (List RRec) ((List RRec) × Int)) :=
 (idx x0 (k6 : Int)).bind fun v12=>
 if (v12.gComponent != x2) = true then
  some (.next a7)
 else
  chk (apOk 8 (List.length v12.gArgs))<|
  (idx v2.1 (k6 : Int)).bind fun v16=>
  (record_Check (RRec.mk x2 (IntKind.wrap .u64 (List.length a7 : Int)) v16 1 v12 0)).bind fun v18=>
  if (v18 != 0) = true then
   some (.done (([] : List RRec),6))
  else
   chk (apOk 248 (List.length a7 + List.length [(RRec.mk x2 (IntKind.wrap .u64 (List.length a7 : Int)) v16 1 v12 0)]))<|
   some (.next (a7++[(RRec.mk x2 (IntKind.wrap .u64 (List.length a7 : Int)) v16 1 v12 0)]))
def recorder_Record (x0 : List AEv) (x1 : Int) (x2 : Int) : Option ((List RRec) × Int) :=
 (recorder_Clocks x0 x1).bind fun v2=>
 if (v2.2 != 0) = true then
  some (([] : List RRec),v2.2)
 else
  if ((decide (x2 < 0)) || (decide (x1 < x2))) = true then
   some (([] : List RRec),1)
  else
   (forM' (E:=(List RRec) × Int) 9223372036854775807 (List.length x0 : Int) (fun k6 s=>recorder_Record_L2 x0 x2 v2 k6 s) ([] : List RRec)).bind fun
    | .next s=>recorder_Record_K1 s
    | .done r=>some r
theorem recorder_Record_c {x0 : List AEv} {x1 : Int} {x2 : Int} {r : (List RRec) × Int} (hM : recorder_Record x0 x1 x2 = some r) : PCall Tryz.prog 7 [.sl 9 (List.map AEv.dv x0),.int .i64 x1,.int .i64 x2] (.tup [.sl 29 (List.map RRec.dv r.1),.int .i64 r.2]):=by
 unfold recorder_Record at hM
 refine PCall.body Tryz.func7 Tryz.ntmps7 rfl rfl rfl rfl ?_
 refine a_seq (ar (.cons (o_assign rfl)<|.cons (o_assign rfl)<|.nil _) ?_)
 refine a_seq ?_
 obtain ⟨v2,h1,hM⟩ := of_bind hM
 refine ar (.cons (o_move rfl)<|.cons (o_move rfl)<|.cons (o_call (recorder_Clocks_c h1) rfl (DLeL.refl _) rfl)<|.cons (o_move rfl)<|.cons (o_extract rfl rfl)<|.cons (o_extract rfl rfl)<|.cons (o_assign rfl)<|.cons (o_assign rfl)<|.nil _) ?_
 refine a_seq (a_seq (ar (.cons (o_move rfl)<|.cons (o_int rfl rfl rfl)<|.nil _) ?_))
 refine a_cond _ rfl (fun h3=>?_) (fun h3=>?_)
 ·replace hM:=(of_if hM).1 h3
  refine a_seq (ar (.cons (o_move rfl)<|.cons (o_assign rfl)<|.cons (o_assign rfl)<|.nil _) ?_)
  obtain rfl:=Option.some.inj hM
  exact a_ret (a_post (.r2 (.tmp rfl) (.tmp rfl)) (DLe.tup (.cons (DLe.nils _) (.cons (DLe.refl _) .nil))) PostOk.nil.spec)
 ·replace hM:=(of_if hM).2 h3
  refine a_skip (a_seq (a_seq (ar (.cons (o_move rfl)<|.cons (o_int rfl rfl rfl)<|.cons (o_move rfl)<|.cons (o_guardG .bF rfl rfl (fun hb=>(.keep .nil)) (fun hb=>o_move rfl))<|.cons (o_guardG .bF rfl rfl (fun hb=>(.keep .nil)) (fun hb=>o_move rfl))<|.cons (o_guardG .bF rfl rfl (fun hb=>(.strip rfl hb (.strip rfl hb .nil))) (fun hb=>o_int rfl rfl rfl))<|.cons (o_or rfl rfl)<|.nil _) ?_)))
  refine a_cond _ rfl (fun h4=>?_) (fun h4=>?_)
  ·replace hM:=(of_if hM).1 h4
   refine a_seq (ar (.cons (o_assign rfl)<|.cons (o_assign rfl)<|.nil _) ?_)
   obtain rfl:=Option.some.inj hM
   exact a_ret (a_post (.r2 (.tmp rfl) (.tmp rfl)) (DLe.tup (.cons (DLe.nils _) (.cons (DLe.refl _) .nil))) PostOk.nil.spec)
  ·replace hM:=(of_if hM).2 h4
   refine a_skip (a_seq (ar (.cons (o_assign rfl)<|.nil _) ?_))
   refine a_cut (α:=(List RRec)) (fun s=>⟨[(10,.sl 29 (List.map RRec.dv s))],[],[]⟩) (fun s=>recorder_Record_K1 s = some r) ?_ ?_
   ·refine a_seq (ar (.cons (o_move rfl)<|.cons (t_len rfl)<|.cons (o_move rfl)<|.nil _) ?_)
    obtain ⟨t8,hL8,hK8⟩ := of_bind hM
    refine a_block ?_
    refine a_for (fun k6 (s : (List RRec))=>⟨[(2,.int .i64 x2),(8,.sl 16 (List.map VClk.dv v2.1)),(10,.row 10001),(30,.sl 9 (List.map AEv.dv x0)),(31,.int .i64 (List.length x0 : Int)),(32,.int .i64 (k6 : Int))],[(10001,some (.row 51 29 (List.map RRec.dv s)))],[10001]⟩) _ hL8 ((Imp.nilRow (t:=10) (id:=10002) 51 29 rfl rfl).trans (Imp.sh (fun i=>bif Nat.beq i 10001 then 10002 else i) rfl rfl rfl rfl rfl rfl)) ?_ ?_
    ·rintro k6 a7 t9 hk6 hx6 hM hE8
     replace hM : recorder_Record_L2 x0 x2 v2 k6 a7 = some t9:=hM
     unfold recorder_Record_L2 at hM
     refine a_seq (ar (.cons (o_int rfl rfl rfl)<|.nil _) ?_)
     refine a_seq ?_
     refine a_cond _ rfl (fun _=>?_) (fun c=>absurd hk6 (of_decide_eq_false c))
     refine a_skip (a_seq (a_block (a_seq ?_)))
     obtain ⟨v12,h11,hM⟩ := of_bind hM
     refine ar (.cons (o_move rfl)<|.cons (t_index h11 rfl rfl rfl)<|.cons (o_load_er rfl rfl rfl)<|.cons (o_alloc rfl)<|.cons (o_assign rfl)<|.cons (o_store rfl rfl rfl rfl rfl rfl rfl)<|.nil _) ?_
     refine a_seq (a_seq (ar (.cons (o_fieldAddr rfl)<|.cons (o_load_s rfl rfl rfl)<|.cons (o_move rfl)<|.cons (o_int rfl rfl rfl)<|.nil _) ?_))
     refine a_cond _ rfl (fun h13=>?_) (fun h13=>?_)
     ·replace hM:=(of_if hM).1 h13
      refine a_exit (ar (.cons (o_add rfl rfl (inR_i64 hk6 hx6))<|.cons (o_move rfl)<|.nil _) ?_)
      obtain rfl:=Option.some.inj hM
      exact ⟨a7,rfl,(Imp.of (fun i=>i) (.cons rfl (DLe.refl _) (.cons rfl (DLe.refl _) (.cons rfl (DLe.refl _) (.cons rfl (DLe.refl _) (.cons rfl (DLe.refl _) (.cons rfl (DLe.succ _ _) .nil)))))) (.cons rfl (.refl _) .nil) rfl rfl rfl)⟩
     ·replace hM:=(of_if hM).2 h13
      refine a_skip (a_seq ?_)
      obtain ⟨h14,hM⟩ := of_chk hM
      refine ar (.cons (o_fieldAddr rfl)<|.cons (o_load_s rfl rfl rfl)<|.cons (t_append_n (DV.int .i64) v12.gArgs h14 rfl rfl Src.sl)<|.cons (o_fieldAddr rfl)<|.cons (o_store_s rfl rfl rfl rfl rfl)<|.nil _) ?_
      refine a_seq ?_
      obtain ⟨v16,h15,hM⟩ := of_bind hM
      refine ad mixed (.cons (o_move rfl)<|.cons (o_move rfl)<|.cons (t_len_r rfl rfl)<|.cons (o_conv_w rfl)<|.cons (o_move rfl)<|.cons (o_move rfl)<|.cons (t_index h15 rfl rfl rfl)<|.cons (o_load_er rfl rfl rfl)<|.cons (o_load_r rfl rfl rfl rfl)<|.cons (o_build rfl rfl rfl)<|.cons (o_alloc rfl)<|.cons (o_store rfl rfl rfl rfl rfl rfl rfl)<|.nil _) ?_
      refine a_seq (a_seq (a_imp (Imp.freeze (id:=43) rfl) ?_))
      obtain ⟨v18,h17,hM⟩ := of_bind hM
      refine ar (.cons (o_load_r rfl rfl rfl rfl)<|.cons (o_call (record_Check_c h17) rfl (DLeL.refl _) rfl)<|.cons (o_int rfl rfl rfl)<|.nil _) ?_
      refine a_cond _ rfl (fun h19=>?_) (fun h19=>?_)
      ·replace hM:=(of_if hM).1 h19
       refine a_seq (ar (.cons (o_assign rfl)<|.cons (o_assign rfl)<|.nil _) ?_)
       obtain rfl:=Option.some.inj hM
       obtain rfl:=hE8 _ rfl
       obtain rfl:=Option.some.inj hK8
       exact a_ret (a_post (.r2 (.tmp rfl) (.tmp rfl)) (DLe.tup (.cons (DLe.nils _) (.cons (DLe.refl _) .nil))) PostOk.nil.spec)
      ·replace hM:=(of_if hM).2 h19
       refine a_skip ?_
       obtain ⟨h20,hM⟩ := of_chk hM
       refine ar (.cons (o_move rfl)<|.cons (o_load_r rfl rfl rfl rfl)<|.cons (t_build RRec.dv ([(RRec.mk x2 (IntKind.wrap .u64 (List.length a7 : Int)) v16 1 v12 0)] : List RRec) rfl rfl rfl rfl rfl rfl rfl)<|.cons (t_append [(RRec.mk x2 (IntKind.wrap .u64 (List.length a7 : Int)) v16 1 v12 0)] h20 rfl rfl rfl (Src.row rfl))<|.cons (o_assign rfl)<|.nil _) ?_
       refine ar (.cons (o_add rfl rfl (inR_i64 hk6 hx6))<|.cons (o_move rfl)<|.nil _) ?_
       obtain rfl:=Option.some.inj hM
       exact ⟨(a7++[(RRec.mk x2 (IntKind.wrap .u64 (List.length a7 : Int)) v16 1 v12 0)]),rfl,(Imp.of (fun i=>bif Nat.beq i 10001 then 61 else i) (.cons rfl (DLe.refl _) (.cons rfl (DLe.refl _) (.cons rfl (DLe.refl _) (.cons rfl (DLe.refl _) (.cons rfl (DLe.refl _) (.cons rfl (DLe.succ _ _) .nil)))))) (.cons rfl (.refl _) .nil) rfl rfl rfl)⟩
    ·rintro k6 a7 hk6 hx6 rfl
     refine a_seq (ar (.cons (o_int rfl rfl rfl)<|.nil _) ?_)
     refine a_seq ?_
     refine a_cond _ rfl (fun c=>absurd (of_decide_eq_true c) (Int.not_lt.2 hk6)) (fun _=>?_)
     refine a_exit ?_
     exact ⟨a7,hK8,((Imp.freeze (id:=10001) rfl).trans (Imp.sh (fun i=>i) rfl rfl rfl rfl rfl rfl))⟩
   ·rintro a5 hM
    replace hM : recorder_Record_K1 a5 = some r:=hM
    unfold recorder_Record_K1 at hM
    refine a_seq (ar (.cons (o_move rfl)<|.cons (o_assign rfl)<|.cons (o_assign rfl)<|.nil _) ?_)
    obtain rfl:=Option.some.inj hM
    exact a_ret (a_post (.r2 (.tmp rfl) (.tmp rfl)) (DLe.refl _) PostOk.nil.spec)
def recorder_thin_K1 (a3 : List RRec) : Option (List RRec) :=
 some a3
def recorder_thin_L2 (x0 : List RRec) (v2 : (List Bool) × Int) (k4 : Nat) (a5 : List RRec) : Option (List RRec) :=
 (idx x0 (k4 : Int)).bind fun v10=>
 (idx v2.1 (k4 : Int)).bind fun v12=>
 if v12 = true then
  chk (apOk 248 (List.length a5 + List.length [v10]))<|
  some (a5++[v10])
 else
  (gb (decide (0 < (k4 : Int))) false (idx v2.1 (IntKind.wrap .i64 ((k4 : Int) - 1)))).bind fun v16=>
  if ((decide (0 < (k4 : Int))) && (!v16)) = true then
   (idx a5 (IntKind.wrap .i64 ((List.length a5 : Int) - 1))).bind fun v19=>
   (idx a5 (IntKind.wrap .i64 ((List.length a5 : Int) - 1))).bind fun v21=>
   some (List.set a5 (Int.toNat (IntKind.wrap .i64 ((List.length a5 : Int) - 1))) (RRec.mk v21.gComponent v21.gSeq v21.gClock v21.gWhat v21.gEvent (IntKind.wrap .u64 (v19.gCount + 1))))
  else
   chk (apOk 248 (List.length a5 + List.length [(RRec.mk v10.gComponent v10.gSeq (VClk.mk (arr 0 [0,0,0,0,0,0,0,0,0,0,0,0,0,0,0,0])) 2 (AEv.mk 0 0 0 0 0 0 0 0 []) 1)]))<|
   some (a5++[(RRec.mk v10.gComponent v10.gSeq (VClk.mk (arr 0 [0,0,0,0,0,0,0,0,0,0,0,0,0,0,0,0])) 2 (AEv.mk 0 0 0 0 0 0 0 0 []) 1)])
def recorder_thin (x0 : List RRec) (x1 : Int) : Option (List RRec) :=
 (budget_Plan x0 x1).bind fun v2=>
 (foldM' 9223372036854775807 (List.length x0 : Int) (fun k4 s=>recorder_thin_L2 x0 v2 k4 s) ([] : List RRec)).bind fun s=>recorder_thin_K1 s
theorem recorder_thin_c {x0 : List RRec} {x1 : Int} {r : (List RRec)} (hM : recorder_thin x0 x1 = some r) : PCall Tryz.prog 24 [.sl 29 (List.map RRec.dv x0),.int .i64 x1] (.sl 29 (List.map RRec.dv r)):=by
 unfold recorder_thin at hM
 refine PCall.body Tryz.func24 Tryz.ntmps24 rfl rfl rfl rfl ?_
 refine a_seq (ar (.cons (o_assign rfl)<|.nil _) ?_)
 refine a_seq ?_
 obtain ⟨v2,h1,hM⟩ := of_bind hM
 refine ar (.cons (o_move rfl)<|.cons (o_move rfl)<|.cons (o_call (budget_Plan_c h1) rfl (DLeL.refl _) rfl)<|.cons (o_move rfl)<|.cons (o_extract rfl rfl)<|.cons (o_extract rfl rfl)<|.cons (o_assign rfl)<|.cons (o_assign rfl)<|.nil _) ?_
 refine a_seq (ar (.cons (o_assign rfl)<|.nil _) ?_)
 refine a_cut (α:=(List RRec)) (fun s=>⟨[(7,.sl 29 (List.map RRec.dv s))],[],[]⟩) (fun s=>recorder_thin_K1 s = some r) ?_ ?_
 ·refine a_seq (ar (.cons (o_move rfl)<|.cons (t_len rfl)<|.cons (o_move rfl)<|.nil _) ?_)
  obtain ⟨a5,hL6,hK6⟩ := of_bind hM
  refine a_block ?_
  refine a_fold (fun k4 (s : (List RRec))=>⟨[(5,.sl 1 (List.map DV.bool v2.1)),(7,.row 10001),(16,.sl 29 (List.map RRec.dv x0)),(17,.int .i64 (List.length x0 : Int)),(18,.int .i64 (k4 : Int))],[(10001,some (.row 51 29 (List.map RRec.dv s)))],[10001]⟩) _ hL6 ((Imp.nilRow (t:=7) (id:=10002) 51 29 rfl rfl).trans (Imp.sh (fun i=>bif Nat.beq i 10001 then 10002 else i) rfl rfl rfl rfl rfl rfl)) ?_ ?_
  ·rintro k4 a5 t7 hk4 hx4 hM
   replace hM : recorder_thin_L2 x0 v2 k4 a5 = some t7:=hM
   unfold recorder_thin_L2 at hM
   refine a_seq (ar (.cons (o_int rfl rfl rfl)<|.nil _) ?_)
   refine a_seq ?_
   refine a_cond _ rfl (fun _=>?_) (fun c=>absurd hk4 (of_decide_eq_false c))
   refine a_skip (a_seq (a_block (a_seq ?_)))
   obtain ⟨v10,h9,hM⟩ := of_bind hM
   refine ar (.cons (o_move rfl)<|.cons (t_index h9 rfl rfl rfl)<|.cons (o_load_er rfl rfl rfl)<|.cons (o_alloc rfl)<|.cons (o_assign rfl)<|.cons (o_store rfl rfl rfl rfl rfl rfl rfl)<|.nil _) ?_
   refine a_block (a_seq ?_)
   obtain ⟨v12,h11,hM⟩ := of_bind hM
   refine ar (.cons (o_move rfl)<|.cons (o_move rfl)<|.cons (t_index h11 rfl rfl rfl)<|.cons (o_load_es rfl rfl)<|.cons (o_assign rfl)<|.nil _) ?_
   refine a_cond _ rfl (fun h13=>?_) (fun h13=>?_)
   ·replace hM:=(of_if hM).1 h13
    obtain ⟨h14,hM⟩ := of_chk hM
    refine ar (.cons (o_move rfl)<|.cons (o_load_r rfl rfl rfl rfl)<|.cons (t_build RRec.dv ([v10] : List RRec) rfl rfl rfl rfl rfl rfl rfl)<|.cons (t_append [v10] h14 rfl rfl rfl (Src.row rfl))<|.cons (o_assign rfl)<|.nil _) ?_
    refine ar (.cons (o_add rfl rfl (inR_i64 hk4 hx4))<|.cons (o_move rfl)<|.nil _) ?_
    obtain rfl:=Option.some.inj hM
    exact (Imp.of (fun i=>bif Nat.beq i 10001 then 39 else i) (.cons rfl (DLe.refl _) (.cons rfl (DLe.refl _) (.cons rfl (DLe.refl _) (.cons rfl (DLe.refl _) (.cons rfl (DLe.succ _ _) .nil))))) (.cons rfl (.refl _) .nil) rfl rfl rfl)
   ·replace hM:=(of_if hM).2 h13
    refine a_seq ?_
    obtain ⟨v16,h15,hM⟩ := of_bind hM
    refine ar (.cons (o_move rfl)<|.cons (o_int rfl rfl rfl)<|.cons (o_move rfl)<|.cons (o_guardG .bT rfl rfl (fun hb=>(.keep .nil)) (fun hb=>o_move rfl))<|.cons (o_guardG .bT rfl rfl (fun hb=>(.keep .nil)) (fun hb=>o_move rfl))<|.cons (o_guardG .bT rfl rfl (fun hb=>(.strip rfl hb .nil)) (fun hb=>o_int rfl rfl rfl))<|.cons (o_guardG .bT rfl rfl (fun hb=>(.strip rfl hb (.strip rfl hb .nil))) (fun hb=>t_index (of_gb h15 hb) rfl rfl rfl))<|.cons (o_guardG .bT rfl rfl (fun hb=>(.strip rfl hb .nil)) (fun hb=>o_load_es rfl rfl))<|.cons (o_guardG .bT rfl rfl (fun hb=>(.strip rfl hb .nil)) (fun hb=>o_not rfl))<|.cons (o_and rfl rfl)<|.cons (o_assign rfl)<|.nil _) ?_
    refine a_cond _ rfl (fun h17=>?_) (fun h17=>?_)
    ·replace hM:=(of_if hM).1 h17
     obtain ⟨v19,h18,hM⟩ := of_bind hM
     obtain ⟨v21,h20,hM⟩ := of_bind hM
     refine ar (.cons (o_move rfl)<|.cons (o_move rfl)<|.cons (t_len_r rfl rfl)<|.cons (o_int rfl rfl rfl)<|.cons (t_index_r h18 rfl rfl rfl)<|.cons (o_fieldAddr_p rfl)<|.cons (t_load_ps h18 rfl rfl rfl rfl)<|.cons (o_int rfl rfl rfl)<|.cons (t_index_r h20 rfl rfl rfl)<|.cons (o_fieldAddr_p rfl)<|.cons (t_store_p (RRec.mk v21.gComponent v21.gSeq v21.gClock v21.gWhat v21.gEvent (IntKind.wrap .u64 (v19.gCount + 1))) h20 rfl rfl rfl rfl rfl rfl rfl rfl rfl rfl rfl)<|.nil _) ?_
     refine ar (.cons (o_add rfl rfl (inR_i64 hk4 hx4))<|.cons (o_move rfl)<|.nil _) ?_
     obtain rfl:=Option.some.inj hM
     exact (Imp.of (fun i=>i) (.cons rfl (DLe.refl _) (.cons rfl (DLe.refl _) (.cons rfl (DLe.refl _) (.cons rfl (DLe.refl _) (.cons rfl (DLe.succ _ _) .nil))))) (.cons rfl (.refl _) .nil) rfl rfl rfl)
    ·replace hM:=(of_if hM).2 h17
     obtain ⟨h22,hM⟩ := of_chk hM
     refine ar (.cons (o_move rfl)<|.cons (o_fieldAddr rfl)<|.cons (o_load_s rfl rfl rfl)<|.cons (o_fieldAddr rfl)<|.cons (o_load_s rfl rfl rfl)<|.cons (o_build rfl rfl rfl)<|.cons (t_buildW RRec.dv ([(RRec.mk v10.gComponent v10.gSeq (VClk.mk (arr 0 [0,0,0,0,0,0,0,0,0,0,0,0,0,0,0,0])) 2 (AEv.mk 0 0 0 0 0 0 0 0 []) 1)] : List RRec) rfl rfl rfl rfl rfl rfl (.cons (DLe.agg (.cons (DLe.refl _) (.cons (DLe.refl _) (.cons (DLe.refl _) (.cons (DLe.refl _) (.cons (DLe.refl _) (.cons (DLe.refl _) (.cons (DLe.refl _) (.cons (DLe.refl _) (.cons (DLe.refl _) (.cons (DLe.refl _) (.cons (DLe.refl _) (.cons (DLe.refl _) (.cons (DLe.refl _) (.cons (DLe.refl _) (.cons (DLe.refl _) (.cons (DLe.refl _) (.cons (DLe.refl _) (.cons (DLe.refl _) (.cons (DLe.refl _) (.cons (DLe.refl _) (.cons (DLe.refl _) (.cons (DLe.refl _) (.cons (DLe.refl _) (.cons (DLe.refl _) (.cons (DLe.refl _) (.cons (DLe.refl _) (.cons (DLe.refl _) (.cons (DLe.nils _) (.cons (DLe.refl _) .nil)))))))))))))))))))))))))))))) .nil))<|.cons (t_append [(RRec.mk v10.gComponent v10.gSeq (VClk.mk (arr 0 [0,0,0,0,0,0,0,0,0,0,0,0,0,0,0,0])) 2 (AEv.mk 0 0 0 0 0 0 0 0 []) 1)] h22 rfl rfl rfl (Src.row rfl))<|.cons (o_assign rfl)<|.nil _) ?_
     refine ar (.cons (o_add rfl rfl (inR_i64 hk4 hx4))<|.cons (o_move rfl)<|.nil _) ?_
     obtain rfl:=Option.some.inj hM
     exact (Imp.of (fun i=>bif Nat.beq i 10001 then 30 else i) (.cons rfl (DLe.refl _) (.cons rfl (DLe.refl _) (.cons rfl (DLe.refl _) (.cons rfl (DLe.refl _) (.cons rfl (DLe.succ _ _) .nil))))) (.cons rfl (.refl _) .nil) rfl rfl rfl)
  ·rintro k4 hk4 hx4
   refine a_seq (ar (.cons (o_int rfl rfl rfl)<|.nil _) ?_)
   refine a_seq ?_
   refine a_cond _ rfl (fun c=>absurd (of_decide_eq_true c) (Int.not_lt.2 hk4)) (fun _=>?_)
   refine a_exit ?_
   exact ⟨a5,hK6,((Imp.freeze (id:=10001) rfl).trans (Imp.sh (fun i=>i) rfl rfl rfl rfl rfl rfl))⟩
 ·rintro a3 hM
  replace hM : recorder_thin_K1 a3 = some r:=hM
  unfold recorder_thin_K1 at hM
  refine a_seq (ar (.cons (o_move rfl)<|.cons (o_assign rfl)<|.nil _) ?_)
  obtain rfl:=Option.some.inj hM
  exact a_ret (a_post (.r1 (.tmp rfl)) (DLe.refl _) PostOk.nil.spec)
def recorder_Write_K3 (a7 : List Int) : Option ((List Int) × Int) :=
 some (a7,0)
def recorder_Write_L4 (x2 : Int) (v2 : (List RRec) × Int) (a6 : List RRec) (k10 : Nat) (a11 : List Int) : Option (Ctl (List Int) ((List Int) × Int)) :=
 (idx (a6++[(RRec.mk x2 (IntKind.wrap .u64 (List.length v2.1 : Int)) (VClk.mk (arr 0 [0,0,0,0,0,0,0,0,0,0,0,0,0,0,0,0])) 3 (AEv.mk 0 0 0 0 0 0 0 0 []) 0)]) (k10 : Int)).bind fun v16=>
 (RRec_Bytes v16).bind fun v18=>
 (frame_Append a11 v18).bind fun v20=>
 if (v20.2 != 0) = true then
  some (.done (([] : List Int),v20.2))
 else
  some (.next v20.1)
def recorder_Write_K2 (x2 : Int) (v2 : (List RRec) × Int) (a6 : List RRec) : Option ((List Int) × Int) :=
 chk ((List.length a6 : Int) = (List.length a6 : Int)∧(List.length a6 : Int) = (List.length a6 : Int))<|
 chk (0 < List.length [(RRec.mk x2 (IntKind.wrap .u64 (List.length v2.1 : Int)) (VClk.mk (arr 0 [0,0,0,0,0,0,0,0,0,0,0,0,0,0,0,0])) 3 (AEv.mk 0 0 0 0 0 0 0 0 []) 0)]∧apOk 248 (List.length a6 + List.length [(RRec.mk x2 (IntKind.wrap .u64 (List.length v2.1 : Int)) (VClk.mk (arr 0 [0,0,0,0,0,0,0,0,0,0,0,0,0,0,0,0])) 3 (AEv.mk 0 0 0 0 0 0 0 0 []) 0)]))<|
 (forM' (E:=(List Int) × Int) 9223372036854775807 (List.length (a6++[(RRec.mk x2 (IntKind.wrap .u64 (List.length v2.1 : Int)) (VClk.mk (arr 0 [0,0,0,0,0,0,0,0,0,0,0,0,0,0,0,0])) 3 (AEv.mk 0 0 0 0 0 0 0 0 []) 0)]) : Int) (fun k10 s=>recorder_Write_L4 x2 v2 a6 k10 s) ([] : List Int)).bind fun
  | .next s=>recorder_Write_K3 s
  | .done r=>some r
def recorder_Write_K1 (x2 : Int) (x3 : recorder_Config) (v2 : (List RRec) × Int) (a5 : List RRec) : Option ((List Int) × Int) :=
 if (decide (0 < x3.gCapacity)) = true then
  (recorder_newest a5 x3.gCapacity).bind fun v24=>
  if (v24.2 != 0) = true then
   some (([] : List Int),v24.2)
  else
   recorder_Write_K2 x2 v2 v24.1
 else
  recorder_Write_K2 x2 v2 a5
def recorder_Write (x0 : List AEv) (x1 : Int) (x2 : Int) (x3 : recorder_Config) : Option ((List Int) × Int) :=
 (recorder_Record x0 x1 x2).bind fun v2=>
 if (v2.2 != 0) = true then
  some (([] : List Int),v2.2)
 else
  if ((decide (x3.gCapacity < 0)) || (decide (x3.gBudget < 0))) = true then
   some (([] : List Int),1)
  else
   if (decide (0 < x3.gBudget)) = true then
    (recorder_thin v2.1 x3.gBudget).bind fun v28=>
    recorder_Write_K1 x2 x3 v2 v28
   else
    recorder_Write_K1 x2 x3 v2 v2.1
theorem recorder_Write_c {x0 : List AEv} {x1 : Int} {x2 : Int} {x3 : recorder_Config} {r : (List Int) × Int} (hM : recorder_Write x0 x1 x2 x3 = some r) : PCall Tryz.prog 10 [.sl 9 (List.map AEv.dv x0),.int .i64 x1,.int .i64 x2,.agg (recorder_Config.cs x3)] (.tup [.sl 1 (List.map (DV.int .u8) r.1),.int .i64 r.2]):=by
 unfold recorder_Write at hM
 refine PCall.body Tryz.func10 Tryz.ntmps10 rfl rfl rfl rfl ?_
 refine a_seq (ar (.cons (o_box rfl rfl)<|.cons (o_assign rfl)<|.cons (o_assign rfl)<|.nil _) ?_)
 refine a_seq ?_
 obtain ⟨v2,h1,hM⟩ := of_bind hM
 refine ar (.cons (o_move rfl)<|.cons (o_move rfl)<|.cons (o_move rfl)<|.cons (o_call (recorder_Record_c h1) rfl (DLeL.refl _) rfl)<|.cons (o_move rfl)<|.cons (o_extract rfl rfl)<|.cons (o_extract rfl rfl)<|.cons (o_assign rfl)<|.cons (o_assign rfl)<|.nil _) ?_
 refine a_seq (a_seq (ar (.cons (o_move rfl)<|.cons (o_int rfl rfl rfl)<|.nil _) ?_))
 refine a_cond _ rfl (fun h3=>?_) (fun h3=>?_)
 ·replace hM:=(of_if hM).1 h3
  refine a_seq (ar (.cons (o_move rfl)<|.cons (o_assign rfl)<|.cons (o_assign rfl)<|.nil _) ?_)
  obtain rfl:=Option.some.inj hM
  exact a_ret (a_post (.r2 (.tmp rfl) (.tmp rfl)) (DLe.tup (.cons (DLe.nils _) (.cons (DLe.refl _) .nil))) PostOk.nil.spec)
 ·replace hM:=(of_if hM).2 h3
  refine a_skip (a_seq (a_seq (ar (.cons (o_fieldAddr rfl)<|.cons (o_load_s rfl rfl rfl)<|.cons (o_int rfl rfl rfl)<|.cons (o_move rfl)<|.cons (o_guardG .bF rfl rfl (fun hb=>(.keep .nil)) (fun hb=>o_fieldAddr rfl))<|.cons (o_guardG .bF rfl rfl (fun hb=>(.strip rfl hb .nil)) (fun hb=>o_load_s rfl rfl rfl))<|.cons (o_guardG .bF rfl rfl (fun hb=>(.strip rfl hb .nil)) (fun hb=>o_int rfl rfl rfl))<|.cons (o_or rfl rfl)<|.nil _) ?_)))
  refine a_cond _ rfl (fun h4=>?_) (fun h4=>?_)
  ·replace hM:=(of_if hM).1 h4
   refine a_seq (ar (.cons (o_assign rfl)<|.cons (o_assign rfl)<|.nil _) ?_)
   obtain rfl:=Option.some.inj hM
   exact a_ret (a_post (.r2 (.tmp rfl) (.tmp rfl)) (DLe.tup (.cons (DLe.nils _) (.cons (DLe.refl _) .nil))) PostOk.nil.spec)
  ·replace hM:=(of_if hM).2 h4
   refine a_skip (a_seq (ar (.cons (o_move rfl)<|.cons (o_move rfl)<|.cons (t_len rfl)<|.cons (o_conv_w rfl)<|.cons (o_build rfl rfl rfl)<|.cons (o_alloc rfl)<|.cons (o_store rfl rfl rfl rfl rfl rfl rfl)<|.nil _) ?_))
   refine a_cut (α:=(List RRec)) (fun s=>⟨[(7,.ref 7 0),(10,.sl 29 (List.map RRec.dv s)),(12,.ref 12 0)],[(7,some (.blk 36 (recorder_Config.cs x3))),(12,some (.blk 51 [.int .i64 x2,.int .u64 (IntKind.wrap .u64 (List.length v2.1 : Int)),.int .u64 0,.int .u64 0,.int .u64 0,.int .u64 0,.int .u64 0,.int .u64 0,.int .u64 0,.int .u64 0,.int .u64 0,.int .u64 0,.int .u64 0,.int .u64 0,.int .u64 0,.int .u64 0,.int .u64 0,.int .u64 0,.int .u8 3,.int .i64 0,.int .i64 0,.int .u8 0,.int .i64 0,.int .i64 0,.int .i64 0,.int .i64 0,.int .i64 0,.nils,.int .u64 0]))],[7,12]⟩) (fun s=>recorder_Write_K1 x2 x3 v2 s = some r) ?_ ?_
   ·refine a_seq (ar (.cons (o_fieldAddr rfl)<|.cons (o_load_s rfl rfl rfl)<|.cons (o_int rfl rfl rfl)<|.nil _) ?_)
    refine a_cond _ rfl (fun h26=>?_) (fun h26=>?_)
    ·replace hM:=(of_if hM).1 h26
     obtain ⟨v28,h27,hM⟩ := of_bind hM
     refine ar (.cons (o_move rfl)<|.cons (o_fieldAddr rfl)<|.cons (o_load_s rfl rfl rfl)<|.cons (o_call (recorder_thin_c h27) rfl (DLeL.refl _) rfl)<|.cons (o_assign rfl)<|.nil _) ?_
     exact ⟨v28,hM,(Imp.sh (fun i=>i) rfl rfl rfl rfl rfl rfl)⟩
    ·replace hM:=(of_if hM).2 h26
     refine a_skip ?_
     exact ⟨v2.1,hM,(Imp.sh (fun i=>i) rfl rfl rfl rfl rfl rfl)⟩
   ·rintro a5 hM
    replace hM : recorder_Write_K1 x2 x3 v2 a5 = some r:=hM
    unfold recorder_Write_K1 at hM
    refine a_cut (α:=(List RRec)) (fun s=>⟨[(10,.sl 29 (List.map RRec.dv s)),(12,.ref 12 0)],[(12,some (.blk 51 [.int .i64 x2,.int .u64 (IntKind.wrap .u64 (List.length v2.1 : Int)),.int .u64 0,.int .u64 0,.int .u64 0,.int .u64 0,.int .u64 0,.int .u64 0,.int .u64 0,.int .u64 0,.int .u64 0,.int .u64 0,.int .u64 0,.int .u64 0,.int .u64 0,.int .u64 0,.int .u64 0,.int .u64 0,.int .u8 3,.int .i64 0,.int .i64 0,.int .u8 0,.int .i64 0,.int .i64 0,.int .i64 0,.int .i64 0,.int .i64 0,.nils,.int .u64 0]))],[12]⟩) (fun s=>recorder_Write_K2 x2 v2 s = some r) ?_ ?_
    ·refine a_seq (ar (.cons (o_fieldAddr rfl)<|.cons (o_load_s rfl rfl rfl)<|.cons (o_int rfl rfl rfl)<|.nil _) ?_)
     refine a_cond _ rfl (fun h22=>?_) (fun h22=>?_)
     ·replace hM:=(of_if hM).1 h22
      refine a_seq ?_
      obtain ⟨v24,h23,hM⟩ := of_bind hM
      refine ar (.cons (o_move rfl)<|.cons (o_fieldAddr rfl)<|.cons (o_load_s rfl rfl rfl)<|.cons (o_call (recorder_newest_c h23) rfl (DLeL.refl _) rfl)<|.cons (o_move rfl)<|.cons (o_extract rfl rfl)<|.cons (o_extract rfl rfl)<|.cons (o_assign rfl)<|.cons (o_assign rfl)<|.nil _) ?_
      refine a_seq (ar (.cons (o_move rfl)<|.cons (o_int rfl rfl rfl)<|.nil _) ?_)
      refine a_cond _ rfl (fun h25=>?_) (fun h25=>?_)
      ·replace hM:=(of_if hM).1 h25
       refine a_seq (ar (.cons (o_move rfl)<|.cons (o_assign rfl)<|.cons (o_assign rfl)<|.nil _) ?_)
       obtain rfl:=Option.some.inj hM
       exact a_ret (a_post (.r2 (.tmp rfl) (.tmp rfl)) (DLe.tup (.cons (DLe.nils _) (.cons (DLe.refl _) .nil))) PostOk.nil.spec)
      ·replace hM:=(of_if hM).2 h25
       refine a_skip ?_
       exact ⟨v24.1,hM,(Imp.sh (fun i=>i) rfl rfl rfl rfl rfl rfl)⟩
     ·replace hM:=(of_if hM).2 h22
      refine a_skip ?_
      exact ⟨a5,hM,(Imp.sh (fun i=>i) rfl rfl rfl rfl rfl rfl)⟩
    ·rintro a6 hM
     replace hM : recorder_Write_K2 x2 v2 a6 = some r:=hM
     unfold recorder_Write_K2 at hM
     refine a_seq (ar (.cons (o_assign rfl)<|.nil _) ?_)
     refine a_cut (α:=(List Int)) (fun s=>⟨[(13,.sl 1 (List.map (DV.int .u8) s))],[],[]⟩) (fun s=>recorder_Write_K3 s = some r) ?_ ?_
     ·refine a_seq ?_
      obtain ⟨h8,hM⟩ := of_chk hM
      obtain ⟨h9,hM⟩ := of_chk hM
      refine ad mixed (.cons (o_move rfl)<|.cons (o_move rfl)<|.cons (t_len rfl)<|.cons (o_move rfl)<|.cons (t_len rfl)<|.cons (t_slice_f (by rw [List.length_map]; exact h8) rfl rfl rfl)<|.cons (o_load_r rfl rfl rfl rfl)<|.cons (t_buildW RRec.dv ([(RRec.mk x2 (IntKind.wrap .u64 (List.length v2.1 : Int)) (VClk.mk (arr 0 [0,0,0,0,0,0,0,0,0,0,0,0,0,0,0,0])) 3 (AEv.mk 0 0 0 0 0 0 0 0 []) 0)] : List RRec) rfl rfl rfl rfl rfl rfl (.cons (DLe.agg (.cons (DLe.refl _) (.cons (DLe.refl _) (.cons (DLe.refl _) (.cons (DLe.refl _) (.cons (DLe.refl _) (.cons (DLe.refl _) (.cons (DLe.refl _) (.cons (DLe.refl _) (.cons (DLe.refl _) (.cons (DLe.refl _) (.cons (DLe.refl _) (.cons (DLe.refl _) (.cons (DLe.refl _) (.cons (DLe.refl _) (.cons (DLe.refl _) (.cons (DLe.refl _) (.cons (DLe.refl _) (.cons (DLe.refl _) (.cons (DLe.refl _) (.cons (DLe.refl _) (.cons (DLe.refl _) (.cons (DLe.refl _) (.cons (DLe.refl _) (.cons (DLe.refl _) (.cons (DLe.refl _) (.cons (DLe.refl _) (.cons (DLe.refl _) (.cons (DLe.nils _) (.cons (DLe.refl _) .nil)))))))))))))))))))))))))))))) .nil))<|.cons (t_append_f [(RRec.mk x2 (IntKind.wrap .u64 (List.length v2.1 : Int)) (VClk.mk (arr 0 [0,0,0,0,0,0,0,0,0,0,0,0,0,0,0,0])) 3 (AEv.mk 0 0 0 0 0 0 0 0 []) 0)] h9 rfl rfl (Src.row rfl))<|.cons (t_len_r rfl rfl)<|.cons (o_move rfl)<|.nil _) ?_
      obtain ⟨t12,hL12,hK12⟩ := of_bind hM
      refine a_block ?_
      refine a_for (fun k10 (s : (List Int))=>⟨[(13,.sl 1 (List.map (DV.int .u8) s)),(67,.sl 29 (List.map RRec.dv (a6++[(RRec.mk x2 (IntKind.wrap .u64 (List.length v2.1 : Int)) (VClk.mk (arr 0 [0,0,0,0,0,0,0,0,0,0,0,0,0,0,0,0])) 3 (AEv.mk 0 0 0 0 0 0 0 0 []) 0)]))),(68,.int .i64 (List.length (a6++[(RRec.mk x2 (IntKind.wrap .u64 (List.length v2.1 : Int)) (VClk.mk (arr 0 [0,0,0,0,0,0,0,0,0,0,0,0,0,0,0,0])) 3 (AEv.mk 0 0 0 0 0 0 0 0 []) 0)]) : Int)),(69,.int .i64 (k10 : Int))],[],[]⟩) _ hL12 ((Imp.freeze (id:=67) rfl).trans (Imp.of (fun i=>i) (.cons rfl (DLe.nils _) (.cons rfl (DLe.refl _) (.cons rfl (DLe.refl _) (.cons rfl (DLe.refl _) .nil)))) .nil rfl rfl rfl)) ?_ ?_
      ·rintro k10 a11 t13 hk10 hx10 hM hE12
       replace hM : recorder_Write_L4 x2 v2 a6 k10 a11 = some t13:=hM
       unfold recorder_Write_L4 at hM
       refine a_seq (ar (.cons (o_int rfl rfl rfl)<|.nil _) ?_)
       refine a_seq ?_
       refine a_cond _ rfl (fun _=>?_) (fun c=>absurd hk10 (of_decide_eq_false c))
       refine a_skip (a_seq (a_block (a_seq ?_)))
       obtain ⟨v16,h15,hM⟩ := of_bind hM
       refine ar (.cons (t_index h15 rfl rfl rfl)<|.cons (o_load_er rfl rfl rfl)<|.cons (o_alloc rfl)<|.cons (o_store rfl rfl rfl rfl rfl rfl rfl)<|.nil _) ?_
       refine a_seq ?_
       obtain ⟨v18,h17,hM⟩ := of_bind hM
       obtain ⟨v20,h19,hM⟩ := of_bind hM
       refine ar (.cons (o_move rfl)<|.cons (o_load_r rfl rfl rfl rfl)<|.cons (o_call (RRec_Bytes_c h17) rfl (DLeL.refl _) rfl)<|.cons (o_callN (fun i=>bif Nat.beq i 50000 then 10001 else i) 1 (frame_Append_c h19) rfl (DLeL.refl _) .nil rfl .nil)<|.cons (o_move rfl)<|.cons (o_extract rfl rfl)<|.cons (o_extract rfl rfl)<|.cons (o_assign rfl)<|.cons (o_assign rfl)<|.nil _) ?_
       refine a_seq (ar (.cons (o_move rfl)<|.cons (o_int rfl rfl rfl)<|.nil _) ?_)
       refine a_cond _ rfl (fun h21=>?_) (fun h21=>?_)
       ·replace hM:=(of_if hM).1 h21
        refine a_seq (ar (.cons (o_move rfl)<|.cons (o_assign rfl)<|.cons (o_assign rfl)<|.nil _) ?_)
        obtain rfl:=Option.some.inj hM
        obtain rfl:=hE12 _ rfl
        obtain rfl:=Option.some.inj hK12
        exact a_ret (a_post (.r2 (.tmp rfl) (.tmp rfl)) (DLe.tup (.cons (DLe.nils _) (.cons (DLe.refl _) .nil))) PostOk.nil.spec)
       ·replace hM:=(of_if hM).2 h21
        refine a_skip (ar (.cons (o_add rfl rfl (inR_i64 hk10 hx10))<|.cons (o_move rfl)<|.nil _) ?_)
        obtain rfl:=Option.some.inj hM
        exact ⟨v20.1,rfl,((Imp.freeze (id:=10001) rfl).trans (Imp.of (fun i=>i) (.cons rfl (DLe.refl _) (.cons rfl (DLe.refl _) (.cons rfl (DLe.refl _) (.cons rfl (DLe.succ _ _) .nil)))) .nil rfl rfl rfl))⟩
      ·rintro k10 a11 hk10 hx10 rfl
       refine a_seq (ar (.cons (o_int rfl rfl rfl)<|.nil _) ?_)
       refine a_seq ?_
       refine a_cond _ rfl (fun c=>absurd (of_decide_eq_true c) (Int.not_lt.2 hk10)) (fun _=>?_)
       refine a_exit ?_
       exact ⟨a11,hK12,(Imp.sh (fun i=>i) rfl rfl rfl rfl rfl rfl)⟩
     ·rintro a7 hM
      replace hM : recorder_Write_K3 a7 = some r:=hM
      unfold recorder_Write_K3 at hM
      refine a_seq (ar (.cons (o_move rfl)<|.cons (o_assign rfl)<|.cons (o_assign rfl)<|.nil _) ?_)
      obtain rfl:=Option.some.inj hM
      exact a_ret (a_post (.r2 (.tmp rfl) (.tmp rfl)) (DLe.refl _) PostOk.nil.spec)
section
variable {C C' : Ctx} {F F' : FMap} {γ : Gam} {h : Heap} {used : List Nat} {w w' : World}
theorem WS.ctx (H : WS C F γ h used w) (h1 : C'.w0 = C.w0) (h2 : C'.T = C.T) (h3 : C'.F0 = C.F0) (h4 : GLe C'.G0 γ) (h5 : ∀ id g,C'.G0 id = some g→100000≤id) : WS C' F γ h used w where
 ent:=H.ent
 own:=by rw [h1,h2]; exact H.own
 apart:=H.apart
 fs:=H.fs
 f0:=by rw [h3]; exact H.f0
 fnew:=by rw [h1,h2,h3]; exact H.fnew
 os:=by rw [h1]; exact H.os
 tape:=by rw [h1]; exact H.tape
 output:=by rw [h1]; exact H.output
 size:=by rw [h1]; exact H.size
 keep:=by rw [h1,h2]; exact H.keep
 us:=H.us
 gone:=H.gone
 g0:=h4
 gk:=h5
 kn:=by rw [h3]; exact H.kn
theorem WS.reF (H : WS C F γ h used w) : WS { C with F0:=F } F γ h used w:={ H with f0:=FLe.refl _,fnew:=fun b cs hb=>.inl hb,kn:=H.kn.mono H.f0 }
theorem WS.unF {γ' : Gam} {h' : Heap} {used' : List Nat} (H : WS C F γ h used w) (K : WS { C with F0:=F } F' γ' h' used' w') : WS C F' γ' h' used' w' :=
 { K with
  f0:=H.f0.trans K.f0
  kn:=H.kn
  fnew:=fun b cs hb=>(K.fnew b cs hb).elim (fun q=>H.fnew b cs q) .inr }
theorem WS.grown (H : WS C F γ h used w) (G : Grw F w F' w') : WS C F' γ h used w' := by
 have Q:=H.quiet G.stp
 exact { Q with
  ent:=fun id e hi=>by obtain ⟨g,h1,h2⟩ := Q.ent id e hi; exact ⟨g,h1,h2.mono G.fle (GLe.refl _)⟩
  own:=fun id e g b hi hg hb=>by
   refine ⟨?_,(H.own id e g b hi hg hb).2⟩
   cases hF : F' b with
   | none=>rfl
   | some cs=>
    obtain ⟨g',k1,k2⟩ := H.ent id e hi
    rw [hg] at k1; injection k1 with k1; subst k1
    have hlt:=k2.lt b hb
    rcases G.new b cs hF with q | q
    ·rw [(H.own id e g b hi hg hb).1] at q; cases q
    ·omega
  fs:=G.sat
  f0:=H.f0.trans G.fle
  fnew:=fun b cs hb=>by
   rcases G.new b cs hb with q | q
   ·exact H.fnew b cs q
   ·exact .inr (.inr (Nat.le_trans H.size q)) }
theorem WS.setObj (H : WS C F γ h used w) {id l : Nat} {o : Obj} (o' : Obj) (hi : hget h id = some (.obj o)) (hg : γ id = some (.pointer (some ⟨l,0,none⟩))) : WS C F γ ((id,some (.obj o')) :: h) used (w.putObj l o'):=by
 obtain ⟨g,k1,b,k2,k3⟩ := H.ent id _ hi
 rw [hg] at k1; injection k1 with k1; subst k1
 injection k2 with k2; injection k2 with k2; injection k2 with k2 _ _; subst k2
 have hlt:=(Array.getElem?_eq_some_iff.1 k3).1
 have S : Stp w (w.putObj l o') (Value.pblk (.pointer (some ⟨l,0,none⟩))) := ⟨rfl,rfl,rfl,by simp,fun k hk hne=>World.putObj_heap_other (fun e=>hne (by rw [e]; rfl))⟩
 have T:=H.turn hi hg S
 have P:=T.put (e0:=.obj o') hg ⟨l,rfl,World.putObj_heap_same hlt⟩ (fun b hb=>by
  obtain ⟨q1,q2⟩ := H.own id _ _ b hi hg hb
  refine ⟨q1,q2,fun id' e' g' hne hh hg' hb'=>?_⟩
  rw [hget_cons] at hh
  split at hh
  ·cases hh
  ·exact hne (H.apart id' id e' _ g' _ b hh hi hg' hg hb' hb))
 refine P.congr (fun i e he=>?_) (fun _ h=>h)
 rw [hget_cons] at he ⊢
 split at he
 ·rename_i e1; rw [if_pos e1]; exact he
 ·rename_i e1; rw [if_neg e1,hget_cons,if_neg e1]; exact he
end
def markD (D : Nat) : Deferred:={ target:=.collected D,args := #[] }
def idR : Nat:=100004
def idM : Nat:=100005
def ptrTo (b : Nat) : Value:=.pointer (some ⟨b,0,none⟩)
def openMark : HE:=.obj (.deferred (some []))
def CExt (C C' : Ctx) : Prop:=C' = C∨∃ D,C'.w0 = C.w0∧C'.T = C.T∧C'.F0 = C.F0∧C'.n = C.n∧C'.ro = none∧C'.defs = [markD D]∧C'.G0 idM = some (ptrTo D)
def awpD (P : Program) (n : Nat) (c : Code) (Q : Exit→AS→Prop) (σ : AS) : Prop :=
 ∀ (C : Ctx) (F : FMap) (γ : Gam) (a : Act) (w : World),C.n = n→C.ro = none→C.defs = []→C.G0 = Gam.no→Sat C F γ σ a w →
  c.wpIn (FW none) 0 P (fun e a' w'=>∃ C' F' γ' σ',CExt C C'∧Sat C' F' γ' σ' a' w'∧Q e σ') a w
section
variable {P : Program} {n : Nat} {Q : Exit→AS→Prop} {σ : AS}
theorem d_of {c : Code} (h : awp P n c Q σ) : awpD P n c Q σ:=fun C F γ a w hn hr hd hg hs=>by
 have:=h C F γ a w hn hs
 rw [hr] at this
 exact wpIn_mono this fun e a' w' ⟨F',γ',σ',h1,h2⟩=>⟨C,F',γ',σ',.inl rfl,h1,h2⟩
def DThenL (P : Program) (n : Nat) (y : Code) (Q : Exit→AS→Prop) : Exit→AS→Prop
 | .normal,σ=>awpD P n y Q σ
 | _,_=>False
theorem d_seqL {x y : Code} (h : awp P n x (DThenL P n y Q) σ) : awpD P n (.seq x y) Q σ:=fun C F γ a w hn hr hd hg hs=>by
 have:=h C F γ a w hn hs
 rw [hr] at this
 refine wpIn_seq (wpIn_mono this fun e a' w' ⟨F',γ',σ',h1,h2⟩=>?_)
 cases e with
 | normal=>exact h2 C F' γ' a' w' hn hr hd hg h1
 | exit id=>exact h2.elim
 | goto l=>exact h2.elim
 | ret=>exact h2.elim
 | panic c=>exact h2.elim
 | outgrown=>exact h2.elim
theorem d_seqR {x y : Code} (h : awpD P n x (QThen P n y Q) σ) : awpD P n (.seq x y) Q σ:=fun C F γ a w hn hr hd hg hs=>by
 refine wpIn_seq (wpIn_mono (h C F γ a w hn hr hd hg hs) fun e a' w' ⟨C',F',γ',σ',hC,h1,h2⟩=>?_)
 cases e with
 | normal=>
  have hn' : C'.n = n:=by
   rcases hC with rfl | ⟨D,_,_,_,q,_⟩
   ·exact hn
   ·rw [q]; exact hn
  have hr' : C'.ro = none:=by
   rcases hC with rfl | ⟨D,_,_,_,_,q,_⟩
   ·exact hr
   ·exact q
  have:=h2 C' F' γ' a' w' hn' h1
  rw [hr'] at this
  exact wpIn_mono this fun e a' w' ⟨F',γ',σ',h1,h2⟩=>⟨C',F',γ',σ',hC,h1,h2⟩
 | exit id=>exact ⟨C',F',γ',σ',hC,h1,h2⟩
 | goto l=>exact ⟨C',F',γ',σ',hC,h1,h2⟩
 | ret=>exact ⟨C',F',γ',σ',hC,h1,h2⟩
 | panic c=>exact ⟨C',F',γ',σ',hC,h1,h2⟩
 | outgrown=>exact ⟨C',F',γ',σ',hC,h1,h2⟩
theorem d_block {id : Nat} {c : Code} (h : awpD P n c (QBlk id Q) σ) : awpD P n (.block id c) Q σ:=fun C F γ a w hn hr hd hg hs=>
 wpIn_block (wpIn_mono (h C F γ a w hn hr hd hg hs) fun e a' w' ⟨C',F',γ',σ',hC,h1,h2⟩=>by
  cases e with
  | exit id'=>
   simp only [QBlk] at h2
   simp only [Exit.inBlock]
   by_cases hid : id' = id
   ·subst hid; simp at h2; rw [if_pos rfl]; exact ⟨C',F',γ',σ',hC,h1,h2⟩
   ·have : Nat.beq id' id = false:=by rw [Bool.eq_false_iff]; intro e; exact hid (Nat.eq_of_beq_eq_true e)
    rw [this] at h2; rw [if_neg hid]; exact ⟨C',F',γ',σ',hC,h1,h2⟩
  | normal=>exact ⟨C',F',γ',σ',hC,h1,h2⟩
  | goto l=>exact ⟨C',F',γ',σ',hC,h1,h2⟩
  | ret=>exact ⟨C',F',γ',σ',hC,h1,h2⟩
  | panic c=>exact ⟨C',F',γ',σ',hC,h1,h2⟩
  | outgrown=>exact ⟨C',F',γ',σ',hC,h1,h2⟩)
def DPost (P : Program) (rs : Array ResultVar) (res : DV) : Exit→AS→Prop
 | .ret,σ | .normal,σ=>∃ d,ResV P ⟨σ.env,(idM,none) :: σ.heap,σ.used⟩ rs d∧DLe d res∧hget σ.heap idM = some openMark
 | _,_=>False
theorem PCall.ofD {fn : FuncId} {func : Func} {c : Code} {args : List DV} {r : DV} {rs : Array ResultVar} (hf : P.funcs[fn]? = some func) (hn : func.ntmps = n) (hb : func.body = some c) (hrs : func.results = rs) (ha : Nat.ble args.length n = true) (hr : r.ids = [])
  (h : awpD P n c (DPost P rs r) ⟨params 0 args,[],[]⟩) : PCall P fn args r:=by
 subst hn hrs
 intro C F γ heap used w vs H hv
 have HE:=H.enter func.ntmps id [] (fun i e h=>by simp [hget,look] at h) (by simp) (by simp) (by simp) (fun i e h=>by simp [hget,look] at h)
 have hG : innerG γ id (List.map (·.1) ([] : Heap)) = Gam.no:=by funext i; simp [innerG,Gam.no]
 rw [hG] at HE
 refine (callsIn_wide (n:=0)).1 (callsIn_of_wp_marks hf hb trivial ?_)
 have hs : Sat (inner w F func.ntmps γ id []) F Gam.no ⟨params 0 args,[],[]⟩ { tmps:=vs.toArray++Array.replicate (func.ntmps - vs.toArray.size) undef,defers:=[] } w :=
  ⟨params_sat hv (Nat.le_of_ble_eq_true ha),HE,by
   have:=hv.len
   have:=Nat.le_of_ble_eq_true ha
   simp [inner]; omega,rfl⟩
 refine wpIn_mono (h (inner w F func.ntmps γ id []) F Gam.no _ w rfl rfl rfl (by funext i; simp [inner,Gam.no]) hs) ?_
 rintro e a' w' ⟨C',F',γ',σ',hC,hs',hq⟩
 -- the results,read in a world where the mark is shut
 have fin : ∀ (w2 : World) (d : DV),Sat C' F' γ' ⟨σ'.env,(idM,none) :: σ'.heap,σ'.used⟩ a' w2→ResV P ⟨σ'.env,(idM,none) :: σ'.heap,σ'.used⟩ func.results d→DLe d r →
   ∃ v,(results func a'.tmps).run P w2 = .ok v w2∧(∃ v' F',Ending.returned v = .returned v'∧FLe F F'∧WS C F' γ heap used w2∧Rs F' Gam.no r v'):=by
  intro w2 d hs2 h1 h2
  obtain ⟨v,k1,k2⟩ := h1.run hs2
  have hI : WS (inner w F func.ntmps γ id []) F' γ' ((idM,none) :: σ'.heap) σ'.used w2:=by
   rcases hC with rfl | ⟨D,c1,c2,c3,c4,c5,c6,c7⟩
   ·exact hs2.ws
   ·exact hs2.ws.ctx c1.symm c2.symm c3.symm (fun i g h=>by simp [inner] at h) (fun i g h=>by simp [inner] at h)
  obtain ⟨_,_,j⟩ := H.join (f:=id) (pre:=[]) (new:=[]) hI [] (by simp) (by simp) (by simp) (fun i e h=>by simp [hget,look] at h) (by simp) (by simp) (fun i e h=>by simp [hget,look] at h)
  have hg : outerG γ γ' id [] = γ:=by funext i; unfold outerG; cases γ i <;> rfl
  rw [hg] at j
  exact ⟨v,k1,v,F',rfl,hI.f0,by simpa [renH] using j,Rs_ids r v (by rw [hr]; simp) (h2 _ _ _ k2)⟩
 have main : (∃ d,ResV P ⟨σ'.env,(idM,none) :: σ'.heap,σ'.used⟩ func.results d∧DLe d r∧hget σ'.heap idM = some openMark)→LeavesInM Fence.wide 0 P func a'.tmps (fun e w'=>∃ v F',e = .returned v∧FLe F F'∧WS C F' γ heap used w'∧Rs F' Gam.no r v) a'.defers .returning w' := by
  rintro ⟨d,h1,h2,h3⟩
  rcases id hC with rfl | ⟨D,c1,c2,c3,c4,c5,c6,c7⟩
  ·rw [show a'.defers = [] from hs'.defers]
   exact fin w' d (hs'.congr (fun _ _ h=>h) (fun i e he=>by
    rw [hget_cons] at he
    split at he
    ·cases he
    ·exact he) (fun _ h=>h)) h1 h2
  ·rw [hs'.defers,c6]
   have hg : γ' idM = some (ptrTo D):=hs'.ws.g0 _ _ c7
   have hW:=hs'.ws.setObj (.deferred none) h3 hg
   obtain ⟨g,k1,b,k2,k3⟩ := hs'.ws.ent idM _ h3
   rw [hg] at k1; injection k1 with k1; subst k1
   injection k2 with k2; injection k2 with k2; injection k2 with k2 _ _; subst k2
   refine ⟨by simp,.inl ⟨D,_,rfl,run_takeDeferred k3,?_⟩⟩
   refine fin _ d ⟨hs'.env,hW.congr (fun i e he=>?_) (fun _ h=>h),hs'.size,hs'.defers⟩ h1 h2
   simp only at he
   rw [hget_cons] at he ⊢
   split at he
   ·cases he
   ·rename_i e1; rw [if_neg e1]; exact he
 cases e with
 | ret=>exact main hq
 | normal=>exact main hq
 | exit id=>exact hq.elim
 | goto l=>exact hq.elim
 | panic c=>exact hq.elim
 | outgrown=>exact hq.elim
def RThen (P : Program) (n : Nat) (body : Code) (R R' : Obj) (Hn : Heap) (U : List Nat) : Exit→AS→Prop
 | .normal,σ=>hget σ.heap idR = some (.obj R)∧awp P n body (fun e σ'=>e = .normal∧Imp σ' ⟨[],(idR,some (.obj R')) :: (idM,some openMark) :: Hn,idR :: idM :: U⟩) ⟨σ.env,(idR,some (.obj R')) :: σ.heap,σ.used⟩
 | _,_=>False
theorem hget_drop {id : Nat} {x y : Option HE} {h : Heap} {i : Nat} {e : HE} (he : hget ((id,x) :: h) i = some e) : hget ((id,x) :: (id,y) :: h) i = some e:=by
 rw [hget_cons] at he ⊢
 split at he
 ·rename_i e1; rw [if_pos e1]; exact he
 ·rename_i e1; rw [if_neg e1,hget_cons,if_neg e1]; exact he
theorem d_range {g : Operand} {t : Nat} {assign body : Code} {gf : FuncId} [hgf : CFn P gf] {caps ds : List DV} (hI : Iter P gf caps ds) (env : List (Nat × DV)) (H : Nat→Heap) (U : List Nat) (h0 : Imp σ ⟨env,H 0,U⟩)
  (hg : ev env g = some (.clo gf caps)) (hc : idsL caps = []) (hE : ∀ t d,look env t = some d→∀ i∈d.ids,100000≤i) (hU : idR ∉ U) (hU' : idM ∉ U) (ht : t < n)
  (hround : ∀ k d (R R' : Obj),ds[k]? = some d→awp P n assign (RThen P n body R R' (H (k + 1)) U) ⟨(t,d) :: env,(idR,some (.obj R)) :: (idM,some openMark) :: H k,idR :: idM :: U⟩)
  (hq : Q .normal ⟨env,(idR,none) :: (idM,some openMark) :: H ds.length,idR :: idM :: U⟩) : awpD P n (.rangeFunc g #[t] assign body) Q σ:=by
 intro C F γ a w hn hr hd hG hs
 obtain ⟨F1,γ1,h1⟩ := h0 C F γ a w hs
 have kg:=h1.ev hg
 simp only [Rs] at kg
 obtain ⟨lb,eg,hlb⟩ := kg
 have hlb' : RsT F1 Gam.no caps lb.toList:=RsT_ids caps _ (by rw [hc]; intro i hi; cases hi) hlb
 refine wpIn_rangeFunc ?_
 intro fn _
 obtain ⟨rec,hrec⟩ : ∃ rec : LoopState→Option Code→Loop,rec = fun st pe=>{ state:=st,pending:=pe,fn,tmps:=a.tmps,params := #[t],assign,body,defers:=w.heap.size } := ⟨_,rfl⟩
 obtain ⟨W1,hW1⟩ : ∃ W1,(w.alloc (.deferred (some []))).alloc (.loop (rec .ready none)) = W1 := ⟨_,rfl⟩
 have A1:=h1.ws.addNew hU' (.deferred (some [])) (e0:=openMark) (g:=ptrTo w.heap.size) (fun b hb=>by simp [ptrTo,Value.pblk] at hb; exact hb.symm) ⟨w.heap.size,rfl,World.alloc_heap_new w _⟩
 have hR1 : idR ∉ idM :: U:=by
  intro h
  rcases List.mem_cons.1 h with h | h
  ·exact absurd h (by decide)
  ·exact hU h
 have A2:=A1.addNew hR1 (.loop (rec .ready none)) (e0:=.obj (.loop (rec .ready none))) (g:=ptrTo (w.heap.size + 1)) (fun b hb=>by simp [ptrTo,Value.pblk] at hb; rw [← hb]; simp) ⟨w.heap.size + 1,rfl,by
  have:=World.alloc_heap_new (w.alloc (.deferred (some []))) (.loop (rec .ready none))
  rwa [World.size_alloc] at this⟩
 rw [hW1] at A2
 have hle12 : GLe γ1 ((γ1.up idM (ptrTo w.heap.size)).up idR (ptrTo (w.heap.size + 1))):=(Gam.up_le _ (h1.ws.fresh hU')).trans (Gam.up_le _ (A1.fresh hR1))
 obtain ⟨γ2,hγ2⟩ : ∃ γ2,(γ1.up idM (ptrTo w.heap.size)).up idR (ptrTo (w.heap.size + 1)) = γ2 := ⟨_,rfl⟩
 have gR : γ2 idR = some (ptrTo (w.heap.size + 1)):=by rw [← hγ2]; exact Gam.up_same _ _ _
 have gM : γ2 idM = some (ptrTo w.heap.size):=by rw [← hγ2]; simp [Gam.up,idM,idR]
 rw [hγ2] at A2 hle12
 obtain ⟨γr,hγr⟩ : ∃ γr : Gam,γr = fun i=>if 100000≤i then γ2 i else none := ⟨_,rfl⟩
 have rR : γr idR = some (ptrTo (w.heap.size + 1)):=by rw [hγr]; simp only [if_pos (show 100000≤idR by decide)]; exact gR
 have rM : γr idM = some (ptrTo w.heap.size):=by rw [hγr]; simp only [if_pos (show 100000≤idM by decide)]; exact gM
 have rk : ∀ id g,γr id = some g→100000≤id:=fun id g h=>by
  rw [hγr] at h
  simp only at h
  split at h
  ·assumption
  ·cases h
 have r2 : GLe γr γ2:=fun id g h=>by
  have:=rk id g h
  rw [hγr] at h
  simpa [this] using h
 -- what the slots hold
 have lift : ∀ (F' : FMap) (γ' : Gam),FLe F1 F'→GLe γr γ'→∀ t d,look env t = some d→t < C.n∧Rs F' γ' d (a.tmps.getD t undef):=fun F' γ' hF hγ t d hl=>by
  obtain ⟨q1,q2⟩ := h1.env t d hl
  refine ⟨q1,?_⟩
  have q3 : Rs F1 γr d (a.tmps.getD t undef):=Rs_ids d _ (fun i hi=>by rw [hγr]; simp [hE t d hl i hi]) (q2.mono (FLe.refl _) hle12)
  exact q3.mono hF hγ
 obtain ⟨Cr,hCr⟩ : ∃ Cr : Ctx,Cr = { C with G0:=γr } := ⟨_,rfl⟩
 have w0 : WS Cr F1 γ2 ((idR,some (.obj (.loop (rec .ready none)))) :: (idM,some openMark) :: H 0) (idR :: idM :: U) W1:=by
  rw [hCr]; exact A2.ctx rfl rfl rfl r2 rk
 obtain ⟨J,hJ⟩ : ∃ J : Nat→FMap→World→Prop,J = fun k F' w'=>FLe F1 F'∧∃ γ',WS Cr F' γ' ((idR,some (.obj (.loop (rec .ready none)))) :: (idM,some openMark) :: H k) (idR :: idM :: U) w' := ⟨_,rfl⟩
 have JO : JOk J:=by
  rw [hJ]
  exact ⟨fun k F w F' w' ⟨q1,γ',q2⟩ G=>⟨q1.trans G.fle,γ',q2.grown G⟩,fun k F w ⟨_,γ',q2⟩=>q2.fs,fun k F w ⟨_,γ',q2⟩=>q2.kn.mono q2.f0⟩
 have atR : ∀ {F' : FMap} {γ' : Gam} {h' : Heap} {u' : List Nat} {w' : World} {C' : Ctx} {o : Obj},WS C' F' γ' h' u' w'→C'.G0 = γr→hget h' idR = some (.obj o)→γ' idR = some (ptrTo (w.heap.size + 1))∧w'.heap[w.heap.size + 1]? = some o:=by
  intro F' γ' h' u' w' C' o hw hG' hh
  have e1 : γ' idR = some (ptrTo (w.heap.size + 1)):=hw.g0 _ _ (by rw [hG']; exact rR)
  obtain ⟨g,k1,b,k2,k3⟩ := hw.ent idR _ hh
  rw [e1] at k1; injection k1 with k1; subst k1
  injection k2 with k2; injection k2 with k2; injection k2 with k2 _ _; subst k2
  exact ⟨e1,k3⟩
 have first : ∀ (x : HE) (h' : Heap),hget ((idR,some x) :: h') idR = some x:=fun x h'=>by rw [hget_cons,if_pos rfl]
 have Y : Ylds P (w.heap.size + 1) J ds:=by
  intro k d v F' w' hk hj hv
  rw [hJ] at hj
  obtain ⟨hF,γ',hW⟩ := hj
  obtain ⟨g1,l1⟩ := atR hW (by rw [hCr]) (first _ _)
  have hy:=run_yield (P:=P) (args := #[v]) l1 (by rw [hrec]; rfl)
  rw [hrec] at hy
  simp only at hy
  refine ⟨fn,_,assign,body,hy,roundIn_of_wpIn trivial ?_⟩
  obtain ⟨CR,hCR⟩ : ∃ CR : Ctx,CR = { C with G0:=γr,ro:=some (w.heap.size + 1),F0:=F',defs:=[] } := ⟨_,rfl⟩
  have hWR : WS CR F' γ' ((idR,some (.obj (.loop (rec .ready none)))) :: (idM,some openMark) :: H k) (idR :: idM :: U) w' := by
   rw [hCR]; rw [hCr] at hW
   exact hW.reF.ctx rfl rfl rfl hW.g0 rk
  have hgr : GLe γr γ' := by have:=hW.g0; rw [hCr] at this; exact this
  have S : Sat CR F' γ' ⟨(t,d) :: env,(idR,some (.obj (.loop (rec .ready none)))) :: (idM,some openMark) :: H k,idR :: idM :: U⟩ { tmps:=(Array.zip #[t] #[v]).foldl (fun tmps x=>tmps.setIfInBounds x.1 x.2) a.tmps,defers:=[] } w' := by
   have et : (Array.zip #[t] #[v]).foldl (fun tmps x=>tmps.setIfInBounds x.1 x.2) a.tmps = a.tmps.setIfInBounds t v:=by simp
   rw [et]
   refine ⟨fun t' d' hl=>?_,hWR,by rw [hCR]; simpa using h1.size,by rw [hCR]⟩
   simp only at hl
   rw [look_cons] at hl
   have hsz : a.tmps.size = C.n:=h1.size
   split at hl
   ·rename_i e1; subst e1; injection hl with hl; subst hl
    have hlt : t < a.tmps.size:=by rw [hsz,hn]; exact ht
    refine ⟨by rw [hCR]; simp only; rw [hn]; exact ht,?_⟩
    have : (a.tmps.setIfInBounds t v).getD t undef = v:=by simp [Array.getD,hlt]
    rw [this]
    exact hv.mono (FLe.refl _) (GLe.no _)
   ·rename_i e1
    obtain ⟨q1,q2⟩ := lift F' γ' hF hgr t' d' hl
    refine ⟨by rw [hCR]; exact q1,?_⟩
    have : (a.tmps.setIfInBounds t v).getD t' undef = a.tmps.getD t' undef:=by
     by_cases hb : t' < a.tmps.size
     ·simp [Array.getD,hb,Array.getElem_setIfInBounds,e1]
     ·simp [Array.getD,hb]
    rw [this]; exact q2
  have hCn : CR.n = n:=by rw [hCR]; exact hn
  have hro : CR.ro = some (w.heap.size + 1):=by rw [hCR]
  have hGR : CR.G0 = γr:=by rw [hCR]
  have hFR : CR.F0 = F' := by rw [hCR]
  have step1:=hround k d (.loop (rec .ready none)) (.loop { rec .ready none with state:=.busy }) hk CR F' γ' _ w' hCn S
  rw [hro] at step1
  refine wpIn_mono step1 ?_
  rintro e a1 w1 ⟨F2,γ2',σ1,s1,q⟩
  cases e with
  | normal=>
   obtain ⟨q1,q2⟩ := q
   obtain ⟨g2,l2⟩ := atR s1.ws hGR q1
   refine ⟨_,run_beginRound l2 (by rw [hrec]),?_⟩
   have S2 : Sat CR F2 γ2' ⟨σ1.env,(idR,some (.obj (.loop { rec .ready none with state:=.busy }))) :: σ1.heap,σ1.used⟩ a1 (w1.putObj (w.heap.size + 1) (.loop { rec .ready none with state:=.busy })) := ⟨s1.env,s1.ws.setObj _ q1 g2,s1.size,s1.defers⟩
   have step2:=q2 CR F2 γ2' a1 _ hCn S2
   rw [hro] at step2
   refine wpIn_mono step2 ?_
   rintro e a2 w3 ⟨F3,γ3,σ3,s3,rfl,himp⟩
   obtain ⟨F4,γ4,s4⟩ := himp CR F3 γ3 a2 w3 s3
   obtain ⟨g4,l4⟩ := atR s4.ws hGR (first _ _)
   refine ⟨_,_,run_endRound none l4,F4,rfl,by have:=s4.ws.f0; rwa [hFR] at this,?_⟩
   rw [hJ]
   refine ⟨hF.trans (by have:=s4.ws.f0; rwa [hFR] at this),γ4,?_⟩
   have e3:=s4.ws.setObj (.loop (rec .ready none)) (first _ _) g4
   have e4 : ({ { rec .ready none with state:=.busy } with state:=if (none : Option Code).isNone then .ready else .done,pending:=none } : Loop) = rec .ready none:=by rw [hrec]; rfl
   rw [e4]
   have e5 : WS CR F4 γ4 ((idR,some (.obj (.loop (rec .ready none)))) :: (idM,some openMark) :: H (k + 1)) (idR :: idM :: U) (w3.putObj (w.heap.size + 1) (.loop (rec .ready none))):=e3.congr (fun i e he=>hget_drop he) (fun _ h=>h)
   refine hW.unF ?_
   rw [hCr]
   rw [hCR] at e5
   exact e5.ctx rfl rfl rfl e5.g0 rk
  | exit id=>exact q.elim
  | goto l=>exact q.elim
  | ret=>exact q.elim
  | panic c=>exact q.elim
  | outgrown=>exact q.elim
 refine ⟨w.heap.size + 1,[markD w.heap.size],W1,{ target:=.fn (.func gf) lb,args := #[.func (.yield (w.heap.size + 1)) #[] #[]] },W1,gf,#[.func (.yield (w.heap.size + 1)) #[] #[]]++lb,W1,?_,?_,fun _ _=>trivial,?_,fun h=>by simp [FW,Fence.wide] at h,?_⟩
 ·rw [← hW1,hrec]; exact run_enterLoop_outer _ _ _ _ _
 ·simp only [resolve,eg]
  simp [go_sem]
 ·simp [invoke,run_callFunc]
 ·have hJ0 : J 0 F1 W1:=by rw [hJ]; exact ⟨FLe.refl _,γ2,w0⟩
  have:=hI (w.heap.size + 1) J F1 W1 lb.toList JO Y hJ0 hlb'
  simp only [Array.toArray_toList] at this
  refine this.mono ?_
  rintro e W2 ⟨v,F2,rfl,hF,hj⟩
  rw [hJ] at hj
  obtain ⟨_,γ',hW⟩ := hj
  obtain ⟨g1,l1⟩ := atR hW (by rw [hCr]) (first _ _)
  have hgr : GLe γr γ' := by have:=hW.g0; rw [hCr] at this; exact this
  refine ⟨none,W2.putObj (w.heap.size + 1) (.loop { rec .ready none with state:=.exhausted }),?_,?_⟩
  ·have:=run_endLoop (P:=P) l1 (by rw [hrec]; simp)
   rw [hrec] at this ⊢
   exact this
  ·refine ⟨{ C with G0:=γr,defs:=[markD w.heap.size] },F2,γ',⟨env,(idR,none) :: (idM,some openMark) :: H ds.length,idR :: idM :: U⟩,.inr ⟨w.heap.size,rfl,rfl,rfl,rfl,hr,rfl,rM⟩,⟨fun t' d' hl=>lift F2 γ' hF hgr t' d' hl,?_,h1.size,?_⟩,hq⟩
   ·have e3:=hW.setObj (.loop { rec .ready none with state:=.exhausted }) (first _ _) g1
    rw [hCr] at e3
    have e4:=e3.ctx (C' := { C with G0:=γr,defs:=[markD w.heap.size] }) rfl rfl rfl hgr rk
    refine e4.congr (fun i e he=>?_) (fun _ h=>h)
    simp only at he
    rw [hget_cons] at he
    split at he
    ·cases he
    ·rename_i e1
     rw [hget_cons,if_neg e1,hget_cons,if_neg e1]; exact he
   ·simp only [h1.defers,hd,List.append_nil]
end
end Go.Proofs.YtifaebmmbpkclaaGreatDoor
