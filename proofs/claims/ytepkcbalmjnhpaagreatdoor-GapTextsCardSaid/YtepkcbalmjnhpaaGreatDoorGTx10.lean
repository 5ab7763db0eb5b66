/-
  What the claim leans on, part 10.
-/
import Derived.Test.YtepkcbalmjnhpaaGreatDoorGTx9
import Derived.RangeFuncSeq
import Derived.RangeFuncLeaves
set_option linter.unusedVariables false
set_option linter.unusedSimpArgs false
namespace Go.Proofs.YtepkcbalmjnhpaaGreatDoor
open Go.RowKit
structure Grw (F : FMap) (w : World) (F' : FMap) (w' : World) : Prop where
 stp : Stp w w' none
 fle : FLe F F'
 new : ∀ b cs,F' b = some cs→F b = some cs∨w.heap.size≤b
 sat : ∀ b cs,F' b = some cs→∃ t fz,w'.heap[b]? = some (.cells cs t fz)
structure JOk (J : Nat→FMap→World→Prop) : Prop where
 grw : ∀ k F w F' w',J k F w→Grw F w F' w'→J k F' w'
 sat : ∀ k F w,J k F w→∀ b cs,F b = some cs→∃ t fz,w.heap[b]? = some (.cells cs t fz)
def Ylds (P : Program) (l : Nat) (J : Nat→FMap→World→Prop) (ds : List DV) : Prop :=
 ∀ k d v F w,ds[k]? = some d→J k F w→Rs F Gam.no d v→YieldAt (FW none) 0 P l #[v] w (fun e w'=>∃ F',e = .returned (.bool true)∧FLe F F'∧J (k + 1) F' w')
def Iter (P : Program) (f : FuncId) (caps ds : List DV) : Prop :=
 ∀ (l : Nat) (J : Nat→FMap→World→Prop) (F : FMap) (w : World) (vs : List Value),JOk J→Ylds P l J ds→J 0 F w→RsT F Gam.no caps vs →
  CallsIn (FW none) 0 P f (#[.func (.yield l) #[] #[]]++vs.toArray) w (fun e w'=>∃ v F',e = .returned v∧FLe F F'∧J ds.length F' w')
def bare (w : World) (F : FMap) (n : Nat) : Ctx := ⟨w,fun _=>False,F,n,Gam.no,none,[]⟩
theorem Sat.grw {w0 w : World} {F0 F : FMap} {n : Nat} {γ : Gam} {σ : AS} {a : Act} (h : Sat (bare w0 F0 n) F γ σ a w) : Grw F0 w0 F w where
 stp := ⟨h.ws.os,h.ws.tape,h.ws.output,h.ws.size,fun k hk _=>h.ws.keep k hk (fun h=>h)⟩
 fle:=h.ws.f0
 new:=fun b cs hb=>by
  rcases h.ws.fnew b cs hb with h | h | h
  ·exact .inl h
  ·exact h.elim
  ·exact .inr h
 sat:=h.ws.fs
theorem WS.bare {w : World} {F : FMap} (n : Nat) (h : ∀ b cs,F b = some cs→∃ t fz,w.heap[b]? = some (.cells cs t fz)) : WS (bare w F n) F Gam.no [] [] w where
 ent:=fun id e h=>by simp [hget,look] at h
 own:=fun id e g b h=>by simp [hget,look] at h
 apart:=fun id id' e e' g g' b h=>by simp [hget,look] at h
 fs:=h
 f0:=FLe.refl _
 fnew:=fun b cs h=>.inl h
 os:=rfl
 tape:=rfl
 output:=rfl
 size:=Nat.le_refl _
 keep:=fun _ _ _=>rfl
 us:=fun id g h=>by cases h
 gone:=GOne.no
 g0:=GLe.refl _
 gk:=fun id g h=>by cases h
def awpJ (P : Program) (J : Nat→FMap→World→Prop) (n : Nat) (c : Code) (Q : Exit→Nat→AS→Prop) (k : Nat) (σ : AS) : Prop :=
 ∀ (w0 : World) (F0 F : FMap) (γ : Gam) (a : Act) (w : World),J k F0 w0→Sat (bare w0 F0 n) F γ σ a w →
  c.wpIn (FW none) 0 P (fun e a' w'=>∃ w0' F0' F' γ' k' σ',J k' F0' w0'∧FLe F0 F0'∧Sat (bare w0' F0' n) F' γ' σ' a' w'∧Q e k' σ') a w
section
variable {P : Program} {J : Nat→FMap→World→Prop} {n : Nat} {Q : Exit→Nat→AS→Prop} {σ : AS} {k : Nat}
theorem j_of {c : Code} (h : awp P n c (fun e σ'=>Q e k σ') σ) : awpJ P J n c Q k σ:=fun w0 F0 F γ a w hJ hs=>
 wpIn_mono (h (bare w0 F0 n) F γ a w rfl hs) fun e a' w' ⟨F',γ',σ',h1,h2⟩=>⟨w0,F0,F',γ',k,σ',hJ,FLe.refl _,h1,h2⟩
theorem j_imp {c : Code} {σ' : AS} (hi : Imp σ σ') (h : awpJ P J n c Q k σ') : awpJ P J n c Q k σ:=fun w0 F0 F γ a w hJ hs=>by
 obtain ⟨F1,γ1,h1⟩ := hi _ F γ a w hs
 exact h w0 F0 F1 γ1 a w hJ h1
def JThen (P : Program) (J : Nat→FMap→World→Prop) (n : Nat) (y : Code) (Q : Exit→Nat→AS→Prop) : Exit→Nat→AS→Prop
 | .normal,k,σ=>awpJ P J n y Q k σ
 | e,k,σ=>Q e k σ
theorem j_seq {x y : Code} (h : awpJ P J n x (JThen P J n y Q) k σ) : awpJ P J n (.seq x y) Q k σ:=fun w0 F0 F γ a w hJ hs=>
 wpIn_seq (wpIn_mono (h w0 F0 F γ a w hJ hs) fun e a' w' ⟨w1,F1,F',γ',k',σ',j1,j2,h1,h2⟩=>by
  cases e with
  | normal=>
   refine wpIn_mono (h2 w1 F1 F' γ' a' w' j1 h1) fun e a2 w2 ⟨w3,F3,F4,γ4,k4,σ4,q1,q2,q3,q4⟩=>⟨w3,F3,F4,γ4,k4,σ4,q1,j2.trans q2,q3,q4⟩
  | exit id=>exact ⟨w1,F1,F',γ',k',σ',j1,j2,h1,h2⟩
  | goto l=>exact ⟨w1,F1,F',γ',k',σ',j1,j2,h1,h2⟩
  | ret=>exact ⟨w1,F1,F',γ',k',σ',j1,j2,h1,h2⟩
  | panic c=>exact ⟨w1,F1,F',γ',k',σ',j1,j2,h1,h2⟩
  | outgrown=>exact ⟨w1,F1,F',γ',k',σ',j1,j2,h1,h2⟩)
theorem j_cond {c : Operand} {x y : Code} (b : Bool) (hc : ev σ.env c = some (.bool b)) (ht : b = true→awpJ P J n x Q k σ) (hf : b = false→awpJ P J n y Q k σ) : awpJ P J n (.cond c x y) Q k σ:=fun w0 F0 F γ a w hJ hs=>by
 have:=hs.ev hc
 simp only [Rs] at this
 exact wpIn_cond_split this (fun e=>ht e w0 F0 F γ a w hJ hs) (fun e=>hf e w0 F0 F γ a w hJ hs)
def JBlk (id : Nat) (Q : Exit→Nat→AS→Prop) : Exit→Nat→AS→Prop
 | .exit id',k,σ=>bif Nat.beq id' id then Q .normal k σ else Q (.exit id') k σ
 | e,k,σ=>Q e k σ
theorem j_block {id : Nat} {c : Code} (h : awpJ P J n c (JBlk id Q) k σ) : awpJ P J n (.block id c) Q k σ:=fun w0 F0 F γ a w hJ hs=>
 wpIn_block (wpIn_mono (h w0 F0 F γ a w hJ hs) fun e a' w' ⟨w1,F1,F',γ',k',σ',j1,j2,h1,h2⟩=>by
  cases e with
  | exit id'=>
   simp only [JBlk] at h2
   simp only [Exit.inBlock]
   by_cases hid : id' = id
   ·subst hid; simp at h2; rw [if_pos rfl]; exact ⟨w1,F1,F',γ',k',σ',j1,j2,h1,h2⟩
   ·have : Nat.beq id' id = false:=by rw [Bool.eq_false_iff]; intro e; exact hid (Nat.eq_of_beq_eq_true e)
    rw [this] at h2; rw [if_neg hid]; exact ⟨w1,F1,F',γ',k',σ',j1,j2,h1,h2⟩
  | normal=>exact ⟨w1,F1,F',γ',k',σ',j1,j2,h1,h2⟩
  | goto l=>exact ⟨w1,F1,F',γ',k',σ',j1,j2,h1,h2⟩
  | ret=>exact ⟨w1,F1,F',γ',k',σ',j1,j2,h1,h2⟩
  | panic c=>exact ⟨w1,F1,F',γ',k',σ',j1,j2,h1,h2⟩
  | outgrown=>exact ⟨w1,F1,F',γ',k',σ',j1,j2,h1,h2⟩)
def JLoop {α : Type} (S : α→AS) (I : Nat→α→Prop) (μ : α→Nat) (x : α) (Q : Exit→Nat→AS→Prop) : Exit→Nat→AS→Prop
 | .normal,k,σ=>∃ x',I k x'∧μ x' < μ x∧Imp σ (S x')
 | e,k,σ=>Q e k σ
theorem j_loop {c : Code} {α : Type} (S : α→AS) (I : Nat→α→Prop) (μ : α→Nat) (x0 : α) (h0 : Imp σ (S x0)) (hI : I k x0) (round : ∀ k x,I k x→awpJ P J n c (JLoop S I μ x Q) k (S x)) : awpJ P J n (.loop c) Q k σ:=fun w0 F0 F γ a w hJ hs=>by
 obtain ⟨F1,γ1,h1⟩ := h0 _ F γ a w hs
 refine wpIn_loop_ghost (fun m a w=>∃ x k w1 F1 F γ,I k x∧μ x = m∧J k F1 w1∧FLe F0 F1∧Sat (bare w1 F1 n) F γ (S x) a w) (μ x0) ⟨x0,k,w0,F0,F1,γ1,hI,rfl,hJ,FLe.refl _,h1⟩ ?_
 rintro m a w ⟨x,k,w1,F1,F,γ,hx,rfl,hJ,hF,hs⟩
 refine wpIn_mono (round k x hx w1 F1 F γ a w hJ hs) fun e a' w' ⟨w2,F2,F',γ',k',σ',j1,j2,h1,h2⟩=>?_
 cases e with
 | normal=>
  obtain ⟨x',i1,i2,i3⟩ := h2
  obtain ⟨F3,γ3,h3⟩ := i3 _ F' γ' a' w' h1
  exact ⟨μ x',i2,x',k',w2,F2,F3,γ3,i1,rfl,j1,hF.trans j2,h3⟩
 | exit id=>exact ⟨w2,F2,F',γ',k',σ',j1,hF.trans j2,h1,h2⟩
 | goto l=>exact ⟨w2,F2,F',γ',k',σ',j1,hF.trans j2,h1,h2⟩
 | ret=>exact ⟨w2,F2,F',γ',k',σ',j1,hF.trans j2,h1,h2⟩
 | panic c=>exact ⟨w2,F2,F',γ',k',σ',j1,hF.trans j2,h1,h2⟩
 | outgrown=>exact ⟨w2,F2,F',γ',k',σ',j1,hF.trans j2,h1,h2⟩
end
def OpJ (P : Program) (J : Nat→FMap→World→Prop) (n : Nat) (ops : Array Oper) (o : Oper) (k : Nat) (σ : AS) (k' : Nat) (σ' : AS) : Prop :=
 ∀ (w0 : World) (F0 F : FMap) (γ : Gam) (a : Act) (w : World),J k F0 w0→Sat (bare w0 F0 n) F γ σ a w→(∀ d,o.dst = some d→d < n) →
  ∀ (K : Act→World→Prop) (Q : Exit→Act→World→Prop),(∀ w1 F1 F' γ' a' w',J k' F1 w1→FLe F0 F1→Sat (bare w1 F1 n) F' γ' σ' a' w'→K a' w') →
   if Region.wanted o (yielded ops a.tmps) then o.wpIn (FW none) 0 P a w K Q else K (a.put o.dst undef) w
inductive TraceJ (P : Program) (J : Nat→FMap→World→Prop) (n : Nat) (ops : Array Oper) : List Oper→Nat→AS→Nat→AS→Prop
 | nil (k : Nat) (σ : AS) : TraceJ P J n ops [] k σ k σ
 | cons {o : Oper} {rest : List Oper} {k : Nat} {σ : AS} {k1 : Nat} {σ1 : AS} {k2 : Nat} {σ2 : AS} (h : OpJ P J n ops o k σ k1 σ1) (t : TraceJ P J n ops rest k1 σ1 k2 σ2) : TraceJ P J n ops (o :: rest) k σ k2 σ2
section
variable {P : Program} {J : Nat→FMap→World→Prop} {n : Nat} {Q : Exit→Nat→AS→Prop} {σ : AS} {k : Nat} {ops : Array Oper}
theorem OpG.toJ {o : Oper} {rt rh : List Nat} {E : Eff} (h : OpG P ops o rt rh σ E) (hn : newsOk σ.used [E.new] = true) : OpJ P J n ops o k σ k (σ.app E):=fun w0 F0 F γ a w hJ hs hd K Q hK=>
 h (bare w0 F0 n) F γ σ a w (fun _ _=>rfl) (fun _ _=>rfl) (fun id hi=>(newsOk_spec _ _ hn).1 E.new (by simp) id hi) hd hs K Q (fun F' γ' a' w' _ hs'=>hK w0 F0 F' γ' a' w' hJ (FLe.refl _) hs')
theorem TraceJ.seq {Q : Exit→Act→World→Prop} : ∀ (l : List Oper) (i : Nat) (k : Nat) (σ : AS) (k' : Nat) (σ' : AS),TraceJ P J n ops l k σ k' σ'→(∀ j o,l[j]? = some o→ops[i + j]? = some o) →
  (∀ o∈l,∀ d,o.dst = some d→d < n)→∀ (w0 : World) (F0 F : FMap) (γ : Gam) (a : Act) (w : World),J k F0 w0→Sat (bare w0 F0 n) F γ σ a w →
   (∀ w1 F1 F' γ' a' w',J k' F1 w1→FLe F0 F1→Sat (bare w1 F1 n) F' γ' σ' a' w'→Q .normal a' w')→wpOpsIn (FW none) 0 P ops Q ((List.range l.length).map (i + ·)) a w:=by
 intro l
 induction l with
 | nil=>
  intro i k σ k' σ' ht _ _ w0 F0 F γ a w hJ hs hq
  cases ht
  exact hq w0 F0 F γ a w hJ (FLe.refl _) hs
 | cons o rest ih=>
  intro i k σ k' σ' ht hops hn w0 F0 F γ a w hJ hs hq
  cases ht with
  | cons h t=>
   rename_i k1 σ1
   have e : (List.range (o :: rest).length).map (i + ·) = i :: (List.range rest.length).map (i + 1 + ·):=by
    rw [List.length_cons,List.range_succ_eq_map,List.map_cons,List.map_map]
    congr 1
    apply List.map_congr_left
    intro x _; simp only [Function.comp]; omega
   rw [e,wpOpsIn_cons]
   unfold wpOpIn
   have ho : ops[i]? = some o:=by simpa using hops 0 o rfl
   rw [ho]
   have key:=h w0 F0 F γ a w hJ hs (fun d hd=>hn o (List.mem_cons_self ..) d hd) (wpOpsIn (FW none) 0 P ops Q ((List.range rest.length).map (i + 1 + ·))) Q (fun w1 F1 F' γ' a' w' j1 j2 hs'=>?_)
   ·simp only
    split
    ·rename_i hw; rw [if_pos hw] at key; exact key
    ·rename_i hw; rw [if_neg hw] at key; exact ⟨fun _ _=>trivial,key⟩
   ·refine ih (i + 1) k1 σ1 k' σ' t (fun j o' hj=>?_) (fun o' ho'=>hn o' (List.mem_cons_of_mem _ ho')) w1 F1 F' γ' a' w' j1 hs' (fun w2 F2 F3 γ3 a3 w3 q1 q2 q3=>hq w2 F2 F3 γ3 a3 w3 q1 (j2.trans q2) q3)
    have:=hops (j + 1) o' (by simpa using hj)
    rw [← this]; congr 1; omega
theorem j_region {id : Nat} {k' : Nat} {σ' : AS} (ht : TraceJ P J n ops ops.toList k σ k' σ') (hd : dstOk n ops = true) (hq : Q .normal k' σ') : awpJ P J n (.region id ops false) Q k σ:=fun w0 F0 F γ a w hJ hs=>by
 refine wpIn_region ?_
 have:=TraceJ.seq (Q:=fun e a' w'=>∃ w0' F0' F' γ' k' σ',J k' F0' w0'∧FLe F0 F0'∧Sat (bare w0' F0' n) F' γ' σ' a' w'∧Q e k' σ') ops.toList 0 k σ k' σ' ht (fun j o hj=>by simpa using hj) (fun o ho d hd'=>?_) w0 F0 F γ a w hJ hs (fun w1 F1 F' γ' a' w' j1 j2 h=>⟨w1,F1,F',γ',k',σ',j1,j2,h,hq⟩)
 ·simpa using this
 ·simp only [dstOk,List.all_eq_true] at hd
  have:=hd o ho
  rw [hd'] at this
  exact Nat.blt_eq ▸ this
theorem Sat.bared {w0 w w' : World} {F0 F F' : FMap} {γ : Gam} {σ : AS} {a : Act} (hs : Sat (bare w0 F0 n) F γ σ a w) (hF : FLe F F') (hJ : ∀ b cs,F' b = some cs→∃ t fz,w'.heap[b]? = some (.cells cs t fz)) {env' : List (Nat × DV)} (hE : ∀ t d,look env' t = some d→look σ.env t = some d∧d.ids = []) :
  Sat (bare w' F' n) F' Gam.no ⟨env',[],[]⟩ a w' where
 env:=fun t d ht=>by
  obtain ⟨h1,h2⟩ := hE t d ht
  have:=hs.env t d h1
  exact ⟨this.1,Rs_ids d _ (by rw [h2]; intro i hi; cases hi) (this.2.mono hF (GLe.refl _))⟩
 ws:=WS.bare n hJ
 size:=hs.size
 defers:=hs.defers
theorem o_yield {o : Oper} {x y : Operand} {ats : Array TypeId} {t l : Nat} {ds : List DV} {d dx dy r : DV} (ho : o.op = .call ⟨.value x,#[y],ats⟩) (hd : o.dst = some t)
  (hw : ∀ w0 F0 F γ a w,Sat (bare w0 F0 n) F γ σ a w→Region.wanted o (yielded ops a.tmps) = true) (ex : ev σ.env x = some dx) (hx : ∀ F γ v,Rs F γ dx v→v = .func (.yield l) #[] #[])
  (ey : ev σ.env y = some dy) (hy : ∀ F γ v,Rs F γ dy v→Rs F Gam.no d v) (JO : JOk J) (Y : Ylds P l J ds) (hk : ds[k]? = some d)
  (env' : List (Nat × DV)) (hE : ∀ t d,look env' t = some d→look σ.env t = some d∧d.ids = []) (hr : ∀ F γ,Rs F γ r (.bool true)) : OpJ P J n ops o k σ (k + 1) ⟨(t,r) :: env',[],[]⟩ := by
 intro w0 F0 F γ a w hJ hs hdn K Q hK
 rw [if_pos (hw w0 F0 F γ a w hs)]
 have hv:=hx _ _ _ (hs.ev ex)
 obtain ⟨fn,tmps,assign,body,hrun,hround⟩ := Y k d (a.eval y) F w hk (JO.grw k F0 w0 F w hJ hs.grw) (hy _ _ _ (hs.ev ey))
 refine ⟨fun _ _=>trivial,?_⟩
 have he : (execOp a.eval o).run P w = .ok (.round l fn tmps assign body) w:=by
  simp [execOp,ho,resolve,hv,Deferred.ofValue,invoke,hrun]
 rw [Oper.semAt_eq _ _ _ (fun c hc=>by rw [ho] at hc; cases hc),he]
 refine ⟨fun h=>by simp [FW,Fence.wide] at h,hround.mono ?_⟩
 rintro e w' ⟨F',rfl,hF,hJ'⟩
 show K (a.put o.dst (.bool true)) w'
 rw [hd]
 exact hK w' F' F' Gam.no _ w' hJ' (hs.ws.f0.trans hF) ((hs.bared hF (JO.sat _ _ _ hJ') hE).put (hdn t hd) (hr _ _))
theorem o_callJ {o : Oper} {f : FuncId} [hf : CFn P f] {xs : Array Operand} {ats : Array TypeId} {t : Nat} {dxs args : List DV} {k' : Nat} (ho : o.op = .call ⟨.value (.func f),xs,ats⟩) (hd : o.dst = some t) (hg : o.guard = none)
  (ha : evL σ.env xs.toList = some dxs) (hle : DLeL dxs args) (hi : idsL args = []) (JO : JOk J)
  (hc : ∀ (F : FMap) (w : World) (vs : List Value),J k F w→RsT F Gam.no args vs→CallsIn (FW none) 0 P f vs.toArray w (fun e w'=>∃ F',e = .returned (.tuple #[])∧FLe F F'∧J k' F' w'))
  (env' : List (Nat × DV)) (hE : ∀ t d,look env' t = some d→look σ.env t = some d∧d.ids = []) : OpJ P J n ops o k σ k' ⟨(t,.tup []) :: env',[],[]⟩ := by
 intro w0 F0 F γ a w hJ hs hdn K Q hK
 rw [if_pos (by simp [Region.wanted,hg])]
 have hv:=hle.rsT (hs.evs ha)
 have hv' : RsT F Gam.no args (xs.toList.map a.eval):=RsT_ids args _ (by rw [hi]; simp) hv
 refine ⟨fun _ _=>trivial,?_⟩
 rw [Oper.semAt_eq _ _ _ (fun c hc=>by rw [ho] at hc; cases hc),run_call o xs ats ho a w]
 refine ⟨fun h=>by simp [FW,Fence.wide] at h,?_⟩
 have e : (xs.toList.map a.eval).toArray = xs.map a.eval:=by rw [← Array.toList_map]
 have:=hc F w _ (JO.grw k F0 w0 F w hJ hs.grw) hv'
 rw [e] at this
 refine this.mono ?_
 rintro e w' ⟨F',rfl,hF,hJ'⟩
 show K (a.put o.dst (.tuple #[])) w'
 rw [hd]
 exact hK w' F' F' Gam.no _ w' hJ' (hs.ws.f0.trans hF) ((hs.bared hF (JO.sat _ _ _ hJ') hE).put (hdn t hd) (by simp [Rs,RsT]))
theorem callsJ {f : FuncId} {fn : Func} {c : Code} {args : List DV} {vs : List Value} {k' : Nat} {F : FMap} {w : World} (JO : JOk J) (hf : P.funcs[f]? = some fn) (hb : fn.body = some c) (hn : fn.ntmps = n) (hrs : fn.results = #[]) (ha : args.length≤n)
  (h : awpJ P J n c (fun e m _=>(e = .normal∨e = .ret)∧m = k') k ⟨params 0 args,[],[]⟩) (hJ : J k F w) (hv : RsT F Gam.no args vs) :
  CallsIn (FW none) 0 P f vs.toArray w (fun e w'=>∃ F',e = .returned (.tuple #[])∧FLe F F'∧J k' F' w'):=by
 subst hn
 refine callsIn_of_wp hf hb trivial ?_
 have hs : Sat (bare w F fn.ntmps) F Gam.no ⟨params 0 args,[],[]⟩ { tmps:=vs.toArray++Array.replicate (fn.ntmps - vs.toArray.size) undef,defers:=[] } w :=
  ⟨params_sat hv ha,WS.bare _ (JO.sat _ _ _ hJ),by
   have:=hv.len
   simp [bare]; omega,rfl⟩
 refine wpIn_mono (h w F F Gam.no _ w hJ hs) ?_
 rintro e a' w' ⟨w1,F1,F',γ',m,σ',j1,j2,h1,h2,rfl⟩
 have main : a'.defers = []∧∃ v,(results fn a'.tmps).run P w' = .ok v w'∧(∃ F',Ending.returned v = .returned (.tuple #[])∧FLe F F'∧J m F' w') :=
  ⟨h1.defers,.tuple #[],results0 hrs,F',rfl,j2.trans h1.ws.f0,JO.grw _ _ _ _ _ j1 h1.grw⟩
 rcases h2 with rfl | rfl
 ·exact main
 ·exact main
end
section
variable {C C' : Ctx} {F F' : FMap} {γ : Gam} {h : Heap} {used : List Nat} {w w' : World}
theorem WS.ctx (H : WS C F γ h used w) (h1 : C'.w0 = C.w0) (h2 : C'.T = C.T) (h3 : C'.F0 = C.F0) (h4 : GLe C'.G0 γ) (h5 : ∀ id g,C'.G0 id = some g→100000≤id) : WS C' F γ h used w where
 ent:=H.ent
 own:=by rw [h1,h2]; exact H.own
 apart:=H.apart
 fs:=H.fs
 f0:=by rw [h3]; exact H.f0
 fnew:=by rw [h1,h2,h3]; exact H.fnew
 os:=by rw [h1]; exact H.os
 tape:=by rw [h1]; exact H.tape
 output:=by rw [h1]; exact H.output
 size:=by rw [h1]; exact H.size
 keep:=by rw [h1,h2]; exact H.keep
 us:=H.us
 gone:=H.gone
 g0:=h4
 gk:=h5
theorem WS.reF (H : WS C F γ h used w) : WS { C with F0:=F } F γ h used w:={ H with f0:=FLe.refl _,fnew:=fun b cs hb=>.inl hb }
theorem WS.unF {γ' : Gam} {h' : Heap} {used' : List Nat} (H : WS C F γ h used w) (K : WS { C with F0:=F } F' γ' h' used' w') : WS C F' γ' h' used' w' :=
 { K with
  f0:=H.f0.trans K.f0
  fnew:=fun b cs hb=>(K.fnew b cs hb).elim (fun q=>H.fnew b cs q) .inr }
theorem WS.grown (H : WS C F γ h used w) (G : Grw F w F' w') : WS C F' γ h used w' := by
 have Q:=H.quiet G.stp
 exact { Q with
  ent:=fun id e hi=>by obtain ⟨g,h1,h2⟩ := Q.ent id e hi; exact ⟨g,h1,h2.mono G.fle (GLe.refl _)⟩
  own:=fun id e g b hi hg hb=>by
   refine ⟨?_,(H.own id e g b hi hg hb).2⟩
   cases hF : F' b with
   | none=>rfl
   | some cs=>
    obtain ⟨g',k1,k2⟩ := H.ent id e hi
    rw [hg] at k1; injection k1 with k1; subst k1
    have hlt:=k2.lt b hb
    rcases G.new b cs hF with q | q
    ·rw [(H.own id e g b hi hg hb).1] at q; cases q
    ·omega
  fs:=G.sat
  f0:=H.f0.trans G.fle
  fnew:=fun b cs hb=>by
   rcases G.new b cs hb with q | q
   ·exact H.fnew b cs q
   ·exact .inr (.inr (Nat.le_trans H.size q)) }
theorem WS.setObj (H : WS C F γ h used w) {id l : Nat} {o : Obj} (o' : Obj) (hi : hget h id = some (.obj o)) (hg : γ id = some (.pointer (some ⟨l,0,none⟩))) : WS C F γ ((id,some (.obj o')) :: h) used (w.putObj l o'):=by
 obtain ⟨g,k1,b,k2,k3⟩ := H.ent id _ hi
 rw [hg] at k1; injection k1 with k1; subst k1
 injection k2 with k2; injection k2 with k2; injection k2 with k2 _ _; subst k2
 have hlt:=(Array.getElem?_eq_some_iff.1 k3).1
 have S : Stp w (w.putObj l o') (Value.pblk (.pointer (some ⟨l,0,none⟩))) := ⟨rfl,rfl,rfl,by simp,fun k hk hne=>World.putObj_heap_other (fun e=>hne (by rw [e]; rfl))⟩
 have T:=H.turn hi hg S
 have P:=T.put (e0:=.obj o') hg ⟨l,rfl,World.putObj_heap_same hlt⟩ (fun b hb=>by
  obtain ⟨q1,q2⟩ := H.own id _ _ b hi hg hb
  refine ⟨q1,q2,fun id' e' g' hne hh hg' hb'=>?_⟩
  rw [hget_cons] at hh
  split at hh
  ·cases hh
  ·exact hne (H.apart id' id e' _ g' _ b hh hi hg' hg hb' hb))
 refine P.congr (fun i e he=>?_) (fun _ h=>h)
 rw [hget_cons] at he ⊢
 split at he
 ·rename_i e1; rw [if_pos e1]; exact he
 ·rename_i e1; rw [if_neg e1,hget_cons,if_neg e1]; exact he
end
def markD (D : Nat) : Deferred:={ target:=.collected D,args := #[] }
def idR : Nat:=100004
def idM : Nat:=100005
def ptrTo (b : Nat) : Value:=.pointer (some ⟨b,0,none⟩)
def openMark : HE:=.obj (.deferred (some []))
def CExt (C C' : Ctx) : Prop:=C' = C∨∃ D,C'.w0 = C.w0∧C'.T = C.T∧C'.F0 = C.F0∧C'.n = C.n∧C'.ro = none∧C'.defs = [markD D]∧C'.G0 idM = some (ptrTo D)
def awpD (P : Program) (n : Nat) (c : Code) (Q : Exit→AS→Prop) (σ : AS) : Prop :=
 ∀ (C : Ctx) (F : FMap) (γ : Gam) (a : Act) (w : World),C.n = n→C.ro = none→C.defs = []→C.G0 = Gam.no→Sat C F γ σ a w →
  c.wpIn (FW none) 0 P (fun e a' w'=>∃ C' F' γ' σ',CExt C C'∧Sat C' F' γ' σ' a' w'∧Q e σ') a w
section
variable {P : Program} {n : Nat} {Q : Exit→AS→Prop} {σ : AS}
theorem d_of {c : Code} (h : awp P n c Q σ) : awpD P n c Q σ:=fun C F γ a w hn hr hd hg hs=>by
 have:=h C F γ a w hn hs
 rw [hr] at this
 exact wpIn_mono this fun e a' w' ⟨F',γ',σ',h1,h2⟩=>⟨C,F',γ',σ',.inl rfl,h1,h2⟩
def DThenL (P : Program) (n : Nat) (y : Code) (Q : Exit→AS→Prop) : Exit→AS→Prop
 | .normal,σ=>awpD P n y Q σ
 | _,_=>False
theorem d_seqL {x y : Code} (h : awp P n x (DThenL P n y Q) σ) : awpD P n (.seq x y) Q σ:=fun C F γ a w hn hr hd hg hs=>by
 have:=h C F γ a w hn hs
 rw [hr] at this
 refine wpIn_seq (wpIn_mono this fun e a' w' ⟨F',γ',σ',h1,h2⟩=>?_)
 cases e with
 | normal=>exact h2 C F' γ' a' w' hn hr hd hg h1
 | exit id=>exact h2.elim
 | goto l=>exact h2.elim
 | ret=>exact h2.elim
 | panic c=>exact h2.elim
 | outgrown=>exact h2.elim
theorem d_seqR {x y : Code} (h : awpD P n x (QThen P n y Q) σ) : awpD P n (.seq x y) Q σ:=fun C F γ a w hn hr hd hg hs=>by
 refine wpIn_seq (wpIn_mono (h C F γ a w hn hr hd hg hs) fun e a' w' ⟨C',F',γ',σ',hC,h1,h2⟩=>?_)
 cases e with
 | normal=>
  have hn' : C'.n = n:=by
   rcases hC with rfl | ⟨D,_,_,_,q,_⟩
   ·exact hn
   ·rw [q]; exact hn
  have hr' : C'.ro = none:=by
   rcases hC with rfl | ⟨D,_,_,_,_,q,_⟩
   ·exact hr
   ·exact q
  have:=h2 C' F' γ' a' w' hn' h1
  rw [hr'] at this
  exact wpIn_mono this fun e a' w' ⟨F',γ',σ',h1,h2⟩=>⟨C',F',γ',σ',hC,h1,h2⟩
 | exit id=>exact ⟨C',F',γ',σ',hC,h1,h2⟩
 | goto l=>exact ⟨C',F',γ',σ',hC,h1,h2⟩
 | ret=>exact ⟨C',F',γ',σ',hC,h1,h2⟩
 | panic c=>exact ⟨C',F',γ',σ',hC,h1,h2⟩
 | outgrown=>exact ⟨C',F',γ',σ',hC,h1,h2⟩
theorem d_block {id : Nat} {c : Code} (h : awpD P n c (QBlk id Q) σ) : awpD P n (.block id c) Q σ:=fun C F γ a w hn hr hd hg hs=>
 wpIn_block (wpIn_mono (h C F γ a w hn hr hd hg hs) fun e a' w' ⟨C',F',γ',σ',hC,h1,h2⟩=>by
  cases e with
  | exit id'=>
   simp only [QBlk] at h2
   simp only [Exit.inBlock]
   by_cases hid : id' = id
   ·subst hid; simp at h2; rw [if_pos rfl]; exact ⟨C',F',γ',σ',hC,h1,h2⟩
   ·have : Nat.beq id' id = false:=by rw [Bool.eq_false_iff]; intro e; exact hid (Nat.eq_of_beq_eq_true e)
    rw [this] at h2; rw [if_neg hid]; exact ⟨C',F',γ',σ',hC,h1,h2⟩
  | normal=>exact ⟨C',F',γ',σ',hC,h1,h2⟩
  | goto l=>exact ⟨C',F',γ',σ',hC,h1,h2⟩
  | ret=>exact ⟨C',F',γ',σ',hC,h1,h2⟩
  | panic c=>exact ⟨C',F',γ',σ',hC,h1,h2⟩
  | outgrown=>exact ⟨C',F',γ',σ',hC,h1,h2⟩)
def DPost (P : Program) (rs : Array ResultVar) (res : DV) : Exit→AS→Prop
 | .ret,σ | .normal,σ=>∃ d,ResV P ⟨σ.env,(idM,none) :: σ.heap,σ.used⟩ rs d∧DLe d res∧hget σ.heap idM = some openMark
 | _,_=>False
theorem PCall.ofD {fn : FuncId} {func : Func} {c : Code} {args : List DV} {r : DV} {rs : Array ResultVar} (hf : P.funcs[fn]? = some func) (hn : func.ntmps = n) (hb : func.body = some c) (hrs : func.results = rs) (ha : Nat.ble args.length n = true) (hr : r.ids = [])
  (h : awpD P n c (DPost P rs r) ⟨params 0 args,[],[]⟩) : PCall P fn args r:=by
 subst hn hrs
 intro C F γ heap used w vs H hv
 have HE:=H.enter func.ntmps id [] (fun i e h=>by simp [hget,look] at h) (by simp) (by simp) (by simp) (fun i e h=>by simp [hget,look] at h)
 have hG : innerG γ id (List.map (·.1) ([] : Heap)) = Gam.no:=by funext i; simp [innerG,Gam.no]
 rw [hG] at HE
 refine (callsIn_wide (n:=0)).1 (callsIn_of_wp_marks hf hb trivial ?_)
 have hs : Sat (inner w F func.ntmps γ id []) F Gam.no ⟨params 0 args,[],[]⟩ { tmps:=vs.toArray++Array.replicate (func.ntmps - vs.toArray.size) undef,defers:=[] } w :=
  ⟨params_sat hv (Nat.le_of_ble_eq_true ha),HE,by
   have:=hv.len
   have:=Nat.le_of_ble_eq_true ha
   simp [inner]; omega,rfl⟩
 refine wpIn_mono (h (inner w F func.ntmps γ id []) F Gam.no _ w rfl rfl rfl (by funext i; simp [inner,Gam.no]) hs) ?_
 rintro e a' w' ⟨C',F',γ',σ',hC,hs',hq⟩
 -- the results,read in a world where the mark is shut
 have fin : ∀ (w2 : World) (d : DV),Sat C' F' γ' ⟨σ'.env,(idM,none) :: σ'.heap,σ'.used⟩ a' w2→ResV P ⟨σ'.env,(idM,none) :: σ'.heap,σ'.used⟩ func.results d→DLe d r →
   ∃ v,(results func a'.tmps).run P w2 = .ok v w2∧(∃ v' F',Ending.returned v = .returned v'∧FLe F F'∧WS C F' γ heap used w2∧Rs F' Gam.no r v'):=by
  intro w2 d hs2 h1 h2
  obtain ⟨v,k1,k2⟩ := h1.run hs2
  have hI : WS (inner w F func.ntmps γ id []) F' γ' ((idM,none) :: σ'.heap) σ'.used w2:=by
   rcases hC with rfl | ⟨D,c1,c2,c3,c4,c5,c6,c7⟩
   ·exact hs2.ws
   ·exact hs2.ws.ctx c1.symm c2.symm c3.symm (fun i g h=>by simp [inner] at h) (fun i g h=>by simp [inner] at h)
  obtain ⟨_,_,j⟩ := H.join (f:=id) (pre:=[]) (new:=[]) hI [] (by simp) (by simp) (by simp) (fun i e h=>by simp [hget,look] at h) (by simp) (by simp) (fun i e h=>by simp [hget,look] at h)
  have hg : outerG γ γ' id [] = γ:=by funext i; unfold outerG; cases γ i <;> rfl
  rw [hg] at j
  exact ⟨v,k1,v,F',rfl,hI.f0,by simpa [renH] using j,Rs_ids r v (by rw [hr]; simp) (h2 _ _ _ k2)⟩
 have main : (∃ d,ResV P ⟨σ'.env,(idM,none) :: σ'.heap,σ'.used⟩ func.results d∧DLe d r∧hget σ'.heap idM = some openMark)→LeavesInM Fence.wide 0 P func a'.tmps (fun e w'=>∃ v F',e = .returned v∧FLe F F'∧WS C F' γ heap used w'∧Rs F' Gam.no r v) a'.defers .returning w' := by
  rintro ⟨d,h1,h2,h3⟩
  rcases id hC with rfl | ⟨D,c1,c2,c3,c4,c5,c6,c7⟩
  ·rw [show a'.defers = [] from hs'.defers]
   exact fin w' d (hs'.congr (fun _ _ h=>h) (fun i e he=>by
    rw [hget_cons] at he
    split at he
    ·cases he
    ·exact he) (fun _ h=>h)) h1 h2
  ·rw [hs'.defers,c6]
   have hg : γ' idM = some (ptrTo D):=hs'.ws.g0 _ _ c7
   have hW:=hs'.ws.setObj (.deferred none) h3 hg
   obtain ⟨g,k1,b,k2,k3⟩ := hs'.ws.ent idM _ h3
   rw [hg] at k1; injection k1 with k1; subst k1
   injection k2 with k2; injection k2 with k2; injection k2 with k2 _ _; subst k2
   refine ⟨by simp,.inl ⟨D,_,rfl,run_takeDeferred k3,?_⟩⟩
   refine fin _ d ⟨hs'.env,hW.congr (fun i e he=>?_) (fun _ h=>h),hs'.size,hs'.defers⟩ h1 h2
   simp only at he
   rw [hget_cons] at he ⊢
   split at he
   ·cases he
   ·rename_i e1; rw [if_neg e1]; exact he
 cases e with
 | ret=>exact main hq
 | normal=>exact main hq
 | exit id=>exact hq.elim
 | goto l=>exact hq.elim
 | panic c=>exact hq.elim
 | outgrown=>exact hq.elim
def RThen (P : Program) (n : Nat) (body : Code) (R R' : Obj) (Hn : Heap) (U : List Nat) : Exit→AS→Prop
 | .normal,σ=>hget σ.heap idR = some (.obj R)∧awp P n body (fun e σ'=>e = .normal∧Imp σ' ⟨[],(idR,some (.obj R')) :: (idM,some openMark) :: Hn,idR :: idM :: U⟩) ⟨σ.env,(idR,some (.obj R')) :: σ.heap,σ.used⟩
 | _,_=>False
theorem hget_drop {id : Nat} {x y : Option HE} {h : Heap} {i : Nat} {e : HE} (he : hget ((id,x) :: h) i = some e) : hget ((id,x) :: (id,y) :: h) i = some e:=by
 rw [hget_cons] at he ⊢
 split at he
 ·rename_i e1; rw [if_pos e1]; exact he
 ·rename_i e1; rw [if_neg e1,hget_cons,if_neg e1]; exact he
theorem d_range {g : Operand} {t : Nat} {assign body : Code} {gf : FuncId} [hgf : CFn P gf] {caps ds : List DV} (hI : Iter P gf caps ds) (env : List (Nat × DV)) (H : Nat→Heap) (U : List Nat) (h0 : Imp σ ⟨env,H 0,U⟩)
  (hg : ev env g = some (.clo gf caps)) (hc : idsL caps = []) (hE : ∀ t d,look env t = some d→∀ i∈d.ids,100000≤i) (hU : idR ∉ U) (hU' : idM ∉ U) (ht : t < n)
  (hround : ∀ k d (R R' : Obj),ds[k]? = some d→awp P n assign (RThen P n body R R' (H (k + 1)) U) ⟨(t,d) :: env,(idR,some (.obj R)) :: (idM,some openMark) :: H k,idR :: idM :: U⟩)
  (hq : Q .normal ⟨env,(idR,none) :: (idM,some openMark) :: H ds.length,idR :: idM :: U⟩) : awpD P n (.rangeFunc g #[t] assign body) Q σ:=by
 intro C F γ a w hn hr hd hG hs
 obtain ⟨F1,γ1,h1⟩ := h0 C F γ a w hs
 have kg:=h1.ev hg
 simp only [Rs] at kg
 obtain ⟨lb,eg,hlb⟩ := kg
 have hlb' : RsT F1 Gam.no caps lb.toList:=RsT_ids caps _ (by rw [hc]; intro i hi; cases hi) hlb
 refine wpIn_rangeFunc ?_
 intro fn _
 obtain ⟨rec,hrec⟩ : ∃ rec : LoopState→Option Code→Loop,rec = fun st pe=>{ state:=st,pending:=pe,fn,tmps:=a.tmps,params := #[t],assign,body,defers:=w.heap.size } := ⟨_,rfl⟩
 obtain ⟨W1,hW1⟩ : ∃ W1,(w.alloc (.deferred (some []))).alloc (.loop (rec .ready none)) = W1 := ⟨_,rfl⟩
 have A1:=h1.ws.addNew hU' (.deferred (some [])) (e0:=openMark) (g:=ptrTo w.heap.size) (fun b hb=>by simp [ptrTo,Value.pblk] at hb; exact hb.symm) ⟨w.heap.size,rfl,World.alloc_heap_new w _⟩
 have hR1 : idR ∉ idM :: U:=by
  intro h
  rcases List.mem_cons.1 h with h | h
  ·exact absurd h (by decide)
  ·exact hU h
 have A2:=A1.addNew hR1 (.loop (rec .ready none)) (e0:=.obj (.loop (rec .ready none))) (g:=ptrTo (w.heap.size + 1)) (fun b hb=>by simp [ptrTo,Value.pblk] at hb; rw [← hb]; simp) ⟨w.heap.size + 1,rfl,by
  have:=World.alloc_heap_new (w.alloc (.deferred (some []))) (.loop (rec .ready none))
  rwa [World.size_alloc] at this⟩
 rw [hW1] at A2
 have hle12 : GLe γ1 ((γ1.up idM (ptrTo w.heap.size)).up idR (ptrTo (w.heap.size + 1))):=(Gam.up_le _ (h1.ws.fresh hU')).trans (Gam.up_le _ (A1.fresh hR1))
 obtain ⟨γ2,hγ2⟩ : ∃ γ2,(γ1.up idM (ptrTo w.heap.size)).up idR (ptrTo (w.heap.size + 1)) = γ2 := ⟨_,rfl⟩
 have gR : γ2 idR = some (ptrTo (w.heap.size + 1)):=by rw [← hγ2]; exact Gam.up_same _ _ _
 have gM : γ2 idM = some (ptrTo w.heap.size):=by rw [← hγ2]; simp [Gam.up,idM,idR]
 rw [hγ2] at A2 hle12
 obtain ⟨γr,hγr⟩ : ∃ γr : Gam,γr = fun i=>if 100000≤i then γ2 i else none := ⟨_,rfl⟩
 have rR : γr idR = some (ptrTo (w.heap.size + 1)):=by rw [hγr]; simp only [if_pos (show 100000≤idR by decide)]; exact gR
 have rM : γr idM = some (ptrTo w.heap.size):=by rw [hγr]; simp only [if_pos (show 100000≤idM by decide)]; exact gM
 have rk : ∀ id g,γr id = some g→100000≤id:=fun id g h=>by
  rw [hγr] at h
  simp only at h
  split at h
  ·assumption
  ·cases h
 have r2 : GLe γr γ2:=fun id g h=>by
  have:=rk id g h
  rw [hγr] at h
  simpa [this] using h
 -- what the slots hold
 have lift : ∀ (F' : FMap) (γ' : Gam),FLe F1 F'→GLe γr γ'→∀ t d,look env t = some d→t < C.n∧Rs F' γ' d (a.tmps.getD t undef):=fun F' γ' hF hγ t d hl=>by
  obtain ⟨q1,q2⟩ := h1.env t d hl
  refine ⟨q1,?_⟩
  have q3 : Rs F1 γr d (a.tmps.getD t undef):=Rs_ids d _ (fun i hi=>by rw [hγr]; simp [hE t d hl i hi]) (q2.mono (FLe.refl _) hle12)
  exact q3.mono hF hγ
 obtain ⟨Cr,hCr⟩ : ∃ Cr : Ctx,Cr = { C with G0:=γr } := ⟨_,rfl⟩
 have w0 : WS Cr F1 γ2 ((idR,some (.obj (.loop (rec .ready none)))) :: (idM,some openMark) :: H 0) (idR :: idM :: U) W1:=by
  rw [hCr]; exact A2.ctx rfl rfl rfl r2 rk
 obtain ⟨J,hJ⟩ : ∃ J : Nat→FMap→World→Prop,J = fun k F' w'=>FLe F1 F'∧∃ γ',WS Cr F' γ' ((idR,some (.obj (.loop (rec .ready none)))) :: (idM,some openMark) :: H k) (idR :: idM :: U) w' := ⟨_,rfl⟩
 have JO : JOk J:=by
  rw [hJ]
  exact ⟨fun k F w F' w' ⟨q1,γ',q2⟩ G=>⟨q1.trans G.fle,γ',q2.grown G⟩,fun k F w ⟨_,γ',q2⟩=>q2.fs⟩
 have atR : ∀ {F' : FMap} {γ' : Gam} {h' : Heap} {u' : List Nat} {w' : World} {C' : Ctx} {o : Obj},WS C' F' γ' h' u' w'→C'.G0 = γr→hget h' idR = some (.obj o)→γ' idR = some (ptrTo (w.heap.size + 1))∧w'.heap[w.heap.size + 1]? = some o:=by
  intro F' γ' h' u' w' C' o hw hG' hh
  have e1 : γ' idR = some (ptrTo (w.heap.size + 1)):=hw.g0 _ _ (by rw [hG']; exact rR)
  obtain ⟨g,k1,b,k2,k3⟩ := hw.ent idR _ hh
  rw [e1] at k1; injection k1 with k1; subst k1
  injection k2 with k2; injection k2 with k2; injection k2 with k2 _ _; subst k2
  exact ⟨e1,k3⟩
 have first : ∀ (x : HE) (h' : Heap),hget ((idR,some x) :: h') idR = some x:=fun x h'=>by rw [hget_cons,if_pos rfl]
 have Y : Ylds P (w.heap.size + 1) J ds:=by
  intro k d v F' w' hk hj hv
  rw [hJ] at hj
  obtain ⟨hF,γ',hW⟩ := hj
  obtain ⟨g1,l1⟩ := atR hW (by rw [hCr]) (first _ _)
  have hy:=run_yield (P:=P) (args := #[v]) l1 (by rw [hrec]; rfl)
  rw [hrec] at hy
  simp only at hy
  refine ⟨fn,_,assign,body,hy,roundIn_of_wpIn trivial ?_⟩
  obtain ⟨CR,hCR⟩ : ∃ CR : Ctx,CR = { C with G0:=γr,ro:=some (w.heap.size + 1),F0:=F',defs:=[] } := ⟨_,rfl⟩
  have hWR : WS CR F' γ' ((idR,some (.obj (.loop (rec .ready none)))) :: (idM,some openMark) :: H k) (idR :: idM :: U) w' := by
   rw [hCR]; rw [hCr] at hW
   exact hW.reF.ctx rfl rfl rfl hW.g0 rk
  have hgr : GLe γr γ' := by have:=hW.g0; rw [hCr] at this; exact this
  have S : Sat CR F' γ' ⟨(t,d) :: env,(idR,some (.obj (.loop (rec .ready none)))) :: (idM,some openMark) :: H k,idR :: idM :: U⟩ { tmps:=(Array.zip #[t] #[v]).foldl (fun tmps x=>tmps.setIfInBounds x.1 x.2) a.tmps,defers:=[] } w' := by
   have et : (Array.zip #[t] #[v]).foldl (fun tmps x=>tmps.setIfInBounds x.1 x.2) a.tmps = a.tmps.setIfInBounds t v:=by simp
   rw [et]
   refine ⟨fun t' d' hl=>?_,hWR,by rw [hCR]; simpa using h1.size,by rw [hCR]⟩
   simp only at hl
   rw [look_cons] at hl
   have hsz : a.tmps.size = C.n:=h1.size
   split at hl
   ·rename_i e1; subst e1; injection hl with hl; subst hl
    have hlt : t < a.tmps.size:=by rw [hsz,hn]; exact ht
    refine ⟨by rw [hCR]; simp only; rw [hn]; exact ht,?_⟩
    have : (a.tmps.setIfInBounds t v).getD t undef = v:=by simp [Array.getD,hlt]
    rw [this]
    exact hv.mono (FLe.refl _) (GLe.no _)
   ·rename_i e1
    obtain ⟨q1,q2⟩ := lift F' γ' hF hgr t' d' hl
    refine ⟨by rw [hCR]; exact q1,?_⟩
    have : (a.tmps.setIfInBounds t v).getD t' undef = a.tmps.getD t' undef:=by
     by_cases hb : t' < a.tmps.size
     ·simp [Array.getD,hb,Array.getElem_setIfInBounds,e1]
     ·simp [Array.getD,hb]
    rw [this]; exact q2
  have hCn : CR.n = n:=by rw [hCR]; exact hn
  have hro : CR.ro = some (w.heap.size + 1):=by rw [hCR]
  have hGR : CR.G0 = γr:=by rw [hCR]
  have hFR : CR.F0 = F' := by rw [hCR]
  have step1:=hround k d (.loop (rec .ready none)) (.loop { rec .ready none with state:=.busy }) hk CR F' γ' _ w' hCn S
  rw [hro] at step1
  refine wpIn_mono step1 ?_
  rintro e a1 w1 ⟨F2,γ2',σ1,s1,q⟩
  cases e with
  | normal=>
   obtain ⟨q1,q2⟩ := q
   obtain ⟨g2,l2⟩ := atR s1.ws hGR q1
   refine ⟨_,run_beginRound l2 (by rw [hrec]),?_⟩
   have S2 : Sat CR F2 γ2' ⟨σ1.env,(idR,some (.obj (.loop { rec .ready none with state:=.busy }))) :: σ1.heap,σ1.used⟩ a1 (w1.putObj (w.heap.size + 1) (.loop { rec .ready none with state:=.busy })) := ⟨s1.env,s1.ws.setObj _ q1 g2,s1.size,s1.defers⟩
   have step2:=q2 CR F2 γ2' a1 _ hCn S2
   rw [hro] at step2
   refine wpIn_mono step2 ?_
   rintro e a2 w3 ⟨F3,γ3,σ3,s3,rfl,himp⟩
   obtain ⟨F4,γ4,s4⟩ := himp CR F3 γ3 a2 w3 s3
   obtain ⟨g4,l4⟩ := atR s4.ws hGR (first _ _)
   refine ⟨_,_,run_endRound none l4,F4,rfl,by have:=s4.ws.f0; rwa [hFR] at this,?_⟩
   rw [hJ]
   refine ⟨hF.trans (by have:=s4.ws.f0; rwa [hFR] at this),γ4,?_⟩
   have e3:=s4.ws.setObj (.loop (rec .ready none)) (first _ _) g4
   have e4 : ({ { rec .ready none with state:=.busy } with state:=if (none : Option Code).isNone then .ready else .done,pending:=none } : Loop) = rec .ready none:=by rw [hrec]; rfl
   rw [e4]
   have e5 : WS CR F4 γ4 ((idR,some (.obj (.loop (rec .ready none)))) :: (idM,some openMark) :: H (k + 1)) (idR :: idM :: U) (w3.putObj (w.heap.size + 1) (.loop (rec .ready none))):=e3.congr (fun i e he=>hget_drop he) (fun _ h=>h)
   refine hW.unF ?_
   rw [hCr]
   rw [hCR] at e5
   exact e5.ctx rfl rfl rfl e5.g0 rk
  | exit id=>exact q.elim
  | goto l=>exact q.elim
  | ret=>exact q.elim
  | panic c=>exact q.elim
  | outgrown=>exact q.elim
 refine ⟨w.heap.size + 1,[markD w.heap.size],W1,{ target:=.fn (.func gf) lb,args := #[.func (.yield (w.heap.size + 1)) #[] #[]] },W1,gf,#[.func (.yield (w.heap.size + 1)) #[] #[]]++lb,W1,?_,?_,fun _ _=>trivial,?_,fun h=>by simp [FW,Fence.wide] at h,?_⟩
 ·rw [← hW1,hrec]; exact run_enterLoop_outer _ _ _ _ _
 ·simp only [resolve,eg]
  simp [go_sem]
 ·simp [invoke,run_callFunc]
 ·have hJ0 : J 0 F1 W1:=by rw [hJ]; exact ⟨FLe.refl _,γ2,w0⟩
  have:=hI (w.heap.size + 1) J F1 W1 lb.toList JO Y hJ0 hlb'
  simp only [Array.toArray_toList] at this
  refine this.mono ?_
  rintro e W2 ⟨v,F2,rfl,hF,hj⟩
  rw [hJ] at hj
  obtain ⟨_,γ',hW⟩ := hj
  obtain ⟨g1,l1⟩ := atR hW (by rw [hCr]) (first _ _)
  have hgr : GLe γr γ' := by have:=hW.g0; rw [hCr] at this; exact this
  refine ⟨none,W2.putObj (w.heap.size + 1) (.loop { rec .ready none with state:=.exhausted }),?_,?_⟩
  ·have:=run_endLoop (P:=P) l1 (by rw [hrec]; simp)
   rw [hrec] at this ⊢
   exact this
  ·refine ⟨{ C with G0:=γr,defs:=[markD w.heap.size] },F2,γ',⟨env,(idR,none) :: (idM,some openMark) :: H ds.length,idR :: idM :: U⟩,.inr ⟨w.heap.size,rfl,rfl,rfl,rfl,hr,rfl,rM⟩,⟨fun t' d' hl=>lift F2 γ' hF hgr t' d' hl,?_,h1.size,?_⟩,hq⟩
   ·have e3:=hW.setObj (.loop { rec .ready none with state:=.exhausted }) (first _ _) g1
    rw [hCr] at e3
    have e4:=e3.ctx (C' := { C with G0:=γr,defs:=[markD w.heap.size] }) rfl rfl rfl hgr rk
    refine e4.congr (fun i e he=>?_) (fun _ h=>h)
    simp only at he
    rw [hget_cons] at he
    split at he
    ·cases he
    ·rename_i e1
     rw [hget_cons,if_neg e1,hget_cons,if_neg e1]; exact he
   ·simp only [h1.defers,hd,List.append_nil]
end
set_option maxRecDepth 100000
set_option maxHeartbeats 4000000
structure AEv where
 gTick : Int
 gComponent : Int
 gKind : Int
 gPeer : Int
 gN : Int
 gCopy : Int
 gHandler : Int
 gD : Int
 gArgs : List Int
structure VClk where
 gat : Nat→Int
structure RRec where
 gComponent : Int
 gSeq : Int
 gClock : VClk
 gWhat : Int
 gEvent : AEv
 gCount : Int
def RRec.cs (x : RRec) : List DV:=[.int .i64 x.gComponent,.int .u64 x.gSeq,.int .u64 (x.gClock.gat 0),.int .u64 (x.gClock.gat 1),.int .u64 (x.gClock.gat 2),.int .u64 (x.gClock.gat 3),.int .u64 (x.gClock.gat 4),.int .u64 (x.gClock.gat 5),.int .u64 (x.gClock.gat 6),.int .u64 (x.gClock.gat 7),.int .u64 (x.gClock.gat 8),.int .u64 (x.gClock.gat 9),.int .u64 (x.gClock.gat 10),.int .u64 (x.gClock.gat 11),.int .u64 (x.gClock.gat 12),.int .u64 (x.gClock.gat 13),.int .u64 (x.gClock.gat 14),.int .u64 (x.gClock.gat 15),.int .u8 x.gWhat,.int .i64 x.gEvent.gTick,.int .i64 x.gEvent.gComponent,.int .u8 x.gEvent.gKind,.int .i64 x.gEvent.gPeer,.int .i64 x.gEvent.gN,.int .i64 x.gEvent.gCopy,.int .i64 x.gEvent.gHandler,.int .i64 x.gEvent.gD,.sl 1 (List.map (DV.int .i64) x.gEvent.gArgs),.int .u64 x.gCount]
def RRec.dv (x : RRec) : DV:=.agg (RRec.cs x)
structure frame_Part where
 gOff : Int
 gLen : Int
 gBody : List Int
 gGood : Bool
def frame_Part.cs (x : frame_Part) : List DV:=[.int .i64 x.gOff,.int .i64 x.gLen,.sl 1 (List.map (DV.int .u8) x.gBody),.bool x.gGood]
def frame_Part.dv (x : frame_Part) : DV:=.agg (frame_Part.cs x)
structure CSpan where
 gfrom : Int
 gto : Int
def CSpan.cs (x : CSpan) : List DV:=[.int .u64 x.gfrom,.int .u64 x.gto]
def CSpan.dv (x : CSpan) : DV:=.agg (CSpan.cs x)
structure CPart where
 gentries : List RRec
 glost : List CSpan
 gknown : Bool
 gtotal : Int
def CPart.cs (x : CPart) : List DV:=[.sl 29 (List.map RRec.dv x.gentries),.sl 2 (List.map CSpan.dv x.glost),.bool x.gknown,.int .u64 x.gtotal]
def CPart.dv (x : CPart) : DV:=.agg (CPart.cs x)
structure CColl where
 gparts : List CPart
structure gap_Gap where
 gComponent : Int
 gFirst : Int
 gCount : Int
 gOpen : Bool
 gFrom : Int
 gTo : Int
def gap_Gap.cs (x : gap_Gap) : List DV:=[.int .i64 x.gComponent,.int .u64 x.gFirst,.int .u64 x.gCount,.bool x.gOpen,.int .i64 x.gFrom,.int .i64 x.gTo]
def gap_Gap.dv (x : gap_Gap) : DV:=.agg (gap_Gap.cs x)
def frame_update_K1 (a1 : Int) : Option Int :=
 some a1
def frame_update_K3 (a7 : Int) : Option Int :=
 some a7
def frame_update_L4 (k10 : Nat) (a11 : Int) : Option Int :=
 if ((bitI .and .u32 a11 1) == 1) = true then
  some (bitI .xor .u32 (Int.fdiv a11 (2 ^ min (Int.toNat 1) (IntKind.bits .u32))) 2197175160)
 else
  some (Int.fdiv a11 (2 ^ min (Int.toNat 1) (IntKind.bits .u32)))
def frame_update_L2 (x1 : List Int) (k2 : Nat) (a3 : Int) : Option Int :=
 (idx x1 (k2 : Int)).bind fun v9=>
 (foldM' 9223372036854775807 8 (fun k10 s=>frame_update_L4 k10 s) (bitI .xor .u32 a3 (IntKind.wrap .u32 v9))).bind fun s=>frame_update_K3 s
def frame_update (x0 : Int) (x1 : List Int) : Option Int :=
 (foldM' 9223372036854775807 (List.length x1 : Int) (fun k2 s=>frame_update_L2 x1 k2 s) x0).bind fun s=>frame_update_K1 s
theorem frame_update_c {x0 : Int} {x1 : List Int} {r : Int} (hM : frame_update x0 x1 = some r) : PCall Tryz.prog 70 [.int .u32 x0,.sl 1 (List.map (DV.int .u8) x1)] (.int .u32 r):=by
 unfold frame_update at hM
 refine PCall.body Tryz.func70 Tryz.ntmps70 rfl rfl rfl rfl ?_
 refine a_seq (ar (.cons (o_assign rfl)<|.nil _) ?_)
 refine a_cut (α:=Int) (fun s=>⟨[(0,.int .u32 s)],[],[]⟩) (fun s=>frame_update_K1 s = some r) ?_ ?_
 ·refine a_seq (ar (.cons (o_move rfl)<|.cons (t_len rfl)<|.cons (o_move rfl)<|.nil _) ?_)
  obtain ⟨a3,hL4,hK4⟩ := of_bind hM
  refine a_block ?_
  refine a_fold (fun k2 (s : Int)=>⟨[(0,.int .u32 s),(8,.sl 1 (List.map (DV.int .u8) x1)),(9,.int .i64 (List.length x1 : Int)),(10,.int .i64 (k2 : Int))],[],[]⟩) _ hL4 (Imp.sh (fun i=>i) rfl rfl rfl rfl rfl rfl) ?_ ?_
  ·rintro k2 a3 t5 hk2 hx2 hM
   replace hM : frame_update_L2 x1 k2 a3 = some t5:=hM
   unfold frame_update_L2 at hM
   refine a_seq (ar (.cons (o_int rfl rfl rfl)<|.nil _) ?_)
   refine a_seq ?_
   refine a_cond _ rfl (fun _=>?_) (fun c=>absurd hk2 (of_decide_eq_false c))
   refine a_skip ?_
   refine a_cut (α:=Int) (fun s=>⟨[(0,.int .u32 s),(8,.sl 1 (List.map (DV.int .u8) x1)),(9,.int .i64 (List.length x1 : Int)),(10,.int .i64 (k2 : Int))],[],[]⟩) (fun s=>frame_update_K3 s = some t5) ?_ ?_
   ·refine a_block (a_seq ?_)
    obtain ⟨v9,h8,hM⟩ := of_bind hM
    refine ar (.cons (t_index h8 rfl rfl rfl)<|.cons (o_load_es rfl rfl)<|.cons (o_assign rfl)<|.nil _) ?_
    refine a_seq (ar (.cons (o_move rfl)<|.cons (o_move rfl)<|.cons (o_conv_w rfl)<|.cons (o_int rfl rfl rfl)<|.cons (o_assign rfl)<|.nil _) ?_)
    refine a_seq (ar (.cons (o_move rfl)<|.nil _) ?_)
    obtain ⟨a11,hL12,hK12⟩ := of_bind hM
    refine a_block ?_
    refine a_fold (fun k10 (s : Int)=>⟨[(0,.int .u32 s),(8,.sl 1 (List.map (DV.int .u8) x1)),(9,.int .i64 (List.length x1 : Int)),(10,.int .i64 (k2 : Int)),(18,.int .i64 (k10 : Int))],[],[]⟩) _ hL12 (Imp.sh (fun i=>i) rfl rfl rfl rfl rfl rfl) ?_ ?_
    ·rintro k10 a11 t13 hk10 hx10 hM
     replace hM : frame_update_L4 k10 a11 = some t13:=hM
     unfold frame_update_L4 at hM
     refine a_seq (ar (.cons (o_int rfl rfl rfl)<|.nil _) ?_)
     refine a_seq ?_
     refine a_cond _ rfl (fun _=>?_) (fun c=>absurd hk10 (of_decide_eq_false c))
     refine a_skip (a_seq (a_block (a_seq (ar (.cons (o_move rfl)<|.cons (o_int rfl rfl rfl)<|.cons (o_assign rfl)<|.nil _) ?_))))
     refine a_seq (ar (.cons (o_move rfl)<|.cons (o_shr rfl rfl (by decide))<|.cons (o_assign rfl)<|.nil _) ?_)
     refine a_seq (ar (.cons (o_move rfl)<|.cons (o_int rfl rfl rfl)<|.nil _) ?_)
     refine a_cond _ rfl (fun h15=>?_) (fun h15=>?_)
     ·replace hM:=(of_if hM).1 h15
      refine ar (.cons (o_move rfl)<|.cons (o_int rfl rfl rfl)<|.cons (o_assign rfl)<|.nil _) ?_
      refine ar (.cons (o_add rfl rfl (inR_i64 hk10 hx10))<|.cons (o_move rfl)<|.nil _) ?_
      obtain rfl:=Option.some.inj hM
      exact (Imp.of (fun i=>i) (.cons rfl (DLe.refl _) (.cons rfl (DLe.refl _) (.cons rfl (DLe.refl _) (.cons rfl (DLe.refl _) (.cons rfl (DLe.succ _ _) .nil))))) .nil rfl rfl rfl)
     ·replace hM:=(of_if hM).2 h15
      refine a_skip (ar (.cons (o_add rfl rfl (inR_i64 hk10 hx10))<|.cons (o_move rfl)<|.nil _) ?_)
      obtain rfl:=Option.some.inj hM
      exact (Imp.of (fun i=>i) (.cons rfl (DLe.refl _) (.cons rfl (DLe.refl _) (.cons rfl (DLe.refl _) (.cons rfl (DLe.refl _) (.cons rfl (DLe.succ _ _) .nil))))) .nil rfl rfl rfl)
    ·rintro k10 hk10 hx10
     refine a_seq (ar (.cons (o_int rfl rfl rfl)<|.nil _) ?_)
     refine a_seq ?_
     refine a_cond _ rfl (fun c=>absurd (of_decide_eq_true c) (Int.not_lt.2 hk10)) (fun _=>?_)
     refine a_exit ?_
     exact ⟨a11,hK12,(Imp.sh (fun i=>i) rfl rfl rfl rfl rfl rfl)⟩
   ·rintro a7 hM
    replace hM : frame_update_K3 a7 = some t5:=hM
    unfold frame_update_K3 at hM
    refine ar (.cons (o_add rfl rfl (inR_i64 hk2 hx2))<|.cons (o_move rfl)<|.nil _) ?_
    obtain rfl:=Option.some.inj hM
    exact (Imp.of (fun i=>i) (.cons rfl (DLe.refl _) (.cons rfl (DLe.refl _) (.cons rfl (DLe.refl _) (.cons rfl (DLe.succ _ _) .nil)))) .nil rfl rfl rfl)
  ·rintro k2 hk2 hx2
   refine a_seq (ar (.cons (o_int rfl rfl rfl)<|.nil _) ?_)
   refine a_seq ?_
   refine a_cond _ rfl (fun c=>absurd (of_decide_eq_true c) (Int.not_lt.2 hk2)) (fun _=>?_)
   refine a_exit ?_
   exact ⟨a3,hK4,(Imp.sh (fun i=>i) rfl rfl rfl rfl rfl rfl)⟩
 ·rintro a1 hM
  replace hM : frame_update_K1 a1 = some r:=hM
  unfold frame_update_K1 at hM
  refine a_seq (ar (.cons (o_move rfl)<|.cons (o_assign rfl)<|.nil _) ?_)
  obtain rfl:=Option.some.inj hM
  exact a_ret (a_post (.r1 (.tmp rfl)) (DLe.refl _) PostOk.nil.spec)
def frame_checksum (x0 : List Int) (x1 : List Int) : Option Int :=
 (frame_update 4294967295 x0).bind fun v2=>
 (frame_update v2 x1).bind fun v4=>
 some (bitI .xor .u32 (if IntKind.signed .u32 = true then -1 else IntKind.max .u32) v4)
theorem frame_checksum_c {x0 : List Int} {x1 : List Int} {r : Int} (hM : frame_checksum x0 x1 = some r) : PCall Tryz.prog 36 [.sl 1 (List.map (DV.int .u8) x0),.sl 1 (List.map (DV.int .u8) x1)] (.int .u32 r):=by
 unfold frame_checksum at hM
 refine PCall.body Tryz.func36 Tryz.ntmps36 rfl rfl rfl rfl ?_
 refine a_seq (ar (.cons (o_assign rfl)<|.nil _) ?_)
 refine a_seq ?_
 obtain ⟨v2,h1,hM⟩ := of_bind hM
 obtain ⟨v4,h3,hM⟩ := of_bind hM
 refine ar (.cons (o_move rfl)<|.cons (o_call (frame_update_c h1) rfl (DLeL.refl _) rfl)<|.cons (o_move rfl)<|.cons (o_call (frame_update_c h3) rfl (DLeL.refl _) rfl)<|.cons (o_xor rfl)<|.cons (o_assign rfl)<|.nil _) ?_
 obtain rfl:=Option.some.inj hM
 exact a_ret (a_post (.r1 (.tmp rfl)) (DLe.refl _) PostOk.nil.spec)
def frame_stands (x0 : List Int) : Option (Int × Bool) :=
 (gb (!(decide ((List.length x0 : Int) < 8))) 0 (idx x0 0)).bind fun v2=>
 (gb (!((decide ((List.length x0 : Int) < 8)) || (v2 != 165))) 0 (idx x0 1)).bind fun v4=>
 if (((decide ((List.length x0 : Int) < 8)) || (v2 != 165)) || (v4 != 90)) = true then
  some (0,false)
 else
  (idx x0 2).bind fun v7=>
  (idx x0 3).bind fun v9=>
  if ((decide (4000 < (bitI .or .i64 (IntKind.wrap .i64 v7) (IntKind.wrap .i64 ((IntKind.wrap .i64 v9) * 2 ^ min (Int.toNat 8) (IntKind.bits .i64)))))) || (decide ((IntKind.wrap .i64 ((List.length x0 : Int) - 8)) < (bitI .or .i64 (IntKind.wrap .i64 v7) (IntKind.wrap .i64 ((IntKind.wrap .i64 v9) * 2 ^ min (Int.toNat 8) (IntKind.bits .i64))))))) = true then
   some (0,false)
  else
   (idx x0 4).bind fun v12=>
   (idx x0 5).bind fun v14=>
   (idx x0 6).bind fun v16=>
   (idx x0 7).bind fun v18=>
   chk (slOk (List.length x0) 2 4)<|
   chk (slOk (List.length x0) 8 (IntKind.wrap .i64 (8 + (bitI .or .i64 (IntKind.wrap .i64 v7) (IntKind.wrap .i64 ((IntKind.wrap .i64 v9) * 2 ^ min (Int.toNat 8) (IntKind.bits .i64)))))))<|
   (frame_checksum (slc x0 2 4) (slc x0 8 (IntKind.wrap .i64 (8 + (bitI .or .i64 (IntKind.wrap .i64 v7) (IntKind.wrap .i64 ((IntKind.wrap .i64 v9) * 2 ^ min (Int.toNat 8) (IntKind.bits .i64)))))))).bind fun v22=>
   if ((bitI .or .u32 (bitI .or .u32 (bitI .or .u32 (IntKind.wrap .u32 v12) (IntKind.wrap .u32 ((IntKind.wrap .u32 v14) * 2 ^ min (Int.toNat 8) (IntKind.bits .u32)))) (IntKind.wrap .u32 ((IntKind.wrap .u32 v16) * 2 ^ min (Int.toNat 16) (IntKind.bits .u32)))) (IntKind.wrap .u32 ((IntKind.wrap .u32 v18) * 2 ^ min (Int.toNat 24) (IntKind.bits .u32)))) != v22) = true then
    some (0,false)
   else
    some ((IntKind.wrap .i64 (8 + (bitI .or .i64 (IntKind.wrap .i64 v7) (IntKind.wrap .i64 ((IntKind.wrap .i64 v9) * 2 ^ min (Int.toNat 8) (IntKind.bits .i64)))))),true)
theorem frame_stands_c {x0 : List Int} {r : Int × Bool} (hM : frame_stands x0 = some r) : PCall Tryz.prog 116 [.sl 1 (List.map (DV.int .u8) x0)] (.tup [.int .i64 r.1,.bool r.2]):=by
 unfold frame_stands at hM
 refine PCall.body Tryz.func116 Tryz.ntmps116 rfl rfl rfl rfl ?_
 refine a_seq (ar (.cons (o_assign rfl)<|.cons (o_assign rfl)<|.nil _) ?_)
 refine a_seq (a_seq ?_)
 obtain ⟨v2,h1,hM⟩ := of_bind hM
 obtain ⟨v4,h3,hM⟩ := of_bind hM
 refine ar (.cons (o_move rfl)<|.cons (t_len rfl)<|.cons (o_int rfl rfl rfl)<|.cons (o_move rfl)<|.cons (o_guardG .bF rfl rfl (fun hb=>(.keep .nil)) (fun hb=>o_move rfl))<|.cons (o_guardG .bF rfl rfl (fun hb=>(.strip rfl hb .nil)) (fun hb=>t_index (of_gb h1 hb) rfl rfl rfl))<|.cons (o_guardG .bF rfl rfl (fun hb=>(.strip rfl hb .nil)) (fun hb=>o_load_es rfl rfl))<|.cons (o_guardG .bF rfl rfl (fun hb=>(.strip rfl hb .nil)) (fun hb=>o_int rfl rfl rfl))<|.cons (o_or rfl rfl)<|.cons (o_move rfl)<|.cons (o_guardG .bF rfl rfl (fun hb=>(.keep .nil)) (fun hb=>o_move rfl))<|.cons (o_guardG .bF rfl rfl (fun hb=>(.strip rfl hb .nil)) (fun hb=>t_index (of_gb h3 hb) rfl rfl rfl))<|.cons (o_guardG .bF rfl rfl (fun hb=>(.strip rfl hb .nil)) (fun hb=>o_load_es rfl rfl))<|.cons (o_guardG .bF rfl rfl (fun hb=>(.strip rfl hb .nil)) (fun hb=>o_int rfl rfl rfl))<|.cons (o_or rfl rfl)<|.nil _) ?_
 refine a_cond _ rfl (fun h5=>?_) (fun h5=>?_)
 ·replace hM:=(of_if hM).1 h5
  refine a_seq (ar (.cons (o_assign rfl)<|.cons (o_assign rfl)<|.nil _) ?_)
  obtain rfl:=Option.some.inj hM
  exact a_ret (a_post (.r2 (.tmp rfl) (.tmp rfl)) (DLe.refl _) PostOk.nil.spec)
 ·replace hM:=(of_if hM).2 h5
  refine a_skip (a_seq ?_)
  obtain ⟨v7,h6,hM⟩ := of_bind hM
  obtain ⟨v9,h8,hM⟩ := of_bind hM
  refine ad mixed (.cons (o_move rfl)<|.cons (t_index h6 rfl rfl rfl)<|.cons (o_load_es rfl rfl)<|.cons (o_conv_w rfl)<|.cons (o_move rfl)<|.cons (t_index h8 rfl rfl rfl)<|.cons (o_load_es rfl rfl)<|.cons (o_conv_w rfl)<|.cons (o_shl rfl rfl (by decide))<|.cons (o_int rfl rfl rfl)<|.cons (o_assign rfl)<|.nil _) ?_
  refine a_seq (a_seq (ar (.cons (o_move rfl)<|.cons (o_int rfl rfl rfl)<|.cons (o_move rfl)<|.cons (o_guardG .bF rfl rfl (fun hb=>(.keep .nil)) (fun hb=>o_move rfl))<|.cons (o_guardG .bF rfl rfl (fun hb=>(.keep .nil)) (fun hb=>o_move rfl))<|.cons (o_guardG .bF rfl rfl (fun hb=>(.strip rfl hb .nil)) (fun hb=>t_len rfl))<|.cons (o_guardG .bF rfl rfl (fun hb=>(.strip rfl hb .nil)) (fun hb=>o_int rfl rfl rfl))<|.cons (o_guardG .bF rfl rfl (fun hb=>(.strip rfl hb (.strip rfl hb .nil))) (fun hb=>o_int rfl rfl rfl))<|.cons (o_or rfl rfl)<|.nil _) ?_))
  refine a_cond _ rfl (fun h10=>?_) (fun h10=>?_)
  ·replace hM:=(of_if hM).1 h10
   refine a_seq (ar (.cons (o_assign rfl)<|.cons (o_assign rfl)<|.nil _) ?_)
   obtain rfl:=Option.some.inj hM
   exact a_ret (a_post (.r2 (.tmp rfl) (.tmp rfl)) (DLe.refl _) PostOk.nil.spec)
  ·replace hM:=(of_if hM).2 h10
   refine a_skip (a_seq ?_)
   obtain ⟨v12,h11,hM⟩ := of_bind hM
   obtain ⟨v14,h13,hM⟩ := of_bind hM
   obtain ⟨v16,h15,hM⟩ := of_bind hM
   obtain ⟨v18,h17,hM⟩ := of_bind hM
   refine ad mixed (.cons (o_move rfl)<|.cons (t_index h11 rfl rfl rfl)<|.cons (o_load_es rfl rfl)<|.cons (o_conv_w rfl)<|.cons (o_move rfl)<|.cons (t_index h13 rfl rfl rfl)<|.cons (o_load_es rfl rfl)<|.cons (o_conv_w rfl)<|.cons (o_shl rfl rfl (by decide))<|.cons (o_int rfl rfl rfl)<|.cons (o_move rfl)<|.cons (t_index h15 rfl rfl rfl)<|.cons (o_load_es rfl rfl)<|.cons (o_conv_w rfl)<|.cons (o_shl rfl rfl (by decide))<|.cons (o_int rfl rfl rfl)<|.cons (o_move rfl)<|.cons (t_index h17 rfl rfl rfl)<|.cons (o_load_es rfl rfl)<|.cons (o_conv_w rfl)<|.cons (o_shl rfl rfl (by decide))<|.cons (o_int rfl rfl rfl)<|.cons (o_assign rfl)<|.nil _) ?_
   refine a_seq (a_seq ?_)
   obtain ⟨h19,hM⟩ := of_chk hM
   obtain ⟨h20,hM⟩ := of_chk hM
   obtain ⟨v22,h21,hM⟩ := of_bind hM
   refine ad mixed (.cons (o_move rfl)<|.cons (o_move rfl)<|.cons (t_slice h19 rfl rfl rfl)<|.cons (o_move rfl)<|.cons (o_move rfl)<|.cons (o_int rfl rfl rfl)<|.cons (t_slice h20 rfl rfl rfl)<|.cons (o_call (frame_checksum_c h21) rfl (DLeL.refl _) rfl)<|.cons (o_int rfl rfl rfl)<|.nil _) ?_
   refine a_cond _ rfl (fun h23=>?_) (fun h23=>?_)
   ·replace hM:=(of_if hM).1 h23
    refine a_seq (ar (.cons (o_assign rfl)<|.cons (o_assign rfl)<|.nil _) ?_)
    obtain rfl:=Option.some.inj hM
    exact a_ret (a_post (.r2 (.tmp rfl) (.tmp rfl)) (DLe.refl _) PostOk.nil.spec)
   ·replace hM:=(of_if hM).2 h23
    refine a_skip (a_seq (ar (.cons (o_move rfl)<|.cons (o_int rfl rfl rfl)<|.cons (o_assign rfl)<|.cons (o_assign rfl)<|.nil _) ?_))
    obtain rfl:=Option.some.inj hM
    exact a_ret (a_post (.r2 (.tmp rfl) (.tmp rfl)) (DLe.refl _) PostOk.nil.spec)
def frame_Append (x0 : List Int) (x1 : List Int) : Option ((List Int) × Int) :=
 if (decide (4000 < (List.length x1 : Int))) = true then
  some (([] : List Int),3)
 else
  (frame_checksum [(IntKind.wrap .u8 (List.length x1 : Int)),(IntKind.wrap .u8 (Int.fdiv (List.length x1 : Int) (2 ^ min (Int.toNat 8) (IntKind.bits .i64))))] x1).bind fun v3=>
  chk (mkOk 1 0 (IntKind.wrap .i64 ((IntKind.wrap .i64 ((List.length x0 : Int) + 8)) + (List.length x1 : Int))))<|
  chk (apOk 1 (List.length ([] : List Int) + List.length x0))<|
  (idx [(IntKind.wrap .u8 (List.length x1 : Int)),(IntKind.wrap .u8 (Int.fdiv (List.length x1 : Int) (2 ^ min (Int.toNat 8) (IntKind.bits .i64))))] 0).bind fun v7=>
  (idx [(IntKind.wrap .u8 (List.length x1 : Int)),(IntKind.wrap .u8 (Int.fdiv (List.length x1 : Int) (2 ^ min (Int.toNat 8) (IntKind.bits .i64))))] 1).bind fun v9=>
  chk (apOk 1 (List.length (([] : List Int)++x0) + List.length [165,90,v7,v9]))<|
  chk (apOk 1 (List.length ((([] : List Int)++x0)++[165,90,v7,v9]) + List.length [(IntKind.wrap .u8 v3),(IntKind.wrap .u8 (Int.fdiv v3 (2 ^ min (Int.toNat 8) (IntKind.bits .u32)))),(IntKind.wrap .u8 (Int.fdiv v3 (2 ^ min (Int.toNat 16) (IntKind.bits .u32)))),(IntKind.wrap .u8 (Int.fdiv v3 (2 ^ min (Int.toNat 24) (IntKind.bits .u32))))]))<|
  chk (apOk 1 (List.length (((([] : List Int)++x0)++[165,90,v7,v9])++[(IntKind.wrap .u8 v3),(IntKind.wrap .u8 (Int.fdiv v3 (2 ^ min (Int.toNat 8) (IntKind.bits .u32)))),(IntKind.wrap .u8 (Int.fdiv v3 (2 ^ min (Int.toNat 16) (IntKind.bits .u32)))),(IntKind.wrap .u8 (Int.fdiv v3 (2 ^ min (Int.toNat 24) (IntKind.bits .u32))))]) + List.length x1))<|
  some (((((([] : List Int)++x0)++[165,90,v7,v9])++[(IntKind.wrap .u8 v3),(IntKind.wrap .u8 (Int.fdiv v3 (2 ^ min (Int.toNat 8) (IntKind.bits .u32)))),(IntKind.wrap .u8 (Int.fdiv v3 (2 ^ min (Int.toNat 16) (IntKind.bits .u32)))),(IntKind.wrap .u8 (Int.fdiv v3 (2 ^ min (Int.toNat 24) (IntKind.bits .u32))))])++x1),0)
theorem frame_Append_c {x0 : List Int} {x1 : List Int} {r : (List Int) × Int} (hM : frame_Append x0 x1 = some r) : ACall Tryz.prog 13 ⟨[.sl 1 (List.map (DV.int .u8) x0),.sl 1 (List.map (DV.int .u8) x1)],[],.tup [.row 50000,.int .i64 r.2],[(50000,some (.row 5 1 (List.map (DV.int .u8) r.1)))],[50000]⟩ := by
 unfold frame_Append at hM
 refine ACall.body Tryz.func13 Tryz.ntmps13 rfl rfl rfl rfl ?_
 refine a_seq (ar (.cons (o_assign rfl)<|.cons (o_assign rfl)<|.nil _) ?_)
 refine a_seq (a_seq (ar (.cons (o_move rfl)<|.cons (t_len rfl)<|.cons (o_int rfl rfl rfl)<|.nil _) ?_))
 refine a_cond _ rfl (fun h1=>?_) (fun h1=>?_)
 ·replace hM:=(of_if hM).1 h1
  refine a_seq (ar (.cons (o_assign rfl)<|.cons (o_assign rfl)<|.nil _) ?_)
  obtain rfl:=Option.some.inj hM
  refine a_imp (Imp.nilRow (t:=4) (id:=49004) 5 1 rfl rfl) ?_
  refine a_imp (σ' := ⟨[(4,.row 50000),(5,.int .i64 3)],[(50000,some (.row 5 1 (List.map (DV.int .u8) ([] : List Int))))],[50000]⟩) (Imp.sh (fun i=>bif Nat.beq i 50000 then 49004 else i) rfl rfl rfl rfl rfl rfl) ?_
  exact a_ret (a_post (.r2 (.tmp rfl) (.tmp rfl)) (DLe.refl _) (PostOk.spec (.cons rfl .nil)))
 ·replace hM:=(of_if hM).2 h1
  refine a_skip (a_seq (ar (.cons (o_move rfl)<|.cons (t_len rfl)<|.cons (o_conv_w rfl)<|.cons (o_move rfl)<|.cons (t_len rfl)<|.cons (o_shr rfl rfl (by decide))<|.cons (o_conv_w rfl)<|.cons (t_build (DV.int .u8) ([(IntKind.wrap .u8 (List.length x1 : Int)),(IntKind.wrap .u8 (Int.fdiv (List.length x1 : Int) (2 ^ min (Int.toNat 8) (IntKind.bits .i64))))] : List Int) rfl rfl rfl rfl rfl rfl rfl)<|.cons (o_assign rfl)<|.nil _) ?_))
  refine a_seq (a_imp (Imp.freeze (id:=19) rfl) ?_)
  obtain ⟨v3,h2,hM⟩ := of_bind hM
  refine ar (.cons (o_move rfl)<|.cons (o_move rfl)<|.cons (o_call (frame_checksum_c h2) rfl (DLeL.refl _) rfl)<|.cons (o_assign rfl)<|.nil _) ?_
  refine a_seq ?_
  obtain ⟨h4,hM⟩ := of_chk hM
  refine ar (.cons (o_move rfl)<|.cons (t_len rfl)<|.cons (o_int rfl rfl rfl)<|.cons (o_move rfl)<|.cons (t_len rfl)<|.cons (o_int rfl rfl rfl)<|.cons (t_make (DV.int .u8) 0 h4 rfl rfl rfl rfl)<|.cons (o_assign rfl)<|.nil _) ?_
  refine a_seq ?_
  obtain ⟨h5,hM⟩ := of_chk hM
  obtain ⟨v7,h6,hM⟩ := of_bind hM
  obtain ⟨v9,h8,hM⟩ := of_bind hM
  obtain ⟨h10,hM⟩ := of_chk hM
  refine ad mixed (.cons (o_move rfl)<|.cons (o_move rfl)<|.cons (t_append x0 h5 rfl rfl rfl Src.sl)<|.cons (o_move rfl)<|.cons (t_index h6 rfl rfl rfl)<|.cons (o_load_es rfl rfl)<|.cons (o_move rfl)<|.cons (t_index h8 rfl rfl rfl)<|.cons (o_load_es rfl rfl)<|.cons (t_build (DV.int .u8) ([165,90,v7,v9] : List Int) rfl rfl rfl rfl rfl rfl rfl)<|.cons (t_append [165,90,v7,v9] h10 rfl rfl rfl (Src.row rfl))<|.cons (o_assign rfl)<|.nil _) ?_
  refine a_seq ?_
  obtain ⟨h11,hM⟩ := of_chk hM
  refine ar (.cons (o_move rfl)<|.cons (o_move rfl)<|.cons (o_conv_w rfl)<|.cons (o_move rfl)<|.cons (o_shr rfl rfl (by decide))<|.cons (o_conv_w rfl)<|.cons (o_move rfl)<|.cons (o_shr rfl rfl (by decide))<|.cons (o_conv_w rfl)<|.cons (o_move rfl)<|.cons (o_shr rfl rfl (by decide))<|.cons (o_conv_w rfl)<|.cons (t_build (DV.int .u8) ([(IntKind.wrap .u8 v3),(IntKind.wrap .u8 (Int.fdiv v3 (2 ^ min (Int.toNat 8) (IntKind.bits .u32)))),(IntKind.wrap .u8 (Int.fdiv v3 (2 ^ min (Int.toNat 16) (IntKind.bits .u32)))),(IntKind.wrap .u8 (Int.fdiv v3 (2 ^ min (Int.toNat 24) (IntKind.bits .u32))))] : List Int) rfl rfl rfl rfl rfl rfl rfl)<|.cons (t_append [(IntKind.wrap .u8 v3),(IntKind.wrap .u8 (Int.fdiv v3 (2 ^ min (Int.toNat 8) (IntKind.bits .u32)))),(IntKind.wrap .u8 (Int.fdiv v3 (2 ^ min (Int.toNat 16) (IntKind.bits .u32)))),(IntKind.wrap .u8 (Int.fdiv v3 (2 ^ min (Int.toNat 24) (IntKind.bits .u32))))] h11 rfl rfl rfl (Src.row rfl))<|.cons (o_assign rfl)<|.nil _) ?_
  refine a_seq ?_
  obtain ⟨h12,hM⟩ := of_chk hM
  refine ar (.cons (o_move rfl)<|.cons (o_move rfl)<|.cons (t_append x1 h12 rfl rfl rfl Src.sl)<|.cons (o_assign rfl)<|.cons (o_assign rfl)<|.nil _) ?_
  obtain rfl:=Option.some.inj hM
  refine a_imp (σ' := ⟨[(4,.row 50000),(5,.int .i64 0)],[(50000,some (.row 5 1 (List.map (DV.int .u8) ((((([] : List Int)++x0)++[165,90,v7,v9])++[(IntKind.wrap .u8 v3),(IntKind.wrap .u8 (Int.fdiv v3 (2 ^ min (Int.toNat 8) (IntKind.bits .u32)))),(IntKind.wrap .u8 (Int.fdiv v3 (2 ^ min (Int.toNat 16) (IntKind.bits .u32)))),(IntKind.wrap .u8 (Int.fdiv v3 (2 ^ min (Int.toNat 24) (IntKind.bits .u32))))])++x1))))],[50000]⟩) (Imp.sh (fun i=>bif Nat.beq i 50000 then 57 else i) rfl rfl rfl rfl rfl rfl) ?_
  exact a_ret (a_post (.r2 (.tmp rfl) (.tmp rfl)) (DLe.refl _) (PostOk.spec (.cons rfl .nil)))
set_option maxHeartbeats 1000000
theorem j_cut {P : Program} {J : Nat→FMap→World→Prop} {n : Nat} {Q : Exit→Nat→AS→Prop} {σ : AS} {k : Nat} {c d : Code} {α : Type} (S : α→AS) (I : α→Prop) (h : awp P n c (QCut S I (fun e σ=>Q e k σ)) σ) (hk : ∀ x,I x→awpJ P J n d Q k (S x)) : awpJ P J n (.seq c d) Q k σ :=
 j_seq (j_of (a_mono h fun e σ' hq=>by
  cases e with
  | normal=>obtain ⟨x',i1,i2⟩ := hq; exact j_imp i2 (hk x' i1)
  | exit id=>exact hq
  | goto l=>exact hq
  | ret=>exact hq
  | panic c=>exact hq
  | outgrown=>exact hq))
theorem j_cutJ {P : Program} {J : Nat→FMap→World→Prop} {n : Nat} {Q : Exit→Nat→AS→Prop} {σ : AS} {k : Nat} {c d : Code} (S : AS) (k' : Nat) (h : awpJ P J n c (fun e m σ'=>e = .normal∧m = k'∧Imp σ' S) k σ) (hd : awpJ P J n d Q k' S) : awpJ P J n (.seq c d) Q k σ :=
 j_seq (fun w0 F0 F γ a w hJ hs=>wpIn_mono (h w0 F0 F γ a w hJ hs) fun e a' w' ⟨w1,F1,F',γ',m,σ',j1,j2,h1,h2,h3,h4⟩=>by
  subst h2 h3
  obtain ⟨F2,γ2,s2⟩ := h4 _ F' γ' a' w' h1
  exact ⟨w1,F1,F2,γ2,m,S,j1,j2,s2,hd⟩)
inductive SubE (e : List (Nat × DV)) : List (Nat × DV)→Prop
 | nil : SubE e []
 | cons {t : Nat} {d : DV} {r : List (Nat × DV)} (h : look e t = some d) (hi : d.ids = []) (k : SubE e r) : SubE e ((t,d) :: r)
theorem SubE.spec {e r : List (Nat × DV)} (k : SubE e r) : ∀ t d,look r t = some d→look e t = some d∧d.ids = []:=by
 induction k with
 | nil=>intro t d h; cases h
 | cons h hi k ih=>
  intro t d hl
  rw [look_cons] at hl
  split at hl
  ·rename_i e1; subst e1; injection hl with hl; subst hl; exact ⟨h,hi⟩
  ·exact ih t d hl
def scanL (p : List Int) (s : Int × Int × Bool) : Option (Ctl (Int × Int × Bool) (Int × Int × Bool)) :=
 if (decide (s.1 < (List.length p : Int))) = true then
  chk (slOk (List.length p) s.1 (List.length p))<|
  (frame_stands (List.drop (Int.toNat s.1) p)).bind fun r=>
  if r.2 = true then some (.done (s.1,r.1,r.2)) else some (.next (IntKind.wrap .i64 (s.1 + 1),r.1,r.2))
 else some (.done s)
def scanM (p : List Int) : Nat→Int→Option (List frame_Part)
 | 0,_=>none
 | fu + 1,off=>
  if (decide (off < (List.length p : Int))) = true then
   (whileM (E:=Int × Int × Bool) (scanL p) (off,0,false)).bind fun e=>
   if e.2.2 = true then
    chk (slOk (List.length p) (IntKind.wrap .i64 (e.1 + 8)) (IntKind.wrap .i64 (e.1 + e.2.1)))<|
    chk (apOk 1 (List.length ([] : List Int) + List.length (slc p (IntKind.wrap .i64 (e.1 + 8)) (IntKind.wrap .i64 (e.1 + e.2.1)))))<|
    (scanM p fu (IntKind.wrap .i64 (e.1 + e.2.1))).bind fun rest=>
    some ((if (decide (off < e.1)) = true then [⟨off,IntKind.wrap .i64 (e.1 - off),[],false⟩] else [])++⟨e.1,e.2.1,([] : List Int)++slc p (IntKind.wrap .i64 (e.1 + 8)) (IntKind.wrap .i64 (e.1 + e.2.1)),true⟩ :: rest)
   else some (if (decide (off < e.1)) = true then [⟨off,IntKind.wrap .i64 (e.1 - off),[],false⟩] else [])
  else some []
theorem wanted_guard {ops : Array Oper} {o : Oper} {g gt : Nat} {n : Nat} {σ : AS} (hg : o.guard = some (g,true)) (hgo : (ops[g]?).bind (·.dst) = some gt) (hb : look σ.env gt = some (.bool true)) :
  ∀ w0 F0 F γ a w,Sat (bare w0 F0 n) F γ σ a w→Region.wanted o (yielded ops a.tmps) = true:=by
 intro w0 F0 F γ a w hs
 have hsl:=(hs.env gt _ hb).2
 have hlt:=(hs.env gt _ hb).1
 simp only [Rs] at hsl
 have hy : yielded ops a.tmps g = some true:=by
  unfold yielded
  rw [hgo]
  have hsz : gt < a.tmps.size:=by rw [hs.size]; exact hlt
  simp only [Option.bind_some]
  rw [Array.getElem?_eq_getElem hsz]
  have : a.tmps[gt] = .bool true:=by simpa [Array.getD,hsz] using hsl
  rw [this]
 simp [Region.wanted,hg,hy]
abbrev yv (l : Nat) : DV:=.val (.func (.yield l) #[] #[])
theorem part_none {F : FMap} {γ : Gam} {a b : Int} {v : Value} (h : Rs F γ (.ifb true (.agg [.int .i64 a,.int .i64 b,.nils,.bool false])) v) : Rs F Gam.no (frame_Part.dv ⟨a,b,[],false⟩) v:=by
 simp only [Rs] at h
 have h:=h.1 trivial
 have k : Rs F γ (.agg [.int .i64 a,.int .i64 b,.nils,.bool false]) v:=by simp only [Rs]; exact h
 exact Rs_ids _ _ (by intro i hi; cases hi) (DLe.agg (.cons (DLe.refl _) (.cons (DLe.refl _) (.cons (DLe.nils 1) (.cons (DLe.refl _) .nil)))) F γ v k)
theorem data_of {F : FMap} {γ : Gam} {d : DV} {v : Value} (h : Rs F γ d v) (hi : d.ids = []) : Rs F Gam.no d v:=Rs_ids _ _ (by rw [hi]; intro i hi; cases hi) h
theorem scan_J {J : Nat→FMap→World→Prop} (JO : JOk J) {l : Nat} {p : List Int} {parts : List frame_Part} (Y : Ylds Tryz.prog l J (parts.map frame_Part.dv)) {fu : Nat} (hM : scanM p fu 0 = some parts) {c : Code} (hc : Tryz.f86.body = some c) :
  awpJ Tryz.prog J 60 c (fun e m _=>(e = .normal∨e = .ret)∧m = (parts.map frame_Part.dv).length) 0 ⟨params 0 [.sl 1 (List.map (DV.int .u8) p),yv l],[],[]⟩ := by
 injection hc with hc
 subst hc
 refine j_seq (j_of (a_region (.cons (o_assign rfl)<|.nil _) (by kernel_rfl) (by kernel_rfl) ?_))
 refine j_block ?_
 refine j_loop (fun x : Nat × Int × List frame_Part=>⟨[(0,.sl 1 (List.map (DV.int .u8) p)),(1,yv l),(4,.int .i64 x.2.1)],[],[]⟩)
  (fun k x=>scanM p x.1 x.2.1 = some x.2.2∧parts.drop k = x.2.2∧k + x.2.2.length = parts.length) (fun x=>x.1) (fu,0,parts) (Imp.of (fun i=>i) (.cons rfl (DLe.refl _) (.cons rfl (DLe.refl _) (.cons rfl (DLe.refl _) .nil))) .nil rfl rfl rfl) ⟨hM,rfl,by simp⟩ ?_
 rintro k ⟨fu,off,rest⟩ ⟨hM,hdrop,hlen⟩
 dsimp only at hM hdrop hlen ⊢
 cases fu with
 | zero=>cases hM
 | succ fu=>
 unfold scanM at hM
 refine j_seq ?_
 refine j_seq (j_of (a_region (.cons (o_move rfl)<|.cons (o_move rfl)<|.cons (t_len rfl)<|.cons (o_int rfl rfl rfl)<|.nil _) (by kernel_rfl) (by kernel_rfl) ?_))
 refine j_cond _ rfl (fun hb=>?_) (fun hb=>?_)
 ·replace hM:=(of_if hM).1 hb
  obtain ⟨e,hL,hM⟩ := of_bind hM
  refine j_of (a_skip ?_)
  refine j_block ?_
  refine j_seq (j_of (a_region (.cons (o_move rfl)<|.cons (o_assign rfl)<|.cons (o_assign rfl)<|.cons (o_assign rfl)<|.nil _) (by kernel_rfl) (by kernel_rfl) ?_))
  refine j_cut (α:=Unit) (fun _=>⟨[(0,.sl 1 (List.map (DV.int .u8) p)),(1,yv l),(4,.int .i64 off),(5,.int .i64 e.1),(6,.int .i64 e.2.1),(7,.bool e.2.2)],[],[]⟩) (fun _=>True) ?_ ?_
  ·refine a_block ?_
   refine a_while (fun s=>⟨[(0,.sl 1 (List.map (DV.int .u8) p)),(1,yv l),(4,.int .i64 off),(5,.int .i64 s.1),(6,.int .i64 s.2.1),(7,.bool s.2.2)],[],[]⟩) _ hL (Imp.of (fun i=>i) (.cons rfl (DLe.refl _) (.cons rfl (DLe.refl _) (.cons rfl (DLe.refl _) (.cons rfl (DLe.refl _) (.cons rfl (DLe.refl _) (.cons rfl (DLe.refl _) .nil)))))) .nil rfl rfl rfl) ?_
   rintro ⟨nx,ln,gd⟩ tb hM hE
   unfold scanL at hM
   dsimp only at hM ⊢
   refine a_seq ?_
   refine a_seq ?_
   refine a_region (.cons (o_move rfl)<|.cons (o_move rfl)<|.cons (t_len rfl)<|.cons (o_int rfl rfl rfl)<|.nil _) (by kernel_rfl) (by kernel_rfl) ?_
   refine a_cond _ rfl (fun hb2=>?_) (fun hb2=>?_)
   ·replace hM:=(of_if hM).1 hb2
    obtain ⟨hs,hM⟩ := of_chk hM
    obtain ⟨r,hr,hM⟩ := of_bind hM
    refine a_skip ?_
    refine a_block ?_
    refine a_seq ?_
    refine a_seq ?_
    refine a_region (.cons (o_move rfl)<|.cons (o_move rfl)<|.cons (t_slice_l hs rfl rfl)<|.cons (o_call (frame_stands_c hr) rfl (DLeL.refl _) rfl)<|.cons (o_move rfl)<|.cons (o_extract rfl rfl)<|.cons (o_extract rfl rfl)<|.cons (o_assign rfl)<|.cons (o_assign rfl)<|.nil _) (by kernel_rfl) (by kernel_rfl) ?_
    refine a_seq ?_
    refine a_region (.cons (o_move rfl)<|.nil _) (by kernel_rfl) (by kernel_rfl) ?_
    refine a_cond _ rfl (fun hb3=>?_) (fun hb3=>?_)
    ·replace hM:=(of_if hM).1 hb3
     obtain rfl:=Option.some.inj hM
     obtain rfl:=hE _ rfl
     refine a_exit ?_
     exact ⟨(),trivial,Imp.of (fun i=>i) (.cons rfl (DLe.refl _) (.cons rfl (DLe.refl _) (.cons rfl (DLe.refl _) (.cons rfl (DLe.refl _) (.cons rfl (DLe.refl _) (.cons rfl (DLe.refl _) .nil)))))) .nil rfl rfl rfl⟩
    ·replace hM:=(of_if hM).2 hb3
     obtain rfl:=Option.some.inj hM
     refine a_skip ?_
     refine a_region (.cons (o_move rfl)<|.cons (o_int rfl rfl rfl)<|.cons (o_assign rfl)<|.nil _) (by kernel_rfl) (by kernel_rfl) ?_
     exact ⟨(_,_,_),rfl,Imp.of (fun i=>i) (.cons rfl (DLe.refl _) (.cons rfl (DLe.refl _) (.cons rfl (DLe.refl _) (.cons rfl (DLe.refl _) (.cons rfl (DLe.refl _) (.cons rfl (DLe.refl _) .nil)))))) .nil rfl rfl rfl⟩
   ·replace hM:=(of_if hM).2 hb2
    obtain rfl:=Option.some.inj hM
    obtain rfl:=hE _ rfl
    refine a_exit ?_
    exact ⟨(),trivial,Imp.of (fun i=>i) (.cons rfl (DLe.refl _) (.cons rfl (DLe.refl _) (.cons rfl (DLe.refl _) (.cons rfl (DLe.refl _) (.cons rfl (DLe.refl _) (.cons rfl (DLe.refl _) .nil)))))) .nil rfl rfl rfl⟩
  ·rintro _ -
   obtain ⟨nx,ln,gd⟩ := e
   dsimp only at hM ⊢
   -- the first part
   obtain ⟨pre,hpre⟩ : ∃ pre : List frame_Part,(if (decide (off < nx)) = true then [⟨off,IntKind.wrap .i64 (nx - off),[],false⟩] else []) = pre := ⟨_,rfl⟩
   rw [hpre] at hM
   obtain ⟨rest',hrest⟩ : ∃ rest',rest = pre++rest' := by
    split at hM
    ·obtain ⟨_,hM⟩ := of_chk hM
     obtain ⟨_,hM⟩ := of_chk hM
     obtain ⟨r2,_,hM⟩ := of_bind hM
     exact ⟨_,(Option.some.inj hM).symm⟩
    ·exact ⟨[],by rw [List.append_nil]; exact (Option.some.inj hM).symm⟩
   have hdrop1 : parts.drop (k + pre.length) = rest' := by
    rw [← List.drop_drop,hdrop,hrest,List.drop_left]
   have hlen1 : (k + pre.length) + rest'.length = parts.length:=by
    rw [hrest,List.length_append] at hlen; omega
   refine j_seq ?_
   refine j_cutJ ⟨[(40,.bool false),(0,.sl 1 (List.map (DV.int .u8) p)),(1,yv l),(4,.int .i64 off),(5,.int .i64 nx),(6,.int .i64 ln),(7,.bool gd)],[],[]⟩ (k + pre.length) ?_ ?_
   ·by_cases hb4 : decide (off < nx) = true
    ·rw [if_pos hb4] at hpre
     have hk : (parts.map frame_Part.dv)[k]? = some (frame_Part.dv ⟨off,IntKind.wrap .i64 (nx - off),[],false⟩):=by
      have : parts[k]? = some ⟨off,IntKind.wrap .i64 (nx - off),[],false⟩ := by
       have h0:=congrArg (fun l=>l[0]?) hdrop
       rw [hrest,← hpre] at h0
       simpa using h0
      rw [List.getElem?_map,this]; rfl
     refine j_region (k' := k + 1) (.cons ((o_move rfl).toJ rfl)<|.cons ((o_move rfl).toJ rfl)<|.cons ((OpG.cast (E' := ⟨[(30,.bool true)],[],[]⟩) (o_int rfl rfl rfl) (by rw [hb4])).toJ rfl)<|.cons ((o_move rfl).toJ rfl)<|
      .cons ((o_guardOn .bT rfl rfl rfl (.keep .nil) (o_move rfl)).toJ rfl)<|.cons ((o_guardOn .bT rfl rfl rfl (.keep .nil) (o_move rfl)).toJ rfl)<|.cons ((o_guardOn .bT rfl rfl rfl (.keep .nil) (o_move rfl)).toJ rfl)<|.cons ((o_guardOn .bT rfl rfl rfl (.keep .nil) (o_move rfl)).toJ rfl)<|
      .cons ((o_guardOn .bT rfl rfl rfl (.strip rfl rfl (.strip rfl rfl .nil)) (o_int rfl rfl rfl)).toJ rfl)<|.cons ((o_guardOn .bT rfl rfl rfl (.strip rfl rfl (.strip rfl rfl .nil)) (o_build rfl rfl rfl)).toJ rfl)<|
      .cons (o_yield (r:=.ifb true (.bool true)) rfl rfl (wanted_guard rfl rfl rfl) rfl (fun F γ v h=>by simp only [Rs] at h; exact h.1 trivial) rfl (fun F γ v h=>part_none h) JO Y hk
       [(31,.bool true),(0,.sl 1 (List.map (DV.int .u8) p)),(1,yv l),(4,.int .i64 off),(5,.int .i64 nx),(6,.int .i64 ln),(7,.bool gd)] (SubE.spec (.cons rfl rfl (.cons rfl rfl (.cons rfl rfl (.cons rfl rfl (.cons rfl rfl (.cons rfl rfl (.cons rfl rfl .nil)))))))) (fun F γ=>by simp only [Rs]; exact ⟨fun _=>trivial,fun h=>by cases h⟩))<|
      .cons ((o_guardOn .bT rfl rfl rfl (.strip rfl rfl .nil) (o_not rfl)).toJ rfl)<|.cons ((o_and rfl rfl).toJ rfl)<|.nil _ _) (by kernel_rfl) ?_
     refine ⟨rfl,by rw [← hpre]; rfl,?_⟩
     exact (Imp.of (fun i=>i) (.cons rfl (DLe.refl _) (.cons rfl (DLe.refl _) (.cons rfl (DLe.refl _) (.cons rfl (DLe.refl _) (.cons rfl (DLe.refl _) (.cons rfl (DLe.refl _) (.cons rfl (DLe.refl _) .nil))))))) .nil rfl rfl rfl)
    ·rw [if_neg hb4] at hpre
     have hb5 : decide (off < nx) = false:=Bool.eq_false_iff.2 hb4
     refine j_of (a_region (.cons (o_move rfl)<|.cons (o_move rfl)<|.cons (OpG.cast (E' := ⟨[(30,.bool false)],[],[]⟩) (o_int rfl rfl rfl) (by rw [hb5]))<|.cons (o_move rfl)<|
      .cons (o_guardOff .nils .bT rfl rfl rfl)<|.cons (o_guardOff .nils .bT rfl rfl rfl)<|.cons (o_guardOff .nils .bT rfl rfl rfl)<|.cons (o_guardOff .nils .bT rfl rfl rfl)<|.cons (o_guardOff .nils .bT rfl rfl rfl)<|.cons (o_guardOff .nils .bT rfl rfl rfl)<|.cons (o_guardOff .nils .bT rfl rfl rfl)<|
      .cons (o_guardOff (.bool false) .bT rfl rfl rfl)<|.cons (o_and rfl rfl)<|.nil _) (by kernel_rfl) (by kernel_rfl) ?_)
     refine ⟨rfl,by rw [← hpre]; rfl,?_⟩
     exact (Imp.of (fun i=>i) (.cons rfl (DLe.refl _) (.cons rfl (DLe.refl _) (.cons rfl (DLe.refl _) (.cons rfl (DLe.refl _) (.cons rfl (DLe.refl _) (.cons rfl (DLe.refl _) (.cons rfl (DLe.refl _) .nil))))))) .nil rfl rfl rfl)
   ·refine j_cond _ rfl (fun c=>by cases c) (fun _=>?_)
    refine j_of (a_skip ?_)
    refine j_seq ?_
    refine j_seq (j_of (a_region (.cons (o_move rfl)<|.cons (o_not rfl)<|.nil _) (by kernel_rfl) (by kernel_rfl) ?_))
    refine j_cond _ rfl (fun hg=>?_) (fun hg=>?_)
    ·have hg' : gd = false:=by cases gd <;> simp_all
     subst hg'
     refine j_of (a_ret ⟨.inr rfl,?_⟩)
     have : pre = rest:=Option.some.inj hM
     have h0 : rest' = []:=by
      have:=congrArg List.length (hrest.symm.trans this.symm)
      simpa using this
     rw [h0] at hlen1
     simpa using hlen1
    ·have hg' : gd = true:=by cases gd <;> simp_all
     subst hg'
     replace hM:=(of_if hM).1 rfl
     obtain ⟨hs1,hM⟩ := of_chk hM
     obtain ⟨hs2,hM⟩ := of_chk hM
     obtain ⟨r2,hr2,hM⟩ := of_bind hM
     have hr' : rest' = ⟨nx,ln,([] : List Int)++slc p (IntKind.wrap .i64 (nx + 8)) (IntKind.wrap .i64 (nx + ln)),true⟩ :: r2:=by
      have:=Option.some.inj hM
      rw [hrest] at this
      exact (List.append_cancel_left this).symm
     refine j_of (a_skip ?_)
     refine j_seq (j_of (a_region (.cons (o_move rfl)<|.cons (o_move rfl)<|.cons (o_int rfl rfl rfl)<|.cons (o_assign rfl)<|.nil _) (by kernel_rfl) (by kernel_rfl) ?_))
     refine j_seq (j_of (a_region (.cons (t_build (DV.int .u8) ([] : List Int) rfl rfl rfl rfl rfl rfl rfl)<|.cons (o_move rfl)<|.cons (o_move rfl)<|.cons (o_int rfl rfl rfl)<|.cons (o_move rfl)<|.cons (t_slice hs1 rfl rfl rfl)<|.cons (o_frz (t_append (slc p (IntKind.wrap .i64 (nx + 8)) (IntKind.wrap .i64 (nx + ln))) hs2 rfl rfl rfl Src.sl))<|.cons (o_assign rfl)<|.nil _) (by kernel_rfl) (by kernel_rfl) ?_))
     refine j_seq ?_
     have hk : (parts.map frame_Part.dv)[k + pre.length]? = some (frame_Part.dv ⟨nx,ln,([] : List Int)++slc p (IntKind.wrap .i64 (nx + 8)) (IntKind.wrap .i64 (nx + ln)),true⟩):=by
      have : parts[k + pre.length]? = some ⟨nx,ln,([] : List Int)++slc p (IntKind.wrap .i64 (nx + 8)) (IntKind.wrap .i64 (nx + ln)),true⟩ := by
       have h0:=congrArg (fun l=>l[0]?) hdrop1
       rw [hr'] at h0
       simpa using h0
      rw [List.getElem?_map,this]; rfl
     refine j_region (k' := k + pre.length + 1) (.cons ((o_move rfl).toJ rfl)<|.cons ((o_move rfl).toJ rfl)<|.cons ((o_move rfl).toJ rfl)<|.cons ((o_move rfl).toJ rfl)<|.cons ((o_build rfl rfl rfl).toJ rfl)<|
      .cons (o_yield (r:=.bool true) rfl rfl (fun w0 F0 F γ a w _=>rfl) rfl (fun F γ v h=>by simp only [Rs] at h; exact h) rfl (fun F γ v h=>data_of h rfl) JO Y hk
       [(0,.sl 1 (List.map (DV.int .u8) p)),(1,yv l),(4,.int .i64 (IntKind.wrap .i64 (nx + ln)))] (SubE.spec (.cons rfl rfl (.cons rfl rfl (.cons rfl rfl .nil)))) (fun F γ=>by simp only [Rs]))<|
      .cons ((o_not rfl).toJ rfl)<|.nil _ _) (by kernel_rfl) ?_
     refine j_cond _ rfl (fun c=>by cases c) (fun _=>?_)
     refine j_of (a_skip ?_)
     refine ⟨(fu,IntKind.wrap .i64 (nx + ln),r2),⟨hr2,?_,?_⟩,Nat.lt_succ_self _,Imp.of (fun i=>i) (.cons rfl (DLe.refl _) (.cons rfl (DLe.refl _) (.cons rfl (DLe.refl _) .nil))) .nil rfl rfl rfl⟩
     ·rw [← List.drop_drop,hdrop1,hr']; rfl
     ·rw [hr'] at hlen1; simp only [List.length_cons] at hlen1; dsimp only; omega
 ·replace hM:=(of_if hM).2 hb
  obtain rfl:=Option.some.inj hM
  refine j_of (a_exit ?_)
  refine ⟨.inl rfl,?_⟩
  simpa using hlen
theorem scan1_iter {p : List Int} {parts : List frame_Part} {fu : Nat} (hM : scanM p fu 0 = some parts) : Iter Tryz.prog 85 [.eptr [.sl 1 (List.map (DV.int .u8) p)]] (parts.map frame_Part.dv):=by
 intro l J F w vs JO Y hJ hv
 have hv' : RsT F Gam.no [yv l,.eptr [.sl 1 (List.map (DV.int .u8) p)]] (.func (.yield l) #[] #[] :: vs):=by
  simp only [RsT]; exact ⟨_,vs,rfl,by simp only [Rs],by simpa only [RsT] using hv⟩
 have e : (#[Value.func (.yield l) #[] #[]]++vs.toArray) = (.func (.yield l) #[] #[] :: vs).toArray:=by simp
 rw [e]
 refine (callsJ (k' := (parts.map frame_Part.dv).length) JO Tryz.func85 rfl Tryz.ntmps85 rfl (by simp) ?_ hJ hv').mono ?_
 ·refine j_region (.cons ((o_load_es rfl rfl).toJ rfl)<|.cons ((o_move rfl).toJ rfl)<|.cons (o_callJ (args:=[.sl 1 (List.map (DV.int .u8) p),yv l]) rfl rfl rfl rfl (DLeL.refl _) rfl JO (fun F w vs hJ hv=>?_) [] (SubE.spec .nil))<|.nil _ _) (by kernel_rfl) ⟨.inl rfl,rfl⟩
  exact callsJ JO Tryz.func86 rfl Tryz.ntmps86 rfl (by simp) (scan_J JO Y hM rfl) hJ hv
 ·rintro e w' ⟨F',rfl,h1,h2⟩
  exact ⟨_,F',rfl,h1,h2⟩
theorem Imp.frzClo {σ : AS} {id T t : Nat} {f : FuncId} {ds : List DV} (hh : hget σ.heap id = some (.blk T ds)) (hi : idsL ds = []) (hx : look σ.env t = some (.clo f [.ref id 0])) : Imp σ ⟨[(t,.clo f [.eptr ds])],[],σ.used⟩ := by
 intro C F γ a w hs
 obtain ⟨g,k1,b,cs,rfl,k3,k4⟩ := hs.ws.ent id _ hh
 have ho:=hs.ws.own id _ _ b hh k1 rfl
 have W:=(hs.ws.congr (h' := []) (fun i e h=>by simp [hget,look] at h) (fun _ h=>h)).data k3 ho.1 ho.2 (fun i e g h=>by simp [hget,look] at h)
 refine ⟨F.up b cs,γ,fun t' d hl=>?_,W,hs.size,hs.defers⟩
 simp only at hl
 rw [look_cons] at hl
 split at hl
 ·rename_i e1; subst e1; injection hl with hl; subst hl
  obtain ⟨q1,q2⟩ := hs.env t _ hx
  refine ⟨q1,?_⟩
  simp only [Rs,RsT] at q2 ⊢
  obtain ⟨cs',e1,v,rest,e2,⟨b',e3,e4⟩,e5⟩ := q2
  rw [k1] at e3
  injection e3 with e3; injection e3 with e3; injection e3 with e3; injection e3 with e3 _ _; subst e3
  refine ⟨cs',e1,v,rest,e2,⟨b,0,cs,cs.toList,[],by simpa using e4,by simp [FMap.up],by simp,?_⟩,e5⟩
  have : ∀ (ds : List DV) (vs : List Value),idsL ds = []→RsL F γ ds vs→RsL (F.up b cs) Gam.no ds vs:=fun ds vs h0 h1=>RsL_ids ds vs (by rw [h0]; intro i hi; cases hi) (RsL.mono (FMap.up_le cs ho.1) (GLe.refl _) ds vs h1)
  exact this ds _ hi k4
 ·cases hl
theorem scan_c {p : List Int} (h : apOk 1 (List.length ([] : List Int) + List.length p)) : PCall Tryz.prog 52 [.sl 1 (List.map (DV.int .u8) p)] (.clo 85 [.eptr [.sl 1 (List.map (DV.int .u8) (([] : List Int)++p))]]):=by
 refine PCall.body Tryz.func52 Tryz.ntmps52 rfl rfl rfl rfl ?_
 refine a_seq ?_
 refine a_region (.cons (o_assign rfl)<|.nil _) (by kernel_rfl) (by kernel_rfl) ?_
 refine a_seq ?_
 refine a_region (.cons (t_build (DV.int .u8) ([] : List Int) rfl rfl rfl rfl rfl rfl rfl)<|.cons (o_move rfl)<|.cons (o_frz (t_append p h rfl rfl rfl Src.sl))<|.cons (o_alloc rfl)<|.cons (o_store_s rfl rfl rfl rfl rfl)<|.nil _) (by kernel_rfl) (by kernel_rfl) ?_
 refine a_seq ?_
 refine a_region (.cons (o_makeFunc rfl)<|.cons (o_assign rfl)<|.nil _) (by kernel_rfl) (by kernel_rfl) ?_
 refine a_imp (Imp.frzClo (id:=3) (t:=2) rfl rfl rfl) ?_
 exact a_ret (a_post (.r1 (.tmp rfl)) (DLe.refl _) PostOk.nil.spec)
end Go.Proofs.YtepkcbalmjnhpaaGreatDoor
namespace Go.Proofs.YtepkcbalmjnhpaaGreatDoor
def decU (i : Nat) (acc : Int) : List Int→Option (Int × Nat)
 | []=>none
 | b :: rest=>if i = 9∧1 < b then none else if b < 128 then (if b = 0∧0 < i then none else some (acc + b % 128 * 128 ^ i,i + 1)) else decU (i + 1) (acc + b % 128 * 128 ^ i) rest
def Byt (b : Int) : Prop:=0≤b∧b≤255
theorem bit_nat {k : IntKind} {x : Int} (h0 : 0≤x) (h1 : x < 2 ^ k.bits) : (BitVec.ofInt k.bits x).toNat = x.toNat:=by
 rw [BitVec.toNat_ofInt]
 rw [Int.emod_eq_of_lt h0 (by exact_mod_cast h1)]
theorem and_127 {b : Int} (h : Byt b) : bitI .and .u8 b 127 = b % 128:=by
 have key : ∀ x : Fin 256,bitI .and .u8 ((x.val : Nat) : Int) 127 = ((x.val % 128 : Nat) : Int):=by decide +kernel
 have:=key ⟨b.toNat,by have:=h.2; omega⟩
 simp only at this
 rw [Int.toNat_of_nonneg h.1] at this
 rw [this]; have:=h.1; omega
theorem or_add {a c : Int} {i : Nat} (ha : 0≤a) (ha' : a < 128 ^ i) (hc : 0≤c) (hs : a + c * 128 ^ i < 18446744073709551616) : bitI .or .u64 a (c * 128 ^ i) = a + c * 128 ^ i:=by
 have hp : (0 : Int) < 128 ^ i:=Int.pow_pos (by omega)
 have hcm : 0≤c * 128 ^ i:=Int.mul_nonneg hc (by omega)
 have e64 : (2 : Int) ^ IntKind.u64.bits = 18446744073709551616:=rfl
 have n1:=bit_nat (k:=.u64) ha (by rw [e64]; omega)
 have n2:=bit_nat (k:=.u64) hcm (by rw [e64]; omega)
 unfold bitI
 simp only [BitVec.toNat_or,n1,n2]
 obtain ⟨A,rfl⟩ := Int.eq_ofNat_of_zero_le ha
 obtain ⟨C,rfl⟩ := Int.eq_ofNat_of_zero_le hc
 have e1 : ((C : Int) * 128 ^ i) = ((C * 2 ^ (7 * i) : Nat) : Int):=by
  rw [Nat.pow_mul]; simp
 rw [e1,Int.toNat_natCast,Int.toNat_natCast]
 have hA : A < 2 ^ (7 * i):=by
  rw [Nat.pow_mul]
  have : (A : Int) < ((128 ^ i : Nat) : Int):=by simpa using ha'
  exact_mod_cast this
 have hor : A ||| C * 2 ^ (7 * i) = A + C * 2 ^ (7 * i):=by
  rw [Nat.or_comm,Nat.mul_comm,← Nat.two_pow_add_eq_or_of_lt hA,Nat.add_comm]
 rw [hor]
 rw [wrap_in (k:=.u64) ⟨by omega,by rw [e1] at hs; push_cast at hs ⊢; omega⟩]
 push_cast; rfl
theorem shl_7 {c : Int} {i : Nat} (hi : i≤9) (hc : 0≤c) (hs : c * 128 ^ i < 18446744073709551616) : IntKind.u64.wrap (c * 2 ^ min ((7 : Int) * (i : Int)).toNat IntKind.u64.bits) = c * 128 ^ i:=by
 have e : min ((7 : Int) * (i : Int)).toNat IntKind.u64.bits = 7 * i:=by
  have : IntKind.u64.bits = 64:=rfl
  rw [this]; omega
 have e2 : (2 : Int) ^ (7 * i) = 128 ^ i:=by rw [Int.pow_mul]; rfl
 rw [e,e2,wrap_in]
 have hp : (0 : Int) < 128 ^ i:=Int.pow_pos (by omega)
 exact ⟨Int.mul_nonneg hc (by omega),by omega⟩
theorem shr_7 (b : Int) : b.fdiv (2 ^ min (7 : Int).toNat IntKind.u8.bits) = b / 128:=by
 have : (2 : Int) ^ min (7 : Int).toNat IntKind.u8.bits = 128:=rfl
 rw [this,Int.fdiv_eq_ediv_of_nonneg _ (by omega)]
structure Rd where
 xs : List Int
 err : Int
def uintD (xs : List Int) : Int × Int × Int:=match decU 0 0 xs with
 | some (v,n)=>(v,n,0)
 | none=>(0,0,6)
def Rd.take (n e : Int) (r : Rd) : Bool × Rd:=if e≠0 then (false,{ r with err:=e }) else (true,{ r with xs:=r.xs.drop n.toNat })
def Rd.uint (m : Int) (r : Rd) : Int × Rd:=if r.err≠0 then (0,r) else match decU 0 0 r.xs with
 | none=>(0,{ r with err:=6 })
 | some (v,n)=>if m < v then (0,{ r with err:=2 }) else (v,{ r with xs:=r.xs.drop n })
def unzig (u : Int) : Int:=if u % 2 = 1 then -(u / 2) - 1 else u / 2
def Rd.int (r : Rd) : Int × Rd:=if r.err≠0 then (0,r) else match decU 0 0 r.xs with
 | none=>(0,{ r with err:=6 })
 | some (v,n)=>(unzig v,{ r with xs:=r.xs.drop n })
def Rd.byte (r : Rd) : Int × Rd:=if r.err≠0 then (0,r) else match r.xs with
 | []=>(0,{ r with err:=6 })
 | b :: rest=>(b,{ r with xs:=rest })
def Rd.fin (r : Rd) : Int:=if r.err≠0 then r.err else if r.xs = [] then 0 else 6
theorem and_1 {u : Int} (h : U64 u) : bitI .and .u64 u 1 = u % 2:=by
 have h0:=h.1
 have h1:=h.2
 have e64 : (2 : Int) ^ IntKind.u64.bits = 18446744073709551616:=rfl
 have n1:=bit_nat (k:=.u64) h0 (by rw [e64]; omega)
 have n2:=bit_nat (k:=.u64) (x:=1) (by omega) (by rw [e64]; omega)
 unfold bitI
 simp only [BitVec.toNat_and,n1,n2]
 have : u.toNat &&& (1 : Int).toNat = u.toNat % 2:=Nat.and_one_is_mod _
 rw [this,wrap_in (k:=.u64) (by simp only [InR]; omega)]
 omega
theorem shr_1 (u : Int) : u.fdiv (2 ^ min (1 : Int).toNat IntKind.u64.bits) = u / 2:=by
 have : (2 : Int) ^ min (1 : Int).toNat IntKind.u64.bits = 2:=rfl
 rw [this,Int.fdiv_eq_ediv_of_nonneg _ (by omega)]
theorem not_i64 {x : Int} (h : 0≤x∧x≤9223372036854775807) : bitI .xor .i64 (if IntKind.i64.signed then -1 else IntKind.i64.max) x = -x - 1:=by
 have e64 : (2 : Int) ^ IntKind.i64.bits = 18446744073709551616:=rfl
 have n1:=bit_nat (k:=.i64) h.1 (by rw [e64]; omega)
 have e1 : (BitVec.ofInt IntKind.i64.bits (-1)).toNat = 2 ^ 64 - 1:=rfl
 have es : (if IntKind.i64.signed = true then (-1 : Int) else IntKind.i64.max) = -1:=rfl
 rw [es]
 unfold bitI
 simp only [BitVec.toNat_xor,n1,e1]
 have hx : (2 ^ 64 - 1) ^^^ x.toNat = 2 ^ 64 - 1 - x.toNat:=Lib.xor_ones64 x.toNat (by omega)
 rw [hx]
 have hc : ((2 ^ 64 - 1 - x.toNat : Nat) : Int) = 18446744073709551615 - x:=by omega
 rw [hc,IntKind.wrap_i64]; omega
theorem decU_u64 : ∀ (xs : List Int) (i : Nat) (acc v : Int) (n : Nat),(∀ b∈xs,Byt b)→i≤9→0≤acc→acc < 128 ^ i→decU i acc xs = some (v,n)→U64 v
 | [],i,acc,v,n,_,_,_,_,h=>by simp [decU] at h
 | b :: rest,i,acc,v,n,hx,hi,h0,h1,h=>by
  have hb:=hx b (by simp)
  have hb0:=hb.1
  have hb1:=hb.2
  unfold decU at h
  split at h
  ·cases h
  ·rename_i hnd
   have hpow : (128 : Int) ^ i≤9223372036854775808∧(i = 9∨(128 : Int) ^ i≤72057594037927936):=by
    have : i = 0∨i = 1∨i = 2∨i = 3∨i = 4∨i = 5∨i = 6∨i = 7∨i = 8∨i = 9:=by omega
    rcases this with rfl | rfl | rfl | rfl | rfl | rfl | rfl | rfl | rfl | rfl <;> simp
   have hp0 : (0 : Int) < 128 ^ i:=Int.pow_pos (by omega)
   have hm : 0≤b % 128∧b % 128≤127:=by omega
   have e : b % 128 * 128 ^ i≤127 * 128 ^ i:=Int.mul_le_mul_of_nonneg_right hm.2 (by omega)
   have e0 : 0≤b % 128 * 128 ^ i:=Int.mul_nonneg hm.1 (by omega)
   have e2 : (128 : Int) ^ (i + 1) = 128 * 128 ^ i:=by rw [Int.pow_succ,Int.mul_comm]
   split at h
   ·split at h
    ·cases h
    ·injection h with h; injection h with h2 h3
     rw [← h2]
     refine ⟨by omega,?_⟩
     rcases hpow.2 with h9 | h9
     ·have hb9 : b≤1:=by
       rcases Int.lt_or_le 1 b with h | h
       ·exact absurd ⟨h9,h⟩ hnd
       ·exact h
      have : b % 128 = b:=by omega
      rw [this]
      have : b * 128 ^ i≤1 * 128 ^ i:=Int.mul_le_mul_of_nonneg_right hb9 (by omega)
      omega
     ·omega
   ·rename_i hge
    have hi9 : i < 9:=by
     rcases Nat.lt_or_ge i 9 with h | h
     ·exact h
     ·exact absurd ⟨by omega,by omega⟩ hnd
    exact decU_u64 rest (i + 1) _ v n (fun c hc=>hx c (by simp [hc])) (by omega) (by omega) (by omega) h
theorem uintD_u64 (xs : List Int) (hx : ∀ b∈xs,Byt b) : U64 (uintD xs).1:=by
 unfold uintD
 cases h : decU 0 0 xs with
 | none=>exact ⟨by simp,by simp⟩
 | some p=>obtain ⟨v,n⟩ := p; exact decU_u64 xs 0 0 v n hx (by omega) (by omega) (by simp) h
end Go.Proofs.YtepkcbalmjnhpaaGreatDoor
set_option maxRecDepth 100000
namespace Go.Proofs.YtepkcbalmjnhpaaGreatDoor
open Go.RowKit
def u8s (xs : List Int) : DV:=.sl 1 (xs.map (.int .u8))
def rdE (r : Rd) : HE:=.blk 211 [u8s r.xs,.int .i64 r.err]
theorem idx_map {α : Type} {l : List α} {f : α→DV} {k : Nat} {x : α} (h : l[k]? = some x) : (l.map f)[k]? = some (f x):=by simp [h]
theorem u8s_drop (xs : List Int) (n : Nat) : DV.sl 1 (((xs.map (.int .u8)).take (xs.map (DV.int .u8)).length).drop n) = u8s (xs.drop n):=by
 unfold u8s; rw [List.take_of_length_le (by simp),List.map_drop]
theorem open_c (r : Rd) : ACall Tryz.prog 117 ⟨[.ref 100000 0],[(100000,some (rdE r))],.bool (r.err == 0),[(100000,some (rdE r))],[]⟩ := by
 refine ACall.body Tryz.func117 Tryz.ntmps117 rfl rfl rfl rfl ?_
 (refine a_seq ?_; (apply a_region; (case ht=>exact .cons (o_assign rfl)<|.nil _); (case hd=>kernel_rfl); (case hnew=>kernel_rfl)); refine a_seq ?_; (apply a_region; (case ht=>((apply tc; (case h=>exact o_move rfl)); (apply tc; (case h=>(first | (exact o_ptr_eq rfl) | (exact o_ptr_ne rfl) | (exact o_nil_eq rfl) | (exact o_nil_ne rfl)))); (apply tc; (case h=>exact o_move rfl)); (apply tc; (case h=>(apply o_guardT rfl rfl; (case hS=>intro hb; exact (Strips.keep Strips.nil)); (case h=>intro hb; exact o_move rfl)))); (apply tc; (case h=>(apply o_guardT rfl rfl; (case hS=>intro hb; exact (Strips.strip rfl hb Strips.nil)); (case h=>intro hb; exact o_nilCheck rfl)))); (apply tc; (case h=>(apply o_guardT rfl rfl; (case hS=>intro hb; exact (Strips.strip rfl hb Strips.nil)); (case h=>intro hb; (first | (exact o_fieldAddr rfl) | (exact o_fieldAddr_e rfl rfl) | (exact o_fieldAddr_p rfl)))))); (apply tc; (case h=>(apply o_guardT rfl rfl; (case hS=>intro hb; exact (Strips.strip rfl hb Strips.nil)); (case h=>intro hb; (first | (exact o_load_s rfl rfl rfl) | (exact o_load_es rfl rfl) | (exact o_load_ps rfl rfl rfl rfl rfl)))))); (apply tc; (case h=>(apply o_guardT rfl rfl; (case hS=>intro hb; exact (Strips.strip rfl hb Strips.nil)); (case h=>intro hb; exact o_int rfl rfl rfl)))); (apply tc; (case h=>(first | (exact o_and rfl rfl) | (exact o_or rfl rfl)))); (apply tc; (case h=>exact o_assign rfl)); exact tn)); (case hd=>kernel_rfl); (case hnew=>kernel_rfl)); refine a_ret ?_; ((refine a_post (ResV.r1 (ResOk.tmp rfl)) (DLe.of_eq ?_) (PostOk.consE rfl ?_ PostOk.nil).spec) <;> ((first | rfl | simp))))
theorem take_c (r : Rd) (n : Nat) (e : Int) (hn : e = 0→n≤r.xs.length) : ACall Tryz.prog 119 ⟨[.ref 100000 0,.int .i64 n,.int .i64 e],[(100000,some (rdE r))],.bool (r.take n e).1,[(100000,some (rdE (r.take n e).2))],[]⟩ := by
 by_cases he : e = 0
 ·have hle:=hn he
  subst he
  have hl : (List.map (DV.int IntKind.u8) r.xs).length = r.xs.length:=by simp
  refine ACall.body Tryz.func119 Tryz.ntmps119 rfl rfl rfl rfl ?_
  (refine a_seq ?_; (apply a_region; (case ht=>exact .cons (o_assign rfl)<|.nil _); (case hd=>kernel_rfl); (case hnew=>kernel_rfl)); refine a_seq ?_; refine a_seq ?_; (apply a_region; (case ht=>exact .cons (o_move rfl)<|.cons (o_int rfl rfl rfl)<|.nil _); (case hd=>kernel_rfl); (case hnew=>kernel_rfl)); (apply a_cond _ rfl; (case ht=>intro c1; (first | (cases c1; done) | (exact absurd c1 (by decide))  | (refine a_seq ?_; (apply a_region; (case ht=>((apply tc; (case h=>exact o_move rfl)); (apply tc; (case h=>exact o_move rfl)); (apply tc; (case h=>exact o_nilCheck rfl)); (apply tc; (case h=>(first | (exact o_fieldAddr rfl) | (exact o_fieldAddr_e rfl rfl) | (exact o_fieldAddr_p rfl)))); (apply tc; (case h=>(first | (exact o_slice n _ rfl (Bd.at rfl rfl) Bd.no (by omega) (by omega)) | (exact o_store_s rfl rfl rfl rfl rfl)))); exact tn)); (case hd=>kernel_rfl); (case hnew=>kernel_rfl)); refine a_seq ?_; (apply a_region; (case ht=>exact .cons (o_assign rfl)<|.nil _); (case hd=>kernel_rfl); (case hnew=>kernel_rfl)); refine a_ret ?_; ((refine a_post (ResV.r1 (ResOk.tmp rfl)) (DLe.of_eq ?_) (PostOk.consE rfl ?_ PostOk.nil).spec) <;> ((simp [Rd.take,rdE,constDV,layD,DV.cs,u8s,List.map_drop,List.take_of_length_le])))))); (case hf=>intro c1; (first | (cases c1; done) | (exact absurd c1 (by decide))  | (refine a_skip ?_; refine a_seq ?_; (apply a_region; (case ht=>((apply tc; (case h=>exact o_move rfl)); (apply tc; (case h=>exact o_move rfl)); (apply tc; (case h=>exact o_nilCheck rfl)); (apply tc; (case h=>(first | (exact o_fieldAddr rfl) | (exact o_fieldAddr_e rfl rfl) | (exact o_fieldAddr_p rfl)))); (apply tc; (case h=>(first | (exact o_slice n _ rfl (Bd.at rfl rfl) Bd.no (by omega) (by omega)) | (exact o_load_s rfl rfl rfl) | (exact o_load_es rfl rfl) | (exact o_load_ps rfl rfl rfl rfl rfl)))); (apply tc; (case h=>exact o_move rfl)); (apply tc; (case h=>(first | (exact o_slice n _ rfl (Bd.at rfl rfl) Bd.no (by omega) (by omega)) | (exact o_slice _ _ rfl (Bd.at rfl rfl) Bd.no (by omega) (by omega)) | (exact o_slice _ _ rfl Bd.no (Bd.at rfl rfl) (by omega) (by omega)) | (exact o_slice _ _ rfl (Bd.at rfl rfl) (Bd.at rfl rfl) (by omega) (by omega))))); (apply tc; (case h=>exact o_nilCheck rfl)); (apply tc; (case h=>(first | (exact o_fieldAddr rfl) | (exact o_fieldAddr_e rfl rfl) | (exact o_fieldAddr_p rfl)))); (apply tc; (case h=>(first | (exact o_slice n _ rfl (Bd.at rfl rfl) Bd.no (by omega) (by omega)) | (exact o_store_s rfl rfl rfl rfl rfl)))); exact tn)); (case hd=>kernel_rfl); (case hnew=>kernel_rfl)); refine a_seq ?_; (apply a_region; (case ht=>exact .cons (o_assign rfl)<|.nil _); (case hd=>kernel_rfl); (case hnew=>kernel_rfl)); refine a_ret ?_; ((refine a_post (ResV.r1 (ResOk.tmp rfl)) (DLe.of_eq ?_) (PostOk.consE rfl ?_ PostOk.nil).spec) <;> ((simp [Rd.take,rdE,constDV,layD,DV.cs,u8s,List.map_drop,List.take_of_length_le]))))))))
 ·refine ACall.body Tryz.func119 Tryz.ntmps119 rfl rfl rfl rfl ?_
  (refine a_seq ?_; (apply a_region; (case ht=>exact .cons (o_assign rfl)<|.nil _); (case hd=>kernel_rfl); (case hnew=>kernel_rfl)); refine a_seq ?_; refine a_seq ?_; (apply a_region; (case ht=>exact .cons (o_move rfl)<|.cons (o_int rfl rfl rfl)<|.nil _); (case hd=>kernel_rfl); (case hnew=>kernel_rfl)); (apply a_cond _ rfl; (case ht=>intro c1; (first | (cases c1; done) | (exact absurd c1 (by decide)) | (exfalso; simp [he] at c1; done) | (refine a_seq ?_; (apply a_region; (case ht=>((apply tc; (case h=>exact o_move rfl)); (apply tc; (case h=>exact o_move rfl)); (apply tc; (case h=>exact o_nilCheck rfl)); (apply tc; (case h=>(first | (exact o_fieldAddr rfl) | (exact o_fieldAddr_e rfl rfl) | (exact o_fieldAddr_p rfl)))); (apply tc; (case h=>exact o_store_s rfl rfl rfl rfl rfl)); exact tn)); (case hd=>kernel_rfl); (case hnew=>kernel_rfl)); refine a_seq ?_; (apply a_region; (case ht=>exact .cons (o_assign rfl)<|.nil _); (case hd=>kernel_rfl); (case hnew=>kernel_rfl)); refine a_ret ?_; ((refine a_post (ResV.r1 (ResOk.tmp rfl)) (DLe.of_eq ?_) (PostOk.consE rfl ?_ PostOk.nil).spec) <;> ((simp [Rd.take,he,rdE,layD,DV.cs,constDV])))))); (case hf=>intro c1; (first | (cases c1; done) | (exact absurd c1 (by decide)) | (exfalso; simp [he] at c1; done) | (refine a_skip ?_; refine a_seq ?_; (apply a_region; (case ht=>((apply tc; (case h=>exact o_move rfl)); (apply tc; (case h=>exact o_move rfl)); (apply tc; (case h=>exact o_nilCheck rfl)); (apply tc; (case h=>(first | (exact o_fieldAddr rfl) | (exact o_fieldAddr_e rfl rfl) | (exact o_fieldAddr_p rfl)))); (apply tc; (case h=>(first | (exact o_load_s rfl rfl rfl) | (exact o_load_es rfl rfl) | (exact o_load_ps rfl rfl rfl rfl rfl)))); (apply tc; (case h=>exact o_move rfl)); (apply tc; (case h=>(first | (exact o_slice _ _ rfl (Bd.at rfl rfl) Bd.no (by omega) (by omega)) | (exact o_slice _ _ rfl Bd.no (Bd.at rfl rfl) (by omega) (by omega)) | (exact o_slice _ _ rfl (Bd.at rfl rfl) (Bd.at rfl rfl) (by omega) (by omega))))); (apply tc; (case h=>exact o_nilCheck rfl)); (apply tc; (case h=>(first | (exact o_fieldAddr rfl) | (exact o_fieldAddr_e rfl rfl) | (exact o_fieldAddr_p rfl)))); (apply tc; (case h=>exact o_store_s rfl rfl rfl rfl rfl)); exact tn)); (case hd=>kernel_rfl); (case hnew=>kernel_rfl)); refine a_seq ?_; (apply a_region; (case ht=>exact .cons (o_assign rfl)<|.nil _); (case hd=>kernel_rfl); (case hnew=>kernel_rfl)); refine a_ret ?_; ((refine a_post (ResV.r1 (ResOk.tmp rfl)) (DLe.of_eq ?_) (PostOk.consE rfl ?_ PostOk.nil).spec) <;> ((simp [Rd.take,he,rdE,layD,DV.cs,constDV]))))))))
theorem uint_c (xs : List Int) (hx : ∀ b∈xs,Byt b) (hl : xs.length≤4611686018427387904) : PCall Tryz.prog 118 [u8s xs] (.tup [.int .u64 (uintD xs).1,.int .i64 (uintD xs).2.1,.int .i64 (uintD xs).2.2]):=by
 refine PCall.body Tryz.func118 Tryz.ntmps118 rfl rfl rfl rfl ?_
 refine a_seq ?_
 (apply a_region; (case ht=>exact .cons (o_assign rfl)<|.cons (o_assign rfl)<|.cons (o_assign rfl)<|.nil _); (case hd=>kernel_rfl); (case hnew=>kernel_rfl))
 refine a_seq ?_
 refine a_seq ?_
 (apply a_region; (case ht=>((apply tc; (case h=>exact o_move rfl)); (apply tc; (case h=>(first | (exact o_len rfl) | (exact o_len_r rfl rfl) | (exact o_len_n rfl)))); (apply tc; (case h=>exact o_move rfl)); exact tn)); (case hd=>kernel_rfl); (case hnew=>kernel_rfl))
 refine a_block ?_
 refine a_loop (fun p : Nat × Int=>⟨[(7,u8s xs),(8,.int .i64 (xs.map (DV.int .u8)).length),(9,.int .i64 (p.1 : Int)),(2,.int .u64 p.2)],[],[]⟩) (fun p=>p.1≤xs.length∧p.1≤9∧0≤p.2∧p.2 < 128 ^ p.1∧decU 0 0 xs = decU p.1 p.2 (xs.drop p.1)) (fun p=>xs.length - p.1) (0,0) ?_ ?_ ?_
 ·exact Imp.le (.cons rfl (DLe.refl _) (.cons rfl (DLe.refl _) (.cons rfl (DLe.refl _) (.cons rfl (DLe.refl _) .nil))))
 ·exact ⟨by omega,by omega,by omega,by simp,by simp⟩
 rintro ⟨k,acc⟩ ⟨h1,h2,h3,h4,h5⟩
 simp only at h1 h2 h3 h4 h5
 refine a_seq ?_
 (apply a_region; (case ht=>exact .cons (o_int rfl rfl rfl)<|.nil _); (case hd=>kernel_rfl); (case hnew=>kernel_rfl))
 refine a_seq ?_
 refine a_cond _ rfl (fun c1=>?_) (fun c1=>?_)
 ·simp only [List.length_map,decide_eq_true_eq] at c1
  have hk : k < xs.length:=by omega
  obtain ⟨b,hb⟩ : ∃ b,xs[k]? = some b := ⟨xs[k],by simp [hk]⟩
  have hby : Byt b:=hx b (List.mem_of_getElem? hb)
  have hdr : xs.drop k = b :: xs.drop (k + 1):=by
   rw [List.drop_eq_getElem_cons hk]
   congr 1
   rw [List.getElem?_eq_getElem hk] at hb; injection hb
  rw [hdr] at h5
  refine a_skip ?_
  refine a_seq ?_
  refine a_block ?_
  refine a_seq ?_
  (apply a_region; (case ht=>((apply tc; (case h=>exact o_move rfl)); (apply tc; (case h=>(first | (exact o_indexAddr k rfl rfl rfl (idx_map hb) rfl) | (exact o_indexAddr _ rfl rfl rfl (by assumption) rfl) | (exact o_indexAddr_r _ rfl rfl rfl rfl (by omega)) | (exact o_indexAddr_a _ rfl rfl rfl (by omega))))); (apply tc; (case h=>(first | (exact o_indexAddr k rfl rfl rfl (idx_map hb) rfl) | (exact o_load_s rfl rfl rfl) | (exact o_load_es rfl rfl) | (exact o_load_ps rfl rfl rfl rfl rfl)))); (apply tc; (case h=>exact o_assign rfl)); (apply tc; (case h=>exact o_assign rfl)); exact tn)); (case hd=>kernel_rfl); (case hnew=>kernel_rfl))
  refine a_seq ?_
  refine a_seq ?_
  (apply a_region; (case ht=>((apply tc; (case h=>exact o_move rfl)); (apply tc; (case h=>exact o_int rfl rfl rfl)); (apply tc; (case h=>exact o_move rfl)); (apply tc; (case h=>(apply o_guardT rfl rfl; (case hS=>intro hb; exact (Strips.keep Strips.nil)); (case h=>intro hb; exact o_move rfl)))); (apply tc; (case h=>(apply o_guardT rfl rfl; (case hS=>intro hb; exact (Strips.strip rfl hb Strips.nil)); (case h=>intro hb; exact o_int rfl rfl rfl)))); (apply tc; (case h=>(first | (exact o_and rfl rfl) | (exact o_or rfl rfl)))); exact tn)); (case hd=>kernel_rfl); (case hnew=>kernel_rfl))
  refine a_cond _ rfl (fun c2=>?_) (fun c2=>?_)
  ·have hd : decU 0 0 xs = none:=by
    simp only [Bool.and_eq_true,beq_iff_eq,decide_eq_true_eq] at c2
    rw [h5,decU,if_pos ⟨by omega,c2.2⟩]
   refine a_seq ?_
   (apply a_region; (case ht=>exact .cons (o_assign rfl)<|.cons (o_assign rfl)<|.cons (o_assign rfl)<|.nil _); (case hd=>kernel_rfl); (case hnew=>kernel_rfl))
   refine a_ret ?_
   ((refine a_post (ResV.r3 (ResOk.tmp rfl) (ResOk.tmp rfl) (ResOk.tmp rfl)) (DLe.of_eq ?_) PostOk.nil.spec) <;> (simp [uintD,hd,constDV]))
  ·have hnd : ¬ (k = 9∧1 < b):=by
    intro h
    have : ((k : Int) == 9 && decide (1 < b)) = true:=by simp [h.1,h.2]
    rw [c2] at this; cases this
   have hpow : (128 : Int) ^ k≤9223372036854775808∧(k = 9∨(128 : Int) ^ k≤72057594037927936):=by
    have : k = 0∨k = 1∨k = 2∨k = 3∨k = 4∨k = 5∨k = 6∨k = 7∨k = 8∨k = 9:=by omega
    rcases this with rfl | rfl | rfl | rfl | rfl | rfl | rfl | rfl | rfl | rfl <;> simp
   have hb0:=hby.1
   have hb1:=hby.2
   have hp0 : (0 : Int) < 128 ^ k:=Int.pow_pos (by omega)
   have hm : 0≤b % 128∧b % 128≤127:=by omega
   have hsum : acc + b % 128 * 128 ^ k < 18446744073709551616∧acc + b % 128 * 128 ^ k < 128 ^ (k + 1)∧0≤b % 128 * 128 ^ k:=by
    have e : b % 128 * 128 ^ k≤127 * 128 ^ k:=Int.mul_le_mul_of_nonneg_right hm.2 (by omega)
    have e0 : 0≤b % 128 * 128 ^ k:=Int.mul_nonneg hm.1 (by omega)
    have e2 : (128 : Int) ^ (k + 1) = 128 * 128 ^ k:=by rw [Int.pow_succ,Int.mul_comm]
    refine ⟨?_,by omega,e0⟩
    rcases hpow.2 with h9 | h9
    ·have hb9 : b≤1:=by
      rcases Int.lt_or_le 1 b with h | h
      ·exact absurd ⟨h9,h⟩ hnd
      ·exact h
     have : b % 128 = b:=by omega
     rw [this]
     have : b * 128 ^ k≤1 * 128 ^ k:=Int.mul_le_mul_of_nonneg_right hb9 (by omega)
     omega
    ·omega
   refine a_skip ?_
   refine a_seq ?_
   (apply a_region; (case ht=>((apply tc; (case h=>exact o_move rfl)); (apply tc; (case h=>exact o_move rfl)); (apply tc; (case h=>exact o_int rfl rfl rfl)); (apply tc; (case h=>(first | (exact o_conv rfl (by simp only [InR]; omega)) | (exact o_conv_w rfl)))); (apply tc; (case h=>exact o_move rfl)); (apply tc; (case h=>(first | (exact o_mul rfl rfl (by simp only [InR]; omega)) | (exact o_int rfl rfl rfl)))); (apply tc; (case h=>exact o_shl rfl rfl (by omega))); (apply tc; (case h=>exact o_int rfl rfl rfl)); (apply tc; (case h=>exact o_assign rfl)); exact tn)); (case hd=>kernel_rfl); (case hnew=>kernel_rfl))
   have ea:=and_127 hby
   have es:=shl_7 (c:=b % 128) h2 hm.1 (by omega)
   have eo:=or_add (a:=acc) (c:=b % 128) (i:=k) h3 h4 hm.1 hsum.1
   refine a_imp (Imp.le (env' := [(7,u8s xs),(8,.int .i64 (xs.map (DV.int .u8)).length),(9,.int .i64 (k : Int)),(5,.int .i64 (k : Int)),(6,.int .u8 b),(2,.int .u64 (acc + b % 128 * 128 ^ k))]) (.cons rfl (DLe.refl _) (.cons rfl (DLe.refl _) (.cons rfl (DLe.refl _) (.cons rfl (DLe.refl _) (.cons rfl (DLe.refl _) (.cons rfl (DLe.of_eq ?_) .nil))))))) ?_
   ·rw [ea,wrap_in (k:=.u64) (n:=b % 128) (by simp only [InR]; omega),es,eo]
   refine a_seq ?_
   (apply a_region; (case ht=>exact .cons (o_move rfl)<|.cons (o_shr rfl rfl (by omega))<|.cons (o_int rfl rfl rfl)<|.nil _); (case hd=>kernel_rfl); (case hnew=>kernel_rfl))
   refine a_cond _ rfl (fun c3=>?_) (fun c3=>?_)
   ·have hlt : b < 128:=by
     rw [shr_7] at c3
     simp only [beq_iff_eq] at c3
     omega
    refine a_seq ?_
    refine a_seq ?_
    (apply a_region; (case ht=>((apply tc; (case h=>exact o_move rfl)); (apply tc; (case h=>exact o_int rfl rfl rfl)); (apply tc; (case h=>exact o_move rfl)); (apply tc; (case h=>(apply o_guardT rfl rfl; (case hS=>intro hb; exact (Strips.keep Strips.nil)); (case h=>intro hb; exact o_move rfl)))); (apply tc; (case h=>(apply o_guardT rfl rfl; (case hS=>intro hb; exact (Strips.strip rfl hb Strips.nil)); (case h=>intro hb; exact o_int rfl rfl rfl)))); (apply tc; (case h=>(first | (exact o_and rfl rfl) | (exact o_or rfl rfl)))); exact tn)); (case hd=>kernel_rfl); (case hnew=>kernel_rfl))
    refine a_cond _ rfl (fun c4=>?_) (fun c4=>?_)
    ·have hd : decU 0 0 xs = none:=by
      simp only [Bool.and_eq_true,beq_iff_eq,decide_eq_true_eq] at c4
      rw [h5,decU,if_neg hnd,if_pos hlt,if_pos ⟨c4.1,by omega⟩]
     refine a_seq ?_
     (apply a_region; (case ht=>exact .cons (o_assign rfl)<|.cons (o_assign rfl)<|.cons (o_assign rfl)<|.nil _); (case hd=>kernel_rfl); (case hnew=>kernel_rfl))
     refine a_ret ?_
     ((refine a_post (ResV.r3 (ResOk.tmp rfl) (ResOk.tmp rfl) (ResOk.tmp rfl)) (DLe.of_eq ?_) PostOk.nil.spec) <;> (simp [uintD,hd,constDV]))
    ·have hn0 : ¬ (b = 0∧0 < k):=by
      intro h
      have : ((b == 0) && decide (0 < (k : Int))) = true:=by simp [h.1,h.2]
      rw [c4] at this; cases this
     have hd : decU 0 0 xs = some (acc + b % 128 * 128 ^ k,k + 1):=by
      rw [h5,decU,if_neg hnd,if_pos hlt,if_neg hn0]
     refine a_skip ?_
     refine a_seq ?_
     (apply a_region; (case ht=>((apply tc; (case h=>exact o_move rfl)); (apply tc; (case h=>exact o_move rfl)); (apply tc; (case h=>(first | (exact o_add rfl rfl (by simp only [InR]; omega)) | (exact o_int rfl rfl rfl)))); (apply tc; (case h=>exact o_assign rfl)); (apply tc; (case h=>exact o_assign rfl)); (apply tc; (case h=>exact o_assign rfl)); exact tn)); (case hd=>kernel_rfl); (case hnew=>kernel_rfl))
     refine a_ret ?_
     ((refine a_post (ResV.r3 (ResOk.tmp rfl) (ResOk.tmp rfl) (ResOk.tmp rfl)) (DLe.of_eq ?_) PostOk.nil.spec) <;> (simp [uintD,hd,constDV]))
   ·have hge : ¬ b < 128:=by
     rw [shr_7] at c3
     intro h
     have : (b / 128 == 0) = true:=by simp only [beq_iff_eq]; omega
     rw [c3] at this; cases this
    have h9 : k < 9:=by
     rcases Nat.lt_or_ge k 9 with h | h
     ·exact h
     ·exact absurd ⟨by omega,by omega⟩ hnd
    refine a_skip ?_
    (apply a_region; (case ht=>((apply tc; (case h=>(first | (exact o_add rfl rfl (by simp only [InR]; omega)) | (exact o_int rfl rfl rfl)))); (apply tc; (case h=>exact o_move rfl)); exact tn)); (case hd=>kernel_rfl); (case hnew=>kernel_rfl))
    refine QLoop.next (k + 1,acc + b % 128 * 128 ^ k) ⟨by simp only; omega,by simp only; omega,by simp only; omega,hsum.2.1,?_⟩ (by simp only; omega) (Imp.le (.cons rfl (DLe.refl _) (.cons rfl (DLe.refl _) (.cons rfl (DLe.of_eq ?_) (.cons rfl (DLe.refl _) .nil)))))
    ·rw [h5,decU,if_neg hnd,if_neg hge]
    ·simp
 ·have hd : decU 0 0 xs = none:=by
   simp only [List.length_map,decide_eq_false_iff_not] at c1
   have : k = xs.length:=by omega
   rw [h5,this,List.drop_length]; rfl
  refine a_exit ?_
  refine a_seq ?_
  (apply a_region; (case ht=>exact .cons (o_assign rfl)<|.cons (o_assign rfl)<|.cons (o_assign rfl)<|.nil _); (case hd=>kernel_rfl); (case hnew=>kernel_rfl))
  refine a_ret ?_
  ((refine a_post (ResV.r3 (ResOk.tmp rfl) (ResOk.tmp rfl) (ResOk.tmp rfl)) (DLe.of_eq ?_) PostOk.nil.spec) <;> (simp [uintD,hd,constDV]))
@[simp] theorem rdE_ren (r : Rd) (f : Nat→Nat) : (rdE r).ren f = rdE r:=rfl
structure RdOk (r : Rd) : Prop where
 byt : ∀ b∈r.xs,Byt b
 len : r.xs.length≤4611686018427387904
theorem decU_le : ∀ (xs : List Int) (i : Nat) (acc v : Int) (n : Nat),decU i acc xs = some (v,n)→i < n∧n≤i + xs.length
 | [],i,acc,v,n,h=>by simp [decU] at h
 | b :: rest,i,acc,v,n,h=>by
  unfold decU at h
  split at h
  ·cases h
  ·split at h
   ·split at h
    ·cases h
    ·injection h with h; injection h with h1 h2; simp; omega
   ·rename_i h1 h2
    obtain ⟨q1,q2⟩ := decU_le rest (i + 1) _ v n h
    exact ⟨by omega,by simp; omega⟩
theorem rUint_c (r : Rd) (m : Int) (hr : RdOk r) (hm : U64 m) : ACall Tryz.prog 89 ⟨[.ref 100000 0,.int .u64 m],[(100000,some (rdE r))],.int .u64 (r.uint m).1,[(100000,some (rdE (r.uint m).2))],[]⟩ := by
 obtain ⟨xs,err⟩ := r
 by_cases he : err = 0
 ·subst he
  have hu:=uint_c xs hr.byt hr.len
  cases hd : decU 0 0 xs with
  | none=>
   simp only [uintD,hd] at hu
   have ht:=take_c ⟨xs,0⟩ 0 6 (by simp)
   simp only [Rd.take] at ht
   refine ACall.body Tryz.func89 Tryz.ntmps89 rfl rfl rfl rfl ?_
   (refine a_seq ?_; (apply a_region; (case ht=>exact .cons (o_assign rfl)<|.nil _); (case hd=>kernel_rfl); (case hnew=>kernel_rfl)); refine a_seq ?_; refine a_seq ?_; (apply a_region; (case ht=>((apply tc; (case h=>exact o_move rfl)); (apply tc; (case h=>(first | (exact o_callA (fun _=>100000) (open_c ⟨xs,0⟩) rfl (DLeL.refl _) (PreOk.cons rfl PreOk.nil) rfl) | (exact o_call hu rfl (DLeL.refl _) rfl) | (exact o_callA (fun _=>100000) ht rfl (DLeL.refl _) (PreOk.cons rfl PreOk.nil) rfl)))); (apply tc; (case h=>exact o_not rfl)); exact tn)); (case hd=>kernel_rfl); (case hnew=>kernel_rfl)); (apply a_cond _ rfl; (case ht=>intro c1; (first | (cases c1; done) | (exact absurd c1 (by decide)) | (exfalso; simp at c1; done) | (refine a_seq ?_; (apply a_region; (case ht=>exact .cons (o_assign rfl)<|.nil _); (case hd=>kernel_rfl); (case hnew=>kernel_rfl)); refine a_ret ?_; ((refine a_post (ResV.r1 (ResOk.tmp rfl)) (DLe.of_eq ?_) (PostOk.consE rfl ?_ PostOk.nil).spec) <;> ((simp [Rd.uint,hd,constDV])))))); (case hf=>intro c1; (first | (cases c1; done) | (exact absurd c1 (by decide)) | (exfalso; simp at c1; done) | (refine a_skip ?_; refine a_seq ?_; (apply a_region; (case ht=>((apply tc; (case h=>exact o_move rfl)); (apply tc; (case h=>exact o_nilCheck rfl)); (apply tc; (case h=>(first | (exact o_fieldAddr rfl) | (exact o_fieldAddr_e rfl rfl) | (exact o_fieldAddr_p rfl)))); (apply tc; (case h=>(first | (exact o_callA (fun _=>100000) (open_c ⟨xs,0⟩) rfl (DLeL.refl _) (PreOk.cons rfl PreOk.nil) rfl) | (exact o_call hu rfl (DLeL.refl _) rfl) | (exact o_callA (fun _=>100000) ht rfl (DLeL.refl _) (PreOk.cons rfl PreOk.nil) rfl) | (exact o_load_s rfl rfl rfl) | (exact o_load_es rfl rfl) | (exact o_load_ps rfl rfl rfl rfl rfl)))); (apply tc; (case h=>(first | (exact o_callA (fun _=>100000) (open_c ⟨xs,0⟩) rfl (DLeL.refl _) (PreOk.cons rfl PreOk.nil) rfl) | (exact o_call hu rfl (DLeL.refl _) rfl) | (exact o_callA (fun _=>100000) ht rfl (DLeL.refl _) (PreOk.cons rfl PreOk.nil) rfl)))); (apply tc; (case h=>exact o_move rfl)); (apply tc; (case h=>exact o_extract rfl rfl)); (apply tc; (case h=>exact o_extract rfl rfl)); (apply tc; (case h=>exact o_extract rfl rfl)); (apply tc; (case h=>exact o_assign rfl)); (apply tc; (case h=>exact o_assign rfl)); (apply tc; (case h=>exact o_assign rfl)); exact tn)); (case hd=>kernel_rfl); (case hnew=>kernel_rfl)); refine a_seq ?_; refine a_seq ?_; (apply a_region; (case ht=>((apply tc; (case h=>exact o_move rfl)); (apply tc; (case h=>exact o_int rfl rfl rfl)); (apply tc; (case h=>exact o_move rfl)); (apply tc; (case h=>(apply o_guardT rfl rfl; (case hS=>intro hb; exact (Strips.keep Strips.nil)); (case h=>intro hb; (first | (exact o_move rfl) | (exact o_callA (fun _=>100000) (open_c ⟨xs,0⟩) rfl (DLeL.refl _) (PreOk.cons rfl PreOk.nil) rfl) | (exact o_call hu rfl (DLeL.refl _) rfl) | (exact o_callA (fun _=>100000) ht rfl (DLeL.refl _) (PreOk.cons rfl PreOk.nil) rfl)))))); (apply tc; (case h=>(apply o_guardT rfl rfl; (case hS=>intro hb; exact (Strips.keep Strips.nil)); (case h=>intro hb; (first | (exact o_move rfl) | (exact o_callA (fun _=>100000) (open_c ⟨xs,0⟩) rfl (DLeL.refl _) (PreOk.cons rfl PreOk.nil) rfl) | (exact o_call hu rfl (DLeL.refl _) rfl) | (exact o_callA (fun _=>100000) ht rfl (DLeL.refl _) (PreOk.cons rfl PreOk.nil) rfl)))))); (apply tc; (case h=>(apply o_guardT rfl rfl; (case hS=>intro hb; exact (Strips.strip rfl hb (Strips.strip rfl hb Strips.nil))); (case h=>intro hb; (first | (exact o_int rfl rfl rfl) | (exact o_callA (fun _=>100000) (open_c ⟨xs,0⟩) rfl (DLeL.refl _) (PreOk.cons rfl PreOk.nil) rfl) | (exact o_call hu rfl (DLeL.refl _) rfl) | (exact o_callA (fun _=>100000) ht rfl (DLeL.refl _) (PreOk.cons rfl PreOk.nil) rfl)))))); (apply tc; (case h=>(first | (exact o_and rfl rfl) | (exact o_or rfl rfl)))); exact tn)); (case hd=>kernel_rfl); (case hnew=>kernel_rfl)); (apply a_cond _ rfl; (case ht=>intro c2; (first | (cases c2; done) | (exact absurd c2 (by decide)) | (exfalso; simp at c2; done) | ((apply a_region; (case ht=>exact .cons (o_assign rfl)<|.nil _); (case hd=>kernel_rfl); (case hnew=>kernel_rfl)); refine a_seq ?_; refine a_seq ?_; (apply a_region; (case ht=>((apply tc; (case h=>exact o_move rfl)); (apply tc; (case h=>exact o_move rfl)); (apply tc; (case h=>exact o_move rfl)); (apply tc; (case h=>(first | (exact o_callA (fun _=>100000) (open_c ⟨xs,0⟩) rfl (DLeL.refl _) (PreOk.cons rfl PreOk.nil) rfl) | (exact o_call hu rfl (DLeL.refl _) rfl) | (exact o_callA (fun _=>100000) ht rfl (DLeL.refl _) (PreOk.cons rfl PreOk.nil) rfl)))); (apply tc; (case h=>exact o_not rfl)); exact tn)); (case hd=>kernel_rfl); (case hnew=>kernel_rfl)); (apply a_cond _ rfl; (case ht=>intro c3; (first | (cases c3; done) | (exact absurd c3 (by decide)) | (exfalso; simp at c3; done) | (refine a_seq ?_; (apply a_region; (case ht=>exact .cons (o_assign rfl)<|.nil _); (case hd=>kernel_rfl); (case hnew=>kernel_rfl)); refine a_ret ?_; ((refine a_post (ResV.r1 (ResOk.tmp rfl)) (DLe.of_eq ?_) (PostOk.consE rfl ?_ PostOk.nil).spec) <;> ((simp [Rd.uint,hd,constDV])))))); (case hf=>intro c3; (first | (cases c3; done) | (exact absurd c3 (by decide)) | (exfalso; simp at c3; done) | (refine a_skip ?_; refine a_seq ?_; (apply a_region; (case ht=>exact .cons (o_move rfl)<|.cons (o_assign rfl)<|.nil _); (case hd=>kernel_rfl); (case hnew=>kernel_rfl)); refine a_ret ?_; ((refine a_post (ResV.r1 (ResOk.tmp rfl)) (DLe.of_eq ?_) (PostOk.consE rfl ?_ PostOk.nil).spec) <;> ((simp [Rd.uint,hd,constDV])))))))))); (case hf=>intro c2; (first | (cases c2; done) | (exact absurd c2 (by decide)) | (exfalso; simp at c2; done) | (refine a_skip ?_; refine a_seq ?_; refine a_seq ?_; (apply a_region; (case ht=>((apply tc; (case h=>exact o_move rfl)); (apply tc; (case h=>exact o_move rfl)); (apply tc; (case h=>exact o_move rfl)); (apply tc; (case h=>(first | (exact o_callA (fun _=>100000) (open_c ⟨xs,0⟩) rfl (DLeL.refl _) (PreOk.cons rfl PreOk.nil) rfl) | (exact o_call hu rfl (DLeL.refl _) rfl) | (exact o_callA (fun _=>100000) ht rfl (DLeL.refl _) (PreOk.cons rfl PreOk.nil) rfl)))); (apply tc; (case h=>exact o_not rfl)); exact tn)); (case hd=>kernel_rfl); (case hnew=>kernel_rfl)); (apply a_cond _ rfl; (case ht=>intro c4; (first | (cases c4; done) | (exact absurd c4 (by decide)) | (exfalso; simp at c4; done) | (refine a_seq ?_; (apply a_region; (case ht=>exact .cons (o_assign rfl)<|.nil _); (case hd=>kernel_rfl); (case hnew=>kernel_rfl)); refine a_ret ?_; ((refine a_post (ResV.r1 (ResOk.tmp rfl)) (DLe.of_eq ?_) (PostOk.consE rfl ?_ PostOk.nil).spec) <;> ((simp [Rd.uint,hd,constDV])))))); (case hf=>intro c4; (first | (cases c4; done) | (exact absurd c4 (by decide)) | (exfalso; simp at c4; done) | (refine a_skip ?_; refine a_seq ?_; (apply a_region; (case ht=>exact .cons (o_move rfl)<|.cons (o_assign rfl)<|.nil _); (case hd=>kernel_rfl); (case hnew=>kernel_rfl)); refine a_ret ?_; ((refine a_post (ResV.r1 (ResOk.tmp rfl)) (DLe.of_eq ?_) (PostOk.consE rfl ?_ PostOk.nil).spec) <;> ((simp [Rd.uint,hd,constDV]))))))))))))))))
  | some p=>
   obtain ⟨v,n⟩ := p
   simp only [uintD,hd] at hu
   have hn:=decU_le xs 0 0 v n hd
   by_cases hv : m < v
   ·have ht:=take_c ⟨xs,0⟩ n 2 (by simp)
    simp only [Rd.take] at ht
    refine ACall.body Tryz.func89 Tryz.ntmps89 rfl rfl rfl rfl ?_
    (refine a_seq ?_; (apply a_region; (case ht=>exact .cons (o_assign rfl)<|.nil _); (case hd=>kernel_rfl); (case hnew=>kernel_rfl)); refine a_seq ?_; refine a_seq ?_; (apply a_region; (case ht=>((apply tc; (case h=>exact o_move rfl)); (apply tc; (case h=>(first | (exact o_callA (fun _=>100000) (open_c ⟨xs,0⟩) rfl (DLeL.refl _) (PreOk.cons rfl PreOk.nil) rfl) | (exact o_call hu rfl (DLeL.refl _) rfl) | (exact o_callA (fun _=>100000) ht rfl (DLeL.refl _) (PreOk.cons rfl PreOk.nil) rfl)))); (apply tc; (case h=>exact o_not rfl)); exact tn)); (case hd=>kernel_rfl); (case hnew=>kernel_rfl)); (apply a_cond _ rfl; (case ht=>intro c1; (first | (cases c1; done) | (exact absurd c1 (by decide)) | (exfalso; simp [hv] at c1; done) | (refine a_seq ?_; (apply a_region; (case ht=>exact .cons (o_assign rfl)<|.nil _); (case hd=>kernel_rfl); (case hnew=>kernel_rfl)); refine a_ret ?_; ((refine a_post (ResV.r1 (ResOk.tmp rfl)) (DLe.of_eq ?_) (PostOk.consE rfl ?_ PostOk.nil).spec) <;> ((simp [Rd.uint,hd,hv,constDV])))))); (case hf=>intro c1; (first | (cases c1; done) | (exact absurd c1 (by decide)) | (exfalso; simp [hv] at c1; done) | (refine a_skip ?_; refine a_seq ?_; (apply a_region; (case ht=>((apply tc; (case h=>exact o_move rfl)); (apply tc; (case h=>exact o_nilCheck rfl)); (apply tc; (case h=>(first | (exact o_fieldAddr rfl) | (exact o_fieldAddr_e rfl rfl) | (exact o_fieldAddr_p rfl)))); (apply tc; (case h=>(first | (exact o_callA (fun _=>100000) (open_c ⟨xs,0⟩) rfl (DLeL.refl _) (PreOk.cons rfl PreOk.nil) rfl) | (exact o_call hu rfl (DLeL.refl _) rfl) | (exact o_callA (fun _=>100000) ht rfl (DLeL.refl _) (PreOk.cons rfl PreOk.nil) rfl) | (exact o_load_s rfl rfl rfl) | (exact o_load_es rfl rfl) | (exact o_load_ps rfl rfl rfl rfl rfl)))); (apply tc; (case h=>(first | (exact o_callA (fun _=>100000) (open_c ⟨xs,0⟩) rfl (DLeL.refl _) (PreOk.cons rfl PreOk.nil) rfl) | (exact o_call hu rfl (DLeL.refl _) rfl) | (exact o_callA (fun _=>100000) ht rfl (DLeL.refl _) (PreOk.cons rfl PreOk.nil) rfl)))); (apply tc; (case h=>exact o_move rfl)); (apply tc; (case h=>exact o_extract rfl rfl)); (apply tc; (case h=>exact o_extract rfl rfl)); (apply tc; (case h=>exact o_extract rfl rfl)); (apply tc; (case h=>exact o_assign rfl)); (apply tc; (case h=>exact o_assign rfl)); (apply tc; (case h=>exact o_assign rfl)); exact tn)); (case hd=>kernel_rfl); (case hnew=>kernel_rfl)); refine a_seq ?_; refine a_seq ?_; (apply a_region; (case ht=>((apply tc; (case h=>exact o_move rfl)); (apply tc; (case h=>exact o_int rfl rfl rfl)); (apply tc; (case h=>exact o_move rfl)); (apply tc; (case h=>(apply o_guardT rfl rfl; (case hS=>intro hb; exact (Strips.keep Strips.nil)); (case h=>intro hb; (first | (exact o_move rfl) | (exact o_callA (fun _=>100000) (open_c ⟨xs,0⟩) rfl (DLeL.refl _) (PreOk.cons rfl PreOk.nil) rfl) | (exact o_call hu rfl (DLeL.refl _) rfl) | (exact o_callA (fun _=>100000) ht rfl (DLeL.refl _) (PreOk.cons rfl PreOk.nil) rfl)))))); (apply tc; (case h=>(apply o_guardT rfl rfl; (case hS=>intro hb; exact (Strips.keep Strips.nil)); (case h=>intro hb; (first | (exact o_move rfl) | (exact o_callA (fun _=>100000) (open_c ⟨xs,0⟩) rfl (DLeL.refl _) (PreOk.cons rfl PreOk.nil) rfl) | (exact o_call hu rfl (DLeL.refl _) rfl) | (exact o_callA (fun _=>100000) ht rfl (DLeL.refl _) (PreOk.cons rfl PreOk.nil) rfl)))))); (apply tc; (case h=>(apply o_guardT rfl rfl; (case hS=>intro hb; exact (Strips.strip rfl hb (Strips.strip rfl hb Strips.nil))); (case h=>intro hb; (first | (exact o_int rfl rfl rfl) | (exact o_callA (fun _=>100000) (open_c ⟨xs,0⟩) rfl (DLeL.refl _) (PreOk.cons rfl PreOk.nil) rfl) | (exact o_call hu rfl (DLeL.refl _) rfl) | (exact o_callA (fun _=>100000) ht rfl (DLeL.refl _) (PreOk.cons rfl PreOk.nil) rfl)))))); (apply tc; (case h=>(first | (exact o_and rfl rfl) | (exact o_or rfl rfl)))); exact tn)); (case hd=>kernel_rfl); (case hnew=>kernel_rfl)); (apply a_cond _ rfl; (case ht=>intro c2; (first | (cases c2; done) | (exact absurd c2 (by decide)) | (exfalso; simp [hv] at c2; done) | ((apply a_region; (case ht=>exact .cons (o_assign rfl)<|.nil _); (case hd=>kernel_rfl); (case hnew=>kernel_rfl)); refine a_seq ?_; refine a_seq ?_; (apply a_region; (case ht=>((apply tc; (case h=>exact o_move rfl)); (apply tc; (case h=>exact o_move rfl)); (apply tc; (case h=>exact o_move rfl)); (apply tc; (case h=>(first | (exact o_callA (fun _=>100000) (open_c ⟨xs,0⟩) rfl (DLeL.refl _) (PreOk.cons rfl PreOk.nil) rfl) | (exact o_call hu rfl (DLeL.refl _) rfl) | (exact o_callA (fun _=>100000) ht rfl (DLeL.refl _) (PreOk.cons rfl PreOk.nil) rfl)))); (apply tc; (case h=>exact o_not rfl)); exact tn)); (case hd=>kernel_rfl); (case hnew=>kernel_rfl)); (apply a_cond _ rfl; (case ht=>intro c3; (first | (cases c3; done) | (exact absurd c3 (by decide)) | (exfalso; simp [hv] at c3; done) | (refine a_seq ?_; (apply a_region; (case ht=>exact .cons (o_assign rfl)<|.nil _); (case hd=>kernel_rfl); (case hnew=>kernel_rfl)); refine a_ret ?_; ((refine a_post (ResV.r1 (ResOk.tmp rfl)) (DLe.of_eq ?_) (PostOk.consE rfl ?_ PostOk.nil).spec) <;> ((simp [Rd.uint,hd,hv,constDV])))))); (case hf=>intro c3; (first | (cases c3; done) | (exact absurd c3 (by decide)) | (exfalso; simp [hv] at c3; done) | (refine a_skip ?_; refine a_seq ?_; (apply a_region; (case ht=>exact .cons (o_move rfl)<|.cons (o_assign rfl)<|.nil _); (case hd=>kernel_rfl); (case hnew=>kernel_rfl)); refine a_ret ?_; ((refine a_post (ResV.r1 (ResOk.tmp rfl)) (DLe.of_eq ?_) (PostOk.consE rfl ?_ PostOk.nil).spec) <;> ((simp [Rd.uint,hd,hv,constDV])))))))))); (case hf=>intro c2; (first | (cases c2; done) | (exact absurd c2 (by decide)) | (exfalso; simp [hv] at c2; done) | (refine a_skip ?_; refine a_seq ?_; refine a_seq ?_; (apply a_region; (case ht=>((apply tc; (case h=>exact o_move rfl)); (apply tc; (case h=>exact o_move rfl)); (apply tc; (case h=>exact o_move rfl)); (apply tc; (case h=>(first | (exact o_callA (fun _=>100000) (open_c ⟨xs,0⟩) rfl (DLeL.refl _) (PreOk.cons rfl PreOk.nil) rfl) | (exact o_call hu rfl (DLeL.refl _) rfl) | (exact o_callA (fun _=>100000) ht rfl (DLeL.refl _) (PreOk.cons rfl PreOk.nil) rfl)))); (apply tc; (case h=>exact o_not rfl)); exact tn)); (case hd=>kernel_rfl); (case hnew=>kernel_rfl)); (apply a_cond _ rfl; (case ht=>intro c4; (first | (cases c4; done) | (exact absurd c4 (by decide)) | (exfalso; simp [hv] at c4; done) | (refine a_seq ?_; (apply a_region; (case ht=>exact .cons (o_assign rfl)<|.nil _); (case hd=>kernel_rfl); (case hnew=>kernel_rfl)); refine a_ret ?_; ((refine a_post (ResV.r1 (ResOk.tmp rfl)) (DLe.of_eq ?_) (PostOk.consE rfl ?_ PostOk.nil).spec) <;> ((simp [Rd.uint,hd,hv,constDV])))))); (case hf=>intro c4; (first | (cases c4; done) | (exact absurd c4 (by decide)) | (exfalso; simp [hv] at c4; done) | (refine a_skip ?_; refine a_seq ?_; (apply a_region; (case ht=>exact .cons (o_move rfl)<|.cons (o_assign rfl)<|.nil _); (case hd=>kernel_rfl); (case hnew=>kernel_rfl)); refine a_ret ?_; ((refine a_post (ResV.r1 (ResOk.tmp rfl)) (DLe.of_eq ?_) (PostOk.consE rfl ?_ PostOk.nil).spec) <;> ((simp [Rd.uint,hd,hv,constDV]))))))))))))))))
   ·have ht:=take_c ⟨xs,0⟩ n 0 (by simp; omega)
    simp only [Rd.take] at ht
    refine ACall.body Tryz.func89 Tryz.ntmps89 rfl rfl rfl rfl ?_
    (refine a_seq ?_; (apply a_region; (case ht=>exact .cons (o_assign rfl)<|.nil _); (case hd=>kernel_rfl); (case hnew=>kernel_rfl)); refine a_seq ?_; refine a_seq ?_; (apply a_region; (case ht=>((apply tc; (case h=>exact o_move rfl)); (apply tc; (case h=>(first | (exact o_callA (fun _=>100000) (open_c ⟨xs,0⟩) rfl (DLeL.refl _) (PreOk.cons rfl PreOk.nil) rfl) | (exact o_call hu rfl (DLeL.refl _) rfl) | (exact o_callA (fun _=>100000) ht rfl (DLeL.refl _) (PreOk.cons rfl PreOk.nil) rfl)))); (apply tc; (case h=>exact o_not rfl)); exact tn)); (case hd=>kernel_rfl); (case hnew=>kernel_rfl)); (apply a_cond _ rfl; (case ht=>intro c1; (first | (cases c1; done) | (exact absurd c1 (by decide)) | (exfalso; simp [hv] at c1; done) | (refine a_seq ?_; (apply a_region; (case ht=>exact .cons (o_assign rfl)<|.nil _); (case hd=>kernel_rfl); (case hnew=>kernel_rfl)); refine a_ret ?_; ((refine a_post (ResV.r1 (ResOk.tmp rfl)) (DLe.of_eq ?_) (PostOk.consE rfl ?_ PostOk.nil).spec) <;> ((simp [Rd.uint,hd,hv,constDV])))))); (case hf=>intro c1; (first | (cases c1; done) | (exact absurd c1 (by decide)) | (exfalso; simp [hv] at c1; done) | (refine a_skip ?_; refine a_seq ?_; (apply a_region; (case ht=>((apply tc; (case h=>exact o_move rfl)); (apply tc; (case h=>exact o_nilCheck rfl)); (apply tc; (case h=>(first | (exact o_fieldAddr rfl) | (exact o_fieldAddr_e rfl rfl) | (exact o_fieldAddr_p rfl)))); (apply tc; (case h=>(first | (exact o_callA (fun _=>100000) (open_c ⟨xs,0⟩) rfl (DLeL.refl _) (PreOk.cons rfl PreOk.nil) rfl) | (exact o_call hu rfl (DLeL.refl _) rfl) | (exact o_callA (fun _=>100000) ht rfl (DLeL.refl _) (PreOk.cons rfl PreOk.nil) rfl) | (exact o_load_s rfl rfl rfl) | (exact o_load_es rfl rfl) | (exact o_load_ps rfl rfl rfl rfl rfl)))); (apply tc; (case h=>(first | (exact o_callA (fun _=>100000) (open_c ⟨xs,0⟩) rfl (DLeL.refl _) (PreOk.cons rfl PreOk.nil) rfl) | (exact o_call hu rfl (DLeL.refl _) rfl) | (exact o_callA (fun _=>100000) ht rfl (DLeL.refl _) (PreOk.cons rfl PreOk.nil) rfl)))); (apply tc; (case h=>exact o_move rfl)); (apply tc; (case h=>exact o_extract rfl rfl)); (apply tc; (case h=>exact o_extract rfl rfl)); (apply tc; (case h=>exact o_extract rfl rfl)); (apply tc; (case h=>exact o_assign rfl)); (apply tc; (case h=>exact o_assign rfl)); (apply tc; (case h=>exact o_assign rfl)); exact tn)); (case hd=>kernel_rfl); (case hnew=>kernel_rfl)); refine a_seq ?_; refine a_seq ?_; (apply a_region; (case ht=>((apply tc; (case h=>exact o_move rfl)); (apply tc; (case h=>exact o_int rfl rfl rfl)); (apply tc; (case h=>exact o_move rfl)); (apply tc; (case h=>(apply o_guardT rfl rfl; (case hS=>intro hb; exact (Strips.keep Strips.nil)); (case h=>intro hb; (first | (exact o_move rfl) | (exact o_callA (fun _=>100000) (open_c ⟨xs,0⟩) rfl (DLeL.refl _) (PreOk.cons rfl PreOk.nil) rfl) | (exact o_call hu rfl (DLeL.refl _) rfl) | (exact o_callA (fun _=>100000) ht rfl (DLeL.refl _) (PreOk.cons rfl PreOk.nil) rfl)))))); (apply tc; (case h=>(apply o_guardT rfl rfl; (case hS=>intro hb; exact (Strips.keep Strips.nil)); (case h=>intro hb; (first | (exact o_move rfl) | (exact o_callA (fun _=>100000) (open_c ⟨xs,0⟩) rfl (DLeL.refl _) (PreOk.cons rfl PreOk.nil) rfl) | (exact o_call hu rfl (DLeL.refl _) rfl) | (exact o_callA (fun _=>100000) ht rfl (DLeL.refl _) (PreOk.cons rfl PreOk.nil) rfl)))))); (apply tc; (case h=>(apply o_guardT rfl rfl; (case hS=>intro hb; exact (Strips.strip rfl hb (Strips.strip rfl hb Strips.nil))); (case h=>intro hb; (first | (exact o_int rfl rfl rfl) | (exact o_callA (fun _=>100000) (open_c ⟨xs,0⟩) rfl (DLeL.refl _) (PreOk.cons rfl PreOk.nil) rfl) | (exact o_call hu rfl (DLeL.refl _) rfl) | (exact o_callA (fun _=>100000) ht rfl (DLeL.refl _) (PreOk.cons rfl PreOk.nil) rfl)))))); (apply tc; (case h=>(first | (exact o_and rfl rfl) | (exact o_or rfl rfl)))); exact tn)); (case hd=>kernel_rfl); (case hnew=>kernel_rfl)); (apply a_cond _ rfl; (case ht=>intro c2; (first | (cases c2; done) | (exact absurd c2 (by decide)) | (exfalso; simp [hv] at c2; done) | ((apply a_region; (case ht=>exact .cons (o_assign rfl)<|.nil _); (case hd=>kernel_rfl); (case hnew=>kernel_rfl)); refine a_seq ?_; refine a_seq ?_; (apply a_region; (case ht=>((apply tc; (case h=>exact o_move rfl)); (apply tc; (case h=>exact o_move rfl)); (apply tc; (case h=>exact o_move rfl)); (apply tc; (case h=>(first | (exact o_callA (fun _=>100000) (open_c ⟨xs,0⟩) rfl (DLeL.refl _) (PreOk.cons rfl PreOk.nil) rfl) | (exact o_call hu rfl (DLeL.refl _) rfl) | (exact o_callA (fun _=>100000) ht rfl (DLeL.refl _) (PreOk.cons rfl PreOk.nil) rfl)))); (apply tc; (case h=>exact o_not rfl)); exact tn)); (case hd=>kernel_rfl); (case hnew=>kernel_rfl)); (apply a_cond _ rfl; (case ht=>intro c3; (first | (cases c3; done) | (exact absurd c3 (by decide)) | (exfalso; simp [hv] at c3; done) | (refine a_seq ?_; (apply a_region; (case ht=>exact .cons (o_assign rfl)<|.nil _); (case hd=>kernel_rfl); (case hnew=>kernel_rfl)); refine a_ret ?_; ((refine a_post (ResV.r1 (ResOk.tmp rfl)) (DLe.of_eq ?_) (PostOk.consE rfl ?_ PostOk.nil).spec) <;> ((simp [Rd.uint,hd,hv,constDV])))))); (case hf=>intro c3; (first | (cases c3; done) | (exact absurd c3 (by decide)) | (exfalso; simp [hv] at c3; done) | (refine a_skip ?_; refine a_seq ?_; (apply a_region; (case ht=>exact .cons (o_move rfl)<|.cons (o_assign rfl)<|.nil _); (case hd=>kernel_rfl); (case hnew=>kernel_rfl)); refine a_ret ?_; ((refine a_post (ResV.r1 (ResOk.tmp rfl)) (DLe.of_eq ?_) (PostOk.consE rfl ?_ PostOk.nil).spec) <;> ((simp [Rd.uint,hd,hv,constDV])))))))))); (case hf=>intro c2; (first | (cases c2; done) | (exact absurd c2 (by decide)) | (exfalso; simp [hv] at c2; done) | (refine a_skip ?_; refine a_seq ?_; refine a_seq ?_; (apply a_region; (case ht=>((apply tc; (case h=>exact o_move rfl)); (apply tc; (case h=>exact o_move rfl)); (apply tc; (case h=>exact o_move rfl)); (apply tc; (case h=>(first | (exact o_callA (fun _=>100000) (open_c ⟨xs,0⟩) rfl (DLeL.refl _) (PreOk.cons rfl PreOk.nil) rfl) | (exact o_call hu rfl (DLeL.refl _) rfl) | (exact o_callA (fun _=>100000) ht rfl (DLeL.refl _) (PreOk.cons rfl PreOk.nil) rfl)))); (apply tc; (case h=>exact o_not rfl)); exact tn)); (case hd=>kernel_rfl); (case hnew=>kernel_rfl)); (apply a_cond _ rfl; (case ht=>intro c4; (first | (cases c4; done) | (exact absurd c4 (by decide)) | (exfalso; simp [hv] at c4; done) | (refine a_seq ?_; (apply a_region; (case ht=>exact .cons (o_assign rfl)<|.nil _); (case hd=>kernel_rfl); (case hnew=>kernel_rfl)); refine a_ret ?_; ((refine a_post (ResV.r1 (ResOk.tmp rfl)) (DLe.of_eq ?_) (PostOk.consE rfl ?_ PostOk.nil).spec) <;> ((simp [Rd.uint,hd,hv,constDV])))))); (case hf=>intro c4; (first | (cases c4; done) | (exact absurd c4 (by decide)) | (exfalso; simp [hv] at c4; done) | (refine a_skip ?_; refine a_seq ?_; (apply a_region; (case ht=>exact .cons (o_move rfl)<|.cons (o_assign rfl)<|.nil _); (case hd=>kernel_rfl); (case hnew=>kernel_rfl)); refine a_ret ?_; ((refine a_post (ResV.r1 (ResOk.tmp rfl)) (DLe.of_eq ?_) (PostOk.consE rfl ?_ PostOk.nil).spec) <;> ((simp [Rd.uint,hd,hv,constDV]))))))))))))))))
 ·refine ACall.body Tryz.func89 Tryz.ntmps89 rfl rfl rfl rfl ?_
  (refine a_seq ?_; (apply a_region; (case ht=>exact .cons (o_assign rfl)<|.nil _); (case hd=>kernel_rfl); (case hnew=>kernel_rfl)); refine a_seq ?_; refine a_seq ?_; (apply a_region; (case ht=>exact .cons (o_move rfl)<|.cons (o_callA (fun _=>100000) (open_c ⟨xs,err⟩) rfl (DLeL.refl _) (PreOk.cons rfl PreOk.nil) rfl)<|.cons (o_not rfl)<|.nil _); (case hd=>kernel_rfl); (case hnew=>kernel_rfl)); (apply a_cond _ rfl; (case ht=>intro c1; (first | (cases c1; done) | (exact absurd c1 (by decide)) | (exfalso; simp [he] at c1; done) | (refine a_seq ?_; (apply a_region; (case ht=>exact .cons (o_assign rfl)<|.nil _); (case hd=>kernel_rfl); (case hnew=>kernel_rfl)); refine a_ret ?_; ((refine a_post (ResV.r1 (ResOk.tmp rfl)) (DLe.of_eq ?_) (PostOk.consE rfl ?_ PostOk.nil).spec) <;> ((simp [Rd.uint,he,constDV])))))); (case hf=>intro c1; (first | (cases c1; done) | (exact absurd c1 (by decide)) | (exfalso; simp [he] at c1; done) | (refine a_skip ?_; refine a_seq ?_; (apply a_region; (case ht=>((apply tc; (case h=>exact o_move rfl)); (apply tc; (case h=>exact o_nilCheck rfl)); (apply tc; (case h=>(first | (exact o_fieldAddr rfl) | (exact o_fieldAddr_e rfl rfl) | (exact o_fieldAddr_p rfl)))); (apply tc; (case h=>(first | (exact o_callA (fun _=>100000) (open_c ⟨xs,err⟩) rfl (DLeL.refl _) (PreOk.cons rfl PreOk.nil) rfl) | (exact o_load_s rfl rfl rfl) | (exact o_load_es rfl rfl) | (exact o_load_ps rfl rfl rfl rfl rfl)))); (apply tc; (case h=>exact o_callA (fun _=>100000) (open_c ⟨xs,err⟩) rfl (DLeL.refl _) (PreOk.cons rfl PreOk.nil) rfl)); (apply tc; (case h=>exact o_move rfl)); (apply tc; (case h=>exact o_extract rfl rfl)); (apply tc; (case h=>exact o_extract rfl rfl)); (apply tc; (case h=>exact o_extract rfl rfl)); (apply tc; (case h=>exact o_assign rfl)); (apply tc; (case h=>exact o_assign rfl)); (apply tc; (case h=>exact o_assign rfl)); exact tn)); (case hd=>kernel_rfl); (case hnew=>kernel_rfl)); refine a_seq ?_; refine a_seq ?_; (apply a_region; (case ht=>((apply tc; (case h=>exact o_move rfl)); (apply tc; (case h=>exact o_int rfl rfl rfl)); (apply tc; (case h=>exact o_move rfl)); (apply tc; (case h=>(apply o_guardT rfl rfl; (case hS=>intro hb; exact (Strips.keep Strips.nil)); (case h=>intro hb; (first | (exact o_move rfl) | (exact o_callA (fun _=>100000) (open_c ⟨xs,err⟩) rfl (DLeL.refl _) (PreOk.cons rfl PreOk.nil) rfl)))))); (apply tc; (case h=>(apply o_guardT rfl rfl; (case hS=>intro hb; exact (Strips.keep Strips.nil)); (case h=>intro hb; (first | (exact o_move rfl) | (exact o_callA (fun _=>100000) (open_c ⟨xs,err⟩) rfl (DLeL.refl _) (PreOk.cons rfl PreOk.nil) rfl)))))); (apply tc; (case h=>(apply o_guardT rfl rfl; (case hS=>intro hb; exact (Strips.strip rfl hb (Strips.strip rfl hb Strips.nil))); (case h=>intro hb; (first | (exact o_int rfl rfl rfl) | (exact o_callA (fun _=>100000) (open_c ⟨xs,err⟩) rfl (DLeL.refl _) (PreOk.cons rfl PreOk.nil) rfl)))))); (apply tc; (case h=>(first | (exact o_and rfl rfl) | (exact o_or rfl rfl)))); exact tn)); (case hd=>kernel_rfl); (case hnew=>kernel_rfl)); (apply a_cond _ rfl; (case ht=>intro c2; (first | (cases c2; done) | (exact absurd c2 (by decide)) | (exfalso; simp [he] at c2; done) | ((apply a_region; (case ht=>exact .cons (o_assign rfl)<|.nil _); (case hd=>kernel_rfl); (case hnew=>kernel_rfl)); refine a_seq ?_; refine a_seq ?_; (apply a_region; (case ht=>exact .cons (o_move rfl)<|.cons (o_move rfl)<|.cons (o_move rfl)<|.cons (o_callA (fun _=>100000) (open_c ⟨xs,err⟩) rfl (DLeL.refl _) (PreOk.cons rfl PreOk.nil) rfl)<|.cons (o_not rfl)<|.nil _); (case hd=>kernel_rfl); (case hnew=>kernel_rfl)); (apply a_cond _ rfl; (case ht=>intro c3; (first | (cases c3; done) | (exact absurd c3 (by decide)) | (exfalso; simp [he] at c3; done) | (refine a_seq ?_; (apply a_region; (case ht=>exact .cons (o_assign rfl)<|.nil _); (case hd=>kernel_rfl); (case hnew=>kernel_rfl)); refine a_ret ?_; ((refine a_post (ResV.r1 (ResOk.tmp rfl)) (DLe.of_eq ?_) (PostOk.consE rfl ?_ PostOk.nil).spec) <;> ((simp [Rd.uint,he,constDV])))))); (case hf=>intro c3; (first | (cases c3; done) | (exact absurd c3 (by decide)) | (exfalso; simp [he] at c3; done) | (refine a_skip ?_; refine a_seq ?_; (apply a_region; (case ht=>exact .cons (o_move rfl)<|.cons (o_assign rfl)<|.nil _); (case hd=>kernel_rfl); (case hnew=>kernel_rfl)); refine a_ret ?_; ((refine a_post (ResV.r1 (ResOk.tmp rfl)) (DLe.of_eq ?_) (PostOk.consE rfl ?_ PostOk.nil).spec) <;> ((simp [Rd.uint,he,constDV])))))))))); (case hf=>intro c2; (first | (cases c2; done) | (exact absurd c2 (by decide)) | (exfalso; simp [he] at c2; done) | (refine a_skip ?_; refine a_seq ?_; refine a_seq ?_; (apply a_region; (case ht=>exact .cons (o_move rfl)<|.cons (o_move rfl)<|.cons (o_move rfl)<|.cons (o_callA (fun _=>100000) (open_c ⟨xs,err⟩) rfl (DLeL.refl _) (PreOk.cons rfl PreOk.nil) rfl)<|.cons (o_not rfl)<|.nil _); (case hd=>kernel_rfl); (case hnew=>kernel_rfl)); (apply a_cond _ rfl; (case ht=>intro c4; (first | (cases c4; done) | (exact absurd c4 (by decide)) | (exfalso; simp [he] at c4; done) | (refine a_seq ?_; (apply a_region; (case ht=>exact .cons (o_assign rfl)<|.nil _); (case hd=>kernel_rfl); (case hnew=>kernel_rfl)); refine a_ret ?_; ((refine a_post (ResV.r1 (ResOk.tmp rfl)) (DLe.of_eq ?_) (PostOk.consE rfl ?_ PostOk.nil).spec) <;> ((simp [Rd.uint,he,constDV])))))); (case hf=>intro c4; (first | (cases c4; done) | (exact absurd c4 (by decide)) | (exfalso; simp [he] at c4; done) | (refine a_skip ?_; refine a_seq ?_; (apply a_region; (case ht=>exact .cons (o_move rfl)<|.cons (o_assign rfl)<|.nil _); (case hd=>kernel_rfl); (case hnew=>kernel_rfl)); refine a_ret ?_; ((refine a_post (ResV.r1 (ResOk.tmp rfl)) (DLe.of_eq ?_) (PostOk.consE rfl ?_ PostOk.nil).spec) <;> ((simp [Rd.uint,he,constDV]))))))))))))))))
theorem unzig_c (u : Int) (hu : U64 u) : PCall Tryz.prog 151 [.int .u64 u] (.int .i64 (unzig u)):=by
 have h1:=hu.1
 have h2:=hu.2
 have ea:=and_1 hu
 have es:=shr_1 u
 have eh : 0≤u / 2∧u / 2≤9223372036854775807:=by omega
 have en:=not_i64 eh
 have ew:=wrap_in (k:=.i64) (n:=u / 2) (by simp only [InR]; omega)
 refine PCall.body Tryz.func151 Tryz.ntmps151 rfl rfl rfl rfl ?_
 (refine a_seq ?_; (apply a_region; (case ht=>exact .cons (o_assign rfl)<|.nil _); (case hd=>kernel_rfl); (case hnew=>kernel_rfl)); refine a_seq ?_; refine a_seq ?_; (apply a_region; (case ht=>exact .cons (o_move rfl)<|.cons (o_int rfl rfl rfl)<|.cons (o_int rfl rfl rfl)<|.nil _); (case hd=>kernel_rfl); (case hnew=>kernel_rfl)); (apply a_cond _ rfl; (case ht=>intro c1; (first | (cases c1; done) | (exact absurd c1 (by decide))  | (refine a_seq ?_; (apply a_region; (case ht=>((apply tc; (case h=>exact o_move rfl)); (apply tc; (case h=>exact o_shr rfl rfl (by omega))); (apply tc; (case h=>(first | (exact o_conv rfl (by simp only [InR]; omega)) | (exact o_conv_w rfl)))); (apply tc; (case h=>exact o_xor rfl)); (apply tc; (case h=>exact o_assign rfl)); exact tn)); (case hd=>kernel_rfl); (case hnew=>kernel_rfl)); refine a_ret ?_; ((refine a_post (ResV.r1 (ResOk.tmp rfl)) (DLe.of_eq ?_) PostOk.nil.spec) <;> ((simp only [ea,beq_iff_eq,beq_eq_false_iff_ne] at c1; first | (rw [es,ew,en,unzig,if_pos c1]) | (rw [es,ew,unzig,if_neg c1]) | (rw [es,en,unzig,if_pos c1]) | (rw [es,unzig,if_neg c1]))))))); (case hf=>intro c1; (first | (cases c1; done) | (exact absurd c1 (by decide))  | (refine a_skip ?_; refine a_seq ?_; (apply a_region; (case ht=>((apply tc; (case h=>exact o_move rfl)); (apply tc; (case h=>exact o_shr rfl rfl (by omega))); (apply tc; (case h=>(first | (exact o_conv rfl (by simp only [InR]; omega)) | (exact o_conv_w rfl)))); (apply tc; (case h=>exact o_assign rfl)); exact tn)); (case hd=>kernel_rfl); (case hnew=>kernel_rfl)); refine a_ret ?_; ((refine a_post (ResV.r1 (ResOk.tmp rfl)) (DLe.of_eq ?_) PostOk.nil.spec) <;> ((simp only [ea,beq_iff_eq,beq_eq_false_iff_ne] at c1; first | (rw [es,ew,en,unzig,if_pos c1]) | (rw [es,ew,unzig,if_neg c1]) | (rw [es,en,unzig,if_pos c1]) | (rw [es,unzig,if_neg c1])))))))))
theorem intN_c (xs : List Int) (hx : ∀ b∈xs,Byt b) (hl : xs.length≤4611686018427387904) : PCall Tryz.prog 142 [u8s xs] (.tup [.int .i64 (unzig (uintD xs).1),.int .i64 (uintD xs).2.1,.int .i64 (uintD xs).2.2]):=by
 refine PCall.body Tryz.func142 Tryz.ntmps142 rfl rfl rfl rfl ?_
 (refine a_seq ?_; (apply a_region; (case ht=>exact .cons (o_assign rfl)<|.cons (o_assign rfl)<|.cons (o_assign rfl)<|.nil _); (case hd=>kernel_rfl); (case hnew=>kernel_rfl)); refine a_seq ?_; (apply a_region; (case ht=>((apply tc; (case h=>exact o_move rfl)); (apply tc; (case h=>(first | (exact o_call (uint_c xs hx hl) rfl (DLeL.refl _) rfl) | (exact o_call (unzig_c _ (uintD_u64 xs hx)) rfl (DLeL.refl _) rfl)))); (apply tc; (case h=>exact o_move rfl)); (apply tc; (case h=>exact o_extract rfl rfl)); (apply tc; (case h=>exact o_extract rfl rfl)); (apply tc; (case h=>exact o_extract rfl rfl)); (apply tc; (case h=>exact o_assign rfl)); (apply tc; (case h=>exact o_assign rfl)); (apply tc; (case h=>exact o_assign rfl)); exact tn)); (case hd=>kernel_rfl); (case hnew=>kernel_rfl)); refine a_seq ?_; (apply a_region; (case ht=>((apply tc; (case h=>exact o_move rfl)); (apply tc; (case h=>(first | (exact o_call (uint_c xs hx hl) rfl (DLeL.refl _) rfl) | (exact o_call (unzig_c _ (uintD_u64 xs hx)) rfl (DLeL.refl _) rfl)))); (apply tc; (case h=>exact o_move rfl)); (apply tc; (case h=>exact o_move rfl)); (apply tc; (case h=>exact o_assign rfl)); (apply tc; (case h=>exact o_assign rfl)); (apply tc; (case h=>exact o_assign rfl)); exact tn)); (case hd=>kernel_rfl); (case hnew=>kernel_rfl)); refine a_ret ?_; ((refine a_post (ResV.r3 (ResOk.tmp rfl) (ResOk.tmp rfl) (ResOk.tmp rfl)) (DLe.of_eq ?_) PostOk.nil.spec) <;> (rfl)))
theorem rInt_c (r : Rd) (hr : RdOk r) : ACall Tryz.prog 121 ⟨[.ref 100000 0],[(100000,some (rdE r))],.int .i64 r.int.1,[(100000,some (rdE r.int.2))],[]⟩ := by
 obtain ⟨xs,err⟩ := r
 by_cases he : err = 0
 ·subst he
  have hu:=intN_c xs hr.byt hr.len
  cases hd : decU 0 0 xs with
  | none=>
   simp only [uintD,hd] at hu
   have ht:=take_c ⟨xs,0⟩ 0 6 (by simp)
   simp only [Rd.take] at ht
   refine ACall.body Tryz.func121 Tryz.ntmps121 rfl rfl rfl rfl ?_
   (refine a_seq ?_; (apply a_region; (case ht=>exact .cons (o_assign rfl)<|.nil _); (case hd=>kernel_rfl); (case hnew=>kernel_rfl)); refine a_seq ?_; refine a_seq ?_; (apply a_region; (case ht=>((apply tc; (case h=>exact o_move rfl)); (apply tc; (case h=>(first | (exact o_callA (fun _=>100000) (open_c ⟨xs,0⟩) rfl (DLeL.refl _) (PreOk.cons rfl PreOk.nil) rfl) | (exact o_call hu rfl (DLeL.refl _) rfl) | (exact o_callA (fun _=>100000) ht rfl (DLeL.refl _) (PreOk.cons rfl PreOk.nil) rfl)))); (apply tc; (case h=>exact o_not rfl)); exact tn)); (case hd=>kernel_rfl); (case hnew=>kernel_rfl)); (apply a_cond _ rfl; (case ht=>intro c1; (first | (cases c1; done) | (exact absurd c1 (by decide)) | (exfalso; simp at c1; done) | (refine a_seq ?_; (apply a_region; (case ht=>exact .cons (o_assign rfl)<|.nil _); (case hd=>kernel_rfl); (case hnew=>kernel_rfl)); refine a_ret ?_; ((refine a_post (ResV.r1 (ResOk.tmp rfl)) (DLe.of_eq ?_) (PostOk.consE rfl ?_ PostOk.nil).spec) <;> ((simp [Rd.int,hd,constDV])))))); (case hf=>intro c1; (first | (cases c1; done) | (exact absurd c1 (by decide)) | (exfalso; simp at c1; done) | (refine a_skip ?_; refine a_seq ?_; (apply a_region; (case ht=>((apply tc; (case h=>exact o_move rfl)); (apply tc; (case h=>exact o_nilCheck rfl)); (apply tc; (case h=>(first | (exact o_fieldAddr rfl) | (exact o_fieldAddr_e rfl rfl) | (exact o_fieldAddr_p rfl)))); (apply tc; (case h=>(first | (exact o_callA (fun _=>100000) (open_c ⟨xs,0⟩) rfl (DLeL.refl _) (PreOk.cons rfl PreOk.nil) rfl) | (exact o_call hu rfl (DLeL.refl _) rfl) | (exact o_callA (fun _=>100000) ht rfl (DLeL.refl _) (PreOk.cons rfl PreOk.nil) rfl) | (exact o_load_s rfl rfl rfl) | (exact o_load_es rfl rfl) | (exact o_load_ps rfl rfl rfl rfl rfl)))); (apply tc; (case h=>(first | (exact o_callA (fun _=>100000) (open_c ⟨xs,0⟩) rfl (DLeL.refl _) (PreOk.cons rfl PreOk.nil) rfl) | (exact o_call hu rfl (DLeL.refl _) rfl) | (exact o_callA (fun _=>100000) ht rfl (DLeL.refl _) (PreOk.cons rfl PreOk.nil) rfl)))); (apply tc; (case h=>exact o_move rfl)); (apply tc; (case h=>exact o_extract rfl rfl)); (apply tc; (case h=>exact o_extract rfl rfl)); (apply tc; (case h=>exact o_extract rfl rfl)); (apply tc; (case h=>exact o_assign rfl)); (apply tc; (case h=>exact o_assign rfl)); (apply tc; (case h=>exact o_assign rfl)); exact tn)); (case hd=>kernel_rfl); (case hnew=>kernel_rfl)); refine a_seq ?_; refine a_seq ?_; (apply a_region; (case ht=>((apply tc; (case h=>exact o_move rfl)); (apply tc; (case h=>exact o_move rfl)); (apply tc; (case h=>exact o_move rfl)); (apply tc; (case h=>(first | (exact o_callA (fun _=>100000) (open_c ⟨xs,0⟩) rfl (DLeL.refl _) (PreOk.cons rfl PreOk.nil) rfl) | (exact o_call hu rfl (DLeL.refl _) rfl) | (exact o_callA (fun _=>100000) ht rfl (DLeL.refl _) (PreOk.cons rfl PreOk.nil) rfl)))); (apply tc; (case h=>exact o_not rfl)); exact tn)); (case hd=>kernel_rfl); (case hnew=>kernel_rfl)); (apply a_cond _ rfl; (case ht=>intro c2; (first | (cases c2; done) | (exact absurd c2 (by decide)) | (exfalso; simp at c2; done) | (refine a_seq ?_; (apply a_region; (case ht=>exact .cons (o_assign rfl)<|.nil _); (case hd=>kernel_rfl); (case hnew=>kernel_rfl)); refine a_ret ?_; ((refine a_post (ResV.r1 (ResOk.tmp rfl)) (DLe.of_eq ?_) (PostOk.consE rfl ?_ PostOk.nil).spec) <;> ((simp [Rd.int,hd,constDV])))))); (case hf=>intro c2; (first | (cases c2; done) | (exact absurd c2 (by decide)) | (exfalso; simp at c2; done) | (refine a_skip ?_; refine a_seq ?_; (apply a_region; (case ht=>exact .cons (o_move rfl)<|.cons (o_assign rfl)<|.nil _); (case hd=>kernel_rfl); (case hnew=>kernel_rfl)); refine a_ret ?_; ((refine a_post (ResV.r1 (ResOk.tmp rfl)) (DLe.of_eq ?_) (PostOk.consE rfl ?_ PostOk.nil).spec) <;> ((simp [Rd.int,hd,constDV]))))))))))))
  | some p=>
   obtain ⟨v,n⟩ := p
   simp only [uintD,hd] at hu
   have hn:=decU_le xs 0 0 v n hd
   have ht:=take_c ⟨xs,0⟩ n 0 (by simp; omega)
   simp only [Rd.take] at ht
   refine ACall.body Tryz.func121 Tryz.ntmps121 rfl rfl rfl rfl ?_
   (refine a_seq ?_; (apply a_region; (case ht=>exact .cons (o_assign rfl)<|.nil _); (case hd=>kernel_rfl); (case hnew=>kernel_rfl)); refine a_seq ?_; refine a_seq ?_; (apply a_region; (case ht=>((apply tc; (case h=>exact o_move rfl)); (apply tc; (case h=>(first | (exact o_callA (fun _=>100000) (open_c ⟨xs,0⟩) rfl (DLeL.refl _) (PreOk.cons rfl PreOk.nil) rfl) | (exact o_call hu rfl (DLeL.refl _) rfl) | (exact o_callA (fun _=>100000) ht rfl (DLeL.refl _) (PreOk.cons rfl PreOk.nil) rfl)))); (apply tc; (case h=>exact o_not rfl)); exact tn)); (case hd=>kernel_rfl); (case hnew=>kernel_rfl)); (apply a_cond _ rfl; (case ht=>intro c1; (first | (cases c1; done) | (exact absurd c1 (by decide)) | (exfalso; simp at c1; done) | (refine a_seq ?_; (apply a_region; (case ht=>exact .cons (o_assign rfl)<|.nil _); (case hd=>kernel_rfl); (case hnew=>kernel_rfl)); refine a_ret ?_; ((refine a_post (ResV.r1 (ResOk.tmp rfl)) (DLe.of_eq ?_) (PostOk.consE rfl ?_ PostOk.nil).spec) <;> ((simp [Rd.int,hd,constDV])))))); (case hf=>intro c1; (first | (cases c1; done) | (exact absurd c1 (by decide)) | (exfalso; simp at c1; done) | (refine a_skip ?_; refine a_seq ?_; (apply a_region; (case ht=>((apply tc; (case h=>exact o_move rfl)); (apply tc; (case h=>exact o_nilCheck rfl)); (apply tc; (case h=>(first | (exact o_fieldAddr rfl) | (exact o_fieldAddr_e rfl rfl) | (exact o_fieldAddr_p rfl)))); (apply tc; (case h=>(first | (exact o_callA (fun _=>100000) (open_c ⟨xs,0⟩) rfl (DLeL.refl _) (PreOk.cons rfl PreOk.nil) rfl) | (exact o_call hu rfl (DLeL.refl _) rfl) | (exact o_callA (fun _=>100000) ht rfl (DLeL.refl _) (PreOk.cons rfl PreOk.nil) rfl) | (exact o_load_s rfl rfl rfl) | (exact o_load_es rfl rfl) | (exact o_load_ps rfl rfl rfl rfl rfl)))); (apply tc; (case h=>(first | (exact o_callA (fun _=>100000) (open_c ⟨xs,0⟩) rfl (DLeL.refl _) (PreOk.cons rfl PreOk.nil) rfl) | (exact o_call hu rfl (DLeL.refl _) rfl) | (exact o_callA (fun _=>100000) ht rfl (DLeL.refl _) (PreOk.cons rfl PreOk.nil) rfl)))); (apply tc; (case h=>exact o_move rfl)); (apply tc; (case h=>exact o_extract rfl rfl)); (apply tc; (case h=>exact o_extract rfl rfl)); (apply tc; (case h=>exact o_extract rfl rfl)); (apply tc; (case h=>exact o_assign rfl)); (apply tc; (case h=>exact o_assign rfl)); (apply tc; (case h=>exact o_assign rfl)); exact tn)); (case hd=>kernel_rfl); (case hnew=>kernel_rfl)); refine a_seq ?_; refine a_seq ?_; (apply a_region; (case ht=>((apply tc; (case h=>exact o_move rfl)); (apply tc; (case h=>exact o_move rfl)); (apply tc; (case h=>exact o_move rfl)); (apply tc; (case h=>(first | (exact o_callA (fun _=>100000) (open_c ⟨xs,0⟩) rfl (DLeL.refl _) (PreOk.cons rfl PreOk.nil) rfl) | (exact o_call hu rfl (DLeL.refl _) rfl) | (exact o_callA (fun _=>100000) ht rfl (DLeL.refl _) (PreOk.cons rfl PreOk.nil) rfl)))); (apply tc; (case h=>exact o_not rfl)); exact tn)); (case hd=>kernel_rfl); (case hnew=>kernel_rfl)); (apply a_cond _ rfl; (case ht=>intro c2; (first | (cases c2; done) | (exact absurd c2 (by decide)) | (exfalso; simp at c2; done) | (refine a_seq ?_; (apply a_region; (case ht=>exact .cons (o_assign rfl)<|.nil _); (case hd=>kernel_rfl); (case hnew=>kernel_rfl)); refine a_ret ?_; ((refine a_post (ResV.r1 (ResOk.tmp rfl)) (DLe.of_eq ?_) (PostOk.consE rfl ?_ PostOk.nil).spec) <;> ((simp [Rd.int,hd,constDV])))))); (case hf=>intro c2; (first | (cases c2; done) | (exact absurd c2 (by decide)) | (exfalso; simp at c2; done) | (refine a_skip ?_; refine a_seq ?_; (apply a_region; (case ht=>exact .cons (o_move rfl)<|.cons (o_assign rfl)<|.nil _); (case hd=>kernel_rfl); (case hnew=>kernel_rfl)); refine a_ret ?_; ((refine a_post (ResV.r1 (ResOk.tmp rfl)) (DLe.of_eq ?_) (PostOk.consE rfl ?_ PostOk.nil).spec) <;> ((simp [Rd.int,hd,constDV]))))))))))))
 ·refine ACall.body Tryz.func121 Tryz.ntmps121 rfl rfl rfl rfl ?_
  (refine a_seq ?_; (apply a_region; (case ht=>exact .cons (o_assign rfl)<|.nil _); (case hd=>kernel_rfl); (case hnew=>kernel_rfl)); refine a_seq ?_; refine a_seq ?_; (apply a_region; (case ht=>exact .cons (o_move rfl)<|.cons (o_callA (fun _=>100000) (open_c ⟨xs,err⟩) rfl (DLeL.refl _) (PreOk.cons rfl PreOk.nil) rfl)<|.cons (o_not rfl)<|.nil _); (case hd=>kernel_rfl); (case hnew=>kernel_rfl)); (apply a_cond _ rfl; (case ht=>intro c1; (first | (cases c1; done) | (exact absurd c1 (by decide)) | (exfalso; simp [he] at c1; done) | (refine a_seq ?_; (apply a_region; (case ht=>exact .cons (o_assign rfl)<|.nil _); (case hd=>kernel_rfl); (case hnew=>kernel_rfl)); refine a_ret ?_; ((refine a_post (ResV.r1 (ResOk.tmp rfl)) (DLe.of_eq ?_) (PostOk.consE rfl ?_ PostOk.nil).spec) <;> ((simp [Rd.int,he,constDV])))))); (case hf=>intro c1; (first | (cases c1; done) | (exact absurd c1 (by decide)) | (exfalso; simp [he] at c1; done) | (refine a_skip ?_; refine a_seq ?_; (apply a_region; (case ht=>((apply tc; (case h=>exact o_move rfl)); (apply tc; (case h=>exact o_nilCheck rfl)); (apply tc; (case h=>(first | (exact o_fieldAddr rfl) | (exact o_fieldAddr_e rfl rfl) | (exact o_fieldAddr_p rfl)))); (apply tc; (case h=>(first | (exact o_callA (fun _=>100000) (open_c ⟨xs,err⟩) rfl (DLeL.refl _) (PreOk.cons rfl PreOk.nil) rfl) | (exact o_load_s rfl rfl rfl) | (exact o_load_es rfl rfl) | (exact o_load_ps rfl rfl rfl rfl rfl)))); (apply tc; (case h=>exact o_callA (fun _=>100000) (open_c ⟨xs,err⟩) rfl (DLeL.refl _) (PreOk.cons rfl PreOk.nil) rfl)); (apply tc; (case h=>exact o_move rfl)); (apply tc; (case h=>exact o_extract rfl rfl)); (apply tc; (case h=>exact o_extract rfl rfl)); (apply tc; (case h=>exact o_extract rfl rfl)); (apply tc; (case h=>exact o_assign rfl)); (apply tc; (case h=>exact o_assign rfl)); (apply tc; (case h=>exact o_assign rfl)); exact tn)); (case hd=>kernel_rfl); (case hnew=>kernel_rfl)); refine a_seq ?_; refine a_seq ?_; (apply a_region; (case ht=>exact .cons (o_move rfl)<|.cons (o_move rfl)<|.cons (o_move rfl)<|.cons (o_callA (fun _=>100000) (open_c ⟨xs,err⟩) rfl (DLeL.refl _) (PreOk.cons rfl PreOk.nil) rfl)<|.cons (o_not rfl)<|.nil _); (case hd=>kernel_rfl); (case hnew=>kernel_rfl)); (apply a_cond _ rfl; (case ht=>intro c2; (first | (cases c2; done) | (exact absurd c2 (by decide)) | (exfalso; simp [he] at c2; done) | (refine a_seq ?_; (apply a_region; (case ht=>exact .cons (o_assign rfl)<|.nil _); (case hd=>kernel_rfl); (case hnew=>kernel_rfl)); refine a_ret ?_; ((refine a_post (ResV.r1 (ResOk.tmp rfl)) (DLe.of_eq ?_) (PostOk.consE rfl ?_ PostOk.nil).spec) <;> ((simp [Rd.int,he,constDV])))))); (case hf=>intro c2; (first | (cases c2; done) | (exact absurd c2 (by decide)) | (exfalso; simp [he] at c2; done) | (refine a_skip ?_; refine a_seq ?_; (apply a_region; (case ht=>exact .cons (o_move rfl)<|.cons (o_assign rfl)<|.nil _); (case hd=>kernel_rfl); (case hnew=>kernel_rfl)); refine a_ret ?_; ((refine a_post (ResV.r1 (ResOk.tmp rfl)) (DLe.of_eq ?_) (PostOk.consE rfl ?_ PostOk.nil).spec) <;> ((simp [Rd.int,he,constDV]))))))))))))
theorem rByte_c (r : Rd) (hr : RdOk r) : ACall Tryz.prog 88 ⟨[.ref 100000 0],[(100000,some (rdE r))],.int .u8 r.byte.1,[(100000,some (rdE r.byte.2))],[]⟩ := by
 obtain ⟨xs,err⟩ := r
 by_cases he : err = 0
 ·subst he
  cases xs with
  | nil=>
   refine ACall.body Tryz.func88 Tryz.ntmps88 rfl rfl rfl rfl ?_
   (refine a_seq ?_; (apply a_region; (case ht=>exact .cons (o_assign rfl)<|.nil _); (case hd=>kernel_rfl); (case hnew=>kernel_rfl)); refine a_seq ?_; refine a_seq ?_; (apply a_region; (case ht=>exact .cons (o_move rfl)<|.cons (o_callA (fun _=>100000) (open_c ⟨[],0⟩) rfl (DLeL.refl _) (PreOk.cons rfl PreOk.nil) rfl)<|.cons (o_not rfl)<|.nil _); (case hd=>kernel_rfl); (case hnew=>kernel_rfl)); (apply a_cond _ rfl; (case ht=>intro c1; (first | (cases c1; done) | (exact absurd c1 (by decide)) | (exfalso; simp at c1; done) | (refine a_seq ?_; (apply a_region; (case ht=>exact .cons (o_assign rfl)<|.nil _); (case hd=>kernel_rfl); (case hnew=>kernel_rfl)); refine a_ret ?_; ((refine a_post (ResV.r1 (ResOk.tmp rfl)) (DLe.of_eq ?_) (PostOk.consE rfl ?_ PostOk.nil).spec) <;> ((simp [constDV,layD,DV.cs,renL,DV.ren,HE.ren,u8s,rdE,List.set,List.take_of_length_le,Rd.byte])))))); (case hf=>intro c1; (first | (cases c1; done) | (exact absurd c1 (by decide)) | (exfalso; simp at c1; done) | (refine a_skip ?_; refine a_seq ?_; refine a_seq ?_; (apply a_region; (case ht=>((apply tc; (case h=>exact o_move rfl)); (apply tc; (case h=>exact o_nilCheck rfl)); (apply tc; (case h=>(first | (exact o_fieldAddr rfl) | (exact o_fieldAddr_e rfl rfl) | (exact o_fieldAddr_p rfl)))); (apply tc; (case h=>(first | (exact o_callA (fun _=>100000) (open_c ⟨[],0⟩) rfl (DLeL.refl _) (PreOk.cons rfl PreOk.nil) rfl) | (exact o_load_s rfl rfl rfl) | (exact o_load_es rfl rfl) | (exact o_load_ps rfl rfl rfl rfl rfl)))); (apply tc; (case h=>(first | (exact o_callA (fun _=>100000) (open_c ⟨[],0⟩) rfl (DLeL.refl _) (PreOk.cons rfl PreOk.nil) rfl) | (exact o_len rfl) | (exact o_len_r rfl rfl) | (exact o_len_n rfl)))); (apply tc; (case h=>exact o_int rfl rfl rfl)); exact tn)); (case hd=>kernel_rfl); (case hnew=>kernel_rfl)); (apply a_cond _ rfl; (case ht=>intro c2; (first | (cases c2; done) | (exact absurd c2 (by decide)) | (exfalso; simp at c2; done) | (refine a_seq ?_; (apply a_region; (case ht=>((apply tc; (case h=>exact o_move rfl)); (apply tc; (case h=>exact o_nilCheck rfl)); (apply tc; (case h=>(first | (exact o_fieldAddr rfl) | (exact o_fieldAddr_e rfl rfl) | (exact o_fieldAddr_p rfl)))); (apply tc; (case h=>(first | (exact o_callA (fun _=>100000) (open_c ⟨[],0⟩) rfl (DLeL.refl _) (PreOk.cons rfl PreOk.nil) rfl) | (exact o_store_s rfl rfl rfl rfl rfl)))); exact tn)); (case hd=>kernel_rfl); (case hnew=>kernel_rfl)); refine a_seq ?_; (apply a_region; (case ht=>exact .cons (o_assign rfl)<|.nil _); (case hd=>kernel_rfl); (case hnew=>kernel_rfl)); refine a_ret ?_; ((refine a_post (ResV.r1 (ResOk.tmp rfl)) (DLe.of_eq ?_) (PostOk.consE rfl ?_ PostOk.nil).spec) <;> ((simp [constDV,layD,DV.cs,renL,DV.ren,HE.ren,u8s,rdE,List.set,List.take_of_length_le,Rd.byte])))))); (case hf=>intro c2; (first | (cases c2; done) | (exact absurd c2 (by decide)) | (exfalso; simp at c2; done) | (refine a_skip ?_; refine a_seq ?_; (apply a_region; (case ht=>((apply tc; (case h=>exact o_move rfl)); (apply tc; (case h=>exact o_nilCheck rfl)); (apply tc; (case h=>(first | (exact o_fieldAddr rfl) | (exact o_fieldAddr_e rfl rfl) | (exact o_fieldAddr_p rfl)))); (apply tc; (case h=>(first | (exact o_callA (fun _=>100000) (open_c ⟨[],0⟩) rfl (DLeL.refl _) (PreOk.cons rfl PreOk.nil) rfl) | (exact o_load_s rfl rfl rfl) | (exact o_load_es rfl rfl) | (exact o_load_ps rfl rfl rfl rfl rfl)))); (apply tc; (case h=>(first | (exact o_callA (fun _=>100000) (open_c ⟨[],0⟩) rfl (DLeL.refl _) (PreOk.cons rfl PreOk.nil) rfl) | (exact o_indexAddr _ rfl rfl rfl (by assumption) rfl) | (exact o_indexAddr_r _ rfl rfl rfl rfl (by omega)) | (exact o_indexAddr_a _ rfl rfl rfl (by omega))))); (apply tc; (case h=>(first | (exact o_callA (fun _=>100000) (open_c ⟨[],0⟩) rfl (DLeL.refl _) (PreOk.cons rfl PreOk.nil) rfl) | (exact o_load_s rfl rfl rfl) | (exact o_load_es rfl rfl) | (exact o_load_ps rfl rfl rfl rfl rfl)))); (apply tc; (case h=>exact o_assign rfl)); exact tn)); (case hd=>kernel_rfl); (case hnew=>kernel_rfl)); refine a_seq ?_; (apply a_region; (case ht=>((apply tc; (case h=>exact o_move rfl)); (apply tc; (case h=>exact o_move rfl)); (apply tc; (case h=>exact o_nilCheck rfl)); (apply tc; (case h=>(first | (exact o_fieldAddr rfl) | (exact o_fieldAddr_e rfl rfl) | (exact o_fieldAddr_p rfl)))); (apply tc; (case h=>(first | (exact o_callA (fun _=>100000) (open_c ⟨[],0⟩) rfl (DLeL.refl _) (PreOk.cons rfl PreOk.nil) rfl) | (exact o_load_s rfl rfl rfl) | (exact o_load_es rfl rfl) | (exact o_load_ps rfl rfl rfl rfl rfl)))); (apply tc; (case h=>(first | (exact o_callA (fun _=>100000) (open_c ⟨[],0⟩) rfl (DLeL.refl _) (PreOk.cons rfl PreOk.nil) rfl) | (exact o_slice _ _ rfl (Bd.at rfl rfl) Bd.no (by omega) (by omega)) | (exact o_slice _ _ rfl Bd.no (Bd.at rfl rfl) (by omega) (by omega)) | (exact o_slice _ _ rfl (Bd.at rfl rfl) (Bd.at rfl rfl) (by omega) (by omega))))); (apply tc; (case h=>exact o_nilCheck rfl)); (apply tc; (case h=>(first | (exact o_fieldAddr rfl) | (exact o_fieldAddr_e rfl rfl) | (exact o_fieldAddr_p rfl)))); (apply tc; (case h=>(first | (exact o_callA (fun _=>100000) (open_c ⟨[],0⟩) rfl (DLeL.refl _) (PreOk.cons rfl PreOk.nil) rfl) | (exact o_store_s rfl rfl rfl rfl rfl)))); exact tn)); (case hd=>kernel_rfl); (case hnew=>kernel_rfl)); refine a_seq ?_; (apply a_region; (case ht=>exact .cons (o_move rfl)<|.cons (o_assign rfl)<|.nil _); (case hd=>kernel_rfl); (case hnew=>kernel_rfl)); refine a_ret ?_; ((refine a_post (ResV.r1 (ResOk.tmp rfl)) (DLe.of_eq ?_) (PostOk.consE rfl ?_ PostOk.nil).spec) <;> ((simp [constDV,layD,DV.cs,renL,DV.ren,HE.ren,u8s,rdE,List.set,List.take_of_length_le,Rd.byte]))))))))))))
  | cons b rest=>
   have hl:=hr.len
   refine ACall.body Tryz.func88 Tryz.ntmps88 rfl rfl rfl rfl ?_
   (refine a_seq ?_; (apply a_region; (case ht=>exact .cons (o_assign rfl)<|.nil _); (case hd=>kernel_rfl); (case hnew=>kernel_rfl)); refine a_seq ?_; refine a_seq ?_; (apply a_region; (case ht=>((apply tc; (case h=>exact o_move rfl)); (apply tc; (case h=>(first | (exact o_callA (fun _=>100000) (open_c ⟨b :: rest,0⟩) rfl (DLeL.refl _) (PreOk.cons rfl PreOk.nil) rfl) | (exact o_indexAddr 0 rfl rfl rfl rfl rfl) | (exact o_slice 1 _ rfl (Bd.at rfl rfl) Bd.no (by simp) (by simp))))); (apply tc; (case h=>exact o_not rfl)); exact tn)); (case hd=>kernel_rfl); (case hnew=>kernel_rfl)); (apply a_cond _ rfl; (case ht=>intro c1; (first | (cases c1; done) | (exact absurd c1 (by decide)) | (exfalso; simp at c1; omega; done) | (refine a_seq ?_; (apply a_region; (case ht=>exact .cons (o_assign rfl)<|.nil _); (case hd=>kernel_rfl); (case hnew=>kernel_rfl)); refine a_ret ?_; ((refine a_post (ResV.r1 (ResOk.tmp rfl)) (DLe.of_eq ?_) (PostOk.consE rfl ?_ PostOk.nil).spec) <;> ((simp [constDV,layD,DV.cs,renL,DV.ren,HE.ren,u8s,rdE,List.set,List.take_of_length_le,Rd.byte])))))); (case hf=>intro c1; (first | (cases c1; done) | (exact absurd c1 (by decide)) | (exfalso; simp at c1; omega; done) | (refine a_skip ?_; refine a_seq ?_; refine a_seq ?_; (apply a_region; (case ht=>((apply tc; (case h=>exact o_move rfl)); (apply tc; (case h=>exact o_nilCheck rfl)); (apply tc; (case h=>(first | (exact o_fieldAddr rfl) | (exact o_fieldAddr_e rfl rfl) | (exact o_fieldAddr_p rfl)))); (apply tc; (case h=>(first | (exact o_callA (fun _=>100000) (open_c ⟨b :: rest,0⟩) rfl (DLeL.refl _) (PreOk.cons rfl PreOk.nil) rfl) | (exact o_indexAddr 0 rfl rfl rfl rfl rfl) | (exact o_slice 1 _ rfl (Bd.at rfl rfl) Bd.no (by simp) (by simp)) | (exact o_load_s rfl rfl rfl) | (exact o_load_es rfl rfl) | (exact o_load_ps rfl rfl rfl rfl rfl)))); (apply tc; (case h=>(first | (exact o_callA (fun _=>100000) (open_c ⟨b :: rest,0⟩) rfl (DLeL.refl _) (PreOk.cons rfl PreOk.nil) rfl) | (exact o_indexAddr 0 rfl rfl rfl rfl rfl) | (exact o_slice 1 _ rfl (Bd.at rfl rfl) Bd.no (by simp) (by simp)) | (exact o_len rfl) | (exact o_len_r rfl rfl) | (exact o_len_n rfl)))); (apply tc; (case h=>exact o_int rfl rfl rfl)); exact tn)); (case hd=>kernel_rfl); (case hnew=>kernel_rfl)); (apply a_cond _ rfl; (case ht=>intro c2; (first | (cases c2; done) | (exact absurd c2 (by decide)) | (exfalso; simp at c2; omega; done) | (refine a_seq ?_; (apply a_region; (case ht=>((apply tc; (case h=>exact o_move rfl)); (apply tc; (case h=>exact o_nilCheck rfl)); (apply tc; (case h=>(first | (exact o_fieldAddr rfl) | (exact o_fieldAddr_e rfl rfl) | (exact o_fieldAddr_p rfl)))); (apply tc; (case h=>(first | (exact o_callA (fun _=>100000) (open_c ⟨b :: rest,0⟩) rfl (DLeL.refl _) (PreOk.cons rfl PreOk.nil) rfl) | (exact o_indexAddr 0 rfl rfl rfl rfl rfl) | (exact o_slice 1 _ rfl (Bd.at rfl rfl) Bd.no (by simp) (by simp)) | (exact o_store_s rfl rfl rfl rfl rfl)))); exact tn)); (case hd=>kernel_rfl); (case hnew=>kernel_rfl)); refine a_seq ?_; (apply a_region; (case ht=>exact .cons (o_assign rfl)<|.nil _); (case hd=>kernel_rfl); (case hnew=>kernel_rfl)); refine a_ret ?_; ((refine a_post (ResV.r1 (ResOk.tmp rfl)) (DLe.of_eq ?_) (PostOk.consE rfl ?_ PostOk.nil).spec) <;> ((simp [constDV,layD,DV.cs,renL,DV.ren,HE.ren,u8s,rdE,List.set,List.take_of_length_le,Rd.byte])))))); (case hf=>intro c2; (first | (cases c2; done) | (exact absurd c2 (by decide)) | (exfalso; simp at c2; omega; done) | (refine a_skip ?_; refine a_seq ?_; (apply a_region; (case ht=>((apply tc; (case h=>exact o_move rfl)); (apply tc; (case h=>exact o_nilCheck rfl)); (apply tc; (case h=>(first | (exact o_fieldAddr rfl) | (exact o_fieldAddr_e rfl rfl) | (exact o_fieldAddr_p rfl)))); (apply tc; (case h=>(first | (exact o_callA (fun _=>100000) (open_c ⟨b :: rest,0⟩) rfl (DLeL.refl _) (PreOk.cons rfl PreOk.nil) rfl) | (exact o_indexAddr 0 rfl rfl rfl rfl rfl) | (exact o_slice 1 _ rfl (Bd.at rfl rfl) Bd.no (by simp) (by simp)) | (exact o_load_s rfl rfl rfl) | (exact o_load_es rfl rfl) | (exact o_load_ps rfl rfl rfl rfl rfl)))); (apply tc; (case h=>(first | (exact o_callA (fun _=>100000) (open_c ⟨b :: rest,0⟩) rfl (DLeL.refl _) (PreOk.cons rfl PreOk.nil) rfl) | (exact o_indexAddr 0 rfl rfl rfl rfl rfl) | (exact o_slice 1 _ rfl (Bd.at rfl rfl) Bd.no (by simp) (by simp)) | (exact o_indexAddr _ rfl rfl rfl (by assumption) rfl) | (exact o_indexAddr_r _ rfl rfl rfl rfl (by omega)) | (exact o_indexAddr_a _ rfl rfl rfl (by omega))))); (apply tc; (case h=>(first | (exact o_callA (fun _=>100000) (open_c ⟨b :: rest,0⟩) rfl (DLeL.refl _) (PreOk.cons rfl PreOk.nil) rfl) | (exact o_indexAddr 0 rfl rfl rfl rfl rfl) | (exact o_slice 1 _ rfl (Bd.at rfl rfl) Bd.no (by simp) (by simp)) | (exact o_load_s rfl rfl rfl) | (exact o_load_es rfl rfl) | (exact o_load_ps rfl rfl rfl rfl rfl)))); (apply tc; (case h=>exact o_assign rfl)); exact tn)); (case hd=>kernel_rfl); (case hnew=>kernel_rfl)); refine a_seq ?_; (apply a_region; (case ht=>((apply tc; (case h=>exact o_move rfl)); (apply tc; (case h=>exact o_move rfl)); (apply tc; (case h=>exact o_nilCheck rfl)); (apply tc; (case h=>(first | (exact o_fieldAddr rfl) | (exact o_fieldAddr_e rfl rfl) | (exact o_fieldAddr_p rfl)))); (apply tc; (case h=>(first | (exact o_callA (fun _=>100000) (open_c ⟨b :: rest,0⟩) rfl (DLeL.refl _) (PreOk.cons rfl PreOk.nil) rfl) | (exact o_indexAddr 0 rfl rfl rfl rfl rfl) | (exact o_slice 1 _ rfl (Bd.at rfl rfl) Bd.no (by simp) (by simp)) | (exact o_load_s rfl rfl rfl) | (exact o_load_es rfl rfl) | (exact o_load_ps rfl rfl rfl rfl rfl)))); (apply tc; (case h=>(first | (exact o_callA (fun _=>100000) (open_c ⟨b :: rest,0⟩) rfl (DLeL.refl _) (PreOk.cons rfl PreOk.nil) rfl) | (exact o_indexAddr 0 rfl rfl rfl rfl rfl) | (exact o_slice 1 _ rfl (Bd.at rfl rfl) Bd.no (by simp) (by simp)) | (exact o_slice _ _ rfl (Bd.at rfl rfl) Bd.no (by omega) (by omega)) | (exact o_slice _ _ rfl Bd.no (Bd.at rfl rfl) (by omega) (by omega)) | (exact o_slice _ _ rfl (Bd.at rfl rfl) (Bd.at rfl rfl) (by omega) (by omega))))); (apply tc; (case h=>exact o_nilCheck rfl)); (apply tc; (case h=>(first | (exact o_fieldAddr rfl) | (exact o_fieldAddr_e rfl rfl) | (exact o_fieldAddr_p rfl)))); (apply tc; (case h=>(first | (exact o_callA (fun _=>100000) (open_c ⟨b :: rest,0⟩) rfl (DLeL.refl _) (PreOk.cons rfl PreOk.nil) rfl) | (exact o_indexAddr 0 rfl rfl rfl rfl rfl) | (exact o_slice 1 _ rfl (Bd.at rfl rfl) Bd.no (by simp) (by simp)) | (exact o_store_s rfl rfl rfl rfl rfl)))); exact tn)); (case hd=>kernel_rfl); (case hnew=>kernel_rfl)); refine a_seq ?_; (apply a_region; (case ht=>exact .cons (o_move rfl)<|.cons (o_assign rfl)<|.nil _); (case hd=>kernel_rfl); (case hnew=>kernel_rfl)); refine a_ret ?_; ((refine a_post (ResV.r1 (ResOk.tmp rfl)) (DLe.of_eq ?_) (PostOk.consE rfl ?_ PostOk.nil).spec) <;> ((simp [constDV,layD,DV.cs,renL,DV.ren,HE.ren,u8s,rdE,List.set,List.take_of_length_le,Rd.byte]))))))))))))
 ·refine ACall.body Tryz.func88 Tryz.ntmps88 rfl rfl rfl rfl ?_
  (refine a_seq ?_; (apply a_region; (case ht=>exact .cons (o_assign rfl)<|.nil _); (case hd=>kernel_rfl); (case hnew=>kernel_rfl)); refine a_seq ?_; refine a_seq ?_; (apply a_region; (case ht=>exact .cons (o_move rfl)<|.cons (o_callA (fun _=>100000) (open_c ⟨xs,err⟩) rfl (DLeL.refl _) (PreOk.cons rfl PreOk.nil) rfl)<|.cons (o_not rfl)<|.nil _); (case hd=>kernel_rfl); (case hnew=>kernel_rfl)); (apply a_cond _ rfl; (case ht=>intro c1; (first | (cases c1; done) | (exact absurd c1 (by decide)) | (exfalso; simp [he] at c1; done) | (refine a_seq ?_; (apply a_region; (case ht=>exact .cons (o_assign rfl)<|.nil _); (case hd=>kernel_rfl); (case hnew=>kernel_rfl)); refine a_ret ?_; ((refine a_post (ResV.r1 (ResOk.tmp rfl)) (DLe.of_eq ?_) (PostOk.consE rfl ?_ PostOk.nil).spec) <;> ((simp [Rd.byte,he,constDV])))))); (case hf=>intro c1; (first | (cases c1; done) | (exact absurd c1 (by decide)) | (exfalso; simp [he] at c1; done) | (refine a_skip ?_; refine a_seq ?_; refine a_seq ?_; (apply a_region; (case ht=>((apply tc; (case h=>exact o_move rfl)); (apply tc; (case h=>exact o_nilCheck rfl)); (apply tc; (case h=>(first | (exact o_fieldAddr rfl) | (exact o_fieldAddr_e rfl rfl) | (exact o_fieldAddr_p rfl)))); (apply tc; (case h=>(first | (exact o_callA (fun _=>100000) (open_c ⟨xs,err⟩) rfl (DLeL.refl _) (PreOk.cons rfl PreOk.nil) rfl) | (exact o_load_s rfl rfl rfl) | (exact o_load_es rfl rfl) | (exact o_load_ps rfl rfl rfl rfl rfl)))); (apply tc; (case h=>(first | (exact o_callA (fun _=>100000) (open_c ⟨xs,err⟩) rfl (DLeL.refl _) (PreOk.cons rfl PreOk.nil) rfl) | (exact o_len rfl) | (exact o_len_r rfl rfl) | (exact o_len_n rfl)))); (apply tc; (case h=>exact o_int rfl rfl rfl)); exact tn)); (case hd=>kernel_rfl); (case hnew=>kernel_rfl)); (apply a_cond _ rfl; (case ht=>intro c2; (first | (cases c2; done) | (exact absurd c2 (by decide)) | (exfalso; simp [he] at c2; done) | (refine a_seq ?_; (apply a_region; (case ht=>((apply tc; (case h=>exact o_move rfl)); (apply tc; (case h=>exact o_nilCheck rfl)); (apply tc; (case h=>(first | (exact o_fieldAddr rfl) | (exact o_fieldAddr_e rfl rfl) | (exact o_fieldAddr_p rfl)))); (apply tc; (case h=>(first | (exact o_callA (fun _=>100000) (open_c ⟨xs,err⟩) rfl (DLeL.refl _) (PreOk.cons rfl PreOk.nil) rfl) | (exact o_store_s rfl rfl rfl rfl rfl)))); exact tn)); (case hd=>kernel_rfl); (case hnew=>kernel_rfl)); refine a_seq ?_; (apply a_region; (case ht=>exact .cons (o_assign rfl)<|.nil _); (case hd=>kernel_rfl); (case hnew=>kernel_rfl)); refine a_ret ?_; ((refine a_post (ResV.r1 (ResOk.tmp rfl)) (DLe.of_eq ?_) (PostOk.consE rfl ?_ PostOk.nil).spec) <;> ((simp [Rd.byte,he,constDV])))))); (case hf=>intro c2; (first | (cases c2; done) | (exact absurd c2 (by decide)) | (exfalso; simp [he] at c2; done) | (refine a_skip ?_; refine a_seq ?_; (apply a_region; (case ht=>((apply tc; (case h=>exact o_move rfl)); (apply tc; (case h=>exact o_nilCheck rfl)); (apply tc; (case h=>(first | (exact o_fieldAddr rfl) | (exact o_fieldAddr_e rfl rfl) | (exact o_fieldAddr_p rfl)))); (apply tc; (case h=>(first | (exact o_callA (fun _=>100000) (open_c ⟨xs,err⟩) rfl (DLeL.refl _) (PreOk.cons rfl PreOk.nil) rfl) | (exact o_load_s rfl rfl rfl) | (exact o_load_es rfl rfl) | (exact o_load_ps rfl rfl rfl rfl rfl)))); (apply tc; (case h=>(first | (exact o_callA (fun _=>100000) (open_c ⟨xs,err⟩) rfl (DLeL.refl _) (PreOk.cons rfl PreOk.nil) rfl) | (exact o_indexAddr _ rfl rfl rfl (by assumption) rfl) | (exact o_indexAddr_r _ rfl rfl rfl rfl (by omega)) | (exact o_indexAddr_a _ rfl rfl rfl (by omega))))); (apply tc; (case h=>(first | (exact o_callA (fun _=>100000) (open_c ⟨xs,err⟩) rfl (DLeL.refl _) (PreOk.cons rfl PreOk.nil) rfl) | (exact o_load_s rfl rfl rfl) | (exact o_load_es rfl rfl) | (exact o_load_ps rfl rfl rfl rfl rfl)))); (apply tc; (case h=>exact o_assign rfl)); exact tn)); (case hd=>kernel_rfl); (case hnew=>kernel_rfl)); refine a_seq ?_; (apply a_region; (case ht=>((apply tc; (case h=>exact o_move rfl)); (apply tc; (case h=>exact o_move rfl)); (apply tc; (case h=>exact o_nilCheck rfl)); (apply tc; (case h=>(first | (exact o_fieldAddr rfl) | (exact o_fieldAddr_e rfl rfl) | (exact o_fieldAddr_p rfl)))); (apply tc; (case h=>(first | (exact o_callA (fun _=>100000) (open_c ⟨xs,err⟩) rfl (DLeL.refl _) (PreOk.cons rfl PreOk.nil) rfl) | (exact o_load_s rfl rfl rfl) | (exact o_load_es rfl rfl) | (exact o_load_ps rfl rfl rfl rfl rfl)))); (apply tc; (case h=>(first | (exact o_callA (fun _=>100000) (open_c ⟨xs,err⟩) rfl (DLeL.refl _) (PreOk.cons rfl PreOk.nil) rfl) | (exact o_slice _ _ rfl (Bd.at rfl rfl) Bd.no (by omega) (by omega)) | (exact o_slice _ _ rfl Bd.no (Bd.at rfl rfl) (by omega) (by omega)) | (exact o_slice _ _ rfl (Bd.at rfl rfl) (Bd.at rfl rfl) (by omega) (by omega))))); (apply tc; (case h=>exact o_nilCheck rfl)); (apply tc; (case h=>(first | (exact o_fieldAddr rfl) | (exact o_fieldAddr_e rfl rfl) | (exact o_fieldAddr_p rfl)))); (apply tc; (case h=>(first | (exact o_callA (fun _=>100000) (open_c ⟨xs,err⟩) rfl (DLeL.refl _) (PreOk.cons rfl PreOk.nil) rfl) | (exact o_store_s rfl rfl rfl rfl rfl)))); exact tn)); (case hd=>kernel_rfl); (case hnew=>kernel_rfl)); refine a_seq ?_; (apply a_region; (case ht=>exact .cons (o_move rfl)<|.cons (o_assign rfl)<|.nil _); (case hd=>kernel_rfl); (case hnew=>kernel_rfl)); refine a_ret ?_; ((refine a_post (ResV.r1 (ResOk.tmp rfl)) (DLe.of_eq ?_) (PostOk.consE rfl ?_ PostOk.nil).spec) <;> ((simp [Rd.byte,he,constDV]))))))))))))
theorem rErr_c (r : Rd) : ACall Tryz.prog 90 ⟨[.ref 100000 0],[(100000,some (rdE r))],.int .i64 r.err,[(100000,some (rdE r))],[]⟩ := by
 refine ACall.body Tryz.func90 Tryz.ntmps90 rfl rfl rfl rfl ?_
 (refine a_seq ?_; (apply a_region; (case ht=>exact .cons (o_assign rfl)<|.nil _); (case hd=>kernel_rfl); (case hnew=>kernel_rfl)); refine a_seq ?_; refine a_seq ?_; (apply a_region; (case ht=>((apply tc; (case h=>exact o_move rfl)); (apply tc; (case h=>(first | (exact o_ptr_eq rfl) | (exact o_ptr_ne rfl) | (exact o_nil_eq rfl) | (exact o_nil_ne rfl)))); exact tn)); (case hd=>kernel_rfl); (case hnew=>kernel_rfl)); (apply a_cond _ rfl; (case ht=>intro c1; (first | (cases c1; done) | (exact absurd c1 (by decide))  | (refine a_seq ?_; (apply a_region; (case ht=>exact .cons (o_assign rfl)<|.nil _); (case hd=>kernel_rfl); (case hnew=>kernel_rfl)); refine a_ret ?_; ((refine a_post (ResV.r1 (ResOk.tmp rfl)) (DLe.of_eq ?_) (PostOk.consE rfl ?_ PostOk.nil).spec) <;> (rfl))))); (case hf=>intro c1; (first | (cases c1; done) | (exact absurd c1 (by decide))  | (refine a_skip ?_; refine a_seq ?_; (apply a_region; (case ht=>((apply tc; (case h=>exact o_move rfl)); (apply tc; (case h=>exact o_nilCheck rfl)); (apply tc; (case h=>(first | (exact o_fieldAddr rfl) | (exact o_fieldAddr_e rfl rfl) | (exact o_fieldAddr_p rfl)))); (apply tc; (case h=>(first | (exact o_load_s rfl rfl rfl) | (exact o_load_es rfl rfl) | (exact o_load_ps rfl rfl rfl rfl rfl)))); (apply tc; (case h=>exact o_assign rfl)); exact tn)); (case hd=>kernel_rfl); (case hnew=>kernel_rfl)); refine a_ret ?_; ((refine a_post (ResV.r1 (ResOk.tmp rfl)) (DLe.of_eq ?_) (PostOk.consE rfl ?_ PostOk.nil).spec) <;> (rfl)))))))
theorem rLeft_c (r : Rd) : ACall Tryz.prog 91 ⟨[.ref 100000 0],[(100000,some (rdE r))],.int .i64 r.xs.length,[(100000,some (rdE r))],[]⟩ := by
 refine ACall.body Tryz.func91 Tryz.ntmps91 rfl rfl rfl rfl ?_
 (refine a_seq ?_; (apply a_region; (case ht=>exact .cons (o_assign rfl)<|.nil _); (case hd=>kernel_rfl); (case hnew=>kernel_rfl)); refine a_seq ?_; refine a_seq ?_; (apply a_region; (case ht=>((apply tc; (case h=>exact o_move rfl)); (apply tc; (case h=>(first | (exact o_ptr_eq rfl) | (exact o_ptr_ne rfl) | (exact o_nil_eq rfl) | (exact o_nil_ne rfl)))); exact tn)); (case hd=>kernel_rfl); (case hnew=>kernel_rfl)); (apply a_cond _ rfl; (case ht=>intro c1; (first | (cases c1; done) | (exact absurd c1 (by decide))  | (refine a_seq ?_; (apply a_region; (case ht=>exact .cons (o_assign rfl)<|.nil _); (case hd=>kernel_rfl); (case hnew=>kernel_rfl)); refine a_ret ?_; ((refine a_post (ResV.r1 (ResOk.tmp rfl)) (DLe.of_eq ?_) (PostOk.consE rfl ?_ PostOk.nil).spec) <;> ((first | rfl | simp)))))); (case hf=>intro c1; (first | (cases c1; done) | (exact absurd c1 (by decide))  | (refine a_skip ?_; refine a_seq ?_; (apply a_region; (case ht=>((apply tc; (case h=>exact o_move rfl)); (apply tc; (case h=>exact o_nilCheck rfl)); (apply tc; (case h=>(first | (exact o_fieldAddr rfl) | (exact o_fieldAddr_e rfl rfl) | (exact o_fieldAddr_p rfl)))); (apply tc; (case h=>(first | (exact o_load_s rfl rfl rfl) | (exact o_load_es rfl rfl) | (exact o_load_ps rfl rfl rfl rfl rfl)))); (apply tc; (case h=>(first | (exact o_len rfl) | (exact o_len_r rfl rfl) | (exact o_len_n rfl)))); (apply tc; (case h=>exact o_assign rfl)); exact tn)); (case hd=>kernel_rfl); (case hnew=>kernel_rfl)); refine a_ret ?_; ((refine a_post (ResV.r1 (ResOk.tmp rfl)) (DLe.of_eq ?_) (PostOk.consE rfl ?_ PostOk.nil).spec) <;> ((first | rfl | simp))))))))
theorem rEnd_c (r : Rd) : ACall Tryz.prog 94 ⟨[.ref 100000 0],[(100000,some (rdE r))],.int .i64 r.fin,[(100000,some (rdE r))],[]⟩ := by
 obtain ⟨xs,err⟩ := r
 by_cases he : err = 0
 ·subst he
  cases xs with
  | nil=>
   refine ACall.body Tryz.func94 Tryz.ntmps94 rfl rfl rfl rfl ?_
   (refine a_seq ?_; (apply a_region; (case ht=>exact .cons (o_assign rfl)<|.nil _); (case hd=>kernel_rfl); (case hnew=>kernel_rfl)); refine a_seq ?_; refine a_seq ?_; (apply a_region; (case ht=>exact .cons (o_move rfl)<|.cons (o_callA (fun _=>100000) (rErr_c ⟨[],0⟩) rfl (DLeL.refl _) (PreOk.cons rfl PreOk.nil) rfl)<|.cons (o_assign rfl)<|.nil _); (case hd=>kernel_rfl); (case hnew=>kernel_rfl)); refine a_seq ?_; (apply a_region; (case ht=>((apply tc; (case h=>exact o_move rfl)); (apply tc; (case h=>exact o_int rfl rfl rfl)); (apply tc; (case h=>exact o_move rfl)); (apply tc; (case h=>(apply o_guardF rfl rfl; (case hS=>intro hb; exact (Strips.keep Strips.nil)); (case h=>intro hb; (first | (exact o_move rfl) | (exact o_callA (fun _=>100000) (rErr_c ⟨[],0⟩) rfl (DLeL.refl _) (PreOk.cons rfl PreOk.nil) rfl)))))); (apply tc; (case h=>(apply o_guardF rfl rfl; (case hS=>intro hb; exact (Strips.strip rfl (nt hb) Strips.nil)); (case h=>intro hb; (first | (exact o_nilCheck rfl) | (exact o_callA (fun _=>100000) (rErr_c ⟨[],0⟩) rfl (DLeL.refl _) (PreOk.cons rfl PreOk.nil) rfl)))))); (apply tc; (case h=>(apply o_guardF rfl rfl; (case hS=>intro hb; exact (Strips.strip rfl (nt hb) Strips.nil)); (case h=>intro hb; (first | (exact o_fieldAddr rfl) | (exact o_fieldAddr_e rfl rfl) | (exact o_fieldAddr_p rfl) | (exact o_callA (fun _=>100000) (rErr_c ⟨[],0⟩) rfl (DLeL.refl _) (PreOk.cons rfl PreOk.nil) rfl)))))); (apply tc; (case h=>(apply o_guardF rfl rfl; (case hS=>intro hb; exact (Strips.strip rfl (nt hb) Strips.nil)); (case h=>intro hb; (first | (exact o_callA (fun _=>100000) (rErr_c ⟨[],0⟩) rfl (DLeL.refl _) (PreOk.cons rfl PreOk.nil) rfl) | (exact o_load_s rfl rfl rfl) | (exact o_load_es rfl rfl) | (exact o_load_ps rfl rfl rfl rfl rfl)))))); (apply tc; (case h=>(apply o_guardF rfl rfl; (case hS=>intro hb; exact (Strips.strip rfl (nt hb) Strips.nil)); (case h=>intro hb; (first | (exact o_callA (fun _=>100000) (rErr_c ⟨[],0⟩) rfl (DLeL.refl _) (PreOk.cons rfl PreOk.nil) rfl) | (exact o_len rfl) | (exact o_len_r rfl rfl) | (exact o_len_n rfl)))))); (apply tc; (case h=>(apply o_guardF rfl rfl; (case hS=>intro hb; exact (Strips.strip rfl (nt hb) Strips.nil)); (case h=>intro hb; (first | (exact o_int rfl rfl rfl) | (exact o_callA (fun _=>100000) (rErr_c ⟨[],0⟩) rfl (DLeL.refl _) (PreOk.cons rfl PreOk.nil) rfl)))))); (apply tc; (case h=>(first | (exact o_and rfl rfl) | (exact o_or rfl rfl)))); exact tn)); (case hd=>kernel_rfl); (case hnew=>kernel_rfl)); (apply a_cond _ rfl; (case ht=>intro c1; (first | (cases c1; done) | (exact absurd c1 (by decide)) | (exfalso; simp at c1; done) | (refine a_seq ?_; (apply a_region; (case ht=>exact .cons (o_move rfl)<|.cons (o_assign rfl)<|.nil _); (case hd=>kernel_rfl); (case hnew=>kernel_rfl)); refine a_ret ?_; ((refine a_post (ResV.r1 (ResOk.tmp rfl)) (DLe.of_eq ?_) (PostOk.consE rfl ?_ PostOk.nil).spec) <;> ((simp [constDV,layD,DV.cs,renL,DV.ren,HE.ren,u8s,rdE,List.set,List.take_of_length_le,Rd.fin])))))); (case hf=>intro c1; (first | (cases c1; done) | (exact absurd c1 (by decide)) | (exfalso; simp at c1; done) | (refine a_skip ?_; refine a_seq ?_; (apply a_region; (case ht=>exact .cons (o_assign rfl)<|.nil _); (case hd=>kernel_rfl); (case hnew=>kernel_rfl)); refine a_ret ?_; ((refine a_post (ResV.r1 (ResOk.tmp rfl)) (DLe.of_eq ?_) (PostOk.consE rfl ?_ PostOk.nil).spec) <;> ((simp [constDV,layD,DV.cs,renL,DV.ren,HE.ren,u8s,rdE,List.set,List.take_of_length_le,Rd.fin]))))))))
  | cons b rest=>
   refine ACall.body Tryz.func94 Tryz.ntmps94 rfl rfl rfl rfl ?_
   (refine a_seq ?_; (apply a_region; (case ht=>exact .cons (o_assign rfl)<|.nil _); (case hd=>kernel_rfl); (case hnew=>kernel_rfl)); refine a_seq ?_; refine a_seq ?_; (apply a_region; (case ht=>exact .cons (o_move rfl)<|.cons (o_callA (fun _=>100000) (rErr_c ⟨b :: rest,0⟩) rfl (DLeL.refl _) (PreOk.cons rfl PreOk.nil) rfl)<|.cons (o_assign rfl)<|.nil _); (case hd=>kernel_rfl); (case hnew=>kernel_rfl)); refine a_seq ?_; (apply a_region; (case ht=>((apply tc; (case h=>exact o_move rfl)); (apply tc; (case h=>exact o_int rfl rfl rfl)); (apply tc; (case h=>exact o_move rfl)); (apply tc; (case h=>(apply o_guardF rfl rfl; (case hS=>intro hb; exact (Strips.keep Strips.nil)); (case h=>intro hb; (first | (exact o_move rfl) | (exact o_callA (fun _=>100000) (rErr_c ⟨b :: rest,0⟩) rfl (DLeL.refl _) (PreOk.cons rfl PreOk.nil) rfl)))))); (apply tc; (case h=>(apply o_guardF rfl rfl; (case hS=>intro hb; exact (Strips.strip rfl (nt hb) Strips.nil)); (case h=>intro hb; (first | (exact o_nilCheck rfl) | (exact o_callA (fun _=>100000) (rErr_c ⟨b :: rest,0⟩) rfl (DLeL.refl _) (PreOk.cons rfl PreOk.nil) rfl)))))); (apply tc; (case h=>(apply o_guardF rfl rfl; (case hS=>intro hb; exact (Strips.strip rfl (nt hb) Strips.nil)); (case h=>intro hb; (first | (exact o_fieldAddr rfl) | (exact o_fieldAddr_e rfl rfl) | (exact o_fieldAddr_p rfl) | (exact o_callA (fun _=>100000) (rErr_c ⟨b :: rest,0⟩) rfl (DLeL.refl _) (PreOk.cons rfl PreOk.nil) rfl)))))); (apply tc; (case h=>(apply o_guardF rfl rfl; (case hS=>intro hb; exact (Strips.strip rfl (nt hb) Strips.nil)); (case h=>intro hb; (first | (exact o_callA (fun _=>100000) (rErr_c ⟨b :: rest,0⟩) rfl (DLeL.refl _) (PreOk.cons rfl PreOk.nil) rfl) | (exact o_load_s rfl rfl rfl) | (exact o_load_es rfl rfl) | (exact o_load_ps rfl rfl rfl rfl rfl)))))); (apply tc; (case h=>(apply o_guardF rfl rfl; (case hS=>intro hb; exact (Strips.strip rfl (nt hb) Strips.nil)); (case h=>intro hb; (first | (exact o_callA (fun _=>100000) (rErr_c ⟨b :: rest,0⟩) rfl (DLeL.refl _) (PreOk.cons rfl PreOk.nil) rfl) | (exact o_len rfl) | (exact o_len_r rfl rfl) | (exact o_len_n rfl)))))); (apply tc; (case h=>(apply o_guardF rfl rfl; (case hS=>intro hb; exact (Strips.strip rfl (nt hb) Strips.nil)); (case h=>intro hb; (first | (exact o_int rfl rfl rfl) | (exact o_callA (fun _=>100000) (rErr_c ⟨b :: rest,0⟩) rfl (DLeL.refl _) (PreOk.cons rfl PreOk.nil) rfl)))))); (apply tc; (case h=>(first | (exact o_and rfl rfl) | (exact o_or rfl rfl)))); exact tn)); (case hd=>kernel_rfl); (case hnew=>kernel_rfl)); (apply a_cond _ rfl; (case ht=>intro c1; (first | (cases c1; done) | (exact absurd c1 (by decide)) | (exfalso; simp at c1; omega; done) | (refine a_seq ?_; (apply a_region; (case ht=>exact .cons (o_move rfl)<|.cons (o_assign rfl)<|.nil _); (case hd=>kernel_rfl); (case hnew=>kernel_rfl)); refine a_ret ?_; ((refine a_post (ResV.r1 (ResOk.tmp rfl)) (DLe.of_eq ?_) (PostOk.consE rfl ?_ PostOk.nil).spec) <;> ((simp [constDV,layD,DV.cs,renL,DV.ren,HE.ren,u8s,rdE,List.set,List.take_of_length_le,Rd.fin])))))); (case hf=>intro c1; (first | (cases c1; done) | (exact absurd c1 (by decide)) | (exfalso; simp at c1; omega; done) | (refine a_skip ?_; refine a_seq ?_; (apply a_region; (case ht=>exact .cons (o_assign rfl)<|.nil _); (case hd=>kernel_rfl); (case hnew=>kernel_rfl)); refine a_ret ?_; ((refine a_post (ResV.r1 (ResOk.tmp rfl)) (DLe.of_eq ?_) (PostOk.consE rfl ?_ PostOk.nil).spec) <;> ((simp [constDV,layD,DV.cs,renL,DV.ren,HE.ren,u8s,rdE,List.set,List.take_of_length_le,Rd.fin]))))))))
 ·refine ACall.body Tryz.func94 Tryz.ntmps94 rfl rfl rfl rfl ?_
  (refine a_seq ?_; (apply a_region; (case ht=>exact .cons (o_assign rfl)<|.nil _); (case hd=>kernel_rfl); (case hnew=>kernel_rfl)); refine a_seq ?_; refine a_seq ?_; (apply a_region; (case ht=>exact .cons (o_move rfl)<|.cons (o_callA (fun _=>100000) (rErr_c ⟨xs,err⟩) rfl (DLeL.refl _) (PreOk.cons rfl PreOk.nil) rfl)<|.cons (o_assign rfl)<|.nil _); (case hd=>kernel_rfl); (case hnew=>kernel_rfl)); refine a_seq ?_; (apply a_region; (case ht=>((apply tc; (case h=>exact o_move rfl)); (apply tc; (case h=>exact o_int rfl rfl rfl)); (apply tc; (case h=>exact o_move rfl)); (apply tc; (case h=>(apply o_guardF rfl rfl; (case hS=>intro hb; exact (Strips.keep Strips.nil)); (case h=>intro hb; (first | (exact o_move rfl) | (exact o_callA (fun _=>100000) (rErr_c ⟨xs,err⟩) rfl (DLeL.refl _) (PreOk.cons rfl PreOk.nil) rfl)))))); (apply tc; (case h=>(apply o_guardF rfl rfl; (case hS=>intro hb; exact (Strips.strip rfl (nt hb) Strips.nil)); (case h=>intro hb; (first | (exact o_nilCheck rfl) | (exact o_callA (fun _=>100000) (rErr_c ⟨xs,err⟩) rfl (DLeL.refl _) (PreOk.cons rfl PreOk.nil) rfl)))))); (apply tc; (case h=>(apply o_guardF rfl rfl; (case hS=>intro hb; exact (Strips.strip rfl (nt hb) Strips.nil)); (case h=>intro hb; (first | (exact o_fieldAddr rfl) | (exact o_fieldAddr_e rfl rfl) | (exact o_fieldAddr_p rfl) | (exact o_callA (fun _=>100000) (rErr_c ⟨xs,err⟩) rfl (DLeL.refl _) (PreOk.cons rfl PreOk.nil) rfl)))))); (apply tc; (case h=>(apply o_guardF rfl rfl; (case hS=>intro hb; exact (Strips.strip rfl (nt hb) Strips.nil)); (case h=>intro hb; (first | (exact o_callA (fun _=>100000) (rErr_c ⟨xs,err⟩) rfl (DLeL.refl _) (PreOk.cons rfl PreOk.nil) rfl) | (exact o_load_s rfl rfl rfl) | (exact o_load_es rfl rfl) | (exact o_load_ps rfl rfl rfl rfl rfl)))))); (apply tc; (case h=>(apply o_guardF rfl rfl; (case hS=>intro hb; exact (Strips.strip rfl (nt hb) Strips.nil)); (case h=>intro hb; (first | (exact o_callA (fun _=>100000) (rErr_c ⟨xs,err⟩) rfl (DLeL.refl _) (PreOk.cons rfl PreOk.nil) rfl) | (exact o_len rfl) | (exact o_len_r rfl rfl) | (exact o_len_n rfl)))))); (apply tc; (case h=>(apply o_guardF rfl rfl; (case hS=>intro hb; exact (Strips.strip rfl (nt hb) Strips.nil)); (case h=>intro hb; (first | (exact o_int rfl rfl rfl) | (exact o_callA (fun _=>100000) (rErr_c ⟨xs,err⟩) rfl (DLeL.refl _) (PreOk.cons rfl PreOk.nil) rfl)))))); (apply tc; (case h=>(first | (exact o_and rfl rfl) | (exact o_or rfl rfl)))); exact tn)); (case hd=>kernel_rfl); (case hnew=>kernel_rfl)); (apply a_cond _ rfl; (case ht=>intro c1; (first | (cases c1; done) | (exact absurd c1 (by decide)) | (exfalso; simp [he] at c1; done) | (refine a_seq ?_; (apply a_region; (case ht=>exact .cons (o_move rfl)<|.cons (o_assign rfl)<|.nil _); (case hd=>kernel_rfl); (case hnew=>kernel_rfl)); refine a_ret ?_; ((refine a_post (ResV.r1 (ResOk.tmp rfl)) (DLe.of_eq ?_) (PostOk.consE rfl ?_ PostOk.nil).spec) <;> ((simp [constDV,layD,DV.cs,renL,DV.ren,HE.ren,u8s,rdE,List.set,List.take_of_length_le,Rd.fin,he])))))); (case hf=>intro c1; (first | (cases c1; done) | (exact absurd c1 (by decide)) | (exfalso; simp [he] at c1; done) | (refine a_skip ?_; refine a_seq ?_; (apply a_region; (case ht=>exact .cons (o_assign rfl)<|.nil _); (case hd=>kernel_rfl); (case hnew=>kernel_rfl)); refine a_ret ?_; ((refine a_post (ResV.r1 (ResOk.tmp rfl)) (DLe.of_eq ?_) (PostOk.consE rfl ?_ PostOk.nil).spec) <;> ((simp [constDV,layD,DV.cs,renL,DV.ren,HE.ren,u8s,rdE,List.set,List.take_of_length_le,Rd.fin,he]))))))))
theorem newReader_c (xs : List Int) (hl : xs.length≤140737488355328) : ACall Tryz.prog 87 ⟨[u8s xs],[],.ref 7 0,[(7,some (rdE ⟨xs,0⟩))],[7]⟩ := by
 refine ACall.body Tryz.func87 Tryz.ntmps87 rfl rfl rfl rfl ?_
 refine a_seq ?_
 (apply a_region; (case ht=>exact .cons (o_assign rfl)<|.nil _); (case hd=>kernel_rfl); (case hnew=>kernel_rfl))
 refine a_seq ?_
 (apply a_region; (case ht=>((apply tc; (case h=>(first | (exact o_frz (o_append rfl rfl rfl Src.sl (by simp; omega))) | (exact o_buildSlice rfl rfl rfl rfl rfl rfl)))); (apply tc; (case h=>exact o_move rfl)); (apply tc; (case h=>(first | (exact o_frz (o_append rfl rfl rfl Src.sl (by simp; omega))) | (exact o_append rfl rfl rfl Src.sl (by simp; omega)) | (exact o_append rfl rfl rfl (Src.row rfl) (by simp; omega)) | (exact o_append_n rfl rfl Src.sl (by simp; omega)) | (exact o_append_n rfl rfl (Src.row rfl) (by simp; omega))))); (apply tc; (case h=>(first | (exact o_frz (o_append rfl rfl rfl Src.sl (by simp; omega))) | (exact o_build rfl rfl rfl)))); (apply tc; (case h=>exact o_box rfl rfl)); (apply tc; (case h=>exact o_assign rfl)); exact tn)); (case hd=>kernel_rfl); (case hnew=>kernel_rfl))
 refine a_ret ?_
 ((refine a_post (ResV.r1 (ResOk.tmp rfl)) (DLe.of_eq ?_) (PostOk.consE rfl ?_ PostOk.nil).spec) <;> (first | rfl | simp [constDV,layD,DV.cs,renL,DV.ren,HE.ren,u8s,rdE,List.set,List.take_of_length_le]))
theorem o_dead {P : Program} {ops : Array Oper} {σ : AS} {t : Nat} {op : Op} {ty : TypeId} {pos : String} {af : Array Edge} {g : Option (Nat × Bool)} (h : False) : OpG P ops ⟨some t,op,ty,pos,af,g⟩ [] [] σ ⟨[(t,.nils)],[],[]⟩ := h.elim
theorem o_deadB {P : Program} {ops : Array Oper} {σ : AS} {t : Nat} {op : BinOp} {T T' : TypeId} {x y : Operand} {ty : TypeId} {pos : String} {af : Array Edge} {g : Option (Nat × Bool)} (h : False) : OpG P ops ⟨some t,.binOp op T x y T',ty,pos,af,g⟩ [] [] σ ⟨[(t,.bool false)],[],[]⟩ := h.elim
def FSat (F : FMap) (w : World) : Prop := ∀ b cs,F b = some cs→∃ t fz,w.heap[b]? = some (.cells cs t fz)
theorem PCall.ofExt {P : Program} {f : FuncId} {args : List DV} {r : DV} (h : ∀ F w vs,FSat F w→RsT F Gam.no args vs→Calls P f vs.toArray w (fun e w'=>∃ v,e = .returned v∧Ext w w'∧Rs F Gam.no r v)) : PCall P f args r:=by
 intro C F γ heap used w vs H hv
 refine (h F w vs H.fs hv).mono ?_
 rintro e w' ⟨v,rfl,hx,hr⟩
 have b:=hx.below
 exact ⟨v,F,rfl,FLe.refl _,H.quiet ⟨b.os,b.tape,b.output,b.size,fun k hk _=>b.block k hk⟩,hr⟩
theorem PCall.ofInts {P : Program} {f : FuncId} {args : List DV} {E : TypeId} {k : IntKind} {xs : List Int} (h : ∀ F w vs,FSat F w→RsT F Gam.no args vs→Calls P f vs.toArray w (RetInts E k w.heap.size xs w)) : PCall P f args (.sl 1 (xs.map (.int k))):=by
 intro C F γ heap used w vs H hv
 refine (h F w vs H.fs hv).mono ?_
 rintro e w' ⟨A,c,rfl,ho,b⟩
 have W:=H.quiet (w' := w') ⟨b.os,b.tape,b.output,b.size,fun k hk _=>b.block k hk⟩
 have hE : ∀ (F : FMap) (l : List Int),RsE F 1 (l.map (DV.int k)) (l.map (Value.int k)):=by
  intro F l
  induction l with
  | nil=>simp [RsE]
  | cons x l ih=>
   simp only [List.map_cons,RsE]
   exact ⟨.int k x,l.map (Value.int k),by simp [Value.cells],rfl,by simp [Value.cells,Value.oneCell'],by simp only [Rs],ih⟩
 rcases ho.2 with ⟨hA,h0⟩ | ⟨g,cap,cur,hA,hg,hh,r1,r2,r3,r4⟩
 ·have hx : xs = []:=List.eq_nil_of_length_eq_zero h0
  subst hx
  refine ⟨_,F,rfl,FLe.refl _,W,?_⟩
  rw [hA]
  simp only [Rs]
  exact ⟨none,0,rfl,⟨fun _=>⟨rfl,rfl⟩,Nat.le_refl _,by decide⟩,fun h=>absurd rfl h⟩
 ·have hF : F g = none:=by
   cases hf : F g with
   | none=>rfl
   | some cs=>have:=H.flt hf; omega
  refine ⟨_,F.up g cur,rfl,FMap.up_le _ hF,W.data hh hF (.inr (Nat.le_trans H.size hg)) (fun id e g' hi hg' hb=>?_),?_⟩
  ·obtain ⟨g1,q1,q2⟩ := H.ent id e hi
   rw [hg'] at q1; injection q1 with q1; subst q1
   have:=q2.lt _ hb; omega
  ·rw [hA]
   simp only [Rs,List.length_map]
   refine ⟨some ⟨g,0,none⟩,cap,rfl,⟨(fun h=>by cases h),r1,by unfold maxLen at r2; exact r2⟩,fun _=>⟨g,0,cur,xs.map (Value.int k),cur.toList.drop (xs.length * 1),rfl,by simp [FMap.up],?_,hE _ xs⟩⟩
   rw [List.drop_zero,← r4,List.take_append_drop]
theorem RsL_ints {F : FMap} {γ : Gam} {α : Type} (k : IntKind) (c : α→Int) : ∀ {l : List α} {vs : List Value},RsL F γ (l.map fun i=>.int k (c i)) vs→vs = l.map fun i=>.int k (c i)
 | [],vs,h=>by simp only [List.map_nil,RsL] at h; rw [h]; rfl
 | x :: l,vs,h=>by
  simp only [List.map_cons,RsL] at h
  obtain ⟨v,rest,rfl,_,h1,h2⟩ := h
  simp only [Rs] at h1
  rw [h1,RsL_ints k c h2]; rfl
theorem RsE_ints {F : FMap} (k : IntKind) : ∀ {l : List Int} {vs : List Value},RsE F 1 (l.map (DV.int k)) vs→vs = l.map (Value.int k)
 | [],vs,h=>by simp only [List.map_nil,RsE] at h; rw [h]; rfl
 | x :: l,vs,h=>by
  simp only [List.map_cons,RsE] at h
  obtain ⟨v,rest,rfl,_,_,h1,h2⟩ := h
  simp only [Rs] at h1
  rw [h1,RsE_ints k h2]; rfl
theorem sl_ints {F : FMap} {γ : Gam} {k : IntKind} {xs : List Int} {v : Value} {w : World} (hF : FSat F w) (h : Rs F γ (.sl 1 (xs.map (.int k))) v) : ∃ A c,v = .slice A xs.length c∧SlOk A xs.length c∧At w A (xs.map (Value.int k)):=by
 simp only [Rs,List.length_map] at h
 obtain ⟨A,c,e,hok,hd⟩ := h
 refine ⟨A,c,e,hok,At.mk fun hne=>?_⟩
 have hne' : xs.map (DV.int k)≠[]:=by intro h; apply hne; simpa using h
 obtain ⟨b,o,cs,vs,rest,rfl,h1,h2,h3⟩ := hd hne'
 obtain ⟨t,fz,h4⟩ := hF b cs h1
 refine ⟨b,o,rfl,fun j v hv=>?_⟩
 rw [← RsE_ints k h3] at hv
 have:=blk_range h4 o
 rw [h2] at this
 exact this j v (by rw [List.getElem?_append_left]; exact hv; exact (List.getElem?_eq_some_iff.1 hv).1)
def clkD (c : Nat→Int) : List DV:=(List.range 16).map fun i=>.int .u64 (c i)
theorem clk_of {F : FMap} {γ : Gam} {c : Nat→Int} {v : Value} (h : Rs F γ (.agg (clkD c)) v) : v = .agg (clkA c):=by
 simp only [Rs] at h
 obtain ⟨cs,rfl,h⟩ := h
 have:=RsL_ints .u64 c h
 congr 1
 apply Array.toList_inj.1
 rw [this,clkA_list]
theorem length_c (c : Nat→Int) : PCall Tryz.prog 50 [.agg (clkD c)] (.int .i64 (clen c)):=PCall.ofExt fun F w vs hF hv=>by
 simp only [RsT] at hv
 obtain ⟨v,rest,rfl,h1,rfl⟩ := hv
 rw [clk_of h1]
 exact (length_any c w).mono fun e w' ⟨he,hx⟩=>⟨_,he,hx,by simp only [Rs]⟩
theorem clkD_set (l : List Int) (v : Int) (h : l.length < 16) : (clkD (clkOf l)).set (0 + l.length * 1) (.int .u64 v) = clkD (clkOf (l++[v])):=by
 apply List.ext_getElem?
 intro i
 rw [Nat.zero_add,Nat.mul_one,List.getElem?_set]
 simp only [clkD,List.getElem?_map,List.length_map,List.length_range]
 by_cases hi : l.length = i
 ·subst hi
  simp [h,clkOf]
 ·simp only [hi,if_false]
  by_cases h16 : i < 16
  ·have : (clkOf (l++[v])) i = clkOf l i:=by
    unfold clkOf
    rcases Nat.lt_or_ge i l.length with hlt | hge
    ·simp [List.getD,List.getElem?_append_left hlt]
    ·rw [List.getD_eq_getElem?_getD,List.getD_eq_getElem?_getD,List.getElem?_eq_none (by simp; omega),List.getElem?_eq_none hge]
   simp [h16,this]
  ·simp [h16]
def ents : Nat→List Int→Option (List Int × Nat)
 | 0,_=>some ([],0)
 | n + 1,xs=>match decU 0 0 xs with
  | none=>none
  | some (v,m)=>match ents n (xs.drop m) with
   | none=>none
   | some (l,t)=>some (v :: l,m + t)
def clkR (xs : List Int) : Option ((Nat→Int) × Nat):=match xs with
 | []=>none
 | b :: rest=>if 16 < b then none else match ents b.toNat rest with
  | none=>none
  | some (l,t)=>if clen (clkOf l) = b.toNat then some (clkOf l,1 + t) else none
def clkRD (xs : List Int) : DV:=match clkR xs with
 | none=>.tup [.agg (clkD clk0),.int .i64 0,.int .i64 6]
 | some (c,n)=>.tup [.agg (clkD c),.int .i64 n,.int .i64 0]
theorem clkRD_ids (xs : List Int) : (clkRD xs).ids = []:=by
 unfold clkRD
 split <;> rfl
set_option maxHeartbeats 1000000
theorem byt_drop {xs : List Int} (h : ∀ b∈xs,Byt b) (n : Nat) : ∀ b∈xs.drop n,Byt b:=fun b hb=>h b (List.mem_of_mem_drop hb)
theorem ents_none {b : Int} {rest : List Int} (h16 : ¬ 16 < b) (h : ents b.toNat rest = none) : clkR (b :: rest) = none:=by simp [clkR,h16,h]
theorem u8s_dropB (xs : List Int) (n : Nat) : (DV.sl 1 (((xs.map (DV.int IntKind.u8)).take (xs.map (DV.int IntKind.u8)).length).drop n)) = u8s (xs.drop n):=u8s_drop xs n
theorem clkRead_c (xs : List Int) (hx : ∀ b∈xs,Byt b) (hl : xs.length≤4611686018427387904) : PCall Tryz.prog 92 [u8s xs] (clkRD xs):=by
 cases xs with
 | nil=>
  refine PCall.body Tryz.func92 Tryz.ntmps92 rfl rfl rfl (clkRD_ids _) ?_
  refine a_seq ?_
  (apply a_region; (case ht=>exact .cons (o_alloc rfl)<|.cons (o_assign rfl)<|.cons (o_assign rfl)<|.nil _); (case hd=>kernel_rfl); (case hnew=>kernel_rfl))
  refine a_seq ?_
  refine a_seq ?_
  (apply a_region; (case ht=>((apply tc; (case h=>exact o_move rfl)); (apply tc; (case h=>(first | (exact o_deadB (by simp at hb)) | (exact o_dead (by simp at hb)) | (exact o_len rfl) | (exact o_len_r rfl rfl) | (exact o_len_n rfl)))); (apply tc; (case h=>exact o_int rfl rfl rfl)); (apply tc; (case h=>exact o_move rfl)); (apply tc; (case h=>(apply o_guardF rfl rfl; (case hS=>intro hb; exact (Strips.keep Strips.nil)); (case h=>intro hb; (first | (exact o_move rfl) | (exact o_deadB (by simp at hb)) | (exact o_dead (by simp at hb))))))); (apply tc; (case h=>(apply o_guardF rfl rfl; (case hS=>intro hb; exact (Strips.strip rfl (nt hb) Strips.nil)); (case h=>intro hb; (first | (exact o_deadB (by simp at hb)) | (exact o_dead (by simp at hb)) | (exact o_indexAddr _ rfl rfl rfl (by assumption) rfl) | (exact o_indexAddr_r _ rfl rfl rfl rfl (by omega)) | (exact o_indexAddr_a _ rfl rfl rfl (by omega))))))); (apply tc; (case h=>(apply o_guardF rfl rfl; (case hS=>intro hb; exact (Strips.strip rfl (nt hb) Strips.nil)); (case h=>intro hb; (first | (exact o_deadB (by simp at hb)) | (exact o_dead (by simp at hb)) | (exact o_load_s rfl rfl rfl) | (exact o_load_es rfl rfl) | (exact o_load_ps rfl rfl rfl rfl rfl)))))); (apply tc; (case h=>(apply o_guardF rfl rfl; (case hS=>intro hb; exact (Strips.strip rfl (nt hb) Strips.nil)); (case h=>intro hb; (first | (exact o_int rfl rfl rfl) | (exact o_deadB (by simp at hb)) | (exact o_dead (by simp at hb))))))); (apply tc; (case h=>(first | (exact o_and rfl rfl) | (exact o_or rfl rfl)))); exact tn)); (case hd=>kernel_rfl); (case hnew=>kernel_rfl))
  refine a_cond _ rfl (fun c1=>?_) (fun c1=>?_)
  ·refine a_seq ?_
   (apply a_region; (case ht=>exact .cons (o_build rfl rfl rfl)<|.cons (o_store rfl rfl rfl rfl rfl rfl rfl)<|.cons (o_assign rfl)<|.cons (o_assign rfl)<|.nil _); (case hd=>kernel_rfl); (case hnew=>kernel_rfl))
   refine a_ret ?_
   ((refine a_post (ResV.r3 (ResOk.cell rfl rfl (.row _ CRow.h (Nat.le_of_ble_eq_true rfl) rfl)) (ResOk.tmp rfl) (ResOk.tmp rfl)) (DLe.of_eq ?_) PostOk.nil.spec) <;> (rfl))
  ·simp at c1
 | cons b rest=>
  have hb:=hx b (by simp)
  have hb0:=hb.1
  have hb1:=hb.2
  have hrl : rest.length < 4611686018427387904:=by simp at hl; omega
  have hlen : (List.map (DV.int IntKind.u8) (b :: rest)).length = rest.length + 1:=by simp
  refine PCall.body Tryz.func92 Tryz.ntmps92 rfl rfl rfl (clkRD_ids _) ?_
  refine a_seq ?_
  (apply a_region; (case ht=>exact .cons (o_alloc rfl)<|.cons (o_assign rfl)<|.cons (o_assign rfl)<|.nil _); (case hd=>kernel_rfl); (case hnew=>kernel_rfl))
  refine a_seq ?_
  refine a_seq ?_
  (apply a_region; (case ht=>((apply tc; (case h=>exact o_move rfl)); (apply tc; (case h=>(first | (exact o_indexAddr 0 rfl rfl rfl rfl rfl) | (exact o_len rfl) | (exact o_len_r rfl rfl) | (exact o_len_n rfl)))); (apply tc; (case h=>exact o_int rfl rfl rfl)); (apply tc; (case h=>exact o_move rfl)); (apply tc; (case h=>(apply o_guardF rfl rfl; (case hS=>intro hb; exact (Strips.keep Strips.nil)); (case h=>intro hb; (first | (exact o_move rfl) | (exact o_indexAddr 0 rfl rfl rfl rfl rfl)))))); (apply tc; (case h=>(apply o_guardF rfl rfl; (case hS=>intro hb; exact (Strips.strip rfl (nt hb) Strips.nil)); (case h=>intro hb; (first | (exact o_indexAddr 0 rfl rfl rfl rfl rfl) | (exact o_indexAddr _ rfl rfl rfl (by assumption) rfl) | (exact o_indexAddr_r _ rfl rfl rfl rfl (by omega)) | (exact o_indexAddr_a _ rfl rfl rfl (by omega))))))); (apply tc; (case h=>(apply o_guardF rfl rfl; (case hS=>intro hb; exact (Strips.strip rfl (nt hb) Strips.nil)); (case h=>intro hb; (first | (exact o_indexAddr 0 rfl rfl rfl rfl rfl) | (exact o_load_s rfl rfl rfl) | (exact o_load_es rfl rfl) | (exact o_load_ps rfl rfl rfl rfl rfl)))))); (apply tc; (case h=>(apply o_guardF rfl rfl; (case hS=>intro hb; exact (Strips.strip rfl (nt hb) Strips.nil)); (case h=>intro hb; (first | (exact o_int rfl rfl rfl) | (exact o_indexAddr 0 rfl rfl rfl rfl rfl)))))); (apply tc; (case h=>(first | (exact o_and rfl rfl) | (exact o_or rfl rfl)))); exact tn)); (case hd=>kernel_rfl); (case hnew=>kernel_rfl))
  refine a_cond _ rfl (fun c1=>?_) (fun c1=>?_)
  ·have h16 : 16 < b:=by
    have hne : (((List.map (DV.int IntKind.u8) (b :: rest)).length : Int) == 0) = false:=by rw [hlen]; simp; omega
    rw [hne] at c1
    simpa using c1
   refine a_seq ?_
   (apply a_region; (case ht=>exact .cons (o_build rfl rfl rfl)<|.cons (o_store rfl rfl rfl rfl rfl rfl rfl)<|.cons (o_assign rfl)<|.cons (o_assign rfl)<|.nil _); (case hd=>kernel_rfl); (case hnew=>kernel_rfl))
   refine a_ret ?_
   ((refine a_post (ResV.r3 (ResOk.cell rfl rfl (.row _ CRow.h (Nat.le_of_ble_eq_true rfl) rfl)) (ResOk.tmp rfl) (ResOk.tmp rfl)) (DLe.of_eq ?_) PostOk.nil.spec) <;> ((simp [clkRD,clkR,h16,constDV]; rfl)))
  ·have h16 : ¬ 16 < b:=by
    simp only [Bool.or_eq_false_iff,decide_eq_false_iff_not] at c1
    exact c1.2
   refine a_skip ?_
   refine a_seq ?_
   (apply a_region; (case ht=>exact .cons (o_alloc rfl)<|.nil _); (case hd=>kernel_rfl); (case hnew=>kernel_rfl))
   refine a_seq ?_
   (apply a_region; (case ht=>((apply tc; (case h=>exact o_move rfl)); (apply tc; (case h=>(first | (exact o_indexAddr 0 rfl rfl rfl rfl rfl) | (exact o_indexAddr _ rfl rfl rfl (by assumption) rfl) | (exact o_indexAddr_r _ rfl rfl rfl rfl (by omega)) | (exact o_indexAddr_a _ rfl rfl rfl (by omega))))); (apply tc; (case h=>(first | (exact o_indexAddr 0 rfl rfl rfl rfl rfl) | (exact o_load_s rfl rfl rfl) | (exact o_load_es rfl rfl) | (exact o_load_ps rfl rfl rfl rfl rfl)))); (apply tc; (case h=>(first | (exact o_indexAddr 0 rfl rfl rfl rfl rfl) | (exact o_conv rfl (by simp only [InR]; omega)) | (exact o_conv_w rfl)))); (apply tc; (case h=>exact o_assign rfl)); (apply tc; (case h=>exact o_assign rfl)); exact tn)); (case hd=>kernel_rfl); (case hnew=>kernel_rfl))
   refine a_seq ?_
   refine a_seq ?_
   (apply a_region; (case ht=>exact .cons (o_move rfl)<|.cons (o_move rfl)<|.nil _); (case hd=>kernel_rfl); (case hnew=>kernel_rfl))
   refine a_block ?_
   refine a_loop (fun p : List Int × Nat=>⟨[(0,u8s (b :: rest)),(2,.ref 2 0),(5,.ref 5 0),(6,.int .i64 b),(7,.int .i64 ((1 + p.2 : Nat) : Int)),(26,.int .i64 b),(27,.int .i64 (p.1.length : Int))],[(2,some (.blk 44 (clkD clk0))),(5,some (.blk 44 (clkD (clkOf p.1))))],[5,2]⟩)
    (fun p=>p.1.length≤b.toNat∧p.2≤rest.length∧ents b.toNat rest = (ents (b.toNat - p.1.length) (rest.drop p.2)).map (fun q=>(p.1++q.1,p.2 + q.2))) (fun p=>b.toNat - p.1.length) ([],0) ?_ ?_ ?_
   ·exact Imp.of (fun i=>i) (.cons rfl (DLe.refl _) (.cons rfl (DLe.refl _) (.cons rfl (DLe.refl _) (.cons rfl (DLe.refl _) (.cons rfl (DLe.refl _) (.cons rfl (DLe.refl _) (.cons rfl (DLe.refl _) .nil))))))) (.cons rfl (.refl _) (.cons rfl (.refl _) .nil)) rfl rfl rfl
   ·refine ⟨by simp,by simp,?_⟩
    simp only [List.length_nil,Nat.sub_zero,List.drop_zero,List.nil_append,Nat.zero_add]
    cases ents b.toNat rest <;> rfl
   rintro ⟨l,t⟩ ⟨i1,i2,i3⟩
   simp only at i1 i2 i3
   dsimp only
   refine a_seq ?_
   (apply a_region; (case ht=>exact .cons (o_int rfl rfl rfl)<|.nil _); (case hd=>kernel_rfl); (case hnew=>kernel_rfl))
   refine a_seq ?_
   refine a_cond _ rfl (fun c2=>?_) (fun c2=>?_)
   ·have hlt : l.length < b.toNat:=by simp only [decide_eq_true_eq] at c2; omega
    obtain ⟨m,hm⟩ : ∃ m,b.toNat - l.length = m + 1 := ⟨b.toNat - l.length - 1,by omega⟩
    rw [hm,ents] at i3
    have hu:=uint_c (rest.drop t) (byt_drop (fun c hc=>hx c (by simp [hc])) t) (by simp; omega)
    have hsl : (u8s ((b :: rest).drop (1 + t))) = u8s (rest.drop t):=by rw [Nat.add_comm,List.drop_succ_cons]
    refine a_skip ?_
    refine a_seq ?_
    refine a_block ?_
    refine a_seq ?_
    (apply a_region; (case ht=>exact .cons (o_move rfl)<|.cons (o_assign rfl)<|.nil _); (case hd=>kernel_rfl); (case hnew=>kernel_rfl))
    refine a_seq ?_
    cases hd : decU 0 0 (rest.drop t) with
    | none=>
     rw [hd] at i3
     simp only [uintD,hd] at hu
     (apply a_region; (case ht=>((apply tc; (case h=>exact o_move rfl)); (apply tc; (case h=>exact o_move rfl)); (apply tc; (case h=>(first | (exact o_slice (1 + t) _ rfl (Bd.at rfl rfl) Bd.no (by simp; omega) (Nat.le_refl _)) | (exact o_call hu rfl (DLeL.of_eq (by rw [u8s_dropB,hsl])) rfl) | (exact o_slice _ _ rfl (Bd.at rfl rfl) Bd.no (by omega) (by omega)) | (exact o_slice _ _ rfl Bd.no (Bd.at rfl rfl) (by omega) (by omega)) | (exact o_slice _ _ rfl (Bd.at rfl rfl) (Bd.at rfl rfl) (by omega) (by omega))))); (apply tc; (case h=>(first | (exact o_slice (1 + t) _ rfl (Bd.at rfl rfl) Bd.no (by simp; omega) (Nat.le_refl _)) | (exact o_call hu rfl (DLeL.of_eq (by rw [u8s_dropB,hsl])) rfl)))); (apply tc; (case h=>exact o_move rfl)); (apply tc; (case h=>exact o_extract rfl rfl)); (apply tc; (case h=>exact o_extract rfl rfl)); (apply tc; (case h=>exact o_extract rfl rfl)); (apply tc; (case h=>exact o_assign rfl)); (apply tc; (case h=>exact o_assign rfl)); (apply tc; (case h=>exact o_assign rfl)); exact tn)); (case hd=>kernel_rfl); (case hnew=>kernel_rfl))
     refine a_seq ?_
     refine a_seq ?_
     (apply a_region; (case ht=>exact .cons (o_move rfl)<|.cons (o_int rfl rfl rfl)<|.nil _); (case hd=>kernel_rfl); (case hnew=>kernel_rfl))
     refine a_cond _ rfl (fun c3=>?_) (fun c3=>?_)
     ·refine a_seq ?_
      (apply a_region; (case ht=>exact .cons (o_build rfl rfl rfl)<|.cons (o_store rfl rfl rfl rfl rfl rfl rfl)<|.cons (o_assign rfl)<|.cons (o_assign rfl)<|.nil _); (case hd=>kernel_rfl); (case hnew=>kernel_rfl))
      refine a_ret ?_
      ((refine a_post (ResV.r3 (ResOk.cell rfl rfl (.row _ CRow.h (Nat.le_of_ble_eq_true rfl) rfl)) (ResOk.tmp rfl) (ResOk.tmp rfl)) (DLe.of_eq ?_) PostOk.nil.spec) <;> ((simp [clkRD,ents_none h16 i3,constDV]; rfl)))
     ·simp at c3
    | some p=>
     obtain ⟨v,k⟩ := p
     have hkl:=decU_le _ 0 0 v k hd
     simp only [List.length_drop] at hkl
     rw [hd] at i3
     simp only [uintD,hd] at hu
     (apply a_region; (case ht=>((apply tc; (case h=>exact o_move rfl)); (apply tc; (case h=>exact o_move rfl)); (apply tc; (case h=>(first | (exact o_slice (1 + t) _ rfl (Bd.at rfl rfl) Bd.no (by simp; omega) (Nat.le_refl _)) | (exact o_call hu rfl (DLeL.of_eq (by rw [u8s_dropB,hsl])) rfl) | (exact o_slice _ _ rfl (Bd.at rfl rfl) Bd.no (by omega) (by omega)) | (exact o_slice _ _ rfl Bd.no (Bd.at rfl rfl) (by omega) (by omega)) | (exact o_slice _ _ rfl (Bd.at rfl rfl) (Bd.at rfl rfl) (by omega) (by omega))))); (apply tc; (case h=>(first | (exact o_slice (1 + t) _ rfl (Bd.at rfl rfl) Bd.no (by simp; omega) (Nat.le_refl _)) | (exact o_call hu rfl (DLeL.of_eq (by rw [u8s_dropB,hsl])) rfl)))); (apply tc; (case h=>exact o_move rfl)); (apply tc; (case h=>exact o_extract rfl rfl)); (apply tc; (case h=>exact o_extract rfl rfl)); (apply tc; (case h=>exact o_extract rfl rfl)); (apply tc; (case h=>exact o_assign rfl)); (apply tc; (case h=>exact o_assign rfl)); (apply tc; (case h=>exact o_assign rfl)); exact tn)); (case hd=>kernel_rfl); (case hnew=>kernel_rfl))
     refine a_seq ?_
     refine a_seq ?_
     (apply a_region; (case ht=>exact .cons (o_move rfl)<|.cons (o_int rfl rfl rfl)<|.nil _); (case hd=>kernel_rfl); (case hnew=>kernel_rfl))
     refine a_cond _ rfl (fun c3=>?_) (fun c3=>?_)
     ·simp at c3
     ·refine a_skip ?_
      refine a_seq ?_
      (apply a_region; (case ht=>((apply tc; (case h=>exact o_move rfl)); (apply tc; (case h=>exact o_move rfl)); (apply tc; (case h=>(first | (exact o_fieldAddr rfl) | (exact o_fieldAddr_e rfl rfl) | (exact o_fieldAddr_p rfl)))); (apply tc; (case h=>(first | (exact o_indexAddr_a l.length rfl rfl rfl (by omega)) | (exact o_store_at rfl rfl rfl rfl (by simp [clkD]; omega) (clkD_set l v (by omega))) | (exact o_indexAddr _ rfl rfl rfl (by assumption) rfl) | (exact o_indexAddr_r _ rfl rfl rfl rfl (by omega)) | (exact o_indexAddr_a _ rfl rfl rfl (by omega))))); (apply tc; (case h=>(first | (exact o_indexAddr_a l.length rfl rfl rfl (by omega)) | (exact o_store_at rfl rfl rfl rfl (by simp [clkD]; omega) (clkD_set l v (by omega))) | (exact o_store_s rfl rfl rfl rfl rfl)))); exact tn)); (case hd=>kernel_rfl); (case hnew=>kernel_rfl))
      (apply a_region; (case ht=>((apply tc; (case h=>exact o_move rfl)); (apply tc; (case h=>exact o_move rfl)); (apply tc; (case h=>(first | (exact o_add rfl rfl (by simp only [InR]; omega)) | (exact o_int rfl rfl rfl)))); (apply tc; (case h=>exact o_assign rfl)); exact tn)); (case hd=>kernel_rfl); (case hnew=>kernel_rfl))
      (apply a_region; (case ht=>((apply tc; (case h=>(first | (exact o_add rfl rfl (by simp only [InR]; omega)) | (exact o_int rfl rfl rfl)))); (apply tc; (case h=>exact o_move rfl)); exact tn)); (case hd=>kernel_rfl); (case hnew=>kernel_rfl))
      refine QLoop.next (l++[v],t + k) ⟨by simp; omega,by simp; omega,?_⟩ (by simp; omega) (Imp.of (fun i=>i) (.cons rfl (DLe.refl _) (.cons rfl (DLe.refl _) (.cons rfl (DLe.refl _) (.cons rfl (DLe.refl _) (.cons rfl (DLe.of_eq ?_) (.cons rfl (DLe.refl _) (.cons rfl (DLe.of_eq ?_) .nil))))))) (.cons rfl (.refl _) (.cons rfl (.refl _) .nil)) rfl rfl rfl)
      ·have e : b.toNat - (l++[v]).length = m:=by simp; omega
       simp only [List.drop_drop] at i3 ⊢
       rw [i3,e]
       cases ents m (rest.drop (t + k)) with
       | none=>rfl
       | some q=>obtain ⟨l',t'⟩ := q; simp [Nat.add_assoc]
      ·simp [DV.ren]; omega
      ·simp [DV.ren]
   ·have hlt : l.length = b.toNat:=by simp only [decide_eq_false_iff_not] at c2; omega
    have he : ents b.toNat rest = some (l,t):=by
     rw [i3,hlt,Nat.sub_self]; simp [ents]
    refine a_exit ?_
    refine a_seq ?_
    refine a_seq ?_
    (apply a_region; (case ht=>((apply tc; (case h=>(first | (exact o_call (length_c (clkOf l)) rfl (DLeL.refl _) rfl) | (exact o_load_r rfl rfl rfl rfl) | (exact o_load_er rfl rfl rfl) | (exact o_load_pr rfl rfl rfl rfl rfl rfl)))); (apply tc; (case h=>exact o_call (length_c (clkOf l)) rfl (DLeL.refl _) rfl)); (apply tc; (case h=>exact o_move rfl)); (apply tc; (case h=>exact o_int rfl rfl rfl)); exact tn)); (case hd=>kernel_rfl); (case hnew=>kernel_rfl))
    refine a_cond _ rfl (fun c4=>?_) (fun c4=>?_)
    ·have hne : ¬ clen (clkOf l) = b.toNat:=by
      simp only [bne_iff_ne] at c4; omega
     refine a_seq ?_
     (apply a_region; (case ht=>exact .cons (o_build rfl rfl rfl)<|.cons (o_store rfl rfl rfl rfl rfl rfl rfl)<|.cons (o_assign rfl)<|.cons (o_assign rfl)<|.nil _); (case hd=>kernel_rfl); (case hnew=>kernel_rfl))
     refine a_ret ?_
     ((refine a_post (ResV.r3 (ResOk.cell rfl rfl (.row _ CRow.h (Nat.le_of_ble_eq_true rfl) rfl)) (ResOk.tmp rfl) (ResOk.tmp rfl)) (DLe.of_eq ?_) PostOk.nil.spec) <;> ((simp [clkRD,clkR,h16,he,hne,constDV]; rfl)))
    ·have hne : clen (clkOf l) = b.toNat:=by
      simp only [bne_eq_false_iff_eq] at c4; omega
     refine a_skip ?_
     refine a_seq ?_
     (apply a_region; (case ht=>((apply tc; (case h=>(first | (exact o_load_r rfl rfl rfl rfl) | (exact o_load_er rfl rfl rfl) | (exact o_load_pr rfl rfl rfl rfl rfl rfl)))); (apply tc; (case h=>exact o_move rfl)); (apply tc; (case h=>exact o_store rfl rfl rfl rfl rfl rfl rfl)); (apply tc; (case h=>exact o_assign rfl)); (apply tc; (case h=>exact o_assign rfl)); exact tn)); (case hd=>kernel_rfl); (case hnew=>kernel_rfl))
     refine a_ret ?_
     ((refine a_post (ResV.r3 (ResOk.cell rfl rfl (.row _ CRow.h (Nat.le_of_ble_eq_true rfl) rfl)) (ResOk.tmp rfl) (ResOk.tmp rfl)) (DLe.of_eq ?_) PostOk.nil.spec) <;> ((simp [clkRD,clkR,h16,he,hne,constDV]; rfl)))
def evD (e : Ev) : List DV:=[.int .i64 e.tick,.int .i64 e.comp,.int .u8 e.kind,.int .i64 e.peer,.int .i64 e.n,.int .i64 e.copy,.int .i64 e.handler,.int .i64 e.d,.sl 1 (e.args.map (.int .i64))]
def Rd.ints : Nat→Rd→List Int × Rd
 | 0,r=>([],r)
 | n + 1,r=>(r.int.1 :: (ints n r.int.2).1,(ints n r.int.2).2)
def M31 : Int:=2147483647
def Rd.event (c : Int) (r : Rd) : Ev × Rd :=
 let p1:=r.uint M31
 let p2:=p1.2.uint 255
 let p3:=p2.2.uint M31
 let p4:=p3.2.uint M31
 let p5:=p4.2.uint M31
 let p6:=p5.2.uint M31
 let p7:=p6.2.int
 let p8:=p7.2.uint 4
 let p9:=p8.2.ints p8.1.toNat
 (⟨p1.1,c,p2.1,p3.1,p4.1,p5.1,p6.1,p7.1,p9.1⟩,p9.2)
theorem RdOk.drop {xs : List Int} {e e' : Int} (h : RdOk ⟨xs,e⟩) (n : Nat) : RdOk ⟨xs.drop n,e'⟩ := ⟨byt_drop h.byt n,by have:=h.len; simp at this ⊢; omega⟩
theorem RdOk.err {xs : List Int} {e e' : Int} (h : RdOk ⟨xs,e⟩) : RdOk ⟨xs,e'⟩ := ⟨h.byt,h.len⟩
theorem RdOk.uint {r : Rd} (h : RdOk r) (m : Int) : RdOk (r.uint m).2:=by
 obtain ⟨xs,e⟩ := r
 unfold Rd.uint
 split
 ·exact h
 ·split
  ·exact h.err
  ·split
   ·exact h.err
   ·exact h.drop _
theorem RdOk.int {r : Rd} (h : RdOk r) : RdOk r.int.2:=by
 obtain ⟨xs,e⟩ := r
 unfold Rd.int
 split
 ·exact h
 ·split
  ·exact h.err
  ·exact h.drop _
theorem RdOk.byte {r : Rd} (h : RdOk r) : RdOk r.byte.2:=by
 obtain ⟨xs,e⟩ := r
 unfold Rd.byte
 split
 ·exact h
 ·cases xs with
  | nil=>exact h.err
  | cons b rest=>
   have:=h.drop (e' := e) 1
   simpa using this
theorem uint_range {r : Rd} (h : RdOk r) {m : Int} (hm : 0≤m) : 0≤(r.uint m).1∧(r.uint m).1≤m:=by
 obtain ⟨xs,e⟩ := r
 unfold Rd.uint
 split
 ·exact ⟨Int.le_refl _,hm⟩
 ·split
  ·exact ⟨Int.le_refl _,hm⟩
  ·rename_i v n hd
   have:=decU_u64 xs 0 0 v n h.byt (by omega) (by omega) (by simp) hd
   split
   ·exact ⟨Int.le_refl _,hm⟩
   ·exact ⟨this.1,by simp only; omega⟩
theorem Imp.nilCell {σ : AS} {id rid j : Nat} {T : TypeId} {ds : List DV} (E sz : Nat) (hh : hget σ.heap id = some (.blk T ds)) (hj : ds[j]? = some .nils) (hi : memB rid σ.used = false) (hne : Nat.beq rid id = false) :
  Imp σ ⟨σ.env,(id,some (.blk T (ds.set j (.row rid)))) :: (rid,some (.row E sz [])) :: σ.heap,rid :: σ.used⟩ := fun C F γ a w hs=>by
 have hn : rid ∉ σ.used:=fun h=>by
  have : memB rid σ.used = true:=List.any_eq_true.2 ⟨rid,h,by simp⟩
  rw [hi] at this; cases this
 have hrid : rid≠id:=fun e=>by subst e; simp at hne
 have hle:=Gam.up_le (.slice none 0 0) (hs.ws.fresh hn)
 have W:=hs.ws.add hn (e0:=.row E sz []) (g:=.slice none 0 0) ⟨[],own_nil _ _ _ _,by simp [RsE]⟩ (fun b hb=>by simp [Value.pblk] at hb)
 have hh' : hget ((rid,some (.row E sz [])) :: σ.heap) id = some (.blk T ds):=by rw [hget_cons,if_neg hrid]; exact hh
 obtain ⟨g,hg,b,cs,rfl,hb,hl⟩ := W.ent id _ hh'
 have hl' : RsL F (γ.up rid (.slice none 0 0)) (ds.set j (.row rid)) cs.toList:=by
  refine RsL.of_get (by rw [List.length_set]; exact hl.len) (fun i d hd=>?_)
  rw [List.getElem?_set] at hd
  by_cases hij : j = i
  ·subst hij
   obtain ⟨v,q1,q2,q3⟩ := hl.get hj
   have hjl : j < ds.length:=(List.getElem?_eq_some_iff.1 hj).1
   simp [hjl] at hd
   subst hd
   refine ⟨v,q1,q2,?_⟩
   simp only [Rs] at q3 ⊢
   rw [q3]; exact Gam.up_same _ _ _
  ·rw [if_neg hij] at hd; exact hl.get hd
 have W2:=W.put (id0:=id) (e0:=.blk T (ds.set j (.row rid))) hg ⟨b,cs,rfl,hb,hl'⟩ (fun b' hb'=>by
  have ho:=W.own id _ _ b' hh' hg hb'
  exact ⟨ho.1,ho.2,fun i e g hne hi hgi hbi=>hne (W.apart i id e _ g _ b' hi hh' hgi hg hbi hb')⟩)
 exact ⟨F,_,fun t' d hd=>⟨(hs.env t' d hd).1,(hs.env t' d hd).2.mono (FLe.refl _) hle⟩,W2,hs.size,hs.defers⟩
theorem HLe.of_eq {e e' : HE} (h : e = e') : HLe e e' := h ▸ .refl e
def bxE : HE:=.blk 178 [.ref 100000 0]
theorem num_c (r : Rd) (hr : RdOk r) : ACall Tryz.prog 120 ⟨[.ref 100001 0],[(100001,some bxE),(100000,some (rdE r))],.int .i64 (r.uint M31).1,[(100000,some (rdE (r.uint M31).2)),(100001,some bxE)],[]⟩ := by
 have h1:=rUint_c r M31 hr ⟨by decide,by decide⟩
 have h2:=uint_range hr (m:=M31) (by decide)
 have h3 : M31 = 2147483647:=rfl
 generalize r.uint M31 = p at *
 obtain ⟨v,r'⟩ := p
 refine ACall.body Tryz.func120 Tryz.ntmps120 rfl rfl rfl rfl ?_
 (refine a_seq ?_; (apply a_region; (case ht=>exact .cons (o_assign rfl)<|.nil _); (case hd=>kernel_rfl); (case hnew=>kernel_rfl)); refine a_seq ?_; (apply a_region; (case ht=>((apply tc; (case h=>(first | (exact o_callN (fun _=>100000) 1 h1 rfl (DLeL.refl _) (PreOk.cons rfl PreOk.nil) rfl RoOk.nil) | (exact o_load_s rfl rfl rfl) | (exact o_load_es rfl rfl) | (exact o_load_ps rfl rfl rfl rfl rfl)))); (apply tc; (case h=>exact o_callN (fun _=>100000) 1 h1 rfl (DLeL.refl _) (PreOk.cons rfl PreOk.nil) rfl RoOk.nil)); (apply tc; (case h=>(first | (exact o_callN (fun _=>100000) 1 h1 rfl (DLeL.refl _) (PreOk.cons rfl PreOk.nil) rfl RoOk.nil) | (exact o_conv rfl (by simp only [InR]; omega)) | (exact o_conv_w rfl)))); (apply tc; (case h=>exact o_assign rfl)); exact tn)); (case hd=>kernel_rfl); (case hnew=>kernel_rfl)); refine a_ret ?_; ((refine a_post (ResV.r1 (ResOk.tmp rfl)) (DLe.of_eq ?_) (PostOk.consE rfl ?_ (PostOk.consE rfl ?_ PostOk.nil)).spec) <;> ((first | rfl | simp))))
theorem ints_step (cnt k : Nat) (hk : k < cnt) (r : Rd) (l : List Int) (R : List Int × Rd) (h : R = (l++(r.ints (cnt - k)).1,(r.ints (cnt - k)).2)) : R = (l++[r.int.1]++(r.int.2.ints (cnt - (k + 1))).1,(r.int.2.ints (cnt - (k + 1))).2):=by
 obtain ⟨m,hm⟩ : ∃ m,cnt - k = m + 1 := ⟨cnt - k - 1,by omega⟩
 have hm2 : cnt - (k + 1) = m:=by omega
 rw [h,hm,hm2,Rd.ints]; simp
def fB : Nat→Nat:=fun i=>bif Nat.beq i 100001 then 2 else 100000
theorem readEvent_c (c : Int) (r : Rd) (hr : RdOk r) : ACall Tryz.prog 93 ⟨[.ref 100000 0,.int .i64 c],[(100000,some (rdE r))],.agg (evD (r.event c).1),[(100000,some (rdE (r.event c).2))],[]⟩ := by
 have hev : r.event c = (let p1:=r.uint M31
  let p2:=p1.2.uint 255
  let p3:=p2.2.uint M31
  let p4:=p3.2.uint M31
  let p5:=p4.2.uint M31
  let p6:=p5.2.uint M31
  let p7:=p6.2.int
  let p8:=p7.2.uint 4
  let p9:=p8.2.ints p8.1.toNat
  (⟨p1.1,c,p2.1,p3.1,p4.1,p5.1,p6.1,p7.1,p9.1⟩,p9.2)):=rfl
 simp only at hev
 have k1:=num_c r hr
 have o1:=hr.uint M31
 generalize r.uint M31 = q1 at *
 obtain ⟨v1,r1⟩ := q1
 have k2:=rUint_c r1 255 o1 ⟨by decide,by decide⟩
 have b2:=uint_range o1 (m:=255) (by decide)
 have o2:=o1.uint 255
 simp only at hev
 generalize r1.uint 255 = q2 at *
 obtain ⟨v2,r2⟩ := q2
 have k3:=num_c r2 o2
 have o3:=o2.uint M31
 simp only at hev
 generalize r2.uint M31 = q3 at *
 obtain ⟨v3,r3⟩ := q3
 have k4:=num_c r3 o3
 have o4:=o3.uint M31
 simp only at hev
 generalize r3.uint M31 = q4 at *
 obtain ⟨v4,r4⟩ := q4
 have k5:=num_c r4 o4
 have o5:=o4.uint M31
 simp only at hev
 generalize r4.uint M31 = q5 at *
 obtain ⟨v5,r5⟩ := q5
 have k6:=num_c r5 o5
 have o6:=o5.uint M31
 simp only at hev
 generalize r5.uint M31 = q6 at *
 obtain ⟨v6,r6⟩ := q6
 have k7:=rInt_c r6 o6
 have o7:=o6.int
 simp only at hev
 generalize r6.int = q7 at *
 obtain ⟨v7,r7⟩ := q7
 have k8:=rUint_c r7 4 o7 ⟨by decide,by decide⟩
 have b8:=uint_range o7 (m:=4) (by decide)
 have o8:=o7.uint 4
 simp only at hev
 generalize r7.uint 4 = q8 at *
 obtain ⟨v8,r8⟩ := q8
 simp only at hev k1 k2 k3 k4 k5 k6 k7 k8 o1 o2 o3 o4 o5 o6 o7 o8 b2 b8
 obtain ⟨cnt,rfl⟩ : ∃ cnt : Nat,v8 = cnt := ⟨v8.toNat,by omega⟩
 rw [Int.toNat_natCast] at hev
 rw [hev]
 clear hev
 refine ACall.body Tryz.func93 Tryz.ntmps93 rfl rfl rfl rfl ?_
 refine a_seq ?_
 (apply a_region; (case ht=>exact .cons (o_box rfl rfl)<|.cons (o_alloc rfl)<|.nil _); (case hd=>kernel_rfl); (case hnew=>kernel_rfl))
 refine a_seq ?_
 (apply a_region; (case ht=>exact .cons (o_makeFunc rfl)<|.cons (o_assign rfl)<|.nil _); (case hd=>kernel_rfl); (case hnew=>kernel_rfl))
 refine a_seq ?_
 (apply a_draw mixed; (case ht=>((apply tc; (case h=>exact o_move rfl)); (apply tc; (case h=>exact o_move rfl)); (apply tc; (case h=>(first | (exact o_callV fB 1 k1 rfl rfl (DLeL.refl _) (PreOk.cons rfl (PreOk.cons rfl PreOk.nil)) rfl (RoOk.cons rfl RoOk.nil)) | (exact o_callN (fun _=>100000) 1 k2 rfl (DLeL.refl _) (PreOk.cons rfl PreOk.nil) rfl RoOk.nil)))); (apply tc; (case h=>(first | (exact o_callV fB 1 k1 rfl rfl (DLeL.refl _) (PreOk.cons rfl (PreOk.cons rfl PreOk.nil)) rfl (RoOk.cons rfl RoOk.nil)) | (exact o_callN (fun _=>100000) 1 k2 rfl (DLeL.refl _) (PreOk.cons rfl PreOk.nil) rfl RoOk.nil) | (exact o_load_s rfl rfl rfl) | (exact o_load_es rfl rfl) | (exact o_load_ps rfl rfl rfl rfl rfl)))); (apply tc; (case h=>(first | (exact o_callV fB 1 k1 rfl rfl (DLeL.refl _) (PreOk.cons rfl (PreOk.cons rfl PreOk.nil)) rfl (RoOk.cons rfl RoOk.nil)) | (exact o_callN (fun _=>100000) 1 k2 rfl (DLeL.refl _) (PreOk.cons rfl PreOk.nil) rfl RoOk.nil)))); (apply tc; (case h=>(first | (exact o_callV fB 1 k1 rfl rfl (DLeL.refl _) (PreOk.cons rfl (PreOk.cons rfl PreOk.nil)) rfl (RoOk.cons rfl RoOk.nil)) | (exact o_callN (fun _=>100000) 1 k2 rfl (DLeL.refl _) (PreOk.cons rfl PreOk.nil) rfl RoOk.nil) | (exact o_conv rfl (by simp only [InR]; omega)) | (exact o_conv_w rfl)))); (apply tc; (case h=>(first | (exact o_callV fB 1 k1 rfl rfl (DLeL.refl _) (PreOk.cons rfl (PreOk.cons rfl PreOk.nil)) rfl (RoOk.cons rfl RoOk.nil)) | (exact o_callN (fun _=>100000) 1 k2 rfl (DLeL.refl _) (PreOk.cons rfl PreOk.nil) rfl RoOk.nil) | (exact o_build rfl rfl rfl)))); (apply tc; (case h=>exact o_alloc rfl)); (apply tc; (case h=>(first | (exact o_callV fB 1 k1 rfl rfl (DLeL.refl _) (PreOk.cons rfl (PreOk.cons rfl PreOk.nil)) rfl (RoOk.cons rfl RoOk.nil)) | (exact o_callN (fun _=>100000) 1 k2 rfl (DLeL.refl _) (PreOk.cons rfl PreOk.nil) rfl RoOk.nil) | (exact o_store rfl rfl rfl rfl rfl rfl rfl)))); exact tn)); (case hk=>kernel_rfl); (case hd=>kernel_rfl); (case hnew=>kernel_rfl))
 refine a_seq ?_
 (apply a_region; (case ht=>((apply tc; (case h=>exact o_move rfl)); (apply tc; (case h=>(first | (exact o_callV fB 1 k3 rfl rfl (DLeL.refl _) (PreOk.cons rfl (PreOk.cons rfl PreOk.nil)) rfl (RoOk.cons rfl RoOk.nil)) | (exact o_callV fB 1 k4 rfl rfl (DLeL.refl _) (PreOk.cons rfl (PreOk.cons rfl PreOk.nil)) rfl (RoOk.cons rfl RoOk.nil)) | (exact o_callV fB 1 k5 rfl rfl (DLeL.refl _) (PreOk.cons rfl (PreOk.cons rfl PreOk.nil)) rfl (RoOk.cons rfl RoOk.nil)) | (exact o_callV fB 1 k6 rfl rfl (DLeL.refl _) (PreOk.cons rfl (PreOk.cons rfl PreOk.nil)) rfl (RoOk.cons rfl RoOk.nil))))); (apply tc; (case h=>exact o_move rfl)); (apply tc; (case h=>(first | (exact o_callV fB 1 k3 rfl rfl (DLeL.refl _) (PreOk.cons rfl (PreOk.cons rfl PreOk.nil)) rfl (RoOk.cons rfl RoOk.nil)) | (exact o_callV fB 1 k4 rfl rfl (DLeL.refl _) (PreOk.cons rfl (PreOk.cons rfl PreOk.nil)) rfl (RoOk.cons rfl RoOk.nil)) | (exact o_callV fB 1 k5 rfl rfl (DLeL.refl _) (PreOk.cons rfl (PreOk.cons rfl PreOk.nil)) rfl (RoOk.cons rfl RoOk.nil)) | (exact o_callV fB 1 k6 rfl rfl (DLeL.refl _) (PreOk.cons rfl (PreOk.cons rfl PreOk.nil)) rfl (RoOk.cons rfl RoOk.nil))))); (apply tc; (case h=>exact o_move rfl)); (apply tc; (case h=>(first | (exact o_callV fB 1 k3 rfl rfl (DLeL.refl _) (PreOk.cons rfl (PreOk.cons rfl PreOk.nil)) rfl (RoOk.cons rfl RoOk.nil)) | (exact o_callV fB 1 k4 rfl rfl (DLeL.refl _) (PreOk.cons rfl (PreOk.cons rfl PreOk.nil)) rfl (RoOk.cons rfl RoOk.nil)) | (exact o_callV fB 1 k5 rfl rfl (DLeL.refl _) (PreOk.cons rfl (PreOk.cons rfl PreOk.nil)) rfl (RoOk.cons rfl RoOk.nil)) | (exact o_callV fB 1 k6 rfl rfl (DLeL.refl _) (PreOk.cons rfl (PreOk.cons rfl PreOk.nil)) rfl (RoOk.cons rfl RoOk.nil))))); (apply tc; (case h=>exact o_move rfl)); (apply tc; (case h=>(first | (exact o_callV fB 1 k3 rfl rfl (DLeL.refl _) (PreOk.cons rfl (PreOk.cons rfl PreOk.nil)) rfl (RoOk.cons rfl RoOk.nil)) | (exact o_callV fB 1 k4 rfl rfl (DLeL.refl _) (PreOk.cons rfl (PreOk.cons rfl PreOk.nil)) rfl (RoOk.cons rfl RoOk.nil)) | (exact o_callV fB 1 k5 rfl rfl (DLeL.refl _) (PreOk.cons rfl (PreOk.cons rfl PreOk.nil)) rfl (RoOk.cons rfl RoOk.nil)) | (exact o_callV fB 1 k6 rfl rfl (DLeL.refl _) (PreOk.cons rfl (PreOk.cons rfl PreOk.nil)) rfl (RoOk.cons rfl RoOk.nil))))); (apply tc; (case h=>(first | (exact o_fieldAddr rfl) | (exact o_fieldAddr_e rfl rfl) | (exact o_fieldAddr_p rfl)))); (apply tc; (case h=>(first | (exact o_callV fB 1 k3 rfl rfl (DLeL.refl _) (PreOk.cons rfl (PreOk.cons rfl PreOk.nil)) rfl (RoOk.cons rfl RoOk.nil)) | (exact o_callV fB 1 k4 rfl rfl (DLeL.refl _) (PreOk.cons rfl (PreOk.cons rfl PreOk.nil)) rfl (RoOk.cons rfl RoOk.nil)) | (exact o_callV fB 1 k5 rfl rfl (DLeL.refl _) (PreOk.cons rfl (PreOk.cons rfl PreOk.nil)) rfl (RoOk.cons rfl RoOk.nil)) | (exact o_callV fB 1 k6 rfl rfl (DLeL.refl _) (PreOk.cons rfl (PreOk.cons rfl PreOk.nil)) rfl (RoOk.cons rfl RoOk.nil)) | (exact o_store_s rfl rfl rfl rfl rfl)))); (apply tc; (case h=>(first | (exact o_fieldAddr rfl) | (exact o_fieldAddr_e rfl rfl) | (exact o_fieldAddr_p rfl)))); (apply tc; (case h=>(first | (exact o_callV fB 1 k3 rfl rfl (DLeL.refl _) (PreOk.cons rfl (PreOk.cons rfl PreOk.nil)) rfl (RoOk.cons rfl RoOk.nil)) | (exact o_callV fB 1 k4 rfl rfl (DLeL.refl _) (PreOk.cons rfl (PreOk.cons rfl PreOk.nil)) rfl (RoOk.cons rfl RoOk.nil)) | (exact o_callV fB 1 k5 rfl rfl (DLeL.refl _) (PreOk.cons rfl (PreOk.cons rfl PreOk.nil)) rfl (RoOk.cons rfl RoOk.nil)) | (exact o_callV fB 1 k6 rfl rfl (DLeL.refl _) (PreOk.cons rfl (PreOk.cons rfl PreOk.nil)) rfl (RoOk.cons rfl RoOk.nil)) | (exact o_store_s rfl rfl rfl rfl rfl)))); (apply tc; (case h=>(first | (exact o_fieldAddr rfl) | (exact o_fieldAddr_e rfl rfl) | (exact o_fieldAddr_p rfl)))); (apply tc; (case h=>(first | (exact o_callV fB 1 k3 rfl rfl (DLeL.refl _) (PreOk.cons rfl (PreOk.cons rfl PreOk.nil)) rfl (RoOk.cons rfl RoOk.nil)) | (exact o_callV fB 1 k4 rfl rfl (DLeL.refl _) (PreOk.cons rfl (PreOk.cons rfl PreOk.nil)) rfl (RoOk.cons rfl RoOk.nil)) | (exact o_callV fB 1 k5 rfl rfl (DLeL.refl _) (PreOk.cons rfl (PreOk.cons rfl PreOk.nil)) rfl (RoOk.cons rfl RoOk.nil)) | (exact o_callV fB 1 k6 rfl rfl (DLeL.refl _) (PreOk.cons rfl (PreOk.cons rfl PreOk.nil)) rfl (RoOk.cons rfl RoOk.nil)) | (exact o_store_s rfl rfl rfl rfl rfl)))); (apply tc; (case h=>(first | (exact o_fieldAddr rfl) | (exact o_fieldAddr_e rfl rfl) | (exact o_fieldAddr_p rfl)))); (apply tc; (case h=>(first | (exact o_callV fB 1 k3 rfl rfl (DLeL.refl _) (PreOk.cons rfl (PreOk.cons rfl PreOk.nil)) rfl (RoOk.cons rfl RoOk.nil)) | (exact o_callV fB 1 k4 rfl rfl (DLeL.refl _) (PreOk.cons rfl (PreOk.cons rfl PreOk.nil)) rfl (RoOk.cons rfl RoOk.nil)) | (exact o_callV fB 1 k5 rfl rfl (DLeL.refl _) (PreOk.cons rfl (PreOk.cons rfl PreOk.nil)) rfl (RoOk.cons rfl RoOk.nil)) | (exact o_callV fB 1 k6 rfl rfl (DLeL.refl _) (PreOk.cons rfl (PreOk.cons rfl PreOk.nil)) rfl (RoOk.cons rfl RoOk.nil)) | (exact o_store_s rfl rfl rfl rfl rfl)))); exact tn)); (case hd=>kernel_rfl); (case hnew=>kernel_rfl))
 refine a_seq ?_
 (apply a_region; (case ht=>((apply tc; (case h=>(first | (exact o_callN (fun _=>100000) 1 k7 rfl (DLeL.refl _) (PreOk.cons rfl PreOk.nil) rfl RoOk.nil) | (exact o_load_s rfl rfl rfl) | (exact o_load_es rfl rfl) | (exact o_load_ps rfl rfl rfl rfl rfl)))); (apply tc; (case h=>exact o_callN (fun _=>100000) 1 k7 rfl (DLeL.refl _) (PreOk.cons rfl PreOk.nil) rfl RoOk.nil)); (apply tc; (case h=>(first | (exact o_fieldAddr rfl) | (exact o_fieldAddr_e rfl rfl) | (exact o_fieldAddr_p rfl)))); (apply tc; (case h=>(first | (exact o_callN (fun _=>100000) 1 k7 rfl (DLeL.refl _) (PreOk.cons rfl PreOk.nil) rfl RoOk.nil) | (exact o_store_s rfl rfl rfl rfl rfl)))); exact tn)); (case hd=>kernel_rfl); (case hnew=>kernel_rfl))
 refine a_seq ?_
 refine a_seq ?_
 (apply a_region; (case ht=>((apply tc; (case h=>(first | (exact o_callN (fun _=>100000) 1 k8 rfl (DLeL.refl _) (PreOk.cons rfl PreOk.nil) rfl RoOk.nil) | (exact o_load_s rfl rfl rfl) | (exact o_load_es rfl rfl) | (exact o_load_ps rfl rfl rfl rfl rfl)))); (apply tc; (case h=>exact o_callN (fun _=>100000) 1 k8 rfl (DLeL.refl _) (PreOk.cons rfl PreOk.nil) rfl RoOk.nil)); (apply tc; (case h=>exact o_move rfl)); exact tn)); (case hd=>kernel_rfl); (case hnew=>kernel_rfl))
 refine a_block ?_
 refine a_imp (Imp.nilCell (id:=6) (rid:=900) (j:=8) 2 1 rfl rfl rfl rfl) ?_
 refine a_loop (fun p : List Int × Rd=>⟨[(2,.ref 2 0),(4,.ref 4 0),(6,.ref 6 0),(31,.int .u64 (cnt : Int)),(32,.int .u64 (p.1.length : Int))],
   [(2,some bxE),(4,some (.blk 49 (evD ev0))),(6,some (.blk 49 [.int .i64 v1,.int .i64 c,.int .u8 v2,.int .i64 v3,.int .i64 v4,.int .i64 v5,.int .i64 v6,.int .i64 v7,.row 900])),(900,some (.row 2 1 (p.1.map (DV.int .i64)))),(100000,some (rdE p.2))],[2,4,6,900,100000]⟩)
  (fun p=>p.1.length≤cnt∧RdOk p.2∧r8.ints cnt = (p.1++(p.2.ints (cnt - p.1.length)).1,(p.2.ints (cnt - p.1.length)).2)) (fun p=>cnt - p.1.length) ([],r8) ?_ ?_ ?_
 ·exact Imp.of (fun i=>i) (.cons rfl (DLe.refl _) (.cons rfl (DLe.refl _) (.cons rfl (DLe.refl _) (.cons rfl (DLe.refl _) (.cons rfl (DLe.refl _) .nil))))) (.cons rfl (.refl _) (.cons rfl (.blk (.cons (DLe.refl _) (.cons (DLe.refl _) (.cons (DLe.refl _) (.cons (DLe.refl _) (.cons (DLe.refl _) (.cons (DLe.refl _) (.cons (DLe.refl _) (.cons (DLe.refl _) (.cons (DLe.nils 1) .nil)))))))))) (.cons rfl (.refl _) (.cons rfl (.refl _) (.cons rfl (.refl _) .nil))))) rfl rfl rfl
 ·exact ⟨by simp,o8,by simp⟩
 rintro ⟨l,q⟩ ⟨i1,i2,i3⟩
 simp only at i1 i2 i3
 dsimp only
 refine a_seq ?_
 (apply a_region; (case ht=>exact .cons (o_int rfl rfl rfl)<|.nil _); (case hd=>kernel_rfl); (case hnew=>kernel_rfl))
 refine a_seq ?_
 refine a_cond _ rfl (fun c1=>?_) (fun c1=>?_)
 ·have hlt : l.length < cnt:=by simp only [decide_eq_true_eq] at c1; omega
  have kq:=rInt_c q i2
  have oq:=i2.int
  have hst:=ints_step cnt l.length hlt q l _ i3
  generalize q.int = pq at *
  obtain ⟨x,q'⟩ := pq
  refine a_skip ?_
  refine a_seq ?_
  refine a_block ?_
  (apply a_draw mixed; (case ht=>((apply tc; (case h=>(first | (exact o_fieldAddr rfl) | (exact o_fieldAddr_e rfl rfl) | (exact o_fieldAddr_p rfl)))); (apply tc; (case h=>(first | (exact o_callN (fun _=>100000) 1 kq rfl (DLeL.refl _) (PreOk.cons rfl PreOk.nil) rfl RoOk.nil) | (exact o_append rfl rfl rfl (Src.row rfl) (by simp; omega)) | (exact o_load_s rfl rfl rfl) | (exact o_load_es rfl rfl) | (exact o_load_ps rfl rfl rfl rfl rfl)))); (apply tc; (case h=>(first | (exact o_callN (fun _=>100000) 1 kq rfl (DLeL.refl _) (PreOk.cons rfl PreOk.nil) rfl RoOk.nil) | (exact o_append rfl rfl rfl (Src.row rfl) (by simp; omega)) | (exact o_load_s rfl rfl rfl) | (exact o_load_es rfl rfl) | (exact o_load_ps rfl rfl rfl rfl rfl)))); (apply tc; (case h=>(first | (exact o_callN (fun _=>100000) 1 kq rfl (DLeL.refl _) (PreOk.cons rfl PreOk.nil) rfl RoOk.nil) | (exact o_append rfl rfl rfl (Src.row rfl) (by simp; omega))))); (apply tc; (case h=>(first | (exact o_callN (fun _=>100000) 1 kq rfl (DLeL.refl _) (PreOk.cons rfl PreOk.nil) rfl RoOk.nil) | (exact o_append rfl rfl rfl (Src.row rfl) (by simp; omega)) | (exact o_buildSlice rfl rfl rfl rfl rfl rfl)))); (apply tc; (case h=>(first | (exact o_callN (fun _=>100000) 1 kq rfl (DLeL.refl _) (PreOk.cons rfl PreOk.nil) rfl RoOk.nil) | (exact o_append rfl rfl rfl (Src.row rfl) (by simp; omega)) | (exact o_append rfl rfl rfl Src.sl (by simp; omega)) | (exact o_append rfl rfl rfl (Src.row rfl) (by simp; omega)) | (exact o_append_n rfl rfl Src.sl (by simp; omega)) | (exact o_append_n rfl rfl (Src.row rfl) (by simp; omega))))); (apply tc; (case h=>(first | (exact o_fieldAddr rfl) | (exact o_fieldAddr_e rfl rfl) | (exact o_fieldAddr_p rfl)))); (apply tc; (case h=>(first | (exact o_callN (fun _=>100000) 1 kq rfl (DLeL.refl _) (PreOk.cons rfl PreOk.nil) rfl RoOk.nil) | (exact o_append rfl rfl rfl (Src.row rfl) (by simp; omega)) | (exact o_store_s rfl rfl rfl rfl rfl)))); exact tn)); (case hk=>kernel_rfl); (case hd=>kernel_rfl); (case hnew=>kernel_rfl))
  (apply a_region; (case ht=>((apply tc; (case h=>(first | (exact o_add rfl rfl (by simp only [InR]; omega)) | (exact o_int rfl rfl rfl)))); (apply tc; (case h=>exact o_move rfl)); exact tn)); (case hd=>kernel_rfl); (case hnew=>kernel_rfl))
  refine QLoop.next (l++[x],q') ⟨by simp; omega,oq,?_⟩ (by simp; omega) (Imp.of (fun i=>bif Nat.beq i 900 then 39 else i) (.cons rfl (DLe.refl _) (.cons rfl (DLe.refl _) (.cons rfl (DLe.refl _) (.cons rfl (DLe.refl _) (.cons rfl (DLe.of_eq ?_) .nil))))) (.cons rfl (.refl _) (.cons rfl (.refl _) (.cons rfl (.refl _) (.cons rfl (HLe.of_eq ?_) (.cons rfl (.refl _) .nil))))) rfl rfl rfl)
  ·simp only [List.length_append,List.length_cons,List.length_nil,Nat.zero_add]; exact hst
  ·simp [DV.ren]
  ·simp [HE.ren,DV.ren]
 ·have hlt : l.length = cnt:=by simp only [decide_eq_false_iff_not] at c1; omega
  rw [hlt,Nat.sub_self] at i3
  simp only [Rd.ints,List.append_nil] at i3
  rw [i3]
  refine a_exit ?_
  refine a_imp (Imp.freeze (id:=900) rfl) ?_
  refine a_seq ?_
  (apply a_region; (case ht=>((apply tc; (case h=>(first | (exact o_load_r rfl rfl rfl rfl) | (exact o_load_er rfl rfl rfl) | (exact o_load_pr rfl rfl rfl rfl rfl rfl)))); (apply tc; (case h=>exact o_store rfl rfl rfl rfl rfl rfl rfl)); exact tn)); (case hd=>kernel_rfl); (case hnew=>kernel_rfl))
  refine a_ret ?_
  ((refine a_post (ResV.r1 (ResOk.cell rfl rfl (.row _ CRow.h (Nat.le_of_ble_eq_true rfl) rfl))) (DLe.of_eq ?_) (PostOk.consE rfl ?_ PostOk.nil).spec) <;> (first | rfl | simp [constDV,layD,DV.cs,renL,DV.ren,HE.ren,u8s,rdE,List.set,List.take_of_length_le,evD]))
def recD (r : Re) : List DV:=(.int .i64 r.comp :: .int .u64 r.seq :: clkD r.clk)++(.int .u8 r.what :: evD r.ev)++[.int .u64 r.count]
def isInt : DV→Bool
 | .int _ _=>true
 | _=>false
theorem RsL_sc {F : FMap} {γ : Gam} : ∀ {ds : List DV} {vs : List Value},(ds.all isInt) = true→RsL F γ ds vs→vs = ds.map DV.scal
 | [],vs,_,h=>by simp only [RsL] at h; rw [h]; rfl
 | d :: ds,vs,hi,h=>by
  simp only [List.all_cons,Bool.and_eq_true] at hi
  simp only [RsL] at h
  obtain ⟨v,rest,rfl,_,h1,h2⟩ := h
  cases d with
  | int k n=>
   simp only [Rs] at h1
   rw [h1,RsL_sc hi.2 h2]; rfl
  | _=>exact absurd hi.1 (by simp [isInt])
theorem RsL_sl {F : FMap} {γ : Gam} {w : World} (hF : FSat F w) {a b : List DV} {k : IntKind} {xs : List Int} {vs : List Value} (ha : (a.all isInt) = true) (h : RsL F γ (a++.sl 1 (xs.map (.int k)) :: b) vs) :
  ∃ A c rest,vs = a.map DV.scal++.slice A xs.length c :: rest∧SlOk A xs.length c∧At w A (xs.map (Value.int k))∧RsL F γ b rest:=by
 obtain ⟨h1,h2⟩ := h.split
 have e1:=RsL_sc ha h1
 have h3 : ∃ v rest,vs.drop a.length = v :: rest∧v.oneCell' = true∧Rs F γ (.sl 1 (xs.map (.int k))) v∧RsL F γ b rest:=by simpa only [RsL] using h2
 obtain ⟨v,rest,e,_,hs,hb⟩ := h3
 obtain ⟨A,c,rfl,hok,hat⟩ := sl_ints hF hs
 exact ⟨A,c,rest,by rw [← e1,← e,List.take_append_drop],hok,hat,hb⟩
theorem rec_of {F : FMap} {γ : Gam} {w : World} (hF : FSat F w) {r : Re} {v : Value} (h : Rs F γ (.agg (recD r)) v) : ∃ A c,v = .agg (recA r A c)∧SlOk A r.ev.args.length c∧At w A (r.ev.args.map (Value.int .i64)):=by
 simp only [Rs] at h
 obtain ⟨cs,rfl,h⟩ := h
 have e : recD r = (.int .i64 r.comp :: .int .u64 r.seq :: clkD r.clk++(.int .u8 r.what :: [.int .i64 r.ev.tick,.int .i64 r.ev.comp,.int .u8 r.ev.kind,.int .i64 r.ev.peer,.int .i64 r.ev.n,.int .i64 r.ev.copy,.int .i64 r.ev.handler,.int .i64 r.ev.d]))++.sl 1 (r.ev.args.map (.int .i64)) :: [.int .u64 r.count]:=rfl
 rw [e] at h
 obtain ⟨A,c,rest,e1,h1,h2,h3⟩ := RsL_sl hF rfl h
 have e2:=RsL_sc (ds:=[.int .u64 r.count]) rfl h3
 refine ⟨A,c,?_,h1,h2⟩
 congr 1
 apply Array.toList_inj.1
 rw [e1,e2]; rfl
theorem one_arg {F : FMap} {γ : Gam} {d : DV} {vs : List Value} (h : RsT F γ [d] vs) : ∃ v,vs = [v]∧Rs F γ d v:=by
 simp only [RsT] at h
 obtain ⟨v,rest,rfl,h1,rfl⟩ := h
 exact ⟨v,rfl,h1⟩
theorem two_args {F : FMap} {γ : Gam} {d e : DV} {vs : List Value} (h : RsT F γ [d,e] vs) : ∃ v u,vs = [v,u]∧Rs F γ d v∧Rs F γ e u:=by
 simp only [RsT] at h
 obtain ⟨v,rest,rfl,h1,u,rest',rfl,h2,rfl⟩ := h
 exact ⟨v,u,rfl,h1,h2⟩
theorem check_c (r : Re) (hn : r.ev.args.length≤1099511627776) (hu : U64 r.seq) : PCall Tryz.prog 22 [.agg (recD r)] (.int .i64 (checkN r)):=PCall.ofExt fun F w vs hF hv=>by
 obtain ⟨v,rfl,h1⟩ := one_arg hv
 obtain ⟨A,c,rfl,_,hat⟩ := rec_of hF h1
 exact (Check_any r A c w hat hn hu).mono fun e w' ⟨he,hx⟩=>⟨_,he,hx,by simp only [Rs]⟩
theorem recBytes_c (r : Re) (hn : r.ev.args.length≤1099511627776) (hT : ReT r) : PCall Tryz.prog 14 [.agg (recD r)] (u8s (recBytes r)):=PCall.ofInts fun F w vs hF hv=>by
 obtain ⟨v,rfl,h1⟩ := one_arg hv
 obtain ⟨A,c,rfl,_,hat⟩ := rec_of hF h1
 exact RecBytes_any r A c w hat hn hT
theorem equal_c (a b : Re) (hn : a.ev.args.length≤1099511627776) : PCall Tryz.prog 130 [.agg (recD a),.agg (recD b)] (.bool (recEq a b)):=PCall.ofExt fun F w vs hF hv=>by
 obtain ⟨v,u,rfl,h1,h2⟩ := two_args hv
 obtain ⟨A,c,rfl,_,hat⟩ := rec_of hF h1
 obtain ⟨B,d,rfl,_,hbt⟩ := rec_of hF h2
 exact (Equal_any a b A B c d w hat hbt hn).mono fun e w' ⟨he,hx⟩=>⟨_,he,hx,by simp only [Rs]⟩
def evOf (e : AEv) : Ev := ⟨e.gTick,e.gComponent,e.gKind,e.gPeer,e.gN,e.gCopy,e.gHandler,e.gD,e.gArgs⟩
def reOf (x : RRec) : Re := ⟨x.gComponent,x.gSeq,fun i=>if i < 16 then x.gClock.gat i else 0,x.gWhat,evOf x.gEvent,x.gCount⟩
def okI (k : IntKind) (n : Int) : Bool:=decide (InR k n)
theorem okI_iff {k : IntKind} {n : Int} : okI k n = true↔InR k n:=by simp [okI]
def evFits (e : AEv) : Bool:=okI .i64 e.gTick && okI .i64 e.gComponent && okI .u8 e.gKind && okI .i64 e.gPeer && okI .i64 e.gN && okI .i64 e.gCopy && okI .i64 e.gHandler && okI .i64 e.gD && e.gArgs.all (okI .i64) && decide (e.gArgs.length≤1099511627776)
def ckFits (c : VClk) : Bool:=(List.range 16).all fun i=>okI .u64 (c.gat i)
def reFits (x : RRec) : Bool:=okI .i64 x.gComponent && okI .u64 x.gSeq && ckFits x.gClock && okI .u8 x.gWhat && evFits x.gEvent && okI .u64 x.gCount
theorem evFits_T {e : AEv} (h : evFits e = true) : EvT (evOf e)∧(evOf e).args.length≤1099511627776:=by
 unfold evFits at h
 simp only [Bool.and_eq_true,List.all_eq_true,okI_iff,InR,decide_eq_true_eq] at h
 obtain ⟨⟨⟨⟨⟨⟨⟨⟨⟨h1,h2⟩,h3⟩,h4⟩,h5⟩,h6⟩,h7⟩,h8⟩,h9⟩,h10⟩ := h
 refine ⟨?_,h10⟩
 constructor <;> first | assumption | (simp only [evOf,I64,U64,Byt]; assumption) | (simp only [evOf,I64,U64,Byt]; omega) | (intro v hv; have:=h9 v hv; simp only [I64]; omega)
theorem reFits_T {x : RRec} (h : reFits x = true) : ReT (reOf x)∧(reOf x).ev.args.length≤1099511627776:=by
 unfold reFits ckFits at h
 simp only [Bool.and_eq_true,List.all_eq_true,okI_iff,InR,List.mem_range] at h
 obtain ⟨⟨⟨⟨⟨h1,h2⟩,h3⟩,h4⟩,h5⟩,h6⟩ := h
 refine ⟨⟨?_,?_,?_,?_,(evFits_T h5).1,?_⟩,(evFits_T h5).2⟩
 ·simp only [reOf,I64]; omega
 ·simp only [reOf,U64]; omega
 ·intro i
  simp only [reOf,U64]
  split
  ·have:=h3 i (by assumption); omega
  ·omega
 ·simp only [reOf]; omega
 ·simp only [reOf,U64]; omega
theorem reOf_D (x : RRec) : recD (reOf x) = x.cs:=rfl
end Go.Proofs.YtepkcbalmjnhpaaGreatDoor
