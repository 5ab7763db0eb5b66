/-
  What the claim leans on, part 8.
-/
import Derived.Test.YtcgfgilddjkpkaaGreatGNi7
import Derived.RangeFuncSeq
import Derived.RangeFuncLeaves
set_option linter.unusedVariables false
set_option linter.unusedSimpArgs false
namespace Go.Proofs.YtcgfgilddjkpkaaGreat
open Go.RowKit
structure Grw (F : FMap) (w : World) (F' : FMap) (w' : World) : Prop where
 stp : Stp w w' none
 fle : FLe F F'
 new : ∀ b cs,F' b = some cs→F b = some cs∨w.heap.size≤b
 sat : ∀ b cs,F' b = some cs→∃ t fz,w'.heap[b]? = some (.cells cs t fz)
structure JOk (J : Nat→FMap→World→Prop) : Prop where
 grw : ∀ k F w F' w',J k F w→Grw F w F' w'→J k F' w'
 sat : ∀ k F w,J k F w→∀ b cs,F b = some cs→∃ t fz,w.heap[b]? = some (.cells cs t fz)
 kn : ∀ k F w,J k F w→Tbs F
def Ylds (P : Program) (l : Nat) (J : Nat→FMap→World→Prop) (ds : List DV) : Prop :=
 ∀ k d v F w,ds[k]? = some d→J k F w→Rs F Gam.no d v→YieldAt (FW none) 0 P l #[v] w (fun e w'=>∃ F',e = .returned (.bool true)∧FLe F F'∧J (k + 1) F' w')
def Iter (P : Program) (f : FuncId) (caps ds : List DV) : Prop :=
 ∀ (l : Nat) (J : Nat→FMap→World→Prop) (F : FMap) (w : World) (vs : List Value),JOk J→Ylds P l J ds→J 0 F w→RsT F Gam.no caps vs →
  CallsIn (FW none) 0 P f (#[.func (.yield l) #[] #[]]++vs.toArray) w (fun e w'=>∃ v F',e = .returned v∧FLe F F'∧J ds.length F' w')
def bare (w : World) (F : FMap) (n : Nat) : Ctx := ⟨w,fun _=>False,F,n,Gam.no,none,[]⟩
theorem Sat.grw {w0 w : World} {F0 F : FMap} {n : Nat} {γ : Gam} {σ : AS} {a : Act} (h : Sat (bare w0 F0 n) F γ σ a w) : Grw F0 w0 F w where
 stp := ⟨h.ws.os,h.ws.tape,h.ws.output,h.ws.size,fun k hk _=>h.ws.keep k hk (fun h=>h)⟩
 fle:=h.ws.f0
 new:=fun b cs hb=>by
  rcases h.ws.fnew b cs hb with h | h | h
  ·exact .inl h
  ·exact h.elim
  ·exact .inr h
 sat:=h.ws.fs
theorem WS.bare {w : World} {F : FMap} (n : Nat) (h : ∀ b cs,F b = some cs→∃ t fz,w.heap[b]? = some (.cells cs t fz)) (hk : Tbs F) : WS (bare w F n) F Gam.no [] [] w where
 ent:=fun id e h=>by simp [hget,look] at h
 own:=fun id e g b h=>by simp [hget,look] at h
 apart:=fun id id' e e' g g' b h=>by simp [hget,look] at h
 fs:=h
 f0:=FLe.refl _
 fnew:=fun b cs h=>.inl h
 os:=rfl
 tape:=rfl
 output:=rfl
 size:=Nat.le_refl _
 keep:=fun _ _ _=>rfl
 us:=fun id g h=>by cases h
 gone:=GOne.no
 g0:=GLe.refl _
 gk:=fun id g h=>by cases h
 kn:=hk
def awpJ (P : Program) (J : Nat→FMap→World→Prop) (n : Nat) (c : Code) (Q : Exit→Nat→AS→Prop) (k : Nat) (σ : AS) : Prop :=
 ∀ (w0 : World) (F0 F : FMap) (γ : Gam) (a : Act) (w : World),J k F0 w0→Sat (bare w0 F0 n) F γ σ a w →
  c.wpIn (FW none) 0 P (fun e a' w'=>∃ w0' F0' F' γ' k' σ',J k' F0' w0'∧FLe F0 F0'∧Sat (bare w0' F0' n) F' γ' σ' a' w'∧Q e k' σ') a w
section
variable {P : Program} {J : Nat→FMap→World→Prop} {n : Nat} {Q : Exit→Nat→AS→Prop} {σ : AS} {k : Nat}
theorem j_of {c : Code} (h : awp P n c (fun e σ'=>Q e k σ') σ) : awpJ P J n c Q k σ:=fun w0 F0 F γ a w hJ hs=>
 wpIn_mono (h (bare w0 F0 n) F γ a w rfl hs) fun e a' w' ⟨F',γ',σ',h1,h2⟩=>⟨w0,F0,F',γ',k,σ',hJ,FLe.refl _,h1,h2⟩
theorem j_imp {c : Code} {σ' : AS} (hi : Imp σ σ') (h : awpJ P J n c Q k σ') : awpJ P J n c Q k σ:=fun w0 F0 F γ a w hJ hs=>by
 obtain ⟨F1,γ1,h1⟩ := hi _ F γ a w hs
 exact h w0 F0 F1 γ1 a w hJ h1
def JThen (P : Program) (J : Nat→FMap→World→Prop) (n : Nat) (y : Code) (Q : Exit→Nat→AS→Prop) : Exit→Nat→AS→Prop
 | .normal,k,σ=>awpJ P J n y Q k σ
 | e,k,σ=>Q e k σ
theorem j_seq {x y : Code} (h : awpJ P J n x (JThen P J n y Q) k σ) : awpJ P J n (.seq x y) Q k σ:=fun w0 F0 F γ a w hJ hs=>
 wpIn_seq (wpIn_mono (h w0 F0 F γ a w hJ hs) fun e a' w' ⟨w1,F1,F',γ',k',σ',j1,j2,h1,h2⟩=>by
  cases e with
  | normal=>
   refine wpIn_mono (h2 w1 F1 F' γ' a' w' j1 h1) fun e a2 w2 ⟨w3,F3,F4,γ4,k4,σ4,q1,q2,q3,q4⟩=>⟨w3,F3,F4,γ4,k4,σ4,q1,j2.trans q2,q3,q4⟩
  | exit id=>exact ⟨w1,F1,F',γ',k',σ',j1,j2,h1,h2⟩
  | goto l=>exact ⟨w1,F1,F',γ',k',σ',j1,j2,h1,h2⟩
  | ret=>exact ⟨w1,F1,F',γ',k',σ',j1,j2,h1,h2⟩
  | panic c=>exact ⟨w1,F1,F',γ',k',σ',j1,j2,h1,h2⟩
  | outgrown=>exact ⟨w1,F1,F',γ',k',σ',j1,j2,h1,h2⟩)
theorem j_cond {c : Operand} {x y : Code} (b : Bool) (hc : ev σ.env c = some (.bool b)) (ht : b = true→awpJ P J n x Q k σ) (hf : b = false→awpJ P J n y Q k σ) : awpJ P J n (.cond c x y) Q k σ:=fun w0 F0 F γ a w hJ hs=>by
 have:=hs.ev hc
 simp only [Rs] at this
 exact wpIn_cond_split this (fun e=>ht e w0 F0 F γ a w hJ hs) (fun e=>hf e w0 F0 F γ a w hJ hs)
def JBlk (id : Nat) (Q : Exit→Nat→AS→Prop) : Exit→Nat→AS→Prop
 | .exit id',k,σ=>bif Nat.beq id' id then Q .normal k σ else Q (.exit id') k σ
 | e,k,σ=>Q e k σ
theorem j_block {id : Nat} {c : Code} (h : awpJ P J n c (JBlk id Q) k σ) : awpJ P J n (.block id c) Q k σ:=fun w0 F0 F γ a w hJ hs=>
 wpIn_block (wpIn_mono (h w0 F0 F γ a w hJ hs) fun e a' w' ⟨w1,F1,F',γ',k',σ',j1,j2,h1,h2⟩=>by
  cases e with
  | exit id'=>
   simp only [JBlk] at h2
   simp only [Exit.inBlock]
   by_cases hid : id' = id
   ·subst hid; simp at h2; rw [if_pos rfl]; exact ⟨w1,F1,F',γ',k',σ',j1,j2,h1,h2⟩
   ·have : Nat.beq id' id = false:=by rw [Bool.eq_false_iff]; intro e; exact hid (Nat.eq_of_beq_eq_true e)
    rw [this] at h2; rw [if_neg hid]; exact ⟨w1,F1,F',γ',k',σ',j1,j2,h1,h2⟩
  | normal=>exact ⟨w1,F1,F',γ',k',σ',j1,j2,h1,h2⟩
  | goto l=>exact ⟨w1,F1,F',γ',k',σ',j1,j2,h1,h2⟩
  | ret=>exact ⟨w1,F1,F',γ',k',σ',j1,j2,h1,h2⟩
  | panic c=>exact ⟨w1,F1,F',γ',k',σ',j1,j2,h1,h2⟩
  | outgrown=>exact ⟨w1,F1,F',γ',k',σ',j1,j2,h1,h2⟩)
def JLoop {α : Type} (S : α→AS) (I : Nat→α→Prop) (μ : α→Nat) (x : α) (Q : Exit→Nat→AS→Prop) : Exit→Nat→AS→Prop
 | .normal,k,σ=>∃ x',I k x'∧μ x' < μ x∧Imp σ (S x')
 | e,k,σ=>Q e k σ
theorem j_loop {c : Code} {α : Type} (S : α→AS) (I : Nat→α→Prop) (μ : α→Nat) (x0 : α) (h0 : Imp σ (S x0)) (hI : I k x0) (round : ∀ k x,I k x→awpJ P J n c (JLoop S I μ x Q) k (S x)) : awpJ P J n (.loop c) Q k σ:=fun w0 F0 F γ a w hJ hs=>by
 obtain ⟨F1,γ1,h1⟩ := h0 _ F γ a w hs
 refine wpIn_loop_ghost (fun m a w=>∃ x k w1 F1 F γ,I k x∧μ x = m∧J k F1 w1∧FLe F0 F1∧Sat (bare w1 F1 n) F γ (S x) a w) (μ x0) ⟨x0,k,w0,F0,F1,γ1,hI,rfl,hJ,FLe.refl _,h1⟩ ?_
 rintro m a w ⟨x,k,w1,F1,F,γ,hx,rfl,hJ,hF,hs⟩
 refine wpIn_mono (round k x hx w1 F1 F γ a w hJ hs) fun e a' w' ⟨w2,F2,F',γ',k',σ',j1,j2,h1,h2⟩=>?_
 cases e with
 | normal=>
  obtain ⟨x',i1,i2,i3⟩ := h2
  obtain ⟨F3,γ3,h3⟩ := i3 _ F' γ' a' w' h1
  exact ⟨μ x',i2,x',k',w2,F2,F3,γ3,i1,rfl,j1,hF.trans j2,h3⟩
 | exit id=>exact ⟨w2,F2,F',γ',k',σ',j1,hF.trans j2,h1,h2⟩
 | goto l=>exact ⟨w2,F2,F',γ',k',σ',j1,hF.trans j2,h1,h2⟩
 | ret=>exact ⟨w2,F2,F',γ',k',σ',j1,hF.trans j2,h1,h2⟩
 | panic c=>exact ⟨w2,F2,F',γ',k',σ',j1,hF.trans j2,h1,h2⟩
 | outgrown=>exact ⟨w2,F2,F',γ',k',σ',j1,hF.trans j2,h1,h2⟩
end
def OpJ (P : Program) (J : Nat→FMap→World→Prop) (n : Nat) (ops : Array Oper) (o : Oper) (k : Nat) (σ : AS) (k' : Nat) (σ' : AS) : Prop :=
 ∀ (w0 : World) (F0 F : FMap) (γ : Gam) (a : Act) (w : World),J k F0 w0→Sat (bare w0 F0 n) F γ σ a w→(∀ d,o.dst = some d→d < n) →
  ∀ (K : Act→World→Prop) (Q : Exit→Act→World→Prop),(∀ w1 F1 F' γ' a' w',J k' F1 w1→FLe F0 F1→Sat (bare w1 F1 n) F' γ' σ' a' w'→K a' w') →
   if Region.wanted o (yielded ops a.tmps) then o.wpIn (FW none) 0 P a w K Q else K (a.put o.dst undef) w
inductive TraceJ (P : Program) (J : Nat→FMap→World→Prop) (n : Nat) (ops : Array Oper) : List Oper→Nat→AS→Nat→AS→Prop
 | nil (k : Nat) (σ : AS) : TraceJ P J n ops [] k σ k σ
 | cons {o : Oper} {rest : List Oper} {k : Nat} {σ : AS} {k1 : Nat} {σ1 : AS} {k2 : Nat} {σ2 : AS} (h : OpJ P J n ops o k σ k1 σ1) (t : TraceJ P J n ops rest k1 σ1 k2 σ2) : TraceJ P J n ops (o :: rest) k σ k2 σ2
section
variable {P : Program} {J : Nat→FMap→World→Prop} {n : Nat} {Q : Exit→Nat→AS→Prop} {σ : AS} {k : Nat} {ops : Array Oper}
theorem OpG.toJ {o : Oper} {rt rh : List Nat} {E : Eff} (h : OpG P ops o rt rh σ E) (hn : newsOk σ.used [E.new] = true) : OpJ P J n ops o k σ k (σ.app E):=fun w0 F0 F γ a w hJ hs hd K Q hK=>
 h (bare w0 F0 n) F γ σ a w (fun _ _=>rfl) (fun _ _=>rfl) (fun id hi=>(newsOk_spec _ _ hn).1 E.new (by simp) id hi) hd hs K Q (fun F' γ' a' w' _ hs'=>hK w0 F0 F' γ' a' w' hJ (FLe.refl _) hs')
theorem TraceJ.seq {Q : Exit→Act→World→Prop} : ∀ (l : List Oper) (i : Nat) (k : Nat) (σ : AS) (k' : Nat) (σ' : AS),TraceJ P J n ops l k σ k' σ'→(∀ j o,l[j]? = some o→ops[i + j]? = some o) →
  (∀ o∈l,∀ d,o.dst = some d→d < n)→∀ (w0 : World) (F0 F : FMap) (γ : Gam) (a : Act) (w : World),J k F0 w0→Sat (bare w0 F0 n) F γ σ a w →
   (∀ w1 F1 F' γ' a' w',J k' F1 w1→FLe F0 F1→Sat (bare w1 F1 n) F' γ' σ' a' w'→Q .normal a' w')→wpOpsIn (FW none) 0 P ops Q ((List.range l.length).map (i + ·)) a w:=by
 intro l
 induction l with
 | nil=>
  intro i k σ k' σ' ht _ _ w0 F0 F γ a w hJ hs hq
  cases ht
  exact hq w0 F0 F γ a w hJ (FLe.refl _) hs
 | cons o rest ih=>
  intro i k σ k' σ' ht hops hn w0 F0 F γ a w hJ hs hq
  cases ht with
  | cons h t=>
   rename_i k1 σ1
   have e : (List.range (o :: rest).length).map (i + ·) = i :: (List.range rest.length).map (i + 1 + ·):=by
    rw [List.length_cons,List.range_succ_eq_map,List.map_cons,List.map_map]
    congr 1
    apply List.map_congr_left
    intro x _; simp only [Function.comp]; omega
   rw [e,wpOpsIn_cons]
   unfold wpOpIn
   have ho : ops[i]? = some o:=by simpa using hops 0 o rfl
   rw [ho]
   have key:=h w0 F0 F γ a w hJ hs (fun d hd=>hn o (List.mem_cons_self ..) d hd) (wpOpsIn (FW none) 0 P ops Q ((List.range rest.length).map (i + 1 + ·))) Q (fun w1 F1 F' γ' a' w' j1 j2 hs'=>?_)
   ·simp only
    split
    ·rename_i hw; rw [if_pos hw] at key; exact key
    ·rename_i hw; rw [if_neg hw] at key; exact ⟨fun _ _=>trivial,key⟩
   ·refine ih (i + 1) k1 σ1 k' σ' t (fun j o' hj=>?_) (fun o' ho'=>hn o' (List.mem_cons_of_mem _ ho')) w1 F1 F' γ' a' w' j1 hs' (fun w2 F2 F3 γ3 a3 w3 q1 q2 q3=>hq w2 F2 F3 γ3 a3 w3 q1 (j2.trans q2) q3)
    have:=hops (j + 1) o' (by simpa using hj)
    rw [← this]; congr 1; omega
theorem j_region {id : Nat} {k' : Nat} {σ' : AS} (ht : TraceJ P J n ops ops.toList k σ k' σ') (hd : dstOk n ops = true) (hq : Q .normal k' σ') : awpJ P J n (.region id ops false) Q k σ:=fun w0 F0 F γ a w hJ hs=>by
 refine wpIn_region ?_
 have:=TraceJ.seq (Q:=fun e a' w'=>∃ w0' F0' F' γ' k' σ',J k' F0' w0'∧FLe F0 F0'∧Sat (bare w0' F0' n) F' γ' σ' a' w'∧Q e k' σ') ops.toList 0 k σ k' σ' ht (fun j o hj=>by simpa using hj) (fun o ho d hd'=>?_) w0 F0 F γ a w hJ hs (fun w1 F1 F' γ' a' w' j1 j2 h=>⟨w1,F1,F',γ',k',σ',j1,j2,h,hq⟩)
 ·simpa using this
 ·simp only [dstOk,List.all_eq_true] at hd
  have:=hd o ho
  rw [hd'] at this
  exact Nat.blt_eq ▸ this
theorem Sat.bared {w0 w w' : World} {F0 F F' : FMap} {γ : Gam} {σ : AS} {a : Act} (hs : Sat (bare w0 F0 n) F γ σ a w) (hF : FLe F F') (hJ : ∀ b cs,F' b = some cs→∃ t fz,w'.heap[b]? = some (.cells cs t fz)) {env' : List (Nat × DV)} (hE : ∀ t d,look env' t = some d→look σ.env t = some d∧d.ids = []) :
  Sat (bare w' F' n) F' Gam.no ⟨env',[],[]⟩ a w' where
 env:=fun t d ht=>by
  obtain ⟨h1,h2⟩ := hE t d ht
  have:=hs.env t d h1
  exact ⟨this.1,Rs_ids d _ (by rw [h2]; intro i hi; cases hi) (this.2.mono hF (GLe.refl _))⟩
 ws:=WS.bare n hJ ((hs.ws.kn.mono hs.ws.f0).mono hF)
 size:=hs.size
 defers:=hs.defers
theorem o_yield {o : Oper} {x y : Operand} {ats : Array TypeId} {t l : Nat} {ds : List DV} {d dx dy r : DV} (ho : o.op = .call ⟨.value x,#[y],ats⟩) (hd : o.dst = some t)
  (hw : ∀ w0 F0 F γ a w,Sat (bare w0 F0 n) F γ σ a w→Region.wanted o (yielded ops a.tmps) = true) (ex : ev σ.env x = some dx) (hx : ∀ F γ v,Rs F γ dx v→v = .func (.yield l) #[] #[])
  (ey : ev σ.env y = some dy) (hy : ∀ F γ v,Rs F γ dy v→Rs F Gam.no d v) (JO : JOk J) (Y : Ylds P l J ds) (hk : ds[k]? = some d)
  (env' : List (Nat × DV)) (hE : ∀ t d,look env' t = some d→look σ.env t = some d∧d.ids = []) (hr : ∀ F γ,Rs F γ r (.bool true)) : OpJ P J n ops o k σ (k + 1) ⟨(t,r) :: env',[],[]⟩ := by
 intro w0 F0 F γ a w hJ hs hdn K Q hK
 rw [if_pos (hw w0 F0 F γ a w hs)]
 have hv:=hx _ _ _ (hs.ev ex)
 obtain ⟨fn,tmps,assign,body,hrun,hround⟩ := Y k d (a.eval y) F w hk (JO.grw k F0 w0 F w hJ hs.grw) (hy _ _ _ (hs.ev ey))
 refine ⟨fun _ _=>trivial,?_⟩
 have he : (execOp a.eval o).run P w = .ok (.round l fn tmps assign body) w:=by
  simp [execOp,ho,resolve,hv,Deferred.ofValue,invoke,hrun]
 rw [Oper.semAt_eq _ _ _ (fun c hc=>by rw [ho] at hc; cases hc),he]
 refine ⟨fun h=>by simp [FW,Fence.wide] at h,hround.mono ?_⟩
 rintro e w' ⟨F',rfl,hF,hJ'⟩
 show K (a.put o.dst (.bool true)) w'
 rw [hd]
 exact hK w' F' F' Gam.no _ w' hJ' (hs.ws.f0.trans hF) ((hs.bared hF (JO.sat _ _ _ hJ') hE).put (hdn t hd) (hr _ _))
theorem o_callJ {o : Oper} {f : FuncId} [hf : CFn P f] {xs : Array Operand} {ats : Array TypeId} {t : Nat} {dxs args : List DV} {k' : Nat} (ho : o.op = .call ⟨.value (.func f),xs,ats⟩) (hd : o.dst = some t) (hg : o.guard = none)
  (ha : evL σ.env xs.toList = some dxs) (hle : DLeL dxs args) (hi : idsL args = []) (JO : JOk J)
  (hc : ∀ (F : FMap) (w : World) (vs : List Value),J k F w→RsT F Gam.no args vs→CallsIn (FW none) 0 P f vs.toArray w (fun e w'=>∃ F',e = .returned (.tuple #[])∧FLe F F'∧J k' F' w'))
  (env' : List (Nat × DV)) (hE : ∀ t d,look env' t = some d→look σ.env t = some d∧d.ids = []) : OpJ P J n ops o k σ k' ⟨(t,.tup []) :: env',[],[]⟩ := by
 intro w0 F0 F γ a w hJ hs hdn K Q hK
 rw [if_pos (by simp [Region.wanted,hg])]
 have hv:=hle.rsT (hs.evs ha)
 have hv' : RsT F Gam.no args (xs.toList.map a.eval):=RsT_ids args _ (by rw [hi]; simp) hv
 refine ⟨fun _ _=>trivial,?_⟩
 rw [Oper.semAt_eq _ _ _ (fun c hc=>by rw [ho] at hc; cases hc),run_call o xs ats ho a w]
 refine ⟨fun h=>by simp [FW,Fence.wide] at h,?_⟩
 have e : (xs.toList.map a.eval).toArray = xs.map a.eval:=by rw [← Array.toList_map]
 have:=hc F w _ (JO.grw k F0 w0 F w hJ hs.grw) hv'
 rw [e] at this
 refine this.mono ?_
 rintro e w' ⟨F',rfl,hF,hJ'⟩
 show K (a.put o.dst (.tuple #[])) w'
 rw [hd]
 exact hK w' F' F' Gam.no _ w' hJ' (hs.ws.f0.trans hF) ((hs.bared hF (JO.sat _ _ _ hJ') hE).put (hdn t hd) (by simp [Rs,RsT]))
theorem callsJ {f : FuncId} {fn : Func} {c : Code} {args : List DV} {vs : List Value} {k' : Nat} {F : FMap} {w : World} (JO : JOk J) (hf : P.funcs[f]? = some fn) (hb : fn.body = some c) (hn : fn.ntmps = n) (hrs : fn.results = #[]) (ha : args.length≤n)
  (h : awpJ P J n c (fun e m _=>(e = .normal∨e = .ret)∧m = k') k ⟨params 0 args,[],[]⟩) (hJ : J k F w) (hv : RsT F Gam.no args vs) :
  CallsIn (FW none) 0 P f vs.toArray w (fun e w'=>∃ F',e = .returned (.tuple #[])∧FLe F F'∧J k' F' w'):=by
 subst hn
 refine callsIn_of_wp hf hb trivial ?_
 have hs : Sat (bare w F fn.ntmps) F Gam.no ⟨params 0 args,[],[]⟩ { tmps:=vs.toArray++Array.replicate (fn.ntmps - vs.toArray.size) undef,defers:=[] } w :=
  ⟨params_sat hv ha,WS.bare _ (JO.sat _ _ _ hJ) (JO.kn _ _ _ hJ),by
   have:=hv.len
   simp [bare]; omega,rfl⟩
 refine wpIn_mono (h w F F Gam.no _ w hJ hs) ?_
 rintro e a' w' ⟨w1,F1,F',γ',m,σ',j1,j2,h1,h2,rfl⟩
 have main : a'.defers = []∧∃ v,(results fn a'.tmps).run P w' = .ok v w'∧(∃ F',Ending.returned v = .returned (.tuple #[])∧FLe F F'∧J m F' w') :=
  ⟨h1.defers,.tuple #[],results0 hrs,F',rfl,j2.trans h1.ws.f0,JO.grw _ _ _ _ _ j1 h1.grw⟩
 rcases h2 with rfl | rfl
 ·exact main
 ·exact main
end
section
variable {C C' : Ctx} {F F' : FMap} {γ : Gam} {h : Heap} {used : List Nat} {w w' : World}
theorem WS.ctx (H : WS C F γ h used w) (h1 : C'.w0 = C.w0) (h2 : C'.T = C.T) (h3 : C'.F0 = C.F0) (h4 : GLe C'.G0 γ) (h5 : ∀ id g,C'.G0 id = some g→100000≤id) : WS C' F γ h used w where
 ent:=H.ent
 own:=by rw [h1,h2]; exact H.own
 apart:=H.apart
 fs:=H.fs
 f0:=by rw [h3]; exact H.f0
 fnew:=by rw [h1,h2,h3]; exact H.fnew
 os:=by rw [h1]; exact H.os
 tape:=by rw [h1]; exact H.tape
 output:=by rw [h1]; exact H.output
 size:=by rw [h1]; exact H.size
 keep:=by rw [h1,h2]; exact H.keep
 us:=H.us
 gone:=H.gone
 g0:=h4
 gk:=h5
 kn:=by rw [h3]; exact H.kn
theorem WS.reF (H : WS C F γ h used w) : WS { C with F0:=F } F γ h used w:={ H with f0:=FLe.refl _,fnew:=fun b cs hb=>.inl hb,kn:=H.kn.mono H.f0 }
theorem WS.unF {γ' : Gam} {h' : Heap} {used' : List Nat} (H : WS C F γ h used w) (K : WS { C with F0:=F } F' γ' h' used' w') : WS C F' γ' h' used' w' :=
 { K with
  f0:=H.f0.trans K.f0
  kn:=H.kn
  fnew:=fun b cs hb=>(K.fnew b cs hb).elim (fun q=>H.fnew b cs q) .inr }
theorem WS.grown (H : WS C F γ h used w) (G : Grw F w F' w') : WS C F' γ h used w' := by
 have Q:=H.quiet G.stp
 exact { Q with
  ent:=fun id e hi=>by obtain ⟨g,h1,h2⟩ := Q.ent id e hi; exact ⟨g,h1,h2.mono G.fle (GLe.refl _)⟩
  own:=fun id e g b hi hg hb=>by
   refine ⟨?_,(H.own id e g b hi hg hb).2⟩
   cases hF : F' b with
   | none=>rfl
   | some cs=>
    obtain ⟨g',k1,k2⟩ := H.ent id e hi
    rw [hg] at k1; injection k1 with k1; subst k1
    have hlt:=k2.lt b hb
    rcases G.new b cs hF with q | q
    ·rw [(H.own id e g b hi hg hb).1] at q; cases q
    ·omega
  fs:=G.sat
  f0:=H.f0.trans G.fle
  fnew:=fun b cs hb=>by
   rcases G.new b cs hb with q | q
   ·exact H.fnew b cs q
   ·exact .inr (.inr (Nat.le_trans H.size q)) }
theorem WS.setObj (H : WS C F γ h used w) {id l : Nat} {o : Obj} (o' : Obj) (hi : hget h id = some (.obj o)) (hg : γ id = some (.pointer (some ⟨l,0,none⟩))) : WS C F γ ((id,some (.obj o')) :: h) used (w.putObj l o'):=by
 obtain ⟨g,k1,b,k2,k3⟩ := H.ent id _ hi
 rw [hg] at k1; injection k1 with k1; subst k1
 injection k2 with k2; injection k2 with k2; injection k2 with k2 _ _; subst k2
 have hlt:=(Array.getElem?_eq_some_iff.1 k3).1
 have S : Stp w (w.putObj l o') (Value.pblk (.pointer (some ⟨l,0,none⟩))) := ⟨rfl,rfl,rfl,by simp,fun k hk hne=>World.putObj_heap_other (fun e=>hne (by rw [e]; rfl))⟩
 have T:=H.turn hi hg S
 have P:=T.put (e0:=.obj o') hg ⟨l,rfl,World.putObj_heap_same hlt⟩ (fun b hb=>by
  obtain ⟨q1,q2⟩ := H.own id _ _ b hi hg hb
  refine ⟨q1,q2,fun id' e' g' hne hh hg' hb'=>?_⟩
  rw [hget_cons] at hh
  split at hh
  ·cases hh
  ·exact hne (H.apart id' id e' _ g' _ b hh hi hg' hg hb' hb))
 refine P.congr (fun i e he=>?_) (fun _ h=>h)
 rw [hget_cons] at he ⊢
 split at he
 ·rename_i e1; rw [if_pos e1]; exact he
 ·rename_i e1; rw [if_neg e1,hget_cons,if_neg e1]; exact he
end
def markD (D : Nat) : Deferred:={ target:=.collected D,args := #[] }
def idR : Nat:=100004
def idM : Nat:=100005
def ptrTo (b : Nat) : Value:=.pointer (some ⟨b,0,none⟩)
def openMark : HE:=.obj (.deferred (some []))
def CExt (C C' : Ctx) : Prop:=C' = C∨∃ D,C'.w0 = C.w0∧C'.T = C.T∧C'.F0 = C.F0∧C'.n = C.n∧C'.ro = none∧C'.defs = [markD D]∧C'.G0 idM = some (ptrTo D)
def awpD (P : Program) (n : Nat) (c : Code) (Q : Exit→AS→Prop) (σ : AS) : Prop :=
 ∀ (C : Ctx) (F : FMap) (γ : Gam) (a : Act) (w : World),C.n = n→C.ro = none→C.defs = []→C.G0 = Gam.no→Sat C F γ σ a w →
  c.wpIn (FW none) 0 P (fun e a' w'=>∃ C' F' γ' σ',CExt C C'∧Sat C' F' γ' σ' a' w'∧Q e σ') a w
section
variable {P : Program} {n : Nat} {Q : Exit→AS→Prop} {σ : AS}
theorem d_of {c : Code} (h : awp P n c Q σ) : awpD P n c Q σ:=fun C F γ a w hn hr hd hg hs=>by
 have:=h C F γ a w hn hs
 rw [hr] at this
 exact wpIn_mono this fun e a' w' ⟨F',γ',σ',h1,h2⟩=>⟨C,F',γ',σ',.inl rfl,h1,h2⟩
def DThenL (P : Program) (n : Nat) (y : Code) (Q : Exit→AS→Prop) : Exit→AS→Prop
 | .normal,σ=>awpD P n y Q σ
 | _,_=>False
theorem d_seqL {x y : Code} (h : awp P n x (DThenL P n y Q) σ) : awpD P n (.seq x y) Q σ:=fun C F γ a w hn hr hd hg hs=>by
 have:=h C F γ a w hn hs
 rw [hr] at this
 refine wpIn_seq (wpIn_mono this fun e a' w' ⟨F',γ',σ',h1,h2⟩=>?_)
 cases e with
 | normal=>exact h2 C F' γ' a' w' hn hr hd hg h1
 | exit id=>exact h2.elim
 | goto l=>exact h2.elim
 | ret=>exact h2.elim
 | panic c=>exact h2.elim
 | outgrown=>exact h2.elim
theorem d_seqR {x y : Code} (h : awpD P n x (QThen P n y Q) σ) : awpD P n (.seq x y) Q σ:=fun C F γ a w hn hr hd hg hs=>by
 refine wpIn_seq (wpIn_mono (h C F γ a w hn hr hd hg hs) fun e a' w' ⟨C',F',γ',σ',hC,h1,h2⟩=>?_)
 cases e with
 | normal=>
  have hn' : C'.n = n:=by
   rcases hC with rfl | ⟨D,_,_,_,q,_⟩
   ·exact hn
   ·rw [q]; exact hn
  have hr' : C'.ro = none:=by
   rcases hC with rfl | ⟨D,_,_,_,_,q,_⟩
   ·exact hr
   ·exact q
  have:=h2 C' F' γ' a' w' hn' h1
  rw [hr'] at this
  exact wpIn_mono this fun e a' w' ⟨F',γ',σ',h1,h2⟩=>⟨C',F',γ',σ',hC,h1,h2⟩
 | exit id=>exact ⟨C',F',γ',σ',hC,h1,h2⟩
 | goto l=>exact ⟨C',F',γ',σ',hC,h1,h2⟩
 | ret=>exact ⟨C',F',γ',σ',hC,h1,h2⟩
 | panic c=>exact ⟨C',F',γ',σ',hC,h1,h2⟩
 | outgrown=>exact ⟨C',F',γ',σ',hC,h1,h2⟩
theorem d_block {id : Nat} {c : Code} (h : awpD P n c (QBlk id Q) σ) : awpD P n (.block id c) Q σ:=fun C F γ a w hn hr hd hg hs=>
 wpIn_block (wpIn_mono (h C F γ a w hn hr hd hg hs) fun e a' w' ⟨C',F',γ',σ',hC,h1,h2⟩=>by
  cases e with
  | exit id'=>
   simp only [QBlk] at h2
   simp only [Exit.inBlock]
   by_cases hid : id' = id
   ·subst hid; simp at h2; rw [if_pos rfl]; exact ⟨C',F',γ',σ',hC,h1,h2⟩
   ·have : Nat.beq id' id = false:=by rw [Bool.eq_false_iff]; intro e; exact hid (Nat.eq_of_beq_eq_true e)
    rw [this] at h2; rw [if_neg hid]; exact ⟨C',F',γ',σ',hC,h1,h2⟩
  | normal=>exact ⟨C',F',γ',σ',hC,h1,h2⟩
  | goto l=>exact ⟨C',F',γ',σ',hC,h1,h2⟩
  | ret=>exact ⟨C',F',γ',σ',hC,h1,h2⟩
  | panic c=>exact ⟨C',F',γ',σ',hC,h1,h2⟩
  | outgrown=>exact ⟨C',F',γ',σ',hC,h1,h2⟩)
def DPost (P : Program) (rs : Array ResultVar) (res : DV) : Exit→AS→Prop
 | .ret,σ | .normal,σ=>∃ d,ResV P ⟨σ.env,(idM,none) :: σ.heap,σ.used⟩ rs d∧DLe d res∧hget σ.heap idM = some openMark
 | _,_=>False
theorem PCall.ofD {fn : FuncId} {func : Func} {c : Code} {args : List DV} {r : DV} {rs : Array ResultVar} (hf : P.funcs[fn]? = some func) (hn : func.ntmps = n) (hb : func.body = some c) (hrs : func.results = rs) (ha : Nat.ble args.length n = true) (hr : r.ids = [])
  (h : awpD P n c (DPost P rs r) ⟨params 0 args,[],[]⟩) : PCall P fn args r:=by
 subst hn hrs
 intro C F γ heap used w vs H hv
 have HE:=H.enter func.ntmps id [] (fun i e h=>by simp [hget,look] at h) (by simp) (by simp) (by simp) (fun i e h=>by simp [hget,look] at h)
 have hG : innerG γ id (List.map (·.1) ([] : Heap)) = Gam.no:=by funext i; simp [innerG,Gam.no]
 rw [hG] at HE
 refine (callsIn_wide (n:=0)).1 (callsIn_of_wp_marks hf hb trivial ?_)
 have hs : Sat (inner w F func.ntmps γ id []) F Gam.no ⟨params 0 args,[],[]⟩ { tmps:=vs.toArray++Array.replicate (func.ntmps - vs.toArray.size) undef,defers:=[] } w :=
  ⟨params_sat hv (Nat.le_of_ble_eq_true ha),HE,by
   have:=hv.len
   have:=Nat.le_of_ble_eq_true ha
   simp [inner]; omega,rfl⟩
 refine wpIn_mono (h (inner w F func.ntmps γ id []) F Gam.no _ w rfl rfl rfl (by funext i; simp [inner,Gam.no]) hs) ?_
 rintro e a' w' ⟨C',F',γ',σ',hC,hs',hq⟩
 -- the results,read in a world where the mark is shut
 have fin : ∀ (w2 : World) (d : DV),Sat C' F' γ' ⟨σ'.env,(idM,none) :: σ'.heap,σ'.used⟩ a' w2→ResV P ⟨σ'.env,(idM,none) :: σ'.heap,σ'.used⟩ func.results d→DLe d r →
   ∃ v,(results func a'.tmps).run P w2 = .ok v w2∧(∃ v' F',Ending.returned v = .returned v'∧FLe F F'∧WS C F' γ heap used w2∧Rs F' Gam.no r v'):=by
  intro w2 d hs2 h1 h2
  obtain ⟨v,k1,k2⟩ := h1.run hs2
  have hI : WS (inner w F func.ntmps γ id []) F' γ' ((idM,none) :: σ'.heap) σ'.used w2:=by
   rcases hC with rfl | ⟨D,c1,c2,c3,c4,c5,c6,c7⟩
   ·exact hs2.ws
   ·exact hs2.ws.ctx c1.symm c2.symm c3.symm (fun i g h=>by simp [inner] at h) (fun i g h=>by simp [inner] at h)
  obtain ⟨_,_,j⟩ := H.join (f:=id) (pre:=[]) (new:=[]) hI [] (by simp) (by simp) (by simp) (fun i e h=>by simp [hget,look] at h) (by simp) (by simp) (fun i e h=>by simp [hget,look] at h)
  have hg : outerG γ γ' id [] = γ:=by funext i; unfold outerG; cases γ i <;> rfl
  rw [hg] at j
  exact ⟨v,k1,v,F',rfl,hI.f0,by simpa [renH] using j,Rs_ids r v (by rw [hr]; simp) (h2 _ _ _ k2)⟩
 have main : (∃ d,ResV P ⟨σ'.env,(idM,none) :: σ'.heap,σ'.used⟩ func.results d∧DLe d r∧hget σ'.heap idM = some openMark)→LeavesInM Fence.wide 0 P func a'.tmps (fun e w'=>∃ v F',e = .returned v∧FLe F F'∧WS C F' γ heap used w'∧Rs F' Gam.no r v) a'.defers .returning w' := by
  rintro ⟨d,h1,h2,h3⟩
  rcases id hC with rfl | ⟨D,c1,c2,c3,c4,c5,c6,c7⟩
  ·rw [show a'.defers = [] from hs'.defers]
   exact fin w' d (hs'.congr (fun _ _ h=>h) (fun i e he=>by
    rw [hget_cons] at he
    split at he
    ·cases he
    ·exact he) (fun _ h=>h)) h1 h2
  ·rw [hs'.defers,c6]
   have hg : γ' idM = some (ptrTo D):=hs'.ws.g0 _ _ c7
   have hW:=hs'.ws.setObj (.deferred none) h3 hg
   obtain ⟨g,k1,b,k2,k3⟩ := hs'.ws.ent idM _ h3
   rw [hg] at k1; injection k1 with k1; subst k1
   injection k2 with k2; injection k2 with k2; injection k2 with k2 _ _; subst k2
   refine ⟨by simp,.inl ⟨D,_,rfl,run_takeDeferred k3,?_⟩⟩
   refine fin _ d ⟨hs'.env,hW.congr (fun i e he=>?_) (fun _ h=>h),hs'.size,hs'.defers⟩ h1 h2
   simp only at he
   rw [hget_cons] at he ⊢
   split at he
   ·cases he
   ·rename_i e1; rw [if_neg e1]; exact he
 cases e with
 | ret=>exact main hq
 | normal=>exact main hq
 | exit id=>exact hq.elim
 | goto l=>exact hq.elim
 | panic c=>exact hq.elim
 | outgrown=>exact hq.elim
def RThen (P : Program) (n : Nat) (body : Code) (R R' : Obj) (Hn : Heap) (U : List Nat) : Exit→AS→Prop
 | .normal,σ=>hget σ.heap idR = some (.obj R)∧awp P n body (fun e σ'=>e = .normal∧Imp σ' ⟨[],(idR,some (.obj R')) :: (idM,some openMark) :: Hn,idR :: idM :: U⟩) ⟨σ.env,(idR,some (.obj R')) :: σ.heap,σ.used⟩
 | _,_=>False
theorem hget_drop {id : Nat} {x y : Option HE} {h : Heap} {i : Nat} {e : HE} (he : hget ((id,x) :: h) i = some e) : hget ((id,x) :: (id,y) :: h) i = some e:=by
 rw [hget_cons] at he ⊢
 split at he
 ·rename_i e1; rw [if_pos e1]; exact he
 ·rename_i e1; rw [if_neg e1,hget_cons,if_neg e1]; exact he
theorem d_range {g : Operand} {t : Nat} {assign body : Code} {gf : FuncId} [hgf : CFn P gf] {caps ds : List DV} (hI : Iter P gf caps ds) (env : List (Nat × DV)) (H : Nat→Heap) (U : List Nat) (h0 : Imp σ ⟨env,H 0,U⟩)
  (hg : ev env g = some (.clo gf caps)) (hc : idsL caps = []) (hE : ∀ t d,look env t = some d→∀ i∈d.ids,100000≤i) (hU : idR ∉ U) (hU' : idM ∉ U) (ht : t < n)
  (hround : ∀ k d (R R' : Obj),ds[k]? = some d→awp P n assign (RThen P n body R R' (H (k + 1)) U) ⟨(t,d) :: env,(idR,some (.obj R)) :: (idM,some openMark) :: H k,idR :: idM :: U⟩)
  (hq : Q .normal ⟨env,(idR,none) :: (idM,some openMark) :: H ds.length,idR :: idM :: U⟩) : awpD P n (.rangeFunc g #[t] assign body) Q σ:=by
 intro C F γ a w hn hr hd hG hs
 obtain ⟨F1,γ1,h1⟩ := h0 C F γ a w hs
 have kg:=h1.ev hg
 simp only [Rs] at kg
 obtain ⟨lb,eg,hlb⟩ := kg
 have hlb' : RsT F1 Gam.no caps lb.toList:=RsT_ids caps _ (by rw [hc]; intro i hi; cases hi) hlb
 refine wpIn_rangeFunc ?_
 intro fn _
 obtain ⟨rec,hrec⟩ : ∃ rec : LoopState→Option Code→Loop,rec = fun st pe=>{ state:=st,pending:=pe,fn,tmps:=a.tmps,params := #[t],assign,body,defers:=w.heap.size } := ⟨_,rfl⟩
 obtain ⟨W1,hW1⟩ : ∃ W1,(w.alloc (.deferred (some []))).alloc (.loop (rec .ready none)) = W1 := ⟨_,rfl⟩
 have A1:=h1.ws.addNew hU' (.deferred (some [])) (e0:=openMark) (g:=ptrTo w.heap.size) (fun b hb=>by simp [ptrTo,Value.pblk] at hb; exact hb.symm) ⟨w.heap.size,rfl,World.alloc_heap_new w _⟩
 have hR1 : idR ∉ idM :: U:=by
  intro h
  rcases List.mem_cons.1 h with h | h
  ·exact absurd h (by decide)
  ·exact hU h
 have A2:=A1.addNew hR1 (.loop (rec .ready none)) (e0:=.obj (.loop (rec .ready none))) (g:=ptrTo (w.heap.size + 1)) (fun b hb=>by simp [ptrTo,Value.pblk] at hb; rw [← hb]; simp) ⟨w.heap.size + 1,rfl,by
  have:=World.alloc_heap_new (w.alloc (.deferred (some []))) (.loop (rec .ready none))
  rwa [World.size_alloc] at this⟩
 rw [hW1] at A2
 have hle12 : GLe γ1 ((γ1.up idM (ptrTo w.heap.size)).up idR (ptrTo (w.heap.size + 1))):=(Gam.up_le _ (h1.ws.fresh hU')).trans (Gam.up_le _ (A1.fresh hR1))
 obtain ⟨γ2,hγ2⟩ : ∃ γ2,(γ1.up idM (ptrTo w.heap.size)).up idR (ptrTo (w.heap.size + 1)) = γ2 := ⟨_,rfl⟩
 have gR : γ2 idR = some (ptrTo (w.heap.size + 1)):=by rw [← hγ2]; exact Gam.up_same _ _ _
 have gM : γ2 idM = some (ptrTo w.heap.size):=by rw [← hγ2]; simp [Gam.up,idM,idR]
 rw [hγ2] at A2 hle12
 obtain ⟨γr,hγr⟩ : ∃ γr : Gam,γr = fun i=>if 100000≤i then γ2 i else none := ⟨_,rfl⟩
 have rR : γr idR = some (ptrTo (w.heap.size + 1)):=by rw [hγr]; simp only [if_pos (show 100000≤idR by decide)]; exact gR
 have rM : γr idM = some (ptrTo w.heap.size):=by rw [hγr]; simp only [if_pos (show 100000≤idM by decide)]; exact gM
 have rk : ∀ id g,γr id = some g→100000≤id:=fun id g h=>by
  rw [hγr] at h
  simp only at h
  split at h
  ·assumption
  ·cases h
 have r2 : GLe γr γ2:=fun id g h=>by
  have:=rk id g h
  rw [hγr] at h
  simpa [this] using h
 -- what the slots hold
 have lift : ∀ (F' : FMap) (γ' : Gam),FLe F1 F'→GLe γr γ'→∀ t d,look env t = some d→t < C.n∧Rs F' γ' d (a.tmps.getD t undef):=fun F' γ' hF hγ t d hl=>by
  obtain ⟨q1,q2⟩ := h1.env t d hl
  refine ⟨q1,?_⟩
  have q3 : Rs F1 γr d (a.tmps.getD t undef):=Rs_ids d _ (fun i hi=>by rw [hγr]; simp [hE t d hl i hi]) (q2.mono (FLe.refl _) hle12)
  exact q3.mono hF hγ
 obtain ⟨Cr,hCr⟩ : ∃ Cr : Ctx,Cr = { C with G0:=γr } := ⟨_,rfl⟩
 have w0 : WS Cr F1 γ2 ((idR,some (.obj (.loop (rec .ready none)))) :: (idM,some openMark) :: H 0) (idR :: idM :: U) W1:=by
  rw [hCr]; exact A2.ctx rfl rfl rfl r2 rk
 obtain ⟨J,hJ⟩ : ∃ J : Nat→FMap→World→Prop,J = fun k F' w'=>FLe F1 F'∧∃ γ',WS Cr F' γ' ((idR,some (.obj (.loop (rec .ready none)))) :: (idM,some openMark) :: H k) (idR :: idM :: U) w' := ⟨_,rfl⟩
 have JO : JOk J:=by
  rw [hJ]
  exact ⟨fun k F w F' w' ⟨q1,γ',q2⟩ G=>⟨q1.trans G.fle,γ',q2.grown G⟩,fun k F w ⟨_,γ',q2⟩=>q2.fs,fun k F w ⟨_,γ',q2⟩=>q2.kn.mono q2.f0⟩
 have atR : ∀ {F' : FMap} {γ' : Gam} {h' : Heap} {u' : List Nat} {w' : World} {C' : Ctx} {o : Obj},WS C' F' γ' h' u' w'→C'.G0 = γr→hget h' idR = some (.obj o)→γ' idR = some (ptrTo (w.heap.size + 1))∧w'.heap[w.heap.size + 1]? = some o:=by
  intro F' γ' h' u' w' C' o hw hG' hh
  have e1 : γ' idR = some (ptrTo (w.heap.size + 1)):=hw.g0 _ _ (by rw [hG']; exact rR)
  obtain ⟨g,k1,b,k2,k3⟩ := hw.ent idR _ hh
  rw [e1] at k1; injection k1 with k1; subst k1
  injection k2 with k2; injection k2 with k2; injection k2 with k2 _ _; subst k2
  exact ⟨e1,k3⟩
 have first : ∀ (x : HE) (h' : Heap),hget ((idR,some x) :: h') idR = some x:=fun x h'=>by rw [hget_cons,if_pos rfl]
 have Y : Ylds P (w.heap.size + 1) J ds:=by
  intro k d v F' w' hk hj hv
  rw [hJ] at hj
  obtain ⟨hF,γ',hW⟩ := hj
  obtain ⟨g1,l1⟩ := atR hW (by rw [hCr]) (first _ _)
  have hy:=run_yield (P:=P) (args := #[v]) l1 (by rw [hrec]; rfl)
  rw [hrec] at hy
  simp only at hy
  refine ⟨fn,_,assign,body,hy,roundIn_of_wpIn trivial ?_⟩
  obtain ⟨CR,hCR⟩ : ∃ CR : Ctx,CR = { C with G0:=γr,ro:=some (w.heap.size + 1),F0:=F',defs:=[] } := ⟨_,rfl⟩
  have hWR : WS CR F' γ' ((idR,some (.obj (.loop (rec .ready none)))) :: (idM,some openMark) :: H k) (idR :: idM :: U) w' := by
   rw [hCR]; rw [hCr] at hW
   exact hW.reF.ctx rfl rfl rfl hW.g0 rk
  have hgr : GLe γr γ' := by have:=hW.g0; rw [hCr] at this; exact this
  have S : Sat CR F' γ' ⟨(t,d) :: env,(idR,some (.obj (.loop (rec .ready none)))) :: (idM,some openMark) :: H k,idR :: idM :: U⟩ { tmps:=(Array.zip #[t] #[v]).foldl (fun tmps x=>tmps.setIfInBounds x.1 x.2) a.tmps,defers:=[] } w' := by
   have et : (Array.zip #[t] #[v]).foldl (fun tmps x=>tmps.setIfInBounds x.1 x.2) a.tmps = a.tmps.setIfInBounds t v:=by simp
   rw [et]
   refine ⟨fun t' d' hl=>?_,hWR,by rw [hCR]; simpa using h1.size,by rw [hCR]⟩
   simp only at hl
   rw [look_cons] at hl
   have hsz : a.tmps.size = C.n:=h1.size
   split at hl
   ·rename_i e1; subst e1; injection hl with hl; subst hl
    have hlt : t < a.tmps.size:=by rw [hsz,hn]; exact ht
    refine ⟨by rw [hCR]; simp only; rw [hn]; exact ht,?_⟩
    have : (a.tmps.setIfInBounds t v).getD t undef = v:=by simp [Array.getD,hlt]
    rw [this]
    exact hv.mono (FLe.refl _) (GLe.no _)
   ·rename_i e1
    obtain ⟨q1,q2⟩ := lift F' γ' hF hgr t' d' hl
    refine ⟨by rw [hCR]; exact q1,?_⟩
    have : (a.tmps.setIfInBounds t v).getD t' undef = a.tmps.getD t' undef:=by
     by_cases hb : t' < a.tmps.size
     ·simp [Array.getD,hb,Array.getElem_setIfInBounds,e1]
     ·simp [Array.getD,hb]
    rw [this]; exact q2
  have hCn : CR.n = n:=by rw [hCR]; exact hn
  have hro : CR.ro = some (w.heap.size + 1):=by rw [hCR]
  have hGR : CR.G0 = γr:=by rw [hCR]
  have hFR : CR.F0 = F' := by rw [hCR]
  have step1:=hround k d (.loop (rec .ready none)) (.loop { rec .ready none with state:=.busy }) hk CR F' γ' _ w' hCn S
  rw [hro] at step1
  refine wpIn_mono step1 ?_
  rintro e a1 w1 ⟨F2,γ2',σ1,s1,q⟩
  cases e with
  | normal=>
   obtain ⟨q1,q2⟩ := q
   obtain ⟨g2,l2⟩ := atR s1.ws hGR q1
   refine ⟨_,run_beginRound l2 (by rw [hrec]),?_⟩
   have S2 : Sat CR F2 γ2' ⟨σ1.env,(idR,some (.obj (.loop { rec .ready none with state:=.busy }))) :: σ1.heap,σ1.used⟩ a1 (w1.putObj (w.heap.size + 1) (.loop { rec .ready none with state:=.busy })) := ⟨s1.env,s1.ws.setObj _ q1 g2,s1.size,s1.defers⟩
   have step2:=q2 CR F2 γ2' a1 _ hCn S2
   rw [hro] at step2
   refine wpIn_mono step2 ?_
   rintro e a2 w3 ⟨F3,γ3,σ3,s3,rfl,himp⟩
   obtain ⟨F4,γ4,s4⟩ := himp CR F3 γ3 a2 w3 s3
   obtain ⟨g4,l4⟩ := atR s4.ws hGR (first _ _)
   refine ⟨_,_,run_endRound none l4,F4,rfl,by have:=s4.ws.f0; rwa [hFR] at this,?_⟩
   rw [hJ]
   refine ⟨hF.trans (by have:=s4.ws.f0; rwa [hFR] at this),γ4,?_⟩
   have e3:=s4.ws.setObj (.loop (rec .ready none)) (first _ _) g4
   have e4 : ({ { rec .ready none with state:=.busy } with state:=if (none : Option Code).isNone then .ready else .done,pending:=none } : Loop) = rec .ready none:=by rw [hrec]; rfl
   rw [e4]
   have e5 : WS CR F4 γ4 ((idR,some (.obj (.loop (rec .ready none)))) :: (idM,some openMark) :: H (k + 1)) (idR :: idM :: U) (w3.putObj (w.heap.size + 1) (.loop (rec .ready none))):=e3.congr (fun i e he=>hget_drop he) (fun _ h=>h)
   refine hW.unF ?_
   rw [hCr]
   rw [hCR] at e5
   exact e5.ctx rfl rfl rfl e5.g0 rk
  | exit id=>exact q.elim
  | goto l=>exact q.elim
  | ret=>exact q.elim
  | panic c=>exact q.elim
  | outgrown=>exact q.elim
 refine ⟨w.heap.size + 1,[markD w.heap.size],W1,{ target:=.fn (.func gf) lb,args := #[.func (.yield (w.heap.size + 1)) #[] #[]] },W1,gf,#[.func (.yield (w.heap.size + 1)) #[] #[]]++lb,W1,?_,?_,fun _ _=>trivial,?_,fun h=>by simp [FW,Fence.wide] at h,?_⟩
 ·rw [← hW1,hrec]; exact run_enterLoop_outer _ _ _ _ _
 ·simp only [resolve,eg]
  simp [go_sem]
 ·simp [invoke,run_callFunc]
 ·have hJ0 : J 0 F1 W1:=by rw [hJ]; exact ⟨FLe.refl _,γ2,w0⟩
  have:=hI (w.heap.size + 1) J F1 W1 lb.toList JO Y hJ0 hlb'
  simp only [Array.toArray_toList] at this
  refine this.mono ?_
  rintro e W2 ⟨v,F2,rfl,hF,hj⟩
  rw [hJ] at hj
  obtain ⟨_,γ',hW⟩ := hj
  obtain ⟨g1,l1⟩ := atR hW (by rw [hCr]) (first _ _)
  have hgr : GLe γr γ' := by have:=hW.g0; rw [hCr] at this; exact this
  refine ⟨none,W2.putObj (w.heap.size + 1) (.loop { rec .ready none with state:=.exhausted }),?_,?_⟩
  ·have:=run_endLoop (P:=P) l1 (by rw [hrec]; simp)
   rw [hrec] at this ⊢
   exact this
  ·refine ⟨{ C with G0:=γr,defs:=[markD w.heap.size] },F2,γ',⟨env,(idR,none) :: (idM,some openMark) :: H ds.length,idR :: idM :: U⟩,.inr ⟨w.heap.size,rfl,rfl,rfl,rfl,hr,rfl,rM⟩,⟨fun t' d' hl=>lift F2 γ' hF hgr t' d' hl,?_,h1.size,?_⟩,hq⟩
   ·have e3:=hW.setObj (.loop { rec .ready none with state:=.exhausted }) (first _ _) g1
    rw [hCr] at e3
    have e4:=e3.ctx (C' := { C with G0:=γr,defs:=[markD w.heap.size] }) rfl rfl rfl hgr rk
    refine e4.congr (fun i e he=>?_) (fun _ h=>h)
    simp only at he
    rw [hget_cons] at he
    split at he
    ·cases he
    ·rename_i e1
     rw [hget_cons,if_neg e1,hget_cons,if_neg e1]; exact he
   ·simp only [h1.defers,hd,List.append_nil]
end
set_option maxRecDepth 100000
set_option maxHeartbeats 4000000
structure AEv where
 gTick : Int
 gComponent : Int
 gKind : Int
 gPeer : Int
 gN : Int
 gCopy : Int
 gHandler : Int
 gD : Int
 gArgs : List Int
def AEv.cs (x : AEv) : List DV:=[.int .i64 x.gTick,.int .i64 x.gComponent,.int .u8 x.gKind,.int .i64 x.gPeer,.int .i64 x.gN,.int .i64 x.gCopy,.int .i64 x.gHandler,.int .i64 x.gD,.sl 1 (List.map (DV.int .i64) x.gArgs)]
def AEv.dv (x : AEv) : DV:=.agg (AEv.cs x)
structure api_Message where
 gFrom : Int
 gTo : Int
 gN : Int
def api_Message.cs (x : api_Message) : List DV:=[.int .i64 x.gFrom,.int .i64 x.gTo,.int .i64 x.gN]
structure VClk where
 gat : Nat→Int
def VClk.cs (x : VClk) : List DV:=[.int .u64 (x.gat 0),.int .u64 (x.gat 1),.int .u64 (x.gat 2),.int .u64 (x.gat 3),.int .u64 (x.gat 4),.int .u64 (x.gat 5),.int .u64 (x.gat 6),.int .u64 (x.gat 7),.int .u64 (x.gat 8),.int .u64 (x.gat 9),.int .u64 (x.gat 10),.int .u64 (x.gat 11),.int .u64 (x.gat 12),.int .u64 (x.gat 13),.int .u64 (x.gat 14),.int .u64 (x.gat 15)]
def VClk.dv (x : VClk) : DV:=.agg (VClk.cs x)
structure RRec where
 gComponent : Int
 gSeq : Int
 gClock : VClk
 gWhat : Int
 gEvent : AEv
 gCount : Int
def RRec.cs (x : RRec) : List DV:=[.int .i64 x.gComponent,.int .u64 x.gSeq,.int .u64 (x.gClock.gat 0),.int .u64 (x.gClock.gat 1),.int .u64 (x.gClock.gat 2),.int .u64 (x.gClock.gat 3),.int .u64 (x.gClock.gat 4),.int .u64 (x.gClock.gat 5),.int .u64 (x.gClock.gat 6),.int .u64 (x.gClock.gat 7),.int .u64 (x.gClock.gat 8),.int .u64 (x.gClock.gat 9),.int .u64 (x.gClock.gat 10),.int .u64 (x.gClock.gat 11),.int .u64 (x.gClock.gat 12),.int .u64 (x.gClock.gat 13),.int .u64 (x.gClock.gat 14),.int .u64 (x.gClock.gat 15),.int .u8 x.gWhat,.int .i64 x.gEvent.gTick,.int .i64 x.gEvent.gComponent,.int .u8 x.gEvent.gKind,.int .i64 x.gEvent.gPeer,.int .i64 x.gEvent.gN,.int .i64 x.gEvent.gCopy,.int .i64 x.gEvent.gHandler,.int .i64 x.gEvent.gD,.sl 1 (List.map (DV.int .i64) x.gEvent.gArgs),.int .u64 x.gCount]
def RRec.dv (x : RRec) : DV:=.agg (RRec.cs x)
structure frame_Part where
 gOff : Int
 gLen : Int
 gBody : List Int
 gGood : Bool
def frame_Part.cs (x : frame_Part) : List DV:=[.int .i64 x.gOff,.int .i64 x.gLen,.sl 1 (List.map (DV.int .u8) x.gBody),.bool x.gGood]
def frame_Part.dv (x : frame_Part) : DV:=.agg (frame_Part.cs x)
structure recorder_Config where
 gCapacity : Int
 gBudget : Int
def recorder_Config.cs (x : recorder_Config) : List DV:=[.int .i64 x.gCapacity,.int .i64 x.gBudget]
structure CSpan where
 gfrom : Int
 gto : Int
def CSpan.cs (x : CSpan) : List DV:=[.int .u64 x.gfrom,.int .u64 x.gto]
def CSpan.dv (x : CSpan) : DV:=.agg (CSpan.cs x)
structure CPart where
 gentries : List RRec
 glost : List CSpan
 gknown : Bool
 gtotal : Int
def CPart.cs (x : CPart) : List DV:=[.sl 29 (List.map RRec.dv x.gentries),.sl 2 (List.map CSpan.dv x.glost),.bool x.gknown,.int .u64 x.gtotal]
def CPart.dv (x : CPart) : DV:=.agg (CPart.cs x)
structure CColl where
 gparts : List CPart
structure graph_Node where
 gComponent : Int
 gSeq : Int
def graph_Node.cs (x : graph_Node) : List DV:=[.int .i64 x.gComponent,.int .u64 x.gSeq]
def graph_Node.dv (x : graph_Node) : DV:=.agg (graph_Node.cs x)
def frame_update_K1 (a1 : Int) : Option Int :=
 some a1
def frame_update_K3 (a7 : Int) : Option Int :=
 some a7
def frame_update_L4 (k10 : Nat) (a11 : Int) : Option Int :=
 if ((bitI .and .u32 a11 1) == 1) = true then
  some (bitI .xor .u32 (Int.fdiv a11 (2 ^ min (Int.toNat 1) (IntKind.bits .u32))) 2197175160)
 else
  some (Int.fdiv a11 (2 ^ min (Int.toNat 1) (IntKind.bits .u32)))
def frame_update_L2 (x1 : List Int) (k2 : Nat) (a3 : Int) : Option Int :=
 (idx x1 (k2 : Int)).bind fun v9=>
 (foldM' 9223372036854775807 8 (fun k10 s=>frame_update_L4 k10 s) (bitI .xor .u32 a3 (IntKind.wrap .u32 v9))).bind fun s=>frame_update_K3 s
def frame_update (x0 : Int) (x1 : List Int) : Option Int :=
 (foldM' 9223372036854775807 (List.length x1 : Int) (fun k2 s=>frame_update_L2 x1 k2 s) x0).bind fun s=>frame_update_K1 s
theorem frame_update_c {x0 : Int} {x1 : List Int} {r : Int} (hM : frame_update x0 x1 = some r) : PCall Tryz.prog 96 [.int .u32 x0,.sl 1 (List.map (DV.int .u8) x1)] (.int .u32 r):=by
 unfold frame_update at hM
 refine PCall.body Tryz.func96 Tryz.ntmps96 rfl rfl rfl rfl ?_
 refine a_seq (ar (.cons (o_assign rfl)<|.nil _) ?_)
 refine a_cut (α:=Int) (fun s=>⟨[(0,.int .u32 s)],[],[]⟩) (fun s=>frame_update_K1 s = some r) ?_ ?_
 ·refine a_seq (ar (.cons (o_move rfl)<|.cons (t_len rfl)<|.cons (o_move rfl)<|.nil _) ?_)
  obtain ⟨a3,hL4,hK4⟩ := of_bind hM
  refine a_block ?_
  refine a_fold (fun k2 (s : Int)=>⟨[(0,.int .u32 s),(8,.sl 1 (List.map (DV.int .u8) x1)),(9,.int .i64 (List.length x1 : Int)),(10,.int .i64 (k2 : Int))],[],[]⟩) _ hL4 (Imp.sh (fun i=>i) rfl rfl rfl rfl rfl rfl) ?_ ?_
  ·rintro k2 a3 t5 hk2 hx2 hM
   replace hM : frame_update_L2 x1 k2 a3 = some t5:=hM
   unfold frame_update_L2 at hM
   refine a_seq (ar (.cons (o_int rfl rfl rfl)<|.nil _) ?_)
   refine a_seq ?_
   refine a_cond _ rfl (fun _=>?_) (fun c=>absurd hk2 (of_decide_eq_false c))
   refine a_skip ?_
   refine a_cut (α:=Int) (fun s=>⟨[(0,.int .u32 s),(8,.sl 1 (List.map (DV.int .u8) x1)),(9,.int .i64 (List.length x1 : Int)),(10,.int .i64 (k2 : Int))],[],[]⟩) (fun s=>frame_update_K3 s = some t5) ?_ ?_
   ·refine a_block (a_seq ?_)
    obtain ⟨v9,h8,hM⟩ := of_bind hM
    refine ar (.cons (t_index h8 rfl rfl rfl)<|.cons (o_load_es rfl rfl)<|.cons (o_assign rfl)<|.nil _) ?_
    refine a_seq (ar (.cons (o_move rfl)<|.cons (o_move rfl)<|.cons (o_conv_w rfl)<|.cons (o_int rfl rfl rfl)<|.cons (o_assign rfl)<|.nil _) ?_)
    refine a_seq (ar (.cons (o_move rfl)<|.nil _) ?_)
    obtain ⟨a11,hL12,hK12⟩ := of_bind hM
    refine a_block ?_
    refine a_fold (fun k10 (s : Int)=>⟨[(0,.int .u32 s),(8,.sl 1 (List.map (DV.int .u8) x1)),(9,.int .i64 (List.length x1 : Int)),(10,.int .i64 (k2 : Int)),(18,.int .i64 (k10 : Int))],[],[]⟩) _ hL12 (Imp.sh (fun i=>i) rfl rfl rfl rfl rfl rfl) ?_ ?_
    ·rintro k10 a11 t13 hk10 hx10 hM
     replace hM : frame_update_L4 k10 a11 = some t13:=hM
     unfold frame_update_L4 at hM
     refine a_seq (ar (.cons (o_int rfl rfl rfl)<|.nil _) ?_)
     refine a_seq ?_
     refine a_cond _ rfl (fun _=>?_) (fun c=>absurd hk10 (of_decide_eq_false c))
     refine a_skip (a_seq (a_block (a_seq (ar (.cons (o_move rfl)<|.cons (o_int rfl rfl rfl)<|.cons (o_assign rfl)<|.nil _) ?_))))
     refine a_seq (ar (.cons (o_move rfl)<|.cons (o_shr rfl rfl (by decide))<|.cons (o_assign rfl)<|.nil _) ?_)
     refine a_seq (ar (.cons (o_move rfl)<|.cons (o_int rfl rfl rfl)<|.nil _) ?_)
     refine a_cond _ rfl (fun h15=>?_) (fun h15=>?_)
     ·replace hM:=(of_if hM).1 h15
      refine ar (.cons (o_move rfl)<|.cons (o_int rfl rfl rfl)<|.cons (o_assign rfl)<|.nil _) ?_
      refine ar (.cons (o_add rfl rfl (inR_i64 hk10 hx10))<|.cons (o_move rfl)<|.nil _) ?_
      obtain rfl:=Option.some.inj hM
      exact (Imp.of (fun i=>i) (.cons rfl (DLe.refl _) (.cons rfl (DLe.refl _) (.cons rfl (DLe.refl _) (.cons rfl (DLe.refl _) (.cons rfl (DLe.succ _ _) .nil))))) .nil rfl rfl rfl)
     ·replace hM:=(of_if hM).2 h15
      refine a_skip (ar (.cons (o_add rfl rfl (inR_i64 hk10 hx10))<|.cons (o_move rfl)<|.nil _) ?_)
      obtain rfl:=Option.some.inj hM
      exact (Imp.of (fun i=>i) (.cons rfl (DLe.refl _) (.cons rfl (DLe.refl _) (.cons rfl (DLe.refl _) (.cons rfl (DLe.refl _) (.cons rfl (DLe.succ _ _) .nil))))) .nil rfl rfl rfl)
    ·rintro k10 hk10 hx10
     refine a_seq (ar (.cons (o_int rfl rfl rfl)<|.nil _) ?_)
     refine a_seq ?_
     refine a_cond _ rfl (fun c=>absurd (of_decide_eq_true c) (Int.not_lt.2 hk10)) (fun _=>?_)
     refine a_exit ?_
     exact ⟨a11,hK12,(Imp.sh (fun i=>i) rfl rfl rfl rfl rfl rfl)⟩
   ·rintro a7 hM
    replace hM : frame_update_K3 a7 = some t5:=hM
    unfold frame_update_K3 at hM
    refine ar (.cons (o_add rfl rfl (inR_i64 hk2 hx2))<|.cons (o_move rfl)<|.nil _) ?_
    obtain rfl:=Option.some.inj hM
    exact (Imp.of (fun i=>i) (.cons rfl (DLe.refl _) (.cons rfl (DLe.refl _) (.cons rfl (DLe.refl _) (.cons rfl (DLe.succ _ _) .nil)))) .nil rfl rfl rfl)
  ·rintro k2 hk2 hx2
   refine a_seq (ar (.cons (o_int rfl rfl rfl)<|.nil _) ?_)
   refine a_seq ?_
   refine a_cond _ rfl (fun c=>absurd (of_decide_eq_true c) (Int.not_lt.2 hk2)) (fun _=>?_)
   refine a_exit ?_
   exact ⟨a3,hK4,(Imp.sh (fun i=>i) rfl rfl rfl rfl rfl rfl)⟩
 ·rintro a1 hM
  replace hM : frame_update_K1 a1 = some r:=hM
  unfold frame_update_K1 at hM
  refine a_seq (ar (.cons (o_move rfl)<|.cons (o_assign rfl)<|.nil _) ?_)
  obtain rfl:=Option.some.inj hM
  exact a_ret (a_post (.r1 (.tmp rfl)) (DLe.refl _) PostOk.nil.spec)
def frame_checksum (x0 : List Int) (x1 : List Int) : Option Int :=
 (frame_update 4294967295 x0).bind fun v2=>
 (frame_update v2 x1).bind fun v4=>
 some (bitI .xor .u32 (if IntKind.signed .u32 = true then -1 else IntKind.max .u32) v4)
theorem frame_checksum_c {x0 : List Int} {x1 : List Int} {r : Int} (hM : frame_checksum x0 x1 = some r) : PCall Tryz.prog 64 [.sl 1 (List.map (DV.int .u8) x0),.sl 1 (List.map (DV.int .u8) x1)] (.int .u32 r):=by
 unfold frame_checksum at hM
 refine PCall.body Tryz.func64 Tryz.ntmps64 rfl rfl rfl rfl ?_
 refine a_seq (ar (.cons (o_assign rfl)<|.nil _) ?_)
 refine a_seq ?_
 obtain ⟨v2,h1,hM⟩ := of_bind hM
 obtain ⟨v4,h3,hM⟩ := of_bind hM
 refine ar (.cons (o_move rfl)<|.cons (o_call (frame_update_c h1) rfl (DLeL.refl _) rfl)<|.cons (o_move rfl)<|.cons (o_call (frame_update_c h3) rfl (DLeL.refl _) rfl)<|.cons (o_xor rfl)<|.cons (o_assign rfl)<|.nil _) ?_
 obtain rfl:=Option.some.inj hM
 exact a_ret (a_post (.r1 (.tmp rfl)) (DLe.refl _) PostOk.nil.spec)
def frame_stands (x0 : List Int) : Option (Int × Bool) :=
 (gb (!(decide ((List.length x0 : Int) < 8))) 0 (idx x0 0)).bind fun v2=>
 (gb (!((decide ((List.length x0 : Int) < 8)) || (v2 != 165))) 0 (idx x0 1)).bind fun v4=>
 if (((decide ((List.length x0 : Int) < 8)) || (v2 != 165)) || (v4 != 90)) = true then
  some (0,false)
 else
  (idx x0 2).bind fun v7=>
  (idx x0 3).bind fun v9=>
  if ((decide (4000 < (bitI .or .i64 (IntKind.wrap .i64 v7) (IntKind.wrap .i64 ((IntKind.wrap .i64 v9) * 2 ^ min (Int.toNat 8) (IntKind.bits .i64)))))) || (decide ((IntKind.wrap .i64 ((List.length x0 : Int) - 8)) < (bitI .or .i64 (IntKind.wrap .i64 v7) (IntKind.wrap .i64 ((IntKind.wrap .i64 v9) * 2 ^ min (Int.toNat 8) (IntKind.bits .i64))))))) = true then
   some (0,false)
  else
   (idx x0 4).bind fun v12=>
   (idx x0 5).bind fun v14=>
   (idx x0 6).bind fun v16=>
   (idx x0 7).bind fun v18=>
   chk (slOk (List.length x0) 2 4)<|
   chk (slOk (List.length x0) 8 (IntKind.wrap .i64 (8 + (bitI .or .i64 (IntKind.wrap .i64 v7) (IntKind.wrap .i64 ((IntKind.wrap .i64 v9) * 2 ^ min (Int.toNat 8) (IntKind.bits .i64)))))))<|
   (frame_checksum (slc x0 2 4) (slc x0 8 (IntKind.wrap .i64 (8 + (bitI .or .i64 (IntKind.wrap .i64 v7) (IntKind.wrap .i64 ((IntKind.wrap .i64 v9) * 2 ^ min (Int.toNat 8) (IntKind.bits .i64)))))))).bind fun v22=>
   if ((bitI .or .u32 (bitI .or .u32 (bitI .or .u32 (IntKind.wrap .u32 v12) (IntKind.wrap .u32 ((IntKind.wrap .u32 v14) * 2 ^ min (Int.toNat 8) (IntKind.bits .u32)))) (IntKind.wrap .u32 ((IntKind.wrap .u32 v16) * 2 ^ min (Int.toNat 16) (IntKind.bits .u32)))) (IntKind.wrap .u32 ((IntKind.wrap .u32 v18) * 2 ^ min (Int.toNat 24) (IntKind.bits .u32)))) != v22) = true then
    some (0,false)
   else
    some ((IntKind.wrap .i64 (8 + (bitI .or .i64 (IntKind.wrap .i64 v7) (IntKind.wrap .i64 ((IntKind.wrap .i64 v9) * 2 ^ min (Int.toNat 8) (IntKind.bits .i64)))))),true)
theorem frame_stands_c {x0 : List Int} {r : Int × Bool} (hM : frame_stands x0 = some r) : PCall Tryz.prog 132 [.sl 1 (List.map (DV.int .u8) x0)] (.tup [.int .i64 r.1,.bool r.2]):=by
 unfold frame_stands at hM
 refine PCall.body Tryz.func132 Tryz.ntmps132 rfl rfl rfl rfl ?_
 refine a_seq (ar (.cons (o_assign rfl)<|.cons (o_assign rfl)<|.nil _) ?_)
 refine a_seq (a_seq ?_)
 obtain ⟨v2,h1,hM⟩ := of_bind hM
 obtain ⟨v4,h3,hM⟩ := of_bind hM
 refine ar (.cons (o_move rfl)<|.cons (t_len rfl)<|.cons (o_int rfl rfl rfl)<|.cons (o_move rfl)<|.cons (o_guardG .bF rfl rfl (fun hb=>(.keep .nil)) (fun hb=>o_move rfl))<|.cons (o_guardG .bF rfl rfl (fun hb=>(.strip rfl hb .nil)) (fun hb=>t_index (of_gb h1 hb) rfl rfl rfl))<|.cons (o_guardG .bF rfl rfl (fun hb=>(.strip rfl hb .nil)) (fun hb=>o_load_es rfl rfl))<|.cons (o_guardG .bF rfl rfl (fun hb=>(.strip rfl hb .nil)) (fun hb=>o_int rfl rfl rfl))<|.cons (o_or rfl rfl)<|.cons (o_move rfl)<|.cons (o_guardG .bF rfl rfl (fun hb=>(.keep .nil)) (fun hb=>o_move rfl))<|.cons (o_guardG .bF rfl rfl (fun hb=>(.strip rfl hb .nil)) (fun hb=>t_index (of_gb h3 hb) rfl rfl rfl))<|.cons (o_guardG .bF rfl rfl (fun hb=>(.strip rfl hb .nil)) (fun hb=>o_load_es rfl rfl))<|.cons (o_guardG .bF rfl rfl (fun hb=>(.strip rfl hb .nil)) (fun hb=>o_int rfl rfl rfl))<|.cons (o_or rfl rfl)<|.nil _) ?_
 refine a_cond _ rfl (fun h5=>?_) (fun h5=>?_)
 ·replace hM:=(of_if hM).1 h5
  refine a_seq (ar (.cons (o_assign rfl)<|.cons (o_assign rfl)<|.nil _) ?_)
  obtain rfl:=Option.some.inj hM
  exact a_ret (a_post (.r2 (.tmp rfl) (.tmp rfl)) (DLe.refl _) PostOk.nil.spec)
 ·replace hM:=(of_if hM).2 h5
  refine a_skip (a_seq ?_)
  obtain ⟨v7,h6,hM⟩ := of_bind hM
  obtain ⟨v9,h8,hM⟩ := of_bind hM
  refine ad mixed (.cons (o_move rfl)<|.cons (t_index h6 rfl rfl rfl)<|.cons (o_load_es rfl rfl)<|.cons (o_conv_w rfl)<|.cons (o_move rfl)<|.cons (t_index h8 rfl rfl rfl)<|.cons (o_load_es rfl rfl)<|.cons (o_conv_w rfl)<|.cons (o_shl rfl rfl (by decide))<|.cons (o_int rfl rfl rfl)<|.cons (o_assign rfl)<|.nil _) ?_
  refine a_seq (a_seq (ar (.cons (o_move rfl)<|.cons (o_int rfl rfl rfl)<|.cons (o_move rfl)<|.cons (o_guardG .bF rfl rfl (fun hb=>(.keep .nil)) (fun hb=>o_move rfl))<|.cons (o_guardG .bF rfl rfl (fun hb=>(.keep .nil)) (fun hb=>o_move rfl))<|.cons (o_guardG .bF rfl rfl (fun hb=>(.strip rfl hb .nil)) (fun hb=>t_len rfl))<|.cons (o_guardG .bF rfl rfl (fun hb=>(.strip rfl hb .nil)) (fun hb=>o_int rfl rfl rfl))<|.cons (o_guardG .bF rfl rfl (fun hb=>(.strip rfl hb (.strip rfl hb .nil))) (fun hb=>o_int rfl rfl rfl))<|.cons (o_or rfl rfl)<|.nil _) ?_))
  refine a_cond _ rfl (fun h10=>?_) (fun h10=>?_)
  ·replace hM:=(of_if hM).1 h10
   refine a_seq (ar (.cons (o_assign rfl)<|.cons (o_assign rfl)<|.nil _) ?_)
   obtain rfl:=Option.some.inj hM
   exact a_ret (a_post (.r2 (.tmp rfl) (.tmp rfl)) (DLe.refl _) PostOk.nil.spec)
  ·replace hM:=(of_if hM).2 h10
   refine a_skip (a_seq ?_)
   obtain ⟨v12,h11,hM⟩ := of_bind hM
   obtain ⟨v14,h13,hM⟩ := of_bind hM
   obtain ⟨v16,h15,hM⟩ := of_bind hM
   obtain ⟨v18,h17,hM⟩ := of_bind hM
   refine ad mixed (.cons (o_move rfl)<|.cons (t_index h11 rfl rfl rfl)<|.cons (o_load_es rfl rfl)<|.cons (o_conv_w rfl)<|.cons (o_move rfl)<|.cons (t_index h13 rfl rfl rfl)<|.cons (o_load_es rfl rfl)<|.cons (o_conv_w rfl)<|.cons (o_shl rfl rfl (by decide))<|.cons (o_int rfl rfl rfl)<|.cons (o_move rfl)<|.cons (t_index h15 rfl rfl rfl)<|.cons (o_load_es rfl rfl)<|.cons (o_conv_w rfl)<|.cons (o_shl rfl rfl (by decide))<|.cons (o_int rfl rfl rfl)<|.cons (o_move rfl)<|.cons (t_index h17 rfl rfl rfl)<|.cons (o_load_es rfl rfl)<|.cons (o_conv_w rfl)<|.cons (o_shl rfl rfl (by decide))<|.cons (o_int rfl rfl rfl)<|.cons (o_assign rfl)<|.nil _) ?_
   refine a_seq (a_seq ?_)
   obtain ⟨h19,hM⟩ := of_chk hM
   obtain ⟨h20,hM⟩ := of_chk hM
   obtain ⟨v22,h21,hM⟩ := of_bind hM
   refine ad mixed (.cons (o_move rfl)<|.cons (o_move rfl)<|.cons (t_slice h19 rfl rfl rfl)<|.cons (o_move rfl)<|.cons (o_move rfl)<|.cons (o_int rfl rfl rfl)<|.cons (t_slice h20 rfl rfl rfl)<|.cons (o_call (frame_checksum_c h21) rfl (DLeL.refl _) rfl)<|.cons (o_int rfl rfl rfl)<|.nil _) ?_
   refine a_cond _ rfl (fun h23=>?_) (fun h23=>?_)
   ·replace hM:=(of_if hM).1 h23
    refine a_seq (ar (.cons (o_assign rfl)<|.cons (o_assign rfl)<|.nil _) ?_)
    obtain rfl:=Option.some.inj hM
    exact a_ret (a_post (.r2 (.tmp rfl) (.tmp rfl)) (DLe.refl _) PostOk.nil.spec)
   ·replace hM:=(of_if hM).2 h23
    refine a_skip (a_seq (ar (.cons (o_move rfl)<|.cons (o_int rfl rfl rfl)<|.cons (o_assign rfl)<|.cons (o_assign rfl)<|.nil _) ?_))
    obtain rfl:=Option.some.inj hM
    exact a_ret (a_post (.r2 (.tmp rfl) (.tmp rfl)) (DLe.refl _) PostOk.nil.spec)
def frame_Append (x0 : List Int) (x1 : List Int) : Option ((List Int) × Int) :=
 if (decide (4000 < (List.length x1 : Int))) = true then
  some (([] : List Int),3)
 else
  (frame_checksum [(IntKind.wrap .u8 (List.length x1 : Int)),(IntKind.wrap .u8 (Int.fdiv (List.length x1 : Int) (2 ^ min (Int.toNat 8) (IntKind.bits .i64))))] x1).bind fun v3=>
  chk (mkOk 1 0 (IntKind.wrap .i64 ((IntKind.wrap .i64 ((List.length x0 : Int) + 8)) + (List.length x1 : Int))))<|
  chk (apOk 1 (List.length ([] : List Int) + List.length x0))<|
  (idx [(IntKind.wrap .u8 (List.length x1 : Int)),(IntKind.wrap .u8 (Int.fdiv (List.length x1 : Int) (2 ^ min (Int.toNat 8) (IntKind.bits .i64))))] 0).bind fun v7=>
  (idx [(IntKind.wrap .u8 (List.length x1 : Int)),(IntKind.wrap .u8 (Int.fdiv (List.length x1 : Int) (2 ^ min (Int.toNat 8) (IntKind.bits .i64))))] 1).bind fun v9=>
  chk (apOk 1 (List.length (([] : List Int)++x0) + List.length [165,90,v7,v9]))<|
  chk (apOk 1 (List.length ((([] : List Int)++x0)++[165,90,v7,v9]) + List.length [(IntKind.wrap .u8 v3),(IntKind.wrap .u8 (Int.fdiv v3 (2 ^ min (Int.toNat 8) (IntKind.bits .u32)))),(IntKind.wrap .u8 (Int.fdiv v3 (2 ^ min (Int.toNat 16) (IntKind.bits .u32)))),(IntKind.wrap .u8 (Int.fdiv v3 (2 ^ min (Int.toNat 24) (IntKind.bits .u32))))]))<|
  chk (apOk 1 (List.length (((([] : List Int)++x0)++[165,90,v7,v9])++[(IntKind.wrap .u8 v3),(IntKind.wrap .u8 (Int.fdiv v3 (2 ^ min (Int.toNat 8) (IntKind.bits .u32)))),(IntKind.wrap .u8 (Int.fdiv v3 (2 ^ min (Int.toNat 16) (IntKind.bits .u32)))),(IntKind.wrap .u8 (Int.fdiv v3 (2 ^ min (Int.toNat 24) (IntKind.bits .u32))))]) + List.length x1))<|
  some (((((([] : List Int)++x0)++[165,90,v7,v9])++[(IntKind.wrap .u8 v3),(IntKind.wrap .u8 (Int.fdiv v3 (2 ^ min (Int.toNat 8) (IntKind.bits .u32)))),(IntKind.wrap .u8 (Int.fdiv v3 (2 ^ min (Int.toNat 16) (IntKind.bits .u32)))),(IntKind.wrap .u8 (Int.fdiv v3 (2 ^ min (Int.toNat 24) (IntKind.bits .u32))))])++x1),0)
theorem frame_Append_c {x0 : List Int} {x1 : List Int} {r : (List Int) × Int} (hM : frame_Append x0 x1 = some r) : ACall Tryz.prog 40 ⟨[.sl 1 (List.map (DV.int .u8) x0),.sl 1 (List.map (DV.int .u8) x1)],[],.tup [.row 50000,.int .i64 r.2],[(50000,some (.row 5 1 (List.map (DV.int .u8) r.1)))],[50000]⟩ := by
 unfold frame_Append at hM
 refine ACall.body Tryz.func40 Tryz.ntmps40 rfl rfl rfl rfl ?_
 refine a_seq (ar (.cons (o_assign rfl)<|.cons (o_assign rfl)<|.nil _) ?_)
 refine a_seq (a_seq (ar (.cons (o_move rfl)<|.cons (t_len rfl)<|.cons (o_int rfl rfl rfl)<|.nil _) ?_))
 refine a_cond _ rfl (fun h1=>?_) (fun h1=>?_)
 ·replace hM:=(of_if hM).1 h1
  refine a_seq (ar (.cons (o_assign rfl)<|.cons (o_assign rfl)<|.nil _) ?_)
  obtain rfl:=Option.some.inj hM
  refine a_imp (Imp.nilRow (t:=4) (id:=49004) 5 1 rfl rfl) ?_
  refine a_imp (σ' := ⟨[(4,.row 50000),(5,.int .i64 3)],[(50000,some (.row 5 1 (List.map (DV.int .u8) ([] : List Int))))],[50000]⟩) (Imp.sh (fun i=>bif Nat.beq i 50000 then 49004 else i) rfl rfl rfl rfl rfl rfl) ?_
  exact a_ret (a_post (.r2 (.tmp rfl) (.tmp rfl)) (DLe.refl _) (PostOk.spec (.cons rfl .nil)))
 ·replace hM:=(of_if hM).2 h1
  refine a_skip (a_seq (ar (.cons (o_move rfl)<|.cons (t_len rfl)<|.cons (o_conv_w rfl)<|.cons (o_move rfl)<|.cons (t_len rfl)<|.cons (o_shr rfl rfl (by decide))<|.cons (o_conv_w rfl)<|.cons (t_build (DV.int .u8) ([(IntKind.wrap .u8 (List.length x1 : Int)),(IntKind.wrap .u8 (Int.fdiv (List.length x1 : Int) (2 ^ min (Int.toNat 8) (IntKind.bits .i64))))] : List Int) rfl rfl rfl rfl rfl rfl rfl)<|.cons (o_assign rfl)<|.nil _) ?_))
  refine a_seq (a_imp (Imp.freeze (id:=19) rfl) ?_)
  obtain ⟨v3,h2,hM⟩ := of_bind hM
  refine ar (.cons (o_move rfl)<|.cons (o_move rfl)<|.cons (o_call (frame_checksum_c h2) rfl (DLeL.refl _) rfl)<|.cons (o_assign rfl)<|.nil _) ?_
  refine a_seq ?_
  obtain ⟨h4,hM⟩ := of_chk hM
  refine ar (.cons (o_move rfl)<|.cons (t_len rfl)<|.cons (o_int rfl rfl rfl)<|.cons (o_move rfl)<|.cons (t_len rfl)<|.cons (o_int rfl rfl rfl)<|.cons (t_make (DV.int .u8) 0 h4 rfl rfl rfl rfl)<|.cons (o_assign rfl)<|.nil _) ?_
  refine a_seq ?_
  obtain ⟨h5,hM⟩ := of_chk hM
  obtain ⟨v7,h6,hM⟩ := of_bind hM
  obtain ⟨v9,h8,hM⟩ := of_bind hM
  obtain ⟨h10,hM⟩ := of_chk hM
  refine ad mixed (.cons (o_move rfl)<|.cons (o_move rfl)<|.cons (t_append x0 h5 rfl rfl rfl Src.sl)<|.cons (o_move rfl)<|.cons (t_index h6 rfl rfl rfl)<|.cons (o_load_es rfl rfl)<|.cons (o_move rfl)<|.cons (t_index h8 rfl rfl rfl)<|.cons (o_load_es rfl rfl)<|.cons (t_build (DV.int .u8) ([165,90,v7,v9] : List Int) rfl rfl rfl rfl rfl rfl rfl)<|.cons (t_append [165,90,v7,v9] h10 rfl rfl rfl (Src.row rfl))<|.cons (o_assign rfl)<|.nil _) ?_
  refine a_seq ?_
  obtain ⟨h11,hM⟩ := of_chk hM
  refine ar (.cons (o_move rfl)<|.cons (o_move rfl)<|.cons (o_conv_w rfl)<|.cons (o_move rfl)<|.cons (o_shr rfl rfl (by decide))<|.cons (o_conv_w rfl)<|.cons (o_move rfl)<|.cons (o_shr rfl rfl (by decide))<|.cons (o_conv_w rfl)<|.cons (o_move rfl)<|.cons (o_shr rfl rfl (by decide))<|.cons (o_conv_w rfl)<|.cons (t_build (DV.int .u8) ([(IntKind.wrap .u8 v3),(IntKind.wrap .u8 (Int.fdiv v3 (2 ^ min (Int.toNat 8) (IntKind.bits .u32)))),(IntKind.wrap .u8 (Int.fdiv v3 (2 ^ min (Int.toNat 16) (IntKind.bits .u32)))),(IntKind.wrap .u8 (Int.fdiv v3 (2 ^ min (Int.toNat 24) (IntKind.bits .u32))))] : List Int) rfl rfl rfl rfl rfl rfl rfl)<|.cons (t_append [(IntKind.wrap .u8 v3),(IntKind.wrap .u8 (Int.fdiv v3 (2 ^ min (Int.toNat 8) (IntKind.bits .u32)))),(IntKind.wrap .u8 (Int.fdiv v3 (2 ^ min (Int.toNat 16) (IntKind.bits .u32)))),(IntKind.wrap .u8 (Int.fdiv v3 (2 ^ min (Int.toNat 24) (IntKind.bits .u32))))] h11 rfl rfl rfl (Src.row rfl))<|.cons (o_assign rfl)<|.nil _) ?_
  refine a_seq ?_
  obtain ⟨h12,hM⟩ := of_chk hM
  refine ar (.cons (o_move rfl)<|.cons (o_move rfl)<|.cons (t_append x1 h12 rfl rfl rfl Src.sl)<|.cons (o_assign rfl)<|.cons (o_assign rfl)<|.nil _) ?_
  obtain rfl:=Option.some.inj hM
  refine a_imp (σ' := ⟨[(4,.row 50000),(5,.int .i64 0)],[(50000,some (.row 5 1 (List.map (DV.int .u8) ((((([] : List Int)++x0)++[165,90,v7,v9])++[(IntKind.wrap .u8 v3),(IntKind.wrap .u8 (Int.fdiv v3 (2 ^ min (Int.toNat 8) (IntKind.bits .u32)))),(IntKind.wrap .u8 (Int.fdiv v3 (2 ^ min (Int.toNat 16) (IntKind.bits .u32)))),(IntKind.wrap .u8 (Int.fdiv v3 (2 ^ min (Int.toNat 24) (IntKind.bits .u32))))])++x1))))],[50000]⟩) (Imp.sh (fun i=>bif Nat.beq i 50000 then 57 else i) rfl rfl rfl rfl rfl rfl) ?_
  exact a_ret (a_post (.r2 (.tmp rfl) (.tmp rfl)) (DLe.refl _) (PostOk.spec (.cons rfl .nil)))
set_option maxHeartbeats 1000000
theorem j_cut {P : Program} {J : Nat→FMap→World→Prop} {n : Nat} {Q : Exit→Nat→AS→Prop} {σ : AS} {k : Nat} {c d : Code} {α : Type} (S : α→AS) (I : α→Prop) (h : awp P n c (QCut S I (fun e σ=>Q e k σ)) σ) (hk : ∀ x,I x→awpJ P J n d Q k (S x)) : awpJ P J n (.seq c d) Q k σ :=
 j_seq (j_of (a_mono h fun e σ' hq=>by
  cases e with
  | normal=>obtain ⟨x',i1,i2⟩ := hq; exact j_imp i2 (hk x' i1)
  | exit id=>exact hq
  | goto l=>exact hq
  | ret=>exact hq
  | panic c=>exact hq
  | outgrown=>exact hq))
theorem j_cutJ {P : Program} {J : Nat→FMap→World→Prop} {n : Nat} {Q : Exit→Nat→AS→Prop} {σ : AS} {k : Nat} {c d : Code} (S : AS) (k' : Nat) (h : awpJ P J n c (fun e m σ'=>e = .normal∧m = k'∧Imp σ' S) k σ) (hd : awpJ P J n d Q k' S) : awpJ P J n (.seq c d) Q k σ :=
 j_seq (fun w0 F0 F γ a w hJ hs=>wpIn_mono (h w0 F0 F γ a w hJ hs) fun e a' w' ⟨w1,F1,F',γ',m,σ',j1,j2,h1,h2,h3,h4⟩=>by
  subst h2 h3
  obtain ⟨F2,γ2,s2⟩ := h4 _ F' γ' a' w' h1
  exact ⟨w1,F1,F2,γ2,m,S,j1,j2,s2,hd⟩)
inductive SubE (e : List (Nat × DV)) : List (Nat × DV)→Prop
 | nil : SubE e []
 | cons {t : Nat} {d : DV} {r : List (Nat × DV)} (h : look e t = some d) (hi : d.ids = []) (k : SubE e r) : SubE e ((t,d) :: r)
theorem SubE.spec {e r : List (Nat × DV)} (k : SubE e r) : ∀ t d,look r t = some d→look e t = some d∧d.ids = []:=by
 induction k with
 | nil=>intro t d h; cases h
 | cons h hi k ih=>
  intro t d hl
  rw [look_cons] at hl
  split at hl
  ·rename_i e1; subst e1; injection hl with hl; subst hl; exact ⟨h,hi⟩
  ·exact ih t d hl
def scanL (p : List Int) (s : Int × Int × Bool) : Option (Ctl (Int × Int × Bool) (Int × Int × Bool)) :=
 if (decide (s.1 < (List.length p : Int))) = true then
  chk (slOk (List.length p) s.1 (List.length p))<|
  (frame_stands (List.drop (Int.toNat s.1) p)).bind fun r=>
  if r.2 = true then some (.done (s.1,r.1,r.2)) else some (.next (IntKind.wrap .i64 (s.1 + 1),r.1,r.2))
 else some (.done s)
def scanM (p : List Int) : Nat→Int→Option (List frame_Part)
 | 0,_=>none
 | fu + 1,off=>
  if (decide (off < (List.length p : Int))) = true then
   (whileM (E:=Int × Int × Bool) (scanL p) (off,0,false)).bind fun e=>
   if e.2.2 = true then
    chk (slOk (List.length p) (IntKind.wrap .i64 (e.1 + 8)) (IntKind.wrap .i64 (e.1 + e.2.1)))<|
    chk (apOk 1 (List.length ([] : List Int) + List.length (slc p (IntKind.wrap .i64 (e.1 + 8)) (IntKind.wrap .i64 (e.1 + e.2.1)))))<|
    (scanM p fu (IntKind.wrap .i64 (e.1 + e.2.1))).bind fun rest=>
    some ((if (decide (off < e.1)) = true then [⟨off,IntKind.wrap .i64 (e.1 - off),[],false⟩] else [])++⟨e.1,e.2.1,([] : List Int)++slc p (IntKind.wrap .i64 (e.1 + 8)) (IntKind.wrap .i64 (e.1 + e.2.1)),true⟩ :: rest)
   else some (if (decide (off < e.1)) = true then [⟨off,IntKind.wrap .i64 (e.1 - off),[],false⟩] else [])
  else some []
theorem wanted_guard {ops : Array Oper} {o : Oper} {g gt : Nat} {n : Nat} {σ : AS} (hg : o.guard = some (g,true)) (hgo : (ops[g]?).bind (·.dst) = some gt) (hb : look σ.env gt = some (.bool true)) :
  ∀ w0 F0 F γ a w,Sat (bare w0 F0 n) F γ σ a w→Region.wanted o (yielded ops a.tmps) = true:=by
 intro w0 F0 F γ a w hs
 have hsl:=(hs.env gt _ hb).2
 have hlt:=(hs.env gt _ hb).1
 simp only [Rs] at hsl
 have hy : yielded ops a.tmps g = some true:=by
  unfold yielded
  rw [hgo]
  have hsz : gt < a.tmps.size:=by rw [hs.size]; exact hlt
  simp only [Option.bind_some]
  rw [Array.getElem?_eq_getElem hsz]
  have : a.tmps[gt] = .bool true:=by simpa [Array.getD,hsz] using hsl
  rw [this]
 simp [Region.wanted,hg,hy]
abbrev yv (l : Nat) : DV:=.val (.func (.yield l) #[] #[])
theorem part_none {F : FMap} {γ : Gam} {a b : Int} {v : Value} (h : Rs F γ (.ifb true (.agg [.int .i64 a,.int .i64 b,.nils,.bool false])) v) : Rs F Gam.no (frame_Part.dv ⟨a,b,[],false⟩) v:=by
 simp only [Rs] at h
 have h:=h.1 trivial
 have k : Rs F γ (.agg [.int .i64 a,.int .i64 b,.nils,.bool false]) v:=by simp only [Rs]; exact h
 exact Rs_ids _ _ (by intro i hi; cases hi) (DLe.agg (.cons (DLe.refl _) (.cons (DLe.refl _) (.cons (DLe.nils 1) (.cons (DLe.refl _) .nil)))) F γ v k)
theorem data_of {F : FMap} {γ : Gam} {d : DV} {v : Value} (h : Rs F γ d v) (hi : d.ids = []) : Rs F Gam.no d v:=Rs_ids _ _ (by rw [hi]; intro i hi; cases hi) h
theorem scan_J {J : Nat→FMap→World→Prop} (JO : JOk J) {l : Nat} {p : List Int} {parts : List frame_Part} (Y : Ylds Tryz.prog l J (parts.map frame_Part.dv)) {fu : Nat} (hM : scanM p fu 0 = some parts) {c : Code} (hc : Tryz.f101.body = some c) :
  awpJ Tryz.prog J 60 c (fun e m _=>(e = .normal∨e = .ret)∧m = (parts.map frame_Part.dv).length) 0 ⟨params 0 [.sl 1 (List.map (DV.int .u8) p),yv l],[],[]⟩ := by
 injection hc with hc
 subst hc
 refine j_seq (j_of (a_region (.cons (o_assign rfl)<|.nil _) (by kernel_rfl) (by kernel_rfl) ?_))
 refine j_block ?_
 refine j_loop (fun x : Nat × Int × List frame_Part=>⟨[(0,.sl 1 (List.map (DV.int .u8) p)),(1,yv l),(4,.int .i64 x.2.1)],[],[]⟩)
  (fun k x=>scanM p x.1 x.2.1 = some x.2.2∧parts.drop k = x.2.2∧k + x.2.2.length = parts.length) (fun x=>x.1) (fu,0,parts) (Imp.of (fun i=>i) (.cons rfl (DLe.refl _) (.cons rfl (DLe.refl _) (.cons rfl (DLe.refl _) .nil))) .nil rfl rfl rfl) ⟨hM,rfl,by simp⟩ ?_
 rintro k ⟨fu,off,rest⟩ ⟨hM,hdrop,hlen⟩
 dsimp only at hM hdrop hlen ⊢
 cases fu with
 | zero=>cases hM
 | succ fu=>
 unfold scanM at hM
 refine j_seq ?_
 refine j_seq (j_of (a_region (.cons (o_move rfl)<|.cons (o_move rfl)<|.cons (t_len rfl)<|.cons (o_int rfl rfl rfl)<|.nil _) (by kernel_rfl) (by kernel_rfl) ?_))
 refine j_cond _ rfl (fun hb=>?_) (fun hb=>?_)
 ·replace hM:=(of_if hM).1 hb
  obtain ⟨e,hL,hM⟩ := of_bind hM
  refine j_of (a_skip ?_)
  refine j_block ?_
  refine j_seq (j_of (a_region (.cons (o_move rfl)<|.cons (o_assign rfl)<|.cons (o_assign rfl)<|.cons (o_assign rfl)<|.nil _) (by kernel_rfl) (by kernel_rfl) ?_))
  refine j_cut (α:=Unit) (fun _=>⟨[(0,.sl 1 (List.map (DV.int .u8) p)),(1,yv l),(4,.int .i64 off),(5,.int .i64 e.1),(6,.int .i64 e.2.1),(7,.bool e.2.2)],[],[]⟩) (fun _=>True) ?_ ?_
  ·refine a_block ?_
   refine a_while (fun s=>⟨[(0,.sl 1 (List.map (DV.int .u8) p)),(1,yv l),(4,.int .i64 off),(5,.int .i64 s.1),(6,.int .i64 s.2.1),(7,.bool s.2.2)],[],[]⟩) _ hL (Imp.of (fun i=>i) (.cons rfl (DLe.refl _) (.cons rfl (DLe.refl _) (.cons rfl (DLe.refl _) (.cons rfl (DLe.refl _) (.cons rfl (DLe.refl _) (.cons rfl (DLe.refl _) .nil)))))) .nil rfl rfl rfl) ?_
   rintro ⟨nx,ln,gd⟩ tb hM hE
   unfold scanL at hM
   dsimp only at hM ⊢
   refine a_seq ?_
   refine a_seq ?_
   refine a_region (.cons (o_move rfl)<|.cons (o_move rfl)<|.cons (t_len rfl)<|.cons (o_int rfl rfl rfl)<|.nil _) (by kernel_rfl) (by kernel_rfl) ?_
   refine a_cond _ rfl (fun hb2=>?_) (fun hb2=>?_)
   ·replace hM:=(of_if hM).1 hb2
    obtain ⟨hs,hM⟩ := of_chk hM
    obtain ⟨r,hr,hM⟩ := of_bind hM
    refine a_skip ?_
    refine a_block ?_
    refine a_seq ?_
    refine a_seq ?_
    refine a_region (.cons (o_move rfl)<|.cons (o_move rfl)<|.cons (t_slice_l hs rfl rfl)<|.cons (o_call (frame_stands_c hr) rfl (DLeL.refl _) rfl)<|.cons (o_move rfl)<|.cons (o_extract rfl rfl)<|.cons (o_extract rfl rfl)<|.cons (o_assign rfl)<|.cons (o_assign rfl)<|.nil _) (by kernel_rfl) (by kernel_rfl) ?_
    refine a_seq ?_
    refine a_region (.cons (o_move rfl)<|.nil _) (by kernel_rfl) (by kernel_rfl) ?_
    refine a_cond _ rfl (fun hb3=>?_) (fun hb3=>?_)
    ·replace hM:=(of_if hM).1 hb3
     obtain rfl:=Option.some.inj hM
     obtain rfl:=hE _ rfl
     refine a_exit ?_
     exact ⟨(),trivial,Imp.of (fun i=>i) (.cons rfl (DLe.refl _) (.cons rfl (DLe.refl _) (.cons rfl (DLe.refl _) (.cons rfl (DLe.refl _) (.cons rfl (DLe.refl _) (.cons rfl (DLe.refl _) .nil)))))) .nil rfl rfl rfl⟩
    ·replace hM:=(of_if hM).2 hb3
     obtain rfl:=Option.some.inj hM
     refine a_skip ?_
     refine a_region (.cons (o_move rfl)<|.cons (o_int rfl rfl rfl)<|.cons (o_assign rfl)<|.nil _) (by kernel_rfl) (by kernel_rfl) ?_
     exact ⟨(_,_,_),rfl,Imp.of (fun i=>i) (.cons rfl (DLe.refl _) (.cons rfl (DLe.refl _) (.cons rfl (DLe.refl _) (.cons rfl (DLe.refl _) (.cons rfl (DLe.refl _) (.cons rfl (DLe.refl _) .nil)))))) .nil rfl rfl rfl⟩
   ·replace hM:=(of_if hM).2 hb2
    obtain rfl:=Option.some.inj hM
    obtain rfl:=hE _ rfl
    refine a_exit ?_
    exact ⟨(),trivial,Imp.of (fun i=>i) (.cons rfl (DLe.refl _) (.cons rfl (DLe.refl _) (.cons rfl (DLe.refl _) (.cons rfl (DLe.refl _) (.cons rfl (DLe.refl _) (.cons rfl (DLe.refl _) .nil)))))) .nil rfl rfl rfl⟩
  ·rintro _ -
   obtain ⟨nx,ln,gd⟩ := e
   dsimp only at hM ⊢
   -- the first part
   obtain ⟨pre,hpre⟩ : ∃ pre : List frame_Part,(if (decide (off < nx)) = true then [⟨off,IntKind.wrap .i64 (nx - off),[],false⟩] else []) = pre := ⟨_,rfl⟩
   rw [hpre] at hM
   obtain ⟨rest',hrest⟩ : ∃ rest',rest = pre++rest' := by
    split at hM
    ·obtain ⟨_,hM⟩ := of_chk hM
     obtain ⟨_,hM⟩ := of_chk hM
     obtain ⟨r2,_,hM⟩ := of_bind hM
     exact ⟨_,(Option.some.inj hM).symm⟩
    ·exact ⟨[],by rw [List.append_nil]; exact (Option.some.inj hM).symm⟩
   have hdrop1 : parts.drop (k + pre.length) = rest' := by
    rw [← List.drop_drop,hdrop,hrest,List.drop_left]
   have hlen1 : (k + pre.length) + rest'.length = parts.length:=by
    rw [hrest,List.length_append] at hlen; omega
   refine j_seq ?_
   refine j_cutJ ⟨[(40,.bool false),(0,.sl 1 (List.map (DV.int .u8) p)),(1,yv l),(4,.int .i64 off),(5,.int .i64 nx),(6,.int .i64 ln),(7,.bool gd)],[],[]⟩ (k + pre.length) ?_ ?_
   ·by_cases hb4 : decide (off < nx) = true
    ·rw [if_pos hb4] at hpre
     have hk : (parts.map frame_Part.dv)[k]? = some (frame_Part.dv ⟨off,IntKind.wrap .i64 (nx - off),[],false⟩):=by
      have : parts[k]? = some ⟨off,IntKind.wrap .i64 (nx - off),[],false⟩ := by
       have h0:=congrArg (fun l=>l[0]?) hdrop
       rw [hrest,← hpre] at h0
       simpa using h0
      rw [List.getElem?_map,this]; rfl
     refine j_region (k' := k + 1) (.cons ((o_move rfl).toJ rfl)<|.cons ((o_move rfl).toJ rfl)<|.cons ((OpG.cast (E' := ⟨[(30,.bool true)],[],[]⟩) (o_int rfl rfl rfl) (by rw [hb4])).toJ rfl)<|.cons ((o_move rfl).toJ rfl)<|
      .cons ((o_guardOn .bT rfl rfl rfl (.keep .nil) (o_move rfl)).toJ rfl)<|.cons ((o_guardOn .bT rfl rfl rfl (.keep .nil) (o_move rfl)).toJ rfl)<|.cons ((o_guardOn .bT rfl rfl rfl (.keep .nil) (o_move rfl)).toJ rfl)<|.cons ((o_guardOn .bT rfl rfl rfl (.keep .nil) (o_move rfl)).toJ rfl)<|
      .cons ((o_guardOn .bT rfl rfl rfl (.strip rfl rfl (.strip rfl rfl .nil)) (o_int rfl rfl rfl)).toJ rfl)<|.cons ((o_guardOn .bT rfl rfl rfl (.strip rfl rfl (.strip rfl rfl .nil)) (o_build rfl rfl rfl)).toJ rfl)<|
      .cons (o_yield (r:=.ifb true (.bool true)) rfl rfl (wanted_guard rfl rfl rfl) rfl (fun F γ v h=>by simp only [Rs] at h; exact h.1 trivial) rfl (fun F γ v h=>part_none h) JO Y hk
       [(31,.bool true),(0,.sl 1 (List.map (DV.int .u8) p)),(1,yv l),(4,.int .i64 off),(5,.int .i64 nx),(6,.int .i64 ln),(7,.bool gd)] (SubE.spec (.cons rfl rfl (.cons rfl rfl (.cons rfl rfl (.cons rfl rfl (.cons rfl rfl (.cons rfl rfl (.cons rfl rfl .nil)))))))) (fun F γ=>by simp only [Rs]; exact ⟨fun _=>trivial,fun h=>by cases h⟩))<|
      .cons ((o_guardOn .bT rfl rfl rfl (.strip rfl rfl .nil) (o_not rfl)).toJ rfl)<|.cons ((o_and rfl rfl).toJ rfl)<|.nil _ _) (by kernel_rfl) ?_
     refine ⟨rfl,by rw [← hpre]; rfl,?_⟩
     exact (Imp.of (fun i=>i) (.cons rfl (DLe.refl _) (.cons rfl (DLe.refl _) (.cons rfl (DLe.refl _) (.cons rfl (DLe.refl _) (.cons rfl (DLe.refl _) (.cons rfl (DLe.refl _) (.cons rfl (DLe.refl _) .nil))))))) .nil rfl rfl rfl)
    ·rw [if_neg hb4] at hpre
     have hb5 : decide (off < nx) = false:=Bool.eq_false_iff.2 hb4
     refine j_of (a_region (.cons (o_move rfl)<|.cons (o_move rfl)<|.cons (OpG.cast (E' := ⟨[(30,.bool false)],[],[]⟩) (o_int rfl rfl rfl) (by rw [hb5]))<|.cons (o_move rfl)<|
      .cons (o_guardOff .nils .bT rfl rfl rfl)<|.cons (o_guardOff .nils .bT rfl rfl rfl)<|.cons (o_guardOff .nils .bT rfl rfl rfl)<|.cons (o_guardOff .nils .bT rfl rfl rfl)<|.cons (o_guardOff .nils .bT rfl rfl rfl)<|.cons (o_guardOff .nils .bT rfl rfl rfl)<|.cons (o_guardOff .nils .bT rfl rfl rfl)<|
      .cons (o_guardOff (.bool false) .bT rfl rfl rfl)<|.cons (o_and rfl rfl)<|.nil _) (by kernel_rfl) (by kernel_rfl) ?_)
     refine ⟨rfl,by rw [← hpre]; rfl,?_⟩
     exact (Imp.of (fun i=>i) (.cons rfl (DLe.refl _) (.cons rfl (DLe.refl _) (.cons rfl (DLe.refl _) (.cons rfl (DLe.refl _) (.cons rfl (DLe.refl _) (.cons rfl (DLe.refl _) (.cons rfl (DLe.refl _) .nil))))))) .nil rfl rfl rfl)
   ·refine j_cond _ rfl (fun c=>by cases c) (fun _=>?_)
    refine j_of (a_skip ?_)
    refine j_seq ?_
    refine j_seq (j_of (a_region (.cons (o_move rfl)<|.cons (o_not rfl)<|.nil _) (by kernel_rfl) (by kernel_rfl) ?_))
    refine j_cond _ rfl (fun hg=>?_) (fun hg=>?_)
    ·have hg' : gd = false:=by cases gd <;> simp_all
     subst hg'
     refine j_of (a_ret ⟨.inr rfl,?_⟩)
     have : pre = rest:=Option.some.inj hM
     have h0 : rest' = []:=by
      have:=congrArg List.length (hrest.symm.trans this.symm)
      simpa using this
     rw [h0] at hlen1
     simpa using hlen1
    ·have hg' : gd = true:=by cases gd <;> simp_all
     subst hg'
     replace hM:=(of_if hM).1 rfl
     obtain ⟨hs1,hM⟩ := of_chk hM
     obtain ⟨hs2,hM⟩ := of_chk hM
     obtain ⟨r2,hr2,hM⟩ := of_bind hM
     have hr' : rest' = ⟨nx,ln,([] : List Int)++slc p (IntKind.wrap .i64 (nx + 8)) (IntKind.wrap .i64 (nx + ln)),true⟩ :: r2:=by
      have:=Option.some.inj hM
      rw [hrest] at this
      exact (List.append_cancel_left this).symm
     refine j_of (a_skip ?_)
     refine j_seq (j_of (a_region (.cons (o_move rfl)<|.cons (o_move rfl)<|.cons (o_int rfl rfl rfl)<|.cons (o_assign rfl)<|.nil _) (by kernel_rfl) (by kernel_rfl) ?_))
     refine j_seq (j_of (a_region (.cons (t_build (DV.int .u8) ([] : List Int) rfl rfl rfl rfl rfl rfl rfl)<|.cons (o_move rfl)<|.cons (o_move rfl)<|.cons (o_int rfl rfl rfl)<|.cons (o_move rfl)<|.cons (t_slice hs1 rfl rfl rfl)<|.cons (o_frz (t_append (slc p (IntKind.wrap .i64 (nx + 8)) (IntKind.wrap .i64 (nx + ln))) hs2 rfl rfl rfl Src.sl))<|.cons (o_assign rfl)<|.nil _) (by kernel_rfl) (by kernel_rfl) ?_))
     refine j_seq ?_
     have hk : (parts.map frame_Part.dv)[k + pre.length]? = some (frame_Part.dv ⟨nx,ln,([] : List Int)++slc p (IntKind.wrap .i64 (nx + 8)) (IntKind.wrap .i64 (nx + ln)),true⟩):=by
      have : parts[k + pre.length]? = some ⟨nx,ln,([] : List Int)++slc p (IntKind.wrap .i64 (nx + 8)) (IntKind.wrap .i64 (nx + ln)),true⟩ := by
       have h0:=congrArg (fun l=>l[0]?) hdrop1
       rw [hr'] at h0
       simpa using h0
      rw [List.getElem?_map,this]; rfl
     refine j_region (k' := k + pre.length + 1) (.cons ((o_move rfl).toJ rfl)<|.cons ((o_move rfl).toJ rfl)<|.cons ((o_move rfl).toJ rfl)<|.cons ((o_move rfl).toJ rfl)<|.cons ((o_build rfl rfl rfl).toJ rfl)<|
      .cons (o_yield (r:=.bool true) rfl rfl (fun w0 F0 F γ a w _=>rfl) rfl (fun F γ v h=>by simp only [Rs] at h; exact h) rfl (fun F γ v h=>data_of h rfl) JO Y hk
       [(0,.sl 1 (List.map (DV.int .u8) p)),(1,yv l),(4,.int .i64 (IntKind.wrap .i64 (nx + ln)))] (SubE.spec (.cons rfl rfl (.cons rfl rfl (.cons rfl rfl .nil)))) (fun F γ=>by simp only [Rs]))<|
      .cons ((o_not rfl).toJ rfl)<|.nil _ _) (by kernel_rfl) ?_
     refine j_cond _ rfl (fun c=>by cases c) (fun _=>?_)
     refine j_of (a_skip ?_)
     refine ⟨(fu,IntKind.wrap .i64 (nx + ln),r2),⟨hr2,?_,?_⟩,Nat.lt_succ_self _,Imp.of (fun i=>i) (.cons rfl (DLe.refl _) (.cons rfl (DLe.refl _) (.cons rfl (DLe.refl _) .nil))) .nil rfl rfl rfl⟩
     ·rw [← List.drop_drop,hdrop1,hr']; rfl
     ·rw [hr'] at hlen1; simp only [List.length_cons] at hlen1; dsimp only; omega
 ·replace hM:=(of_if hM).2 hb
  obtain rfl:=Option.some.inj hM
  refine j_of (a_exit ?_)
  refine ⟨.inl rfl,?_⟩
  simpa using hlen
theorem scan1_iter {p : List Int} {parts : List frame_Part} {fu : Nat} (hM : scanM p fu 0 = some parts) : Iter Tryz.prog 100 [.eptr [.sl 1 (List.map (DV.int .u8) p)]] (parts.map frame_Part.dv):=by
 intro l J F w vs JO Y hJ hv
 have hv' : RsT F Gam.no [yv l,.eptr [.sl 1 (List.map (DV.int .u8) p)]] (.func (.yield l) #[] #[] :: vs):=by
  simp only [RsT]; exact ⟨_,vs,rfl,by simp only [Rs],by simpa only [RsT] using hv⟩
 have e : (#[Value.func (.yield l) #[] #[]]++vs.toArray) = (.func (.yield l) #[] #[] :: vs).toArray:=by simp
 rw [e]
 refine (callsJ (k' := (parts.map frame_Part.dv).length) JO Tryz.func100 rfl Tryz.ntmps100 rfl (by simp) ?_ hJ hv').mono ?_
 ·refine j_region (.cons ((o_load_es rfl rfl).toJ rfl)<|.cons ((o_move rfl).toJ rfl)<|.cons (o_callJ (args:=[.sl 1 (List.map (DV.int .u8) p),yv l]) rfl rfl rfl rfl (DLeL.refl _) rfl JO (fun F w vs hJ hv=>?_) [] (SubE.spec .nil))<|.nil _ _) (by kernel_rfl) ⟨.inl rfl,rfl⟩
  exact callsJ JO Tryz.func101 rfl Tryz.ntmps101 rfl (by simp) (scan_J JO Y hM rfl) hJ hv
 ·rintro e w' ⟨F',rfl,h1,h2⟩
  exact ⟨_,F',rfl,h1,h2⟩
theorem Imp.frzClo {σ : AS} {id T t : Nat} {f : FuncId} {ds : List DV} (hh : hget σ.heap id = some (.blk T ds)) (hi : idsL ds = []) (hx : look σ.env t = some (.clo f [.ref id 0])) : Imp σ ⟨[(t,.clo f [.eptr ds])],[],σ.used⟩ := by
 intro C F γ a w hs
 obtain ⟨g,k1,b,cs,rfl,k3,k4⟩ := hs.ws.ent id _ hh
 have ho:=hs.ws.own id _ _ b hh k1 rfl
 have W:=(hs.ws.congr (h' := []) (fun i e h=>by simp [hget,look] at h) (fun _ h=>h)).data k3 ho.1 ho.2 (fun i e g h=>by simp [hget,look] at h)
 refine ⟨F.up b cs,γ,fun t' d hl=>?_,W,hs.size,hs.defers⟩
 simp only at hl
 rw [look_cons] at hl
 split at hl
 ·rename_i e1; subst e1; injection hl with hl; subst hl
  obtain ⟨q1,q2⟩ := hs.env t _ hx
  refine ⟨q1,?_⟩
  simp only [Rs,RsT] at q2 ⊢
  obtain ⟨cs',e1,v,rest,e2,⟨b',e3,e4⟩,e5⟩ := q2
  rw [k1] at e3
  injection e3 with e3; injection e3 with e3; injection e3 with e3; injection e3 with e3 _ _; subst e3
  refine ⟨cs',e1,v,rest,e2,⟨b,0,cs,cs.toList,[],by simpa using e4,by simp [FMap.up],by simp,?_⟩,e5⟩
  have : ∀ (ds : List DV) (vs : List Value),idsL ds = []→RsL F γ ds vs→RsL (F.up b cs) Gam.no ds vs:=fun ds vs h0 h1=>RsL_ids ds vs (by rw [h0]; intro i hi; cases hi) (RsL.mono (FMap.up_le cs ho.1) (GLe.refl _) ds vs h1)
  exact this ds _ hi k4
 ·cases hl
theorem scan_c {p : List Int} (h : apOk 1 (List.length ([] : List Int) + List.length p)) : PCall Tryz.prog 68 [.sl 1 (List.map (DV.int .u8) p)] (.clo 100 [.eptr [.sl 1 (List.map (DV.int .u8) (([] : List Int)++p))]]):=by
 refine PCall.body Tryz.func68 Tryz.ntmps68 rfl rfl rfl rfl ?_
 refine a_seq ?_
 refine a_region (.cons (o_assign rfl)<|.nil _) (by kernel_rfl) (by kernel_rfl) ?_
 refine a_seq ?_
 refine a_region (.cons (t_build (DV.int .u8) ([] : List Int) rfl rfl rfl rfl rfl rfl rfl)<|.cons (o_move rfl)<|.cons (o_frz (t_append p h rfl rfl rfl Src.sl))<|.cons (o_alloc rfl)<|.cons (o_store_s rfl rfl rfl rfl rfl)<|.nil _) (by kernel_rfl) (by kernel_rfl) ?_
 refine a_seq ?_
 refine a_region (.cons (o_makeFunc rfl)<|.cons (o_assign rfl)<|.nil _) (by kernel_rfl) (by kernel_rfl) ?_
 refine a_imp (Imp.frzClo (id:=3) (t:=2) rfl rfl rfl) ?_
 exact a_ret (a_post (.r1 (.tmp rfl)) (DLe.refl _) PostOk.nil.spec)
def evOf (e : AEv) : Ev := ⟨e.gTick,e.gComponent,e.gKind,e.gPeer,e.gN,e.gCopy,e.gHandler,e.gD,e.gArgs⟩
def reOf (x : RRec) : Re := ⟨x.gComponent,x.gSeq,fun i=>if i < 16 then x.gClock.gat i else 0,x.gWhat,evOf x.gEvent,x.gCount⟩
def okI (k : IntKind) (n : Int) : Bool:=decide (InR k n)
theorem okI_iff {k : IntKind} {n : Int} : okI k n = true↔InR k n:=by simp [okI]
def evFits (e : AEv) : Bool:=okI .i64 e.gTick && okI .i64 e.gComponent && okI .u8 e.gKind && okI .i64 e.gPeer && okI .i64 e.gN && okI .i64 e.gCopy && okI .i64 e.gHandler && okI .i64 e.gD && e.gArgs.all (okI .i64) && decide (e.gArgs.length≤1099511627776)
def ckFits (c : VClk) : Bool:=(List.range 16).all fun i=>okI .u64 (c.gat i)
def reFits (x : RRec) : Bool:=okI .i64 x.gComponent && okI .u64 x.gSeq && ckFits x.gClock && okI .u8 x.gWhat && evFits x.gEvent && okI .u64 x.gCount
theorem evFits_T {e : AEv} (h : evFits e = true) : EvT (evOf e)∧(evOf e).args.length≤1099511627776:=by
 unfold evFits at h
 simp only [Bool.and_eq_true,List.all_eq_true,okI_iff,InR,decide_eq_true_eq] at h
 obtain ⟨⟨⟨⟨⟨⟨⟨⟨⟨h1,h2⟩,h3⟩,h4⟩,h5⟩,h6⟩,h7⟩,h8⟩,h9⟩,h10⟩ := h
 refine ⟨?_,h10⟩
 constructor <;> first | assumption | (simp only [evOf,I64,U64,Byt]; assumption) | (simp only [evOf,I64,U64,Byt]; omega) | (intro v hv; have:=h9 v hv; simp only [I64]; omega)
theorem reFits_T {x : RRec} (h : reFits x = true) : ReT (reOf x)∧(reOf x).ev.args.length≤1099511627776:=by
 unfold reFits ckFits at h
 simp only [Bool.and_eq_true,List.all_eq_true,okI_iff,InR,List.mem_range] at h
 obtain ⟨⟨⟨⟨⟨h1,h2⟩,h3⟩,h4⟩,h5⟩,h6⟩ := h
 refine ⟨⟨?_,?_,?_,?_,(evFits_T h5).1,?_⟩,(evFits_T h5).2⟩
 ·simp only [reOf,I64]; omega
 ·simp only [reOf,U64]; omega
 ·intro i
  simp only [reOf,U64]
  split
  ·have:=h3 i (by assumption); omega
  ·omega
 ·simp only [reOf]; omega
 ·simp only [reOf,U64]; omega
theorem reOf_D (x : RRec) : recD (reOf x) = x.cs:=rfl
def record_Size (x : RRec) : Option Int:=chk (reFits x = true) (some ((recBytes (reOf x)).length : Int))
theorem record_Size_c {x : RRec} {r : Int} (hM : record_Size x = some r) : PCall Tryz.prog 90 [.agg x.cs] (.int .i64 r):=by
 obtain ⟨h,hM⟩ := of_chk hM
 obtain rfl:=Option.some.inj hM
 have:=reFits_T h
 have k:=size_c (reOf x) this.2 this.1
 rw [reOf_D] at k; exact k
def M64 : Int:=18446744073709551615
def fin1 (r : Rd) (x : Re) : Option Re:=if r.fin≠0 then none else if checkN x≠0 then none else some x
def readRec (xs : List Int) : Option Re :=
 let p1:=(⟨xs,0⟩ : Rd).byte
 let p2:=p1.2.uint 8
 let p3:=p2.2.uint M64
 if p3.2.err≠0 then none
 else if p1.1 = 1 then
  match clkR (xs.drop (xs.length - p3.2.xs.length)) with
  | none=>none
  | some (c,n)=>fin1 ((⟨(xs.drop (xs.length - p3.2.xs.length)).drop n,0⟩ : Rd).event p2.1).2 ⟨p2.1,p3.1,c,1,((⟨(xs.drop (xs.length - p3.2.xs.length)).drop n,0⟩ : Rd).event p2.1).1,0⟩
 else if p1.1 = 2 then fin1 (p3.2.uint M64).2 ⟨p2.1,p3.1,clk0,2,ev0,(p3.2.uint M64).1⟩
 else fin1 p3.2 ⟨p2.1,p3.1,clk0,p1.1,ev0,0⟩
def recRD (o : Option Re) : DV:=match o with
 | none=>.tup [.agg (recD re0),.int .i64 6]
 | some r=>.tup [.agg (recD r),.int .i64 0]
theorem recRD_ids (o : Option Re) : (recRD o).ids = []:=by cases o <;> rfl
theorem sfx_uint (r : Rd) (m : Int) : ∃ n,(r.uint m).2.xs = r.xs.drop n:=by
 obtain ⟨xs,e⟩ := r
 unfold Rd.uint
 split
 ·exact ⟨0,rfl⟩
 ·split
  ·exact ⟨0,rfl⟩
  ·split
   ·exact ⟨0,rfl⟩
   ·exact ⟨_,rfl⟩
theorem sfx_byte (r : Rd) : ∃ n,r.byte.2.xs = r.xs.drop n:=by
 obtain ⟨xs,e⟩ := r
 unfold Rd.byte
 split
 ·exact ⟨0,rfl⟩
 ·cases xs with
  | nil=>exact ⟨0,rfl⟩
  | cons b rest=>exact ⟨1,rfl⟩
theorem byte_range {r : Rd} (h : RdOk r) : 0≤r.byte.1∧r.byte.1≤255:=by
 obtain ⟨xs,e⟩ := r
 unfold Rd.byte
 split
 ·exact ⟨by simp,by simp⟩
 ·cases xs with
  | nil=>exact ⟨by simp,by simp⟩
  | cons b rest=>exact h.byt b (by simp)
theorem ents_le : ∀ (n : Nat) (xs l : List Int) (t : Nat),ents n xs = some (l,t)→t≤xs.length∧l.length = n
 | 0,xs,l,t,h=>by
  simp only [ents,Option.some.injEq,Prod.mk.injEq] at h
  rw [← h.1,← h.2]; simp
 | n + 1,xs,l,t,h=>by
  unfold ents at h
  cases hd : decU 0 0 xs with
  | none=>rw [hd] at h; cases h
  | some p=>
   obtain ⟨v,m⟩ := p
   have h1:=decU_le xs 0 0 v m hd
   rw [hd] at h
   simp only at h
   cases he : ents n (xs.drop m) with
   | none=>rw [he] at h; cases h
   | some q=>
    obtain ⟨l',t'⟩ := q
    rw [he] at h
    simp only [Option.some.injEq,Prod.mk.injEq] at h
    have:=ents_le n _ l' t' he
    rw [← h.1,← h.2]
    simp at this ⊢; omega
theorem clkR_le (ys : List Int) (c : Nat→Int) (n : Nat) (h : clkR ys = some (c,n)) : n≤ys.length:=by
 unfold clkR at h
 cases ys with
 | nil=>cases h
 | cons b rest=>
  simp only at h
  split at h
  ·cases h
  ·cases he : ents b.toNat rest with
   | none=>rw [he] at h; cases h
   | some q=>
    obtain ⟨l,t⟩ := q
    rw [he] at h
    simp only at h
    have:=ents_le _ _ l t he
    split at h
    ·simp only [Option.some.injEq,Prod.mk.injEq] at h; simp; omega
    ·cases h
theorem ints_len : ∀ (n : Nat) (r : Rd),(r.ints n).1.length = n
 | 0,r=>rfl
 | n + 1,r=>by simp [Rd.ints,ints_len n]
theorem event_args (r : Rd) (h : RdOk r) (c : Int) : (r.event c).1.args.length≤4:=by
 unfold Rd.event
 simp only [ints_len]
 have:=uint_range ((((((((h.uint M31).uint 255).uint M31).uint M31).uint M31).uint M31).int)) (m:=4) (by omega)
 omega
theorem read_c (xs : List Int) (hx : ∀ b∈xs,Byt b) (hl : xs.length≤140737488355328) : PCall Tryz.prog 69 [u8s xs] (recRD (readRec xs)):=by
 have hrr : readRec xs = (
  let p1:=(⟨xs,0⟩ : Rd).byte
  let p2:=p1.2.uint 8
  let p3:=p2.2.uint M64
  if p3.2.err≠0 then none
  else if p1.1 = 1 then
   match clkR (xs.drop (xs.length - p3.2.xs.length)) with
   | none=>none
   | some (c,n)=>fin1 ((⟨(xs.drop (xs.length - p3.2.xs.length)).drop n,0⟩ : Rd).event p2.1).2 ⟨p2.1,p3.1,c,1,((⟨(xs.drop (xs.length - p3.2.xs.length)).drop n,0⟩ : Rd).event p2.1).1,0⟩
  else if p1.1 = 2 then fin1 (p3.2.uint M64).2 ⟨p2.1,p3.1,clk0,2,ev0,(p3.2.uint M64).1⟩
  else fin1 p3.2 ⟨p2.1,p3.1,clk0,p1.1,ev0,0⟩):=rfl
 simp only at hrr
 have o0 : RdOk ⟨xs,0⟩ := ⟨hx,by simp only; omega⟩
 have k0:=newReader_c xs hl
 have k1:=rByte_c ⟨xs,0⟩ o0
 have b1:=byte_range o0
 have s1:=sfx_byte ⟨xs,0⟩
 have o1:=o0.byte
 generalize (⟨xs,0⟩ : Rd).byte = q1 at *
 obtain ⟨v1,r1⟩ := q1
 simp only at hrr k1 b1 s1 o1
 have k2:=rUint_c r1 8 o1 ⟨by decide,by decide⟩
 have b2:=uint_range o1 (m:=8) (by decide)
 have s2:=sfx_uint r1 8
 have o2:=o1.uint 8
 generalize r1.uint 8 = q2 at *
 obtain ⟨v2,r2⟩ := q2
 simp only at hrr k2 b2 s2 o2
 have k3:=rUint_c r2 M64 o2 ⟨by decide,by decide⟩
 have b3:=uint_range o2 (m:=M64) (by decide)
 have s3:=sfx_uint r2 M64
 have o3:=o2.uint M64
 generalize r2.uint M64 = q3 at *
 obtain ⟨v3,r3⟩ := q3
 simp only at hrr k3 b3 s3 o3
 have k4:=rErr_c r3
 have k5:=rLeft_c r3
 have hle : r3.xs.length≤xs.length:=by
  obtain ⟨n1,e1⟩ := s1
  obtain ⟨n2,e2⟩ := s2
  obtain ⟨n3,e3⟩ := s3
  rw [e3,e2,e1]; simp only [List.length_drop]; omega
 clear s1 s2 s3
 have hm : M64 = 18446744073709551615:=rfl
 refine PCall.body Tryz.func69 Tryz.ntmps69 rfl rfl rfl (recRD_ids _) ?_
 rw [hrr]
 clear hrr
 refine a_seq ?_
 (apply a_region; (case ht=>exact .cons (o_alloc rfl)<|.cons (o_assign rfl)<|.nil _); (case hd=>kernel_rfl); (case hnew=>kernel_rfl))
 refine a_seq ?_
 (apply a_region; (case ht=>exact .cons (o_move rfl)<|.cons (o_callN (fun _=>11) 1 k0 rfl (DLeL.refl _) PreOk.nil rfl RoOk.nil)<|.cons (o_assign rfl)<|.nil _); (case hd=>kernel_rfl); (case hnew=>kernel_rfl))
 refine a_seq ?_
 (apply a_region; (case ht=>((apply tc; (case h=>exact o_move rfl)); (apply tc; (case h=>exact o_callN (fun _=>11) 1 k1 rfl (DLeL.refl _) (PreOk.cons rfl PreOk.nil) rfl RoOk.nil)); (apply tc; (case h=>exact o_move rfl)); (apply tc; (case h=>exact o_callN (fun _=>11) 1 k2 rfl (DLeL.refl _) (PreOk.cons rfl PreOk.nil) rfl RoOk.nil)); (apply tc; (case h=>(exact o_conv rfl (by simp only [InR]; omega)))); (apply tc; (case h=>exact o_move rfl)); (apply tc; (case h=>exact o_callN (fun _=>11) 1 k3 rfl (DLeL.refl _) (PreOk.cons rfl PreOk.nil) rfl RoOk.nil)); (apply tc; (case h=>exact o_build rfl rfl rfl)); (apply tc; (case h=>exact o_alloc rfl)); (apply tc; (case h=>exact o_store rfl rfl rfl rfl rfl rfl rfl)); exact tn)); (case hd=>kernel_rfl); (case hnew=>kernel_rfl))
 refine a_imp (σ' := ⟨[(0,u8s xs),(2,.ref 2 0),(4,.ref 11 0),(5,.ref 5 0)],[(2,some (.blk 64 (recD re0))),(11,some (rdE r3)),(5,some (.blk 64 (recD ⟨v2,v3,clk0,v1,ev0,0⟩)))],[2,5,11]⟩) (Imp.of (fun i=>i) (.cons rfl (DLe.refl _) (.cons rfl (DLe.refl _) (.cons rfl (DLe.refl _) (.cons rfl (DLe.refl _) .nil)))) (.cons rfl (.blk ?_) (.cons rfl (.refl _) (.cons rfl (.blk ?_) .nil))) rfl rfl rfl) ?_
 ·repeat (first | exact DLeL.nil | refine DLeL.cons (DLe.refl _) ?_ | refine DLeL.cons (DLe.nils 1) ?_)
 ·repeat (first | exact DLeL.nil | refine DLeL.cons (DLe.refl _) ?_ | refine DLeL.cons (DLe.nils 1) ?_)
 refine a_seq ?_
 refine a_seq ?_
 (apply a_region; (case ht=>exact .cons (o_move rfl)<|.cons (o_callN (fun _=>11) 0 k4 rfl (DLeL.refl _) (PreOk.cons rfl PreOk.nil) rfl (RoOk.cons rfl RoOk.nil))<|.cons (o_int rfl rfl rfl)<|.nil _); (case hd=>kernel_rfl); (case hnew=>kernel_rfl))
 refine a_cond _ rfl (fun c1=>?_) (fun c1=>?_)
 ·have he : r3.err≠0:=by simpa using c1
  rw [if_pos he]
  refine a_seq ?_
  (apply a_region; (case ht=>exact .cons (o_build rfl rfl rfl)<|.cons (o_store rfl rfl rfl rfl rfl rfl rfl)<|.cons (o_assign rfl)<|.nil _); (case hd=>kernel_rfl); (case hnew=>kernel_rfl))
  refine a_ret ?_
  refine a_post (ResV.r2 (ResOk.cell rfl rfl (.row _ CRow.h (Nat.le_of_ble_eq_true rfl) rfl)) (ResOk.tmp rfl)) (DLe.tup (.cons (DLe.agg ?_) (.cons (DLe.refl _) .nil))) PostOk.nil.spec
  repeat (first | exact DLeL.nil | refine DLeL.cons (DLe.refl _) ?_ | refine DLeL.cons (DLe.nils 1) ?_)
 ·have he : r3.err = 0:=by simpa using c1
  rw [if_neg (by simp [he])]
  refine a_skip ?_
  refine a_seq ?_
  refine a_seq ?_
  (apply a_region; (case ht=>exact .cons (o_fieldAddr rfl)<|.cons (o_load_s rfl rfl rfl)<|.nil _); (case hd=>kernel_rfl); (case hnew=>kernel_rfl))
  refine a_block ?_
  refine a_seq ?_
  (apply a_region; (case ht=>exact .cons (o_int rfl rfl rfl)<|.cons (o_assign rfl)<|.nil _); (case hd=>kernel_rfl); (case hnew=>kernel_rfl))
  refine a_cond _ rfl (fun c2=>?_) (fun c2=>?_)
  ·have h1 : v1 = 1:=by simpa using c2
   subst h1
   rw [if_pos rfl]
   have hb:=byt_drop hx (xs.length - r3.xs.length)
   have kc:=clkRead_c (xs.drop (xs.length - r3.xs.length)) hb (by simp; omega)
   have hml : (List.map (DV.int IntKind.u8) xs).length = xs.length:=by simp
   have hsl:=u8s_dropB xs (xs.length - r3.xs.length)
   refine a_seq ?_
   (apply a_region; (case ht=>((apply tc; (case h=>exact o_move rfl)); (apply tc; (case h=>exact o_move rfl)); (apply tc; (case h=>exact o_len rfl)); (apply tc; (case h=>exact o_move rfl)); (apply tc; (case h=>exact o_callN (fun _=>11) 0 k5 rfl (DLeL.refl _) (PreOk.cons rfl PreOk.nil) rfl (RoOk.cons rfl RoOk.nil))); (apply tc; (case h=>(exact o_sub rfl rfl (by simp only [InR]; omega)))); (apply tc; (case h=>(exact o_slice (xs.length - r3.xs.length) _ rfl (Bd.at rfl (by simp; omega)) Bd.no (by simp) (Nat.le_refl _)))); (apply tc; (case h=>exact o_assign rfl)); exact tn)); (case hd=>kernel_rfl); (case hnew=>kernel_rfl))
   refine a_imp (σ' := ⟨[(0,u8s xs),(2,.ref 2 0),(4,.ref 11 0),(5,.ref 5 0),(6,u8s (xs.drop (xs.length - r3.xs.length)))],[(2,some (.blk 64 (recD re0))),(11,some (rdE r3)),(5,some (.blk 64 (recD ⟨v2,v3,clk0,1,ev0,0⟩)))],[2,5,11]⟩) (Imp.of (fun i=>i) (.cons rfl (DLe.refl _) (.cons rfl (DLe.refl _) (.cons rfl (DLe.refl _) (.cons rfl (DLe.refl _) (.cons rfl (DLe.of_eq ?_) .nil))))) (.cons rfl (.refl _) (.cons rfl (.refl _) (.cons rfl (.refl _) .nil))) rfl rfl rfl) ?_
   ·exact hsl
   have hyl : (xs.drop (xs.length - r3.xs.length)).length≤140737488355328:=by simp; omega
   generalize xs.drop (xs.length - r3.xs.length) = ys at *
   refine a_seq ?_
   cases hc : clkR ys with
   | none=>
    simp only [clkRD,hc] at kc
    (apply a_region; (case ht=>exact .cons (o_move rfl)<|.cons (o_call kc rfl (DLeL.refl _) rfl)<|.cons (o_move rfl)<|.cons (o_extract rfl rfl)<|.cons (o_extract rfl rfl)<|.cons (o_extract rfl rfl)<|.cons (o_alloc rfl)<|.cons (o_store rfl rfl rfl rfl rfl rfl rfl)<|.cons (o_assign rfl)<|.cons (o_assign rfl)<|.nil _); (case hd=>kernel_rfl); (case hnew=>kernel_rfl))
    refine a_seq ?_
    refine a_seq ?_
    (apply a_region; (case ht=>exact .cons (o_move rfl)<|.cons (o_int rfl rfl rfl)<|.nil _); (case hd=>kernel_rfl); (case hnew=>kernel_rfl))
    refine a_cond _ rfl (fun c3=>?_) (fun c3=>?_)
    ·refine a_seq ?_
     (apply a_region; (case ht=>exact .cons (o_build rfl rfl rfl)<|.cons (o_store rfl rfl rfl rfl rfl rfl rfl)<|.cons (o_assign rfl)<|.nil _); (case hd=>kernel_rfl); (case hnew=>kernel_rfl))
     refine a_ret ?_
     refine a_post (ResV.r2 (ResOk.cell rfl rfl (.row _ CRow.h (Nat.le_of_ble_eq_true rfl) rfl)) (ResOk.tmp rfl)) (DLe.tup (.cons (DLe.agg ?_) (.cons (DLe.refl _) .nil))) PostOk.nil.spec
     repeat (first | exact DLeL.nil | refine DLeL.cons (DLe.refl _) ?_ | refine DLeL.cons (DLe.nils 1) ?_)
    ·simp at c3
   | some p=>
    obtain ⟨c,n⟩ := p
    simp only [clkRD,hc] at kc
    have hnl:=clkR_le ys c n hc
    have kn:=newReader_c (ys.drop n) (by simp; omega)
    have hr5 : RdOk ⟨ys.drop n,0⟩ := ⟨byt_drop hb n,by simp; omega⟩
    have ke:=readEvent_c v2 ⟨ys.drop n,0⟩ hr5
    have al:=event_args ⟨ys.drop n,0⟩ hr5 v2
    dsimp only
    generalize Rd.event v2 ⟨ys.drop n,0⟩ = qe at *
    obtain ⟨ev,r5⟩ := qe
    simp only at ke al
    dsimp only
    have kf:=rEnd_c r5
    have kk:=check_c ⟨v2,v3,c,1,ev,0⟩ (by simp only; omega) ⟨b3.1,by simp only; omega⟩
    have hsl2:=u8s_dropB ys n
    (apply a_region; (case ht=>exact .cons (o_move rfl)<|.cons (o_call kc rfl (DLeL.refl _) rfl)<|.cons (o_move rfl)<|.cons (o_extract rfl rfl)<|.cons (o_extract rfl rfl)<|.cons (o_extract rfl rfl)<|.cons (o_alloc rfl)<|.cons (o_store rfl rfl rfl rfl rfl rfl rfl)<|.cons (o_assign rfl)<|.cons (o_assign rfl)<|.nil _); (case hd=>kernel_rfl); (case hnew=>kernel_rfl))
    refine a_seq ?_
    refine a_seq ?_
    (apply a_region; (case ht=>exact .cons (o_move rfl)<|.cons (o_int rfl rfl rfl)<|.nil _); (case hd=>kernel_rfl); (case hnew=>kernel_rfl))
    refine a_cond _ rfl (fun c3=>?_) (fun c3=>?_)
    ·simp at c3
    ·refine a_skip ?_
     refine a_seq ?_
     (apply a_region; (case ht=>exact .cons (o_load_r rfl rfl rfl rfl)<|.cons (o_fieldAddr rfl)<|.cons (o_store rfl rfl rfl rfl rfl rfl rfl)<|.nil _); (case hd=>kernel_rfl); (case hnew=>kernel_rfl))
     refine a_seq ?_
     (apply a_region; (case ht=>((apply tc; (case h=>exact o_move rfl)); (apply tc; (case h=>exact o_move rfl)); (apply tc; (case h=>(exact o_slice n _ rfl (Bd.at rfl rfl) Bd.no (by simp; omega) (Nat.le_refl _)))); (apply tc; (case h=>(exact o_callN (fun _=>49) 1 kn rfl (DLeL.of_eq (by rw [hsl2]; rfl)) PreOk.nil rfl RoOk.nil))); (apply tc; (case h=>exact o_assign rfl)); exact tn)); (case hd=>kernel_rfl); (case hnew=>kernel_rfl))
     (apply a_region; (case ht=>exact .cons (o_move rfl)<|.cons (o_fieldAddr rfl)<|.cons (o_load_s rfl rfl rfl)<|.cons (o_callN (fun _=>49) 1 ke rfl (DLeL.refl _) (PreOk.cons rfl PreOk.nil) rfl RoOk.nil)<|.cons (o_fieldAddr rfl)<|.cons (o_store rfl rfl rfl rfl rfl rfl rfl)<|.nil _); (case hd=>kernel_rfl); (case hnew=>kernel_rfl))
     refine a_imp (σ' := ⟨[(0,u8s xs),(2,.ref 2 0),(4,.ref 49 0),(5,.ref 5 0)],[(2,some (.blk 64 (recD re0))),(49,some (rdE r5)),(5,some (.blk 64 (recD ⟨v2,v3,c,1,ev,0⟩)))],[2,5,49]⟩) (Imp.of (fun i=>i) (.cons rfl (DLe.refl _) (.cons rfl (DLe.refl _) (.cons rfl (DLe.refl _) (.cons rfl (DLe.refl _) .nil)))) (.cons rfl (.refl _) (.cons rfl (.refl _) (.cons rfl (.refl _) .nil))) rfl rfl rfl) ?_
     refine a_seq ?_
     refine a_seq ?_
     (apply a_region; (case ht=>((apply tc; (case h=>exact o_move rfl)); (apply tc; (case h=>exact o_callN (fun _=>49) 0 kf rfl (DLeL.refl _) (PreOk.cons rfl PreOk.nil) rfl (RoOk.cons rfl RoOk.nil))); (apply tc; (case h=>exact o_int rfl rfl rfl)); (apply tc; (case h=>exact o_move rfl)); (apply tc; (case h=>(apply o_guardF rfl rfl; (case hS=>intro hb; exact (Strips.keep Strips.nil)); (case h=>intro hb; exact o_load_r rfl rfl rfl rfl)))); (apply tc; (case h=>(apply o_guardF rfl rfl; (case hS=>intro hb; exact (Strips.strip rfl (nt hb) Strips.nil)); (case h=>intro hb; exact o_call kk rfl (DLeL.refl _) rfl)))); (apply tc; (case h=>(apply o_guardF rfl rfl; (case hS=>intro hb; exact (Strips.strip rfl (nt hb) Strips.nil)); (case h=>intro hb; exact o_int rfl rfl rfl)))); (apply tc; (case h=>exact o_or rfl rfl)); exact tn)); (case hd=>kernel_rfl); (case hnew=>kernel_rfl))
     refine a_cond _ rfl (fun c7=>?_) (fun c7=>?_)
     ·have hf : fin1 r5 ⟨v2,v3,c,1,ev,0⟩ = none:=by
       unfold fin1
       simp only [Bool.or_eq_true,bne_iff_ne] at c7
       rcases c7 with h | h
       ·rw [if_pos h]
       ·rw [if_pos h]; split <;> rfl
      rw [hf]
      refine a_seq ?_
      (apply a_region; (case ht=>exact .cons (o_build rfl rfl rfl)<|.cons (o_store rfl rfl rfl rfl rfl rfl rfl)<|.cons (o_assign rfl)<|.nil _); (case hd=>kernel_rfl); (case hnew=>kernel_rfl))
      refine a_ret ?_
      refine a_post (ResV.r2 (ResOk.cell rfl rfl (.row _ CRow.h (Nat.le_of_ble_eq_true rfl) rfl)) (ResOk.tmp rfl)) (DLe.tup (.cons (DLe.agg ?_) (.cons (DLe.refl _) .nil))) PostOk.nil.spec
      repeat (first | exact DLeL.nil | refine DLeL.cons (DLe.refl _) ?_ | refine DLeL.cons (DLe.nils 1) ?_)
     ·have hf : fin1 r5 ⟨v2,v3,c,1,ev,0⟩ = some ⟨v2,v3,c,1,ev,0⟩ := by
       unfold fin1
       simp only [Bool.or_eq_false_iff,bne_eq_false_iff_eq] at c7
       rw [if_neg (by simp [c7.1]),if_neg (by simp [c7.2])]
      rw [hf]
      refine a_skip ?_
      refine a_seq ?_
      (apply a_region; (case ht=>exact .cons (o_load_r rfl rfl rfl rfl)<|.cons (o_store rfl rfl rfl rfl rfl rfl rfl)<|.cons (o_assign rfl)<|.nil _); (case hd=>kernel_rfl); (case hnew=>kernel_rfl))
      refine a_ret ?_
      refine a_post (ResV.r2 (ResOk.cell rfl rfl (.row _ CRow.h (Nat.le_of_ble_eq_true rfl) rfl)) (ResOk.tmp rfl)) (DLe.refl _) PostOk.nil.spec
  ·have h1 : v1≠1:=by simpa using c2
   rw [if_neg h1]
   refine a_seq ?_
   (apply a_region; (case ht=>exact .cons (o_int rfl rfl rfl)<|.cons (o_assign rfl)<|.nil _); (case hd=>kernel_rfl); (case hnew=>kernel_rfl))
   refine a_cond _ rfl (fun c4=>?_) (fun c4=>?_)
   ·have h2 : v1 = 2:=by simpa using c4
    subst h2
    rw [if_pos rfl]
    have k6:=rUint_c r3 M64 o3 ⟨by decide,by decide⟩
    have b6:=uint_range o3 (m:=M64) (by decide)
    have o6:=o3.uint M64
    generalize r3.uint M64 = q6 at *
    obtain ⟨v6,r6⟩ := q6
    simp only at k6 b6 o6 ⊢
    have kf:=rEnd_c r6
    have kk:=check_c ⟨v2,v3,clk0,2,ev0,v6⟩ (Nat.zero_le _) ⟨b3.1,by simp only; omega⟩
    (apply a_region; (case ht=>exact .cons (o_move rfl)<|.cons (o_callN (fun _=>11) 1 k6 rfl (DLeL.refl _) (PreOk.cons rfl PreOk.nil) rfl RoOk.nil)<|.cons (o_fieldAddr rfl)<|.cons (o_store_s rfl rfl rfl rfl rfl)<|.nil _); (case hd=>kernel_rfl); (case hnew=>kernel_rfl))
    refine a_imp (σ' := ⟨[(0,u8s xs),(2,.ref 2 0),(4,.ref 11 0),(5,.ref 5 0)],[(2,some (.blk 64 (recD re0))),(11,some (rdE r6)),(5,some (.blk 64 (recD ⟨v2,v3,clk0,2,ev0,v6⟩)))],[2,5,11]⟩) (Imp.of (fun i=>i) (.cons rfl (DLe.refl _) (.cons rfl (DLe.refl _) (.cons rfl (DLe.refl _) (.cons rfl (DLe.refl _) .nil)))) (.cons rfl (.refl _) (.cons rfl (.refl _) (.cons rfl (.refl _) .nil))) rfl rfl rfl) ?_
    refine a_seq ?_
    refine a_seq ?_
    (apply a_region; (case ht=>((apply tc; (case h=>exact o_move rfl)); (apply tc; (case h=>exact o_callN (fun _=>11) 0 kf rfl (DLeL.refl _) (PreOk.cons rfl PreOk.nil) rfl (RoOk.cons rfl RoOk.nil))); (apply tc; (case h=>exact o_int rfl rfl rfl)); (apply tc; (case h=>exact o_move rfl)); (apply tc; (case h=>(apply o_guardF rfl rfl; (case hS=>intro hb; exact (Strips.keep Strips.nil)); (case h=>intro hb; exact o_load_r rfl rfl rfl rfl)))); (apply tc; (case h=>(apply o_guardF rfl rfl; (case hS=>intro hb; exact (Strips.strip rfl (nt hb) Strips.nil)); (case h=>intro hb; exact o_call kk rfl (DLeL.refl _) rfl)))); (apply tc; (case h=>(apply o_guardF rfl rfl; (case hS=>intro hb; exact (Strips.strip rfl (nt hb) Strips.nil)); (case h=>intro hb; exact o_int rfl rfl rfl)))); (apply tc; (case h=>exact o_or rfl rfl)); exact tn)); (case hd=>kernel_rfl); (case hnew=>kernel_rfl))
    refine a_cond _ rfl (fun c7=>?_) (fun c7=>?_)
    ·have hf : fin1 r6 ⟨v2,v3,clk0,2,ev0,v6⟩ = none:=by
      unfold fin1
      simp only [Bool.or_eq_true,bne_iff_ne] at c7
      rcases c7 with h | h
      ·rw [if_pos h]
      ·rw [if_pos h]; split <;> rfl
     rw [hf]
     refine a_seq ?_
     (apply a_region; (case ht=>exact .cons (o_build rfl rfl rfl)<|.cons (o_store rfl rfl rfl rfl rfl rfl rfl)<|.cons (o_assign rfl)<|.nil _); (case hd=>kernel_rfl); (case hnew=>kernel_rfl))
     refine a_ret ?_
     refine a_post (ResV.r2 (ResOk.cell rfl rfl (.row _ CRow.h (Nat.le_of_ble_eq_true rfl) rfl)) (ResOk.tmp rfl)) (DLe.tup (.cons (DLe.agg ?_) (.cons (DLe.refl _) .nil))) PostOk.nil.spec
     repeat (first | exact DLeL.nil | refine DLeL.cons (DLe.refl _) ?_ | refine DLeL.cons (DLe.nils 1) ?_)
    ·have hf : fin1 r6 ⟨v2,v3,clk0,2,ev0,v6⟩ = some ⟨v2,v3,clk0,2,ev0,v6⟩ := by
      unfold fin1
      simp only [Bool.or_eq_false_iff,bne_eq_false_iff_eq] at c7
      rw [if_neg (by simp [c7.1]),if_neg (by simp [c7.2])]
     rw [hf]
     refine a_skip ?_
     refine a_seq ?_
     (apply a_region; (case ht=>exact .cons (o_load_r rfl rfl rfl rfl)<|.cons (o_store rfl rfl rfl rfl rfl rfl rfl)<|.cons (o_assign rfl)<|.nil _); (case hd=>kernel_rfl); (case hnew=>kernel_rfl))
     refine a_ret ?_
     refine a_post (ResV.r2 (ResOk.cell rfl rfl (.row _ CRow.h (Nat.le_of_ble_eq_true rfl) rfl)) (ResOk.tmp rfl)) (DLe.refl _) PostOk.nil.spec
   ·have h2 : v1≠2:=by simpa using c4
    rw [if_neg h2]
    have kf:=rEnd_c r3
    have kk:=check_c ⟨v2,v3,clk0,v1,ev0,0⟩ (Nat.zero_le _) ⟨b3.1,by simp only; omega⟩
    refine a_skip ?_
    refine a_seq ?_
    refine a_seq ?_
    (apply a_region; (case ht=>((apply tc; (case h=>exact o_move rfl)); (apply tc; (case h=>exact o_callN (fun _=>11) 0 kf rfl (DLeL.refl _) (PreOk.cons rfl PreOk.nil) rfl (RoOk.cons rfl RoOk.nil))); (apply tc; (case h=>exact o_int rfl rfl rfl)); (apply tc; (case h=>exact o_move rfl)); (apply tc; (case h=>(apply o_guardF rfl rfl; (case hS=>intro hb; exact (Strips.keep Strips.nil)); (case h=>intro hb; exact o_load_r rfl rfl rfl rfl)))); (apply tc; (case h=>(apply o_guardF rfl rfl; (case hS=>intro hb; exact (Strips.strip rfl (nt hb) Strips.nil)); (case h=>intro hb; exact o_call kk rfl (DLeL.refl _) rfl)))); (apply tc; (case h=>(apply o_guardF rfl rfl; (case hS=>intro hb; exact (Strips.strip rfl (nt hb) Strips.nil)); (case h=>intro hb; exact o_int rfl rfl rfl)))); (apply tc; (case h=>exact o_or rfl rfl)); exact tn)); (case hd=>kernel_rfl); (case hnew=>kernel_rfl))
    refine a_cond _ rfl (fun c7=>?_) (fun c7=>?_)
    ·have hf : fin1 r3 ⟨v2,v3,clk0,v1,ev0,0⟩ = none:=by
      unfold fin1
      simp only [Bool.or_eq_true,bne_iff_ne] at c7
      rcases c7 with h | h
      ·rw [if_pos h]
      ·rw [if_pos h]; split <;> rfl
     rw [hf]
     refine a_seq ?_
     (apply a_region; (case ht=>exact .cons (o_build rfl rfl rfl)<|.cons (o_store rfl rfl rfl rfl rfl rfl rfl)<|.cons (o_assign rfl)<|.nil _); (case hd=>kernel_rfl); (case hnew=>kernel_rfl))
     refine a_ret ?_
     refine a_post (ResV.r2 (ResOk.cell rfl rfl (.row _ CRow.h (Nat.le_of_ble_eq_true rfl) rfl)) (ResOk.tmp rfl)) (DLe.tup (.cons (DLe.agg ?_) (.cons (DLe.refl _) .nil))) PostOk.nil.spec
     repeat (first | exact DLeL.nil | refine DLeL.cons (DLe.refl _) ?_ | refine DLeL.cons (DLe.nils 1) ?_)
    ·have hf : fin1 r3 ⟨v2,v3,clk0,v1,ev0,0⟩ = some ⟨v2,v3,clk0,v1,ev0,0⟩ := by
      unfold fin1
      simp only [Bool.or_eq_false_iff,bne_eq_false_iff_eq] at c7
      rw [if_neg (by simp [c7.1]),if_neg (by simp [c7.2])]
     rw [hf]
     refine a_skip ?_
     refine a_seq ?_
     (apply a_region; (case ht=>exact .cons (o_load_r rfl rfl rfl rfl)<|.cons (o_store rfl rfl rfl rfl rfl rfl rfl)<|.cons (o_assign rfl)<|.nil _); (case hd=>kernel_rfl); (case hnew=>kernel_rfl))
     refine a_ret ?_
     refine a_post (ResV.r2 (ResOk.cell rfl rfl (.row _ CRow.h (Nat.le_of_ble_eq_true rfl) rfl)) (ResOk.tmp rfl)) (DLe.refl _) PostOk.nil.spec
def record_Check (x : RRec) : Option Int:=chk (reFits x = true) (some (checkN (reOf x)))
theorem record_Check_c {x : RRec} {r : Int} (hM : record_Check x = some r) : PCall Tryz.prog 59 [.agg x.cs] (.int .i64 r):=by
 obtain ⟨h,hM⟩ := of_chk hM
 obtain rfl:=Option.some.inj hM
 have:=reFits_T h
 have k:=check_c (reOf x) this.2 this.1.seq
 rw [reOf_D] at k; exact k
def RRec_Bytes (x : RRec) : Option (List Int):=chk (reFits x = true) (some (recBytes (reOf x)))
theorem RRec_Bytes_c {x : RRec} {r : List Int} (hM : RRec_Bytes x = some r) : PCall Tryz.prog 41 [.agg x.cs] (.sl 1 (List.map (DV.int .u8) r)):=by
 obtain ⟨h,hM⟩ := of_chk hM
 obtain rfl:=Option.some.inj hM
 have:=reFits_T h
 have k:=recBytes_c (reOf x) this.2 this.1
 rw [reOf_D] at k; exact k
def record_Equal (x y : RRec) : Option Bool:=chk (reFits x = true) (some (recEq (reOf x) (reOf y)))
theorem record_Equal_c {x y : RRec} {r : Bool} (hM : record_Equal x y = some r) : PCall Tryz.prog 113 [.agg x.cs,.agg y.cs] (.bool r):=by
 obtain ⟨h,hM⟩ := of_chk hM
 obtain rfl:=Option.some.inj hM
 have:=reFits_T h
 have k:=equal_c (reOf x) (reOf y) this.2
 rw [reOf_D,reOf_D] at k; exact k
def ofRe (y : Re) : RRec := ⟨y.comp,y.seq,⟨y.clk⟩,y.what,⟨y.ev.tick,y.ev.comp,y.ev.kind,y.ev.peer,y.ev.n,y.ev.copy,y.ev.handler,y.ev.d,y.ev.args⟩,y.count⟩
def bytOk (xs : List Int) : Bool:=xs.all (okI .u8) && decide (xs.length≤140737488355328)
def record_Read (xs : List Int) : Option (RRec × Int):=chk (bytOk xs = true) (some (match readRec xs with
 | none=>(ofRe re0,6)
 | some y=>(ofRe y,0)))
theorem record_Read_c {xs : List Int} {r : RRec × Int} (hM : record_Read xs = some r) : PCall Tryz.prog 69 [.sl 1 (List.map (DV.int .u8) xs)] (.tup [.agg r.1.cs,.int .i64 r.2]):=by
 obtain ⟨h,hM⟩ := of_chk hM
 obtain rfl:=Option.some.inj hM
 simp only [bytOk,Bool.and_eq_true,List.all_eq_true,okI_iff,InR,decide_eq_true_eq] at h
 have k:=read_c xs (fun b hb=>h.1 b hb) h.2
 cases hr : readRec xs with
 | none=>rw [hr] at k; exact k
 | some y=>rw [hr] at k; exact k
def readStep (s : List RRec × Int) (x : frame_Part) : Option (List RRec × Int) :=
 if x.gGood = true then
  (record_Read x.gBody).bind fun r=>
  if (r.2 == 0) = true then chk (apOk 248 (List.length s.1 + List.length [r.1])) (some (s.1++[r.1],s.2)) else some (s.1,IntKind.wrap .i64 (s.2 + x.gLen))
 else some (s.1,IntKind.wrap .i64 (s.2 + x.gLen))
def foldO {α β : Type} (f : β→α→Option β) : β→List α→Option β
 | s,[]=>some s
 | s,x :: xs=>(f s x).bind fun s'=>foldO f s' xs
theorem foldO_at {α β : Type} {f : β→α→Option β} : ∀ {xs : List α} {s r : β},foldO f s xs = some r→∃ g : Nat→β,g 0 = s∧(∀ k x,xs[k]? = some x→f (g k) x = some (g (k + 1)))∧g xs.length = r
 | [],s,r,h=>⟨fun _=>s,rfl,fun k x hx=>by simp at hx,Option.some.inj h⟩
 | x :: xs,s,r,h=>by
  obtain ⟨s',h1,h2⟩ := of_bind h
  obtain ⟨g,g0,g1,g2⟩ := foldO_at h2
  refine ⟨fun k=>match k with | 0=>s | k + 1=>g k,rfl,fun k y hy=>?_,g2⟩
  cases k with
  | zero=>simp at hy; subst hy; simp only [g0]; exact h1
  | succ k=>exact g1 k y (by simpa using hy)
def recorder_Read (p : List Int) : Option (List RRec × Int) :=
 chk (apOk 1 (List.length ([] : List Int) + List.length p))<|
 (scanM (([] : List Int)++p) ((([] : List Int)++p).length + 1) 0).bind fun parts=>foldO readStep ([],0) parts
theorem recorder_Read_c {x0 : List Int} {r : List RRec × Int} (hM : recorder_Read x0 = some r) : PCall Tryz.prog 42 [.sl 1 (List.map (DV.int .u8) x0)] (.tup [.sl 29 (List.map RRec.dv r.1),.int .i64 r.2]):=by
 unfold recorder_Read at hM
 obtain ⟨h1,hM⟩ := of_chk hM
 obtain ⟨parts,hP,hM⟩ := of_bind hM
 obtain ⟨g,g0,g1,g2⟩ := foldO_at hM
 refine PCall.ofD Tryz.func42 Tryz.ntmps42 rfl rfl rfl rfl ?_
 refine d_seqL (a_region (.cons (o_alloc rfl)<|.cons (o_alloc rfl)<|.nil _) (by kernel_rfl) (by kernel_rfl) ?_)
 refine d_seqR ?_
 refine d_seqL (a_region (.cons (o_move rfl)<|.cons (o_call (scan_c h1) rfl (DLeL.refl _) rfl)<|.nil _) (by kernel_rfl) (by kernel_rfl) ?_)
 refine d_block ?_
 refine d_range (scan1_iter hP) [(2,.ref 100001 0),(3,.ref 100002 0),(8,.clo 100 [.eptr [.sl 1 (List.map (DV.int .u8) (([] : List Int)++x0))]])]
  (fun k=>[(100001,some (.blk 57 [.row 7])),(100002,some (.blk 3 [.int .i64 (g k).2])),(7,some (.row 64 29 (List.map RRec.dv (g k).1)))]) [100001,100002,7] ?_ rfl rfl ?_ (by decide) (by decide) (by decide) ?_ ?_
 ·rw [g0]
  exact (Imp.nilC (id:=2) (rid:=7) (j:=0) 64 29 rfl rfl rfl rfl).trans (Imp.of (fun i=>bif Nat.beq i 100001 then 2 else bif Nat.beq i 100002 then 3 else i) (.cons rfl (DLe.refl _) (.cons rfl (DLe.refl _) (.cons rfl (DLe.refl _) .nil))) (.cons rfl (.refl _) (.cons rfl (.refl _) (.cons rfl (.refl _) .nil))) rfl rfl rfl)
 ·intro t d hl i hi
  rw [look_cons] at hl
  split at hl
  ·injection hl with hl; subst hl; simp [DV.ids] at hi; omega
  ·rw [look_cons] at hl
   split at hl
   ·injection hl with hl; subst hl; simp [DV.ids] at hi; omega
   ·rw [look_cons] at hl
    split at hl
    ·injection hl with hl; subst hl; simp [DV.ids,idsL] at hi
    ·cases hl
 ·intro k d R R' hk
  rw [List.getElem?_map] at hk
  obtain ⟨x,hx,rfl⟩ := Option.map_eq_some_iff.1 hk
  have hs:=g1 k x hx
  generalize g (k + 1) = s' at hs ⊢
  generalize g k = s at hs ⊢
  obtain ⟨l,lost⟩ := s
  unfold readStep at hs
  dsimp only at hs ⊢
  refine a_region (.cons (o_alloc rfl)<|.cons (o_store rfl rfl rfl rfl rfl rfl rfl)<|.nil _) (by kernel_rfl) (by kernel_rfl) ?_
  refine ⟨rfl,?_⟩
  refine a_block ?_
  refine a_seq ?_
  refine a_seq ?_
  refine a_region (.cons (o_fieldAddr rfl)<|.cons (o_load_s rfl rfl rfl)<|.nil _) (by kernel_rfl) (by kernel_rfl) ?_
  refine a_cond _ rfl (fun hb=>?_) (fun hb=>?_)
  ·replace hs:=(of_if hs).1 hb
   obtain ⟨y,hy,hs⟩ := of_bind hs
   refine a_seq ?_
   refine a_region (.cons (o_fieldAddr rfl)<|.cons (o_load_s rfl rfl rfl)<|.cons (o_call (record_Read_c hy) rfl (DLeL.refl _) rfl)<|.cons (o_move rfl)<|.cons (o_extract rfl rfl)<|.cons (o_extract rfl rfl)<|.cons (o_alloc rfl)<|.cons (o_store rfl rfl rfl rfl rfl rfl rfl)<|.cons (o_assign rfl)<|.nil _) (by kernel_rfl) (by kernel_rfl) ?_
   refine a_seq ?_
   refine a_region (.cons (o_move rfl)<|.cons (o_int rfl rfl rfl)<|.nil _) (by kernel_rfl) (by kernel_rfl) ?_
   refine a_cond _ rfl (fun hb2=>?_) (fun hb2=>?_)
   ·replace hs:=(of_if hs).1 hb2
    obtain ⟨h3,hs⟩ := of_chk hs
    obtain rfl:=Option.some.inj hs
    refine a_seq ?_
    refine a_region (.cons (o_load_s rfl rfl rfl)<|.cons (o_load_r rfl rfl rfl rfl)<|.cons (t_build RRec.dv ([y.1] : List RRec) rfl rfl rfl rfl rfl rfl rfl)<|.cons (t_append [y.1] h3 rfl rfl rfl (Src.row rfl))<|.cons (o_store_s rfl rfl rfl rfl rfl)<|.nil _) (by kernel_rfl) (by kernel_rfl) ?_
    refine a_exit ?_
    refine ⟨rfl,?_⟩
    exact Imp.of (fun i=>bif Nat.beq i 7 then 23 else i) .nil (.cons rfl (.refl _) (.cons rfl (.refl _) (.cons rfl (.refl _) (.cons rfl (.refl _) (.cons rfl (.refl _) .nil))))) rfl rfl rfl
   ·replace hs:=(of_if hs).2 hb2
    obtain rfl:=Option.some.inj hs
    refine a_skip ?_
    refine a_region (.cons (o_load_s rfl rfl rfl)<|.cons (o_fieldAddr rfl)<|.cons (o_load_s rfl rfl rfl)<|.cons (o_int rfl rfl rfl)<|.cons (o_store_s rfl rfl rfl rfl rfl)<|.nil _) (by kernel_rfl) (by kernel_rfl) ?_
    refine ⟨rfl,?_⟩
    exact Imp.of (fun i=>i) .nil (.cons rfl (.refl _) (.cons rfl (.refl _) (.cons rfl (.refl _) (.cons rfl (.refl _) (.cons rfl (.refl _) .nil))))) rfl rfl rfl
  ·replace hs:=(of_if hs).2 hb
   obtain rfl:=Option.some.inj hs
   refine a_skip ?_
   refine a_region (.cons (o_load_s rfl rfl rfl)<|.cons (o_fieldAddr rfl)<|.cons (o_load_s rfl rfl rfl)<|.cons (o_int rfl rfl rfl)<|.cons (o_store_s rfl rfl rfl rfl rfl)<|.nil _) (by kernel_rfl) (by kernel_rfl) ?_
   refine ⟨rfl,?_⟩
   exact Imp.of (fun i=>i) .nil (.cons rfl (.refl _) (.cons rfl (.refl _) (.cons rfl (.refl _) (.cons rfl (.refl _) (.cons rfl (.refl _) .nil))))) rfl rfl rfl
 ·rw [List.length_map,g2]
  refine a_seq ?_
  refine a_draw mixed (.cons (o_load_s rfl rfl rfl)<|.cons (o_load_s rfl rfl rfl)<|.cons (o_store_s rfl rfl rfl rfl rfl)<|.cons (o_store_s rfl rfl rfl rfl rfl)<|.nil _) (by kernel_rfl) (by kernel_rfl) (by kernel_rfl) ?_
  refine a_imp (Imp.freeze (id:=7) rfl) ?_
  refine a_ret ⟨_,.r2 (.cell rfl rfl (.sc CSc.h rfl)) (.cell rfl rfl (.sc CSc.h rfl)),DLe.refl _,rfl⟩
end Go.Proofs.YtcgfgilddjkpkaaGreat
