/-
  The engine, iterators: a function that calls yield, and a loop over it.
-/
import Derived.Test.YtepkcbalmjnhpaaGreatEngV
import Derived.RangeFuncSeq
import Derived.RangeFuncLeaves
set_option linter.unusedVariables false
set_option linter.unusedSimpArgs false
namespace Go.Proofs.YtepkcbalmjnhpaaGreat
open Go.RowKit
/-- a step that lays blocks alone, some of them data -/
structure Grw (F : FMap) (w : World) (F' : FMap) (w' : World) : Prop where
  stp : Stp w w' none
  fle : FLe F F'
  new : ∀ b cs, F' b = some cs → F b = some cs ∨ w.heap.size ≤ b
  sat : ∀ b cs, F' b = some cs → ∃ t fz, w'.heap[b]? = some (.cells cs t fz)
/-- the caller's word between two rounds -/
structure JOk (J : Nat → FMap → World → Prop) : Prop where
  grw : ∀ k F w F' w', J k F w → Grw F w F' w' → J k F' w'
  sat : ∀ k F w, J k F w → ∀ b cs, F b = some cs → ∃ t fz, w.heap[b]? = some (.cells cs t fz)
/-- what yield does, asked for the k-th element -/
def Ylds (P : Program) (l : Nat) (J : Nat → FMap → World → Prop) (ds : List DV) : Prop :=
  ∀ k d v F w, ds[k]? = some d → J k F w → Rs F Gam.no d v → YieldAt (FW none) 0 P l #[v] w (fun e w' => ∃ F', e = .returned (.bool true) ∧ FLe F F' ∧ J (k + 1) F' w')
/-- a function that hands the elements ds to yield, one after the other -/
def Iter (P : Program) (f : FuncId) (caps ds : List DV) : Prop :=
  ∀ (l : Nat) (J : Nat → FMap → World → Prop) (F : FMap) (w : World) (vs : List Value), JOk J → Ylds P l J ds → J 0 F w → RsT F Gam.no caps vs →
    CallsIn (FW none) 0 P f (#[.func (.yield l) #[] #[]] ++ vs.toArray) w (fun e w' => ∃ v F', e = .returned v ∧ FLe F F' ∧ J ds.length F' w')
def bare (w : World) (F : FMap) (n : Nat) : Ctx := ⟨w, fun _ => False, F, n, Gam.no, none, []⟩
theorem Sat.grw {w0 w : World} {F0 F : FMap} {n : Nat} {γ : Gam} {σ : AS} {a : Act} (h : Sat (bare w0 F0 n) F γ σ a w) : Grw F0 w0 F w where
  stp := ⟨h.ws.os, h.ws.tape, h.ws.output, h.ws.size, fun k hk _ => h.ws.keep k hk (fun h => h)⟩
  fle := h.ws.f0
  new := fun b cs hb => by
    rcases h.ws.fnew b cs hb with h | h | h
    · exact .inl h
    · exact h.elim
    · exact .inr h
  sat := h.ws.fs
theorem WS.bare {w : World} {F : FMap} (n : Nat) (h : ∀ b cs, F b = some cs → ∃ t fz, w.heap[b]? = some (.cells cs t fz)) : WS (bare w F n) F Gam.no [] [] w where
  ent := fun id e h => by simp [hget, look] at h
  own := fun id e g b h => by simp [hget, look] at h
  apart := fun id id' e e' g g' b h => by simp [hget, look] at h
  fs := h
  f0 := FLe.refl _
  fnew := fun b cs h => .inl h
  os := rfl
  tape := rfl
  output := rfl
  size := Nat.le_refl _
  keep := fun _ _ _ => rfl
  us := fun id g h => by cases h
  gone := GOne.no
  g0 := GLe.refl _
  gk := fun id g h => by cases h
def awpJ (P : Program) (J : Nat → FMap → World → Prop) (n : Nat) (c : Code) (Q : Exit → Nat → AS → Prop) (k : Nat) (σ : AS) : Prop :=
  ∀ (w0 : World) (F0 F : FMap) (γ : Gam) (a : Act) (w : World), J k F0 w0 → Sat (bare w0 F0 n) F γ σ a w →
    c.wpIn (FW none) 0 P (fun e a' w' => ∃ w0' F0' F' γ' k' σ', J k' F0' w0' ∧ FLe F0 F0' ∧ Sat (bare w0' F0' n) F' γ' σ' a' w' ∧ Q e k' σ') a w
section
variable {P : Program} {J : Nat → FMap → World → Prop} {n : Nat} {Q : Exit → Nat → AS → Prop} {σ : AS} {k : Nat}
theorem j_of {c : Code} (h : awp P n c (fun e σ' => Q e k σ') σ) : awpJ P J n c Q k σ := fun w0 F0 F γ a w hJ hs =>
  wpIn_mono (h (bare w0 F0 n) F γ a w rfl hs) fun e a' w' ⟨F', γ', σ', h1, h2⟩ => ⟨w0, F0, F', γ', k, σ', hJ, FLe.refl _, h1, h2⟩
theorem j_imp {c : Code} {σ' : AS} (hi : Imp σ σ') (h : awpJ P J n c Q k σ') : awpJ P J n c Q k σ := fun w0 F0 F γ a w hJ hs => by
  obtain ⟨F1, γ1, h1⟩ := hi _ F γ a w hs
  exact h w0 F0 F1 γ1 a w hJ h1
def JThen (P : Program) (J : Nat → FMap → World → Prop) (n : Nat) (y : Code) (Q : Exit → Nat → AS → Prop) : Exit → Nat → AS → Prop
  | .normal, k, σ => awpJ P J n y Q k σ
  | e, k, σ => Q e k σ
theorem j_seq {x y : Code} (h : awpJ P J n x (JThen P J n y Q) k σ) : awpJ P J n (.seq x y) Q k σ := fun w0 F0 F γ a w hJ hs =>
  wpIn_seq (wpIn_mono (h w0 F0 F γ a w hJ hs) fun e a' w' ⟨w1, F1, F', γ', k', σ', j1, j2, h1, h2⟩ => by
    cases e with
    | normal =>
      refine wpIn_mono (h2 w1 F1 F' γ' a' w' j1 h1) fun e a2 w2 ⟨w3, F3, F4, γ4, k4, σ4, q1, q2, q3, q4⟩ => ⟨w3, F3, F4, γ4, k4, σ4, q1, j2.trans q2, q3, q4⟩
    | exit id => exact ⟨w1, F1, F', γ', k', σ', j1, j2, h1, h2⟩
    | goto l => exact ⟨w1, F1, F', γ', k', σ', j1, j2, h1, h2⟩
    | ret => exact ⟨w1, F1, F', γ', k', σ', j1, j2, h1, h2⟩
    | panic c => exact ⟨w1, F1, F', γ', k', σ', j1, j2, h1, h2⟩
    | outgrown => exact ⟨w1, F1, F', γ', k', σ', j1, j2, h1, h2⟩)
theorem j_cond {c : Operand} {x y : Code} (b : Bool) (hc : ev σ.env c = some (.bool b)) (ht : b = true → awpJ P J n x Q k σ) (hf : b = false → awpJ P J n y Q k σ) : awpJ P J n (.cond c x y) Q k σ := fun w0 F0 F γ a w hJ hs => by
  have := hs.ev hc
  simp only [Rs] at this
  exact wpIn_cond_split this (fun e => ht e w0 F0 F γ a w hJ hs) (fun e => hf e w0 F0 F γ a w hJ hs)
def JBlk (id : Nat) (Q : Exit → Nat → AS → Prop) : Exit → Nat → AS → Prop
  | .exit id', k, σ => bif Nat.beq id' id then Q .normal k σ else Q (.exit id') k σ
  | e, k, σ => Q e k σ
theorem j_block {id : Nat} {c : Code} (h : awpJ P J n c (JBlk id Q) k σ) : awpJ P J n (.block id c) Q k σ := fun w0 F0 F γ a w hJ hs =>
  wpIn_block (wpIn_mono (h w0 F0 F γ a w hJ hs) fun e a' w' ⟨w1, F1, F', γ', k', σ', j1, j2, h1, h2⟩ => by
    cases e with
    | exit id' =>
      simp only [JBlk] at h2
      simp only [Exit.inBlock]
      by_cases hid : id' = id
      · subst hid; simp at h2; rw [if_pos rfl]; exact ⟨w1, F1, F', γ', k', σ', j1, j2, h1, h2⟩
      · have : Nat.beq id' id = false := by rw [Bool.eq_false_iff]; intro e; exact hid (Nat.eq_of_beq_eq_true e)
        rw [this] at h2; rw [if_neg hid]; exact ⟨w1, F1, F', γ', k', σ', j1, j2, h1, h2⟩
    | normal => exact ⟨w1, F1, F', γ', k', σ', j1, j2, h1, h2⟩
    | goto l => exact ⟨w1, F1, F', γ', k', σ', j1, j2, h1, h2⟩
    | ret => exact ⟨w1, F1, F', γ', k', σ', j1, j2, h1, h2⟩
    | panic c => exact ⟨w1, F1, F', γ', k', σ', j1, j2, h1, h2⟩
    | outgrown => exact ⟨w1, F1, F', γ', k', σ', j1, j2, h1, h2⟩)
def JLoop {α : Type} (S : α → AS) (I : Nat → α → Prop) (μ : α → Nat) (x : α) (Q : Exit → Nat → AS → Prop) : Exit → Nat → AS → Prop
  | .normal, k, σ => ∃ x', I k x' ∧ μ x' < μ x ∧ Imp σ (S x')
  | e, k, σ => Q e k σ
theorem j_loop {c : Code} {α : Type} (S : α → AS) (I : Nat → α → Prop) (μ : α → Nat) (x0 : α) (h0 : Imp σ (S x0)) (hI : I k x0) (round : ∀ k x, I k x → awpJ P J n c (JLoop S I μ x Q) k (S x)) : awpJ P J n (.loop c) Q k σ := fun w0 F0 F γ a w hJ hs => by
  obtain ⟨F1, γ1, h1⟩ := h0 _ F γ a w hs
  refine wpIn_loop_ghost (fun m a w => ∃ x k w1 F1 F γ, I k x ∧ μ x = m ∧ J k F1 w1 ∧ FLe F0 F1 ∧ Sat (bare w1 F1 n) F γ (S x) a w) (μ x0) ⟨x0, k, w0, F0, F1, γ1, hI, rfl, hJ, FLe.refl _, h1⟩ ?_
  rintro m a w ⟨x, k, w1, F1, F, γ, hx, rfl, hJ, hF, hs⟩
  refine wpIn_mono (round k x hx w1 F1 F γ a w hJ hs) fun e a' w' ⟨w2, F2, F', γ', k', σ', j1, j2, h1, h2⟩ => ?_
  cases e with
  | normal =>
    obtain ⟨x', i1, i2, i3⟩ := h2
    obtain ⟨F3, γ3, h3⟩ := i3 _ F' γ' a' w' h1
    exact ⟨μ x', i2, x', k', w2, F2, F3, γ3, i1, rfl, j1, hF.trans j2, h3⟩
  | exit id => exact ⟨w2, F2, F', γ', k', σ', j1, hF.trans j2, h1, h2⟩
  | goto l => exact ⟨w2, F2, F', γ', k', σ', j1, hF.trans j2, h1, h2⟩
  | ret => exact ⟨w2, F2, F', γ', k', σ', j1, hF.trans j2, h1, h2⟩
  | panic c => exact ⟨w2, F2, F', γ', k', σ', j1, hF.trans j2, h1, h2⟩
  | outgrown => exact ⟨w2, F2, F', γ', k', σ', j1, hF.trans j2, h1, h2⟩
end
/-- one operation, between two rounds or over one -/
def OpJ (P : Program) (J : Nat → FMap → World → Prop) (n : Nat) (ops : Array Oper) (o : Oper) (k : Nat) (σ : AS) (k' : Nat) (σ' : AS) : Prop :=
  ∀ (w0 : World) (F0 F : FMap) (γ : Gam) (a : Act) (w : World), J k F0 w0 → Sat (bare w0 F0 n) F γ σ a w → (∀ d, o.dst = some d → d < n) →
    ∀ (K : Act → World → Prop) (Q : Exit → Act → World → Prop), (∀ w1 F1 F' γ' a' w', J k' F1 w1 → FLe F0 F1 → Sat (bare w1 F1 n) F' γ' σ' a' w' → K a' w') →
      if Region.wanted o (yielded ops a.tmps) then o.wpIn (FW none) 0 P a w K Q else K (a.put o.dst undef) w
inductive TraceJ (P : Program) (J : Nat → FMap → World → Prop) (n : Nat) (ops : Array Oper) : List Oper → Nat → AS → Nat → AS → Prop
  | nil (k : Nat) (σ : AS) : TraceJ P J n ops [] k σ k σ
  | cons {o : Oper} {rest : List Oper} {k : Nat} {σ : AS} {k1 : Nat} {σ1 : AS} {k2 : Nat} {σ2 : AS} (h : OpJ P J n ops o k σ k1 σ1) (t : TraceJ P J n ops rest k1 σ1 k2 σ2) : TraceJ P J n ops (o :: rest) k σ k2 σ2
section
variable {P : Program} {J : Nat → FMap → World → Prop} {n : Nat} {Q : Exit → Nat → AS → Prop} {σ : AS} {k : Nat} {ops : Array Oper}
theorem OpG.toJ {o : Oper} {rt rh : List Nat} {E : Eff} (h : OpG P ops o rt rh σ E) (hn : newsOk σ.used [E.new] = true) : OpJ P J n ops o k σ k (σ.app E) := fun w0 F0 F γ a w hJ hs hd K Q hK =>
  h (bare w0 F0 n) F γ σ a w (fun _ _ => rfl) (fun _ _ => rfl) (fun id hi => (newsOk_spec _ _ hn).1 E.new (by simp) id hi) hd hs K Q (fun F' γ' a' w' _ hs' => hK w0 F0 F' γ' a' w' hJ (FLe.refl _) hs')
theorem TraceJ.seq {Q : Exit → Act → World → Prop} : ∀ (l : List Oper) (i : Nat) (k : Nat) (σ : AS) (k' : Nat) (σ' : AS), TraceJ P J n ops l k σ k' σ' → (∀ j o, l[j]? = some o → ops[i + j]? = some o) →
    (∀ o ∈ l, ∀ d, o.dst = some d → d < n) → ∀ (w0 : World) (F0 F : FMap) (γ : Gam) (a : Act) (w : World), J k F0 w0 → Sat (bare w0 F0 n) F γ σ a w →
      (∀ w1 F1 F' γ' a' w', J k' F1 w1 → FLe F0 F1 → Sat (bare w1 F1 n) F' γ' σ' a' w' → Q .normal a' w') → wpOpsIn (FW none) 0 P ops Q ((List.range l.length).map (i + ·)) a w := by
  intro l
  induction l with
  | nil =>
    intro i k σ k' σ' ht _ _ w0 F0 F γ a w hJ hs hq
    cases ht
    exact hq w0 F0 F γ a w hJ (FLe.refl _) hs
  | cons o rest ih =>
    intro i k σ k' σ' ht hops hn w0 F0 F γ a w hJ hs hq
    cases ht with
    | cons h t =>
      rename_i k1 σ1
      have e : (List.range (o :: rest).length).map (i + ·) = i :: (List.range rest.length).map (i + 1 + ·) := by
        rw [List.length_cons, List.range_succ_eq_map, List.map_cons, List.map_map]
        congr 1
        apply List.map_congr_left
        intro x _; simp only [Function.comp]; omega
      rw [e, wpOpsIn_cons]
      unfold wpOpIn
      have ho : ops[i]? = some o := by simpa using hops 0 o rfl
      rw [ho]
      have key := h w0 F0 F γ a w hJ hs (fun d hd => hn o (List.mem_cons_self ..) d hd) (wpOpsIn (FW none) 0 P ops Q ((List.range rest.length).map (i + 1 + ·))) Q (fun w1 F1 F' γ' a' w' j1 j2 hs' => ?_)
      · simp only
        split
        · rename_i hw; rw [if_pos hw] at key; exact key
        · rename_i hw; rw [if_neg hw] at key; exact ⟨fun _ _ => trivial, key⟩
      · refine ih (i + 1) k1 σ1 k' σ' t (fun j o' hj => ?_) (fun o' ho' => hn o' (List.mem_cons_of_mem _ ho')) w1 F1 F' γ' a' w' j1 hs' (fun w2 F2 F3 γ3 a3 w3 q1 q2 q3 => hq w2 F2 F3 γ3 a3 w3 q1 (j2.trans q2) q3)
        have := hops (j + 1) o' (by simpa using hj)
        rw [← this]; congr 1; omega
theorem j_region {id : Nat} {k' : Nat} {σ' : AS} (ht : TraceJ P J n ops ops.toList k σ k' σ') (hd : dstOk n ops = true) (hq : Q .normal k' σ') : awpJ P J n (.region id ops false) Q k σ := fun w0 F0 F γ a w hJ hs => by
  refine wpIn_region ?_
  have := TraceJ.seq (Q := fun e a' w' => ∃ w0' F0' F' γ' k' σ', J k' F0' w0' ∧ FLe F0 F0' ∧ Sat (bare w0' F0' n) F' γ' σ' a' w' ∧ Q e k' σ') ops.toList 0 k σ k' σ' ht (fun j o hj => by simpa using hj) (fun o ho d hd' => ?_) w0 F0 F γ a w hJ hs (fun w1 F1 F' γ' a' w' j1 j2 h => ⟨w1, F1, F', γ', k', σ', j1, j2, h, hq⟩)
  · simpa using this
  · simp only [dstOk, List.all_eq_true] at hd
    have := hd o ho
    rw [hd'] at this
    exact Nat.blt_eq ▸ this
/-- a state whose memory is all data -/
theorem Sat.bared {w0 w w' : World} {F0 F F' : FMap} {γ : Gam} {σ : AS} {a : Act} (hs : Sat (bare w0 F0 n) F γ σ a w) (hF : FLe F F') (hJ : ∀ b cs, F' b = some cs → ∃ t fz, w'.heap[b]? = some (.cells cs t fz)) {env' : List (Nat × DV)} (hE : ∀ t d, look env' t = some d → look σ.env t = some d ∧ d.ids = []) :
    Sat (bare w' F' n) F' Gam.no ⟨env', [], []⟩ a w' where
  env := fun t d ht => by
    obtain ⟨h1, h2⟩ := hE t d ht
    have := hs.env t d h1
    exact ⟨this.1, Rs_ids d _ (by rw [h2]; intro i hi; cases hi) (this.2.mono hF (GLe.refl _))⟩
  ws := WS.bare n hJ
  size := hs.size
  defers := hs.defers
/-- a round -/
theorem o_yield {o : Oper} {x y : Operand} {ats : Array TypeId} {t l : Nat} {ds : List DV} {d dx dy r : DV} (ho : o.op = .call ⟨.value x, #[y], ats⟩) (hd : o.dst = some t)
    (hw : ∀ w0 F0 F γ a w, Sat (bare w0 F0 n) F γ σ a w → Region.wanted o (yielded ops a.tmps) = true) (ex : ev σ.env x = some dx) (hx : ∀ F γ v, Rs F γ dx v → v = .func (.yield l) #[] #[])
    (ey : ev σ.env y = some dy) (hy : ∀ F γ v, Rs F γ dy v → Rs F Gam.no d v) (JO : JOk J) (Y : Ylds P l J ds) (hk : ds[k]? = some d)
    (env' : List (Nat × DV)) (hE : ∀ t d, look env' t = some d → look σ.env t = some d ∧ d.ids = []) (hr : ∀ F γ, Rs F γ r (.bool true)) : OpJ P J n ops o k σ (k + 1) ⟨(t, r) :: env', [], []⟩ := by
  intro w0 F0 F γ a w hJ hs hdn K Q hK
  rw [if_pos (hw w0 F0 F γ a w hs)]
  have hv := hx _ _ _ (hs.ev ex)
  obtain ⟨fn, tmps, assign, body, hrun, hround⟩ := Y k d (a.eval y) F w hk (JO.grw k F0 w0 F w hJ hs.grw) (hy _ _ _ (hs.ev ey))
  refine ⟨fun _ _ => trivial, ?_⟩
  have he : (execOp a.eval o).run P w = .ok (.round l fn tmps assign body) w := by
    simp [execOp, ho, resolve, hv, Deferred.ofValue, invoke, hrun]
  rw [Oper.semAt_eq _ _ _ (fun c hc => by rw [ho] at hc; cases hc), he]
  refine ⟨fun h => by simp [FW, Fence.wide] at h, hround.mono ?_⟩
  rintro e w' ⟨F', rfl, hF, hJ'⟩
  show K (a.put o.dst (.bool true)) w'
  rw [hd]
  exact hK w' F' F' Gam.no _ w' hJ' (hs.ws.f0.trans hF) ((hs.bared hF (JO.sat _ _ _ hJ') hE).put (hdn t hd) (hr _ _))
/-- a call of a function that calls yield itself -/
theorem o_callJ {o : Oper} {f : FuncId} [hf : CFn P f] {xs : Array Operand} {ats : Array TypeId} {t : Nat} {dxs args : List DV} {k' : Nat} (ho : o.op = .call ⟨.value (.func f), xs, ats⟩) (hd : o.dst = some t) (hg : o.guard = none)
    (ha : evL σ.env xs.toList = some dxs) (hle : DLeL dxs args) (hi : idsL args = []) (JO : JOk J)
    (hc : ∀ (F : FMap) (w : World) (vs : List Value), J k F w → RsT F Gam.no args vs → CallsIn (FW none) 0 P f vs.toArray w (fun e w' => ∃ F', e = .returned (.tuple #[]) ∧ FLe F F' ∧ J k' F' w'))
    (env' : List (Nat × DV)) (hE : ∀ t d, look env' t = some d → look σ.env t = some d ∧ d.ids = []) : OpJ P J n ops o k σ k' ⟨(t, .tup []) :: env', [], []⟩ := by
  intro w0 F0 F γ a w hJ hs hdn K Q hK
  rw [if_pos (by simp [Region.wanted, hg])]
  have hv := hle.rsT (hs.evs ha)
  have hv' : RsT F Gam.no args (xs.toList.map a.eval) := RsT_ids args _ (by rw [hi]; simp) hv
  refine ⟨fun _ _ => trivial, ?_⟩
  rw [Oper.semAt_eq _ _ _ (fun c hc => by rw [ho] at hc; cases hc), run_call o xs ats ho a w]
  refine ⟨fun h => by simp [FW, Fence.wide] at h, ?_⟩
  have e : (xs.toList.map a.eval).toArray = xs.map a.eval := by rw [← Array.toList_map]
  have := hc F w _ (JO.grw k F0 w0 F w hJ hs.grw) hv'
  rw [e] at this
  refine this.mono ?_
  rintro e w' ⟨F', rfl, hF, hJ'⟩
  show K (a.put o.dst (.tuple #[])) w'
  rw [hd]
  exact hK w' F' F' Gam.no _ w' hJ' (hs.ws.f0.trans hF) ((hs.bared hF (JO.sat _ _ _ hJ') hE).put (hdn t hd) (by simp [Rs, RsT]))
/-- a function without results that calls yield -/
theorem callsJ {f : FuncId} {fn : Func} {c : Code} {args : List DV} {vs : List Value} {k' : Nat} {F : FMap} {w : World} (JO : JOk J) (hf : P.funcs[f]? = some fn) (hb : fn.body = some c) (hn : fn.ntmps = n) (hrs : fn.results = #[]) (ha : args.length ≤ n)
    (h : awpJ P J n c (fun e m _ => (e = .normal ∨ e = .ret) ∧ m = k') k ⟨params 0 args, [], []⟩) (hJ : J k F w) (hv : RsT F Gam.no args vs) :
    CallsIn (FW none) 0 P f vs.toArray w (fun e w' => ∃ F', e = .returned (.tuple #[]) ∧ FLe F F' ∧ J k' F' w') := by
  subst hn
  refine callsIn_of_wp hf hb trivial ?_
  have hs : Sat (bare w F fn.ntmps) F Gam.no ⟨params 0 args, [], []⟩ { tmps := vs.toArray ++ Array.replicate (fn.ntmps - vs.toArray.size) undef, defers := [] } w :=
    ⟨params_sat hv ha, WS.bare _ (JO.sat _ _ _ hJ), by
      have := hv.len
      simp [bare]; omega, rfl⟩
  refine wpIn_mono (h w F F Gam.no _ w hJ hs) ?_
  rintro e a' w' ⟨w1, F1, F', γ', m, σ', j1, j2, h1, h2, rfl⟩
  have main : a'.defers = [] ∧ ∃ v, (results fn a'.tmps).run P w' = .ok v w' ∧ (∃ F', Ending.returned v = .returned (.tuple #[]) ∧ FLe F F' ∧ J m F' w') :=
    ⟨h1.defers, .tuple #[], results0 hrs, F', rfl, j2.trans h1.ws.f0, JO.grw _ _ _ _ _ j1 h1.grw⟩
  rcases h2 with rfl | rfl
  · exact main
  · exact main
end
end Go.Proofs.YtepkcbalmjnhpaaGreat
