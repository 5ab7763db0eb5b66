/-
  The engine, more rules: calls that read whatever lies in the world, and whose result lies in new blocks alone.
-/
import Derived.Test.YtkadjbpmnpcfhaaEngQ
import Derived.Test.YtkadjbpmnpcfhaaOpenE
set_option linter.unusedVariables false
set_option linter.unusedSimpArgs false
namespace Go.Proofs.Ytkadjbpmnpcfhaa
open Go.RowKit
/-- a call on data (even on the caller's own rows); what it gives lies in new blocks -/
def QCall (P : Program) (fn : FuncId) (args : List DV) (r : DV) : Prop :=
  ∀ (F : FMap) (w : World) (vs : List Value), FSat F w → RsT F Gam.no args vs →
    Calls P fn vs.toArray w (fun e w' => ∃ v G, e = .returned v ∧ Stp w w' none ∧ (∀ b cs, G b = some cs → w.heap.size ≤ b ∧ ∃ t fz, w'.heap[b]? = some (.cells cs t fz)) ∧ Rs G Gam.no r v)
def FMap.join (F G : FMap) : FMap := fun b => match G b with
  | some cs => some cs
  | none => F b
theorem WS.dataAll {C : Ctx} {F : FMap} {γ : Gam} {h : Heap} {used : List Nat} {w : World} (H : WS C F γ h used w) {G : FMap} {n : Nat} (hG : ∀ b cs, G b = some cs → n ≤ b ∧ ∃ t fz, w.heap[b]? = some (.cells cs t fz)) (hF : ∀ b cs, F b = some cs → b < n) (hn : C.w0.heap.size ≤ n)
    (ho : ∀ id e g b, hget h id = some e → γ id = some g → Value.pblk g = some b → b < n) : WS C (F.join G) γ h used w ∧ FLe F (F.join G) ∧ FLe G (F.join G) := by
  have hle : FLe F (F.join G) := fun b cs hb => by
    unfold FMap.join
    cases hg : G b with
    | none => exact hb
    | some c => have := (hG b c hg).1; have := hF b cs hb; omega
  refine ⟨{
    ent := fun i e hh => by obtain ⟨g1, h1, h2⟩ := H.ent i e hh; exact ⟨g1, h1, h2.mono hle (GLe.refl _)⟩
    own := fun i e g' b' hh hg' hb' => by
      refine ⟨?_, (H.own i e g' b' hh hg' hb').2⟩
      have := ho i e g' b' hh hg' hb'
      unfold FMap.join
      cases hg : G b' with
      | none => exact (H.own i e g' b' hh hg' hb').1
      | some c => have := (hG b' c hg).1; omega
    apart := H.apart
    fs := fun b' cs' h' => by
      unfold FMap.join at h'
      cases hg : G b' with
      | none => rw [hg] at h'; exact H.fs b' cs' h'
      | some c => rw [hg] at h'; injection h' with h'; subst h'; exact (hG b' c hg).2
    f0 := H.f0.trans hle
    fnew := fun b' cs' h' => by
      unfold FMap.join at h'
      cases hg : G b' with
      | none => rw [hg] at h'; exact H.fnew b' cs' h'
      | some c => have := (hG b' c hg).1; exact .inr (.inr (by omega))
    os := H.os, tape := H.tape, output := H.output, size := H.size, keep := H.keep, us := H.us, gone := H.gone, g0 := H.g0, gk := H.gk }, hle, fun b cs hb => by unfold FMap.join; rw [hb]⟩
theorem allF_le {F : FMap} {w : World} (h : FSat F w) : FLe F (allF w) := fun b cs hb => by
  obtain ⟨t, fz, hc⟩ := h b cs hb
  simp [allF, hc]
/-- cells read as data: rows too -/
inductive ViewC (h : Heap) : List DV → List DV → List Nat → Prop
  | nil : ViewC h [] [] []
  | dat {d : DV} {ds es : List DV} {r : List Nat} (hi : d.ids = []) (k : ViewC h ds es r) : ViewC h (d :: ds) (d :: es) r
  | row {id E sz : Nat} {els ds es : List DV} {r : List Nat} (hh : hget h id = some (.row E sz els)) (k : ViewC h ds es r) : ViewC h (.row id :: ds) (.sl sz els :: es) (id :: r)
def viewC (h : Heap) : List DV → Option (List DV × List Nat)
  | [] => some ([], [])
  | .row id :: ds => match hget h id with
    | some (.row _ sz els) => (viewC h ds).map fun p => (.sl sz els :: p.1, id :: p.2)
    | _ => none
  | d :: ds => if d.ids.isEmpty then (viewC h ds).map fun p => (d :: p.1, p.2) else none
theorem viewC_spec {h : Heap} : ∀ {ds es : List DV} {r : List Nat}, viewC h ds = some (es, r) → ViewC h ds es r
  | [], es, r, e => by
    simp only [viewC, Option.some.injEq, Prod.mk.injEq] at e
    obtain ⟨rfl, rfl⟩ := e; exact .nil
  | d :: ds, es, r, e => by
    by_cases hd : ∃ id, d = .row id
    · obtain ⟨id, rfl⟩ := hd
      unfold viewC at e
      split at e
      · rename_i E sz els hh
        cases hv : viewC h ds with
        | none => rw [hv] at e; cases e
        | some p =>
          rw [hv] at e
          simp only [Option.map_some, Option.some.injEq, Prod.mk.injEq] at e
          obtain ⟨rfl, rfl⟩ := e
          exact .row hh (viewC_spec hv)
      · cases e
    · have e2 : viewC h (d :: ds) = if d.ids.isEmpty then (viewC h ds).map fun p => (d :: p.1, p.2) else none := by
        cases d <;> first | rfl | exact absurd ⟨_, rfl⟩ hd
      rw [e2] at e
      split at e
      · rename_i hi
        cases hv : viewC h ds with
        | none => rw [hv] at e; cases e
        | some p =>
          rw [hv] at e
          simp only [Option.map_some, Option.some.injEq, Prod.mk.injEq] at e
          obtain ⟨rfl, rfl⟩ := e
          exact .dat (by simpa using hi) (viewC_spec hv)
      · cases e
/-- arguments read as data: rows too -/
inductive ViewL (h : Heap) : List DV → List DV → List Nat → Prop
  | nil : ViewL h [] [] []
  | dat {d d' : DV} {ds es : List DV} {r : List Nat} (hd : DLe d d') (hi : d'.ids = []) (k : ViewL h ds es r) : ViewL h (d :: ds) (d' :: es) r
  | row {id E sz : Nat} {els ds es : List DV} {r : List Nat} (hh : hget h id = some (.row E sz els)) (k : ViewL h ds es r) : ViewL h (.row id :: ds) (.sl sz els :: es) (id :: r)
  | agg {cs cs' ds es : List DV} {r r' : List Nat} (hc : ViewC h cs cs' r) (k : ViewL h ds es r') : ViewL h (.agg cs :: ds) (.agg cs' :: es) (r ++ r')
theorem ViewC.rsL {σ σ' : AS} {C : Ctx} {F : FMap} {γ : Gam} {a : Act} {w : World} (hs : Sat C F γ σ' a w) {ds es : List DV} {r : List Nat} (k : ViewC σ.heap ds es r) : (∀ id ∈ r, hget σ'.heap id = hget σ.heap id) → ∀ {vs : List Value}, RsL F γ ds vs → RsL (allF w) Gam.no es vs := by
  have hle : FLe F (allF w) := allF_le hs.ws.fs
  induction k with
  | nil => intro _ vs h; simpa only [RsL] using h
  | dat hi k ih =>
    intro hr vs h
    simp only [RsL] at h ⊢
    obtain ⟨v, rest, rfl, h0, h1, h2⟩ := h
    exact ⟨v, rest, rfl, h0, Rs_ids _ _ (by rw [hi]; simp) (h1.mono hle (GLe.refl _)), ih hr h2⟩
  | row hh k ih =>
    intro hr vs h
    simp only [RsL] at h ⊢
    obtain ⟨v, rest, rfl, h0, h1, h2⟩ := h
    refine ⟨v, rest, rfl, h0, ?_, ih (fun i hi => hr i (by simp [hi])) h2⟩
    simp only [Rs] at h1
    obtain ⟨F', f1, f2, f3⟩ := hs.ws.freeze ((hr _ (by simp)).trans hh) h1
    exact Rs_ids _ _ (by simp [DV.ids]) (f3.mono (allF_le f2.fs) (GLe.refl _))
theorem ViewL.rsT {σ σ' : AS} {C : Ctx} {F : FMap} {γ : Gam} {a : Act} {w : World} (hs : Sat C F γ σ' a w) {ds es : List DV} {r : List Nat} (k : ViewL σ.heap ds es r) : (∀ id ∈ r, hget σ'.heap id = hget σ.heap id) → ∀ {vs : List Value}, RsT F γ ds vs → RsT (allF w) Gam.no es vs := by
  have hle : FLe F (allF w) := allF_le hs.ws.fs
  induction k with
  | nil => intro _ vs h; simpa only [RsT] using h
  | dat hd hi k ih =>
    intro hr vs h
    simp only [RsT] at h ⊢
    obtain ⟨v, rest, rfl, h1, h2⟩ := h
    exact ⟨v, rest, rfl, Rs_ids _ _ (by rw [hi]; simp) ((hd _ _ _ h1).mono hle (GLe.refl _)), ih hr h2⟩
  | row hh k ih =>
    intro hr vs h
    simp only [RsT] at h ⊢
    obtain ⟨v, rest, rfl, h1, h2⟩ := h
    refine ⟨v, rest, rfl, ?_, ih (fun i hi => hr i (by simp [hi])) h2⟩
    simp only [Rs] at h1
    obtain ⟨F', f1, f2, f3⟩ := hs.ws.freeze ((hr _ (by simp)).trans hh) h1
    exact Rs_ids _ _ (by simp [DV.ids]) (f3.mono (allF_le f2.fs) (GLe.refl _))
  | agg hc k ih =>
    intro hr vs h
    simp only [RsT] at h ⊢
    obtain ⟨v, rest, rfl, h1, h2⟩ := h
    refine ⟨v, rest, rfl, ?_, ih (fun i hi => hr i (by simp [hi])) h2⟩
    simp only [Rs] at h1 ⊢
    obtain ⟨cs, rfl, h1⟩ := h1
    exact ⟨cs, rfl, hc.rsL hs (fun i hi => hr i (by simp [hi])) h1⟩
/-! data without slices -/
mutual
def DV.noF : DV → Bool
  | .int _ _ | .bool _ | .str _ | .val _ | .nils | .row _ | .ref _ _ => true
  | .agg ds => noFL ds
  | .tup ds => noFL ds
  | _ => false
def noFL : List DV → Bool
  | [] => true
  | d :: ds => d.noF && noFL ds
end
mutual
theorem Rs_noF {F F' : FMap} {γ : Gam} : ∀ (d : DV) (v : Value), d.noF = true → Rs F γ d v → Rs F' γ d v
  | .int k n, v, _, h => by simp only [Rs] at h ⊢; exact h
  | .bool b, v, _, h => by simp only [Rs] at h ⊢; exact h
  | .str s, v, _, h => by simp only [Rs] at h ⊢; exact h
  | .val x, v, _, h => by simp only [Rs] at h ⊢; exact h
  | .nils, v, _, h => by simp only [Rs] at h ⊢; exact h
  | .agg ds, v, k, h => by simp only [Rs] at h ⊢; obtain ⟨cs, rfl, h⟩ := h; exact ⟨cs, rfl, RsL_noF ds _ (by simpa only [DV.noF] using k) h⟩
  | .tup ds, v, k, h => by simp only [Rs] at h ⊢; obtain ⟨cs, rfl, h⟩ := h; exact ⟨cs, rfl, RsT_noF ds _ (by simpa only [DV.noF] using k) h⟩
  | .sl sz els, v, k, h => by simp [DV.noF] at k
  | .eptr ds, v, k, h => by simp [DV.noF] at k
  | .ref id off, v, _, h => by simp only [Rs] at h ⊢; exact h
  | .row id, v, _, h => by simp only [Rs] at h ⊢; exact h
  | .rp id i sz o, v, k, h => by simp [DV.noF] at k
  | .bsl id off n, v, k, h => by simp [DV.noF] at k
  | .ifb g d, v, k, h => by simp [DV.noF] at k
  | .clo f ds, v, k, h => by simp [DV.noF] at k
theorem RsL_noF {F F' : FMap} {γ : Gam} : ∀ (ds : List DV) (vs : List Value), noFL ds = true → RsL F γ ds vs → RsL F' γ ds vs
  | [], vs, _, h => by simp only [RsL] at h ⊢; exact h
  | d :: ds, vs, k, h => by
    simp only [noFL, Bool.and_eq_true] at k
    simp only [RsL] at h ⊢
    obtain ⟨v, rest, h1, h2, h3, h4⟩ := h
    exact ⟨v, rest, h1, h2, Rs_noF d v k.1 h3, RsL_noF ds _ k.2 h4⟩
theorem RsT_noF {F F' : FMap} {γ : Gam} : ∀ (ds : List DV) (vs : List Value), noFL ds = true → RsT F γ ds vs → RsT F' γ ds vs
  | [], vs, _, h => by simp only [RsT] at h ⊢; exact h
  | d :: ds, vs, k, h => by
    simp only [noFL, Bool.and_eq_true] at k
    simp only [RsT] at h ⊢
    obtain ⟨v, rest, h1, h3, h4⟩ := h
    exact ⟨v, rest, h1, Rs_noF d v k.1 h3, RsT_noF ds _ k.2 h4⟩
end
theorem WS.start {F : FMap} {w : World} (h : FSat F w) : WS ⟨w, fun _ => False, F, 0, Gam.no⟩ F Gam.no [] [] w := {
  ent := fun id e h => by simp [hget, look] at h
  own := fun id e g b h => by simp [hget, look] at h
  apart := fun id id' e e' g g' b h => by simp [hget, look] at h
  fs := h
  f0 := FLe.refl _
  fnew := fun b cs h => .inl h
  os := rfl, tape := rfl, output := rfl
  size := Nat.le_refl _
  keep := fun _ _ _ => rfl
  us := fun id g h => by cases h
  gone := GOne.no
  g0 := GLe.refl _
  gk := fun id g h => by cases h }
/-- a call that gives no slice -/
theorem QCall.plain {P : Program} {f : FuncId} {args : List DV} {r : DV} (h : PCall P f args r) (hr : r.noF = true) : QCall P f args r := by
  intro F w vs hF hv
  refine (h _ F Gam.no [] [] w vs (WS.start hF) hv).mono ?_
  rintro e w' ⟨v, F', rfl, _, K, k⟩
  exact ⟨v, fun _ => none, rfl, ⟨K.os, K.tape, K.output, K.size, fun b hb _ => K.keep b hb (fun h => h)⟩, fun b cs h => (by cases h), Rs_noF _ _ hr k⟩
section
variable {P : Program} {ops : Array Oper} {σ : AS} {t : Nat} {ty : TypeId} {pos : String} {af : Array Edge}
theorem o_callQ {f : FuncId} [hf : CFn P f] {xs : Array Operand} {ats : Array TypeId} {ds args : List DV} {r : DV} {rh : List Nat} (hc : QCall P f args r) (ha : evL σ.env xs.toList = some ds) (hle : ViewL σ.heap ds args rh) :
    OpG P ops ⟨some t, .call ⟨.value (.func f), xs, ats⟩, ty, pos, af, none⟩ (xs.toList.flatMap tm) rh σ ⟨[(t, r)], [], []⟩ := by
  intro C F γ σ' a w h1 h2 h3 h4 hs K Q hK
  simp only [Region.wanted, ↓reduceIte]
  unfold Oper.wp
  rw [run_call _ xs ats rfl a w]
  simp only [Oper.upon]
  have hv := hs.evs ((evL_agree h1 (fun _ h => h)).trans ha)
  have hv' := hle.rsT hs h2 hv
  have e : (xs.toList.map a.eval).toArray = xs.map a.eval := by rw [← Array.toList_map]
  have := hc (allF w) w _ (allF_sat w) hv'
  rw [e] at this
  refine this.mono ?_
  rintro e w' ⟨v, G, rfl, S, hG, hr⟩
  obtain ⟨W2, l1, l2⟩ := (hs.ws.quiet S).dataAll hG (fun b cs hb => hs.ws.flt hb) hs.ws.size (fun id e g b hh hg hb => by
    obtain ⟨g1, q1, q2⟩ := hs.ws.ent id e hh
    rw [hg] at q1; injection q1 with q1; subst q1
    exact q2.lt _ hb)
  exact hK (F.join G) γ _ _ l1 ((hs.mono l1 (GLe.refl _) W2).put (h4 t rfl) (hr.mono l2 (GLe.no _)))
/-- a call on what lies in the world that gives memory of its own: one new row, besides that no slice -/
theorem o_callQA {f : FuncId} [hf : CFn P f] {xs : Array Operand} {ats : Array TypeId} {ds args : List DV} {r : DV} {rh : List Nat} {E sz : Nat} {els : List DV} {k : IntKind} {l : List Int} (id : Nat)
    (hc : ACall P f ⟨args, [], r, [(id, some (.row E sz els))], [id]⟩) (ha : evL σ.env xs.toList = some ds) (hle : ViewL σ.heap ds args rh) (hi : idsL args = []) (hr : r.noF = true) (hri : r.ids.all (Nat.beq id) = true) (hels : els = l.map (.int k)) (hz : sz = 1) :
    OpG P ops ⟨some t, .call ⟨.value (.func f), xs, ats⟩, ty, pos, af, none⟩ (xs.toList.flatMap tm) rh σ ⟨[(t, r)], [(id, some (.row E sz els))], [id]⟩ := by
  intro C F γ σ' a w h1 h2 h3 h4 hs K Q hK
  simp only [Region.wanted, ↓reduceIte]
  unfold Oper.wp
  rw [run_call _ xs ats rfl a w]
  simp only [Oper.upon]
  have hv := hs.evs ((evL_agree h1 (fun _ h => h)).trans ha)
  have hv' := hle.rsT hs h2 hv
  have e : (xs.toList.map a.eval).toArray = xs.map a.eval := by rw [← Array.toList_map]
  have hv2 : RsT (allF w) Gam.no (renL (fun i => i) args) (xs.toList.map a.eval) := (RsT_ren (γ' := Gam.no) (fun i => i) args _ (by rw [hi]; intro i h; cases h)).2 hv'
  have := hc _ (allF w) Gam.no [] [] w _ (fun i => i) (fun i e h => by simp [hget, look] at h) (fun i _ h => by cases h) (fun i _ j _ h => h) (WS.start (allF_sat w)) hv2
  rw [e] at this
  refine this.mono ?_
  rintro e w' ⟨v, F', γ', rfl, _, _, K', hr'⟩
  have S : Stp w w' none := ⟨K'.os, K'.tape, K'.output, K'.size, fun b hb _ => K'.keep b hb (fun h => h)⟩
  have hent : hget (renH (fun i => i) [(id, some (.row E sz els))] ++ []) id = some ((HE.row E sz els).ren (fun i => i)) := by
    simp [renH, hget, look]
  obtain ⟨g, hg, hE⟩ := K'.ent id _ hent
  have hnew : ∀ b, Value.pblk g = some b → w.heap.size ≤ b := fun b hb => by
    rcases (K'.own id _ g b hent hg hb).2 with h | h
    · exact h.elim
    · exact h
  have hren : (HE.row E sz els).ren (fun i => i) = .row E sz els := by
    subst hels
    simp [HE.ren, DV.ren]
  rw [hren] at hE
  have hE' : Ent F γ w' (.row E sz els) g := by
    obtain ⟨vs, o1, o2⟩ := hE
    refine ⟨vs, o1, ?_⟩
    subst hels hz
    have : ∀ (l : List Int) (vs : List Value), RsE F' 1 (l.map (DV.int k)) vs → RsE F 1 (l.map (DV.int k)) vs := by
      intro l
      induction l with
      | nil => intro vs h; simpa only [List.map_nil, RsE] using h
      | cons x l ih =>
        intro vs h
        simp only [List.map_cons, RsE] at h ⊢
        obtain ⟨v, rest, a1, a2, a3, a4, a5⟩ := h
        exact ⟨v, rest, a1, a2, a3, by simpa only [Rs] using a4, ih _ a5⟩
    exact this l vs o2
  have hn : id ∉ σ'.used := h3 id (by simp)
  have W := (hs.ws.quiet S).add hn hE' (fun b hb => by
    have hge := hnew b hb
    refine ⟨?_, .inr (Nat.le_trans hs.ws.size hge), fun id' e' g' hh hg' hb' => ?_⟩
    · cases hF : F b with
      | none => rfl
      | some cs => have := hs.ws.flt hF; omega
    · obtain ⟨g1, q1, q2⟩ := hs.ws.ent id' e' hh
      rw [hg'] at q1; injection q1 with q1; subst q1
      have := q2.lt _ hb'; omega)
  have hGle := Gam.up_le g (hs.ws.fresh hn)
  have hrs : Rs F (γ.up id g) r v := by
    have k1 : Rs F' (Gam.no.up id g) r v := (Rs_ren (γ := γ') (γ' := Gam.no.up id g) (fun i => i) r v (fun i hi' => by
      have : id = i := by
        have := List.all_eq_true.1 hri i hi'
        simpa using this
      subst this
      rw [hg, Gam.up_same])).1 hr'
    exact Rs_noF _ _ hr (k1.mono (FLe.refl _) (fun i g' hi' => by
      by_cases he : i = id
      · subst he
        rw [Gam.up_same] at hi' ⊢; exact hi'
      · simp [Gam.up, he, Gam.no] at hi'))
  refine hK F (γ.up id g) _ _ (FLe.refl _) ?_
  have s1 : Sat C F (γ.up id g) ⟨σ'.env, (id, some (.row E sz els)) :: σ'.heap, id :: σ'.used⟩ a w' := ⟨fun t' d hd => ⟨(hs.env t' d hd).1, (hs.env t' d hd).2.mono (FLe.refl _) hGle⟩, W, hs.size, hs.defers⟩
  exact s1.put (h4 t rfl) hrs
end
end Go.Proofs.Ytkadjbpmnpcfhaa
