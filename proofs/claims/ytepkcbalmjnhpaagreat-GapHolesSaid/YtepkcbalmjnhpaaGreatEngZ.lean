/-
  The engine, a loop over an iterator, in a function that has one such loop.
-/
import Derived.Test.YtepkcbalmjnhpaaGreatEngY
set_option linter.unusedVariables false
set_option linter.unusedSimpArgs false
namespace Go.Proofs.YtepkcbalmjnhpaaGreat
open Go.RowKit
section
variable {C C' : Ctx} {F F' : FMap} {γ : Gam} {h : Heap} {used : List Nat} {w w' : World}
/-- another context of the same world -/
theorem WS.ctx (H : WS C F γ h used w) (h1 : C'.w0 = C.w0) (h2 : C'.T = C.T) (h3 : C'.F0 = C.F0) (h4 : GLe C'.G0 γ) (h5 : ∀ id g, C'.G0 id = some g → 100000 ≤ id) : WS C' F γ h used w where
  ent := H.ent
  own := by rw [h1, h2]; exact H.own
  apart := H.apart
  fs := H.fs
  f0 := by rw [h3]; exact H.f0
  fnew := by rw [h1, h2, h3]; exact H.fnew
  os := by rw [h1]; exact H.os
  tape := by rw [h1]; exact H.tape
  output := by rw [h1]; exact H.output
  size := by rw [h1]; exact H.size
  keep := by rw [h1, h2]; exact H.keep
  us := H.us
  gone := H.gone
  g0 := h4
  gk := h5
/-- what is data now is what the context begins with -/
theorem WS.reF (H : WS C F γ h used w) : WS { C with F0 := F } F γ h used w := { H with f0 := FLe.refl _, fnew := fun b cs hb => .inl hb }
theorem WS.unF {γ' : Gam} {h' : Heap} {used' : List Nat} (H : WS C F γ h used w) (K : WS { C with F0 := F } F' γ' h' used' w') : WS C F' γ' h' used' w' :=
  { K with
    f0 := H.f0.trans K.f0
    fnew := fun b cs hb => (K.fnew b cs hb).elim (fun q => H.fnew b cs q) .inr }
/-- blocks have come, some of them data -/
theorem WS.grown (H : WS C F γ h used w) (G : Grw F w F' w') : WS C F' γ h used w' := by
  have Q := H.quiet G.stp
  exact { Q with
    ent := fun id e hi => by obtain ⟨g, h1, h2⟩ := Q.ent id e hi; exact ⟨g, h1, h2.mono G.fle (GLe.refl _)⟩
    own := fun id e g b hi hg hb => by
      refine ⟨?_, (H.own id e g b hi hg hb).2⟩
      cases hF : F' b with
      | none => rfl
      | some cs =>
        obtain ⟨g', k1, k2⟩ := H.ent id e hi
        rw [hg] at k1; injection k1 with k1; subst k1
        have hlt := k2.lt b hb
        rcases G.new b cs hF with q | q
        · rw [(H.own id e g b hi hg hb).1] at q; cases q
        · omega
    fs := G.sat
    f0 := H.f0.trans G.fle
    fnew := fun b cs hb => by
      rcases G.new b cs hb with q | q
      · exact H.fnew b cs q
      · exact .inr (.inr (Nat.le_trans H.size q)) }
/-- an object that is held turns into another one -/
theorem WS.setObj (H : WS C F γ h used w) {id l : Nat} {o : Obj} (o' : Obj) (hi : hget h id = some (.obj o)) (hg : γ id = some (.pointer (some ⟨l, 0, none⟩))) : WS C F γ ((id, some (.obj o')) :: h) used (w.putObj l o') := by
  obtain ⟨g, k1, b, k2, k3⟩ := H.ent id _ hi
  rw [hg] at k1; injection k1 with k1; subst k1
  injection k2 with k2; injection k2 with k2; injection k2 with k2 _ _; subst k2
  have hlt := (Array.getElem?_eq_some_iff.1 k3).1
  have S : Stp w (w.putObj l o') (Value.pblk (.pointer (some ⟨l, 0, none⟩))) := ⟨rfl, rfl, rfl, by simp, fun k hk hne => World.putObj_heap_other (fun e => hne (by rw [e]; rfl))⟩
  have T := H.turn hi hg S
  have P := T.put (e0 := .obj o') hg ⟨l, rfl, World.putObj_heap_same hlt⟩ (fun b hb => by
    obtain ⟨q1, q2⟩ := H.own id _ _ b hi hg hb
    refine ⟨q1, q2, fun id' e' g' hne hh hg' hb' => ?_⟩
    rw [hget_cons] at hh
    split at hh
    · cases hh
    · exact hne (H.apart id' id e' _ g' _ b hh hi hg' hg hb' hb))
  refine P.congr (fun i e he => ?_) (fun _ h => h)
  rw [hget_cons] at he ⊢
  split at he
  · rename_i e1; rw [if_pos e1]; exact he
  · rename_i e1; rw [if_neg e1, hget_cons, if_neg e1]; exact he
end
def markD (D : Nat) : Deferred := { target := .collected D, args := #[] }
def idR : Nat := 100004
def idM : Nat := 100005
def ptrTo (b : Nat) : Value := .pointer (some ⟨b, 0, none⟩)
def openMark : HE := .obj (.deferred (some []))
/-- the context behind a loop over an iterator -/
def CExt (C C' : Ctx) : Prop := C' = C ∨ ∃ D, C'.w0 = C.w0 ∧ C'.T = C.T ∧ C'.F0 = C.F0 ∧ C'.n = C.n ∧ C'.ro = none ∧ C'.defs = [markD D] ∧ C'.G0 idM = some (ptrTo D)
def awpD (P : Program) (n : Nat) (c : Code) (Q : Exit → AS → Prop) (σ : AS) : Prop :=
  ∀ (C : Ctx) (F : FMap) (γ : Gam) (a : Act) (w : World), C.n = n → C.ro = none → C.defs = [] → C.G0 = Gam.no → Sat C F γ σ a w →
    c.wpIn (FW none) 0 P (fun e a' w' => ∃ C' F' γ' σ', CExt C C' ∧ Sat C' F' γ' σ' a' w' ∧ Q e σ') a w
section
variable {P : Program} {n : Nat} {Q : Exit → AS → Prop} {σ : AS}
theorem d_of {c : Code} (h : awp P n c Q σ) : awpD P n c Q σ := fun C F γ a w hn hr hd hg hs => by
  have := h C F γ a w hn hs
  rw [hr] at this
  exact wpIn_mono this fun e a' w' ⟨F', γ', σ', h1, h2⟩ => ⟨C, F', γ', σ', .inl rfl, h1, h2⟩
theorem d_imp {c : Code} {σ' : AS} (hi : Imp σ σ') (h : awpD P n c Q σ') : awpD P n c Q σ := fun C F γ a w hn hr hd hg hs => by
  obtain ⟨F1, γ1, h1⟩ := hi C F γ a w hs
  exact h C F1 γ1 a w hn hr hd hg h1
def DThenL (P : Program) (n : Nat) (y : Code) (Q : Exit → AS → Prop) : Exit → AS → Prop
  | .normal, σ => awpD P n y Q σ
  | _, _ => False
theorem d_seqL {x y : Code} (h : awp P n x (DThenL P n y Q) σ) : awpD P n (.seq x y) Q σ := fun C F γ a w hn hr hd hg hs => by
  have := h C F γ a w hn hs
  rw [hr] at this
  refine wpIn_seq (wpIn_mono this fun e a' w' ⟨F', γ', σ', h1, h2⟩ => ?_)
  cases e with
  | normal => exact h2 C F' γ' a' w' hn hr hd hg h1
  | exit id => exact h2.elim
  | goto l => exact h2.elim
  | ret => exact h2.elim
  | panic c => exact h2.elim
  | outgrown => exact h2.elim
theorem d_seqR {x y : Code} (h : awpD P n x (QThen P n y Q) σ) : awpD P n (.seq x y) Q σ := fun C F γ a w hn hr hd hg hs => by
  refine wpIn_seq (wpIn_mono (h C F γ a w hn hr hd hg hs) fun e a' w' ⟨C', F', γ', σ', hC, h1, h2⟩ => ?_)
  cases e with
  | normal =>
    have hn' : C'.n = n := by
      rcases hC with rfl | ⟨D, _, _, _, q, _⟩
      · exact hn
      · rw [q]; exact hn
    have hr' : C'.ro = none := by
      rcases hC with rfl | ⟨D, _, _, _, _, q, _⟩
      · exact hr
      · exact q
    have := h2 C' F' γ' a' w' hn' h1
    rw [hr'] at this
    exact wpIn_mono this fun e a' w' ⟨F', γ', σ', h1, h2⟩ => ⟨C', F', γ', σ', hC, h1, h2⟩
  | exit id => exact ⟨C', F', γ', σ', hC, h1, h2⟩
  | goto l => exact ⟨C', F', γ', σ', hC, h1, h2⟩
  | ret => exact ⟨C', F', γ', σ', hC, h1, h2⟩
  | panic c => exact ⟨C', F', γ', σ', hC, h1, h2⟩
  | outgrown => exact ⟨C', F', γ', σ', hC, h1, h2⟩
theorem d_block {id : Nat} {c : Code} (h : awpD P n c (QBlk id Q) σ) : awpD P n (.block id c) Q σ := fun C F γ a w hn hr hd hg hs =>
  wpIn_block (wpIn_mono (h C F γ a w hn hr hd hg hs) fun e a' w' ⟨C', F', γ', σ', hC, h1, h2⟩ => by
    cases e with
    | exit id' =>
      simp only [QBlk] at h2
      simp only [Exit.inBlock]
      by_cases hid : id' = id
      · subst hid; simp at h2; rw [if_pos rfl]; exact ⟨C', F', γ', σ', hC, h1, h2⟩
      · have : Nat.beq id' id = false := by rw [Bool.eq_false_iff]; intro e; exact hid (Nat.eq_of_beq_eq_true e)
        rw [this] at h2; rw [if_neg hid]; exact ⟨C', F', γ', σ', hC, h1, h2⟩
    | normal => exact ⟨C', F', γ', σ', hC, h1, h2⟩
    | goto l => exact ⟨C', F', γ', σ', hC, h1, h2⟩
    | ret => exact ⟨C', F', γ', σ', hC, h1, h2⟩
    | panic c => exact ⟨C', F', γ', σ', hC, h1, h2⟩
    | outgrown => exact ⟨C', F', γ', σ', hC, h1, h2⟩)
def DPost (P : Program) (rs : Array ResultVar) (res : DV) : Exit → AS → Prop
  | .ret, σ | .normal, σ => ∃ d, ResV P ⟨σ.env, (idM, none) :: σ.heap, σ.used⟩ rs d ∧ DLe d res ∧ hget σ.heap idM = some openMark
  | _, _ => False
/-- a function with one loop over an iterator, on data, that gives data -/
theorem PCall.ofD {fn : FuncId} {func : Func} {c : Code} {args : List DV} {r : DV} {rs : Array ResultVar} (hf : P.funcs[fn]? = some func) (hn : func.ntmps = n) (hb : func.body = some c) (hrs : func.results = rs) (ha : Nat.ble args.length n = true) (hr : r.ids = [])
    (h : awpD P n c (DPost P rs r) ⟨params 0 args, [], []⟩) : PCall P fn args r := by
  subst hn hrs
  intro C F γ heap used w vs H hv
  have HE := H.enter func.ntmps id [] (fun i e h => by simp [hget, look] at h) (by simp) (by simp) (by simp) (fun i e h => by simp [hget, look] at h)
  have hG : innerG γ id (List.map (·.1) ([] : Heap)) = Gam.no := by funext i; simp [innerG, Gam.no]
  rw [hG] at HE
  refine (callsIn_wide (n := 0)).1 (callsIn_of_wp_marks hf hb trivial ?_)
  have hs : Sat (inner w F func.ntmps γ id []) F Gam.no ⟨params 0 args, [], []⟩ { tmps := vs.toArray ++ Array.replicate (func.ntmps - vs.toArray.size) undef, defers := [] } w :=
    ⟨params_sat hv (Nat.le_of_ble_eq_true ha), HE, by
      have := hv.len
      have := Nat.le_of_ble_eq_true ha
      simp [inner]; omega, rfl⟩
  refine wpIn_mono (h (inner w F func.ntmps γ id []) F Gam.no _ w rfl rfl rfl (by funext i; simp [inner, Gam.no]) hs) ?_
  rintro e a' w' ⟨C', F', γ', σ', hC, hs', hq⟩
  -- the results, read in a world where the mark is shut
  have fin : ∀ (w2 : World) (d : DV), Sat C' F' γ' ⟨σ'.env, (idM, none) :: σ'.heap, σ'.used⟩ a' w2 → ResV P ⟨σ'.env, (idM, none) :: σ'.heap, σ'.used⟩ func.results d → DLe d r →
      ∃ v, (results func a'.tmps).run P w2 = .ok v w2 ∧ (∃ v' F', Ending.returned v = .returned v' ∧ FLe F F' ∧ WS C F' γ heap used w2 ∧ Rs F' Gam.no r v') := by
    intro w2 d hs2 h1 h2
    obtain ⟨v, k1, k2⟩ := h1.run hs2
    have hI : WS (inner w F func.ntmps γ id []) F' γ' ((idM, none) :: σ'.heap) σ'.used w2 := by
      rcases hC with rfl | ⟨D, c1, c2, c3, c4, c5, c6, c7⟩
      · exact hs2.ws
      · exact hs2.ws.ctx c1.symm c2.symm c3.symm (fun i g h => by simp [inner] at h) (fun i g h => by simp [inner] at h)
    obtain ⟨_, _, j⟩ := H.join (f := id) (pre := []) (new := []) hI [] (by simp) (by simp) (by simp) (fun i e h => by simp [hget, look] at h) (by simp) (by simp) (fun i e h => by simp [hget, look] at h)
    have hg : outerG γ γ' id [] = γ := by funext i; unfold outerG; cases γ i <;> rfl
    rw [hg] at j
    exact ⟨v, k1, v, F', rfl, hI.f0, by simpa [renH] using j, Rs_ids r v (by rw [hr]; simp) (h2 _ _ _ k2)⟩
  have main : (∃ d, ResV P ⟨σ'.env, (idM, none) :: σ'.heap, σ'.used⟩ func.results d ∧ DLe d r ∧ hget σ'.heap idM = some openMark) → LeavesInM Fence.wide 0 P func a'.tmps (fun e w' => ∃ v F', e = .returned v ∧ FLe F F' ∧ WS C F' γ heap used w' ∧ Rs F' Gam.no r v) a'.defers .returning w' := by
    rintro ⟨d, h1, h2, h3⟩
    rcases id hC with rfl | ⟨D, c1, c2, c3, c4, c5, c6, c7⟩
    · rw [show a'.defers = [] from hs'.defers]
      exact fin w' d (hs'.congr (fun _ _ h => h) (fun i e he => by
        rw [hget_cons] at he
        split at he
        · cases he
        · exact he) (fun _ h => h)) h1 h2
    · rw [hs'.defers, c6]
      have hg : γ' idM = some (ptrTo D) := hs'.ws.g0 _ _ c7
      have hW := hs'.ws.setObj (.deferred none) h3 hg
      obtain ⟨g, k1, b, k2, k3⟩ := hs'.ws.ent idM _ h3
      rw [hg] at k1; injection k1 with k1; subst k1
      injection k2 with k2; injection k2 with k2; injection k2 with k2 _ _; subst k2
      refine ⟨by simp, .inl ⟨D, _, rfl, run_takeDeferred k3, ?_⟩⟩
      refine fin _ d ⟨hs'.env, hW.congr (fun i e he => ?_) (fun _ h => h), hs'.size, hs'.defers⟩ h1 h2
      simp only at he
      rw [hget_cons] at he ⊢
      split at he
      · cases he
      · rename_i e1; rw [if_neg e1]; exact he
  cases e with
  | ret => exact main hq
  | normal => exact main hq
  | exit id => exact hq.elim
  | goto l => exact hq.elim
  | panic c => exact hq.elim
  | outgrown => exact hq.elim
/-- what a round's body must come to -/
def RThen (P : Program) (n : Nat) (body : Code) (R R' : Obj) (Hn : Heap) (U : List Nat) : Exit → AS → Prop
  | .normal, σ => hget σ.heap idR = some (.obj R) ∧ awp P n body (fun e σ' => e = .normal ∧ Imp σ' ⟨[], (idR, some (.obj R')) :: (idM, some openMark) :: Hn, idR :: idM :: U⟩) ⟨σ.env, (idR, some (.obj R')) :: σ.heap, σ.used⟩
  | _, _ => False
theorem hget_drop {id : Nat} {x y : Option HE} {h : Heap} {i : Nat} {e : HE} (he : hget ((id, x) :: h) i = some e) : hget ((id, x) :: (id, y) :: h) i = some e := by
  rw [hget_cons] at he ⊢
  split at he
  · rename_i e1; rw [if_pos e1]; exact he
  · rename_i e1; rw [if_neg e1, hget_cons, if_neg e1]; exact he
theorem d_range {g : Operand} {t : Nat} {assign body : Code} {gf : FuncId} [hgf : CFn P gf] {caps ds : List DV} (hI : Iter P gf caps ds) (env : List (Nat × DV)) (H : Nat → Heap) (U : List Nat) (h0 : Imp σ ⟨env, H 0, U⟩)
    (hg : ev env g = some (.clo gf caps)) (hc : idsL caps = []) (hE : ∀ t d, look env t = some d → ∀ i ∈ d.ids, 100000 ≤ i) (hU : idR ∉ U) (hU' : idM ∉ U) (ht : t < n)
    (hround : ∀ k d (R R' : Obj), ds[k]? = some d → awp P n assign (RThen P n body R R' (H (k + 1)) U) ⟨(t, d) :: env, (idR, some (.obj R)) :: (idM, some openMark) :: H k, idR :: idM :: U⟩)
    (hq : Q .normal ⟨env, (idR, none) :: (idM, some openMark) :: H ds.length, idR :: idM :: U⟩) : awpD P n (.rangeFunc g #[t] assign body) Q σ := by
  intro C F γ a w hn hr hd hG hs
  obtain ⟨F1, γ1, h1⟩ := h0 C F γ a w hs
  have kg := h1.ev hg
  simp only [Rs] at kg
  obtain ⟨lb, eg, hlb⟩ := kg
  have hlb' : RsT F1 Gam.no caps lb.toList := RsT_ids caps _ (by rw [hc]; intro i hi; cases hi) hlb
  refine wpIn_rangeFunc ?_
  intro fn _
  obtain ⟨rec, hrec⟩ : ∃ rec : LoopState → Option Code → Loop, rec = fun st pe => { state := st, pending := pe, fn, tmps := a.tmps, params := #[t], assign, body, defers := w.heap.size } := ⟨_, rfl⟩
  obtain ⟨W1, hW1⟩ : ∃ W1, (w.alloc (.deferred (some []))).alloc (.loop (rec .ready none)) = W1 := ⟨_, rfl⟩
  have A1 := h1.ws.addNew hU' (.deferred (some [])) (e0 := openMark) (g := ptrTo w.heap.size) (fun b hb => by simp [ptrTo, Value.pblk] at hb; exact hb.symm) ⟨w.heap.size, rfl, World.alloc_heap_new w _⟩
  have hR1 : idR ∉ idM :: U := by
    intro h
    rcases List.mem_cons.1 h with h | h
    · exact absurd h (by decide)
    · exact hU h
  have A2 := A1.addNew hR1 (.loop (rec .ready none)) (e0 := .obj (.loop (rec .ready none))) (g := ptrTo (w.heap.size + 1)) (fun b hb => by simp [ptrTo, Value.pblk] at hb; rw [← hb]; simp) ⟨w.heap.size + 1, rfl, by
    have := World.alloc_heap_new (w.alloc (.deferred (some []))) (.loop (rec .ready none))
    rwa [World.size_alloc] at this⟩
  rw [hW1] at A2
  have hle12 : GLe γ1 ((γ1.up idM (ptrTo w.heap.size)).up idR (ptrTo (w.heap.size + 1))) := (Gam.up_le _ (h1.ws.fresh hU')).trans (Gam.up_le _ (A1.fresh hR1))
  obtain ⟨γ2, hγ2⟩ : ∃ γ2, (γ1.up idM (ptrTo w.heap.size)).up idR (ptrTo (w.heap.size + 1)) = γ2 := ⟨_, rfl⟩
  have gR : γ2 idR = some (ptrTo (w.heap.size + 1)) := by rw [← hγ2]; exact Gam.up_same _ _ _
  have gM : γ2 idM = some (ptrTo w.heap.size) := by rw [← hγ2]; simp [Gam.up, idM, idR]
  rw [hγ2] at A2 hle12
  obtain ⟨γr, hγr⟩ : ∃ γr : Gam, γr = fun i => if 100000 ≤ i then γ2 i else none := ⟨_, rfl⟩
  have rR : γr idR = some (ptrTo (w.heap.size + 1)) := by rw [hγr]; simp only [if_pos (show 100000 ≤ idR by decide)]; exact gR
  have rM : γr idM = some (ptrTo w.heap.size) := by rw [hγr]; simp only [if_pos (show 100000 ≤ idM by decide)]; exact gM
  have rk : ∀ id g, γr id = some g → 100000 ≤ id := fun id g h => by
    rw [hγr] at h
    simp only at h
    split at h
    · assumption
    · cases h
  have r2 : GLe γr γ2 := fun id g h => by
    have := rk id g h
    rw [hγr] at h
    simpa [this] using h
  -- what the slots hold
  have lift : ∀ (F' : FMap) (γ' : Gam), FLe F1 F' → GLe γr γ' → ∀ t d, look env t = some d → t < C.n ∧ Rs F' γ' d (a.tmps.getD t undef) := fun F' γ' hF hγ t d hl => by
    obtain ⟨q1, q2⟩ := h1.env t d hl
    refine ⟨q1, ?_⟩
    have q3 : Rs F1 γr d (a.tmps.getD t undef) := Rs_ids d _ (fun i hi => by rw [hγr]; simp [hE t d hl i hi]) (q2.mono (FLe.refl _) hle12)
    exact q3.mono hF hγ
  obtain ⟨Cr, hCr⟩ : ∃ Cr : Ctx, Cr = { C with G0 := γr } := ⟨_, rfl⟩
  have w0 : WS Cr F1 γ2 ((idR, some (.obj (.loop (rec .ready none)))) :: (idM, some openMark) :: H 0) (idR :: idM :: U) W1 := by
    rw [hCr]; exact A2.ctx rfl rfl rfl r2 rk
  obtain ⟨J, hJ⟩ : ∃ J : Nat → FMap → World → Prop, J = fun k F' w' => FLe F1 F' ∧ ∃ γ', WS Cr F' γ' ((idR, some (.obj (.loop (rec .ready none)))) :: (idM, some openMark) :: H k) (idR :: idM :: U) w' := ⟨_, rfl⟩
  have JO : JOk J := by
    rw [hJ]
    exact ⟨fun k F w F' w' ⟨q1, γ', q2⟩ G => ⟨q1.trans G.fle, γ', q2.grown G⟩, fun k F w ⟨_, γ', q2⟩ => q2.fs⟩
  have atR : ∀ {F' : FMap} {γ' : Gam} {h' : Heap} {u' : List Nat} {w' : World} {C' : Ctx} {o : Obj}, WS C' F' γ' h' u' w' → C'.G0 = γr → hget h' idR = some (.obj o) → γ' idR = some (ptrTo (w.heap.size + 1)) ∧ w'.heap[w.heap.size + 1]? = some o := by
    intro F' γ' h' u' w' C' o hw hG' hh
    have e1 : γ' idR = some (ptrTo (w.heap.size + 1)) := hw.g0 _ _ (by rw [hG']; exact rR)
    obtain ⟨g, k1, b, k2, k3⟩ := hw.ent idR _ hh
    rw [e1] at k1; injection k1 with k1; subst k1
    injection k2 with k2; injection k2 with k2; injection k2 with k2 _ _; subst k2
    exact ⟨e1, k3⟩
  have first : ∀ (x : HE) (h' : Heap), hget ((idR, some x) :: h') idR = some x := fun x h' => by rw [hget_cons, if_pos rfl]
  have Y : Ylds P (w.heap.size + 1) J ds := by
    intro k d v F' w' hk hj hv
    rw [hJ] at hj
    obtain ⟨hF, γ', hW⟩ := hj
    obtain ⟨g1, l1⟩ := atR hW (by rw [hCr]) (first _ _)
    have hy := run_yield (P := P) (args := #[v]) l1 (by rw [hrec]; rfl)
    rw [hrec] at hy
    simp only at hy
    refine ⟨fn, _, assign, body, hy, roundIn_of_wpIn trivial ?_⟩
    obtain ⟨CR, hCR⟩ : ∃ CR : Ctx, CR = { C with G0 := γr, ro := some (w.heap.size + 1), F0 := F', defs := [] } := ⟨_, rfl⟩
    have hWR : WS CR F' γ' ((idR, some (.obj (.loop (rec .ready none)))) :: (idM, some openMark) :: H k) (idR :: idM :: U) w' := by
      rw [hCR]; rw [hCr] at hW
      exact hW.reF.ctx rfl rfl rfl hW.g0 rk
    have hgr : GLe γr γ' := by have := hW.g0; rw [hCr] at this; exact this
    have S : Sat CR F' γ' ⟨(t, d) :: env, (idR, some (.obj (.loop (rec .ready none)))) :: (idM, some openMark) :: H k, idR :: idM :: U⟩ { tmps := (Array.zip #[t] #[v]).foldl (fun tmps x => tmps.setIfInBounds x.1 x.2) a.tmps, defers := [] } w' := by
      have et : (Array.zip #[t] #[v]).foldl (fun tmps x => tmps.setIfInBounds x.1 x.2) a.tmps = a.tmps.setIfInBounds t v := by simp
      rw [et]
      refine ⟨fun t' d' hl => ?_, hWR, by rw [hCR]; simpa using h1.size, by rw [hCR]⟩
      simp only at hl
      rw [look_cons] at hl
      have hsz : a.tmps.size = C.n := h1.size
      split at hl
      · rename_i e1; subst e1; injection hl with hl; subst hl
        have hlt : t < a.tmps.size := by rw [hsz, hn]; exact ht
        refine ⟨by rw [hCR]; simp only; rw [hn]; exact ht, ?_⟩
        have : (a.tmps.setIfInBounds t v).getD t undef = v := by simp [Array.getD, hlt]
        rw [this]
        exact hv.mono (FLe.refl _) (GLe.no _)
      · rename_i e1
        obtain ⟨q1, q2⟩ := lift F' γ' hF hgr t' d' hl
        refine ⟨by rw [hCR]; exact q1, ?_⟩
        have : (a.tmps.setIfInBounds t v).getD t' undef = a.tmps.getD t' undef := by
          by_cases hb : t' < a.tmps.size
          · simp [Array.getD, hb, Array.getElem_setIfInBounds, e1]
          · simp [Array.getD, hb]
        rw [this]; exact q2
    have hCn : CR.n = n := by rw [hCR]; exact hn
    have hro : CR.ro = some (w.heap.size + 1) := by rw [hCR]
    have hGR : CR.G0 = γr := by rw [hCR]
    have hFR : CR.F0 = F' := by rw [hCR]
    have step1 := hround k d (.loop (rec .ready none)) (.loop { rec .ready none with state := .busy }) hk CR F' γ' _ w' hCn S
    rw [hro] at step1
    refine wpIn_mono step1 ?_
    rintro e a1 w1 ⟨F2, γ2', σ1, s1, q⟩
    cases e with
    | normal =>
      obtain ⟨q1, q2⟩ := q
      obtain ⟨g2, l2⟩ := atR s1.ws hGR q1
      refine ⟨_, run_beginRound l2 (by rw [hrec]), ?_⟩
      have S2 : Sat CR F2 γ2' ⟨σ1.env, (idR, some (.obj (.loop { rec .ready none with state := .busy }))) :: σ1.heap, σ1.used⟩ a1 (w1.putObj (w.heap.size + 1) (.loop { rec .ready none with state := .busy })) := ⟨s1.env, s1.ws.setObj _ q1 g2, s1.size, s1.defers⟩
      have step2 := q2 CR F2 γ2' a1 _ hCn S2
      rw [hro] at step2
      refine wpIn_mono step2 ?_
      rintro e a2 w3 ⟨F3, γ3, σ3, s3, rfl, himp⟩
      obtain ⟨F4, γ4, s4⟩ := himp CR F3 γ3 a2 w3 s3
      obtain ⟨g4, l4⟩ := atR s4.ws hGR (first _ _)
      refine ⟨_, _, run_endRound none l4, F4, rfl, by have := s4.ws.f0; rwa [hFR] at this, ?_⟩
      rw [hJ]
      refine ⟨hF.trans (by have := s4.ws.f0; rwa [hFR] at this), γ4, ?_⟩
      have e3 := s4.ws.setObj (.loop (rec .ready none)) (first _ _) g4
      have e4 : ({ { rec .ready none with state := .busy } with state := if (none : Option Code).isNone then .ready else .done, pending := none } : Loop) = rec .ready none := by rw [hrec]; rfl
      rw [e4]
      have e5 : WS CR F4 γ4 ((idR, some (.obj (.loop (rec .ready none)))) :: (idM, some openMark) :: H (k + 1)) (idR :: idM :: U) (w3.putObj (w.heap.size + 1) (.loop (rec .ready none))) := e3.congr (fun i e he => hget_drop he) (fun _ h => h)
      refine hW.unF ?_
      rw [hCr]
      rw [hCR] at e5
      exact e5.ctx rfl rfl rfl e5.g0 rk
    | exit id => exact q.elim
    | goto l => exact q.elim
    | ret => exact q.elim
    | panic c => exact q.elim
    | outgrown => exact q.elim
  refine ⟨w.heap.size + 1, [markD w.heap.size], W1, { target := .fn (.func gf) lb, args := #[.func (.yield (w.heap.size + 1)) #[] #[]] }, W1, gf, #[.func (.yield (w.heap.size + 1)) #[] #[]] ++ lb, W1, ?_, ?_, fun _ _ => trivial, ?_, fun h => by simp [FW, Fence.wide] at h, ?_⟩
  · rw [← hW1, hrec]; exact run_enterLoop_outer _ _ _ _ _
  · simp only [resolve, eg]
    simp [go_sem]
  · simp [invoke, run_callFunc]
  · have hJ0 : J 0 F1 W1 := by rw [hJ]; exact ⟨FLe.refl _, γ2, w0⟩
    have := hI (w.heap.size + 1) J F1 W1 lb.toList JO Y hJ0 hlb'
    simp only [Array.toArray_toList] at this
    refine this.mono ?_
    rintro e W2 ⟨v, F2, rfl, hF, hj⟩
    rw [hJ] at hj
    obtain ⟨_, γ', hW⟩ := hj
    obtain ⟨g1, l1⟩ := atR hW (by rw [hCr]) (first _ _)
    have hgr : GLe γr γ' := by have := hW.g0; rw [hCr] at this; exact this
    refine ⟨none, W2.putObj (w.heap.size + 1) (.loop { rec .ready none with state := .exhausted }), ?_, ?_⟩
    · have := run_endLoop (P := P) l1 (by rw [hrec]; simp)
      rw [hrec] at this ⊢
      exact this
    · refine ⟨{ C with G0 := γr, defs := [markD w.heap.size] }, F2, γ', ⟨env, (idR, none) :: (idM, some openMark) :: H ds.length, idR :: idM :: U⟩, .inr ⟨w.heap.size, rfl, rfl, rfl, rfl, hr, rfl, rM⟩, ⟨fun t' d' hl => lift F2 γ' hF hgr t' d' hl, ?_, h1.size, ?_⟩, hq⟩
      · have e3 := hW.setObj (.loop { rec .ready none with state := .exhausted }) (first _ _) g1
        rw [hCr] at e3
        have e4 := e3.ctx (C' := { C with G0 := γr, defs := [markD w.heap.size] }) rfl rfl rfl hgr rk
        refine e4.congr (fun i e he => ?_) (fun _ h => h)
        simp only at he
        rw [hget_cons] at he
        split at he
        · cases he
        · rename_i e1
          rw [hget_cons, if_neg e1, hget_cons, if_neg e1]; exact he
      · simp only [h1.defers, hd, List.append_nil]
end
end Go.Proofs.YtepkcbalmjnhpaaGreat
