/-
  The engine, more rules: what slices.Grow, Concat, Clone ask; a row cut short.
-/
import Derived.Test.YtepkcbalmjnhpaaGreatEngV
import Derived.Lib.AppendZerosOnto
set_option linter.unusedVariables false
set_option linter.unusedSimpArgs false
namespace Go.Proofs.YtepkcbalmjnhpaaGreat
open Go.RowKit
section
variable {P : Program} {ops : Array Oper} {σ : AS} {t : Nat} {ty : TypeId} {pos : String} {af : Array Edge}
theorem o_cap_n {T e : TypeId} {sz0 by0 : Nat} {zd : DV} [hT : CSl P T e sz0 by0 zd] {x : Operand} (hx : ev σ.env x = some .nils) : OpG P ops ⟨some t, .call ⟨.builtin .cap, #[x], #[T]⟩, ty, pos, af, none⟩ (tm x) [] σ ⟨[(t, .int .i64 0)], [], []⟩ :=
  OpG.val rfl rfl fun C F γ σ' a w h1 _ hs => by
    have k1 := hs.ev ((ev_agree h1 (fun _ h => h)).trans hx)
    simp only [Rs] at k1
    exact ⟨.int .i64 0, by simp [execOp, resolve, invoke, builtin, Builtin.cap_, run_underlying hT.und, k1, goInt], by simp only [Rs]⟩
theorem o_slice_nn {T e : TypeId} {sz by0 : Nat} {zd : DV} [hT : CSl P T e sz by0 zd] {x y : Operand} {k : IntKind} (hx : ev σ.env x = some .nils) (hy : ev σ.env y = some (.int k 0)) :
    OpG P ops ⟨some t, .slice T x none (some y) none, ty, pos, af, none⟩ (tm x ++ tm y) [] σ ⟨[(t, .nils)], [], []⟩ :=
  OpG.val rfl rfl fun C F γ σ' a w hag _ hs => by
    obtain ⟨k1, k2⟩ := ev2 hs hag hx hy
    simp only [Rs] at k1
    have hb := run_bounds (P := P) hs (lo := none) (hi := some y) (l := 0) (h := 0) (len := 0) (cap := 0) Bd.no (Bd.at ((ev_agree hag (fun _ h => by simp [h])).trans hy) rfl) (Nat.le_refl 0) (Nat.le_refl 0)
    simp only [Option.map_none, Option.map_some] at hb
    refine ⟨.slice none 0 0, ?_, by simp only [Rs]⟩
    simp [execOp, Instr.sliceAt, Instr.slice, run_underlying hT.und, k1, hb, hT.size]
theorem o_append_zn {T T2 e : TypeId} {sz bytes : Nat} {zd : DV} [hT : CSl P T e sz bytes zd] {k2 : IntKind} [hI : TInt P T2 k2] {x y : Operand} {k : IntKind} {n : Int} (m : Nat) (hx : ev σ.env x = some .nils) (hy : ev σ.env y = some (.int k n)) (hn : n = (m : Int)) (hm : 0 < m) (hb : m * bytes ≤ 140737488355328 ∧ m ≤ 140737488355328) (hz : (zd.cs.all DV.one) = true) :
    OpG P ops ⟨some t, .call ⟨.builtin .append, #[x, y], #[T, T2]⟩, ty, pos, af, none⟩ (tm x ++ tm y) [] σ ⟨[(t, .row t)], [(t, some (.row e sz (List.replicate m zd)))], [t]⟩ :=
  OpG.gen rfl rfl fun C F γ σ' a w hag h2 h3 hs => by
    obtain ⟨k1, k2⟩ := ev2 hs hag hx hy
    simp only [Rs] at k1 k2
    have hnu : t ∉ σ'.used := h3 t (by simp)
    obtain ⟨z, hEl, hzd⟩ := hT.h
    obtain ⟨i, hi, hiz, hisz, hiby⟩ := hEl.info
    have ho := zero_one (T := T) hzd hz
    subst hn
    have hcap := grownCap_ge w (0 + m) 0 e
    have hcap2 := grownCap_le_maxLen w (0 + m) 0 e (by unfold maxLen; omega)
    have hnx : Builtin.nextslicecap (0 + m) 0 = m := by simp [Builtin.nextslicecap]; omega
    have hrun := Lib.run_append_grow_zeros (P := P) w T T2 ty e i z k _ hEl.under hI.h hi hiz none 0 0 [] (by simp [Builtin.firstCells]) m hm (by rw [hisz]; exact hEl.pos) (by omega) (by omega) (by rw [hiby]; omega) (by rw [hnx, hiby]; omega)
    generalize grownCap w (0 + m) 0 e = cap at hrun hcap hcap2
    refine ⟨.slice (some ⟨w.heap.size, 0, none⟩) (0 + m) cap, _, F, γ.up t (.slice (some ⟨w.heap.size, 0, none⟩) (0 + m) cap), by simp [execOp, resolve, invoke, builtin, k1, k2, hrun]; rfl, FLe.refl _, Gam.up_le _ (hs.ws.fresh hnu), ?_, ?_⟩
    · refine (hs.ws.quiet (Stp.drew w)).addNew hnu _ (fun b hb => by simp [Value.pblk] at hb; exact hb.symm) ?_
      have hzs : z.cells.size = sz := hEl.zsize
      have hz0 : 0 < z.cells.size := by rw [hzs]; exact hEl.pos
      have e1 : ∀ q, (Builtin.zeroCells z.cells q).toList = (List.replicate q z.cells.toList).flatten := fun q => madeCells_flat z.cells hz0 q
      have hlen : ((List.replicate m z.cells.toList).flatten).length = m * sz := by simp [hzs]
      refine ⟨(List.replicate m z.cells.toList).flatten, ⟨by simp [hzs], .inr ⟨w.heap.size, cap, _, by simp, Nat.zero_le _, heap_alloc_new w.drew _, by simp; omega, hcap2, ?_, ?_⟩⟩, RsE.replicate hzs ho (zeroDV_rs hzd ho F) m⟩
      · simp only [Array.size_append, size_zeroCells, hzs, Nat.zero_add]
        have : m + (cap - m) = cap := by omega
        rw [← Nat.add_mul, this]
      · rw [List.length_replicate]
        simp only [Array.toList_append, e1, List.nil_append, Nat.zero_add]
        rw [← hlen]
        simp
    · simp only [Rs]; exact Gam.up_same _ _ _
/-- a row cut short -/
theorem o_slice_r {T e : TypeId} {sz by0 : Nat} {zd : DV} [hT : CSl P T e sz by0 zd] {x y : Operand} {id : Nat} {k : IntKind} {els : List DV} {n : Int} (h : Nat) (hx : ev σ.env x = some (.row id)) (hh : hget σ.heap id = some (.row e sz els)) (hy : ev σ.env y = some (.int k n)) (hn : n = (h : Int)) (hle : h ≤ els.length) :
    OpG P ops ⟨some t, .slice T x none (some y) none, ty, pos, af, none⟩ (tm x ++ tm y) [id] σ ⟨[(t, .row t)], [(t, some (.row e sz (els.take h))), (id, none)], [t]⟩ :=
  OpG.gen rfl rfl fun C F γ σ' a w hag h2 h3 hs => by
    obtain ⟨k1, k2⟩ := ev2 hs hag hx hy
    have hnu : t ∉ σ'.used := h3 t (by simp)
    have hh' := (h2 id (by simp)).trans hh
    obtain ⟨A0, c0, vs0, e0, hg0, ho0, hE0⟩ := rs_row hs k1 hh'
    have hc : els.length ≤ c0 := by
      rcases ho0.2 with ⟨q, q2⟩ | ⟨b, cap, cur, q, _, _, q2, _⟩
      · omega
      · rw [e0] at q; injection q with _ _ q; omega
    have hb := run_bounds (P := P) hs (lo := none) (hi := some y) (l := 0) (h := h) (len := els.length) (cap := c0) Bd.no (Bd.at ((ev_agree hag (fun _ h => by simp [h])).trans hy) hn) (Nat.zero_le _) (by omega)
    simp only [Option.map_none, Option.map_some] at hb
    have hA : A0 = none ∨ ∃ b, A0 = some ⟨b, 0, none⟩ := by
      rcases ho0.2 with ⟨q, _⟩ | ⟨b, cap, cur, q, _⟩
      · rw [e0] at q; injection q with q _ _; exact .inl q
      · rw [e0] at q; injection q with q _ _; exact .inr ⟨b, q⟩
    have hA2 : (if c0 = 0 then A0 else A0.map (·.add (0 * sz))) = A0 := by
      rcases hA with rfl | ⟨b, rfl⟩
      · simp
      · simp [Addr.add]
    have hown : w.ownsRow 0 e sz (.slice A0 h c0) (els.take h).length (vs0.take (h * sz)) := by
      have hl : (els.take h).length = h := by simp; omega
      rw [hl]
      refine ⟨?_, ?_⟩
      · have := ho0.1
        rw [List.length_take, this]
        exact Nat.min_eq_left (Nat.mul_le_mul_right _ hle)
      · rcases ho0.2 with ⟨q, q2⟩ | ⟨b, cap, cur, q, q1, q2, q3, q4, q5, q6⟩
        · rw [e0] at q; injection q with q _ q3
          have : h = 0 := by omega
          subst this
          exact .inl ⟨by rw [q, q3], rfl⟩
        · rw [e0] at q; injection q with q _ q7
          refine .inr ⟨b, cap, cur, by rw [q, q7], q1, q2, by omega, q4, q5, ?_⟩
          rw [← q6, List.take_take, Nat.min_eq_left (Nat.mul_le_mul_right _ hle)]
    refine ⟨.slice A0 h c0, w, F, γ.up t (.slice A0 h c0), ?_, FLe.refl _, Gam.up_le _ (hs.ws.fresh hnu), ?_, ?_⟩
    · have : a.eval x = .slice A0 els.length c0 := e0
      simp [execOp, Instr.sliceAt, Instr.slice, run_underlying hT.und, this, hb, hT.size]
      have := hA2
      simp at this
      exact this
    · refine (hs.ws.forget id).add hnu ⟨_, hown, hE0.take h⟩ (fun b hb' => ?_)
      have hpb : Value.pblk (a.eval x) = some b := by
        rw [e0]
        rcases hA with rfl | ⟨b', rfl⟩
        · simp [Value.pblk] at hb'
        · simpa [Value.pblk] using hb'
      have q := hs.ws.own id _ _ b hh' hg0 hpb
      refine ⟨q.1, q.2, fun id' e' g' hh2 hg' hb'' => ?_⟩
      rw [hget_cons] at hh2
      split at hh2
      · cases hh2
      · rename_i hne; exact hne (hs.ws.apart id id' _ e' _ g' b hh' hh2 hg0 hg' hpb hb'')
    · simp only [Rs]; exact Gam.up_same _ _ _
theorem t_slice_r {T e : TypeId} {sz by0 : Nat} {zd : DV} [hT : CSl P T e sz by0 zd] {x y : Operand} {id : Nat} {k : IntKind} {α : Type} {f : α → DV} {xs : List α} {n : Int} (h : slOk xs.length 0 n) (hx : ev σ.env x = some (.row id)) (hh : hget σ.heap id = some (.row e sz (xs.map f))) (hy : ev σ.env y = some (.int k n)) :
    OpG P ops ⟨some t, .slice T x none (some y) none, ty, pos, af, none⟩ (tm x ++ tm y) [id] σ ⟨[(t, .row t)], [(t, some (.row e sz ((xs.take n.toNat).map f))), (id, none)], [t]⟩ := by
  obtain ⟨h1, h2, h3⟩ := h
  refine (o_slice_r n.toNat hx hh hy (by omega) (by simp; omega)).cast (by rw [List.map_take])
theorem t_append_zn {T T2 e : TypeId} {sz bytes : Nat} {zd : DV} [hT : CSl P T e sz bytes zd] {k2 : IntKind} [hI : TInt P T2 k2] {x y : Operand} {k : IntKind} {n : Int} {α : Type} (f : α → DV) (z : α) (h : 0 < n ∧ apOk bytes n.toNat) (hx : ev σ.env x = some .nils) (hy : ev σ.env y = some (.int k n)) (hz : (zd.cs.all DV.one) = true) (hf : f z = zd) :
    OpG P ops ⟨some t, .call ⟨.builtin .append, #[x, y], #[T, T2]⟩, ty, pos, af, none⟩ (tm x ++ tm y) [] σ ⟨[(t, .row t)], [(t, some (.row e sz ((List.replicate n.toNat z).map f)))], [t]⟩ := by
  obtain ⟨h1, h2, h3⟩ := h
  exact (o_append_zn n.toNat hx hy (by omega) (by omega) ⟨h2, h3⟩ hz).cast (by rw [List.map_replicate, hf])
theorem o_indexAddr_pa {T n e sz0 : Nat} [hT : CArr P T n e sz0] {x y : Operand} {id j sz o : Nat} {k : IntKind} {m : Int} (i : Nat) (hx : ev σ.env x = some (.rp id j sz o)) (hy : ev σ.env y = some (.int k m)) (hm : m = (i : Int)) (hi : i < n) :
    OpG P ops ⟨some t, .indexAddr T x y, ty, pos, af, none⟩ (tm x ++ tm y) [] σ ⟨[(t, .rp id j sz (o + i * sz0))], [], []⟩ :=
  OpG.val rfl rfl fun C F γ σ' a w hag _ hs => by
    obtain ⟨k1, k2⟩ := ev2 hs hag hx hy
    simp only [Rs] at k1 k2
    obtain ⟨b, n', c, hg, e⟩ := k1
    subst hm
    refine ⟨.pointer (some ⟨b, j * sz + (o + i * sz0), none⟩), ?_, by simp only [Rs]; exact ⟨b, n', c, hg, rfl⟩⟩
    by_cases h0 : i * sz0 = 0
    · simp [execOp, Instr.indexAt, e, k2, asIntOf, run_underlying hT.u, Instr.sureAddr, hi, hT.size, Addr.add, h0]
    · simp [execOp, Instr.indexAt, e, k2, asIntOf, run_underlying hT.u, Instr.sureAddr, hi, hT.size, Addr.add, h0, Nat.add_assoc]
theorem o_indexAddr_ea {T n e sz0 : Nat} [hT : CArr P T n e sz0] {x y : Operand} {ds ds' : List DV} {k : IntKind} {m : Int} (i : Nat) (hx : ev σ.env x = some (.eptr ds)) (hy : ev σ.env y = some (.int k m)) (hm : m = (i : Int)) (hi : i < n) (hd : ds.drop (i * sz0) = ds') :
    OpG P ops ⟨some t, .indexAddr T x y, ty, pos, af, none⟩ (tm x ++ tm y) [] σ ⟨[(t, .eptr ds')], [], []⟩ :=
  OpG.val rfl rfl fun C F γ σ' a w hag _ hs => by
    obtain ⟨k1, k2⟩ := ev2 hs hag hx hy
    simp only [Rs] at k1 k2
    obtain ⟨b, o, cs, vs, rest, e, hF, hcs, hl⟩ := k1
    subst hm
    refine ⟨.pointer (some ⟨b, o + i * sz0, none⟩), ?_, ?_⟩
    · by_cases h0 : i * sz0 = 0
      · simp [execOp, Instr.indexAt, e, k2, asIntOf, run_underlying hT.u, Instr.sureAddr, hi, hT.size, Addr.add, h0]
      · simp [execOp, Instr.indexAt, e, k2, asIntOf, run_underlying hT.u, Instr.sureAddr, hi, hT.size, Addr.add, h0]
    · simp only [Rs]
      by_cases hlen : i * sz0 ≤ vs.length
      · refine ⟨b, o + i * sz0, cs, vs.drop (i * sz0), rest, rfl, hF, ?_, ?_⟩
        · rw [← List.drop_drop, hcs, List.drop_append_of_le_length hlen]
        · rw [← hd]; exact hl.drop _
      · refine ⟨b, o + i * sz0, cs, [], cs.toList.drop (o + i * sz0), rfl, hF, by simp, ?_⟩
        have : ds' = [] := by
          rw [← hd]
          apply List.drop_eq_nil_of_le
          have := hl.len
          omega
        rw [this]; simp only [RsL]
/-- a call of a function through a variable -/
theorem o_callF {f : FuncId} [hf : CFn P f] {x : Operand} {xs : Array Operand} {ats : Array TypeId} {ds args : List DV} {r : DV} (hc : PCall P f args r) (hx : ev σ.env x = some (.val (.func (.func f) #[] #[]))) (ha : evL σ.env xs.toList = some ds) (hle : DLeL ds args) (hp : idsL args = []) :
    OpG P ops ⟨some t, .call ⟨.value x, xs, ats⟩, ty, pos, af, none⟩ (tm x ++ xs.toList.flatMap tm) [] σ ⟨[(t, r)], [], []⟩ := by
  intro C F γ σ' a w h1 h2 h3 h4 hs K Q hK
  simp only [Region.wanted, ↓reduceIte]
  have kx := hs.ev ((ev_agree h1 (fun _ h => List.mem_append_left _ h)).trans hx)
  simp only [Rs] at kx
  have hrun : (execOp a.eval ⟨some t, .call ⟨.value x, xs, ats⟩, ty, pos, af, none⟩).run P w = .ok (.enter f (xs.map a.eval)) w := by
    simp [execOp, resolve, kx, Deferred.ofValue, invoke, run_callFunc]
  refine wpIn_of_enter (fun c hc => by cases hc) hrun ?_
  have hv := hle.rsT (hs.evs ((evL_agree h1 (fun _ h => List.mem_append_right _ h)).trans ha))
  have hv' : RsT F Gam.no args (xs.toList.map a.eval) := RsT_ids args _ (by rw [hp]; simp) hv
  have e : (xs.toList.map a.eval).toArray = xs.map a.eval := by rw [← Array.toList_map]
  have := hc C F γ σ'.heap σ'.used w _ hs.ws hv'
  rw [e] at this
  refine this.mono ?_
  rintro e w' ⟨v, F', rfl, k1, k2, k3⟩
  exact ⟨v, rfl, hK F' γ _ _ k1 ((hs.mono k1 (GLe.refl _) k2).put (h4 t rfl) (k3.mono (FLe.refl _) (GLe.no _)))⟩
theorem DLeL.replicate {d d' : DV} (h : DLe d d') : ∀ n, DLeL (List.replicate n d) (List.replicate n d')
  | 0 => .nil
  | n + 1 => .cons h (DLeL.replicate h n)
theorem t_append_znW {T T2 e : TypeId} {sz bytes : Nat} {zd : DV} [hT : CSl P T e sz bytes zd] {k2 : IntKind} [hI : TInt P T2 k2] {x y : Operand} {k : IntKind} {n : Int} {α : Type} (f : α → DV) (z : α) (h : 0 < n ∧ apOk bytes n.toNat) (hx : ev σ.env x = some .nils) (hy : ev σ.env y = some (.int k n)) (hz : (zd.cs.all DV.one) = true) (hf : DLe zd (f z)) :
    OpG P ops ⟨some t, .call ⟨.builtin .append, #[x, y], #[T, T2]⟩, ty, pos, af, none⟩ (tm x ++ tm y) [] σ ⟨[(t, .row t)], [(t, some (.row e sz ((List.replicate n.toNat z).map f)))], [t]⟩ := by
  obtain ⟨h1, h2, h3⟩ := h
  rw [List.map_replicate]
  exact (o_append_zn n.toNat hx hy (by omega) (by omega) ⟨h2, h3⟩ hz).wkRow (DLeL.replicate hf _)
theorem t_makeW {T e : TypeId} {sz bytes : Nat} {zd : DV} [hT : CSl P T e sz bytes zd] {x y : Operand} {k k' : IntKind} {l c : Int} {α : Type} (f : α → DV) (z : α) (h : mkOk bytes l c) (hx : ev σ.env x = some (.int k l)) (hy : ev σ.env y = some (.int k' c)) (hz : (zd.cs.all DV.one) = true) (hf : DLe zd (f z)) :
    OpG P ops ⟨some t, .makeSlice T x y, ty, pos, af, none⟩ (tm x ++ tm y) [] σ ⟨[(t, .row t)], [(t, some (.row e sz ((List.replicate l.toNat z).map f)))], [t]⟩ := by
  have h' := h
  unfold mkOk at h'
  obtain ⟨h1, h2, h3, h4⟩ := h'
  rw [List.map_replicate]
  refine (o_make l.toNat c.toNat hx hy (by omega) (by omega) (by omega) ⟨?_, by omega⟩ hz).wkRow (DLeL.replicate hf _)
  have : ((bytes * c.toNat : Nat) : Int) = bytes * c := by rw [Int.natCast_mul, ← toNat_of (by omega)]
  omega
end
section
variable {P : Program} {n : Nat} {Q : Exit → AS → Prop} {σ : AS}
theorem a_postN {rs : Array ResultVar} {res d : DV} {post : Heap} (h : ResV P σ rs d) (hle : DLe d res) (hp : ∀ i e, hget post i = some e → hget σ.heap i = some e) : BPost P rs res post .normal σ := ⟨d, h, hle, hp⟩
theorem a_tail {c : Code} {α : Type} (S : α → AS) (I : α → Prop) (h : awp P n c (QCut S I Q) σ) (k : ∀ x, I x → Q .normal (S x)) : awp P n c Q σ := fun C F γ a w hn hs =>
  wpIn_mono (h C F γ a w hn hs) fun e a' w' ⟨F', γ', σ', h1, h2⟩ => by
    cases e with
    | normal =>
      obtain ⟨x', i1, i2⟩ := h2
      obtain ⟨F2, γ2, s2⟩ := i2 C F' γ' a' w' h1
      exact ⟨F2, γ2, S x', s2, k x' i1⟩
    | exit id => exact ⟨F', γ', σ', h1, h2⟩
    | goto l => exact ⟨F', γ', σ', h1, h2⟩
    | ret => exact ⟨F', γ', σ', h1, h2⟩
    | panic c => exact ⟨F', γ', σ', h1, h2⟩
    | outgrown => exact ⟨F', γ', σ', h1, h2⟩
/-- the end of a function without a return -/
def NEnd (Q : Exit → AS → Prop) (σ : AS) : Prop := ∃ σ', Imp σ σ' ∧ Q .normal σ'
def NQ (Q : Exit → AS → Prop) : Exit → AS → Prop
  | .normal, σ => NEnd Q σ
  | e, σ => Q e σ
theorem n_imp {σ' : AS} (h : Imp σ σ') (k : NEnd Q σ') : NEnd Q σ := by obtain ⟨τ, h1, h2⟩ := k; exact ⟨τ, h.trans h1, h2⟩
theorem n_done (h : Q .normal σ) : NEnd Q σ := ⟨σ, Imp.refl _, h⟩
theorem a_end {c : Code} (h : awp P n c (NQ Q) σ) : awp P n c Q σ := fun C F γ a w hn hs =>
  wpIn_mono (h C F γ a w hn hs) fun e a' w' ⟨F', γ', σ', h1, h2⟩ => by
    cases e with
    | normal =>
      obtain ⟨τ, i1, i2⟩ := h2
      obtain ⟨F2, γ2, s2⟩ := i1 C F' γ' a' w' h1
      exact ⟨F2, γ2, τ, s2, i2⟩
    | exit id => exact ⟨F', γ', σ', h1, h2⟩
    | goto l => exact ⟨F', γ', σ', h1, h2⟩
    | ret => exact ⟨F', γ', σ', h1, h2⟩
    | panic c => exact ⟨F', γ', σ', h1, h2⟩
    | outgrown => exact ⟨F', γ', σ', h1, h2⟩
/-- is a slice nil: nobody knows, but that an element says no -/
theorem a_isnil {id t t0 : Nat} {x : Operand} {T T' ty0 ty : TypeId} {pos0 pos : String} {af0 af : Array Edge} {e : TypeId} {sz by0 : Nat} {zd : DV} [hT : CSl P T e sz by0 zd] {sz' : Nat} {els : List DV} (hx : ev σ.env x = some (.sl sz' els)) (ht0 : t0 < n) (ht : t < n)
    (hq : ∀ b : Bool, (b = true → els = []) → Q .normal ⟨(t, .bool b) :: (t0, .sl sz' els) :: σ.env, σ.heap, σ.used⟩) :
    awp P n (.region id #[⟨some t0, .move x, ty0, pos0, af0, none⟩, ⟨some t, .binOp .eql T (.tmp t0) (.const (.slice none 0 0)) T', ty, pos, af, none⟩] false) Q σ := by
  intro C F γ a w hn hs
  have kx := hs.ev hx
  have hs1 : Sat C F γ ⟨(t0, .sl sz' els) :: σ.env, σ.heap, σ.used⟩ (a.put (some t0) (a.eval x)) w := hs.put (by rw [hn]; exact ht0) kx
  have hlt : t0 < a.tmps.size := by rw [hs.size, hn]; exact ht0
  have hmv : (execOp a.eval ⟨some t0, .move x, ty0, pos0, af0, none⟩).run P w = .ok (.value (a.eval x)) w := by simp [execOp]
  generalize a.eval x = v at kx hs1 hmv
  simp only [Rs] at kx
  obtain ⟨A, c, rfl, hok, _⟩ := kx
  refine wpIn_region ?_
  simp only [show (#[(⟨some t0, .move x, ty0, pos0, af0, none⟩ : Oper), ⟨some t, .binOp .eql T (.tmp t0) (.const (.slice none 0 0)) T', ty, pos, af, none⟩]).size = 2 from rfl, List.range_succ, List.range_zero, List.nil_append, List.cons_append, wpOpsIn_cons]
  refine wpIn_of_val hmv ?_
  have e0 : (a.put (some t0) (.slice A els.length c)).eval (.tmp t0) = .slice A els.length c := by
    simp [Act.eval, Act.put, Array.getD, hlt]
  have e1 : binOp .eql T (.slice A els.length c) (.slice none 0 0) = (do pure (.bool (← Op.equal T (.slice A els.length c) (.slice none 0 0)))) := by cases A <;> rfl
  have e2 : eqGuard .eql T (.tmp t0) (.const (.slice none 0 0)) (.slice A els.length c) (.slice none 0 0) = pure () := rfl
  have e3 : (Op.equal T (.slice A els.length c) (.slice none 0 0)).run P w = .ok A.isNone w := by
    have : ∀ m, (Op.equalIn (m + 1) T (.slice A els.length c) (.slice none 0 0)).run P w = .ok A.isNone w := fun m => by cases A <;> simp [Op.equalIn, run_underlying hT.und]
    exact this 9999
  have hop : (execOp (a.put (some t0) (.slice A els.length c)).eval ⟨some t, .binOp .eql T (.tmp t0) (.const (.slice none 0 0)) T', ty, pos, af, none⟩).run P w = .ok (.value (.bool A.isNone)) w := by
    have e4 : (a.put (some t0) (.slice A els.length c)).eval (.const (.slice none 0 0)) = .slice none 0 0 := rfl
    simp only [execOp, e0, e4, e1, e2, Sem.run_bind, Sem.run_pure, Result.andThen_ok, e3]
  refine wpIn_of_val hop ?_
  · have := hs1.put (t := t) (by rw [hn]; exact ht) (d := .bool A.isNone) (v := .bool A.isNone) (by simp only [Rs])
    refine ⟨F, γ, _, this, hq A.isNone (fun hA => ?_)⟩
    have hN : A = none := by simpa using hA
    have := (hok.1 hN).1
    exact List.eq_nil_of_length_eq_zero this
end
end Go.Proofs.YtepkcbalmjnhpaaGreat
