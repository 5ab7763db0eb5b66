/-
  What the claim leans on, part 8.
-/
import Derived.Test.YtepkcbalmjnhpaaGreatCAd7
import Derived.Lib.AppendZerosOnto
set_option linter.unusedVariables false
set_option linter.unusedSimpArgs false
namespace Go.Proofs.YtepkcbalmjnhpaaGreat
open Go.RowKit
section
variable {P : Program} {ops : Array Oper} {σ : AS} {t : Nat} {ty : TypeId} {pos : String} {af : Array Edge}
theorem o_cap_n {T e : TypeId} {sz0 by0 : Nat} {zd : DV} [hT : CSl P T e sz0 by0 zd] {x : Operand} (hx : ev σ.env x = some .nils) : OpG P ops ⟨some t, .call ⟨.builtin .cap, #[x], #[T]⟩, ty, pos, af, none⟩ (tm x) [] σ ⟨[(t, .int .i64 0)], [], []⟩ :=
  OpG.val rfl rfl fun C F γ σ' a w h1 _ hs => by
    have k1 := hs.ev ((ev_agree h1 (fun _ h => h)).trans hx)
    simp only [Rs] at k1
    exact ⟨.int .i64 0, by simp [execOp, resolve, invoke, builtin, Builtin.cap_, run_underlying hT.und, k1, goInt], by simp only [Rs]⟩
theorem o_slice_nn {T e : TypeId} {sz by0 : Nat} {zd : DV} [hT : CSl P T e sz by0 zd] {x y : Operand} {k : IntKind} (hx : ev σ.env x = some .nils) (hy : ev σ.env y = some (.int k 0)) :
    OpG P ops ⟨some t, .slice T x none (some y) none, ty, pos, af, none⟩ (tm x ++ tm y) [] σ ⟨[(t, .nils)], [], []⟩ :=
  OpG.val rfl rfl fun C F γ σ' a w hag _ hs => by
    obtain ⟨k1, k2⟩ := ev2 hs hag hx hy
    simp only [Rs] at k1
    have hb := run_bounds (P := P) hs (lo := none) (hi := some y) (l := 0) (h := 0) (len := 0) (cap := 0) Bd.no (Bd.at ((ev_agree hag (fun _ h => by simp [h])).trans hy) rfl) (Nat.le_refl 0) (Nat.le_refl 0)
    simp only [Option.map_none, Option.map_some] at hb
    refine ⟨.slice none 0 0, ?_, by simp only [Rs]⟩
    simp [execOp, Instr.sliceAt, Instr.slice, run_underlying hT.und, k1, hb, hT.size]
theorem o_append_zn {T T2 e : TypeId} {sz bytes : Nat} {zd : DV} [hT : CSl P T e sz bytes zd] {k2 : IntKind} [hI : TInt P T2 k2] {x y : Operand} {k : IntKind} {n : Int} (m : Nat) (hx : ev σ.env x = some .nils) (hy : ev σ.env y = some (.int k n)) (hn : n = (m : Int)) (hm : 0 < m) (hb : m * bytes ≤ 140737488355328 ∧ m ≤ 140737488355328) (hz : (zd.cs.all DV.one) = true) :
    OpG P ops ⟨some t, .call ⟨.builtin .append, #[x, y], #[T, T2]⟩, ty, pos, af, none⟩ (tm x ++ tm y) [] σ ⟨[(t, .row t)], [(t, some (.row e sz (List.replicate m zd)))], [t]⟩ :=
  OpG.gen rfl rfl fun C F γ σ' a w hag h2 h3 hs => by
    obtain ⟨k1, k2⟩ := ev2 hs hag hx hy
    simp only [Rs] at k1 k2
    have hnu : t ∉ σ'.used := h3 t (by simp)
    obtain ⟨z, hEl, hzd⟩ := hT.h
    obtain ⟨i, hi, hiz, hisz, hiby⟩ := hEl.info
    have ho := zero_one (T := T) hzd hz
    subst hn
    have hcap := grownCap_ge w (0 + m) 0 e
    have hcap2 := grownCap_le_maxLen w (0 + m) 0 e (by unfold maxLen; omega)
    have hnx : Builtin.nextslicecap (0 + m) 0 = m := by simp [Builtin.nextslicecap]; omega
    have hrun := Lib.run_append_grow_zeros (P := P) w T T2 ty e i z k _ hEl.under hI.h hi hiz none 0 0 [] (by simp [Builtin.firstCells]) m hm (by rw [hisz]; exact hEl.pos) (by omega) (by omega) (by rw [hiby]; omega) (by rw [hnx, hiby]; omega)
    generalize grownCap w (0 + m) 0 e = cap at hrun hcap hcap2
    refine ⟨.slice (some ⟨w.heap.size, 0, none⟩) (0 + m) cap, _, F, γ.up t (.slice (some ⟨w.heap.size, 0, none⟩) (0 + m) cap), by simp [execOp, resolve, invoke, builtin, k1, k2, hrun]; rfl, FLe.refl _, Gam.up_le _ (hs.ws.fresh hnu), ?_, ?_⟩
    · refine (hs.ws.quiet (Stp.drew w)).addNew hnu _ (fun b hb => by simp [Value.pblk] at hb; exact hb.symm) ?_
      have hzs : z.cells.size = sz := hEl.zsize
      have hz0 : 0 < z.cells.size := by rw [hzs]; exact hEl.pos
      have e1 : ∀ q, (Builtin.zeroCells z.cells q).toList = (List.replicate q z.cells.toList).flatten := fun q => madeCells_flat z.cells hz0 q
      have hlen : ((List.replicate m z.cells.toList).flatten).length = m * sz := by simp [hzs]
      refine ⟨(List.replicate m z.cells.toList).flatten, ⟨by simp [hzs], .inr ⟨w.heap.size, cap, _, by simp, Nat.zero_le _, heap_alloc_new w.drew _, by simp; omega, hcap2, ?_, ?_⟩⟩, RsE.replicate hzs ho (zeroDV_rs hzd ho F) m⟩
      · simp only [Array.size_append, size_zeroCells, hzs, Nat.zero_add]
        have : m + (cap - m) = cap := by omega
        rw [← Nat.add_mul, this]
      · rw [List.length_replicate]
        simp only [Array.toList_append, e1, List.nil_append, Nat.zero_add]
        rw [← hlen]
        simp
    · simp only [Rs]; exact Gam.up_same _ _ _
theorem o_slice_r {T e : TypeId} {sz by0 : Nat} {zd : DV} [hT : CSl P T e sz by0 zd] {x y : Operand} {id : Nat} {k : IntKind} {els : List DV} {n : Int} (h : Nat) (hx : ev σ.env x = some (.row id)) (hh : hget σ.heap id = some (.row e sz els)) (hy : ev σ.env y = some (.int k n)) (hn : n = (h : Int)) (hle : h ≤ els.length) :
    OpG P ops ⟨some t, .slice T x none (some y) none, ty, pos, af, none⟩ (tm x ++ tm y) [id] σ ⟨[(t, .row t)], [(t, some (.row e sz (els.take h))), (id, none)], [t]⟩ :=
  OpG.gen rfl rfl fun C F γ σ' a w hag h2 h3 hs => by
    obtain ⟨k1, k2⟩ := ev2 hs hag hx hy
    have hnu : t ∉ σ'.used := h3 t (by simp)
    have hh' := (h2 id (by simp)).trans hh
    obtain ⟨A0, c0, vs0, e0, hg0, ho0, hE0⟩ := rs_row hs k1 hh'
    have hc : els.length ≤ c0 := by
      rcases ho0.2 with ⟨q, q2⟩ | ⟨b, cap, cur, q, _, _, q2, _⟩
      · omega
      · rw [e0] at q; injection q with _ _ q; omega
    have hb := run_bounds (P := P) hs (lo := none) (hi := some y) (l := 0) (h := h) (len := els.length) (cap := c0) Bd.no (Bd.at ((ev_agree hag (fun _ h => by simp [h])).trans hy) hn) (Nat.zero_le _) (by omega)
    simp only [Option.map_none, Option.map_some] at hb
    have hA : A0 = none ∨ ∃ b, A0 = some ⟨b, 0, none⟩ := by
      rcases ho0.2 with ⟨q, _⟩ | ⟨b, cap, cur, q, _⟩
      · rw [e0] at q; injection q with q _ _; exact .inl q
      · rw [e0] at q; injection q with q _ _; exact .inr ⟨b, q⟩
    have hA2 : (if c0 = 0 then A0 else A0.map (·.add (0 * sz))) = A0 := by
      rcases hA with rfl | ⟨b, rfl⟩
      · simp
      · simp [Addr.add]
    have hown : w.ownsRow 0 e sz (.slice A0 h c0) (els.take h).length (vs0.take (h * sz)) := by
      have hl : (els.take h).length = h := by simp; omega
      rw [hl]
      refine ⟨?_, ?_⟩
      · have := ho0.1
        rw [List.length_take, this]
        exact Nat.min_eq_left (Nat.mul_le_mul_right _ hle)
      · rcases ho0.2 with ⟨q, q2⟩ | ⟨b, cap, cur, q, q1, q2, q3, q4, q5, q6⟩
        · rw [e0] at q; injection q with q _ q3
          have : h = 0 := by omega
          subst this
          exact .inl ⟨by rw [q, q3], rfl⟩
        · rw [e0] at q; injection q with q _ q7
          refine .inr ⟨b, cap, cur, by rw [q, q7], q1, q2, by omega, q4, q5, ?_⟩
          rw [← q6, List.take_take, Nat.min_eq_left (Nat.mul_le_mul_right _ hle)]
    refine ⟨.slice A0 h c0, w, F, γ.up t (.slice A0 h c0), ?_, FLe.refl _, Gam.up_le _ (hs.ws.fresh hnu), ?_, ?_⟩
    · have : a.eval x = .slice A0 els.length c0 := e0
      simp [execOp, Instr.sliceAt, Instr.slice, run_underlying hT.und, this, hb, hT.size]
      have := hA2
      simp at this
      exact this
    · refine (hs.ws.forget id).add hnu ⟨_, hown, hE0.take h⟩ (fun b hb' => ?_)
      have hpb : Value.pblk (a.eval x) = some b := by
        rw [e0]
        rcases hA with rfl | ⟨b', rfl⟩
        · simp [Value.pblk] at hb'
        · simpa [Value.pblk] using hb'
      have q := hs.ws.own id _ _ b hh' hg0 hpb
      refine ⟨q.1, q.2, fun id' e' g' hh2 hg' hb'' => ?_⟩
      rw [hget_cons] at hh2
      split at hh2
      · cases hh2
      · rename_i hne; exact hne (hs.ws.apart id id' _ e' _ g' b hh' hh2 hg0 hg' hpb hb'')
    · simp only [Rs]; exact Gam.up_same _ _ _
theorem t_slice_r {T e : TypeId} {sz by0 : Nat} {zd : DV} [hT : CSl P T e sz by0 zd] {x y : Operand} {id : Nat} {k : IntKind} {α : Type} {f : α → DV} {xs : List α} {n : Int} (h : slOk xs.length 0 n) (hx : ev σ.env x = some (.row id)) (hh : hget σ.heap id = some (.row e sz (xs.map f))) (hy : ev σ.env y = some (.int k n)) :
    OpG P ops ⟨some t, .slice T x none (some y) none, ty, pos, af, none⟩ (tm x ++ tm y) [id] σ ⟨[(t, .row t)], [(t, some (.row e sz ((xs.take n.toNat).map f))), (id, none)], [t]⟩ := by
  obtain ⟨h1, h2, h3⟩ := h
  refine (o_slice_r n.toNat hx hh hy (by omega) (by simp; omega)).cast (by rw [List.map_take])
theorem t_append_zn {T T2 e : TypeId} {sz bytes : Nat} {zd : DV} [hT : CSl P T e sz bytes zd] {k2 : IntKind} [hI : TInt P T2 k2] {x y : Operand} {k : IntKind} {n : Int} {α : Type} (f : α → DV) (z : α) (h : 0 < n ∧ apOk bytes n.toNat) (hx : ev σ.env x = some .nils) (hy : ev σ.env y = some (.int k n)) (hz : (zd.cs.all DV.one) = true) (hf : f z = zd) :
    OpG P ops ⟨some t, .call ⟨.builtin .append, #[x, y], #[T, T2]⟩, ty, pos, af, none⟩ (tm x ++ tm y) [] σ ⟨[(t, .row t)], [(t, some (.row e sz ((List.replicate n.toNat z).map f)))], [t]⟩ := by
  obtain ⟨h1, h2, h3⟩ := h
  exact (o_append_zn n.toNat hx hy (by omega) (by omega) ⟨h2, h3⟩ hz).cast (by rw [List.map_replicate, hf])
theorem o_indexAddr_pa {T n e sz0 : Nat} [hT : CArr P T n e sz0] {x y : Operand} {id j sz o : Nat} {k : IntKind} {m : Int} (i : Nat) (hx : ev σ.env x = some (.rp id j sz o)) (hy : ev σ.env y = some (.int k m)) (hm : m = (i : Int)) (hi : i < n) :
    OpG P ops ⟨some t, .indexAddr T x y, ty, pos, af, none⟩ (tm x ++ tm y) [] σ ⟨[(t, .rp id j sz (o + i * sz0))], [], []⟩ :=
  OpG.val rfl rfl fun C F γ σ' a w hag _ hs => by
    obtain ⟨k1, k2⟩ := ev2 hs hag hx hy
    simp only [Rs] at k1 k2
    obtain ⟨b, n', c, hg, e⟩ := k1
    subst hm
    refine ⟨.pointer (some ⟨b, j * sz + (o + i * sz0), none⟩), ?_, by simp only [Rs]; exact ⟨b, n', c, hg, rfl⟩⟩
    by_cases h0 : i * sz0 = 0
    · simp [execOp, Instr.indexAt, e, k2, asIntOf, run_underlying hT.u, Instr.sureAddr, hi, hT.size, Addr.add, h0]
    · simp [execOp, Instr.indexAt, e, k2, asIntOf, run_underlying hT.u, Instr.sureAddr, hi, hT.size, Addr.add, h0, Nat.add_assoc]
theorem o_callF {f : FuncId} [hf : CFn P f] {x : Operand} {xs : Array Operand} {ats : Array TypeId} {ds args : List DV} {r : DV} (hc : PCall P f args r) (hx : ev σ.env x = some (.val (.func (.func f) #[] #[]))) (ha : evL σ.env xs.toList = some ds) (hle : DLeL ds args) (hp : idsL args = []) :
    OpG P ops ⟨some t, .call ⟨.value x, xs, ats⟩, ty, pos, af, none⟩ (tm x ++ xs.toList.flatMap tm) [] σ ⟨[(t, r)], [], []⟩ := by
  intro C F γ σ' a w h1 h2 h3 h4 hs K Q hK
  simp only [Region.wanted, ↓reduceIte]
  have kx := hs.ev ((ev_agree h1 (fun _ h => List.mem_append_left _ h)).trans hx)
  simp only [Rs] at kx
  have hrun : (execOp a.eval ⟨some t, .call ⟨.value x, xs, ats⟩, ty, pos, af, none⟩).run P w = .ok (.enter f (xs.map a.eval)) w := by
    simp [execOp, resolve, kx, Deferred.ofValue, invoke, run_callFunc]
  refine wpIn_of_enter (fun c hc => by cases hc) hrun ?_
  have hv := hle.rsT (hs.evs ((evL_agree h1 (fun _ h => List.mem_append_right _ h)).trans ha))
  have hv' : RsT F Gam.no args (xs.toList.map a.eval) := RsT_ids args _ (by rw [hp]; simp) hv
  have e : (xs.toList.map a.eval).toArray = xs.map a.eval := by rw [← Array.toList_map]
  have := hc C F γ σ'.heap σ'.used w _ hs.ws hv'
  rw [e] at this
  refine this.mono ?_
  rintro e w' ⟨v, F', rfl, k1, k2, k3⟩
  exact ⟨v, rfl, hK F' γ _ _ k1 ((hs.mono k1 (GLe.refl _) k2).put (h4 t rfl) (k3.mono (FLe.refl _) (GLe.no _)))⟩
theorem DLeL.replicate {d d' : DV} (h : DLe d d') : ∀ n, DLeL (List.replicate n d) (List.replicate n d')
  | 0 => .nil
  | n + 1 => .cons h (DLeL.replicate h n)
theorem t_append_znW {T T2 e : TypeId} {sz bytes : Nat} {zd : DV} [hT : CSl P T e sz bytes zd] {k2 : IntKind} [hI : TInt P T2 k2] {x y : Operand} {k : IntKind} {n : Int} {α : Type} (f : α → DV) (z : α) (h : 0 < n ∧ apOk bytes n.toNat) (hx : ev σ.env x = some .nils) (hy : ev σ.env y = some (.int k n)) (hz : (zd.cs.all DV.one) = true) (hf : DLe zd (f z)) :
    OpG P ops ⟨some t, .call ⟨.builtin .append, #[x, y], #[T, T2]⟩, ty, pos, af, none⟩ (tm x ++ tm y) [] σ ⟨[(t, .row t)], [(t, some (.row e sz ((List.replicate n.toNat z).map f)))], [t]⟩ := by
  obtain ⟨h1, h2, h3⟩ := h
  rw [List.map_replicate]
  exact (o_append_zn n.toNat hx hy (by omega) (by omega) ⟨h2, h3⟩ hz).wkRow (DLeL.replicate hf _)
theorem t_makeW {T e : TypeId} {sz bytes : Nat} {zd : DV} [hT : CSl P T e sz bytes zd] {x y : Operand} {k k' : IntKind} {l c : Int} {α : Type} (f : α → DV) (z : α) (h : mkOk bytes l c) (hx : ev σ.env x = some (.int k l)) (hy : ev σ.env y = some (.int k' c)) (hz : (zd.cs.all DV.one) = true) (hf : DLe zd (f z)) :
    OpG P ops ⟨some t, .makeSlice T x y, ty, pos, af, none⟩ (tm x ++ tm y) [] σ ⟨[(t, .row t)], [(t, some (.row e sz ((List.replicate l.toNat z).map f)))], [t]⟩ := by
  have h' := h
  unfold mkOk at h'
  obtain ⟨h1, h2, h3, h4⟩ := h'
  rw [List.map_replicate]
  refine (o_make l.toNat c.toNat hx hy (by omega) (by omega) (by omega) ⟨?_, by omega⟩ hz).wkRow (DLeL.replicate hf _)
  have : ((bytes * c.toNat : Nat) : Int) = bytes * c := by rw [Int.natCast_mul, ← toNat_of (by omega)]
  omega
end
section
variable {P : Program} {n : Nat} {Q : Exit → AS → Prop} {σ : AS}
theorem a_postN {rs : Array ResultVar} {res d : DV} {post : Heap} (h : ResV P σ rs d) (hle : DLe d res) (hp : ∀ i e, hget post i = some e → hget σ.heap i = some e) : BPost P rs res post .normal σ := ⟨d, h, hle, hp⟩
theorem a_tail {c : Code} {α : Type} (S : α → AS) (I : α → Prop) (h : awp P n c (QCut S I Q) σ) (k : ∀ x, I x → Q .normal (S x)) : awp P n c Q σ := fun C F γ a w hn hs =>
  wpIn_mono (h C F γ a w hn hs) fun e a' w' ⟨F', γ', σ', h1, h2⟩ => by
    cases e with
    | normal =>
      obtain ⟨x', i1, i2⟩ := h2
      obtain ⟨F2, γ2, s2⟩ := i2 C F' γ' a' w' h1
      exact ⟨F2, γ2, S x', s2, k x' i1⟩
    | exit id => exact ⟨F', γ', σ', h1, h2⟩
    | goto l => exact ⟨F', γ', σ', h1, h2⟩
    | ret => exact ⟨F', γ', σ', h1, h2⟩
    | panic c => exact ⟨F', γ', σ', h1, h2⟩
    | outgrown => exact ⟨F', γ', σ', h1, h2⟩
def NEnd (Q : Exit → AS → Prop) (σ : AS) : Prop := ∃ σ', Imp σ σ' ∧ Q .normal σ'
def NQ (Q : Exit → AS → Prop) : Exit → AS → Prop
  | .normal, σ => NEnd Q σ
  | e, σ => Q e σ
theorem n_imp {σ' : AS} (h : Imp σ σ') (k : NEnd Q σ') : NEnd Q σ := by obtain ⟨τ, h1, h2⟩ := k; exact ⟨τ, h.trans h1, h2⟩
theorem n_done (h : Q .normal σ) : NEnd Q σ := ⟨σ, Imp.refl _, h⟩
theorem a_end {c : Code} (h : awp P n c (NQ Q) σ) : awp P n c Q σ := fun C F γ a w hn hs =>
  wpIn_mono (h C F γ a w hn hs) fun e a' w' ⟨F', γ', σ', h1, h2⟩ => by
    cases e with
    | normal =>
      obtain ⟨τ, i1, i2⟩ := h2
      obtain ⟨F2, γ2, s2⟩ := i1 C F' γ' a' w' h1
      exact ⟨F2, γ2, τ, s2, i2⟩
    | exit id => exact ⟨F', γ', σ', h1, h2⟩
    | goto l => exact ⟨F', γ', σ', h1, h2⟩
    | ret => exact ⟨F', γ', σ', h1, h2⟩
    | panic c => exact ⟨F', γ', σ', h1, h2⟩
    | outgrown => exact ⟨F', γ', σ', h1, h2⟩
theorem a_isnil {id t t0 : Nat} {x : Operand} {T T' ty0 ty : TypeId} {pos0 pos : String} {af0 af : Array Edge} {e : TypeId} {sz by0 : Nat} {zd : DV} [hT : CSl P T e sz by0 zd] {sz' : Nat} {els : List DV} (hx : ev σ.env x = some (.sl sz' els)) (ht0 : t0 < n) (ht : t < n)
    (hq : ∀ b : Bool, (b = true → els = []) → Q .normal ⟨(t, .bool b) :: (t0, .sl sz' els) :: σ.env, σ.heap, σ.used⟩) :
    awp P n (.region id #[⟨some t0, .move x, ty0, pos0, af0, none⟩, ⟨some t, .binOp .eql T (.tmp t0) (.const (.slice none 0 0)) T', ty, pos, af, none⟩] false) Q σ := by
  intro C F γ a w hn hs
  have kx := hs.ev hx
  have hs1 : Sat C F γ ⟨(t0, .sl sz' els) :: σ.env, σ.heap, σ.used⟩ (a.put (some t0) (a.eval x)) w := hs.put (by rw [hn]; exact ht0) kx
  have hlt : t0 < a.tmps.size := by rw [hs.size, hn]; exact ht0
  have hmv : (execOp a.eval ⟨some t0, .move x, ty0, pos0, af0, none⟩).run P w = .ok (.value (a.eval x)) w := by simp [execOp]
  generalize a.eval x = v at kx hs1 hmv
  simp only [Rs] at kx
  obtain ⟨A, c, rfl, hok, _⟩ := kx
  refine wpIn_region ?_
  simp only [show (#[(⟨some t0, .move x, ty0, pos0, af0, none⟩ : Oper), ⟨some t, .binOp .eql T (.tmp t0) (.const (.slice none 0 0)) T', ty, pos, af, none⟩]).size = 2 from rfl, List.range_succ, List.range_zero, List.nil_append, List.cons_append, wpOpsIn_cons]
  refine wpIn_of_val hmv ?_
  have e0 : (a.put (some t0) (.slice A els.length c)).eval (.tmp t0) = .slice A els.length c := by
    simp [Act.eval, Act.put, Array.getD, hlt]
  have e1 : binOp .eql T (.slice A els.length c) (.slice none 0 0) = (do pure (.bool (← Op.equal T (.slice A els.length c) (.slice none 0 0)))) := by cases A <;> rfl
  have e2 : eqGuard .eql T (.tmp t0) (.const (.slice none 0 0)) (.slice A els.length c) (.slice none 0 0) = pure () := rfl
  have e3 : (Op.equal T (.slice A els.length c) (.slice none 0 0)).run P w = .ok A.isNone w := by
    have : ∀ m, (Op.equalIn (m + 1) T (.slice A els.length c) (.slice none 0 0)).run P w = .ok A.isNone w := fun m => by cases A <;> simp [Op.equalIn, run_underlying hT.und]
    exact this 9999
  have hop : (execOp (a.put (some t0) (.slice A els.length c)).eval ⟨some t, .binOp .eql T (.tmp t0) (.const (.slice none 0 0)) T', ty, pos, af, none⟩).run P w = .ok (.value (.bool A.isNone)) w := by
    have e4 : (a.put (some t0) (.slice A els.length c)).eval (.const (.slice none 0 0)) = .slice none 0 0 := rfl
    simp only [execOp, e0, e4, e1, e2, Sem.run_bind, Sem.run_pure, Result.andThen_ok, e3]
  refine wpIn_of_val hop ?_
  · have := hs1.put (t := t) (by rw [hn]; exact ht) (d := .bool A.isNone) (v := .bool A.isNone) (by simp only [Rs])
    refine ⟨F, γ, _, this, hq A.isNone (fun hA => ?_)⟩
    have hN : A = none := by simpa using hA
    have := (hok.1 hN).1
    exact List.eq_nil_of_length_eq_zero this
end
end Go.Proofs.YtepkcbalmjnhpaaGreat
set_option maxRecDepth 100000
set_option maxHeartbeats 4000000
set_option linter.unusedVariables false
set_option linter.unusedSimpArgs false
namespace Go.Proofs.YtepkcbalmjnhpaaGreat
open Go.RowKit
structure AEv where
  gTick : Int
  gComponent : Int
  gKind : Int
  gPeer : Int
  gN : Int
  gCopy : Int
  gHandler : Int
  gD : Int
  gArgs : List Int
structure VClk where
  gat : Nat → Int
def VClk.cs (x : VClk) : List DV := [.int .u64 (x.gat 0), .int .u64 (x.gat 1), .int .u64 (x.gat 2), .int .u64 (x.gat 3), .int .u64 (x.gat 4), .int .u64 (x.gat 5), .int .u64 (x.gat 6), .int .u64 (x.gat 7), .int .u64 (x.gat 8), .int .u64 (x.gat 9), .int .u64 (x.gat 10), .int .u64 (x.gat 11), .int .u64 (x.gat 12), .int .u64 (x.gat 13), .int .u64 (x.gat 14), .int .u64 (x.gat 15)]
structure RRec where
  gComponent : Int
  gSeq : Int
  gClock : VClk
  gWhat : Int
  gEvent : AEv
  gCount : Int
def RRec.cs (x : RRec) : List DV := [.int .i64 x.gComponent, .int .u64 x.gSeq, .int .u64 (x.gClock.gat 0), .int .u64 (x.gClock.gat 1), .int .u64 (x.gClock.gat 2), .int .u64 (x.gClock.gat 3), .int .u64 (x.gClock.gat 4), .int .u64 (x.gClock.gat 5), .int .u64 (x.gClock.gat 6), .int .u64 (x.gClock.gat 7), .int .u64 (x.gClock.gat 8), .int .u64 (x.gClock.gat 9), .int .u64 (x.gClock.gat 10), .int .u64 (x.gClock.gat 11), .int .u64 (x.gClock.gat 12), .int .u64 (x.gClock.gat 13), .int .u64 (x.gClock.gat 14), .int .u64 (x.gClock.gat 15), .int .u8 x.gWhat, .int .i64 x.gEvent.gTick, .int .i64 x.gEvent.gComponent, .int .u8 x.gEvent.gKind, .int .i64 x.gEvent.gPeer, .int .i64 x.gEvent.gN, .int .i64 x.gEvent.gCopy, .int .i64 x.gEvent.gHandler, .int .i64 x.gEvent.gD, .sl 1 (List.map (DV.int .i64) x.gEvent.gArgs), .int .u64 x.gCount]
def RRec.dv (x : RRec) : DV := .agg (RRec.cs x)
structure frame_Part where
  gOff : Int
  gLen : Int
  gBody : List Int
  gGood : Bool
def frame_Part.cs (x : frame_Part) : List DV := [.int .i64 x.gOff, .int .i64 x.gLen, .sl 1 (List.map (DV.int .u8) x.gBody), .bool x.gGood]
def frame_Part.dv (x : frame_Part) : DV := .agg (frame_Part.cs x)
structure CSpan where
  gfrom : Int
  gto : Int
def CSpan.cs (x : CSpan) : List DV := [.int .u64 x.gfrom, .int .u64 x.gto]
def CSpan.dv (x : CSpan) : DV := .agg (CSpan.cs x)
structure CPart where
  gentries : List RRec
  glost : List CSpan
  gknown : Bool
  gtotal : Int
def CPart.cs (x : CPart) : List DV := [.sl 29 (List.map RRec.dv x.gentries), .sl 2 (List.map CSpan.dv x.glost), .bool x.gknown, .int .u64 x.gtotal]
def CPart.dv (x : CPart) : DV := .agg (CPart.cs x)
structure CColl where
  gparts : List CPart
structure w30_Raw where
  gWhat : Int
  gSeq : Int
  gId : Int
  gCount : Int
def w30_Raw.cs (x : w30_Raw) : List DV := [.int .u8 x.gWhat, .int .u8 x.gSeq, .int .u8 x.gId, .int .u8 x.gCount]
def w30_Raw.dv (x : w30_Raw) : DV := .agg (w30_Raw.cs x)
structure w30_File where
  gComponent : Int
  gRecords : List w30_Raw
def w30_File.cs (x : w30_File) : List DV := [.int .u8 x.gComponent, .sl 4 (List.map w30_Raw.dv x.gRecords)]
def w30_File.dv (x : w30_File) : DV := .agg (w30_File.cs x)
structure e30_Record where
  gWhat : Int
  gSeq : Int
  gId : Int
  gCount : Int
def e30_Record.cs (x : e30_Record) : List DV := [.int .i64 x.gWhat, .int .i64 x.gSeq, .int .i64 x.gId, .int .i64 x.gCount]
def e30_Record.dv (x : e30_Record) : DV := .agg (e30_Record.cs x)
def array_48_int.cs (x : Nat → Int) : List DV := [.int .i64 (x 0), .int .i64 (x 1), .int .i64 (x 2), .int .i64 (x 3), .int .i64 (x 4), .int .i64 (x 5), .int .i64 (x 6), .int .i64 (x 7), .int .i64 (x 8), .int .i64 (x 9), .int .i64 (x 10), .int .i64 (x 11), .int .i64 (x 12), .int .i64 (x 13), .int .i64 (x 14), .int .i64 (x 15), .int .i64 (x 16), .int .i64 (x 17), .int .i64 (x 18), .int .i64 (x 19), .int .i64 (x 20), .int .i64 (x 21), .int .i64 (x 22), .int .i64 (x 23), .int .i64 (x 24), .int .i64 (x 25), .int .i64 (x 26), .int .i64 (x 27), .int .i64 (x 28), .int .i64 (x 29), .int .i64 (x 30), .int .i64 (x 31), .int .i64 (x 32), .int .i64 (x 33), .int .i64 (x 34), .int .i64 (x 35), .int .i64 (x 36), .int .i64 (x 37), .int .i64 (x 38), .int .i64 (x 39), .int .i64 (x 40), .int .i64 (x 41), .int .i64 (x 42), .int .i64 (x 43), .int .i64 (x 44), .int .i64 (x 45), .int .i64 (x 46), .int .i64 (x 47)]
def array_48_bool.cs (x : Nat → Bool) : List DV := [.bool (x 0), .bool (x 1), .bool (x 2), .bool (x 3), .bool (x 4), .bool (x 5), .bool (x 6), .bool (x 7), .bool (x 8), .bool (x 9), .bool (x 10), .bool (x 11), .bool (x 12), .bool (x 13), .bool (x 14), .bool (x 15), .bool (x 16), .bool (x 17), .bool (x 18), .bool (x 19), .bool (x 20), .bool (x 21), .bool (x 22), .bool (x 23), .bool (x 24), .bool (x 25), .bool (x 26), .bool (x 27), .bool (x 28), .bool (x 29), .bool (x 30), .bool (x 31), .bool (x 32), .bool (x 33), .bool (x 34), .bool (x 35), .bool (x 36), .bool (x 37), .bool (x 38), .bool (x 39), .bool (x 40), .bool (x 41), .bool (x 42), .bool (x 43), .bool (x 44), .bool (x 45), .bool (x 46), .bool (x 47)]
structure e30_Known where
  gIds : Nat → Int
  gLost : Nat → Bool
  gTotal : Int
def e30_Known.cs (x : e30_Known) : List DV := [.int .i64 (x.gIds 0), .int .i64 (x.gIds 1), .int .i64 (x.gIds 2), .int .i64 (x.gIds 3), .int .i64 (x.gIds 4), .int .i64 (x.gIds 5), .int .i64 (x.gIds 6), .int .i64 (x.gIds 7), .int .i64 (x.gIds 8), .int .i64 (x.gIds 9), .int .i64 (x.gIds 10), .int .i64 (x.gIds 11), .int .i64 (x.gIds 12), .int .i64 (x.gIds 13), .int .i64 (x.gIds 14), .int .i64 (x.gIds 15), .int .i64 (x.gIds 16), .int .i64 (x.gIds 17), .int .i64 (x.gIds 18), .int .i64 (x.gIds 19), .int .i64 (x.gIds 20), .int .i64 (x.gIds 21), .int .i64 (x.gIds 22), .int .i64 (x.gIds 23), .int .i64 (x.gIds 24), .int .i64 (x.gIds 25), .int .i64 (x.gIds 26), .int .i64 (x.gIds 27), .int .i64 (x.gIds 28), .int .i64 (x.gIds 29), .int .i64 (x.gIds 30), .int .i64 (x.gIds 31), .int .i64 (x.gIds 32), .int .i64 (x.gIds 33), .int .i64 (x.gIds 34), .int .i64 (x.gIds 35), .int .i64 (x.gIds 36), .int .i64 (x.gIds 37), .int .i64 (x.gIds 38), .int .i64 (x.gIds 39), .int .i64 (x.gIds 40), .int .i64 (x.gIds 41), .int .i64 (x.gIds 42), .int .i64 (x.gIds 43), .int .i64 (x.gIds 44), .int .i64 (x.gIds 45), .int .i64 (x.gIds 46), .int .i64 (x.gIds 47), .bool (x.gLost 0), .bool (x.gLost 1), .bool (x.gLost 2), .bool (x.gLost 3), .bool (x.gLost 4), .bool (x.gLost 5), .bool (x.gLost 6), .bool (x.gLost 7), .bool (x.gLost 8), .bool (x.gLost 9), .bool (x.gLost 10), .bool (x.gLost 11), .bool (x.gLost 12), .bool (x.gLost 13), .bool (x.gLost 14), .bool (x.gLost 15), .bool (x.gLost 16), .bool (x.gLost 17), .bool (x.gLost 18), .bool (x.gLost 19), .bool (x.gLost 20), .bool (x.gLost 21), .bool (x.gLost 22), .bool (x.gLost 23), .bool (x.gLost 24), .bool (x.gLost 25), .bool (x.gLost 26), .bool (x.gLost 27), .bool (x.gLost 28), .bool (x.gLost 29), .bool (x.gLost 30), .bool (x.gLost 31), .bool (x.gLost 32), .bool (x.gLost 33), .bool (x.gLost 34), .bool (x.gLost 35), .bool (x.gLost 36), .bool (x.gLost 37), .bool (x.gLost 38), .bool (x.gLost 39), .bool (x.gLost 40), .bool (x.gLost 41), .bool (x.gLost 42), .bool (x.gLost 43), .bool (x.gLost 44), .bool (x.gLost 45), .bool (x.gLost 46), .bool (x.gLost 47), .int .i64 x.gTotal]
def e30_Known.dv (x : e30_Known) : DV := .agg (e30_Known.cs x)
end Go.Proofs.YtepkcbalmjnhpaaGreat
set_option maxRecDepth 100000
set_option maxHeartbeats 1000000
set_option linter.unusedVariables false
set_option linter.unusedSimpArgs false
namespace Go.Proofs.YtepkcbalmjnhpaaGreat
open Go.RowKit
def evOf (e : AEv) : Ev := ⟨e.gTick, e.gComponent, e.gKind, e.gPeer, e.gN, e.gCopy, e.gHandler, e.gD, e.gArgs⟩
def reOf (x : RRec) : Re := ⟨x.gComponent, x.gSeq, fun i => if i < 16 then x.gClock.gat i else 0, x.gWhat, evOf x.gEvent, x.gCount⟩
def okI (k : IntKind) (n : Int) : Bool := decide (InR k n)
theorem okI_iff {k : IntKind} {n : Int} : okI k n = true ↔ InR k n := by simp [okI]
def evFits (e : AEv) : Bool := okI .i64 e.gTick && okI .i64 e.gComponent && okI .u8 e.gKind && okI .i64 e.gPeer && okI .i64 e.gN && okI .i64 e.gCopy && okI .i64 e.gHandler && okI .i64 e.gD && e.gArgs.all (okI .i64) && decide (e.gArgs.length ≤ 1099511627776)
def ckFits (c : VClk) : Bool := (List.range 16).all fun i => okI .u64 (c.gat i)
def reFits (x : RRec) : Bool := okI .i64 x.gComponent && okI .u64 x.gSeq && ckFits x.gClock && okI .u8 x.gWhat && evFits x.gEvent && okI .u64 x.gCount
theorem evFits_T {e : AEv} (h : evFits e = true) : EvT (evOf e) ∧ (evOf e).args.length ≤ 1099511627776 := by
  unfold evFits at h
  simp only [Bool.and_eq_true, List.all_eq_true, okI_iff, InR, decide_eq_true_eq] at h
  obtain ⟨⟨⟨⟨⟨⟨⟨⟨⟨h1, h2⟩, h3⟩, h4⟩, h5⟩, h6⟩, h7⟩, h8⟩, h9⟩, h10⟩ := h
  refine ⟨?_, h10⟩
  constructor <;> first | assumption | (simp only [evOf, I64, U64, Byt]; assumption) | (simp only [evOf, I64, U64, Byt]; omega) | (intro v hv; have := h9 v hv; simp only [I64]; omega)
theorem reFits_T {x : RRec} (h : reFits x = true) : ReT (reOf x) ∧ (reOf x).ev.args.length ≤ 1099511627776 := by
  unfold reFits ckFits at h
  simp only [Bool.and_eq_true, List.all_eq_true, okI_iff, InR, List.mem_range] at h
  obtain ⟨⟨⟨⟨⟨h1, h2⟩, h3⟩, h4⟩, h5⟩, h6⟩ := h
  refine ⟨⟨?_, ?_, ?_, ?_, (evFits_T h5).1, ?_⟩, (evFits_T h5).2⟩
  · simp only [reOf, I64]; omega
  · simp only [reOf, U64]; omega
  · intro i
    simp only [reOf, U64]
    split
    · have := h3 i (by assumption); omega
    · omega
  · simp only [reOf]; omega
  · simp only [reOf, U64]; omega
theorem reOf_D (x : RRec) : recD (reOf x) = x.cs := rfl
end Go.Proofs.YtepkcbalmjnhpaaGreat
set_option maxRecDepth 100000
set_option maxHeartbeats 1000000
set_option linter.unusedVariables false
set_option linter.unusedSimpArgs false
namespace Go.Proofs.YtepkcbalmjnhpaaGreat
open Go.RowKit
def M64 : Int := 18446744073709551615
def fin1 (r : Rd) (x : Re) : Option Re := if r.fin ≠ 0 then none else if checkN x ≠ 0 then none else some x
def readRec (xs : List Int) : Option Re :=
  let p1 := (⟨xs, 0⟩ : Rd).byte
  let p2 := p1.2.uint 8
  let p3 := p2.2.uint M64
  if p3.2.err ≠ 0 then none
  else if p1.1 = 1 then
    match clkR (xs.drop (xs.length - p3.2.xs.length)) with
    | none => none
    | some (c, n) => fin1 ((⟨(xs.drop (xs.length - p3.2.xs.length)).drop n, 0⟩ : Rd).event p2.1).2 ⟨p2.1, p3.1, c, 1, ((⟨(xs.drop (xs.length - p3.2.xs.length)).drop n, 0⟩ : Rd).event p2.1).1, 0⟩
  else if p1.1 = 2 then fin1 (p3.2.uint M64).2 ⟨p2.1, p3.1, clk0, 2, ev0, (p3.2.uint M64).1⟩
  else fin1 p3.2 ⟨p2.1, p3.1, clk0, p1.1, ev0, 0⟩
def recRD (o : Option Re) : DV := match o with
  | none => .tup [.agg (recD re0), .int .i64 6]
  | some r => .tup [.agg (recD r), .int .i64 0]
theorem recRD_ids (o : Option Re) : (recRD o).ids = [] := by cases o <;> rfl
theorem sfx_uint (r : Rd) (m : Int) : ∃ n, (r.uint m).2.xs = r.xs.drop n := by
  obtain ⟨xs, e⟩ := r
  unfold Rd.uint
  split
  · exact ⟨0, rfl⟩
  · split
    · exact ⟨0, rfl⟩
    · split
      · exact ⟨0, rfl⟩
      · exact ⟨_, rfl⟩
theorem sfx_byte (r : Rd) : ∃ n, r.byte.2.xs = r.xs.drop n := by
  obtain ⟨xs, e⟩ := r
  unfold Rd.byte
  split
  · exact ⟨0, rfl⟩
  · cases xs with
    | nil => exact ⟨0, rfl⟩
    | cons b rest => exact ⟨1, rfl⟩
theorem byte_range {r : Rd} (h : RdOk r) : 0 ≤ r.byte.1 ∧ r.byte.1 ≤ 255 := by
  obtain ⟨xs, e⟩ := r
  unfold Rd.byte
  split
  · exact ⟨by simp, by simp⟩
  · cases xs with
    | nil => exact ⟨by simp, by simp⟩
    | cons b rest => exact h.byt b (by simp)
theorem ents_le : ∀ (n : Nat) (xs l : List Int) (t : Nat), ents n xs = some (l, t) → t ≤ xs.length ∧ l.length = n
  | 0, xs, l, t, h => by
    simp only [ents, Option.some.injEq, Prod.mk.injEq] at h
    rw [← h.1, ← h.2]; simp
  | n + 1, xs, l, t, h => by
    unfold ents at h
    cases hd : decU 0 0 xs with
    | none => rw [hd] at h; cases h
    | some p =>
      obtain ⟨v, m⟩ := p
      have h1 := decU_le xs 0 0 v m hd
      rw [hd] at h
      simp only at h
      cases he : ents n (xs.drop m) with
      | none => rw [he] at h; cases h
      | some q =>
        obtain ⟨l', t'⟩ := q
        rw [he] at h
        simp only [Option.some.injEq, Prod.mk.injEq] at h
        have := ents_le n _ l' t' he
        rw [← h.1, ← h.2]
        simp at this ⊢; omega
theorem clkR_le (ys : List Int) (c : Nat → Int) (n : Nat) (h : clkR ys = some (c, n)) : n ≤ ys.length := by
  unfold clkR at h
  cases ys with
  | nil => cases h
  | cons b rest =>
    simp only at h
    split at h
    · cases h
    · cases he : ents b.toNat rest with
      | none => rw [he] at h; cases h
      | some q =>
        obtain ⟨l, t⟩ := q
        rw [he] at h
        simp only at h
        have := ents_le _ _ l t he
        split at h
        · simp only [Option.some.injEq, Prod.mk.injEq] at h; simp; omega
        · cases h
theorem ints_len : ∀ (n : Nat) (r : Rd), (r.ints n).1.length = n
  | 0, r => rfl
  | n + 1, r => by simp [Rd.ints, ints_len n]
theorem event_args (r : Rd) (h : RdOk r) (c : Int) : (r.event c).1.args.length ≤ 4 := by
  unfold Rd.event
  simp only [ints_len]
  have := uint_range ((((((((h.uint M31).uint 255).uint M31).uint M31).uint M31).uint M31).int)) (m := 4) (by omega)
  omega
theorem read_c (xs : List Int) (hx : ∀ b ∈ xs, Byt b) (hl : xs.length ≤ 140737488355328) : PCall Tryz.prog 64 [u8s xs] (recRD (readRec xs)) := by
  have hrr : readRec xs = (
    let p1 := (⟨xs, 0⟩ : Rd).byte
    let p2 := p1.2.uint 8
    let p3 := p2.2.uint M64
    if p3.2.err ≠ 0 then none
    else if p1.1 = 1 then
      match clkR (xs.drop (xs.length - p3.2.xs.length)) with
      | none => none
      | some (c, n) => fin1 ((⟨(xs.drop (xs.length - p3.2.xs.length)).drop n, 0⟩ : Rd).event p2.1).2 ⟨p2.1, p3.1, c, 1, ((⟨(xs.drop (xs.length - p3.2.xs.length)).drop n, 0⟩ : Rd).event p2.1).1, 0⟩
    else if p1.1 = 2 then fin1 (p3.2.uint M64).2 ⟨p2.1, p3.1, clk0, 2, ev0, (p3.2.uint M64).1⟩
    else fin1 p3.2 ⟨p2.1, p3.1, clk0, p1.1, ev0, 0⟩) := rfl
  simp only at hrr
  have o0 : RdOk ⟨xs, 0⟩ := ⟨hx, by simp only; omega⟩
  have k0 := newReader_c xs hl
  have k1 := rByte_c ⟨xs, 0⟩ o0
  have b1 := byte_range o0
  have s1 := sfx_byte ⟨xs, 0⟩
  have o1 := o0.byte
  generalize (⟨xs, 0⟩ : Rd).byte = q1 at *
  obtain ⟨v1, r1⟩ := q1
  simp only at hrr k1 b1 s1 o1
  have k2 := rUint_c r1 8 o1 ⟨by decide, by decide⟩
  have b2 := uint_range o1 (m := 8) (by decide)
  have s2 := sfx_uint r1 8
  have o2 := o1.uint 8
  generalize r1.uint 8 = q2 at *
  obtain ⟨v2, r2⟩ := q2
  simp only at hrr k2 b2 s2 o2
  have k3 := rUint_c r2 M64 o2 ⟨by decide, by decide⟩
  have b3 := uint_range o2 (m := M64) (by decide)
  have s3 := sfx_uint r2 M64
  have o3 := o2.uint M64
  generalize r2.uint M64 = q3 at *
  obtain ⟨v3, r3⟩ := q3
  simp only at hrr k3 b3 s3 o3
  have k4 := rErr_c r3
  have k5 := rLeft_c r3
  have hle : r3.xs.length ≤ xs.length := by
    obtain ⟨n1, e1⟩ := s1
    obtain ⟨n2, e2⟩ := s2
    obtain ⟨n3, e3⟩ := s3
    rw [e3, e2, e1]; simp only [List.length_drop]; omega
  clear s1 s2 s3
  have hm : M64 = 18446744073709551615 := rfl
  refine PCall.body Tryz.func64 Tryz.ntmps64 rfl rfl rfl (recRD_ids _) ?_
  rw [hrr]
  clear hrr
  refine a_seq ?_
  (apply a_region; (case ht => exact .cons (o_alloc rfl) <| .cons (o_assign rfl) <| .nil _); (case hd => kernel_rfl); (case hnew => kernel_rfl))
  refine a_seq ?_
  (apply a_region; (case ht => exact .cons (o_move rfl) <| .cons (o_callN (fun _ => 11) 1 k0 rfl (DLeL.refl _) PreOk.nil rfl RoOk.nil) <| .cons (o_assign rfl) <| .nil _); (case hd => kernel_rfl); (case hnew => kernel_rfl))
  refine a_seq ?_
  (apply a_region; (case ht => ((apply tc; (case h => exact o_move rfl)); (apply tc; (case h => (first | (exact o_callN (fun _ => 11) 1 k1 rfl (DLeL.refl _) (PreOk.cons rfl PreOk.nil) rfl RoOk.nil) | (exact o_callN (fun _ => 11) 1 k2 rfl (DLeL.refl _) (PreOk.cons rfl PreOk.nil) rfl RoOk.nil) | (exact o_callN (fun _ => 11) 1 k3 rfl (DLeL.refl _) (PreOk.cons rfl PreOk.nil) rfl RoOk.nil)))); (apply tc; (case h => exact o_move rfl)); (apply tc; (case h => (first | (exact o_callN (fun _ => 11) 1 k1 rfl (DLeL.refl _) (PreOk.cons rfl PreOk.nil) rfl RoOk.nil) | (exact o_callN (fun _ => 11) 1 k2 rfl (DLeL.refl _) (PreOk.cons rfl PreOk.nil) rfl RoOk.nil) | (exact o_callN (fun _ => 11) 1 k3 rfl (DLeL.refl _) (PreOk.cons rfl PreOk.nil) rfl RoOk.nil)))); (apply tc; (case h => (first | (exact o_callN (fun _ => 11) 1 k1 rfl (DLeL.refl _) (PreOk.cons rfl PreOk.nil) rfl RoOk.nil) | (exact o_callN (fun _ => 11) 1 k2 rfl (DLeL.refl _) (PreOk.cons rfl PreOk.nil) rfl RoOk.nil) | (exact o_callN (fun _ => 11) 1 k3 rfl (DLeL.refl _) (PreOk.cons rfl PreOk.nil) rfl RoOk.nil) | (exact o_conv rfl (by simp only [InR]; omega)) | (exact o_conv_w rfl)))); (apply tc; (case h => exact o_move rfl)); (apply tc; (case h => (first | (exact o_callN (fun _ => 11) 1 k1 rfl (DLeL.refl _) (PreOk.cons rfl PreOk.nil) rfl RoOk.nil) | (exact o_callN (fun _ => 11) 1 k2 rfl (DLeL.refl _) (PreOk.cons rfl PreOk.nil) rfl RoOk.nil) | (exact o_callN (fun _ => 11) 1 k3 rfl (DLeL.refl _) (PreOk.cons rfl PreOk.nil) rfl RoOk.nil)))); (apply tc; (case h => (first | (exact o_callN (fun _ => 11) 1 k1 rfl (DLeL.refl _) (PreOk.cons rfl PreOk.nil) rfl RoOk.nil) | (exact o_callN (fun _ => 11) 1 k2 rfl (DLeL.refl _) (PreOk.cons rfl PreOk.nil) rfl RoOk.nil) | (exact o_callN (fun _ => 11) 1 k3 rfl (DLeL.refl _) (PreOk.cons rfl PreOk.nil) rfl RoOk.nil) | (exact o_build rfl rfl rfl)))); (apply tc; (case h => exact o_alloc rfl)); (apply tc; (case h => (first | (exact o_callN (fun _ => 11) 1 k1 rfl (DLeL.refl _) (PreOk.cons rfl PreOk.nil) rfl RoOk.nil) | (exact o_callN (fun _ => 11) 1 k2 rfl (DLeL.refl _) (PreOk.cons rfl PreOk.nil) rfl RoOk.nil) | (exact o_callN (fun _ => 11) 1 k3 rfl (DLeL.refl _) (PreOk.cons rfl PreOk.nil) rfl RoOk.nil) | (exact o_store rfl rfl rfl rfl rfl rfl rfl)))); exact tn)); (case hd => kernel_rfl); (case hnew => kernel_rfl))
  refine a_imp (σ' := ⟨[(0, u8s xs), (2, .ref 2 0), (4, .ref 11 0), (5, .ref 5 0)], [(2, some (.blk 52 (recD re0))), (11, some (rdE r3)), (5, some (.blk 52 (recD ⟨v2, v3, clk0, v1, ev0, 0⟩)))], [2, 5, 11]⟩) (Imp.of (fun i => i) (.cons rfl (DLe.refl _) (.cons rfl (DLe.refl _) (.cons rfl (DLe.refl _) (.cons rfl (DLe.refl _) .nil)))) (.cons rfl (.blk ?_) (.cons rfl (.refl _) (.cons rfl (.blk ?_) .nil))) rfl rfl rfl) ?_
  · repeat (first | exact DLeL.nil | refine DLeL.cons (DLe.refl _) ?_ | refine DLeL.cons (DLe.nils 1) ?_)
  · repeat (first | exact DLeL.nil | refine DLeL.cons (DLe.refl _) ?_ | refine DLeL.cons (DLe.nils 1) ?_)
  refine a_seq ?_
  refine a_seq ?_
  (apply a_region; (case ht => exact .cons (o_move rfl) <| .cons (o_callN (fun _ => 11) 0 k4 rfl (DLeL.refl _) (PreOk.cons rfl PreOk.nil) rfl (RoOk.cons rfl RoOk.nil)) <| .cons (o_int rfl rfl rfl) <| .nil _); (case hd => kernel_rfl); (case hnew => kernel_rfl))
  refine a_cond _ rfl (fun c1 => ?_) (fun c1 => ?_)
  · have he : r3.err ≠ 0 := by simpa using c1
    rw [if_pos he]
    refine a_seq ?_
    (apply a_region; (case ht => exact .cons (o_build rfl rfl rfl) <| .cons (o_store rfl rfl rfl rfl rfl rfl rfl) <| .cons (o_assign rfl) <| .nil _); (case hd => kernel_rfl); (case hnew => kernel_rfl))
    refine a_ret ?_
    refine a_post (ResV.r2 (ResOk.cell rfl rfl (.row _ CRow.h (Nat.le_of_ble_eq_true rfl) rfl)) (ResOk.tmp rfl)) (DLe.tup (.cons (DLe.agg ?_) (.cons (DLe.refl _) .nil))) PostOk.nil.spec
    repeat (first | exact DLeL.nil | refine DLeL.cons (DLe.refl _) ?_ | refine DLeL.cons (DLe.nils 1) ?_)
  · have he : r3.err = 0 := by simpa using c1
    rw [if_neg (by simp [he])]
    refine a_skip ?_
    refine a_seq ?_
    refine a_seq ?_
    (apply a_region; (case ht => ((apply tc; (case h => (first | (exact o_fieldAddr rfl) | (exact o_fieldAddr_e rfl rfl) | (exact o_fieldAddr_p rfl)))); (apply tc; (case h => (first | (exact o_load_s rfl rfl rfl) | (exact o_load_es rfl rfl) | (exact o_load_ps rfl rfl rfl rfl rfl)))); exact tn)); (case hd => kernel_rfl); (case hnew => kernel_rfl))
    refine a_block ?_
    refine a_seq ?_
    (apply a_region; (case ht => exact .cons (o_int rfl rfl rfl) <| .cons (o_assign rfl) <| .nil _); (case hd => kernel_rfl); (case hnew => kernel_rfl))
    refine a_cond _ rfl (fun c2 => ?_) (fun c2 => ?_)
    · have h1 : v1 = 1 := by simpa using c2
      subst h1
      rw [if_pos rfl]
      have hb := byt_drop hx (xs.length - r3.xs.length)
      have kc := clkRead_c (xs.drop (xs.length - r3.xs.length)) hb (by simp; omega)
      have hml : (List.map (DV.int IntKind.u8) xs).length = xs.length := by simp
      have hsl := u8s_dropB xs (xs.length - r3.xs.length)
      refine a_seq ?_
      (apply a_region; (case ht => ((apply tc; (case h => exact o_move rfl)); (apply tc; (case h => exact o_move rfl)); (apply tc; (case h => (first | (exact o_callN (fun _ => 11) 0 k5 rfl (DLeL.refl _) (PreOk.cons rfl PreOk.nil) rfl (RoOk.cons rfl RoOk.nil)) | (exact o_slice (xs.length - r3.xs.length) _ rfl (Bd.at rfl (by simp; omega)) Bd.no (by simp) (Nat.le_refl _)) | (exact o_len rfl) | (exact o_len_r rfl rfl) | (exact o_len_n rfl)))); (apply tc; (case h => exact o_move rfl)); (apply tc; (case h => (first | (exact o_callN (fun _ => 11) 0 k5 rfl (DLeL.refl _) (PreOk.cons rfl PreOk.nil) rfl (RoOk.cons rfl RoOk.nil)) | (exact o_slice (xs.length - r3.xs.length) _ rfl (Bd.at rfl (by simp; omega)) Bd.no (by simp) (Nat.le_refl _))))); (apply tc; (case h => (first | (exact o_callN (fun _ => 11) 0 k5 rfl (DLeL.refl _) (PreOk.cons rfl PreOk.nil) rfl (RoOk.cons rfl RoOk.nil)) | (exact o_slice (xs.length - r3.xs.length) _ rfl (Bd.at rfl (by simp; omega)) Bd.no (by simp) (Nat.le_refl _)) | (exact o_sub rfl rfl (by simp only [InR]; omega)) | (exact o_int rfl rfl rfl)))); (apply tc; (case h => (first | (exact o_callN (fun _ => 11) 0 k5 rfl (DLeL.refl _) (PreOk.cons rfl PreOk.nil) rfl (RoOk.cons rfl RoOk.nil)) | (exact o_slice (xs.length - r3.xs.length) _ rfl (Bd.at rfl (by simp; omega)) Bd.no (by simp) (Nat.le_refl _)) | (exact o_slice _ _ rfl (Bd.at rfl rfl) Bd.no (by omega) (by omega)) | (exact o_slice _ _ rfl Bd.no (Bd.at rfl rfl) (by omega) (by omega)) | (exact o_slice _ _ rfl (Bd.at rfl rfl) (Bd.at rfl rfl) (by omega) (by omega))))); (apply tc; (case h => exact o_assign rfl)); exact tn)); (case hd => kernel_rfl); (case hnew => kernel_rfl))
      refine a_imp (σ' := ⟨[(0, u8s xs), (2, .ref 2 0), (4, .ref 11 0), (5, .ref 5 0), (6, u8s (xs.drop (xs.length - r3.xs.length)))], [(2, some (.blk 52 (recD re0))), (11, some (rdE r3)), (5, some (.blk 52 (recD ⟨v2, v3, clk0, 1, ev0, 0⟩)))], [2, 5, 11]⟩) (Imp.of (fun i => i) (.cons rfl (DLe.refl _) (.cons rfl (DLe.refl _) (.cons rfl (DLe.refl _) (.cons rfl (DLe.refl _) (.cons rfl (DLe.of_eq ?_) .nil))))) (.cons rfl (.refl _) (.cons rfl (.refl _) (.cons rfl (.refl _) .nil))) rfl rfl rfl) ?_
      · exact hsl
      have hyl : (xs.drop (xs.length - r3.xs.length)).length ≤ 140737488355328 := by simp; omega
      generalize xs.drop (xs.length - r3.xs.length) = ys at *
      refine a_seq ?_
      cases hc : clkR ys with
      | none =>
        simp only [clkRD, hc] at kc
        (apply a_region; (case ht => ((apply tc; (case h => exact o_move rfl)); (apply tc; (case h => exact o_call kc rfl (DLeL.refl _) rfl)); (apply tc; (case h => exact o_move rfl)); (apply tc; (case h => exact o_extract rfl rfl)); (apply tc; (case h => exact o_extract rfl rfl)); (apply tc; (case h => exact o_extract rfl rfl)); (apply tc; (case h => exact o_alloc rfl)); (apply tc; (case h => (first | (exact o_call kc rfl (DLeL.refl _) rfl) | (exact o_store rfl rfl rfl rfl rfl rfl rfl)))); (apply tc; (case h => exact o_assign rfl)); (apply tc; (case h => exact o_assign rfl)); exact tn)); (case hd => kernel_rfl); (case hnew => kernel_rfl))
        refine a_seq ?_
        refine a_seq ?_
        (apply a_region; (case ht => exact .cons (o_move rfl) <| .cons (o_int rfl rfl rfl) <| .nil _); (case hd => kernel_rfl); (case hnew => kernel_rfl))
        refine a_cond _ rfl (fun c3 => ?_) (fun c3 => ?_)
        · refine a_seq ?_
          (apply a_region; (case ht => exact .cons (o_build rfl rfl rfl) <| .cons (o_store rfl rfl rfl rfl rfl rfl rfl) <| .cons (o_assign rfl) <| .nil _); (case hd => kernel_rfl); (case hnew => kernel_rfl))
          refine a_ret ?_
          refine a_post (ResV.r2 (ResOk.cell rfl rfl (.row _ CRow.h (Nat.le_of_ble_eq_true rfl) rfl)) (ResOk.tmp rfl)) (DLe.tup (.cons (DLe.agg ?_) (.cons (DLe.refl _) .nil))) PostOk.nil.spec
          repeat (first | exact DLeL.nil | refine DLeL.cons (DLe.refl _) ?_ | refine DLeL.cons (DLe.nils 1) ?_)
        · simp at c3
      | some p =>
        obtain ⟨c, n⟩ := p
        simp only [clkRD, hc] at kc
        have hnl := clkR_le ys c n hc
        have kn := newReader_c (ys.drop n) (by simp; omega)
        have hr5 : RdOk ⟨ys.drop n, 0⟩ := ⟨byt_drop hb n, by simp; omega⟩
        have ke := readEvent_c v2 ⟨ys.drop n, 0⟩ hr5
        have al := event_args ⟨ys.drop n, 0⟩ hr5 v2
        dsimp only
        generalize Rd.event v2 ⟨ys.drop n, 0⟩ = qe at *
        obtain ⟨ev, r5⟩ := qe
        simp only at ke al
        dsimp only
        have kf := rEnd_c r5
        have kk := check_c ⟨v2, v3, c, 1, ev, 0⟩ (by simp only; omega) ⟨b3.1, by simp only; omega⟩
        have hsl2 := u8s_dropB ys n
        (apply a_region; (case ht => ((apply tc; (case h => exact o_move rfl)); (apply tc; (case h => exact o_call kc rfl (DLeL.refl _) rfl)); (apply tc; (case h => exact o_move rfl)); (apply tc; (case h => exact o_extract rfl rfl)); (apply tc; (case h => exact o_extract rfl rfl)); (apply tc; (case h => exact o_extract rfl rfl)); (apply tc; (case h => exact o_alloc rfl)); (apply tc; (case h => (first | (exact o_call kc rfl (DLeL.refl _) rfl) | (exact o_store rfl rfl rfl rfl rfl rfl rfl)))); (apply tc; (case h => exact o_assign rfl)); (apply tc; (case h => exact o_assign rfl)); exact tn)); (case hd => kernel_rfl); (case hnew => kernel_rfl))
        refine a_seq ?_
        refine a_seq ?_
        (apply a_region; (case ht => exact .cons (o_move rfl) <| .cons (o_int rfl rfl rfl) <| .nil _); (case hd => kernel_rfl); (case hnew => kernel_rfl))
        refine a_cond _ rfl (fun c3 => ?_) (fun c3 => ?_)
        · simp at c3
        · refine a_skip ?_
          refine a_seq ?_
          (apply a_region; (case ht => ((apply tc; (case h => (first | (exact o_load_r rfl rfl rfl rfl) | (exact o_load_er rfl rfl rfl) | (exact o_load_pr rfl rfl rfl rfl rfl rfl)))); (apply tc; (case h => (first | (exact o_fieldAddr rfl) | (exact o_fieldAddr_e rfl rfl) | (exact o_fieldAddr_p rfl)))); (apply tc; (case h => exact o_store rfl rfl rfl rfl rfl rfl rfl)); exact tn)); (case hd => kernel_rfl); (case hnew => kernel_rfl))
          refine a_seq ?_
          (apply a_region; (case ht => ((apply tc; (case h => exact o_move rfl)); (apply tc; (case h => exact o_move rfl)); (apply tc; (case h => (first | (exact o_slice n _ rfl (Bd.at rfl rfl) Bd.no (by simp; omega) (Nat.le_refl _)) | (exact o_callN (fun _ => 49) 1 kn rfl (DLeL.of_eq (by rw [hsl2]; rfl)) PreOk.nil rfl RoOk.nil) | (exact o_slice _ _ rfl (Bd.at rfl rfl) Bd.no (by omega) (by omega)) | (exact o_slice _ _ rfl Bd.no (Bd.at rfl rfl) (by omega) (by omega)) | (exact o_slice _ _ rfl (Bd.at rfl rfl) (Bd.at rfl rfl) (by omega) (by omega))))); (apply tc; (case h => (first | (exact o_slice n _ rfl (Bd.at rfl rfl) Bd.no (by simp; omega) (Nat.le_refl _)) | (exact o_callN (fun _ => 49) 1 kn rfl (DLeL.of_eq (by rw [hsl2]; rfl)) PreOk.nil rfl RoOk.nil)))); (apply tc; (case h => exact o_assign rfl)); exact tn)); (case hd => kernel_rfl); (case hnew => kernel_rfl))
          (apply a_region; (case ht => ((apply tc; (case h => exact o_move rfl)); (apply tc; (case h => (first | (exact o_fieldAddr rfl) | (exact o_fieldAddr_e rfl rfl) | (exact o_fieldAddr_p rfl)))); (apply tc; (case h => (first | (exact o_callN (fun _ => 49) 1 ke rfl (DLeL.refl _) (PreOk.cons rfl PreOk.nil) rfl RoOk.nil) | (exact o_load_s rfl rfl rfl) | (exact o_load_es rfl rfl) | (exact o_load_ps rfl rfl rfl rfl rfl)))); (apply tc; (case h => exact o_callN (fun _ => 49) 1 ke rfl (DLeL.refl _) (PreOk.cons rfl PreOk.nil) rfl RoOk.nil)); (apply tc; (case h => (first | (exact o_fieldAddr rfl) | (exact o_fieldAddr_e rfl rfl) | (exact o_fieldAddr_p rfl)))); (apply tc; (case h => (first | (exact o_callN (fun _ => 49) 1 ke rfl (DLeL.refl _) (PreOk.cons rfl PreOk.nil) rfl RoOk.nil) | (exact o_store rfl rfl rfl rfl rfl rfl rfl)))); exact tn)); (case hd => kernel_rfl); (case hnew => kernel_rfl))
          refine a_imp (σ' := ⟨[(0, u8s xs), (2, .ref 2 0), (4, .ref 49 0), (5, .ref 5 0)], [(2, some (.blk 52 (recD re0))), (49, some (rdE r5)), (5, some (.blk 52 (recD ⟨v2, v3, c, 1, ev, 0⟩)))], [2, 5, 49]⟩) (Imp.of (fun i => i) (.cons rfl (DLe.refl _) (.cons rfl (DLe.refl _) (.cons rfl (DLe.refl _) (.cons rfl (DLe.refl _) .nil)))) (.cons rfl (.refl _) (.cons rfl (.refl _) (.cons rfl (.refl _) .nil))) rfl rfl rfl) ?_
          refine a_seq ?_
          refine a_seq ?_
          (apply a_region; (case ht => ((apply tc; (case h => exact o_move rfl)); (apply tc; (case h => (first | (exact o_callN (fun _ => 49) 0 kf rfl (DLeL.refl _) (PreOk.cons rfl PreOk.nil) rfl (RoOk.cons rfl RoOk.nil)) | (exact o_call kk rfl (DLeL.refl _) rfl)))); (apply tc; (case h => exact o_int rfl rfl rfl)); (apply tc; (case h => exact o_move rfl)); (apply tc; (case h => (apply o_guardF rfl rfl; (case hS => intro hb; exact (Strips.keep Strips.nil)); (case h => intro hb; (first | (exact o_callN (fun _ => 49) 0 kf rfl (DLeL.refl _) (PreOk.cons rfl PreOk.nil) rfl (RoOk.cons rfl RoOk.nil)) | (exact o_call kk rfl (DLeL.refl _) rfl) | (exact o_load_r rfl rfl rfl rfl) | (exact o_load_er rfl rfl rfl) | (exact o_load_pr rfl rfl rfl rfl rfl rfl)))))); (apply tc; (case h => (apply o_guardF rfl rfl; (case hS => intro hb; exact (Strips.strip rfl (nt hb) Strips.nil)); (case h => intro hb; (first | (exact o_callN (fun _ => 49) 0 kf rfl (DLeL.refl _) (PreOk.cons rfl PreOk.nil) rfl (RoOk.cons rfl RoOk.nil)) | (exact o_call kk rfl (DLeL.refl _) rfl)))))); (apply tc; (case h => (apply o_guardF rfl rfl; (case hS => intro hb; exact (Strips.strip rfl (nt hb) Strips.nil)); (case h => intro hb; (first | (exact o_int rfl rfl rfl) | (exact o_callN (fun _ => 49) 0 kf rfl (DLeL.refl _) (PreOk.cons rfl PreOk.nil) rfl (RoOk.cons rfl RoOk.nil)) | (exact o_call kk rfl (DLeL.refl _) rfl)))))); (apply tc; (case h => (first | (exact o_and rfl rfl) | (exact o_or rfl rfl)))); exact tn)); (case hd => kernel_rfl); (case hnew => kernel_rfl))
          refine a_cond _ rfl (fun c7 => ?_) (fun c7 => ?_)
          · have hf : fin1 r5 ⟨v2, v3, c, 1, ev, 0⟩ = none := by
              unfold fin1
              simp only [Bool.or_eq_true, bne_iff_ne] at c7
              rcases c7 with h | h
              · rw [if_pos h]
              · rw [if_pos h]; split <;> rfl
            rw [hf]
            refine a_seq ?_
            (apply a_region; (case ht => exact .cons (o_build rfl rfl rfl) <| .cons (o_store rfl rfl rfl rfl rfl rfl rfl) <| .cons (o_assign rfl) <| .nil _); (case hd => kernel_rfl); (case hnew => kernel_rfl))
            refine a_ret ?_
            refine a_post (ResV.r2 (ResOk.cell rfl rfl (.row _ CRow.h (Nat.le_of_ble_eq_true rfl) rfl)) (ResOk.tmp rfl)) (DLe.tup (.cons (DLe.agg ?_) (.cons (DLe.refl _) .nil))) PostOk.nil.spec
            repeat (first | exact DLeL.nil | refine DLeL.cons (DLe.refl _) ?_ | refine DLeL.cons (DLe.nils 1) ?_)
          · have hf : fin1 r5 ⟨v2, v3, c, 1, ev, 0⟩ = some ⟨v2, v3, c, 1, ev, 0⟩ := by
              unfold fin1
              simp only [Bool.or_eq_false_iff, bne_eq_false_iff_eq] at c7
              rw [if_neg (by simp [c7.1]), if_neg (by simp [c7.2])]
            rw [hf]
            refine a_skip ?_
            refine a_seq ?_
            (apply a_region; (case ht => ((apply tc; (case h => (first | (exact o_load_r rfl rfl rfl rfl) | (exact o_load_er rfl rfl rfl) | (exact o_load_pr rfl rfl rfl rfl rfl rfl)))); (apply tc; (case h => exact o_store rfl rfl rfl rfl rfl rfl rfl)); (apply tc; (case h => exact o_assign rfl)); exact tn)); (case hd => kernel_rfl); (case hnew => kernel_rfl))
            refine a_ret ?_
            refine a_post (ResV.r2 (ResOk.cell rfl rfl (.row _ CRow.h (Nat.le_of_ble_eq_true rfl) rfl)) (ResOk.tmp rfl)) (DLe.refl _) PostOk.nil.spec
    · have h1 : v1 ≠ 1 := by simpa using c2
      rw [if_neg h1]
      refine a_seq ?_
      (apply a_region; (case ht => exact .cons (o_int rfl rfl rfl) <| .cons (o_assign rfl) <| .nil _); (case hd => kernel_rfl); (case hnew => kernel_rfl))
      refine a_cond _ rfl (fun c4 => ?_) (fun c4 => ?_)
      · have h2 : v1 = 2 := by simpa using c4
        subst h2
        rw [if_pos rfl]
        have k6 := rUint_c r3 M64 o3 ⟨by decide, by decide⟩
        have b6 := uint_range o3 (m := M64) (by decide)
        have o6 := o3.uint M64
        generalize r3.uint M64 = q6 at *
        obtain ⟨v6, r6⟩ := q6
        simp only at k6 b6 o6 ⊢
        have kf := rEnd_c r6
        have kk := check_c ⟨v2, v3, clk0, 2, ev0, v6⟩ (Nat.zero_le _) ⟨b3.1, by simp only; omega⟩
        (apply a_region; (case ht => ((apply tc; (case h => exact o_move rfl)); (apply tc; (case h => exact o_callN (fun _ => 11) 1 k6 rfl (DLeL.refl _) (PreOk.cons rfl PreOk.nil) rfl RoOk.nil)); (apply tc; (case h => (first | (exact o_fieldAddr rfl) | (exact o_fieldAddr_e rfl rfl) | (exact o_fieldAddr_p rfl)))); (apply tc; (case h => (first | (exact o_callN (fun _ => 11) 1 k6 rfl (DLeL.refl _) (PreOk.cons rfl PreOk.nil) rfl RoOk.nil) | (exact o_store_s rfl rfl rfl rfl rfl)))); exact tn)); (case hd => kernel_rfl); (case hnew => kernel_rfl))
        refine a_imp (σ' := ⟨[(0, u8s xs), (2, .ref 2 0), (4, .ref 11 0), (5, .ref 5 0)], [(2, some (.blk 52 (recD re0))), (11, some (rdE r6)), (5, some (.blk 52 (recD ⟨v2, v3, clk0, 2, ev0, v6⟩)))], [2, 5, 11]⟩) (Imp.of (fun i => i) (.cons rfl (DLe.refl _) (.cons rfl (DLe.refl _) (.cons rfl (DLe.refl _) (.cons rfl (DLe.refl _) .nil)))) (.cons rfl (.refl _) (.cons rfl (.refl _) (.cons rfl (.refl _) .nil))) rfl rfl rfl) ?_
        refine a_seq ?_
        refine a_seq ?_
        (apply a_region; (case ht => ((apply tc; (case h => exact o_move rfl)); (apply tc; (case h => (first | (exact o_callN (fun _ => 11) 0 kf rfl (DLeL.refl _) (PreOk.cons rfl PreOk.nil) rfl (RoOk.cons rfl RoOk.nil)) | (exact o_call kk rfl (DLeL.refl _) rfl)))); (apply tc; (case h => exact o_int rfl rfl rfl)); (apply tc; (case h => exact o_move rfl)); (apply tc; (case h => (apply o_guardF rfl rfl; (case hS => intro hb; exact (Strips.keep Strips.nil)); (case h => intro hb; (first | (exact o_callN (fun _ => 11) 0 kf rfl (DLeL.refl _) (PreOk.cons rfl PreOk.nil) rfl (RoOk.cons rfl RoOk.nil)) | (exact o_call kk rfl (DLeL.refl _) rfl) | (exact o_load_r rfl rfl rfl rfl) | (exact o_load_er rfl rfl rfl) | (exact o_load_pr rfl rfl rfl rfl rfl rfl)))))); (apply tc; (case h => (apply o_guardF rfl rfl; (case hS => intro hb; exact (Strips.strip rfl (nt hb) Strips.nil)); (case h => intro hb; (first | (exact o_callN (fun _ => 11) 0 kf rfl (DLeL.refl _) (PreOk.cons rfl PreOk.nil) rfl (RoOk.cons rfl RoOk.nil)) | (exact o_call kk rfl (DLeL.refl _) rfl)))))); (apply tc; (case h => (apply o_guardF rfl rfl; (case hS => intro hb; exact (Strips.strip rfl (nt hb) Strips.nil)); (case h => intro hb; (first | (exact o_int rfl rfl rfl) | (exact o_callN (fun _ => 11) 0 kf rfl (DLeL.refl _) (PreOk.cons rfl PreOk.nil) rfl (RoOk.cons rfl RoOk.nil)) | (exact o_call kk rfl (DLeL.refl _) rfl)))))); (apply tc; (case h => (first | (exact o_and rfl rfl) | (exact o_or rfl rfl)))); exact tn)); (case hd => kernel_rfl); (case hnew => kernel_rfl))
        refine a_cond _ rfl (fun c7 => ?_) (fun c7 => ?_)
        · have hf : fin1 r6 ⟨v2, v3, clk0, 2, ev0, v6⟩ = none := by
            unfold fin1
            simp only [Bool.or_eq_true, bne_iff_ne] at c7
            rcases c7 with h | h
            · rw [if_pos h]
            · rw [if_pos h]; split <;> rfl
          rw [hf]
          refine a_seq ?_
          (apply a_region; (case ht => exact .cons (o_build rfl rfl rfl) <| .cons (o_store rfl rfl rfl rfl rfl rfl rfl) <| .cons (o_assign rfl) <| .nil _); (case hd => kernel_rfl); (case hnew => kernel_rfl))
          refine a_ret ?_
          refine a_post (ResV.r2 (ResOk.cell rfl rfl (.row _ CRow.h (Nat.le_of_ble_eq_true rfl) rfl)) (ResOk.tmp rfl)) (DLe.tup (.cons (DLe.agg ?_) (.cons (DLe.refl _) .nil))) PostOk.nil.spec
          repeat (first | exact DLeL.nil | refine DLeL.cons (DLe.refl _) ?_ | refine DLeL.cons (DLe.nils 1) ?_)
        · have hf : fin1 r6 ⟨v2, v3, clk0, 2, ev0, v6⟩ = some ⟨v2, v3, clk0, 2, ev0, v6⟩ := by
            unfold fin1
            simp only [Bool.or_eq_false_iff, bne_eq_false_iff_eq] at c7
            rw [if_neg (by simp [c7.1]), if_neg (by simp [c7.2])]
          rw [hf]
          refine a_skip ?_
          refine a_seq ?_
          (apply a_region; (case ht => ((apply tc; (case h => (first | (exact o_load_r rfl rfl rfl rfl) | (exact o_load_er rfl rfl rfl) | (exact o_load_pr rfl rfl rfl rfl rfl rfl)))); (apply tc; (case h => exact o_store rfl rfl rfl rfl rfl rfl rfl)); (apply tc; (case h => exact o_assign rfl)); exact tn)); (case hd => kernel_rfl); (case hnew => kernel_rfl))
          refine a_ret ?_
          refine a_post (ResV.r2 (ResOk.cell rfl rfl (.row _ CRow.h (Nat.le_of_ble_eq_true rfl) rfl)) (ResOk.tmp rfl)) (DLe.refl _) PostOk.nil.spec
      · have h2 : v1 ≠ 2 := by simpa using c4
        rw [if_neg h2]
        have kf := rEnd_c r3
        have kk := check_c ⟨v2, v3, clk0, v1, ev0, 0⟩ (Nat.zero_le _) ⟨b3.1, by simp only; omega⟩
        refine a_skip ?_
        refine a_seq ?_
        refine a_seq ?_
        (apply a_region; (case ht => ((apply tc; (case h => exact o_move rfl)); (apply tc; (case h => (first | (exact o_callN (fun _ => 11) 0 kf rfl (DLeL.refl _) (PreOk.cons rfl PreOk.nil) rfl (RoOk.cons rfl RoOk.nil)) | (exact o_call kk rfl (DLeL.refl _) rfl)))); (apply tc; (case h => exact o_int rfl rfl rfl)); (apply tc; (case h => exact o_move rfl)); (apply tc; (case h => (apply o_guardF rfl rfl; (case hS => intro hb; exact (Strips.keep Strips.nil)); (case h => intro hb; (first | (exact o_callN (fun _ => 11) 0 kf rfl (DLeL.refl _) (PreOk.cons rfl PreOk.nil) rfl (RoOk.cons rfl RoOk.nil)) | (exact o_call kk rfl (DLeL.refl _) rfl) | (exact o_load_r rfl rfl rfl rfl) | (exact o_load_er rfl rfl rfl) | (exact o_load_pr rfl rfl rfl rfl rfl rfl)))))); (apply tc; (case h => (apply o_guardF rfl rfl; (case hS => intro hb; exact (Strips.strip rfl (nt hb) Strips.nil)); (case h => intro hb; (first | (exact o_callN (fun _ => 11) 0 kf rfl (DLeL.refl _) (PreOk.cons rfl PreOk.nil) rfl (RoOk.cons rfl RoOk.nil)) | (exact o_call kk rfl (DLeL.refl _) rfl)))))); (apply tc; (case h => (apply o_guardF rfl rfl; (case hS => intro hb; exact (Strips.strip rfl (nt hb) Strips.nil)); (case h => intro hb; (first | (exact o_int rfl rfl rfl) | (exact o_callN (fun _ => 11) 0 kf rfl (DLeL.refl _) (PreOk.cons rfl PreOk.nil) rfl (RoOk.cons rfl RoOk.nil)) | (exact o_call kk rfl (DLeL.refl _) rfl)))))); (apply tc; (case h => (first | (exact o_and rfl rfl) | (exact o_or rfl rfl)))); exact tn)); (case hd => kernel_rfl); (case hnew => kernel_rfl))
        refine a_cond _ rfl (fun c7 => ?_) (fun c7 => ?_)
        · have hf : fin1 r3 ⟨v2, v3, clk0, v1, ev0, 0⟩ = none := by
            unfold fin1
            simp only [Bool.or_eq_true, bne_iff_ne] at c7
            rcases c7 with h | h
            · rw [if_pos h]
            · rw [if_pos h]; split <;> rfl
          rw [hf]
          refine a_seq ?_
          (apply a_region; (case ht => exact .cons (o_build rfl rfl rfl) <| .cons (o_store rfl rfl rfl rfl rfl rfl rfl) <| .cons (o_assign rfl) <| .nil _); (case hd => kernel_rfl); (case hnew => kernel_rfl))
          refine a_ret ?_
          refine a_post (ResV.r2 (ResOk.cell rfl rfl (.row _ CRow.h (Nat.le_of_ble_eq_true rfl) rfl)) (ResOk.tmp rfl)) (DLe.tup (.cons (DLe.agg ?_) (.cons (DLe.refl _) .nil))) PostOk.nil.spec
          repeat (first | exact DLeL.nil | refine DLeL.cons (DLe.refl _) ?_ | refine DLeL.cons (DLe.nils 1) ?_)
        · have hf : fin1 r3 ⟨v2, v3, clk0, v1, ev0, 0⟩ = some ⟨v2, v3, clk0, v1, ev0, 0⟩ := by
            unfold fin1
            simp only [Bool.or_eq_false_iff, bne_eq_false_iff_eq] at c7
            rw [if_neg (by simp [c7.1]), if_neg (by simp [c7.2])]
          rw [hf]
          refine a_skip ?_
          refine a_seq ?_
          (apply a_region; (case ht => ((apply tc; (case h => (first | (exact o_load_r rfl rfl rfl rfl) | (exact o_load_er rfl rfl rfl) | (exact o_load_pr rfl rfl rfl rfl rfl rfl)))); (apply tc; (case h => exact o_store rfl rfl rfl rfl rfl rfl rfl)); (apply tc; (case h => exact o_assign rfl)); exact tn)); (case hd => kernel_rfl); (case hnew => kernel_rfl))
          refine a_ret ?_
          refine a_post (ResV.r2 (ResOk.cell rfl rfl (.row _ CRow.h (Nat.le_of_ble_eq_true rfl) rfl)) (ResOk.tmp rfl)) (DLe.refl _) PostOk.nil.spec
end Go.Proofs.YtepkcbalmjnhpaaGreat
set_option linter.unusedVariables false
set_option linter.unusedSimpArgs false
namespace Go.Proofs.YtepkcbalmjnhpaaGreat
open Go.RowKit
theorem decU_put : ∀ (xs : List Int) (i : Nat) (acc v : Int) (n : Nat), (∀ b ∈ xs, Byt b) → decU i acc xs = some (v, n) →
    ∃ u, 0 ≤ u ∧ (0 < i → 0 < u) ∧ v = acc + u * 128 ^ i ∧ xs = putU u ++ xs.drop (n - i)
  | [], i, acc, v, n, _, h => by simp [decU] at h
  | b :: rest, i, acc, v, n, hx, h => by
    have hb := hx b (by simp)
    have hb0 := hb.1
    have hb1 := hb.2
    unfold decU at h
    split at h
    · cases h
    · split at h
      · rename_i hlt
        split at h
        · cases h
        · rename_i hz
          injection h with h; injection h with h1 h2
          refine ⟨b, hb0, fun hi => ?_, ?_, ?_⟩
          · rcases Int.lt_or_eq_of_le hb0 with h | h
            · exact h
            · exact absurd ⟨h.symm, hi⟩ hz
          · rw [← h1, Int.emod_eq_of_lt hb0 (by omega)]
          · rw [putU_small hlt, ← h2]
            have : i + 1 - i = 1 := by omega
            rw [this]; rfl
      · rename_i hge
        obtain ⟨u, q0, q1, q2, q3⟩ := decU_put rest (i + 1) _ v n (fun c hc => hx c (by simp [hc])) h
        have hle := decU_le rest (i + 1) _ v n h
        have hu := q1 (by omega)
        refine ⟨b % 128 + 128 * u, by omega, fun _ => by omega, ?_, ?_⟩
        · rw [q2, Int.pow_succ, Int.add_mul]
          have : u * (128 ^ i * 128) = 128 * u * 128 ^ i := by rw [Int.mul_comm (128 ^ i) 128, ← Int.mul_assoc, Int.mul_comm u 128]
          rw [this]; omega
        · rw [putU_big (by omega)]
          have e1 : (b % 128 + 128 * u) % 128 + 128 = b := by omega
          have e2 : (b % 128 + 128 * u) / 128 = u := by omega
          rw [e1, e2, List.cons_append]
          have e3 : n - i = (n - (i + 1)) + 1 := by omega
          rw [e3, List.drop_succ_cons, ← q3]
theorem dec_put {xs : List Int} {v : Int} {n : Nat} (hx : ∀ b ∈ xs, Byt b) (h : decU 0 0 xs = some (v, n)) : xs = putU v ++ xs.drop n := by
  obtain ⟨u, _, _, h1, h2⟩ := decU_put xs 0 0 v n hx h
  simp at h1
  rw [h1]; simpa using h2
theorem zig_unzig {u : Int} (h : U64 u) : zig (unzig u) = u ∧ I64 (unzig u) := by
  have h0 := h.1
  have h1 := h.2
  unfold zig unzig I64
  split <;> split <;> omega
theorem uint_ok {r : Rd} (hr : RdOk r) {m : Int} (h : (r.uint m).2.err = 0) : r.err = 0 ∧ r.xs = putU (r.uint m).1 ++ (r.uint m).2.xs := by
  obtain ⟨xs, e⟩ := r
  unfold Rd.uint at h ⊢
  by_cases he : e ≠ 0
  · rw [if_pos he] at h; exact absurd h he
  · have he' : e = 0 := Classical.not_not.1 he
    rw [if_neg he] at h ⊢
    cases hd : decU 0 0 xs with
    | none => rw [hd] at h; simp at h
    | some p =>
      obtain ⟨v, n⟩ := p
      rw [hd] at h
      simp only at h ⊢
      split at h
      · simp at h
      · rename_i hm
        rw [if_neg hm]
        exact ⟨he', dec_put hr.byt hd⟩
theorem int_ok {r : Rd} (hr : RdOk r) (h : r.int.2.err = 0) : r.err = 0 ∧ r.xs = putI r.int.1 ++ r.int.2.xs := by
  obtain ⟨xs, e⟩ := r
  unfold Rd.int at h ⊢
  by_cases he : e ≠ 0
  · rw [if_pos he] at h; exact absurd h he
  · have he' : e = 0 := Classical.not_not.1 he
    rw [if_neg he] at h ⊢
    cases hd : decU 0 0 xs with
    | none => rw [hd] at h; simp at h
    | some p =>
      obtain ⟨v, n⟩ := p
      have hu := decU_u64 xs 0 0 v n hr.byt (by omega) (by omega) (by simp) hd
      rw [hd] at h
      simp only at h ⊢
      refine ⟨he', ?_⟩
      rw [putI, (zig_unzig hu).1]
      exact dec_put hr.byt hd
theorem int_range {r : Rd} (hr : RdOk r) : I64 r.int.1 := by
  obtain ⟨xs, e⟩ := r
  unfold Rd.int
  split
  · exact ⟨by simp, by simp⟩
  · split
    · exact ⟨by simp, by simp⟩
    · rename_i v n hd
      exact (zig_unzig (decU_u64 xs 0 0 v n hr.byt (by omega) (by omega) (by simp) hd)).2
theorem byte_ok {r : Rd} (h : r.byte.2.err = 0) : r.err = 0 ∧ r.xs = r.byte.1 :: r.byte.2.xs := by
  obtain ⟨xs, e⟩ := r
  unfold Rd.byte at h ⊢
  by_cases he : e ≠ 0
  · rw [if_pos he] at h; exact absurd h he
  · have he' : e = 0 := Classical.not_not.1 he
    rw [if_neg he] at h ⊢
    cases xs with
    | nil => simp at h
    | cons b rest => exact ⟨he', rfl⟩
theorem ints_ok : ∀ (n : Nat) {r : Rd}, RdOk r → (r.ints n).2.err = 0 → r.err = 0 ∧ r.xs = (r.ints n).1.flatMap putI ++ (r.ints n).2.xs ∧ ∀ x ∈ (r.ints n).1, I64 x
  | 0, r, _, h => ⟨h, rfl, by simp [Rd.ints]⟩
  | n + 1, r, hr, h => by
    simp only [Rd.ints] at h ⊢
    obtain ⟨h1, h2, h3⟩ := ints_ok n hr.int h
    obtain ⟨k1, k2⟩ := int_ok hr h1
    refine ⟨k1, ?_, ?_⟩
    · rw [List.flatMap_cons, List.append_assoc, ← h2]; exact k2
    · intro x hx
      rcases List.mem_cons.1 hx with rfl | hx
      · exact int_range hr
      · exact h3 x hx
theorem event_ok {r : Rd} (hr : RdOk r) {c : Int} (h : (r.event c).2.err = 0) : r.err = 0 ∧ r.xs = evBytes (r.event c).1 ++ (r.event c).2.xs ∧ (I64 c → EvT (r.event c).1) := by
  unfold Rd.event at h ⊢
  simp only at h ⊢
  have o1 := hr.uint M31
  have o2 := o1.uint 255
  have o3 := o2.uint M31
  have o4 := o3.uint M31
  have o5 := o4.uint M31
  have o6 := o5.uint M31
  have o7 := o6.int
  have o8 := o7.uint 4
  obtain ⟨h9, e9, t9⟩ := ints_ok _ o8 h
  obtain ⟨h8, e8⟩ := uint_ok o7 h9
  obtain ⟨h7, e7⟩ := int_ok o6 h8
  obtain ⟨h6, e6⟩ := uint_ok o5 h7
  obtain ⟨h5, e5⟩ := uint_ok o4 h6
  obtain ⟨h4, e4⟩ := uint_ok o3 h5
  obtain ⟨h3, e3⟩ := uint_ok o2 h4
  obtain ⟨h2, e2⟩ := uint_ok o1 h3
  obtain ⟨h1, e1⟩ := uint_ok hr h2
  have m : M31 = 2147483647 := rfl
  have b1 := uint_range hr (m := M31) (by decide)
  have b2 := uint_range o1 (m := 255) (by decide)
  have b3 := uint_range o2 (m := M31) (by decide)
  have b4 := uint_range o3 (m := M31) (by decide)
  have b5 := uint_range o4 (m := M31) (by decide)
  have b6 := uint_range o5 (m := M31) (by decide)
  have b7 := int_range o6
  have b8 := uint_range o7 (m := 4) (by decide)
  refine ⟨h1, ?_, fun hc => ⟨?_, hc, b2, ?_, ?_, ?_, ?_, b7, t9⟩⟩
  · rw [e1, e2, e3, e4, e5, e6, e7, e8, e9]
    simp only [evBytes, evNums, List.flatMap_cons, List.flatMap_nil, ints_len, List.append_assoc, List.append_nil]
    rw [Int.toNat_of_nonneg b8.1]
  all_goals (unfold I64; simp only; omega)
theorem ents_ok : ∀ (n : Nat) (xs l : List Int) (t : Nat), (∀ b ∈ xs, Byt b) → ents n xs = some (l, t) → xs = l.flatMap putU ++ xs.drop t ∧ ∀ v ∈ l, U64 v
  | 0, xs, l, t, _, h => by
    simp only [ents, Option.some.injEq, Prod.mk.injEq] at h
    rw [← h.1, ← h.2]; simp
  | n + 1, xs, l, t, hx, h => by
    unfold ents at h
    cases hd : decU 0 0 xs with
    | none => rw [hd] at h; cases h
    | some p =>
      obtain ⟨v, m⟩ := p
      have hu := decU_u64 xs 0 0 v m hx (by omega) (by omega) (by simp) hd
      have hp := dec_put hx hd
      rw [hd] at h
      simp only at h
      cases he : ents n (xs.drop m) with
      | none => rw [he] at h; cases h
      | some q =>
        obtain ⟨l', t'⟩ := q
        rw [he] at h
        simp only [Option.some.injEq, Prod.mk.injEq] at h
        obtain ⟨k1, k2⟩ := ents_ok n _ l' t' (byt_drop hx m) he
        rw [← h.1, ← h.2]
        constructor
        · rw [List.flatMap_cons, List.append_assoc]
          rw [List.drop_drop] at k1
          rw [← k1]; exact hp
        · intro y hy
          rcases List.mem_cons.1 hy with rfl | hy
          · exact hu
          · exact k2 y hy
theorem clkOf_ents (l : List Int) : (List.range l.length).map (clkOf l) = l := by
  apply List.ext_getElem?
  intro i
  rw [List.getElem?_map]
  by_cases h : i < l.length
  · simp [h, clkOf]
  · rw [List.getElem?_eq_none (by simpa using h), List.getElem?_eq_none (by simpa using h)]; rfl
theorem clkR_ok {ys : List Int} {c : Nat → Int} {n : Nat} (hx : ∀ b ∈ ys, Byt b) (h : clkR ys = some (c, n)) : ys = clkBytes c ++ ys.drop n ∧ ∀ i, U64 (c i) := by
  unfold clkR at h
  cases ys with
  | nil => cases h
  | cons b rest =>
    have hb := hx b (by simp)
    simp only at h
    split at h
    · cases h
    · cases he : ents b.toNat rest with
      | none => rw [he] at h; cases h
      | some q =>
        obtain ⟨l, t⟩ := q
        have h1 := ents_le _ _ l t he
        obtain ⟨h2, h3⟩ := ents_ok _ _ l t (fun c hc => hx c (by simp [hc])) he
        rw [he] at h
        simp only at h
        split at h
        · rename_i hcl
          simp only [Option.some.injEq, Prod.mk.injEq] at h
          obtain ⟨rfl, rfl⟩ := h
          refine ⟨?_, clkOf_u h3⟩
          rw [clkBytes_eq, hcl, entB, ← h1.2, clkOf_ents, h1.2, Int.toNat_of_nonneg hb.1, Nat.add_comm, List.drop_succ_cons, List.cons_append, ← h2]
        · cases h
theorem fin_ok {r : Rd} (h : r.fin = 0) : r.err = 0 ∧ r.xs = [] := by
  unfold Rd.fin at h
  by_cases he : r.err ≠ 0
  · rw [if_pos he] at h; exact absurd h he
  · rw [if_neg he] at h
    split at h
    · exact ⟨Classical.not_not.1 he, by assumption⟩
    · cases h
theorem fin1_ok {r : Rd} {x y : Re} (h : fin1 r x = some y) : y = x ∧ r.err = 0 ∧ r.xs = [] ∧ validB x = true := by
  unfold fin1 at h
  split at h
  · cases h
  · rename_i h1
    split at h
    · cases h
    · rename_i h2
      injection h with h
      have := fin_ok (Classical.not_not.1 h1)
      refine ⟨h.symm, this.1, this.2, ?_⟩
      have h3 : checkN x = 0 := Classical.not_not.1 h2
      unfold checkN at h3
      cases hv : validB x
      · rw [hv] at h3; simp at h3
      · rfl
theorem readRec_ok {xs : List Int} {y : Re} (hx : ∀ b ∈ xs, Byt b) (hl : xs.length ≤ 4611686018427387904) (h : readRec xs = some y) : validB y = true ∧ recBytes y = xs ∧ ReT y ∧ y.ev.args.length ≤ 4 := by
  unfold readRec at h
  simp only at h
  have o0 : RdOk ⟨xs, 0⟩ := ⟨hx, hl⟩
  have o1 := o0.byte
  have o2 := o1.uint 8
  have o3 := o2.uint M64
  have mm : M64 = 18446744073709551615 := rfl
  have b1 := byte_range o0
  have b2 := uint_range o1 (m := 8) (by decide)
  have b3 := uint_range o2 (m := M64) (by decide)
  split at h
  · cases h
  · rename_i he
    have h3 : (((⟨xs, 0⟩ : Rd).byte.2.uint 8).2.uint M64).2.err = 0 := Classical.not_not.1 he
    obtain ⟨h2, e3⟩ := uint_ok o2 h3
    obtain ⟨h1, e2⟩ := uint_ok o1 h2
    obtain ⟨_, e1⟩ := byte_ok h1
    simp only at e1
    generalize hr1 : (⟨xs, 0⟩ : Rd).byte = p1 at *
    generalize hr2 : p1.2.uint 8 = p2 at *
    generalize hr3 : p2.2.uint M64 = p3 at *
    have hxs : xs = p1.1 :: (putU p2.1 ++ putU p3.1) ++ p3.2.xs := by
      rw [List.cons_append, List.append_assoc, ← e3, ← e2]; exact e1
    have hdrop : xs.drop (xs.length - p3.2.xs.length) = p3.2.xs := by
      have hlen : xs.length - p3.2.xs.length = (p1.1 :: (putU p2.1 ++ putU p3.1)).length := by
        conv => lhs; rw [hxs]
        simp; omega
      rw [hlen]
      conv => lhs; rw [hxs]
      exact List.drop_left
    have fincase : ∀ (z : Re), z.comp = p2.1 → z.seq = p3.1 → z.what = p1.1 → validB z = true → recTail z = p3.2.xs → recBytes z = xs := by
      intro z z1 z2 z3 z4 z5
      unfold recBytes recHead
      rw [if_pos z4, z1, z2, z3, z5]; exact hxs.symm
    have hc : I64 p2.1 := ⟨by omega, by omega⟩
    split at h
    · rename_i hw
      rw [hdrop] at h
      cases hk : clkR p3.2.xs with
      | none => rw [hk] at h; cases h
      | some q =>
        obtain ⟨c, n⟩ := q
        rw [hk] at h
        simp only at h
        obtain ⟨c1, c2⟩ := clkR_ok o3.byt hk
        have hre : RdOk ⟨p3.2.xs.drop n, 0⟩ := ⟨byt_drop o3.byt n, by have := o3.len; simp; omega⟩
        obtain ⟨rfl, f1, f2, f3⟩ := fin1_ok h
        obtain ⟨_, g2, g3⟩ := event_ok hre f1
        have g4 := event_args _ hre p2.1
        refine ⟨f3, fincase _ rfl rfl hw.symm f3 ?_, ⟨hc, ⟨b3.1, by simp only; omega⟩, c2, by simp only; omega, g3 hc, by simp only [U64]; omega⟩, g4⟩
        unfold recTail
        simp only [if_true]
        rw [f2, List.append_nil] at g2
        simp only at g2
        rw [← g2]; exact c1.symm
    · rename_i hw
      have clk0u : ∀ i, U64 (clk0 i) := fun i => ⟨by simp [clk0], by simp [clk0]⟩
      have ev0t : EvT ev0 := ⟨by simp [ev0, I64], by simp [ev0, I64], by simp [ev0], by simp [ev0, I64], by simp [ev0, I64], by simp [ev0, I64], by simp [ev0, I64], by simp [ev0, I64], by simp [ev0]⟩
      split at h
      · rename_i hw2
        obtain ⟨rfl, f1, f2, f3⟩ := fin1_ok h
        obtain ⟨_, g2⟩ := uint_ok o3 f1
        have b4 := uint_range o3 (m := M64) (by decide)
        refine ⟨f3, fincase _ rfl rfl hw2.symm f3 ?_, ⟨hc, ⟨b3.1, by simp only; omega⟩, clk0u, by simp only; omega, ev0t, ⟨b4.1, by simp only; omega⟩⟩, by simp [ev0]⟩
        unfold recTail
        simp only
        rw [if_neg (by omega)]
        simp only [if_true]
        rw [f2, List.append_nil] at g2
        exact g2.symm
      · rename_i hw2
        obtain ⟨rfl, f1, f2, f3⟩ := fin1_ok h
        refine ⟨f3, fincase _ rfl rfl rfl f3 ?_, ⟨hc, ⟨b3.1, by simp only; omega⟩, clk0u, b1, ev0t, by simp only [U64]; omega⟩, by simp [ev0]⟩
        unfold recTail
        simp only
        rw [if_neg hw, if_neg hw2, f2]
end Go.Proofs.YtepkcbalmjnhpaaGreat
set_option linter.unusedVariables false
set_option linter.unusedSimpArgs false
namespace Go.Proofs.YtepkcbalmjnhpaaGreat
open Go.RowKit
theorem decU_of : ∀ (n : Nat) (v : Int) (i : Nat) (acc : Int) (s : List Int), v.toNat ≤ n → 0 ≤ v → i ≤ 9 → v * 128 ^ i < 18446744073709551616 → (0 < i → 0 < v) →
    decU i acc (putU v ++ s) = some (acc + v * 128 ^ i, i + (putU v).length) := by
  intro n
  induction n with
  | zero =>
    intro v i acc s hn h0 hi hs hp
    have hv : v = 0 := by omega
    subst hv
    have hi0 : i = 0 := by
      rcases Nat.eq_zero_or_pos i with h | h
      · exact h
      · have := hp h; omega
    subst hi0
    rw [putU_small (by omega)]
    simp [decU]
  | succ n ih =>
    intro v i acc s hn h0 hi hs hp
    have h9 : i = 9 → v ≤ 1 := by
      intro h; subst h
      have : (128 : Int) ^ 9 = 9223372036854775808 := by decide
      rw [this] at hs; omega
    by_cases hb : 128 ≤ v
    · rw [putU_big hb, List.cons_append]
      unfold decU
      rw [if_neg (by rintro ⟨h1, _⟩; have := h9 h1; omega), if_neg (by omega)]
      have e1 : (v % 128 + 128) % 128 = v % 128 := by omega
      have e2 : (128 : Int) ^ (i + 1) = 128 * 128 ^ i := by rw [Int.pow_succ, Int.mul_comm]
      have e3 : v * 128 ^ i = v % 128 * 128 ^ i + v / 128 * 128 ^ (i + 1) := by
        rw [e2, ← Int.mul_assoc, ← Int.add_mul]
        congr 1; omega
      have hp0 : (0 : Int) < 128 ^ i := Int.pow_pos (by omega)
      have hm : 0 ≤ v % 128 * 128 ^ i := Int.mul_nonneg (by omega) (by omega)
      have hi9 : i < 9 := by
        rcases Nat.lt_or_ge i 9 with h | h
        · exact h
        · have := h9 (by omega); omega
      rw [e1, ih (v / 128) (i + 1) _ s (by omega) (by omega) (by omega) (by omega) (fun _ => by omega)]
      rw [e3, Int.add_assoc, List.length_cons, Nat.add_assoc, Nat.add_comm 1]
    · rw [putU_small (by omega)]
      simp only [List.cons_append, List.nil_append]
      unfold decU
      rw [if_neg (by rintro ⟨h1, h2⟩; have := h9 h1; omega), if_pos (by omega), if_neg (by rintro ⟨h1, h2⟩; have := hp h2; omega), Int.emod_eq_of_lt h0 (by omega)]
      rfl
theorem dec_of {v : Int} (h : U64 v) (s : List Int) : decU 0 0 (putU v ++ s) = some (v, (putU v).length) := by
  have := decU_of v.toNat v 0 0 s (Nat.le_refl _) h.1 (by omega) (by simpa using h.2) (by omega)
  simpa using this
theorem uint_put {v m : Int} (h : U64 v) (hm : v ≤ m) (s : List Int) : (⟨putU v ++ s, 0⟩ : Rd).uint m = (v, ⟨s, 0⟩) := by
  unfold Rd.uint
  simp only [ne_eq, not_true_eq_false, if_false, dec_of h]
  rw [if_neg (by omega), List.drop_left]
theorem unzig_zig {v : Int} : unzig (zig v) = v := by
  unfold zig unzig
  split <;> split <;> omega
theorem int_put {v : Int} (h : I64 v) (s : List Int) : (⟨putI v ++ s, 0⟩ : Rd).int = (v, ⟨s, 0⟩) := by
  unfold Rd.int putI
  simp only [ne_eq, not_true_eq_false, if_false, dec_of (show U64 (zig v) from zig_range h.1 h.2), unzig_zig]
  rw [List.drop_left]
theorem ints_put : ∀ (l : List Int), (∀ x ∈ l, I64 x) → ∀ s : List Int, (⟨l.flatMap putI ++ s, 0⟩ : Rd).ints l.length = (l, ⟨s, 0⟩)
  | [], _, s => rfl
  | x :: l, h, s => by
    simp only [List.flatMap_cons, List.append_assoc, List.length_cons, Rd.ints, int_put (h x (by simp)), ints_put l (fun y hy => h y (by simp [hy])) s]
theorem event_put {e : Ev} {c : Int} (h : evOk e c = true) (hT : EvT e) (s : List Int) : (⟨evBytes e ++ s, 0⟩ : Rd).event c = (e, ⟨s, 0⟩) := by
  obtain ⟨rfl, p0, p1, p2, p3, p4, p5, p6⟩ := evOk_ranges h
  have m : M31 = 2147483647 := rfl
  have hu : ∀ {v : Int}, 0 ≤ v → v ≤ 2147483647 → U64 v := fun a b => ⟨a, by omega⟩
  unfold Rd.event evBytes evNums
  simp only [List.flatMap_cons, List.flatMap_nil, List.append_assoc, List.nil_append, List.append_nil]
  rw [uint_put (hu p0.1 (by omega)) (by omega)]
  simp only
  rw [uint_put (hu (by omega) (by omega)) (by omega)]
  simp only
  rw [uint_put (hu p2.1 (by omega)) (by omega)]
  simp only
  rw [uint_put (hu p3.1 (by omega)) (by omega)]
  simp only
  rw [uint_put (hu p4.1 (by omega)) (by omega)]
  simp only
  rw [uint_put (hu p5.1 (by omega)) (by omega)]
  simp only
  rw [int_put hT.d]
  simp only
  rw [uint_put (hu (by omega) (by omega)) (by omega)]
  simp only [Int.toNat_natCast]
  rw [ints_put _ hT.args]
theorem ents_put : ∀ (l : List Int), (∀ x ∈ l, U64 x) → ∀ s : List Int, ents l.length (l.flatMap putU ++ s) = some (l, (l.flatMap putU).length)
  | [], _, s => rfl
  | x :: l, h, s => by
    simp only [List.flatMap_cons, List.append_assoc, List.length_cons, ents, dec_of (h x (by simp)), List.drop_left, ents_put l (fun y hy => h y (by simp [hy])) s, List.length_append]
theorem cents_same (c : Nat → Int) : sameTo (clkOf (cents c)) c 16 = true := by
  rw [sameTo_iff]
  intro i hi
  unfold clkOf cents
  by_cases h : i < clen c
  · simp [h]
  · rw [List.getD_eq_getElem?_getD, List.getElem?_eq_none (by simpa using h)]
    exact (clenTo_above c 16 i (by unfold clen at h; omega) hi).symm
theorem clkR_put {c : Nat → Int} (h : ∀ i, U64 (c i)) (s : List Int) : clkR (clkBytes c ++ s) = some (clkOf (cents c), (clkBytes c).length) := by
  have hl : (cents c).length = clen c := by simp [cents]
  have hle := clen_le c
  have hc : clen (clkOf (cents c)) = clen c := clenTo_congr ((sameTo_iff _ _ _).1 (cents_same c))
  have he := ents_put (cents c) (fun x hx => by simp only [cents, List.mem_map] at hx; obtain ⟨i, _, rfl⟩ := hx; exact h i) s
  rw [hl] at he
  unfold clkR clkBytes
  simp only [List.cons_append, Int.toNat_natCast, he, hc, if_true]
  rw [if_neg (by omega), List.length_cons, Nat.add_comm]
theorem fin1_put {x : Re} (h : validB x = true) (s : List Int) : fin1 ⟨s, 0⟩ x = if s = [] then some x else none := by
  unfold fin1 Rd.fin checkN
  rw [h]
  by_cases hs : s = []
  · simp [hs]
  · simp [hs]
theorem readRec_put {r : Re} (hv : validB r = true) (hT : ReT r) (s : List Int) : ∃ y, recEq y r = true ∧ validB y = true ∧ readRec (recBytes r ++ s) = if s = [] then some y else none := by
  have hc := valid_comp hv
  have hw := valid_what hv
  have mm : M64 = 18446744073709551615 := rfl
  have hs := hT.seq
  unfold U64 at hs
  have hb : recBytes r ++ s = r.what :: (putU r.comp ++ (putU r.seq ++ (recTail r ++ s))) := by
    unfold recBytes recHead
    rw [if_pos hv]; simp
  have hdrop : (recBytes r ++ s).drop ((recBytes r ++ s).length - (recTail r ++ s).length) = recTail r ++ s := by
    have e : recBytes r ++ s = recHead r ++ (recTail r ++ s) := by unfold recBytes; rw [if_pos hv]; simp
    rw [e]
    have : (recHead r ++ (recTail r ++ s)).length - (recTail r ++ s).length = (recHead r).length := by simp
    rw [this, List.drop_left]
  have h1 : (⟨recBytes r ++ s, 0⟩ : Rd).byte = (r.what, ⟨putU r.comp ++ (putU r.seq ++ (recTail r ++ s)), 0⟩) := by rw [hb]; rfl
  have h2 := uint_put (v := r.comp) (m := 8) ⟨hc.1, by omega⟩ hc.2 (putU r.seq ++ (recTail r ++ s))
  have h3 := uint_put (v := r.seq) (m := M64) hT.seq (by omega) (recTail r ++ s)
  unfold readRec
  simp only [h1, h2, h3, ne_eq, not_true_eq_false, if_false, hdrop]
  by_cases w1 : r.what = 1
  · have hok : evOk r.ev r.comp = true ∧ r.count = 0 := by
      have := hv
      unfold validB okWhat at this
      rw [if_pos w1] at this
      simp only [Bool.and_eq_true, beq_iff_eq] at this
      exact this.1
    have ht : recTail r ++ s = clkBytes r.clk ++ (evBytes r.ev ++ s) := by unfold recTail; rw [if_pos w1]; simp
    have hvy : validB ⟨r.comp, r.seq, clkOf (cents r.clk), 1, r.ev, 0⟩ = true := by
      unfold validB okWhat
      simp [hok.1, inB_iff, hc]
    refine ⟨_, ?_, hvy, ?_⟩
    · unfold recEq
      simp [evEq_iff, cents_same, w1, hok.2]
    · rw [if_pos w1, ht, clkR_put hT.clk]
      simp only [List.drop_left, event_put hok.1 hT.ev]
      exact fin1_put hvy s
  · have hbare := valid_gap hv w1
    have hba := hbare
    unfold bareB at hba
    simp only [Bool.and_eq_true, evEq_iff] at hba
    have hcl : sameTo clk0 r.clk 16 = true := by
      rw [sameTo_iff]; intro i hi; exact ((sameTo_iff _ _ _).1 hba.1 i hi).symm
    have h00 : sameTo clk0 clk0 16 = true := (sameTo_iff _ _ _).2 fun _ _ => rfl
    rw [if_neg w1]
    by_cases w2 : r.what = 2
    · have hcn : 0 < r.count ∧ r.count ≤ 18446744073709551615 - r.seq := by
        have := hv
        unfold validB okWhat at this
        rw [if_neg w1, if_pos w2] at this
        simp only [Bool.and_eq_true, decide_eq_true_eq] at this
        exact ⟨this.1.1.2, this.1.2⟩
      have ht : recTail r ++ s = putU r.count ++ s := by unfold recTail; rw [if_neg w1, if_pos w2]
      have hvy : validB ⟨r.comp, r.seq, clk0, 2, ev0, r.count⟩ = true := by
        unfold validB okWhat bareB
        simp [h00, evEq_iff, inB_iff, hc, hcn]
      refine ⟨_, ?_, hvy, ?_⟩
      · unfold recEq
        simp [evEq_iff, hcl, w2, hba.2]
      · rw [if_pos w2, ht, uint_put hT.count (by have := hT.count.2; omega)]
        exact fin1_put hvy s
    · have w3 : r.what = 3 := by omega
      have hcn := valid_count3 hv w1 w2
      have ht : recTail r ++ s = s := by unfold recTail; rw [if_neg w1, if_neg w2]; rfl
      have hvy : validB ⟨r.comp, r.seq, clk0, r.what, ev0, 0⟩ = true := by
        unfold validB okWhat bareB
        simp [h00, evEq_iff, inB_iff, hc, w3]
      refine ⟨_, ?_, hvy, ?_⟩
      · unfold recEq
        simp [evEq_iff, hcl, hba.2, hcn]
      · rw [if_neg w2, ht]
        exact fin1_put hvy s
theorem readRec_of {r : Re} (hv : validB r = true) (hT : ReT r) : ∃ y, recEq y r = true ∧ readRec (recBytes r) = some y := by
  obtain ⟨y, h1, _, h2⟩ := readRec_put hv hT []
  exact ⟨y, h1, by simpa using h2⟩
theorem putU_byt {v : Int} (h : 0 ≤ v) : ∀ b ∈ putU v, Byt b := putU_byte _ v (Nat.le_refl _) h
theorem putI_byt (v : Int) : ∀ b ∈ putI v, Byt b := putU_byt (zig_nonneg v)
theorem flatU_byt {l : List Int} (h : ∀ x ∈ l, 0 ≤ x) : ∀ b ∈ l.flatMap putU, Byt b := by
  intro b hb
  obtain ⟨x, hx, hb⟩ := List.mem_flatMap.1 hb
  exact putU_byt (h x hx) b hb
theorem recBytes_byt {r : Re} (hT : ReT r) : ∀ b ∈ recBytes r, Byt b := by
  unfold recBytes
  split
  · rename_i hv
    have hc := valid_comp hv
    have hw := hT.what
    intro b hb
    rcases List.mem_append.1 hb with hb | hb
    · unfold recHead at hb
      rcases List.mem_cons.1 hb with rfl | hb
      · exact hw
      · rcases List.mem_append.1 hb with hb | hb
        · exact putU_byt hc.1 b hb
        · exact putU_byt hT.seq.1 b hb
    · unfold recTail at hb
      split at hb
      · rename_i h1
        obtain ⟨he, _⟩ := valid_entry hv h1
        obtain ⟨_, p0, p1, p2, p3, p4, p5, p6⟩ := evOk_ranges he
        rcases List.mem_append.1 hb with hb | hb
        · rcases List.mem_cons.1 hb with rfl | hb
          · have := clen_le r.clk; exact ⟨by omega, by omega⟩
          · exact flatU_byt (fun x hx => by simp only [cents, List.mem_map] at hx; obtain ⟨i, _, rfl⟩ := hx; exact (hT.clk i).1) b hb
        · unfold evBytes at hb
          rcases List.mem_append.1 hb with hb | hb
          · rcases List.mem_append.1 hb with hb | hb
            · rcases List.mem_append.1 hb with hb | hb
              · exact flatU_byt (by simp only [evNums, List.mem_cons, List.not_mem_nil, or_false]; rintro x (rfl | rfl | rfl | rfl | rfl | rfl) <;> omega) b hb
              · exact putI_byt _ b hb
            · exact putU_byt (by omega) b hb
          · obtain ⟨x, _, hb⟩ := List.mem_flatMap.1 hb
            exact putI_byt x b hb
      · split at hb
        · exact putU_byt hT.count.1 b hb
        · cases hb
  · intro b hb; cases hb
theorem flat_len {f : Int → List Int} {k : Nat} : ∀ (l : List Int), (∀ x ∈ l, (f x).length ≤ k) → (l.flatMap f).length ≤ k * l.length
  | [], _ => by simp
  | x :: l, h => by
    have h1 := h x (by simp)
    have h2 := flat_len l (fun y hy => h y (by simp [hy]))
    rw [List.flatMap_cons, List.length_append, List.length_cons, Nat.mul_succ]; omega
theorem recBytes_small {r : Re} (hT : ReT r) : (recBytes r).length ≤ 400 := by
  unfold recBytes
  split
  · rename_i hv
    have hc := valid_comp hv
    have l1 := putU_ten (v := r.comp) (by omega)
    have l2 := putU_ten hT.seq.2
    have l3 := putU_ten hT.count.2
    have hh : (recHead r).length ≤ 21 := by unfold recHead; simp; omega
    have ht : (recTail r).length ≤ 300 := by
      unfold recTail
      split
      · rename_i h1
        obtain ⟨he, _⟩ := valid_entry hv h1
        obtain ⟨_, p0, p1, p2, p3, p4, p5, p6⟩ := evOk_ranges he
        have k1 := clen_le r.clk
        have k2 := entB_len hT.clk (clen r.clk)
        have k3 := flat_len (f := putU) (k := 10) (evNums r.ev) (by
          simp only [evNums, List.mem_cons, List.not_mem_nil, or_false]
          rintro x (rfl | rfl | rfl | rfl | rfl | rfl) <;> exact putU_ten (by omega))
        have k4 := flat_len (f := putI) (k := 10) r.ev.args (fun x hx => putU_ten (zig_range (hT.ev.args x hx).1 (hT.ev.args x hx).2).2)
        have k5 : (putI r.ev.d).length ≤ 10 := putU_ten (zig_range hT.ev.d.1 hT.ev.d.2).2
        have k6 := putU_ten (v := (r.ev.args.length : Int)) (by omega)
        have k7 : (evNums r.ev).length = 6 := rfl
        rw [clkBytes_eq]
        unfold evBytes
        simp only [List.length_append, List.length_cons]
        omega
      · split
        · omega
        · simp
    rw [List.length_append]; omega
  · simp
end Go.Proofs.YtepkcbalmjnhpaaGreat
set_option maxRecDepth 100000
set_option maxHeartbeats 1000000
set_option linter.unusedVariables false
set_option linter.unusedSimpArgs false
namespace Go.Proofs.YtepkcbalmjnhpaaGreat
open Go.RowKit
def RRec_Bytes (x : RRec) : Option (List Int) := chk (reFits x = true) (some (recBytes (reOf x)))
theorem RRec_Bytes_c {x : RRec} {r : List Int} (hM : RRec_Bytes x = some r) : PCall Tryz.prog 62 [.agg x.cs] (.sl 1 (List.map (DV.int .u8) r)) := by
  obtain ⟨h, hM⟩ := of_chk hM
  obtain rfl := Option.some.inj hM
  have := reFits_T h
  have k := recBytes_c (reOf x) this.2 this.1
  rw [reOf_D] at k; exact k
def record_Equal (x y : RRec) : Option Bool := chk (reFits x = true) (some (recEq (reOf x) (reOf y)))
theorem record_Equal_c {x y : RRec} {r : Bool} (hM : record_Equal x y = some r) : PCall Tryz.prog 29 [.agg x.cs, .agg y.cs] (.bool r) := by
  obtain ⟨h, hM⟩ := of_chk hM
  obtain rfl := Option.some.inj hM
  have := reFits_T h
  have k := equal_c (reOf x) (reOf y) this.2
  rw [reOf_D, reOf_D] at k; exact k
def ofRe (y : Re) : RRec := ⟨y.comp, y.seq, ⟨y.clk⟩, y.what, ⟨y.ev.tick, y.ev.comp, y.ev.kind, y.ev.peer, y.ev.n, y.ev.copy, y.ev.handler, y.ev.d, y.ev.args⟩, y.count⟩
def bytOk (xs : List Int) : Bool := xs.all (okI .u8) && decide (xs.length ≤ 140737488355328)
def record_Read (xs : List Int) : Option (RRec × Int) := chk (bytOk xs = true) (some (match readRec xs with
  | none => (ofRe re0, 6)
  | some y => (ofRe y, 0)))
theorem record_Read_c {xs : List Int} {r : RRec × Int} (hM : record_Read xs = some r) : PCall Tryz.prog 64 [.sl 1 (List.map (DV.int .u8) xs)] (.tup [.agg r.1.cs, .int .i64 r.2]) := by
  obtain ⟨h, hM⟩ := of_chk hM
  obtain rfl := Option.some.inj hM
  simp only [bytOk, Bool.and_eq_true, List.all_eq_true, okI_iff, InR, decide_eq_true_eq] at h
  have k := read_c xs (fun b hb => h.1 b hb) h.2
  cases hr : readRec xs with
  | none => rw [hr] at k; exact k
  | some y => rw [hr] at k; exact k
end Go.Proofs.YtepkcbalmjnhpaaGreat
set_option maxRecDepth 100000
set_option maxHeartbeats 4000000
set_option linter.unusedVariables false
set_option linter.unusedSimpArgs false
namespace Go.Proofs.YtepkcbalmjnhpaaGreat
open Go.RowKit
def slices_Clone_int64_int64 (x0 : List Int) : Option (List Int) := chk (apOk 8 (List.length ([] : List Int) + List.length x0)) (some (([] : List Int) ++ x0))
theorem slices_Clone_int64_int64_c {x0 : List Int} {r : List Int} (hM : slices_Clone_int64_int64 x0 = some r) : ACall Tryz.prog 136 ⟨[.sl 1 (List.map (DV.int .i64) x0)], [], .row 50000, [(50000, some (.row 2 1 (List.map (DV.int .i64) r)))], [50000]⟩ := by
  unfold slices_Clone_int64_int64 at hM
  obtain ⟨h, hM⟩ := of_chk hM
  obtain rfl := Option.some.inj hM
  refine ACall.body Tryz.func136 Tryz.ntmps136 rfl rfl rfl rfl ?_
  refine a_seq (a_region (.cons (o_assign rfl) <| .nil _) (by kernel_rfl) (by kernel_rfl) ?_)
  refine a_seq (a_seq ?_)
  refine a_isnil rfl (by decide) (by decide) (fun b hb => ?_)
  refine a_cond _ rfl (fun c => ?_) (fun c => ?_)
  · have h0 : x0 = [] := List.map_eq_nil_iff.1 (hb c)
    subst h0
    refine a_seq (a_region (.cons (o_assign rfl) <| .nil _) (by kernel_rfl) (by kernel_rfl) ?_)
    refine a_imp (Imp.nilRow (t := 2) (id := 50000) 2 1 rfl rfl) ?_
    exact a_ret (a_post (.r1 (.tmp rfl)) (DLe.refl _) (PostOk.spec (.cons rfl .nil)))
  · refine a_skip (a_seq (a_region (.cons (t_build (DV.int .i64) ([] : List Int) rfl rfl rfl rfl rfl rfl rfl) <| .cons (o_move rfl) <| .cons (t_append x0 h rfl rfl rfl Src.sl) <| .cons (o_assign rfl) <| .nil _) (by kernel_rfl) (by kernel_rfl) ?_))
    refine a_imp (σ' := ⟨[(2, .row 50000)], [(50000, some (.row 2 1 (List.map (DV.int .i64) (([] : List Int) ++ x0))))], [50000]⟩) (Imp.of (fun i => bif Nat.beq i 50000 then 7 else i) (.cons rfl (DLe.refl _) .nil) (.cons rfl (.refl _) .nil) rfl rfl rfl) ?_
    exact a_ret (a_post (.r1 (.tmp rfl)) (DLe.refl _) (PostOk.spec (.cons rfl .nil)))
def groS_K2 (a1 : List CSpan) : Option (List CSpan) :=
  some a1
def groS_K1 (x1 : Int) : Option (List CSpan) :=
  if (decide (0 < (IntKind.wrap .i64 (x1 - (IntKind.wrap .i64 (0 - 0)))))) = true then
    chk (0 < (IntKind.wrap .i64 (x1 - (IntKind.wrap .i64 (0 - 0)))) ∧ apOk 16 (Int.toNat (IntKind.wrap .i64 (x1 - (IntKind.wrap .i64 (0 - 0)))))) <|
    chk (slOk (List.length (List.replicate (Int.toNat (IntKind.wrap .i64 (x1 - (IntKind.wrap .i64 (0 - 0))))) (CSpan.mk 0 0))) 0 0) <|
    groS_K2 (List.take (Int.toNat 0) (List.replicate (Int.toNat (IntKind.wrap .i64 (x1 - (IntKind.wrap .i64 (0 - 0))))) (CSpan.mk 0 0)))
  else
    groS_K2 ([] : List CSpan)
def groS (x1 : Int) : Option (List CSpan) :=
  if (decide (x1 < 0)) = true then
    none
  else
    groS_K1 x1
theorem groS_c {x1 : Int} {r : (List CSpan)} (hM : groS x1 = some r) : ACall Tryz.prog 183 ⟨[.nils, .int .i64 x1], [], .row 50000, [(50000, some (.row 146 2 (List.map CSpan.dv r)))], [50000]⟩ := by
  unfold groS at hM
  refine ACall.body Tryz.func183 Tryz.ntmps183 rfl rfl rfl rfl ?_
  refine a_seq (ar (.cons (o_assign rfl) <| .nil _) ?_)
  refine a_cut (α := Unit) (fun s => ⟨[(0, .nils), (1, .int .i64 x1)], [], []⟩) (fun s => groS_K1 x1 = some r) ?_ ?_
  · refine a_seq (ar (.cons (o_move rfl) <| .cons (o_int rfl rfl rfl) <| .nil _) ?_)
    refine a_cond _ rfl (fun h5 => ?_) (fun h5 => ?_)
    · replace hM := (of_if hM).1 h5
      cases hM
    · replace hM := (of_if hM).2 h5
      refine a_skip ?_
      exact ⟨(), hM, (Imp.sh (fun i => i) rfl rfl rfl rfl rfl rfl)⟩
  · rintro _ hM
    replace hM : groS_K1 x1 = some r := hM
    unfold groS_K1 at hM
    refine a_cut (α := (List CSpan)) (fun s => ⟨[(0, .row 10001)], [(10001, some (.row 146 2 (List.map CSpan.dv s)))], [10001]⟩) (fun s => groS_K2 s = some r) ?_ ?_
    · refine a_seq (ar (.cons (o_move rfl) <| .cons (o_move rfl) <| .cons (o_cap_n rfl) <| .cons (o_move rfl) <| .cons (o_len_n rfl) <| .cons (o_int rfl rfl rfl) <| .cons (o_int rfl rfl rfl) <| .cons (o_assign rfl) <| .nil _) ?_)
      refine a_seq (ar (.cons (o_move rfl) <| .cons (o_int rfl rfl rfl) <| .nil _) ?_)
      refine a_cond _ rfl (fun h2 => ?_) (fun h2 => ?_)
      · replace hM := (of_if hM).1 h2
        obtain ⟨h3, hM⟩ := of_chk hM
        obtain ⟨h4, hM⟩ := of_chk hM
        refine ar (.cons (o_move rfl) <| .cons (o_move rfl) <| .cons (o_cap_n rfl) <| .cons (o_slice_nn rfl rfl) <| .cons (o_move rfl) <| .cons (t_append_zn CSpan.dv (CSpan.mk 0 0) h3 rfl rfl rfl rfl) <| .cons (o_move rfl) <| .cons (o_len_n rfl) <| .cons (t_slice_r h4 rfl rfl rfl) <| .cons (o_assign rfl) <| .nil _) ?_
        exact ⟨(List.take (Int.toNat 0) (List.replicate (Int.toNat (IntKind.wrap .i64 (x1 - (IntKind.wrap .i64 (0 - 0))))) (CSpan.mk 0 0))), hM, (Imp.sh (fun i => bif Nat.beq i 10001 then 25 else i) rfl rfl rfl rfl rfl rfl)⟩
      · replace hM := (of_if hM).2 h2
        refine a_skip ?_
        exact ⟨([] : List CSpan), hM, ((Imp.nilRow (t := 0) (id := 10002) 146 2 rfl rfl).trans (Imp.sh (fun i => bif Nat.beq i 10001 then 10002 else i) rfl rfl rfl rfl rfl rfl))⟩
    · rintro a1 hM
      replace hM : groS_K2 a1 = some r := hM
      unfold groS_K2 at hM
      refine a_seq (ar (.cons (o_move rfl) <| .cons (o_assign rfl) <| .nil _) ?_)
      obtain rfl := Option.some.inj hM
      refine a_imp (σ' := ⟨[(4, .row 50000)], [(50000, some (.row 146 2 (List.map CSpan.dv a1)))], [50000]⟩) (Imp.sh (fun i => bif Nat.beq i 50000 then 10001 else i) rfl rfl rfl rfl rfl rfl) ?_
      exact a_ret (a_post (.r1 (.tmp rfl)) (DLe.refl _) (PostOk.spec (.cons rfl .nil)))
def catS_K2 (a4 : List CSpan) : Option (List CSpan) :=
  some a4
def catS_L3 (x0 : List (List CSpan)) (k5 : Nat) (a6 : List CSpan) : Option (List CSpan) :=
  (idx x0 (k5 : Int)).bind fun v11 =>
  chk (apOk 16 (List.length a6 + List.length v11)) <|
  some (a6 ++ v11)
def catS_K1 (x0 : List (List CSpan)) (a1 : Int) : Option (List CSpan) :=
  (groS a1).bind fun v3 =>
  (foldM' 9223372036854775807 (List.length x0 : Int) (fun k5 s => catS_L3 x0 k5 s) v3).bind fun s => catS_K2 s
def catS_L4 (x0 : List (List CSpan)) (k13 : Nat) (a14 : Int) : Option Int :=
  (idx x0 (k13 : Int)).bind fun v19 =>
  if (decide ((IntKind.wrap .i64 (a14 + (List.length v19 : Int))) < 0)) = true then
    none
  else
    some (IntKind.wrap .i64 (a14 + (List.length v19 : Int)))
def catS (x0 : List (List CSpan)) : Option (List CSpan) :=
  (foldM' 9223372036854775807 (List.length x0 : Int) (fun k13 s => catS_L4 x0 k13 s) 0).bind fun s => catS_K1 x0 s
theorem catS_c {x0 : List (List CSpan)} {r : (List CSpan)} (hM : catS x0 = some r) : ACall Tryz.prog 158 ⟨[.sl 1 (List.map (encSl 2 CSpan.dv) x0)], [], .row 50000, [(50000, some (.row 146 2 (List.map CSpan.dv r)))], [50000]⟩ := by
  unfold catS at hM
  refine ACall.body Tryz.func158 Tryz.ntmps158 rfl rfl rfl rfl ?_
  refine a_seq (ar (.cons (o_assign rfl) <| .nil _) ?_)
  refine a_seq (ar (.cons (o_assign rfl) <| .nil _) ?_)
  refine a_cut (α := Int) (fun s => ⟨[(0, .sl 1 (List.map (encSl 2 CSpan.dv) x0)), (3, .int .i64 s)], [], []⟩) (fun s => catS_K1 x0 s = some r) ?_ ?_
  · refine a_seq (ar (.cons (o_move rfl) <| .cons (t_len rfl) <| .cons (o_move rfl) <| .nil _) ?_)
    obtain ⟨a14, hL15, hK15⟩ := of_bind hM
    refine a_block ?_
    refine a_fold (fun k13 (s : Int) => ⟨[(0, .sl 1 (List.map (encSl 2 CSpan.dv) x0)), (3, .int .i64 s), (9, .sl 1 (List.map (encSl 2 CSpan.dv) x0)), (10, .int .i64 (List.length x0 : Int)), (11, .int .i64 (k13 : Int))], [], []⟩) _ hL15 (Imp.sh (fun i => i) rfl rfl rfl rfl rfl rfl) ?_ ?_
    · rintro k13 a14 t16 hk13 hx13 hM
      replace hM : catS_L4 x0 k13 a14 = some t16 := hM
      unfold catS_L4 at hM
      refine a_seq (ar (.cons (o_int rfl rfl rfl) <| .nil _) ?_)
      refine a_seq ?_
      refine a_cond _ rfl (fun _ => ?_) (fun c => absurd hk13 (of_decide_eq_false c))
      refine a_skip (a_seq (a_block (a_seq ?_)))
      obtain ⟨v19, h18, hM⟩ := of_bind hM
      refine ar (.cons (t_index h18 rfl rfl rfl) <| .cons (o_load_es rfl rfl) <| .cons (o_assign rfl) <| .nil _) ?_
      refine a_seq (ar (.cons (o_move rfl) <| .cons (o_move rfl) <| .cons (t_len rfl) <| .cons (o_int rfl rfl rfl) <| .cons (o_assign rfl) <| .nil _) ?_)
      refine a_seq (ar (.cons (o_move rfl) <| .cons (o_int rfl rfl rfl) <| .nil _) ?_)
      refine a_cond _ rfl (fun h20 => ?_) (fun h20 => ?_)
      · replace hM := (of_if hM).1 h20
        cases hM
      · replace hM := (of_if hM).2 h20
        refine a_skip (ar (.cons (o_add rfl rfl (inR_i64 hk13 hx13)) <| .cons (o_move rfl) <| .nil _) ?_)
        obtain rfl := Option.some.inj hM
        exact (Imp.of (fun i => i) (.cons rfl (DLe.refl _) (.cons rfl (DLe.refl _) (.cons rfl (DLe.refl _) (.cons rfl (DLe.refl _) (.cons rfl (DLe.succ _ _) .nil))))) .nil rfl rfl rfl)
    · rintro k13 hk13 hx13
      refine a_seq (ar (.cons (o_int rfl rfl rfl) <| .nil _) ?_)
      refine a_seq ?_
      refine a_cond _ rfl (fun c => absurd (of_decide_eq_true c) (Int.not_lt.2 hk13)) (fun _ => ?_)
      refine a_exit ?_
      exact ⟨a14, hK15, (Imp.sh (fun i => i) rfl rfl rfl rfl rfl rfl)⟩
  · rintro a1 hM
    replace hM : catS_K1 x0 a1 = some r := hM
    unfold catS_K1 at hM
    refine a_seq ?_
    obtain ⟨v3, h2, hM⟩ := of_bind hM
    refine ar (.cons (o_move rfl) <| .cons (o_callN (fun i => bif Nat.beq i 50000 then 24 else i) 1 (groS_c h2) rfl (DLeL.refl _) .nil rfl .nil) <| .cons (o_assign rfl) <| .nil _) ?_
    refine a_cut (α := (List CSpan)) (fun s => ⟨[(6, .row 10001)], [(10001, some (.row 146 2 (List.map CSpan.dv s)))], [10001]⟩) (fun s => catS_K2 s = some r) ?_ ?_
    · refine a_seq (ar (.cons (o_move rfl) <| .cons (t_len rfl) <| .cons (o_move rfl) <| .nil _) ?_)
      obtain ⟨a6, hL7, hK7⟩ := of_bind hM
      refine a_block ?_
      refine a_fold (fun k5 (s : (List CSpan)) => ⟨[(6, .row 10002), (25, .sl 1 (List.map (encSl 2 CSpan.dv) x0)), (26, .int .i64 (List.length x0 : Int)), (27, .int .i64 (k5 : Int))], [(10002, some (.row 146 2 (List.map CSpan.dv s)))], [10002]⟩) _ hL7 (Imp.sh (fun i => bif Nat.beq i 10002 then 24 else i) rfl rfl rfl rfl rfl rfl) ?_ ?_
      · rintro k5 a6 t8 hk5 hx5 hM
        replace hM : catS_L3 x0 k5 a6 = some t8 := hM
        unfold catS_L3 at hM
        refine a_seq (ar (.cons (o_int rfl rfl rfl) <| .nil _) ?_)
        refine a_seq ?_
        refine a_cond _ rfl (fun _ => ?_) (fun c => absurd hk5 (of_decide_eq_false c))
        refine a_skip (a_seq (a_block (a_seq ?_)))
        obtain ⟨v11, h10, hM⟩ := of_bind hM
        refine ar (.cons (t_index h10 rfl rfl rfl) <| .cons (o_load_es rfl rfl) <| .cons (o_assign rfl) <| .nil _) ?_
        obtain ⟨h12, hM⟩ := of_chk hM
        refine ar (.cons (o_move rfl) <| .cons (o_move rfl) <| .cons (t_append v11 h12 rfl rfl rfl Src.sl) <| .cons (o_assign rfl) <| .nil _) ?_
        refine ar (.cons (o_add rfl rfl (inR_i64 hk5 hx5)) <| .cons (o_move rfl) <| .nil _) ?_
        obtain rfl := Option.some.inj hM
        exact (Imp.of (fun i => bif Nat.beq i 10002 then 33 else i) (.cons rfl (DLe.refl _) (.cons rfl (DLe.refl _) (.cons rfl (DLe.refl _) (.cons rfl (DLe.succ _ _) .nil)))) (.cons rfl (.refl _) .nil) rfl rfl rfl)
      · rintro k5 hk5 hx5
        refine a_seq (ar (.cons (o_int rfl rfl rfl) <| .nil _) ?_)
        refine a_seq ?_
        refine a_cond _ rfl (fun c => absurd (of_decide_eq_true c) (Int.not_lt.2 hk5)) (fun _ => ?_)
        refine a_exit ?_
        exact ⟨a6, hK7, (Imp.sh (fun i => bif Nat.beq i 10001 then 10002 else i) rfl rfl rfl rfl rfl rfl)⟩
    · rintro a4 hM
      replace hM : catS_K2 a4 = some r := hM
      unfold catS_K2 at hM
      refine a_seq (ar (.cons (o_move rfl) <| .cons (o_assign rfl) <| .nil _) ?_)
      obtain rfl := Option.some.inj hM
      refine a_imp (σ' := ⟨[(2, .row 50000)], [(50000, some (.row 146 2 (List.map CSpan.dv a4)))], [50000]⟩) (Imp.sh (fun i => bif Nat.beq i 50000 then 10001 else i) rfl rfl rfl rfl rfl rfl) ?_
      exact a_ret (a_post (.r1 (.tmp rfl)) (DLe.refl _) (PostOk.spec (.cons rfl .nil)))
def groR_K2 (a1 : List RRec) : Option (List RRec) :=
  some a1
def groR_K1 (x1 : Int) : Option (List RRec) :=
  if (decide (0 < (IntKind.wrap .i64 (x1 - (IntKind.wrap .i64 (0 - 0)))))) = true then
    chk (0 < (IntKind.wrap .i64 (x1 - (IntKind.wrap .i64 (0 - 0)))) ∧ apOk 248 (Int.toNat (IntKind.wrap .i64 (x1 - (IntKind.wrap .i64 (0 - 0)))))) <|
    chk (slOk (List.length (List.replicate (Int.toNat (IntKind.wrap .i64 (x1 - (IntKind.wrap .i64 (0 - 0))))) (RRec.mk 0 0 (VClk.mk (arr 0 [])) 0 (AEv.mk 0 0 0 0 0 0 0 0 []) 0))) 0 0) <|
    groR_K2 (List.take (Int.toNat 0) (List.replicate (Int.toNat (IntKind.wrap .i64 (x1 - (IntKind.wrap .i64 (0 - 0))))) (RRec.mk 0 0 (VClk.mk (arr 0 [])) 0 (AEv.mk 0 0 0 0 0 0 0 0 []) 0)))
  else
    groR_K2 ([] : List RRec)
def groR (x1 : Int) : Option (List RRec) :=
  if (decide (x1 < 0)) = true then
    none
  else
    groR_K1 x1
theorem groR_c {x1 : Int} {r : (List RRec)} (hM : groR x1 = some r) : ACall Tryz.prog 181 ⟨[.nils, .int .i64 x1], [], .row 50000, [(50000, some (.row 52 29 (List.map RRec.dv r)))], [50000]⟩ := by
  unfold groR at hM
  refine ACall.body Tryz.func181 Tryz.ntmps181 rfl rfl rfl rfl ?_
  refine a_seq (ar (.cons (o_assign rfl) <| .nil _) ?_)
  refine a_cut (α := Unit) (fun s => ⟨[(0, .nils), (1, .int .i64 x1)], [], []⟩) (fun s => groR_K1 x1 = some r) ?_ ?_
  · refine a_seq (ar (.cons (o_move rfl) <| .cons (o_int rfl rfl rfl) <| .nil _) ?_)
    refine a_cond _ rfl (fun h5 => ?_) (fun h5 => ?_)
    · replace hM := (of_if hM).1 h5
      cases hM
    · replace hM := (of_if hM).2 h5
      refine a_skip ?_
      exact ⟨(), hM, (Imp.sh (fun i => i) rfl rfl rfl rfl rfl rfl)⟩
  · rintro _ hM
    replace hM : groR_K1 x1 = some r := hM
    unfold groR_K1 at hM
    refine a_cut (α := (List RRec)) (fun s => ⟨[(0, .row 10001)], [(10001, some (.row 52 29 (List.map RRec.dv s)))], [10001]⟩) (fun s => groR_K2 s = some r) ?_ ?_
    · refine a_seq (ar (.cons (o_move rfl) <| .cons (o_move rfl) <| .cons (o_cap_n rfl) <| .cons (o_move rfl) <| .cons (o_len_n rfl) <| .cons (o_int rfl rfl rfl) <| .cons (o_int rfl rfl rfl) <| .cons (o_assign rfl) <| .nil _) ?_)
      refine a_seq (ar (.cons (o_move rfl) <| .cons (o_int rfl rfl rfl) <| .nil _) ?_)
      refine a_cond _ rfl (fun h2 => ?_) (fun h2 => ?_)
      · replace hM := (of_if hM).1 h2
        obtain ⟨h3, hM⟩ := of_chk hM
        obtain ⟨h4, hM⟩ := of_chk hM
        refine ar (.cons (o_move rfl) <| .cons (o_move rfl) <| .cons (o_cap_n rfl) <| .cons (o_slice_nn rfl rfl) <| .cons (o_move rfl) <| .cons (t_append_znW RRec.dv (RRec.mk 0 0 (VClk.mk (arr 0 [])) 0 (AEv.mk 0 0 0 0 0 0 0 0 []) 0) h3 rfl rfl rfl (DLe.agg (.cons (DLe.refl _) (.cons (DLe.refl _) (.cons (DLe.refl _) (.cons (DLe.refl _) (.cons (DLe.refl _) (.cons (DLe.refl _) (.cons (DLe.refl _) (.cons (DLe.refl _) (.cons (DLe.refl _) (.cons (DLe.refl _) (.cons (DLe.refl _) (.cons (DLe.refl _) (.cons (DLe.refl _) (.cons (DLe.refl _) (.cons (DLe.refl _) (.cons (DLe.refl _) (.cons (DLe.refl _) (.cons (DLe.refl _) (.cons (DLe.refl _) (.cons (DLe.refl _) (.cons (DLe.refl _) (.cons (DLe.refl _) (.cons (DLe.refl _) (.cons (DLe.refl _) (.cons (DLe.refl _) (.cons (DLe.refl _) (.cons (DLe.refl _) (.cons (DLe.nils _) (.cons (DLe.refl _) .nil))))))))))))))))))))))))))))))) <| .cons (o_move rfl) <| .cons (o_len_n rfl) <| .cons (t_slice_r h4 rfl rfl rfl) <| .cons (o_assign rfl) <| .nil _) ?_
        exact ⟨(List.take (Int.toNat 0) (List.replicate (Int.toNat (IntKind.wrap .i64 (x1 - (IntKind.wrap .i64 (0 - 0))))) (RRec.mk 0 0 (VClk.mk (arr 0 [])) 0 (AEv.mk 0 0 0 0 0 0 0 0 []) 0))), hM, (Imp.sh (fun i => bif Nat.beq i 10001 then 25 else i) rfl rfl rfl rfl rfl rfl)⟩
      · replace hM := (of_if hM).2 h2
        refine a_skip ?_
        exact ⟨([] : List RRec), hM, ((Imp.nilRow (t := 0) (id := 10002) 52 29 rfl rfl).trans (Imp.sh (fun i => bif Nat.beq i 10001 then 10002 else i) rfl rfl rfl rfl rfl rfl))⟩
    · rintro a1 hM
      replace hM : groR_K2 a1 = some r := hM
      unfold groR_K2 at hM
      refine a_seq (ar (.cons (o_move rfl) <| .cons (o_assign rfl) <| .nil _) ?_)
      obtain rfl := Option.some.inj hM
      refine a_imp (σ' := ⟨[(4, .row 50000)], [(50000, some (.row 52 29 (List.map RRec.dv a1)))], [50000]⟩) (Imp.sh (fun i => bif Nat.beq i 50000 then 10001 else i) rfl rfl rfl rfl rfl rfl) ?_
      exact a_ret (a_post (.r1 (.tmp rfl)) (DLe.refl _) (PostOk.spec (.cons rfl .nil)))
def catR_K2 (a4 : List RRec) : Option (List RRec) :=
  some a4
def catR_L3 (x0 : List (List RRec)) (k5 : Nat) (a6 : List RRec) : Option (List RRec) :=
  (idx x0 (k5 : Int)).bind fun v11 =>
  chk (apOk 248 (List.length a6 + List.length v11)) <|
  some (a6 ++ v11)
def catR_K1 (x0 : List (List RRec)) (a1 : Int) : Option (List RRec) :=
  (groR a1).bind fun v3 =>
  (foldM' 9223372036854775807 (List.length x0 : Int) (fun k5 s => catR_L3 x0 k5 s) v3).bind fun s => catR_K2 s
def catR_L4 (x0 : List (List RRec)) (k13 : Nat) (a14 : Int) : Option Int :=
  (idx x0 (k13 : Int)).bind fun v19 =>
  if (decide ((IntKind.wrap .i64 (a14 + (List.length v19 : Int))) < 0)) = true then
    none
  else
    some (IntKind.wrap .i64 (a14 + (List.length v19 : Int)))
def catR (x0 : List (List RRec)) : Option (List RRec) :=
  (foldM' 9223372036854775807 (List.length x0 : Int) (fun k13 s => catR_L4 x0 k13 s) 0).bind fun s => catR_K1 x0 s
theorem catR_c {x0 : List (List RRec)} {r : (List RRec)} (hM : catR x0 = some r) : ACall Tryz.prog 155 ⟨[.sl 1 (List.map (encSl 29 RRec.dv) x0)], [], .row 50000, [(50000, some (.row 52 29 (List.map RRec.dv r)))], [50000]⟩ := by
  unfold catR at hM
  refine ACall.body Tryz.func155 Tryz.ntmps155 rfl rfl rfl rfl ?_
  refine a_seq (ar (.cons (o_assign rfl) <| .nil _) ?_)
  refine a_seq (ar (.cons (o_assign rfl) <| .nil _) ?_)
  refine a_cut (α := Int) (fun s => ⟨[(0, .sl 1 (List.map (encSl 29 RRec.dv) x0)), (3, .int .i64 s)], [], []⟩) (fun s => catR_K1 x0 s = some r) ?_ ?_
  · refine a_seq (ar (.cons (o_move rfl) <| .cons (t_len rfl) <| .cons (o_move rfl) <| .nil _) ?_)
    obtain ⟨a14, hL15, hK15⟩ := of_bind hM
    refine a_block ?_
    refine a_fold (fun k13 (s : Int) => ⟨[(0, .sl 1 (List.map (encSl 29 RRec.dv) x0)), (3, .int .i64 s), (9, .sl 1 (List.map (encSl 29 RRec.dv) x0)), (10, .int .i64 (List.length x0 : Int)), (11, .int .i64 (k13 : Int))], [], []⟩) _ hL15 (Imp.sh (fun i => i) rfl rfl rfl rfl rfl rfl) ?_ ?_
    · rintro k13 a14 t16 hk13 hx13 hM
      replace hM : catR_L4 x0 k13 a14 = some t16 := hM
      unfold catR_L4 at hM
      refine a_seq (ar (.cons (o_int rfl rfl rfl) <| .nil _) ?_)
      refine a_seq ?_
      refine a_cond _ rfl (fun _ => ?_) (fun c => absurd hk13 (of_decide_eq_false c))
      refine a_skip (a_seq (a_block (a_seq ?_)))
      obtain ⟨v19, h18, hM⟩ := of_bind hM
      refine ar (.cons (t_index h18 rfl rfl rfl) <| .cons (o_load_es rfl rfl) <| .cons (o_assign rfl) <| .nil _) ?_
      refine a_seq (ar (.cons (o_move rfl) <| .cons (o_move rfl) <| .cons (t_len rfl) <| .cons (o_int rfl rfl rfl) <| .cons (o_assign rfl) <| .nil _) ?_)
      refine a_seq (ar (.cons (o_move rfl) <| .cons (o_int rfl rfl rfl) <| .nil _) ?_)
      refine a_cond _ rfl (fun h20 => ?_) (fun h20 => ?_)
      · replace hM := (of_if hM).1 h20
        cases hM
      · replace hM := (of_if hM).2 h20
        refine a_skip (ar (.cons (o_add rfl rfl (inR_i64 hk13 hx13)) <| .cons (o_move rfl) <| .nil _) ?_)
        obtain rfl := Option.some.inj hM
        exact (Imp.of (fun i => i) (.cons rfl (DLe.refl _) (.cons rfl (DLe.refl _) (.cons rfl (DLe.refl _) (.cons rfl (DLe.refl _) (.cons rfl (DLe.succ _ _) .nil))))) .nil rfl rfl rfl)
    · rintro k13 hk13 hx13
      refine a_seq (ar (.cons (o_int rfl rfl rfl) <| .nil _) ?_)
      refine a_seq ?_
      refine a_cond _ rfl (fun c => absurd (of_decide_eq_true c) (Int.not_lt.2 hk13)) (fun _ => ?_)
      refine a_exit ?_
      exact ⟨a14, hK15, (Imp.sh (fun i => i) rfl rfl rfl rfl rfl rfl)⟩
  · rintro a1 hM
    replace hM : catR_K1 x0 a1 = some r := hM
    unfold catR_K1 at hM
    refine a_seq ?_
    obtain ⟨v3, h2, hM⟩ := of_bind hM
    refine ar (.cons (o_move rfl) <| .cons (o_callN (fun i => bif Nat.beq i 50000 then 24 else i) 1 (groR_c h2) rfl (DLeL.refl _) .nil rfl .nil) <| .cons (o_assign rfl) <| .nil _) ?_
    refine a_cut (α := (List RRec)) (fun s => ⟨[(6, .row 10001)], [(10001, some (.row 52 29 (List.map RRec.dv s)))], [10001]⟩) (fun s => catR_K2 s = some r) ?_ ?_
    · refine a_seq (ar (.cons (o_move rfl) <| .cons (t_len rfl) <| .cons (o_move rfl) <| .nil _) ?_)
      obtain ⟨a6, hL7, hK7⟩ := of_bind hM
      refine a_block ?_
      refine a_fold (fun k5 (s : (List RRec)) => ⟨[(6, .row 10002), (25, .sl 1 (List.map (encSl 29 RRec.dv) x0)), (26, .int .i64 (List.length x0 : Int)), (27, .int .i64 (k5 : Int))], [(10002, some (.row 52 29 (List.map RRec.dv s)))], [10002]⟩) _ hL7 (Imp.sh (fun i => bif Nat.beq i 10002 then 24 else i) rfl rfl rfl rfl rfl rfl) ?_ ?_
      · rintro k5 a6 t8 hk5 hx5 hM
        replace hM : catR_L3 x0 k5 a6 = some t8 := hM
        unfold catR_L3 at hM
        refine a_seq (ar (.cons (o_int rfl rfl rfl) <| .nil _) ?_)
        refine a_seq ?_
        refine a_cond _ rfl (fun _ => ?_) (fun c => absurd hk5 (of_decide_eq_false c))
        refine a_skip (a_seq (a_block (a_seq ?_)))
        obtain ⟨v11, h10, hM⟩ := of_bind hM
        refine ar (.cons (t_index h10 rfl rfl rfl) <| .cons (o_load_es rfl rfl) <| .cons (o_assign rfl) <| .nil _) ?_
        obtain ⟨h12, hM⟩ := of_chk hM
        refine ar (.cons (o_move rfl) <| .cons (o_move rfl) <| .cons (t_append v11 h12 rfl rfl rfl Src.sl) <| .cons (o_assign rfl) <| .nil _) ?_
        refine ar (.cons (o_add rfl rfl (inR_i64 hk5 hx5)) <| .cons (o_move rfl) <| .nil _) ?_
        obtain rfl := Option.some.inj hM
        exact (Imp.of (fun i => bif Nat.beq i 10002 then 33 else i) (.cons rfl (DLe.refl _) (.cons rfl (DLe.refl _) (.cons rfl (DLe.refl _) (.cons rfl (DLe.succ _ _) .nil)))) (.cons rfl (.refl _) .nil) rfl rfl rfl)
      · rintro k5 hk5 hx5
        refine a_seq (ar (.cons (o_int rfl rfl rfl) <| .nil _) ?_)
        refine a_seq ?_
        refine a_cond _ rfl (fun c => absurd (of_decide_eq_true c) (Int.not_lt.2 hk5)) (fun _ => ?_)
        refine a_exit ?_
        exact ⟨a6, hK7, (Imp.sh (fun i => bif Nat.beq i 10001 then 10002 else i) rfl rfl rfl rfl rfl rfl)⟩
    · rintro a4 hM
      replace hM : catR_K2 a4 = some r := hM
      unfold catR_K2 at hM
      refine a_seq (ar (.cons (o_move rfl) <| .cons (o_assign rfl) <| .nil _) ?_)
      obtain rfl := Option.some.inj hM
      refine a_imp (σ' := ⟨[(2, .row 50000)], [(50000, some (.row 52 29 (List.map RRec.dv a4)))], [50000]⟩) (Imp.sh (fun i => bif Nat.beq i 50000 then 10001 else i) rfl rfl rfl rfl rfl rfl) ?_
      exact a_ret (a_post (.r1 (.tmp rfl)) (DLe.refl _) (PostOk.spec (.cons rfl .nil)))
def collect_bySeq (x0 : RRec) (x1 : RRec) : Option Int :=
  if (decide (x0.gSeq < x1.gSeq)) = true then
    some (-1)
  else
    if (decide (x1.gSeq < x0.gSeq)) = true then
      some 1
    else
      some 0
theorem collect_bySeq_c {x0 : RRec} {x1 : RRec} {r : Int} (hM : collect_bySeq x0 x1 = some r) : PCall Tryz.prog 157 [.agg (RRec.cs x0), .agg (RRec.cs x1)] (.int .i64 r) := by
  unfold collect_bySeq at hM
  refine PCall.body Tryz.func157 Tryz.ntmps157 rfl rfl rfl rfl ?_
  refine a_seq (ar (.cons (o_box rfl rfl) <| .cons (o_box rfl rfl) <| .cons (o_assign rfl) <| .nil _) ?_)
  refine a_seq (a_block (a_seq (ar (.cons (o_fieldAddr rfl) <| .cons (o_load_s rfl rfl rfl) <| .cons (o_fieldAddr rfl) <| .cons (o_load_s rfl rfl rfl) <| .cons (o_int rfl rfl rfl) <| .cons (o_assign rfl) <| .nil _) ?_)))
  refine a_cond _ rfl (fun h1 => ?_) (fun h1 => ?_)
  · replace hM := (of_if hM).1 h1
    refine a_seq (ar (.cons (o_assign rfl) <| .nil _) ?_)
    obtain rfl := Option.some.inj hM
    exact a_ret (a_post (.r1 (.tmp rfl)) (DLe.refl _) PostOk.nil.spec)
  · replace hM := (of_if hM).2 h1
    refine a_seq (ar (.cons (o_fieldAddr rfl) <| .cons (o_load_s rfl rfl rfl) <| .cons (o_fieldAddr rfl) <| .cons (o_load_s rfl rfl rfl) <| .cons (o_int rfl rfl rfl) <| .cons (o_assign rfl) <| .nil _) ?_)
    refine a_cond _ rfl (fun h2 => ?_) (fun h2 => ?_)
    · replace hM := (of_if hM).1 h2
      refine a_seq (ar (.cons (o_assign rfl) <| .nil _) ?_)
      obtain rfl := Option.some.inj hM
      exact a_ret (a_post (.r1 (.tmp rfl)) (DLe.refl _) PostOk.nil.spec)
    · replace hM := (of_if hM).2 h2
      refine a_skip (a_seq (ar (.cons (o_assign rfl) <| .nil _) ?_))
      obtain rfl := Option.some.inj hM
      exact a_ret (a_post (.r1 (.tmp rfl)) (DLe.refl _) PostOk.nil.spec)
def insM_K1 (a1 : List RRec) : Option (List RRec) :=
  some a1
def insM_K3 (a3 : Int) (a7 : List RRec) : Option (Ctl ((List RRec) × Int) (List RRec)) :=
  some (.next (a7, (IntKind.wrap .i64 (a3 + 1))))
def insM_L4 (x1 : Int) (a8 : List RRec) (a9 : Int) : Option (Ctl ((List RRec) × Int) (List RRec)) :=
  (gb (decide (x1 < a9)) (RRec.mk 0 0 (VClk.mk (arr 0 [])) 0 (AEv.mk 0 0 0 0 0 0 0 0 []) 0) (idx a8 a9)).bind fun v13 =>
  (gb (decide (x1 < a9)) (RRec.mk 0 0 (VClk.mk (arr 0 [])) 0 (AEv.mk 0 0 0 0 0 0 0 0 []) 0) (idx a8 (IntKind.wrap .i64 (a9 - 1)))).bind fun v15 =>
  (gb (decide (x1 < a9)) (0) (collect_bySeq v13 v15)).bind fun v17 =>
  if ((decide (x1 < a9)) && (decide (v17 < 0))) = true then
    (idx a8 (IntKind.wrap .i64 (a9 - 1))).bind fun v20 =>
    (idx a8 a9).bind fun v22 =>
    (idx a8 a9).bind fun v24 =>
    (idx (List.set a8 (Int.toNat a9) v20) (IntKind.wrap .i64 (a9 - 1))).bind fun v26 =>
    some (.next ((List.set (List.set a8 (Int.toNat a9) v20) (Int.toNat (IntKind.wrap .i64 (a9 - 1))) v22), (IntKind.wrap .i64 (a9 - 1))))
  else
    some (.done a8)
def insM_L2 (x1 : Int) (x2 : Int) (a2 : List RRec) (a3 : Int) : Option (Ctl ((List RRec) × Int) (List RRec)) :=
  if (decide (a3 < x2)) = true then
    (whileM (E := (List RRec)) (fun s => insM_L4 x1 s.1 s.2) (a2, a3)).bind fun e => insM_K3 a3 e
  else
    some (.done a2)
def insM (x1 : Int) (x2 : Int) (o0 : List RRec) : Option (List RRec) :=
  (whileM (E := (List RRec)) (fun s => insM_L2 x1 x2 s.1 s.2) (o0, (IntKind.wrap .i64 (x1 + 1)))).bind fun e => insM_K1 e
theorem insM_c {x1 : Int} {x2 : Int} {o0 : List RRec} {r : (List RRec)} (hM : insM x1 x2 o0 = some r) : ACall Tryz.prog 170 ⟨[.row 100000, .int .i64 x1, .int .i64 x2, .val (.func (.func 157) #[] #[])], [(100000, some (.row 52 29 (List.map RRec.dv o0)))], .tup [], [(100000, some (.row 52 29 (List.map RRec.dv r)))], []⟩ := by
  unfold insM at hM
  refine ACall.body Tryz.func170 Tryz.ntmps170 rfl rfl rfl rfl ?_
  refine a_end ?_
  refine a_seq (ar (.cons (o_move rfl) <| .cons (o_int rfl rfl rfl) <| .cons (o_assign rfl) <| .nil _) ?_)
  refine a_tail (α := (List RRec)) (fun s => ⟨[], [(100000, some (.row 52 29 (List.map RRec.dv s)))], [100000]⟩) (fun s => insM_K1 s = some r) ?_ ?_
  · obtain ⟨e4, hL4, hK4⟩ := of_bind hM
    refine a_block (a_while (fun s : (List RRec) × Int => ⟨[(0, .row 100000), (1, .int .i64 x1), (2, .int .i64 x2), (3, .val (.func (.func 157) #[] #[])), (8, .int .i64 s.2)], [(100000, some (.row 52 29 (List.map RRec.dv s.1)))], [100000]⟩) _ hL4 (Imp.sh (fun i => i) rfl rfl rfl rfl rfl rfl) ?_)
    rintro ⟨a2, a3⟩ t5 hM hE4
    replace hM : insM_L2 x1 x2 a2 a3 = some t5 := hM
    unfold insM_L2 at hM
    refine a_seq (a_seq (ar (.cons (o_move rfl) <| .cons (o_move rfl) <| .cons (o_int rfl rfl rfl) <| .nil _) ?_))
    refine a_cond _ rfl (fun h6 => ?_) (fun h6 => ?_)
    · replace hM := (of_if hM).1 h6
      refine a_skip ?_
      refine a_cut (α := (List RRec)) (fun s => ⟨[(0, .row 100000), (1, .int .i64 x1), (2, .int .i64 x2), (3, .val (.func (.func 157) #[] #[])), (8, .int .i64 a3)], [(100000, some (.row 52 29 (List.map RRec.dv s)))], [100000]⟩) (fun s => insM_K3 a3 s = some t5) ?_ ?_
      · refine a_block (a_seq (ar (.cons (o_move rfl) <| .cons (o_assign rfl) <| .nil _) ?_))
        obtain ⟨e10, hL10, hK10⟩ := of_bind hM
        refine a_block (a_while (fun s : (List RRec) × Int => ⟨[(0, .row 100000), (1, .int .i64 x1), (2, .int .i64 x2), (3, .val (.func (.func 157) #[] #[])), (8, .int .i64 a3), (9, .int .i64 s.2)], [(100000, some (.row 52 29 (List.map RRec.dv s.1)))], [100000]⟩) _ hL10 (Imp.sh (fun i => i) rfl rfl rfl rfl rfl rfl) ?_)
        rintro ⟨a8, a9⟩ t11 hM hE10
        replace hM : insM_L4 x1 a8 a9 = some t11 := hM
        unfold insM_L4 at hM
        refine a_seq (a_seq ?_)
        obtain ⟨v13, h12, hM⟩ := of_bind hM
        obtain ⟨v15, h14, hM⟩ := of_bind hM
        obtain ⟨v17, h16, hM⟩ := of_bind hM
        refine ad mixed (.cons (o_move rfl) <| .cons (o_move rfl) <| .cons (o_int rfl rfl rfl) <| .cons (o_move rfl) <| .cons (o_guardG .bT rfl rfl (fun hb => (.keep .nil)) (fun hb => o_move rfl)) <| .cons (o_guardG .bT rfl rfl (fun hb => (.keep .nil)) (fun hb => o_move rfl)) <| .cons (o_guardG .bT rfl rfl (fun hb => (.keep .nil)) (fun hb => o_move rfl)) <| .cons (o_guardG .bT rfl rfl (fun hb => (.strip rfl hb (.strip rfl hb .nil))) (fun hb => t_index_r (of_gb h12 hb) rfl rfl rfl)) <| .cons (o_guardG .bT rfl rfl (fun hb => (.strip rfl hb .nil)) (fun hb => t_load_pr (of_gb h12 hb) rfl rfl rfl rfl rfl)) <| .cons (o_guardG .bT rfl rfl (fun hb => (.keep .nil)) (fun hb => o_move rfl)) <| .cons (o_guardG .bT rfl rfl (fun hb => (.keep .nil)) (fun hb => o_move rfl)) <| .cons (o_guardG .bT rfl rfl (fun hb => (.strip rfl hb .nil)) (fun hb => o_int rfl rfl rfl)) <| .cons (o_guardG .bT rfl rfl (fun hb => (.strip rfl hb (.strip rfl hb .nil))) (fun hb => t_index_r (of_gb h14 hb) rfl rfl rfl)) <| .cons (o_guardG .bT rfl rfl (fun hb => (.strip rfl hb .nil)) (fun hb => t_load_pr (of_gb h14 hb) rfl rfl rfl rfl rfl)) <| .cons (o_guardG .bT rfl rfl (fun hb => (.strip rfl hb (.strip rfl hb (.strip rfl hb .nil)))) (fun hb => o_callF (collect_bySeq_c (of_gb h16 hb)) rfl rfl (DLeL.refl _) rfl)) <| .cons (o_guardG .bT rfl rfl (fun hb => (.strip rfl hb .nil)) (fun hb => o_int rfl rfl rfl)) <| .cons (o_and rfl rfl) <| .nil _) ?_
        refine a_cond _ rfl (fun h18 => ?_) (fun h18 => ?_)
        · replace hM := (of_if hM).1 h18
          refine a_skip (a_seq (a_block ?_))
          obtain ⟨v20, h19, hM⟩ := of_bind hM
          obtain ⟨v22, h21, hM⟩ := of_bind hM
          obtain ⟨v24, h23, hM⟩ := of_bind hM
          obtain ⟨v26, h25, hM⟩ := of_bind hM
          refine ad mixed (.cons (o_move rfl) <| .cons (o_move rfl) <| .cons (o_move rfl) <| .cons (o_move rfl) <| .cons (o_int rfl rfl rfl) <| .cons (o_move rfl) <| .cons (o_move rfl) <| .cons (o_int rfl rfl rfl) <| .cons (t_index_r h19 rfl rfl rfl) <| .cons (t_load_pr h19 rfl rfl rfl rfl rfl) <| .cons (o_move rfl) <| .cons (o_move rfl) <| .cons (t_index_r h21 rfl rfl rfl) <| .cons (t_load_pr h21 rfl rfl rfl rfl rfl) <| .cons (t_index_r h23 rfl rfl rfl) <| .cons (t_store_p v20 h23 rfl rfl rfl rfl rfl rfl rfl rfl rfl rfl rfl) <| .cons (t_index_r h25 rfl rfl rfl) <| .cons (t_store_p v22 h25 rfl rfl rfl rfl rfl rfl rfl rfl rfl rfl rfl) <| .nil _) ?_
          refine ar (.cons (o_move rfl) <| .cons (o_int rfl rfl rfl) <| .cons (o_assign rfl) <| .nil _) ?_
          obtain rfl := Option.some.inj hM
          exact ⟨((List.set (List.set a8 (Int.toNat a9) v20) (Int.toNat (IntKind.wrap .i64 (a9 - 1))) v22), (IntKind.wrap .i64 (a9 - 1))), rfl, (Imp.sh (fun i => i) rfl rfl rfl rfl rfl rfl)⟩
        · replace hM := (of_if hM).2 h18
          refine a_exit ?_
          obtain rfl := Option.some.inj hM
          obtain rfl := hE10 _ rfl
          exact ⟨a8, hK10, (Imp.sh (fun i => i) rfl rfl rfl rfl rfl rfl)⟩
      · rintro a7 hM
        replace hM : insM_K3 a3 a7 = some t5 := hM
        unfold insM_K3 at hM
        refine ar (.cons (o_move rfl) <| .cons (o_int rfl rfl rfl) <| .cons (o_assign rfl) <| .nil _) ?_
        obtain rfl := Option.some.inj hM
        exact ⟨(a7, (IntKind.wrap .i64 (a3 + 1))), rfl, (Imp.sh (fun i => i) rfl rfl rfl rfl rfl rfl)⟩
    · replace hM := (of_if hM).2 h6
      refine a_exit ?_
      obtain rfl := Option.some.inj hM
      obtain rfl := hE4 _ rfl
      exact ⟨a2, hK4, (Imp.sh (fun i => i) rfl rfl rfl rfl rfl rfl)⟩
  · rintro a1 hM
    replace hM : insM_K1 a1 = some r := hM
    unfold insM_K1 at hM
    obtain rfl := Option.some.inj hM
    refine n_imp (σ' := ⟨[], [(100000, some (.row 52 29 (List.map RRec.dv a1)))], [100000]⟩) (Imp.sh (fun i => i) rfl rfl rfl rfl rfl rfl) ?_
    exact n_done (a_postN (.r0 ) (DLe.refl _) (PostOk.spec (.cons rfl .nil)))
def swpM_K1 (a1 : List RRec) : Option (List RRec) :=
  some a1
def swpM_L2 (x1 : Int) (x2 : Int) (x3 : Int) (a2 : List RRec) (a3 : Int) : Option (Ctl ((List RRec) × Int) (List RRec)) :=
  if (decide (a3 < x3)) = true then
    (idx a2 (IntKind.wrap .i64 (x2 + a3))).bind fun v8 =>
    (idx a2 (IntKind.wrap .i64 (x1 + a3))).bind fun v10 =>
    (idx a2 (IntKind.wrap .i64 (x1 + a3))).bind fun v12 =>
    (idx (List.set a2 (Int.toNat (IntKind.wrap .i64 (x1 + a3))) v8) (IntKind.wrap .i64 (x2 + a3))).bind fun v14 =>
    some (.next ((List.set (List.set a2 (Int.toNat (IntKind.wrap .i64 (x1 + a3))) v8) (Int.toNat (IntKind.wrap .i64 (x2 + a3))) v10), (IntKind.wrap .i64 (a3 + 1))))
  else
    some (.done a2)
def swpM (x1 : Int) (x2 : Int) (x3 : Int) (o0 : List RRec) : Option (List RRec) :=
  (whileM (E := (List RRec)) (fun s => swpM_L2 x1 x2 x3 s.1 s.2) (o0, 0)).bind fun e => swpM_K1 e
theorem swpM_c {x1 : Int} {x2 : Int} {x3 : Int} {o0 : List RRec} {r : (List RRec)} (hM : swpM x1 x2 x3 o0 = some r) : ACall Tryz.prog 227 ⟨[.row 100000, .int .i64 x1, .int .i64 x2, .int .i64 x3, .val (.func (.func 157) #[] #[])], [(100000, some (.row 52 29 (List.map RRec.dv o0)))], .tup [], [(100000, some (.row 52 29 (List.map RRec.dv r)))], []⟩ := by
  unfold swpM at hM
  refine ACall.body Tryz.func227 Tryz.ntmps227 rfl rfl rfl rfl ?_
  refine a_end ?_
  refine a_seq (ar (.cons (o_assign rfl) <| .nil _) ?_)
  refine a_tail (α := (List RRec)) (fun s => ⟨[], [(100000, some (.row 52 29 (List.map RRec.dv s)))], [100000]⟩) (fun s => swpM_K1 s = some r) ?_ ?_
  · obtain ⟨e4, hL4, hK4⟩ := of_bind hM
    refine a_block (a_while (fun s : (List RRec) × Int => ⟨[(0, .row 100000), (1, .int .i64 x1), (2, .int .i64 x2), (3, .int .i64 x3), (10, .int .i64 s.2)], [(100000, some (.row 52 29 (List.map RRec.dv s.1)))], [100000]⟩) _ hL4 (Imp.sh (fun i => i) rfl rfl rfl rfl rfl rfl) ?_)
    rintro ⟨a2, a3⟩ t5 hM hE4
    replace hM : swpM_L2 x1 x2 x3 a2 a3 = some t5 := hM
    unfold swpM_L2 at hM
    refine a_seq (a_seq (ar (.cons (o_move rfl) <| .cons (o_move rfl) <| .cons (o_int rfl rfl rfl) <| .nil _) ?_))
    refine a_cond _ rfl (fun h6 => ?_) (fun h6 => ?_)
    · replace hM := (of_if hM).1 h6
      refine a_skip (a_seq (a_block ?_))
      obtain ⟨v8, h7, hM⟩ := of_bind hM
      obtain ⟨v10, h9, hM⟩ := of_bind hM
      obtain ⟨v12, h11, hM⟩ := of_bind hM
      obtain ⟨v14, h13, hM⟩ := of_bind hM
      refine ad mixed (.cons (o_move rfl) <| .cons (o_move rfl) <| .cons (o_move rfl) <| .cons (o_int rfl rfl rfl) <| .cons (o_move rfl) <| .cons (o_move rfl) <| .cons (o_move rfl) <| .cons (o_int rfl rfl rfl) <| .cons (o_move rfl) <| .cons (o_move rfl) <| .cons (o_move rfl) <| .cons (o_int rfl rfl rfl) <| .cons (t_index_r h7 rfl rfl rfl) <| .cons (t_load_pr h7 rfl rfl rfl rfl rfl) <| .cons (o_move rfl) <| .cons (o_move rfl) <| .cons (o_move rfl) <| .cons (o_int rfl rfl rfl) <| .cons (t_index_r h9 rfl rfl rfl) <| .cons (t_load_pr h9 rfl rfl rfl rfl rfl) <| .cons (t_index_r h11 rfl rfl rfl) <| .cons (t_store_p v8 h11 rfl rfl rfl rfl rfl rfl rfl rfl rfl rfl rfl) <| .cons (t_index_r h13 rfl rfl rfl) <| .cons (t_store_p v10 h13 rfl rfl rfl rfl rfl rfl rfl rfl rfl rfl rfl) <| .nil _) ?_
      refine ar (.cons (o_move rfl) <| .cons (o_int rfl rfl rfl) <| .cons (o_assign rfl) <| .nil _) ?_
      obtain rfl := Option.some.inj hM
      exact ⟨((List.set (List.set a2 (Int.toNat (IntKind.wrap .i64 (x1 + a3))) v8) (Int.toNat (IntKind.wrap .i64 (x2 + a3))) v10), (IntKind.wrap .i64 (a3 + 1))), rfl, (Imp.sh (fun i => i) rfl rfl rfl rfl rfl rfl)⟩
    · replace hM := (of_if hM).2 h6
      refine a_exit ?_
      obtain rfl := Option.some.inj hM
      obtain rfl := hE4 _ rfl
      exact ⟨a2, hK4, (Imp.sh (fun i => i) rfl rfl rfl rfl rfl rfl)⟩
  · rintro a1 hM
    replace hM : swpM_K1 a1 = some r := hM
    unfold swpM_K1 at hM
    obtain rfl := Option.some.inj hM
    refine n_imp (σ' := ⟨[], [(100000, some (.row 52 29 (List.map RRec.dv a1)))], [100000]⟩) (Imp.sh (fun i => i) rfl rfl rfl rfl rfl rfl) ?_
    exact n_done (a_postN (.r0 ) (DLe.refl _) (PostOk.spec (.cons rfl .nil)))
def rotM_K1 (x2 : Int) (a1 : List RRec) (a2 : Int) : Option (List RRec) :=
  (swpM (IntKind.wrap .i64 (x2 - a2)) x2 a2 a1).bind fun v4 =>
  some v4
def rotM_L2 (x2 : Int) (a5 : List RRec) (a6 : Int) (a7 : Int) : Option (Ctl ((List RRec) × Int × Int) ((List RRec) × Int)) :=
  if (a6 != a7) = true then
    if (decide (a7 < a6)) = true then
      (swpM (IntKind.wrap .i64 (x2 - a6)) x2 a7 a5).bind fun v13 =>
      some (.next (v13, (IntKind.wrap .i64 (a6 - a7)), a7))
    else
      (swpM (IntKind.wrap .i64 (x2 - a6)) (IntKind.wrap .i64 ((IntKind.wrap .i64 (x2 + a7)) - a6)) a6 a5).bind fun v15 =>
      some (.next (v15, a6, (IntKind.wrap .i64 (a7 - a6))))
  else
    some (.done (a5, a6))
def rotM (x1 : Int) (x2 : Int) (x3 : Int) (o0 : List RRec) : Option (List RRec) :=
  (whileM (E := (List RRec) × Int) (fun s => rotM_L2 x2 s.1 s.2.1 s.2.2) (o0, (IntKind.wrap .i64 (x2 - x1)), (IntKind.wrap .i64 (x3 - x2)))).bind fun e => rotM_K1 x2 e.1 e.2
theorem rotM_c {x1 : Int} {x2 : Int} {x3 : Int} {o0 : List RRec} {r : (List RRec)} (hM : rotM x1 x2 x3 o0 = some r) : ACall Tryz.prog 220 ⟨[.row 100000, .int .i64 x1, .int .i64 x2, .int .i64 x3, .val (.func (.func 157) #[] #[])], [(100000, some (.row 52 29 (List.map RRec.dv o0)))], .tup [], [(100000, some (.row 52 29 (List.map RRec.dv r)))], []⟩ := by
  unfold rotM at hM
  refine ACall.body Tryz.func220 Tryz.ntmps220 rfl rfl rfl rfl ?_
  refine a_end ?_
  refine a_seq (ar (.cons (o_move rfl) <| .cons (o_move rfl) <| .cons (o_int rfl rfl rfl) <| .cons (o_assign rfl) <| .nil _) ?_)
  refine a_seq (ar (.cons (o_move rfl) <| .cons (o_move rfl) <| .cons (o_int rfl rfl rfl) <| .cons (o_assign rfl) <| .nil _) ?_)
  refine a_cut (α := (List RRec) × Int) (fun s => ⟨[(0, .row 100000), (2, .int .i64 x2), (4, .val (.func (.func 157) #[] #[])), (10, .int .i64 s.2)], [(100000, some (.row 52 29 (List.map RRec.dv s.1)))], [100000]⟩) (fun s => rotM_K1 x2 s.1 s.2 = some r) ?_ ?_
  · obtain ⟨e8, hL8, hK8⟩ := of_bind hM
    refine a_block (a_while (fun s : (List RRec) × Int × Int => ⟨[(0, .row 100000), (2, .int .i64 x2), (4, .val (.func (.func 157) #[] #[])), (10, .int .i64 s.2.1), (11, .int .i64 s.2.2)], [(100000, some (.row 52 29 (List.map RRec.dv s.1)))], [100000]⟩) _ hL8 (Imp.sh (fun i => i) rfl rfl rfl rfl rfl rfl) ?_)
    rintro ⟨a5, a6, a7⟩ t9 hM hE8
    replace hM : rotM_L2 x2 a5 a6 a7 = some t9 := hM
    unfold rotM_L2 at hM
    refine a_seq (a_seq (ar (.cons (o_move rfl) <| .cons (o_move rfl) <| .cons (o_int rfl rfl rfl) <| .nil _) ?_))
    refine a_cond _ rfl (fun h10 => ?_) (fun h10 => ?_)
    · replace hM := (of_if hM).1 h10
      refine a_skip (a_block (a_seq (ar (.cons (o_move rfl) <| .cons (o_move rfl) <| .cons (o_int rfl rfl rfl) <| .nil _) ?_)))
      refine a_cond _ rfl (fun h11 => ?_) (fun h11 => ?_)
      · replace hM := (of_if hM).1 h11
        refine a_seq ?_
        obtain ⟨v13, h12, hM⟩ := of_bind hM
        refine ar (.cons (o_move rfl) <| .cons (o_move rfl) <| .cons (o_move rfl) <| .cons (o_int rfl rfl rfl) <| .cons (o_move rfl) <| .cons (o_move rfl) <| .cons (o_move rfl) <| .cons (o_callN (fun i => bif Nat.beq i 100000 then 100000 else i) 1 (swpM_c h12) rfl (DLeL.refl _) (.cons rfl .nil) rfl .nil) <| .nil _) ?_
        refine ar (.cons (o_move rfl) <| .cons (o_move rfl) <| .cons (o_int rfl rfl rfl) <| .cons (o_assign rfl) <| .nil _) ?_
        obtain rfl := Option.some.inj hM
        exact ⟨(v13, (IntKind.wrap .i64 (a6 - a7)), a7), rfl, (Imp.sh (fun i => i) rfl rfl rfl rfl rfl rfl)⟩
      · replace hM := (of_if hM).2 h11
        refine a_seq ?_
        obtain ⟨v15, h14, hM⟩ := of_bind hM
        refine ar (.cons (o_move rfl) <| .cons (o_move rfl) <| .cons (o_move rfl) <| .cons (o_int rfl rfl rfl) <| .cons (o_move rfl) <| .cons (o_move rfl) <| .cons (o_int rfl rfl rfl) <| .cons (o_move rfl) <| .cons (o_int rfl rfl rfl) <| .cons (o_move rfl) <| .cons (o_move rfl) <| .cons (o_callN (fun i => bif Nat.beq i 100000 then 100000 else i) 1 (swpM_c h14) rfl (DLeL.refl _) (.cons rfl .nil) rfl .nil) <| .nil _) ?_
        refine ar (.cons (o_move rfl) <| .cons (o_move rfl) <| .cons (o_int rfl rfl rfl) <| .cons (o_assign rfl) <| .nil _) ?_
        obtain rfl := Option.some.inj hM
        exact ⟨(v15, a6, (IntKind.wrap .i64 (a7 - a6))), rfl, (Imp.sh (fun i => i) rfl rfl rfl rfl rfl rfl)⟩
    · replace hM := (of_if hM).2 h10
      refine a_exit ?_
      obtain rfl := Option.some.inj hM
      obtain rfl := hE8 _ rfl
      exact ⟨(a5, a6), hK8, (Imp.sh (fun i => i) rfl rfl rfl rfl rfl rfl)⟩
  · rintro ⟨a1, a2⟩ hM
    replace hM : rotM_K1 x2 a1 a2 = some r := hM
    unfold rotM_K1 at hM
    obtain ⟨v4, h3, hM⟩ := of_bind hM
    refine ar (.cons (o_move rfl) <| .cons (o_move rfl) <| .cons (o_move rfl) <| .cons (o_int rfl rfl rfl) <| .cons (o_move rfl) <| .cons (o_move rfl) <| .cons (o_move rfl) <| .cons (o_callN (fun i => bif Nat.beq i 100000 then 100000 else i) 1 (swpM_c h3) rfl (DLeL.refl _) (.cons rfl .nil) rfl .nil) <| .nil _) ?_
    obtain rfl := Option.some.inj hM
    refine n_imp (σ' := ⟨[], [(100000, some (.row 52 29 (List.map RRec.dv v4)))], [100000]⟩) (Imp.sh (fun i => i) rfl rfl rfl rfl rfl rfl) ?_
    exact n_done (a_postN (.r0 ) (DLe.refl _) (PostOk.spec (.cons rfl .nil)))
def symM_K6 (x1 : Int) (x2 : Int) (x3 : Int) (self : Int → Int → Int → (List RRec) → Option (List RRec)) (a3 : Int) (a5 : List RRec) : Option (List RRec) :=
  if ((decide ((IntKind.wrap .i64 (Int.fdiv (IntKind.wrap .u64 (IntKind.wrap .i64 (x1 + x3))) (2 ^ min (Int.toNat 1) (IntKind.bits .u64)))) < (IntKind.wrap .i64 ((IntKind.wrap .i64 ((IntKind.wrap .i64 (Int.fdiv (IntKind.wrap .u64 (IntKind.wrap .i64 (x1 + x3))) (2 ^ min (Int.toNat 1) (IntKind.bits .u64)))) + x2)) - a3)))) && (decide ((IntKind.wrap .i64 ((IntKind.wrap .i64 ((IntKind.wrap .i64 (Int.fdiv (IntKind.wrap .u64 (IntKind.wrap .i64 (x1 + x3))) (2 ^ min (Int.toNat 1) (IntKind.bits .u64)))) + x2)) - a3)) < x3))) = true then
    (self (IntKind.wrap .i64 (Int.fdiv (IntKind.wrap .u64 (IntKind.wrap .i64 (x1 + x3))) (2 ^ min (Int.toNat 1) (IntKind.bits .u64)))) (IntKind.wrap .i64 ((IntKind.wrap .i64 ((IntKind.wrap .i64 (Int.fdiv (IntKind.wrap .u64 (IntKind.wrap .i64 (x1 + x3))) (2 ^ min (Int.toNat 1) (IntKind.bits .u64)))) + x2)) - a3)) x3 a5).bind fun v8 =>
    some v8
  else
    some a5
def symM_K5 (x1 : Int) (x2 : Int) (x3 : Int) (self : Int → Int → Int → (List RRec) → Option (List RRec)) (a3 : Int) (a4 : List RRec) : Option (List RRec) :=
  if ((decide (x1 < a3)) && (decide (a3 < (IntKind.wrap .i64 (Int.fdiv (IntKind.wrap .u64 (IntKind.wrap .i64 (x1 + x3))) (2 ^ min (Int.toNat 1) (IntKind.bits .u64))))))) = true then
    (self x1 a3 (IntKind.wrap .i64 (Int.fdiv (IntKind.wrap .u64 (IntKind.wrap .i64 (x1 + x3))) (2 ^ min (Int.toNat 1) (IntKind.bits .u64)))) a4).bind fun v11 =>
    symM_K6 x1 x2 x3 self a3 v11
  else
    symM_K6 x1 x2 x3 self a3 a4
def symM_K4 (x1 : Int) (x2 : Int) (x3 : Int) (o0 : List RRec) (self : Int → Int → Int → (List RRec) → Option (List RRec)) (a3 : Int) : Option (List RRec) :=
  if ((decide (a3 < x2)) && (decide (x2 < (IntKind.wrap .i64 ((IntKind.wrap .i64 ((IntKind.wrap .i64 (Int.fdiv (IntKind.wrap .u64 (IntKind.wrap .i64 (x1 + x3))) (2 ^ min (Int.toNat 1) (IntKind.bits .u64)))) + x2)) - a3))))) = true then
    (rotM a3 x2 (IntKind.wrap .i64 ((IntKind.wrap .i64 ((IntKind.wrap .i64 (Int.fdiv (IntKind.wrap .u64 (IntKind.wrap .i64 (x1 + x3))) (2 ^ min (Int.toNat 1) (IntKind.bits .u64)))) + x2)) - a3)) o0).bind fun v14 =>
    symM_K5 x1 x2 x3 self a3 v14
  else
    symM_K5 x1 x2 x3 self a3 o0
def symM_L7 (x1 : Int) (x2 : Int) (x3 : Int) (o0 : List RRec) (a15 : Int) (a16 : Int) : Option (Ctl (Int × Int) Int) :=
  if (decide (a15 < a16)) = true then
    (idx o0 (IntKind.wrap .i64 ((IntKind.wrap .i64 ((IntKind.wrap .i64 ((IntKind.wrap .i64 (Int.fdiv (IntKind.wrap .u64 (IntKind.wrap .i64 (x1 + x3))) (2 ^ min (Int.toNat 1) (IntKind.bits .u64)))) + x2)) - 1)) - (IntKind.wrap .i64 (Int.fdiv (IntKind.wrap .u64 (IntKind.wrap .i64 (a15 + a16))) (2 ^ min (Int.toNat 1) (IntKind.bits .u64))))))).bind fun v21 =>
    (idx o0 (IntKind.wrap .i64 (Int.fdiv (IntKind.wrap .u64 (IntKind.wrap .i64 (a15 + a16))) (2 ^ min (Int.toNat 1) (IntKind.bits .u64))))).bind fun v23 =>
    (collect_bySeq v21 v23).bind fun v25 =>
    if (!(decide (v25 < 0))) = true then
      some (.next ((IntKind.wrap .i64 ((IntKind.wrap .i64 (Int.fdiv (IntKind.wrap .u64 (IntKind.wrap .i64 (a15 + a16))) (2 ^ min (Int.toNat 1) (IntKind.bits .u64)))) + 1)), a16))
    else
      some (.next (a15, (IntKind.wrap .i64 (Int.fdiv (IntKind.wrap .u64 (IntKind.wrap .i64 (a15 + a16))) (2 ^ min (Int.toNat 1) (IntKind.bits .u64))))))
  else
    some (.done a15)
def symM_K3 (x1 : Int) (x2 : Int) (x3 : Int) (o0 : List RRec) (self : Int → Int → Int → (List RRec) → Option (List RRec)) (a1 : Int) (a2 : Int) : Option (List RRec) :=
  (whileM (E := Int) (fun s => symM_L7 x1 x2 x3 o0 s.1 s.2) (a1, a2)).bind fun e => symM_K4 x1 x2 x3 o0 self e
def symM_K2 (x1 : Int) (x2 : Int) (x3 : Int) (o0 : List RRec) (self : Int → Int → Int → (List RRec) → Option (List RRec)) : Option (List RRec) :=
  if (decide ((IntKind.wrap .i64 (Int.fdiv (IntKind.wrap .u64 (IntKind.wrap .i64 (x1 + x3))) (2 ^ min (Int.toNat 1) (IntKind.bits .u64)))) < x2)) = true then
    symM_K3 x1 x2 x3 o0 self (IntKind.wrap .i64 ((IntKind.wrap .i64 ((IntKind.wrap .i64 (Int.fdiv (IntKind.wrap .u64 (IntKind.wrap .i64 (x1 + x3))) (2 ^ min (Int.toNat 1) (IntKind.bits .u64)))) + x2)) - x3)) (IntKind.wrap .i64 (Int.fdiv (IntKind.wrap .u64 (IntKind.wrap .i64 (x1 + x3))) (2 ^ min (Int.toNat 1) (IntKind.bits .u64))))
  else
    symM_K3 x1 x2 x3 o0 self x1 x2
def symM_K9 (a30 : List RRec) : Option (List RRec) :=
  some a30
def symM_L10 (a29 : Int) (a31 : List RRec) (a32 : Int) : Option (Ctl ((List RRec) × Int) (List RRec)) :=
  if (decide (a29 < a32)) = true then
    (idx a31 (IntKind.wrap .i64 (a32 - 1))).bind fun v37 =>
    (idx a31 a32).bind fun v39 =>
    (idx a31 a32).bind fun v41 =>
    (idx (List.set a31 (Int.toNat a32) v37) (IntKind.wrap .i64 (a32 - 1))).bind fun v43 =>
    some (.next ((List.set (List.set a31 (Int.toNat a32) v37) (Int.toNat (IntKind.wrap .i64 (a32 - 1))) v39), (IntKind.wrap .i64 (a32 - 1))))
  else
    some (.done a31)
def symM_K8 (x2 : Int) (o0 : List RRec) (a29 : Int) : Option (List RRec) :=
  (whileM (E := (List RRec)) (fun s => symM_L10 a29 s.1 s.2) (o0, x2)).bind fun e => symM_K9 e
def symM_L11 (x2 : Int) (o0 : List RRec) (a44 : Int) (a45 : Int) : Option (Ctl (Int × Int) Int) :=
  if (decide (a44 < a45)) = true then
    (idx o0 x2).bind fun v50 =>
    (idx o0 (IntKind.wrap .i64 (Int.fdiv (IntKind.wrap .u64 (IntKind.wrap .i64 (a44 + a45))) (2 ^ min (Int.toNat 1) (IntKind.bits .u64))))).bind fun v52 =>
    (collect_bySeq v50 v52).bind fun v54 =>
    if (!(decide (v54 < 0))) = true then
      some (.next ((IntKind.wrap .i64 ((IntKind.wrap .i64 (Int.fdiv (IntKind.wrap .u64 (IntKind.wrap .i64 (a44 + a45))) (2 ^ min (Int.toNat 1) (IntKind.bits .u64)))) + 1)), a45))
    else
      some (.next (a44, (IntKind.wrap .i64 (Int.fdiv (IntKind.wrap .u64 (IntKind.wrap .i64 (a44 + a45))) (2 ^ min (Int.toNat 1) (IntKind.bits .u64))))))
  else
    some (.done a44)
def symM_K1 (x1 : Int) (x2 : Int) (x3 : Int) (o0 : List RRec) (self : Int → Int → Int → (List RRec) → Option (List RRec)) : Option (List RRec) :=
  if ((IntKind.wrap .i64 (x3 - x2)) == 1) = true then
    (whileM (E := Int) (fun s => symM_L11 x2 o0 s.1 s.2) (x1, x2)).bind fun e => symM_K8 x2 o0 e
  else
    symM_K2 x1 x2 x3 o0 self
def symM_K13 (a58 : List RRec) : Option (List RRec) :=
  some a58
def symM_L14 (a57 : Int) (a59 : List RRec) (a60 : Int) : Option (Ctl ((List RRec) × Int) (List RRec)) :=
  if (decide (a60 < (IntKind.wrap .i64 (a57 - 1)))) = true then
    (idx a59 (IntKind.wrap .i64 (a60 + 1))).bind fun v65 =>
    (idx a59 a60).bind fun v67 =>
    (idx a59 a60).bind fun v69 =>
    (idx (List.set a59 (Int.toNat a60) v65) (IntKind.wrap .i64 (a60 + 1))).bind fun v71 =>
    some (.next ((List.set (List.set a59 (Int.toNat a60) v65) (Int.toNat (IntKind.wrap .i64 (a60 + 1))) v67), (IntKind.wrap .i64 (a60 + 1))))
  else
    some (.done a59)
def symM_K12 (x1 : Int) (o0 : List RRec) (a57 : Int) : Option (List RRec) :=
  (whileM (E := (List RRec)) (fun s => symM_L14 a57 s.1 s.2) (o0, x1)).bind fun e => symM_K13 e
def symM_L15 (x1 : Int) (o0 : List RRec) (a72 : Int) (a73 : Int) : Option (Ctl (Int × Int) Int) :=
  if (decide (a72 < a73)) = true then
    (idx o0 (IntKind.wrap .i64 (Int.fdiv (IntKind.wrap .u64 (IntKind.wrap .i64 (a72 + a73))) (2 ^ min (Int.toNat 1) (IntKind.bits .u64))))).bind fun v78 =>
    (idx o0 x1).bind fun v80 =>
    (collect_bySeq v78 v80).bind fun v82 =>
    if (decide (v82 < 0)) = true then
      some (.next ((IntKind.wrap .i64 ((IntKind.wrap .i64 (Int.fdiv (IntKind.wrap .u64 (IntKind.wrap .i64 (a72 + a73))) (2 ^ min (Int.toNat 1) (IntKind.bits .u64)))) + 1)), a73))
    else
      some (.next (a72, (IntKind.wrap .i64 (Int.fdiv (IntKind.wrap .u64 (IntKind.wrap .i64 (a72 + a73))) (2 ^ min (Int.toNat 1) (IntKind.bits .u64))))))
  else
    some (.done a72)
def symM_B (self : Int → Int → Int → (List RRec) → Option (List RRec)) (x1 : Int) (x2 : Int) (x3 : Int) (o0 : List RRec) : Option (List RRec) :=
  if ((IntKind.wrap .i64 (x2 - x1)) == 1) = true then
    (whileM (E := Int) (fun s => symM_L15 x1 o0 s.1 s.2) (x2, x3)).bind fun e => symM_K12 x1 o0 e
  else
    symM_K1 x1 x2 x3 o0 self
def symM : Nat → Int → Int → Int → (List RRec) → Option (List RRec)
  | 0, _, _, _, _ => none
  | fu + 1, x1, x2, x3, o0 => symM_B (symM fu) x1 x2 x3 o0
theorem symM_c : ∀ (fu : Nat) {x1 : Int} {x2 : Int} {x3 : Int} {o0 : List RRec} {r : (List RRec)} (hM : symM fu x1 x2 x3 o0 = some r), ACall Tryz.prog 206 ⟨[.row 100000, .int .i64 x1, .int .i64 x2, .int .i64 x3, .val (.func (.func 157) #[] #[])], [(100000, some (.row 52 29 (List.map RRec.dv o0)))], .tup [], [(100000, some (.row 52 29 (List.map RRec.dv r)))], []⟩ := by
  intro fu
  induction fu with
  | zero => intro x1 x2 x3 o0 r hM; cases hM
  | succ fu ih =>
    intro x1 x2 x3 o0 r hM
    replace hM : symM_B (symM fu) x1 x2 x3 o0 = some r := hM
    unfold symM_B at hM
    refine ACall.body Tryz.func206 Tryz.ntmps206 rfl rfl rfl rfl ?_
    refine a_end ?_
    refine a_cut (α := Unit) (fun s => ⟨[(0, .row 100000), (1, .int .i64 x1), (2, .int .i64 x2), (3, .int .i64 x3), (4, .val (.func (.func 157) #[] #[]))], [(100000, some (.row 52 29 (List.map RRec.dv o0)))], [100000]⟩) (fun s => symM_K1 x1 x2 x3 o0 (symM fu) = some r) ?_ ?_
    · refine a_seq (ar (.cons (o_move rfl) <| .cons (o_move rfl) <| .cons (o_int rfl rfl rfl) <| .cons (o_int rfl rfl rfl) <| .nil _) ?_)
      refine a_cond _ rfl (fun h56 => ?_) (fun h56 => ?_)
      · replace hM := (of_if hM).1 h56
        refine a_seq (ar (.cons (o_move rfl) <| .cons (o_assign rfl) <| .nil _) ?_)
        refine a_seq (ar (.cons (o_move rfl) <| .cons (o_assign rfl) <| .nil _) ?_)
        refine a_cut (α := Int) (fun s => ⟨[(0, .row 100000), (1, .int .i64 x1), (10, .int .i64 s)], [(100000, some (.row 52 29 (List.map RRec.dv o0)))], [100000]⟩) (fun s => symM_K12 x1 o0 s = some r) ?_ ?_
        · obtain ⟨e74, hL74, hK74⟩ := of_bind hM
          refine a_block (a_while (fun s : Int × Int => ⟨[(0, .row 100000), (1, .int .i64 x1), (4, .val (.func (.func 157) #[] #[])), (10, .int .i64 s.1), (11, .int .i64 s.2)], [(100000, some (.row 52 29 (List.map RRec.dv o0)))], [100000]⟩) _ hL74 (Imp.sh (fun i => i) rfl rfl rfl rfl rfl rfl) ?_)
          rintro ⟨a72, a73⟩ t75 hM hE74
          replace hM : symM_L15 x1 o0 a72 a73 = some t75 := hM
          unfold symM_L15 at hM
          refine a_seq (a_seq (ar (.cons (o_move rfl) <| .cons (o_move rfl) <| .cons (o_int rfl rfl rfl) <| .nil _) ?_))
          refine a_cond _ rfl (fun h76 => ?_) (fun h76 => ?_)
          · replace hM := (of_if hM).1 h76
            refine a_skip (a_block (a_seq (ar (.cons (o_move rfl) <| .cons (o_move rfl) <| .cons (o_int rfl rfl rfl) <| .cons (o_conv_w rfl) <| .cons (o_shr rfl rfl (by decide)) <| .cons (o_conv_w rfl) <| .cons (o_assign rfl) <| .nil _) ?_)))
            refine a_seq ?_
            obtain ⟨v78, h77, hM⟩ := of_bind hM
            obtain ⟨v80, h79, hM⟩ := of_bind hM
            obtain ⟨v82, h81, hM⟩ := of_bind hM
            refine ad mixed (.cons (o_move rfl) <| .cons (o_move rfl) <| .cons (o_move rfl) <| .cons (t_index_r h77 rfl rfl rfl) <| .cons (t_load_pr h77 rfl rfl rfl rfl rfl) <| .cons (o_move rfl) <| .cons (o_move rfl) <| .cons (t_index_r h79 rfl rfl rfl) <| .cons (t_load_pr h79 rfl rfl rfl rfl rfl) <| .cons (o_callF (collect_bySeq_c h81) rfl rfl (DLeL.refl _) rfl) <| .cons (o_int rfl rfl rfl) <| .nil _) ?_
            refine a_cond _ rfl (fun h83 => ?_) (fun h83 => ?_)
            · replace hM := (of_if hM).1 h83
              refine ar (.cons (o_move rfl) <| .cons (o_int rfl rfl rfl) <| .cons (o_assign rfl) <| .nil _) ?_
              obtain rfl := Option.some.inj hM
              exact ⟨((IntKind.wrap .i64 ((IntKind.wrap .i64 (Int.fdiv (IntKind.wrap .u64 (IntKind.wrap .i64 (a72 + a73))) (2 ^ min (Int.toNat 1) (IntKind.bits .u64)))) + 1)), a73), rfl, (Imp.sh (fun i => i) rfl rfl rfl rfl rfl rfl)⟩
            · replace hM := (of_if hM).2 h83
              refine ar (.cons (o_move rfl) <| .cons (o_assign rfl) <| .nil _) ?_
              obtain rfl := Option.some.inj hM
              exact ⟨(a72, (IntKind.wrap .i64 (Int.fdiv (IntKind.wrap .u64 (IntKind.wrap .i64 (a72 + a73))) (2 ^ min (Int.toNat 1) (IntKind.bits .u64))))), rfl, (Imp.sh (fun i => i) rfl rfl rfl rfl rfl rfl)⟩
          · replace hM := (of_if hM).2 h76
            refine a_exit ?_
            obtain rfl := Option.some.inj hM
            obtain rfl := hE74 _ rfl
            exact ⟨a72, hK74, (Imp.sh (fun i => i) rfl rfl rfl rfl rfl rfl)⟩
        · rintro a57 hM
          replace hM : symM_K12 x1 o0 a57 = some r := hM
          unfold symM_K12 at hM
          refine a_cut (α := (List RRec)) (fun s => ⟨[], [(100000, some (.row 52 29 (List.map RRec.dv s)))], [100000]⟩) (fun s => symM_K13 s = some r) ?_ ?_
          · refine a_seq (ar (.cons (o_move rfl) <| .cons (o_assign rfl) <| .nil _) ?_)
            obtain ⟨e61, hL61, hK61⟩ := of_bind hM
            refine a_block (a_while (fun s : (List RRec) × Int => ⟨[(0, .row 100000), (10, .int .i64 a57), (13, .int .i64 s.2)], [(100000, some (.row 52 29 (List.map RRec.dv s.1)))], [100000]⟩) _ hL61 (Imp.sh (fun i => i) rfl rfl rfl rfl rfl rfl) ?_)
            rintro ⟨a59, a60⟩ t62 hM hE61
            replace hM : symM_L14 a57 a59 a60 = some t62 := hM
            unfold symM_L14 at hM
            refine a_seq (a_seq (ar (.cons (o_move rfl) <| .cons (o_move rfl) <| .cons (o_int rfl rfl rfl) <| .cons (o_int rfl rfl rfl) <| .nil _) ?_))
            refine a_cond _ rfl (fun h63 => ?_) (fun h63 => ?_)
            · replace hM := (of_if hM).1 h63
              refine a_skip (a_seq (a_block ?_))
              obtain ⟨v65, h64, hM⟩ := of_bind hM
              obtain ⟨v67, h66, hM⟩ := of_bind hM
              obtain ⟨v69, h68, hM⟩ := of_bind hM
              obtain ⟨v71, h70, hM⟩ := of_bind hM
              refine ad mixed (.cons (o_move rfl) <| .cons (o_move rfl) <| .cons (o_move rfl) <| .cons (o_move rfl) <| .cons (o_int rfl rfl rfl) <| .cons (o_move rfl) <| .cons (o_move rfl) <| .cons (o_int rfl rfl rfl) <| .cons (t_index_r h64 rfl rfl rfl) <| .cons (t_load_pr h64 rfl rfl rfl rfl rfl) <| .cons (o_move rfl) <| .cons (o_move rfl) <| .cons (t_index_r h66 rfl rfl rfl) <| .cons (t_load_pr h66 rfl rfl rfl rfl rfl) <| .cons (t_index_r h68 rfl rfl rfl) <| .cons (t_store_p v65 h68 rfl rfl rfl rfl rfl rfl rfl rfl rfl rfl rfl) <| .cons (t_index_r h70 rfl rfl rfl) <| .cons (t_store_p v67 h70 rfl rfl rfl rfl rfl rfl rfl rfl rfl rfl rfl) <| .nil _) ?_
              refine ar (.cons (o_move rfl) <| .cons (o_int rfl rfl rfl) <| .cons (o_assign rfl) <| .nil _) ?_
              obtain rfl := Option.some.inj hM
              exact ⟨((List.set (List.set a59 (Int.toNat a60) v65) (Int.toNat (IntKind.wrap .i64 (a60 + 1))) v67), (IntKind.wrap .i64 (a60 + 1))), rfl, (Imp.sh (fun i => i) rfl rfl rfl rfl rfl rfl)⟩
            · replace hM := (of_if hM).2 h63
              refine a_exit ?_
              obtain rfl := Option.some.inj hM
              obtain rfl := hE61 _ rfl
              exact ⟨a59, hK61, (Imp.sh (fun i => i) rfl rfl rfl rfl rfl rfl)⟩
          · rintro a58 hM
            replace hM : symM_K13 a58 = some r := hM
            unfold symM_K13 at hM
            obtain rfl := Option.some.inj hM
            refine a_imp (σ' := ⟨[], [(100000, some (.row 52 29 (List.map RRec.dv a58)))], [100000]⟩) (Imp.sh (fun i => i) rfl rfl rfl rfl rfl rfl) ?_
            exact a_ret (a_post (.r0 ) (DLe.refl _) (PostOk.spec (.cons rfl .nil)))
      · replace hM := (of_if hM).2 h56
        refine a_skip ?_
        exact ⟨(), hM, (Imp.sh (fun i => i) rfl rfl rfl rfl rfl rfl)⟩
    · rintro _ hM
      replace hM : symM_K1 x1 x2 x3 o0 (symM fu) = some r := hM
      unfold symM_K1 at hM
      refine a_cut (α := Unit) (fun s => ⟨[(0, .row 100000), (1, .int .i64 x1), (2, .int .i64 x2), (3, .int .i64 x3), (4, .val (.func (.func 157) #[] #[]))], [(100000, some (.row 52 29 (List.map RRec.dv o0)))], [100000]⟩) (fun s => symM_K2 x1 x2 x3 o0 (symM fu) = some r) ?_ ?_
      · refine a_seq (ar (.cons (o_move rfl) <| .cons (o_move rfl) <| .cons (o_int rfl rfl rfl) <| .cons (o_int rfl rfl rfl) <| .nil _) ?_)
        refine a_cond _ rfl (fun h28 => ?_) (fun h28 => ?_)
        · replace hM := (of_if hM).1 h28
          refine a_seq (ar (.cons (o_move rfl) <| .cons (o_assign rfl) <| .nil _) ?_)
          refine a_seq (ar (.cons (o_move rfl) <| .cons (o_assign rfl) <| .nil _) ?_)
          refine a_cut (α := Int) (fun s => ⟨[(0, .row 100000), (2, .int .i64 x2), (14, .int .i64 s)], [(100000, some (.row 52 29 (List.map RRec.dv o0)))], [100000]⟩) (fun s => symM_K8 x2 o0 s = some r) ?_ ?_
          · obtain ⟨e46, hL46, hK46⟩ := of_bind hM
            refine a_block (a_while (fun s : Int × Int => ⟨[(0, .row 100000), (2, .int .i64 x2), (4, .val (.func (.func 157) #[] #[])), (14, .int .i64 s.1), (15, .int .i64 s.2)], [(100000, some (.row 52 29 (List.map RRec.dv o0)))], [100000]⟩) _ hL46 (Imp.sh (fun i => i) rfl rfl rfl rfl rfl rfl) ?_)
            rintro ⟨a44, a45⟩ t47 hM hE46
            replace hM : symM_L11 x2 o0 a44 a45 = some t47 := hM
            unfold symM_L11 at hM
            refine a_seq (a_seq (ar (.cons (o_move rfl) <| .cons (o_move rfl) <| .cons (o_int rfl rfl rfl) <| .nil _) ?_))
            refine a_cond _ rfl (fun h48 => ?_) (fun h48 => ?_)
            · replace hM := (of_if hM).1 h48
              refine a_skip (a_block (a_seq (ar (.cons (o_move rfl) <| .cons (o_move rfl) <| .cons (o_int rfl rfl rfl) <| .cons (o_conv_w rfl) <| .cons (o_shr rfl rfl (by decide)) <| .cons (o_conv_w rfl) <| .cons (o_assign rfl) <| .nil _) ?_)))
              refine a_seq ?_
              obtain ⟨v50, h49, hM⟩ := of_bind hM
              obtain ⟨v52, h51, hM⟩ := of_bind hM
              obtain ⟨v54, h53, hM⟩ := of_bind hM
              refine ad mixed (.cons (o_move rfl) <| .cons (o_move rfl) <| .cons (o_move rfl) <| .cons (t_index_r h49 rfl rfl rfl) <| .cons (t_load_pr h49 rfl rfl rfl rfl rfl) <| .cons (o_move rfl) <| .cons (o_move rfl) <| .cons (t_index_r h51 rfl rfl rfl) <| .cons (t_load_pr h51 rfl rfl rfl rfl rfl) <| .cons (o_callF (collect_bySeq_c h53) rfl rfl (DLeL.refl _) rfl) <| .cons (o_int rfl rfl rfl) <| .cons (o_not rfl) <| .nil _) ?_
              refine a_cond _ rfl (fun h55 => ?_) (fun h55 => ?_)
              · replace hM := (of_if hM).1 h55
                refine ar (.cons (o_move rfl) <| .cons (o_int rfl rfl rfl) <| .cons (o_assign rfl) <| .nil _) ?_
                obtain rfl := Option.some.inj hM
                exact ⟨((IntKind.wrap .i64 ((IntKind.wrap .i64 (Int.fdiv (IntKind.wrap .u64 (IntKind.wrap .i64 (a44 + a45))) (2 ^ min (Int.toNat 1) (IntKind.bits .u64)))) + 1)), a45), rfl, (Imp.sh (fun i => i) rfl rfl rfl rfl rfl rfl)⟩
              · replace hM := (of_if hM).2 h55
                refine ar (.cons (o_move rfl) <| .cons (o_assign rfl) <| .nil _) ?_
                obtain rfl := Option.some.inj hM
                exact ⟨(a44, (IntKind.wrap .i64 (Int.fdiv (IntKind.wrap .u64 (IntKind.wrap .i64 (a44 + a45))) (2 ^ min (Int.toNat 1) (IntKind.bits .u64))))), rfl, (Imp.sh (fun i => i) rfl rfl rfl rfl rfl rfl)⟩
            · replace hM := (of_if hM).2 h48
              refine a_exit ?_
              obtain rfl := Option.some.inj hM
              obtain rfl := hE46 _ rfl
              exact ⟨a44, hK46, (Imp.sh (fun i => i) rfl rfl rfl rfl rfl rfl)⟩
          · rintro a29 hM
            replace hM : symM_K8 x2 o0 a29 = some r := hM
            unfold symM_K8 at hM
            refine a_cut (α := (List RRec)) (fun s => ⟨[], [(100000, some (.row 52 29 (List.map RRec.dv s)))], [100000]⟩) (fun s => symM_K9 s = some r) ?_ ?_
            · refine a_seq (ar (.cons (o_move rfl) <| .cons (o_assign rfl) <| .nil _) ?_)
              obtain ⟨e33, hL33, hK33⟩ := of_bind hM
              refine a_block (a_while (fun s : (List RRec) × Int => ⟨[(0, .row 100000), (14, .int .i64 a29), (17, .int .i64 s.2)], [(100000, some (.row 52 29 (List.map RRec.dv s.1)))], [100000]⟩) _ hL33 (Imp.sh (fun i => i) rfl rfl rfl rfl rfl rfl) ?_)
              rintro ⟨a31, a32⟩ t34 hM hE33
              replace hM : symM_L10 a29 a31 a32 = some t34 := hM
              unfold symM_L10 at hM
              refine a_seq (a_seq (ar (.cons (o_move rfl) <| .cons (o_move rfl) <| .cons (o_int rfl rfl rfl) <| .nil _) ?_))
              refine a_cond _ rfl (fun h35 => ?_) (fun h35 => ?_)
              · replace hM := (of_if hM).1 h35
                refine a_skip (a_seq (a_block ?_))
                obtain ⟨v37, h36, hM⟩ := of_bind hM
                obtain ⟨v39, h38, hM⟩ := of_bind hM
                obtain ⟨v41, h40, hM⟩ := of_bind hM
                obtain ⟨v43, h42, hM⟩ := of_bind hM
                refine ad mixed (.cons (o_move rfl) <| .cons (o_move rfl) <| .cons (o_move rfl) <| .cons (o_move rfl) <| .cons (o_int rfl rfl rfl) <| .cons (o_move rfl) <| .cons (o_move rfl) <| .cons (o_int rfl rfl rfl) <| .cons (t_index_r h36 rfl rfl rfl) <| .cons (t_load_pr h36 rfl rfl rfl rfl rfl) <| .cons (o_move rfl) <| .cons (o_move rfl) <| .cons (t_index_r h38 rfl rfl rfl) <| .cons (t_load_pr h38 rfl rfl rfl rfl rfl) <| .cons (t_index_r h40 rfl rfl rfl) <| .cons (t_store_p v37 h40 rfl rfl rfl rfl rfl rfl rfl rfl rfl rfl rfl) <| .cons (t_index_r h42 rfl rfl rfl) <| .cons (t_store_p v39 h42 rfl rfl rfl rfl rfl rfl rfl rfl rfl rfl rfl) <| .nil _) ?_
                refine ar (.cons (o_move rfl) <| .cons (o_int rfl rfl rfl) <| .cons (o_assign rfl) <| .nil _) ?_
                obtain rfl := Option.some.inj hM
                exact ⟨((List.set (List.set a31 (Int.toNat a32) v37) (Int.toNat (IntKind.wrap .i64 (a32 - 1))) v39), (IntKind.wrap .i64 (a32 - 1))), rfl, (Imp.sh (fun i => i) rfl rfl rfl rfl rfl rfl)⟩
              · replace hM := (of_if hM).2 h35
                refine a_exit ?_
                obtain rfl := Option.some.inj hM
                obtain rfl := hE33 _ rfl
                exact ⟨a31, hK33, (Imp.sh (fun i => i) rfl rfl rfl rfl rfl rfl)⟩
            · rintro a30 hM
              replace hM : symM_K9 a30 = some r := hM
              unfold symM_K9 at hM
              obtain rfl := Option.some.inj hM
              refine a_imp (σ' := ⟨[], [(100000, some (.row 52 29 (List.map RRec.dv a30)))], [100000]⟩) (Imp.sh (fun i => i) rfl rfl rfl rfl rfl rfl) ?_
              exact a_ret (a_post (.r0 ) (DLe.refl _) (PostOk.spec (.cons rfl .nil)))
        · replace hM := (of_if hM).2 h28
          refine a_skip ?_
          exact ⟨(), hM, (Imp.sh (fun i => i) rfl rfl rfl rfl rfl rfl)⟩
      · rintro _ hM
        replace hM : symM_K2 x1 x2 x3 o0 (symM fu) = some r := hM
        unfold symM_K2 at hM
        refine a_seq (ar (.cons (o_move rfl) <| .cons (o_move rfl) <| .cons (o_int rfl rfl rfl) <| .cons (o_conv_w rfl) <| .cons (o_shr rfl rfl (by decide)) <| .cons (o_conv_w rfl) <| .cons (o_assign rfl) <| .nil _) ?_)
        refine a_seq (ar (.cons (o_move rfl) <| .cons (o_move rfl) <| .cons (o_int rfl rfl rfl) <| .cons (o_assign rfl) <| .nil _) ?_)
        refine a_seq (ar (.cons (o_assign rfl) <| .cons (o_assign rfl) <| .nil _) ?_)
        refine a_cut (α := Int × Int) (fun s => ⟨[(0, .row 100000), (1, .int .i64 x1), (2, .int .i64 x2), (3, .int .i64 x3), (4, .val (.func (.func 157) #[] #[])), (18, .int .i64 (IntKind.wrap .i64 (Int.fdiv (IntKind.wrap .u64 (IntKind.wrap .i64 (x1 + x3))) (2 ^ min (Int.toNat 1) (IntKind.bits .u64))))), (19, .int .i64 (IntKind.wrap .i64 ((IntKind.wrap .i64 (Int.fdiv (IntKind.wrap .u64 (IntKind.wrap .i64 (x1 + x3))) (2 ^ min (Int.toNat 1) (IntKind.bits .u64)))) + x2))), (20, .int .i64 s.1), (21, .int .i64 s.2)], [(100000, some (.row 52 29 (List.map RRec.dv o0)))], [100000]⟩) (fun s => symM_K3 x1 x2 x3 o0 (symM fu) s.1 s.2 = some r) ?_ ?_
        · refine a_seq (ar (.cons (o_move rfl) <| .cons (o_move rfl) <| .cons (o_int rfl rfl rfl) <| .nil _) ?_)
          refine a_cond _ rfl (fun h27 => ?_) (fun h27 => ?_)
          · replace hM := (of_if hM).1 h27
            refine a_seq (ar (.cons (o_move rfl) <| .cons (o_move rfl) <| .cons (o_int rfl rfl rfl) <| .cons (o_assign rfl) <| .nil _) ?_)
            refine ar (.cons (o_move rfl) <| .cons (o_assign rfl) <| .nil _) ?_
            exact ⟨((IntKind.wrap .i64 ((IntKind.wrap .i64 ((IntKind.wrap .i64 (Int.fdiv (IntKind.wrap .u64 (IntKind.wrap .i64 (x1 + x3))) (2 ^ min (Int.toNat 1) (IntKind.bits .u64)))) + x2)) - x3)), (IntKind.wrap .i64 (Int.fdiv (IntKind.wrap .u64 (IntKind.wrap .i64 (x1 + x3))) (2 ^ min (Int.toNat 1) (IntKind.bits .u64))))), hM, (Imp.sh (fun i => i) rfl rfl rfl rfl rfl rfl)⟩
          · replace hM := (of_if hM).2 h27
            refine a_seq (ar (.cons (o_move rfl) <| .cons (o_assign rfl) <| .nil _) ?_)
            refine ar (.cons (o_move rfl) <| .cons (o_assign rfl) <| .nil _) ?_
            exact ⟨(x1, x2), hM, (Imp.sh (fun i => i) rfl rfl rfl rfl rfl rfl)⟩
        · rintro ⟨a1, a2⟩ hM
          replace hM : symM_K3 x1 x2 x3 o0 (symM fu) a1 a2 = some r := hM
          unfold symM_K3 at hM
          refine a_seq (ar (.cons (o_move rfl) <| .cons (o_int rfl rfl rfl) <| .cons (o_assign rfl) <| .nil _) ?_)
          refine a_cut (α := Int) (fun s => ⟨[(0, .row 100000), (1, .int .i64 x1), (2, .int .i64 x2), (3, .int .i64 x3), (4, .val (.func (.func 157) #[] #[])), (18, .int .i64 (IntKind.wrap .i64 (Int.fdiv (IntKind.wrap .u64 (IntKind.wrap .i64 (x1 + x3))) (2 ^ min (Int.toNat 1) (IntKind.bits .u64))))), (19, .int .i64 (IntKind.wrap .i64 ((IntKind.wrap .i64 (Int.fdiv (IntKind.wrap .u64 (IntKind.wrap .i64 (x1 + x3))) (2 ^ min (Int.toNat 1) (IntKind.bits .u64)))) + x2))), (20, .int .i64 s)], [(100000, some (.row 52 29 (List.map RRec.dv o0)))], [100000]⟩) (fun s => symM_K4 x1 x2 x3 o0 (symM fu) s = some r) ?_ ?_
          · obtain ⟨e17, hL17, hK17⟩ := of_bind hM
            refine a_block (a_while (fun s : Int × Int => ⟨[(0, .row 100000), (1, .int .i64 x1), (2, .int .i64 x2), (3, .int .i64 x3), (4, .val (.func (.func 157) #[] #[])), (18, .int .i64 (IntKind.wrap .i64 (Int.fdiv (IntKind.wrap .u64 (IntKind.wrap .i64 (x1 + x3))) (2 ^ min (Int.toNat 1) (IntKind.bits .u64))))), (19, .int .i64 (IntKind.wrap .i64 ((IntKind.wrap .i64 (Int.fdiv (IntKind.wrap .u64 (IntKind.wrap .i64 (x1 + x3))) (2 ^ min (Int.toNat 1) (IntKind.bits .u64)))) + x2))), (20, .int .i64 s.1), (21, .int .i64 s.2), (22, .int .i64 (IntKind.wrap .i64 ((IntKind.wrap .i64 ((IntKind.wrap .i64 (Int.fdiv (IntKind.wrap .u64 (IntKind.wrap .i64 (x1 + x3))) (2 ^ min (Int.toNat 1) (IntKind.bits .u64)))) + x2)) - 1)))], [(100000, some (.row 52 29 (List.map RRec.dv o0)))], [100000]⟩) _ hL17 (Imp.sh (fun i => i) rfl rfl rfl rfl rfl rfl) ?_)
            rintro ⟨a15, a16⟩ t18 hM hE17
            replace hM : symM_L7 x1 x2 x3 o0 a15 a16 = some t18 := hM
            unfold symM_L7 at hM
            refine a_seq (a_seq (ar (.cons (o_move rfl) <| .cons (o_move rfl) <| .cons (o_int rfl rfl rfl) <| .nil _) ?_))
            refine a_cond _ rfl (fun h19 => ?_) (fun h19 => ?_)
            · replace hM := (of_if hM).1 h19
              refine a_skip (a_block (a_seq (ar (.cons (o_move rfl) <| .cons (o_move rfl) <| .cons (o_int rfl rfl rfl) <| .cons (o_conv_w rfl) <| .cons (o_shr rfl rfl (by decide)) <| .cons (o_conv_w rfl) <| .cons (o_assign rfl) <| .nil _) ?_)))
              refine a_seq ?_
              obtain ⟨v21, h20, hM⟩ := of_bind hM
              obtain ⟨v23, h22, hM⟩ := of_bind hM
              obtain ⟨v25, h24, hM⟩ := of_bind hM
              refine ad mixed (.cons (o_move rfl) <| .cons (o_move rfl) <| .cons (o_move rfl) <| .cons (o_move rfl) <| .cons (o_int rfl rfl rfl) <| .cons (t_index_r h20 rfl rfl rfl) <| .cons (t_load_pr h20 rfl rfl rfl rfl rfl) <| .cons (o_move rfl) <| .cons (o_move rfl) <| .cons (t_index_r h22 rfl rfl rfl) <| .cons (t_load_pr h22 rfl rfl rfl rfl rfl) <| .cons (o_callF (collect_bySeq_c h24) rfl rfl (DLeL.refl _) rfl) <| .cons (o_int rfl rfl rfl) <| .cons (o_not rfl) <| .nil _) ?_
              refine a_cond _ rfl (fun h26 => ?_) (fun h26 => ?_)
              · replace hM := (of_if hM).1 h26
                refine ar (.cons (o_move rfl) <| .cons (o_int rfl rfl rfl) <| .cons (o_assign rfl) <| .nil _) ?_
                obtain rfl := Option.some.inj hM
                exact ⟨((IntKind.wrap .i64 ((IntKind.wrap .i64 (Int.fdiv (IntKind.wrap .u64 (IntKind.wrap .i64 (a15 + a16))) (2 ^ min (Int.toNat 1) (IntKind.bits .u64)))) + 1)), a16), rfl, (Imp.sh (fun i => i) rfl rfl rfl rfl rfl rfl)⟩
              · replace hM := (of_if hM).2 h26
                refine ar (.cons (o_move rfl) <| .cons (o_assign rfl) <| .nil _) ?_
                obtain rfl := Option.some.inj hM
                exact ⟨(a15, (IntKind.wrap .i64 (Int.fdiv (IntKind.wrap .u64 (IntKind.wrap .i64 (a15 + a16))) (2 ^ min (Int.toNat 1) (IntKind.bits .u64))))), rfl, (Imp.sh (fun i => i) rfl rfl rfl rfl rfl rfl)⟩
            · replace hM := (of_if hM).2 h19
              refine a_exit ?_
              obtain rfl := Option.some.inj hM
              obtain rfl := hE17 _ rfl
              exact ⟨a15, hK17, (Imp.sh (fun i => i) rfl rfl rfl rfl rfl rfl)⟩
          · rintro a3 hM
            replace hM : symM_K4 x1 x2 x3 o0 (symM fu) a3 = some r := hM
            unfold symM_K4 at hM
            refine a_seq (ar (.cons (o_move rfl) <| .cons (o_move rfl) <| .cons (o_int rfl rfl rfl) <| .cons (o_assign rfl) <| .nil _) ?_)
            refine a_cut (α := (List RRec)) (fun s => ⟨[(0, .row 100000), (1, .int .i64 x1), (3, .int .i64 x3), (4, .val (.func (.func 157) #[] #[])), (18, .int .i64 (IntKind.wrap .i64 (Int.fdiv (IntKind.wrap .u64 (IntKind.wrap .i64 (x1 + x3))) (2 ^ min (Int.toNat 1) (IntKind.bits .u64))))), (20, .int .i64 a3), (24, .int .i64 (IntKind.wrap .i64 ((IntKind.wrap .i64 ((IntKind.wrap .i64 (Int.fdiv (IntKind.wrap .u64 (IntKind.wrap .i64 (x1 + x3))) (2 ^ min (Int.toNat 1) (IntKind.bits .u64)))) + x2)) - a3)))], [(100000, some (.row 52 29 (List.map RRec.dv s)))], [100000]⟩) (fun s => symM_K5 x1 x2 x3 (symM fu) a3 s = some r) ?_ ?_
            · refine a_seq (ar (.cons (o_move rfl) <| .cons (o_move rfl) <| .cons (o_int rfl rfl rfl) <| .cons (o_move rfl) <| .cons (o_guardG .bT rfl rfl (fun hb => (.keep .nil)) (fun hb => o_move rfl)) <| .cons (o_guardG .bT rfl rfl (fun hb => (.keep .nil)) (fun hb => o_move rfl)) <| .cons (o_guardG .bT rfl rfl (fun hb => (.strip rfl hb (.strip rfl hb .nil))) (fun hb => o_int rfl rfl rfl)) <| .cons (o_and rfl rfl) <| .nil _) ?_)
              refine a_cond _ rfl (fun h12 => ?_) (fun h12 => ?_)
              · replace hM := (of_if hM).1 h12
                obtain ⟨v14, h13, hM⟩ := of_bind hM
                refine ar (.cons (o_move rfl) <| .cons (o_move rfl) <| .cons (o_move rfl) <| .cons (o_move rfl) <| .cons (o_move rfl) <| .cons (o_callN (fun i => bif Nat.beq i 100000 then 100000 else i) 1 (rotM_c h13) rfl (DLeL.refl _) (.cons rfl .nil) rfl .nil) <| .nil _) ?_
                exact ⟨v14, hM, (Imp.sh (fun i => i) rfl rfl rfl rfl rfl rfl)⟩
              · replace hM := (of_if hM).2 h12
                refine a_skip ?_
                exact ⟨o0, hM, (Imp.sh (fun i => i) rfl rfl rfl rfl rfl rfl)⟩
            · rintro a4 hM
              replace hM : symM_K5 x1 x2 x3 (symM fu) a3 a4 = some r := hM
              unfold symM_K5 at hM
              refine a_cut (α := (List RRec)) (fun s => ⟨[(0, .row 100000), (3, .int .i64 x3), (4, .val (.func (.func 157) #[] #[])), (18, .int .i64 (IntKind.wrap .i64 (Int.fdiv (IntKind.wrap .u64 (IntKind.wrap .i64 (x1 + x3))) (2 ^ min (Int.toNat 1) (IntKind.bits .u64))))), (24, .int .i64 (IntKind.wrap .i64 ((IntKind.wrap .i64 ((IntKind.wrap .i64 (Int.fdiv (IntKind.wrap .u64 (IntKind.wrap .i64 (x1 + x3))) (2 ^ min (Int.toNat 1) (IntKind.bits .u64)))) + x2)) - a3)))], [(100000, some (.row 52 29 (List.map RRec.dv s)))], [100000]⟩) (fun s => symM_K6 x1 x2 x3 (symM fu) a3 s = some r) ?_ ?_
              · refine a_seq (ar (.cons (o_move rfl) <| .cons (o_move rfl) <| .cons (o_int rfl rfl rfl) <| .cons (o_move rfl) <| .cons (o_guardG .bT rfl rfl (fun hb => (.keep .nil)) (fun hb => o_move rfl)) <| .cons (o_guardG .bT rfl rfl (fun hb => (.keep .nil)) (fun hb => o_move rfl)) <| .cons (o_guardG .bT rfl rfl (fun hb => (.strip rfl hb (.strip rfl hb .nil))) (fun hb => o_int rfl rfl rfl)) <| .cons (o_and rfl rfl) <| .nil _) ?_)
                refine a_cond _ rfl (fun h9 => ?_) (fun h9 => ?_)
                · replace hM := (of_if hM).1 h9
                  obtain ⟨v11, h10, hM⟩ := of_bind hM
                  refine ar (.cons (o_move rfl) <| .cons (o_move rfl) <| .cons (o_move rfl) <| .cons (o_move rfl) <| .cons (o_move rfl) <| .cons (o_callN (fun i => bif Nat.beq i 100000 then 100000 else i) 1 (ih h10) rfl (DLeL.refl _) (.cons rfl .nil) rfl .nil) <| .nil _) ?_
                  exact ⟨v11, hM, (Imp.sh (fun i => i) rfl rfl rfl rfl rfl rfl)⟩
                · replace hM := (of_if hM).2 h9
                  refine a_skip ?_
                  exact ⟨a4, hM, (Imp.sh (fun i => i) rfl rfl rfl rfl rfl rfl)⟩
              · rintro a5 hM
                replace hM : symM_K6 x1 x2 x3 (symM fu) a3 a5 = some r := hM
                unfold symM_K6 at hM
                refine a_seq (ar (.cons (o_move rfl) <| .cons (o_move rfl) <| .cons (o_int rfl rfl rfl) <| .cons (o_move rfl) <| .cons (o_guardG .bT rfl rfl (fun hb => (.keep .nil)) (fun hb => o_move rfl)) <| .cons (o_guardG .bT rfl rfl (fun hb => (.keep .nil)) (fun hb => o_move rfl)) <| .cons (o_guardG .bT rfl rfl (fun hb => (.strip rfl hb (.strip rfl hb .nil))) (fun hb => o_int rfl rfl rfl)) <| .cons (o_and rfl rfl) <| .nil _) ?_)
                refine a_cond _ rfl (fun h6 => ?_) (fun h6 => ?_)
                · replace hM := (of_if hM).1 h6
                  obtain ⟨v8, h7, hM⟩ := of_bind hM
                  refine ar (.cons (o_move rfl) <| .cons (o_move rfl) <| .cons (o_move rfl) <| .cons (o_move rfl) <| .cons (o_move rfl) <| .cons (o_callN (fun i => bif Nat.beq i 100000 then 100000 else i) 1 (ih h7) rfl (DLeL.refl _) (.cons rfl .nil) rfl .nil) <| .nil _) ?_
                  obtain rfl := Option.some.inj hM
                  refine n_imp (σ' := ⟨[], [(100000, some (.row 52 29 (List.map RRec.dv v8)))], [100000]⟩) (Imp.sh (fun i => i) rfl rfl rfl rfl rfl rfl) ?_
                  exact n_done (a_postN (.r0 ) (DLe.refl _) (PostOk.spec (.cons rfl .nil)))
                · replace hM := (of_if hM).2 h6
                  refine a_skip ?_
                  obtain rfl := Option.some.inj hM
                  refine n_imp (σ' := ⟨[], [(100000, some (.row 52 29 (List.map RRec.dv a5)))], [100000]⟩) (Imp.sh (fun i => i) rfl rfl rfl rfl rfl rfl) ?_
                  exact n_done (a_postN (.r0 ) (DLe.refl _) (PostOk.spec (.cons rfl .nil)))
def stabM_K2 (a5 : List RRec) : Option (List RRec) :=
  some a5
def stabM_K4 (x1 : Int) (a7 : Int) (a11 : List RRec) (a12 : Int) : Option (Ctl ((List RRec) × Int) (List RRec)) :=
  if (decide ((IntKind.wrap .i64 (a12 + a7)) < x1)) = true then
    (symM 64 a12 (IntKind.wrap .i64 (a12 + a7)) x1 a11).bind fun v15 =>
    some (.next (v15, (IntKind.wrap .i64 (a7 * 2))))
  else
    some (.next (a11, (IntKind.wrap .i64 (a7 * 2))))
def stabM_L5 (x1 : Int) (a7 : Int) (a16 : List RRec) (a17 : Int) (a18 : Int) : Option (Ctl ((List RRec) × Int × Int) ((List RRec) × Int)) :=
  if (decide (a18 ≤ x1)) = true then
    (symM 64 a17 (IntKind.wrap .i64 (a17 + a7)) a18 a16).bind fun v23 =>
    some (.next (v23, a18, (IntKind.wrap .i64 (a18 + (IntKind.wrap .i64 (2 * a7))))))
  else
    some (.done (a16, a17))
def stabM_L3 (x1 : Int) (a6 : List RRec) (a7 : Int) : Option (Ctl ((List RRec) × Int) (List RRec)) :=
  if (decide (a7 < x1)) = true then
    (whileM (E := (List RRec) × Int) (fun s => stabM_L5 x1 a7 s.1 s.2.1 s.2.2) (a6, 0, (IntKind.wrap .i64 (2 * a7)))).bind fun e => stabM_K4 x1 a7 e.1 e.2
  else
    some (.done a6)
def stabM_K1 (x1 : Int) (a1 : List RRec) (a2 : Int) : Option (List RRec) :=
  (insM a2 x1 a1).bind fun v4 =>
  (whileM (E := (List RRec)) (fun s => stabM_L3 x1 s.1 s.2) (v4, 20)).bind fun e => stabM_K2 e
def stabM_L6 (x1 : Int) (a24 : List RRec) (a25 : Int) (a26 : Int) : Option (Ctl ((List RRec) × Int × Int) ((List RRec) × Int)) :=
  if (decide (a26 ≤ x1)) = true then
    (insM a25 a26 a24).bind fun v31 =>
    some (.next (v31, a26, (IntKind.wrap .i64 (a26 + 20))))
  else
    some (.done (a24, a25))
def stabM (x1 : Int) (o0 : List RRec) : Option (List RRec) :=
  (whileM (E := (List RRec) × Int) (fun s => stabM_L6 x1 s.1 s.2.1 s.2.2) (o0, 0, 20)).bind fun e => stabM_K1 x1 e.1 e.2
theorem stabM_c {x1 : Int} {o0 : List RRec} {r : (List RRec)} (hM : stabM x1 o0 = some r) : ACall Tryz.prog 182 ⟨[.row 100000, .int .i64 x1, .val (.func (.func 157) #[] #[])], [(100000, some (.row 52 29 (List.map RRec.dv o0)))], .tup [], [(100000, some (.row 52 29 (List.map RRec.dv r)))], []⟩ := by
  unfold stabM at hM
  refine ACall.body Tryz.func182 Tryz.ntmps182 rfl rfl rfl rfl ?_
  refine a_end ?_
  refine a_seq (ar (.cons (o_assign rfl) <| .nil _) ?_)
  refine a_seq (ar (.cons (o_move rfl) <| .cons (o_assign rfl) <| .cons (o_assign rfl) <| .nil _) ?_)
  refine a_cut (α := (List RRec) × Int) (fun s => ⟨[(0, .row 100000), (1, .int .i64 x1), (2, .val (.func (.func 157) #[] #[])), (6, .int .i64 20), (7, .int .i64 s.2)], [(100000, some (.row 52 29 (List.map RRec.dv s.1)))], [100000]⟩) (fun s => stabM_K1 x1 s.1 s.2 = some r) ?_ ?_
  · obtain ⟨e27, hL27, hK27⟩ := of_bind hM
    refine a_block (a_while (fun s : (List RRec) × Int × Int => ⟨[(0, .row 100000), (1, .int .i64 x1), (2, .val (.func (.func 157) #[] #[])), (6, .int .i64 20), (7, .int .i64 s.2.1), (8, .int .i64 s.2.2)], [(100000, some (.row 52 29 (List.map RRec.dv s.1)))], [100000]⟩) _ hL27 (Imp.sh (fun i => i) rfl rfl rfl rfl rfl rfl) ?_)
    rintro ⟨a24, a25, a26⟩ t28 hM hE27
    replace hM : stabM_L6 x1 a24 a25 a26 = some t28 := hM
    unfold stabM_L6 at hM
    refine a_seq (a_seq (ar (.cons (o_move rfl) <| .cons (o_move rfl) <| .cons (o_int rfl rfl rfl) <| .nil _) ?_))
    refine a_cond _ rfl (fun h29 => ?_) (fun h29 => ?_)
    · replace hM := (of_if hM).1 h29
      refine a_skip (a_block (a_seq ?_))
      obtain ⟨v31, h30, hM⟩ := of_bind hM
      refine ar (.cons (o_move rfl) <| .cons (o_move rfl) <| .cons (o_move rfl) <| .cons (o_move rfl) <| .cons (o_callN (fun i => bif Nat.beq i 100000 then 100000 else i) 1 (insM_c h30) rfl (DLeL.refl _) (.cons rfl .nil) rfl .nil) <| .nil _) ?_
      refine a_seq (ar (.cons (o_move rfl) <| .cons (o_assign rfl) <| .nil _) ?_)
      refine ar (.cons (o_move rfl) <| .cons (o_move rfl) <| .cons (o_int rfl rfl rfl) <| .cons (o_assign rfl) <| .nil _) ?_
      obtain rfl := Option.some.inj hM
      exact ⟨(v31, a26, (IntKind.wrap .i64 (a26 + 20))), rfl, (Imp.sh (fun i => i) rfl rfl rfl rfl rfl rfl)⟩
    · replace hM := (of_if hM).2 h29
      refine a_exit ?_
      obtain rfl := Option.some.inj hM
      obtain rfl := hE27 _ rfl
      exact ⟨(a24, a25), hK27, (Imp.sh (fun i => i) rfl rfl rfl rfl rfl rfl)⟩
  · rintro ⟨a1, a2⟩ hM
    replace hM : stabM_K1 x1 a1 a2 = some r := hM
    unfold stabM_K1 at hM
    refine a_seq ?_
    obtain ⟨v4, h3, hM⟩ := of_bind hM
    refine ar (.cons (o_move rfl) <| .cons (o_move rfl) <| .cons (o_move rfl) <| .cons (o_move rfl) <| .cons (o_callN (fun i => bif Nat.beq i 100000 then 100000 else i) 1 (insM_c h3) rfl (DLeL.refl _) (.cons rfl .nil) rfl .nil) <| .nil _) ?_
    refine a_tail (α := (List RRec)) (fun s => ⟨[], [(100000, some (.row 52 29 (List.map RRec.dv s)))], [100000]⟩) (fun s => stabM_K2 s = some r) ?_ ?_
    · obtain ⟨e8, hL8, hK8⟩ := of_bind hM
      refine a_block (a_while (fun s : (List RRec) × Int => ⟨[(0, .row 100000), (1, .int .i64 x1), (2, .val (.func (.func 157) #[] #[])), (6, .int .i64 s.2)], [(100000, some (.row 52 29 (List.map RRec.dv s.1)))], [100000]⟩) _ hL8 (Imp.sh (fun i => i) rfl rfl rfl rfl rfl rfl) ?_)
      rintro ⟨a6, a7⟩ t9 hM hE8
      replace hM : stabM_L3 x1 a6 a7 = some t9 := hM
      unfold stabM_L3 at hM
      refine a_seq (a_seq (ar (.cons (o_move rfl) <| .cons (o_move rfl) <| .cons (o_int rfl rfl rfl) <| .nil _) ?_))
      refine a_cond _ rfl (fun h10 => ?_) (fun h10 => ?_)
      · replace hM := (of_if hM).1 h10
        refine a_skip (a_block (a_seq (ar (.cons (o_move rfl) <| .cons (o_int rfl rfl rfl) <| .cons (o_assign rfl) <| .cons (o_assign rfl) <| .nil _) ?_)))
        refine a_cut (α := (List RRec) × Int) (fun s => ⟨[(0, .row 100000), (1, .int .i64 x1), (2, .val (.func (.func 157) #[] #[])), (6, .int .i64 a7), (7, .int .i64 s.2)], [(100000, some (.row 52 29 (List.map RRec.dv s.1)))], [100000]⟩) (fun s => stabM_K4 x1 a7 s.1 s.2 = some t9) ?_ ?_
        · obtain ⟨e19, hL19, hK19⟩ := of_bind hM
          refine a_block (a_while (fun s : (List RRec) × Int × Int => ⟨[(0, .row 100000), (1, .int .i64 x1), (2, .val (.func (.func 157) #[] #[])), (6, .int .i64 a7), (7, .int .i64 s.2.1), (8, .int .i64 s.2.2)], [(100000, some (.row 52 29 (List.map RRec.dv s.1)))], [100000]⟩) _ hL19 (Imp.sh (fun i => i) rfl rfl rfl rfl rfl rfl) ?_)
          rintro ⟨a16, a17, a18⟩ t20 hM hE19
          replace hM : stabM_L5 x1 a7 a16 a17 a18 = some t20 := hM
          unfold stabM_L5 at hM
          refine a_seq (a_seq (ar (.cons (o_move rfl) <| .cons (o_move rfl) <| .cons (o_int rfl rfl rfl) <| .nil _) ?_))
          refine a_cond _ rfl (fun h21 => ?_) (fun h21 => ?_)
          · replace hM := (of_if hM).1 h21
            refine a_skip (a_block (a_seq ?_))
            obtain ⟨v23, h22, hM⟩ := of_bind hM
            refine ar (.cons (o_move rfl) <| .cons (o_move rfl) <| .cons (o_move rfl) <| .cons (o_move rfl) <| .cons (o_int rfl rfl rfl) <| .cons (o_move rfl) <| .cons (o_move rfl) <| .cons (o_callN (fun i => bif Nat.beq i 100000 then 100000 else i) 1 (symM_c 64 h22) rfl (DLeL.refl _) (.cons rfl .nil) rfl .nil) <| .nil _) ?_
            refine a_seq (ar (.cons (o_move rfl) <| .cons (o_assign rfl) <| .nil _) ?_)
            refine ar (.cons (o_move rfl) <| .cons (o_move rfl) <| .cons (o_int rfl rfl rfl) <| .cons (o_int rfl rfl rfl) <| .cons (o_assign rfl) <| .nil _) ?_
            obtain rfl := Option.some.inj hM
            exact ⟨(v23, a18, (IntKind.wrap .i64 (a18 + (IntKind.wrap .i64 (2 * a7))))), rfl, (Imp.sh (fun i => i) rfl rfl rfl rfl rfl rfl)⟩
          · replace hM := (of_if hM).2 h21
            refine a_exit ?_
            obtain rfl := Option.some.inj hM
            obtain rfl := hE19 _ rfl
            exact ⟨(a16, a17), hK19, (Imp.sh (fun i => i) rfl rfl rfl rfl rfl rfl)⟩
        · rintro ⟨a11, a12⟩ hM
          replace hM : stabM_K4 x1 a7 a11 a12 = some t9 := hM
          unfold stabM_K4 at hM
          refine a_seq (a_seq (ar (.cons (o_move rfl) <| .cons (o_move rfl) <| .cons (o_int rfl rfl rfl) <| .cons (o_assign rfl) <| .nil _) ?_))
          refine a_seq (ar (.cons (o_move rfl) <| .cons (o_move rfl) <| .cons (o_int rfl rfl rfl) <| .nil _) ?_)
          refine a_cond _ rfl (fun h13 => ?_) (fun h13 => ?_)
          · replace hM := (of_if hM).1 h13
            obtain ⟨v15, h14, hM⟩ := of_bind hM
            refine ar (.cons (o_move rfl) <| .cons (o_move rfl) <| .cons (o_move rfl) <| .cons (o_move rfl) <| .cons (o_move rfl) <| .cons (o_callN (fun i => bif Nat.beq i 100000 then 100000 else i) 1 (symM_c 64 h14) rfl (DLeL.refl _) (.cons rfl .nil) rfl .nil) <| .nil _) ?_
            refine ar (.cons (o_move rfl) <| .cons (o_int rfl rfl rfl) <| .cons (o_assign rfl) <| .nil _) ?_
            obtain rfl := Option.some.inj hM
            exact ⟨(v15, (IntKind.wrap .i64 (a7 * 2))), rfl, (Imp.sh (fun i => i) rfl rfl rfl rfl rfl rfl)⟩
          · replace hM := (of_if hM).2 h13
            refine a_skip (ar (.cons (o_move rfl) <| .cons (o_int rfl rfl rfl) <| .cons (o_assign rfl) <| .nil _) ?_)
            obtain rfl := Option.some.inj hM
            exact ⟨(a11, (IntKind.wrap .i64 (a7 * 2))), rfl, (Imp.sh (fun i => i) rfl rfl rfl rfl rfl rfl)⟩
      · replace hM := (of_if hM).2 h10
        refine a_exit ?_
        obtain rfl := Option.some.inj hM
        obtain rfl := hE8 _ rfl
        exact ⟨a6, hK8, (Imp.sh (fun i => i) rfl rfl rfl rfl rfl rfl)⟩
    · rintro a5 hM
      replace hM : stabM_K2 a5 = some r := hM
      unfold stabM_K2 at hM
      obtain rfl := Option.some.inj hM
      refine n_imp (σ' := ⟨[], [(100000, some (.row 52 29 (List.map RRec.dv a5)))], [100000]⟩) (Imp.sh (fun i => i) rfl rfl rfl rfl rfl rfl) ?_
      exact n_done (a_postN (.r0 ) (DLe.refl _) (PostOk.spec (.cons rfl .nil)))
def sortM (o0 : List RRec) : Option (List RRec) :=
  (stabM (List.length o0 : Int) o0).bind fun v2 =>
  some v2
theorem sortM_c {o0 : List RRec} {r : (List RRec)} (hM : sortM o0 = some r) : ACall Tryz.prog 156 ⟨[.row 100000, .val (.func (.func 157) #[] #[])], [(100000, some (.row 52 29 (List.map RRec.dv o0)))], .tup [], [(100000, some (.row 52 29 (List.map RRec.dv r)))], []⟩ := by
  unfold sortM at hM
  refine ACall.body Tryz.func156 Tryz.ntmps156 rfl rfl rfl rfl ?_
  refine a_end ?_
  obtain ⟨v2, h1, hM⟩ := of_bind hM
  refine ar (.cons (o_move rfl) <| .cons (o_move rfl) <| .cons (t_len_r rfl rfl) <| .cons (o_move rfl) <| .cons (o_callN (fun i => bif Nat.beq i 100000 then 100000 else i) 1 (stabM_c h1) rfl (DLeL.refl _) (.cons rfl .nil) rfl .nil) <| .nil _) ?_
  obtain rfl := Option.some.inj hM
  refine n_imp (σ' := ⟨[], [(100000, some (.row 52 29 (List.map RRec.dv v2)))], [100000]⟩) (Imp.sh (fun i => i) rfl rfl rfl rfl rfl rfl) ?_
  exact n_done (a_postN (.r0 ) (DLe.refl _) (PostOk.spec (.cons rfl .nil)))
def collect_mergeEntries_K1 (a5 : List RRec) (a6 : Int) : Option ((List RRec) × Bool) :=
  chk (slOk (List.length a5) 0 a6) <|
  some ((List.take (Int.toNat a6) a5), true)
def collect_mergeEntries_L2 (k8 : Nat) (a9 : List RRec) (a10 : Int) : Option (Ctl ((List RRec) × Int) ((List RRec) × Bool)) :=
  (idx a9 (k8 : Int)).bind fun v15 =>
  (gb (decide (0 < (k8 : Int))) (RRec.mk 0 0 (VClk.mk (arr 0 [])) 0 (AEv.mk 0 0 0 0 0 0 0 0 []) 0) (idx a9 (IntKind.wrap .i64 (a10 - 1)))).bind fun v17 =>
  if ((decide (0 < (k8 : Int))) && (v17.gSeq == v15.gSeq)) = true then
    (idx a9 (IntKind.wrap .i64 (a10 - 1))).bind fun v20 =>
    (record_Equal v20 v15).bind fun v22 =>
    if (!v22) = true then
      some (.done (([] : List RRec), false))
    else
      some (.next (a9, a10))
  else
    (idx a9 a10).bind fun v25 =>
    some (.next ((List.set a9 (Int.toNat a10) v15), (IntKind.wrap .i64 (a10 + 1))))
def collect_mergeEntries (x0 : List RRec) (x1 : List RRec) : Option ((List RRec) × Bool) :=
  (catR [x0, x1]).bind fun v2 =>
  (sortM v2).bind fun v4 =>
  (forM' (E := (List RRec) × Bool) 9223372036854775807 (List.length v4 : Int) (fun k8 s => collect_mergeEntries_L2 k8 s.1 s.2) (v4, 0)).bind fun
    | .next s => collect_mergeEntries_K1 s.1 s.2
    | .done r => some r
theorem collect_mergeEntries_c {x0 : List RRec} {x1 : List RRec} {r : (List RRec) × Bool} (hM : collect_mergeEntries x0 x1 = some r) : PCall Tryz.prog 121 [.sl 29 (List.map RRec.dv x0), .sl 29 (List.map RRec.dv x1)] (.tup [.sl 29 (List.map RRec.dv r.1), .bool r.2]) := by
  unfold collect_mergeEntries at hM
  refine PCall.body Tryz.func121 Tryz.ntmps121 rfl rfl rfl rfl ?_
  refine a_seq (ar (.cons (o_assign rfl) <| .cons (o_assign rfl) <| .nil _) ?_)
  refine a_seq ?_
  obtain ⟨v2, h1, hM⟩ := of_bind hM
  refine ar (.cons (o_move rfl) <| .cons (o_move rfl) <| .cons (o_frz (t_build (encSl 29 RRec.dv) ([x0, x1] : List (List RRec)) rfl rfl rfl rfl rfl rfl rfl)) <| .cons (o_callN (fun i => bif Nat.beq i 50000 then 13 else i) 1 (catR_c h1) rfl (DLeL.refl _) .nil rfl .nil) <| .cons (o_assign rfl) <| .nil _) ?_
  refine a_seq ?_
  obtain ⟨v4, h3, hM⟩ := of_bind hM
  refine ar (.cons (o_move rfl) <| .cons (o_callN (fun i => bif Nat.beq i 100000 then 13 else i) 1 (sortM_c h3) rfl (DLeL.refl _) (.cons rfl .nil) rfl .nil) <| .nil _) ?_
  refine a_seq (ar (.cons (o_assign rfl) <| .nil _) ?_)
  refine a_cut (α := (List RRec) × Int) (fun s => ⟨[(6, .sl 29 (List.map RRec.dv s.1)), (7, .int .i64 s.2)], [], []⟩) (fun s => collect_mergeEntries_K1 s.1 s.2 = some r) ?_ ?_
  · refine a_seq (ar (.cons (o_move rfl) <| .cons (t_len_r rfl rfl) <| .cons (o_move rfl) <| .nil _) ?_)
    obtain ⟨t11, hL11, hK11⟩ := of_bind hM
    refine a_block ?_
    refine a_for (fun k8 (s : (List RRec) × Int) => ⟨[(6, .row 10001), (7, .int .i64 s.2), (16, .row 10001), (17, .int .i64 (List.length v4 : Int)), (18, .int .i64 (k8 : Int))], [(10001, some (.row 52 29 (List.map RRec.dv s.1)))], [10001]⟩) _ hL11 (Imp.sh (fun i => bif Nat.beq i 10001 then 13 else i) rfl rfl rfl rfl rfl rfl) ?_ ?_
    · rintro k8 ⟨a9, a10⟩ t12 hk8 hx8 hM hE11
      replace hM : collect_mergeEntries_L2 k8 a9 a10 = some t12 := hM
      unfold collect_mergeEntries_L2 at hM
      refine a_seq (ar (.cons (o_int rfl rfl rfl) <| .nil _) ?_)
      refine a_seq ?_
      refine a_cond _ rfl (fun _ => ?_) (fun c => absurd hk8 (of_decide_eq_false c))
      refine a_skip (a_seq (a_block (a_seq ?_)))
      obtain ⟨v15, h14, hM⟩ := of_bind hM
      refine ar (.cons (o_move rfl) <| .cons (t_index_r h14 rfl rfl rfl) <| .cons (t_load_pr h14 rfl rfl rfl rfl rfl) <| .cons (o_alloc rfl) <| .cons (o_assign rfl) <| .cons (o_store rfl rfl rfl rfl rfl rfl rfl) <| .nil _) ?_
      refine a_seq (a_seq ?_)
      obtain ⟨v17, h16, hM⟩ := of_bind hM
      refine ad mixed (.cons (o_move rfl) <| .cons (o_int rfl rfl rfl) <| .cons (o_move rfl) <| .cons (o_guardG .bT rfl rfl (fun hb => (.keep .nil)) (fun hb => o_move rfl)) <| .cons (o_guardG .bT rfl rfl (fun hb => (.keep .nil)) (fun hb => o_move rfl)) <| .cons (o_guardG .bT rfl rfl (fun hb => (.strip rfl hb .nil)) (fun hb => o_int rfl rfl rfl)) <| .cons (o_guardG .bT rfl rfl (fun hb => (.strip rfl hb (.strip rfl hb .nil))) (fun hb => t_index_r (of_gb h16 hb) rfl rfl rfl)) <| .cons (o_guardG .bT rfl rfl (fun hb => (.strip rfl hb .nil)) (fun hb => o_fieldAddr_p rfl)) <| .cons (o_guardG .bT rfl rfl (fun hb => (.strip rfl hb .nil)) (fun hb => t_load_ps (of_gb h16 hb) rfl rfl rfl rfl)) <| .cons (o_guardG .bT rfl rfl (fun hb => (.keep .nil)) (fun hb => o_fieldAddr rfl)) <| .cons (o_guardG .bT rfl rfl (fun hb => (.strip rfl hb .nil)) (fun hb => o_load_s rfl rfl rfl)) <| .cons (o_guardG .bT rfl rfl (fun hb => (.strip rfl hb (.strip rfl hb .nil))) (fun hb => o_int rfl rfl rfl)) <| .cons (o_and rfl rfl) <| .nil _) ?_
      refine a_cond _ rfl (fun h18 => ?_) (fun h18 => ?_)
      · replace hM := (of_if hM).1 h18
        refine a_seq (a_seq ?_)
        obtain ⟨v20, h19, hM⟩ := of_bind hM
        obtain ⟨v22, h21, hM⟩ := of_bind hM
        refine ad mixed (.cons (o_move rfl) <| .cons (o_move rfl) <| .cons (o_int rfl rfl rfl) <| .cons (t_index_r h19 rfl rfl rfl) <| .cons (t_load_pr h19 rfl rfl rfl rfl rfl) <| .cons (o_load_r rfl rfl rfl rfl) <| .cons (o_call (record_Equal_c h21) rfl (DLeL.refl _) rfl) <| .cons (o_not rfl) <| .nil _) ?_
        refine a_cond _ rfl (fun h23 => ?_) (fun h23 => ?_)
        · replace hM := (of_if hM).1 h23
          refine a_seq (ar (.cons (o_assign rfl) <| .cons (o_assign rfl) <| .nil _) ?_)
          obtain rfl := Option.some.inj hM
          obtain rfl := hE11 _ rfl
          obtain rfl := Option.some.inj hK11
          exact a_ret (a_post (.r2 (.tmp rfl) (.tmp rfl)) (DLe.tup (.cons (DLe.nils _) (.cons (DLe.refl _) .nil))) PostOk.nil.spec)
        · replace hM := (of_if hM).2 h23
          refine a_skip (a_exit (ar (.cons (o_add rfl rfl (inR_i64 hk8 hx8)) <| .cons (o_move rfl) <| .nil _) ?_))
          obtain rfl := Option.some.inj hM
          exact ⟨(a9, a10), rfl, (Imp.of (fun i => i) (.cons rfl (DLe.refl _) (.cons rfl (DLe.refl _) (.cons rfl (DLe.refl _) (.cons rfl (DLe.refl _) (.cons rfl (DLe.succ _ _) .nil))))) (.cons rfl (.refl _) .nil) rfl rfl rfl)⟩
      · replace hM := (of_if hM).2 h18
        refine a_skip (a_seq ?_)
        obtain ⟨v25, h24, hM⟩ := of_bind hM
        refine ar (.cons (o_move rfl) <| .cons (o_move rfl) <| .cons (o_load_r rfl rfl rfl rfl) <| .cons (t_index_r h24 rfl rfl rfl) <| .cons (t_store_p v15 h24 rfl rfl rfl rfl rfl rfl rfl rfl rfl rfl rfl) <| .nil _) ?_
        refine ar (.cons (o_move rfl) <| .cons (o_int rfl rfl rfl) <| .cons (o_assign rfl) <| .nil _) ?_
        refine ar (.cons (o_add rfl rfl (inR_i64 hk8 hx8)) <| .cons (o_move rfl) <| .nil _) ?_
        obtain rfl := Option.some.inj hM
        exact ⟨((List.set a9 (Int.toNat a10) v15), (IntKind.wrap .i64 (a10 + 1))), rfl, (Imp.of (fun i => i) (.cons rfl (DLe.refl _) (.cons rfl (DLe.refl _) (.cons rfl (DLe.refl _) (.cons rfl (DLe.refl _) (.cons rfl (DLe.succ _ _) .nil))))) (.cons rfl (.refl _) .nil) rfl rfl rfl)⟩
    · rintro k8 ⟨a9, a10⟩ hk8 hx8 rfl
      refine a_seq (ar (.cons (o_int rfl rfl rfl) <| .nil _) ?_)
      refine a_seq ?_
      refine a_cond _ rfl (fun c => absurd (of_decide_eq_true c) (Int.not_lt.2 hk8)) (fun _ => ?_)
      refine a_exit ?_
      exact ⟨(a9, a10), hK11, ((Imp.freeze (id := 10001) rfl).trans (Imp.sh (fun i => i) rfl rfl rfl rfl rfl rfl))⟩
  · rintro ⟨a5, a6⟩ hM
    replace hM : collect_mergeEntries_K1 a5 a6 = some r := hM
    unfold collect_mergeEntries_K1 at hM
    refine a_seq ?_
    obtain ⟨h7, hM⟩ := of_chk hM
    refine ar (.cons (o_move rfl) <| .cons (o_move rfl) <| .cons (t_slice_h h7 rfl rfl) <| .cons (o_assign rfl) <| .cons (o_assign rfl) <| .nil _) ?_
    obtain rfl := Option.some.inj hM
    exact a_ret (a_post (.r2 (.tmp rfl) (.tmp rfl)) (DLe.refl _) PostOk.nil.spec)
end Go.Proofs.YtepkcbalmjnhpaaGreat
set_option linter.unusedVariables false
set_option linter.unusedSimpArgs false
namespace Go.Proofs.YtepkcbalmjnhpaaGreat
theorem foldGo_spec {S : Type} {body : Nat → S → Option S} (f : Nat → S) : ∀ (m k : Nat), (∀ j, k ≤ j → j < k + m → body j (f j) = some (f (j + 1))) → foldGo body m k (f k) = some (f (k + m))
  | 0, k, _ => rfl
  | m + 1, k, h => by
    unfold foldGo
    rw [h k (Nat.le_refl _) (by omega), Option.bind_some, foldGo_spec f m (k + 1) (fun j h1 h2 => h j (by omega) (by omega)), show k + 1 + m = k + (m + 1) by omega]
theorem foldM_spec {S : Type} {mx n : Int} {body : Nat → S → Option S} {s0 : S} (N : Nat) (f : Nat → S) (h0 : f 0 = s0) (hn : n = (N : Int)) (hx : n ≤ mx) (h : ∀ j, j < N → body j (f j) = some (f (j + 1))) : foldM' mx n body s0 = some (f N) := by
  unfold foldM'
  rw [chk_pos hx, ← h0, hn, Int.toNat_natCast, foldGo_spec f N 0 (fun j _ h2 => h j (by omega)), Nat.zero_add]
theorem forGo_next {S E : Type} {body : Nat → S → Option (Ctl S E)} (f : Nat → S) : ∀ (m k : Nat), (∀ j, k ≤ j → j < k + m → body j (f j) = some (.next (f (j + 1)))) → forGo body m k (f k) = some (.next (f (k + m)))
  | 0, k, _ => rfl
  | m + 1, k, h => by
    unfold forGo
    rw [h k (Nat.le_refl _) (by omega)]
    show forGo body m (k + 1) (f (k + 1)) = _
    rw [forGo_next f m (k + 1) (fun j h1 h2 => h j (by omega) (by omega)), show k + 1 + m = k + (m + 1) by omega]
theorem forM_next {S E : Type} {mx n : Int} {body : Nat → S → Option (Ctl S E)} {s0 : S} (N : Nat) (f : Nat → S) (h0 : f 0 = s0) (hn : n = (N : Int)) (hx : n ≤ mx) (h : ∀ j, j < N → body j (f j) = some (.next (f (j + 1)))) : forM' mx n body s0 = some (.next (f N)) := by
  unfold forM'
  rw [chk_pos hx, ← h0, hn, Int.toNat_natCast, forGo_next f N 0 (fun j _ h2 => h j (by omega)), Nat.zero_add]
theorem forGo_done {S E : Type} {body : Nat → S → Option (Ctl S E)} (f : Nat → S) (e : E) : ∀ (i m k : Nat), i < m → (∀ j, k ≤ j → j < k + i → body j (f j) = some (.next (f (j + 1)))) → body (k + i) (f (k + i)) = some (.done e) → forGo body m k (f k) = some (.done e)
  | i, 0, k, hi, _, _ => by omega
  | 0, m + 1, k, _, _, he => by
    unfold forGo
    rw [Nat.add_zero] at he
    rw [he]; rfl
  | i + 1, m + 1, k, hi, h, he => by
    unfold forGo
    rw [h k (Nat.le_refl _) (by omega)]
    show forGo body m (k + 1) (f (k + 1)) = _
    exact forGo_done f e i m (k + 1) (by omega) (fun j h1 h2 => h j (by omega) (by omega)) (by rw [show k + 1 + i = k + (i + 1) by omega]; exact he)
theorem whileGo_spec {S E : Type} {step : S → Option (Ctl S E)} (f : Nat → S) (e : E) : ∀ (m k n : Nat), m < n → (∀ j, k ≤ j → j < k + m → step (f j) = some (.next (f (j + 1)))) → step (f (k + m)) = some (.done e) → whileGo step n (f k) = some e
  | m, k, 0, hn, _, _ => by omega
  | 0, k, n + 1, _, _, he => by
    unfold whileGo
    rw [Nat.add_zero] at he
    rw [he]; rfl
  | m + 1, k, n + 1, hn, h, he => by
    unfold whileGo
    rw [h k (Nat.le_refl _) (by omega)]
    show whileGo step n (f (k + 1)) = _
    exact whileGo_spec f e m (k + 1) n (by omega) (fun j h1 h2 => h j (by omega) (by omega)) (by rw [show k + 1 + m = k + (m + 1) by omega]; exact he)
theorem whileM_spec {S E : Type} {step : S → Option (Ctl S E)} {s0 : S} {e : E} (m : Nat) (f : Nat → S) (h0 : f 0 = s0) (hm : m < 1180591620717411303424) (h : ∀ j, j < m → step (f j) = some (.next (f (j + 1)))) (he : step (f m) = some (.done e)) : whileM step s0 = some e := by
  unfold whileM
  rw [← h0]
  exact whileGo_spec f e m 0 _ hm (fun j _ h2 => h j (by omega)) (by rw [Nat.zero_add]; exact he)
theorem whileM_ind {S E : Type} {step : S → Option (Ctl S E)} {s0 : S} (I : S → Prop) (μ : S → Nat) (Q : E → Prop) (hI : I s0) (hb : μ s0 < 1180591620717411303424)
    (h : ∀ s, I s → (∃ s', step s = some (.next s') ∧ I s' ∧ μ s' < μ s) ∨ (∃ e, step s = some (.done e) ∧ Q e)) : ∃ e, whileM step s0 = some e ∧ Q e := by
  unfold whileM
  have : ∀ n s, I s → μ s < n → ∃ e, whileGo step n s = some e ∧ Q e := by
    intro n
    induction n with
    | zero => intro s _ h; omega
    | succ n ih =>
      intro s hs hm
      rcases h s hs with ⟨s', h1, h2, h3⟩ | ⟨e, h1, h2⟩
      · obtain ⟨e, k1, k2⟩ := ih s' h2 (by omega)
        refine ⟨e, ?_, k2⟩
        unfold whileGo
        rw [h1]; exact k1
      · refine ⟨e, ?_, h2⟩
        unfold whileGo
        rw [h1]; rfl
  exact this _ s0 hI hb
theorem forM_ind {S E : Type} {mx n : Int} {body : Nat → S → Option (Ctl S E)} {s0 : S} (I : Nat → S → Prop) (Q : Ctl S E → Prop) (hx : n ≤ mx) (hn : 0 ≤ n) (hI : I 0 s0)
    (h : ∀ (k : Nat) s, (k : Int) < n → I k s → (∃ s', body k s = some (.next s') ∧ I (k + 1) s') ∨ (∃ e, body k s = some (.done e) ∧ Q (.done e))) (hq : ∀ s, I n.toNat s → Q (.next s)) : ∃ t, forM' mx n body s0 = some t ∧ Q t := by
  unfold forM'
  rw [chk_pos hx]
  have : ∀ m k s, m + k = n.toNat → I k s → ∃ t, forGo body m k s = some t ∧ Q t := by
    intro m
    induction m with
    | zero => intro k s hk hs; exact ⟨_, rfl, hq s (by rw [← hk, Nat.zero_add]; exact hs)⟩
    | succ m ih =>
      intro k s hk hs
      rcases h k s (by omega) hs with ⟨s', h1, h2⟩ | ⟨e, h1, h2⟩
      · obtain ⟨t, k1, k2⟩ := ih (k + 1) s' (by omega) h2
        refine ⟨t, ?_, k2⟩
        unfold forGo
        rw [h1]; exact k1
      · refine ⟨_, ?_, h2⟩
        unfold forGo
        rw [h1]; rfl
  exact this n.toNat 0 s0 (by omega) hI
theorem wrap_i64 {n : Int} (h1 : -9223372036854775808 ≤ n) (h2 : n ≤ 9223372036854775807) : IntKind.wrap .i64 n = n := wrap_in (k := .i64) ⟨h1, h2⟩
theorem wrap_u64 {n : Int} (h1 : 0 ≤ n) (h2 : n ≤ 18446744073709551615) : IntKind.wrap .u64 n = n := wrap_in (k := .u64) ⟨h1, h2⟩
end Go.Proofs.YtepkcbalmjnhpaaGreat
set_option maxRecDepth 100000
set_option linter.unusedVariables false
namespace Go.Proofs.YtepkcbalmjnhpaaGreat
open Go.RowKit
instance : CEq Tryz.prog 43 [.int .u64, .int .u64, .int .u64, .int .u64, .int .u64, .int .u64, .int .u64, .int .u64, .int .u64, .int .u64, .int .u64, .int .u64, .int .u64, .int .u64, .int .u64, .int .u64] := CEq.array (e := 42) (m := 16) (g := .int .u64) (by kernel_rfl) (by kernel_rfl) (by kernel_rfl) (by kernel_rfl) (by kernel_rfl)
instance : CEq Tryz.prog 56 [.int .i64, .int .i64, .int .i64, .int .i64] := CEq.struct (by kernel_rfl) (by kernel_rfl) (by kernel_rfl)
instance : CEq Tryz.prog 80 [.int .u64, .int .u64] := CEq.array (e := 42) (m := 2) (g := .int .u64) (by kernel_rfl) (by kernel_rfl) (by kernel_rfl) (by kernel_rfl) (by kernel_rfl)
instance : CEq Tryz.prog 85 [.int .i64, .int .u64, .int .u64, .bool, .int .i64, .int .i64] := CEq.struct (by kernel_rfl) (by kernel_rfl) (by kernel_rfl)
instance : CEq Tryz.prog 97 [.int .u16, .int .u16] := CEq.array (e := 34) (m := 2) (g := .int .u16) (by kernel_rfl) (by kernel_rfl) (by kernel_rfl) (by kernel_rfl) (by kernel_rfl)
instance : CEq Tryz.prog 102 [.int .i64, .int .u64] := CEq.struct (by kernel_rfl) (by kernel_rfl) (by kernel_rfl)
instance : CEq Tryz.prog 117 [.int .u8, .int .u8, .int .u8, .int .u8] := CEq.struct (by kernel_rfl) (by kernel_rfl) (by kernel_rfl)
instance : CEq Tryz.prog 146 [.int .u64, .int .u64] := CEq.struct (by kernel_rfl) (by kernel_rfl) (by kernel_rfl)
instance : CEq Tryz.prog 157 [.int .i64, .int .i64] := CEq.array (e := 3) (m := 2) (g := .int .i64) (by kernel_rfl) (by kernel_rfl) (by kernel_rfl) (by kernel_rfl) (by kernel_rfl)
instance : CEq Tryz.prog 160 [.int .i64, .int .u64, .int .u64, .bool, .int .i64, .int .i64] := CEq.struct (by kernel_rfl) (by kernel_rfl) (by kernel_rfl)
instance : CEq Tryz.prog 171 [.int .i64, .int .i64] := CEq.struct (by kernel_rfl) (by kernel_rfl) (by kernel_rfl)
instance : CEq Tryz.prog 177 [.int .i64, .int .i64, .int .i64] := CEq.struct (by kernel_rfl) (by kernel_rfl) (by kernel_rfl)
instance : CEq Tryz.prog 203 [.int .i64, .int .i64, .int .i64, .int .i64, .int .i64, .int .i64] := CEq.array (e := 3) (m := 6) (g := .int .i64) (by kernel_rfl) (by kernel_rfl) (by kernel_rfl) (by kernel_rfl) (by kernel_rfl)
instance : CEq Tryz.prog 288 [.int .u8, .int .u8, .int .u8, .int .u8, .int .u8] := CEq.array (e := 286) (m := 5) (g := .int .u8) (by kernel_rfl) (by kernel_rfl) (by kernel_rfl) (by kernel_rfl) (by kernel_rfl)
end Go.Proofs.YtepkcbalmjnhpaaGreat
