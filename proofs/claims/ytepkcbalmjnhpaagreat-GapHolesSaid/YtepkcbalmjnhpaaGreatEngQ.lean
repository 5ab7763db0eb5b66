/-
  The engine, more rules: slices of an array in a block, and an append of their cells.
-/
import Derived.Test.YtepkcbalmjnhpaaGreatEngP
set_option linter.unusedVariables false
set_option linter.unusedSimpArgs false
namespace Go.Proofs.YtepkcbalmjnhpaaGreat
open Go.RowKit
section
variable {P : Program} {ops : Array Oper} {σ : AS} {t : Nat} {ty : TypeId} {pos : String} {af : Array Edge}
theorem o_slice_a {T n e sz : Nat} [hT : CArr P T n e sz] {x y : Operand} {id off : Nat} {k : IntKind} {m : Int} (h : Nat) (hx : ev σ.env x = some (.ref id off)) (hy : ev σ.env y = some (.int k m)) (hm : m = (h : Int)) (hh : h ≤ n) :
    OpG P ops ⟨some t, .slice T x none (some y) none, ty, pos, af, none⟩ (tm x ++ tm y) [] σ ⟨[(t, .bsl id off h)], [], []⟩ :=
  OpG.val rfl rfl fun C F γ σ' a w hag _ hs => by
    obtain ⟨k1, k2⟩ := ev2 hs hag hx hy
    simp only [Rs] at k1 k2
    obtain ⟨b, hg, e⟩ := k1
    subst hm
    refine ⟨.slice (some ⟨b, off, none⟩) h n, ?_, by simp only [Rs]; exact ⟨b, n, hg, rfl, hh⟩⟩
    have hb : (Instr.sliceBounds false n n none (some (.int k (h : Int))) none).run P w = .ok (0, h, n) w := by
      simp [Instr.sliceBounds, run_bound hh]
    simp [execOp, Instr.sliceAt, e, k2, run_underlying hT.u, Instr.sureAddr, hb, hT.size, Addr.add]
theorem rse_ints {F : FMap} (k : IntKind) : ∀ (l : List Int), RsE F 1 (l.map (DV.int k)) (l.map (Value.int k))
  | [] => by simp [RsE]
  | x :: l => by
    simp only [List.map_cons, RsE]
    exact ⟨.int k x, l.map (Value.int k), by simp [Value.cells], rfl, by simp [Value.cells, Value.oneCell'], by simp only [Rs], rse_ints k l⟩
theorem rsl_vals {F : FMap} {γ : Gam} (k : IntKind) : ∀ {l : List Int} {vs : List Value}, RsL F γ (l.map (DV.int k)) vs → vs = l.map (Value.int k)
  | [], vs, h => by simp only [List.map_nil, RsL] at h; rw [h]; rfl
  | x :: l, vs, h => by
    simp only [List.map_cons, RsL] at h
    obtain ⟨v, rest, rfl, _, h1, h2⟩ := h
    simp only [Rs] at h1
    rw [h1, rsl_vals k h2]; rfl
/-- append of an array's cells onto nil -/
theorem o_append_nb {T e : TypeId} {bytes : Nat} {zd : DV} [hT : CSl P T e 1 bytes zd] {x y : Operand} {id off n T' : Nat} {ds : List DV} {k : IntKind} {xs : List Int} (hx : ev σ.env x = some .nils) (hy : ev σ.env y = some (.bsl id off n)) (hh : hget σ.heap id = some (.blk T' ds)) (hn : n = xs.length) (hd : (ds.drop off).take n = xs.map (.int k)) (hb : xs.length * bytes ≤ 140737488355328 ∧ xs.length ≤ 140737488355328) :
    OpG P ops ⟨some t, .call ⟨.builtin .append, #[x, y], #[T, T]⟩, ty, pos, af, none⟩ (tm x ++ tm y) [id] σ ⟨[(t, .row t)], [(t, some (.row e 1 (xs.map (.int k))))], [t]⟩ :=
  OpG.gen rfl rfl fun C F γ σ' a w hag h2 h3 hs => by
    obtain ⟨k1, k2⟩ := ev2 hs hag hx hy
    simp only [Rs] at k1 k2
    obtain ⟨b, c, hgb, ey, hnc⟩ := k2
    subst hn
    obtain ⟨g, hg, bb, cs, hgg, hcells, hL⟩ := hs.ws.ent id _ ((h2 id (by simp)).trans hh)
    rw [hgb] at hg; injection hg with hg; rw [hgg] at hg; injection hg with hg; injection hg with hg; injection hg with hg _ _
    subst hg
    have hn : t ∉ σ'.used := h3 t (by simp)
    have hval : (cs.toList.drop off).take xs.length = xs.map (Value.int k) := by
      have q := (hL.drop off).take xs.length
      rw [hd] at q
      exact rsl_vals k q
    have hat : At w (some ⟨b, off, none⟩) (xs.map (Value.int k)) := At.mk (fun _ => ⟨b, off, rfl, fun j v hv => by
      have := blk_range hcells off
      refine this j v ?_
      rw [← hval, List.getElem?_take] at hv
      split at hv
      · exact hv
      · cases hv⟩)
    have hE := rse_ints (F := F) k xs
    have hl : (xs.map (DV.int k)).length = xs.length := by simp
    obtain ⟨z, hEl, _⟩ := hT.h
    obtain ⟨A', c', w', hrun, ho, hg, hob⟩ := run_app (P := P) w hEl ty 0 (.slice none 0 0) 0 [] (own_nil _ _ _ _) (some ⟨b, off, none⟩) xs.length c (xs.map (Value.int k)) (by simp) hat hE.one (by rw [Nat.zero_add]; exact hb.1) (by rw [Nat.zero_add]; exact hb.2) (Nat.zero_le _)
    rw [Nat.zero_add, List.nil_append] at ho
    have S : Stp w w' none := Stp.of_grown (by simpa [Value.ownBlock] using hg)
    refine ⟨.slice A' (0 + xs.length) c', w', F, γ.up t (.slice A' xs.length c'), run_append _ x y rfl a w k1 ey hrun, FLe.refl _, Gam.up_le _ (hs.ws.fresh hn), ?_, ?_⟩
    · refine (hs.ws.quiet S).add hn ⟨xs.map (Value.int k), by rw [hl]; exact ho, hE⟩ (fun b hb' => ?_)
      rw [pblk_row ho] at hb'
      have hbs : b = w.heap.size := by
        rcases hob with h | h
        · simp only [Value.ownBlock, Nat.zero_add] at h hb'; rw [hb'] at h; cases h
        · simp only [Nat.zero_add] at h; rw [hb'] at h; injection h
      subst hbs
      refine ⟨?_, .inr hs.ws.size, fun id' e' g' hh hg' hb'' => ?_⟩
      · cases hF : F w.heap.size with
        | none => rfl
        | some cs => exact absurd (hs.ws.flt hF) (Nat.lt_irrefl _)
      · obtain ⟨g1, q1, q2⟩ := hs.ws.ent id' e' hh
        rw [hg'] at q1; injection q1 with q1; subst q1
        exact absurd (q2.lt _ hb'') (Nat.lt_irrefl _)
    · simp only [Rs, Nat.zero_add]; exact Gam.up_same _ _ _
/-- a slice against nil -/
theorem run_eq_sl {T e sz by0 : Nat} {zd : DV} [hT : CSl P T e sz by0 zd] (A : Addr) (n c : Nat) (w : World) : (Op.equal T (.slice (some A) n c) (.slice none 0 0)).run P w = .ok false w := by
  have : ∀ m, (Op.equalIn (m + 1) T (.slice (some A) n c) (.slice none 0 0)).run P w = .ok false w := fun m => by simp [Op.equalIn, run_underlying hT.und]
  exact this 9999
theorem run_sl_eql {T e sz by0 : Nat} {zd : DV} [hT : CSl P T e sz by0 zd] {T' : TypeId} {a : Act} {x : Operand} {A : Addr} {n c : Nat} (hx : a.eval x = .slice (some A) n c) (w : World) : (execOp a.eval ⟨some t, .binOp .eql T x (.const (.slice none 0 0)) T', ty, pos, af, none⟩).run P w = .ok (.value (.bool false)) w := by
  have e0 : a.eval (.const (.slice none 0 0)) = .slice none 0 0 := rfl
  have e : binOp .eql T (.slice (some A) n c) (.slice none 0 0) = (do pure (.bool (← Op.equal T (.slice (some A) n c) (.slice none 0 0)))) := rfl
  have e2 : eqGuard .eql T x (.const (.slice none 0 0)) (.slice (some A) n c) (.slice none 0 0) = pure () := rfl
  simp only [execOp, hx, e0, e, e2, Sem.run_bind, Sem.run_pure, Result.andThen_ok, run_eq_sl]
theorem o_sl_eq {T e sz by0 : Nat} {zd : DV} [hT : CSl P T e sz by0 zd] {T' : TypeId} {x : Operand} {els : List DV} (hx : ev σ.env x = some (.sl sz els)) (hne : els ≠ []) : OpG P ops ⟨some t, .binOp .eql T x (.const (.slice none 0 0)) T', ty, pos, af, none⟩ (tm x) [] σ ⟨[(t, .bool false)], [], []⟩ :=
  OpG.val rfl rfl fun C F γ σ' a w h1 h2 hs => by
    have k1 := hs.ev ((ev_agree h1 (fun _ h => h)).trans hx)
    simp only [Rs] at k1
    obtain ⟨A, c, e, hok, hd⟩ := k1
    obtain ⟨b, o, cs, vs, rest, rfl, _⟩ := hd hne
    exact ⟨_, run_sl_eql e w, by simp only [Rs]⟩
end
end Go.Proofs.YtepkcbalmjnhpaaGreat
