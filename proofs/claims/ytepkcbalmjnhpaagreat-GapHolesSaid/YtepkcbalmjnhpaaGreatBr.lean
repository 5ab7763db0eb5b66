/-
  Bridges: contracts over worlds are contracts of the engine; clocks, events and records as abstract data.
-/
import Derived.Test.YtepkcbalmjnhpaaGreatRdB
import Derived.Test.YtepkcbalmjnhpaaGreatClkO
set_option maxRecDepth 100000
set_option linter.unusedVariables false
set_option linter.unusedSimpArgs false
namespace Go.Proofs.YtepkcbalmjnhpaaGreat
open Go.RowKit
theorem o_dead {P : Program} {ops : Array Oper} {σ : AS} {t : Nat} {op : Op} {ty : TypeId} {pos : String} {af : Array Edge} {g : Option (Nat × Bool)} (h : False) : OpG P ops ⟨some t, op, ty, pos, af, g⟩ [] [] σ ⟨[(t, .nils)], [], []⟩ := h.elim
theorem o_deadB {P : Program} {ops : Array Oper} {σ : AS} {t : Nat} {op : BinOp} {T T' : TypeId} {x y : Operand} {ty : TypeId} {pos : String} {af : Array Edge} {g : Option (Nat × Bool)} (h : False) : OpG P ops ⟨some t, .binOp op T x y T', ty, pos, af, g⟩ [] [] σ ⟨[(t, .bool false)], [], []⟩ := h.elim
def FSat (F : FMap) (w : World) : Prop := ∀ b cs, F b = some cs → ∃ t fz, w.heap[b]? = some (.cells cs t fz)
theorem PCall.ofExt {P : Program} {f : FuncId} {args : List DV} {r : DV} (h : ∀ F w vs, FSat F w → RsT F Gam.no args vs → Calls P f vs.toArray w (fun e w' => ∃ v, e = .returned v ∧ Ext w w' ∧ Rs F Gam.no r v)) : PCall P f args r := by
  intro C F γ heap used w vs H hv
  refine (h F w vs H.fs hv).mono ?_
  rintro e w' ⟨v, rfl, hx, hr⟩
  have b := hx.below
  exact ⟨v, F, rfl, FLe.refl _, H.quiet ⟨b.os, b.tape, b.output, b.size, fun k hk _ => b.block k hk⟩, hr⟩
theorem PCall.ofInts {P : Program} {f : FuncId} {args : List DV} {E : TypeId} {k : IntKind} {xs : List Int} (h : ∀ F w vs, FSat F w → RsT F Gam.no args vs → Calls P f vs.toArray w (RetInts E k w.heap.size xs w)) : PCall P f args (.sl 1 (xs.map (.int k))) := by
  intro C F γ heap used w vs H hv
  refine (h F w vs H.fs hv).mono ?_
  rintro e w' ⟨A, c, rfl, ho, b⟩
  have W := H.quiet (w' := w') ⟨b.os, b.tape, b.output, b.size, fun k hk _ => b.block k hk⟩
  have hE : ∀ (F : FMap) (l : List Int), RsE F 1 (l.map (DV.int k)) (l.map (Value.int k)) := by
    intro F l
    induction l with
    | nil => simp [RsE]
    | cons x l ih =>
      simp only [List.map_cons, RsE]
      exact ⟨.int k x, l.map (Value.int k), by simp [Value.cells], rfl, by simp [Value.cells, Value.oneCell'], by simp only [Rs], ih⟩
  rcases ho.2 with ⟨hA, h0⟩ | ⟨g, cap, cur, hA, hg, hh, r1, r2, r3, r4⟩
  · have hx : xs = [] := List.eq_nil_of_length_eq_zero h0
    subst hx
    refine ⟨_, F, rfl, FLe.refl _, W, ?_⟩
    rw [hA]
    simp only [Rs]
    exact ⟨none, 0, rfl, ⟨fun _ => ⟨rfl, rfl⟩, Nat.le_refl _, by decide⟩, fun h => absurd rfl h⟩
  · have hF : F g = none := by
      cases hf : F g with
      | none => rfl
      | some cs => have := H.flt hf; omega
    refine ⟨_, F.up g cur, rfl, FMap.up_le _ hF, W.data hh hF (.inr (Nat.le_trans H.size hg)) (fun id e g' hi hg' hb => ?_), ?_⟩
    · obtain ⟨g1, q1, q2⟩ := H.ent id e hi
      rw [hg'] at q1; injection q1 with q1; subst q1
      have := q2.lt _ hb; omega
    · rw [hA]
      simp only [Rs, List.length_map]
      refine ⟨some ⟨g, 0, none⟩, cap, rfl, ⟨(fun h => by cases h), r1, by unfold maxLen at r2; exact r2⟩, fun _ => ⟨g, 0, cur, xs.map (Value.int k), cur.toList.drop (xs.length * 1), rfl, by simp [FMap.up], ?_, hE _ xs⟩⟩
      rw [List.drop_zero, ← r4, List.take_append_drop]
theorem RsL_ints {F : FMap} {γ : Gam} {α : Type} (k : IntKind) (c : α → Int) : ∀ {l : List α} {vs : List Value}, RsL F γ (l.map fun i => .int k (c i)) vs → vs = l.map fun i => .int k (c i)
  | [], vs, h => by simp only [List.map_nil, RsL] at h; rw [h]; rfl
  | x :: l, vs, h => by
    simp only [List.map_cons, RsL] at h
    obtain ⟨v, rest, rfl, _, h1, h2⟩ := h
    simp only [Rs] at h1
    rw [h1, RsL_ints k c h2]; rfl
theorem RsE_ints {F : FMap} (k : IntKind) : ∀ {l : List Int} {vs : List Value}, RsE F 1 (l.map (DV.int k)) vs → vs = l.map (Value.int k)
  | [], vs, h => by simp only [List.map_nil, RsE] at h; rw [h]; rfl
  | x :: l, vs, h => by
    simp only [List.map_cons, RsE] at h
    obtain ⟨v, rest, rfl, _, _, h1, h2⟩ := h
    simp only [Rs] at h1
    rw [h1, RsE_ints k h2]; rfl
theorem sl_ints {F : FMap} {γ : Gam} {k : IntKind} {xs : List Int} {v : Value} {w : World} (hF : FSat F w) (h : Rs F γ (.sl 1 (xs.map (.int k))) v) : ∃ A c, v = .slice A xs.length c ∧ SlOk A xs.length c ∧ At w A (xs.map (Value.int k)) := by
  simp only [Rs, List.length_map] at h
  obtain ⟨A, c, e, hok, hd⟩ := h
  refine ⟨A, c, e, hok, At.mk fun hne => ?_⟩
  have hne' : xs.map (DV.int k) ≠ [] := by intro h; apply hne; simpa using h
  obtain ⟨b, o, cs, vs, rest, rfl, h1, h2, h3⟩ := hd hne'
  obtain ⟨t, fz, h4⟩ := hF b cs h1
  refine ⟨b, o, rfl, fun j v hv => ?_⟩
  rw [← RsE_ints k h3] at hv
  have := blk_range h4 o
  rw [h2] at this
  exact this j v (by rw [List.getElem?_append_left]; exact hv; exact (List.getElem?_eq_some_iff.1 hv).1)
def clkD (c : Nat → Int) : List DV := (List.range 16).map fun i => .int .u64 (c i)
theorem clk_of {F : FMap} {γ : Gam} {c : Nat → Int} {v : Value} (h : Rs F γ (.agg (clkD c)) v) : v = .agg (clkA c) := by
  simp only [Rs] at h
  obtain ⟨cs, rfl, h⟩ := h
  have := RsL_ints .u64 c h
  congr 1
  apply Array.toList_inj.1
  rw [this, clkA_list]
theorem length_c (c : Nat → Int) : PCall Tryz.prog 150 [.agg (clkD c)] (.int .i64 (clen c)) := PCall.ofExt fun F w vs hF hv => by
  simp only [RsT] at hv
  obtain ⟨v, rest, rfl, h1, rfl⟩ := hv
  rw [clk_of h1]
  exact (length_any c w).mono fun e w' ⟨he, hx⟩ => ⟨_, he, hx, by simp only [Rs]⟩
theorem clkD_set (l : List Int) (v : Int) (h : l.length < 16) : (clkD (clkOf l)).set (0 + l.length * 1) (.int .u64 v) = clkD (clkOf (l ++ [v])) := by
  apply List.ext_getElem?
  intro i
  rw [Nat.zero_add, Nat.mul_one, List.getElem?_set]
  simp only [clkD, List.getElem?_map, List.length_map, List.length_range]
  by_cases hi : l.length = i
  · subst hi
    simp [h, clkOf]
  · simp only [hi, if_false]
    by_cases h16 : i < 16
    · have : (clkOf (l ++ [v])) i = clkOf l i := by
        unfold clkOf
        rcases Nat.lt_or_ge i l.length with hlt | hge
        · simp [List.getD, List.getElem?_append_left hlt]
        · rw [List.getD_eq_getElem?_getD, List.getD_eq_getElem?_getD, List.getElem?_eq_none (by simp; omega), List.getElem?_eq_none hge]
      simp [h16, this]
    · simp [h16]
/-- n numbers one after the other, and how many bytes they have -/
def ents : Nat → List Int → Option (List Int × Nat)
  | 0, _ => some ([], 0)
  | n + 1, xs => match decU 0 0 xs with
    | none => none
    | some (v, m) => match ents n (xs.drop m) with
      | none => none
      | some (l, t) => some (v :: l, m + t)
def clkR (xs : List Int) : Option ((Nat → Int) × Nat) := match xs with
  | [] => none
  | b :: rest => if 16 < b then none else match ents b.toNat rest with
    | none => none
    | some (l, t) => if clen (clkOf l) = b.toNat then some (clkOf l, 1 + t) else none
def clkRD (xs : List Int) : DV := match clkR xs with
  | none => .tup [.agg (clkD clk0), .int .i64 0, .int .i64 6]
  | some (c, n) => .tup [.agg (clkD c), .int .i64 n, .int .i64 0]
theorem clkRD_ids (xs : List Int) : (clkRD xs).ids = [] := by
  unfold clkRD
  split <;> rfl
end Go.Proofs.YtepkcbalmjnhpaaGreat
