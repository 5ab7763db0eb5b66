/-
  Laws for blocks that are known whole: a store into one, a new variable, copy; struct results.
-/
import Derived.Test.YtepkcbalmjnhpaaGreatBase
set_option linter.unusedVariables false
set_option linter.unusedSimpArgs false
namespace Go.Proofs.YtepkcbalmjnhpaaGreat
open Go.RowKit

/-- only block g has turned, and none has come -/
structure Up (w w' : World) (g : Nat) : Prop where
  grown : w.grownBy w' (some g)
  size : w'.heap.size = w.heap.size
theorem Up.ext {a w w' : World} {g : Nat} (h : Up w w' g) (e : Ext a w) (hg : a.heap.size ≤ g) : Ext a w' :=
  e.grown h.grown (fun k hk => by injection hk with hk; omega)
theorem Up.below {B : Nat} {a w w' : World} {g : Nat} (h : Up w w' g) (e : Below B a w) (hB : B ≤ g) (hw : B ≤ w.heap.size) : Below B a w' :=
  e.grown h.grown hw (fun k hk => by injection hk with hk; omega)
theorem Up.blk {w w' : World} {g g' : Nat} {t : TypeId} {cs : Array Value} (h : Up w w' g) (hB : Blk w g' t cs) (hne : g' ≠ g) : Blk w' g' t cs :=
  hB.grown h.grown (fun e => hne (by injection e))
theorem Up.range {w w' : World} {g b o : Nat} {vs : List Value} (h : Up w w' g) (hr : w.rangeAt b o vs) (hne : b ≠ g) : w'.rangeAt b o vs := fun j v hv =>
  h.grown.cell (hr j v hv) (fun e => hne (by injection e))
/-- the cells cs laid over those of cur from place o on -/
def lay (cur : Array Value) (o : Nat) (cs : List Value) : Array Value := (cur.toList.take o ++ cs ++ cur.toList.drop (o + cs.length)).toArray
theorem lay_size {cur : Array Value} {o : Nat} {cs : List Value} (h : o + cs.length ≤ cur.size) : (lay cur o cs).size = cur.size := by
  simp [lay]; omega
theorem lay_whole {cur : Array Value} {cs : List Value} (h : cs.length = cur.size) : lay cur 0 cs = cs.toArray := by
  simp [lay, h]
section
variable {P : Program}
theorem up_setRow {w : World} {g : Nat} {t : TypeId} {cur : Array Value} (hB : Blk w g t cur) (cs : Array Value) : Up w (w.setRow g cs) g ∧ Blk (w.setRow g cs) g t cs :=
  ⟨⟨⟨rfl, rfl, rfl, by simp, fun k _ hk => setRow_other w g k _ (fun e => hk (by rw [e]))⟩, by simp⟩, Blk.mk (setRow_heap w g cur _ t _ hB.eq)⟩
theorem run_store_seg {w : World} {g o : Nat} {t : TypeId} {cur : Array Value} (ty : TypeId) (cells : Array Value) (hB : Blk w g t cur) (hi : (P.info? ty).map (·.size) = some cells.size) (hfit : o + cells.size ≤ cur.size)
    (h1 : ∀ v ∈ cells.toList, v.oneCell' = true) : (storeVar ty ⟨g, o, none⟩ (.agg cells)).run P w = .ok () (w.setRow g (lay cur o cells.toList)) := by
  have hst := run_storeCells_at P g o t cells.toList 0 cur w hB.eq (by simpa using hfit) h1
  cases hq : P.info? ty with
  | none => simp [hq] at hi
  | some i =>
    have hs : cells.size = i.size := by simp [hq] at hi; omega
    simp only [Nat.add_zero] at hst
    simp [storeVar, sizeOf, typeInfo, hq, Value.cells, hs, hst, lay]
theorem wpList_store_seg {ops : Array Oper} {rest : List Oper} {op : Oper} {a : Act} {w : World} {Q : Exit → Act → World → Prop} (ty : TypeId) (x y : Operand) (ho : op.op = .store ty x y) (hw : Region.wanted op (yielded ops a.tmps) = true)
    (g o : Nat) (t : TypeId) (cur cells : Array Value) (hx : a.eval x = .pointer (some ⟨g, o, none⟩)) (hy : a.eval y = .agg cells)
    (hi : (P.info? ty).map (·.size) = some cells.size) (hfit : o + cells.size ≤ cur.size) (h1 : ∀ v ∈ cells.toList, v.oneCell' = true) (hB : Blk w g t cur)
    (h : ∀ w', Blk w' g t (lay cur o cells.toList) → Up w w' g → wpList P ops Q rest (a.put op.dst undef) w') : wpList P ops Q (op :: rest) a w :=
  BigFrame.wpList_want hw fun K hK => by
    obtain ⟨u1, u2⟩ := up_setRow hB (lay cur o cells.toList)
    unfold Oper.wp execOp
    simp only [ho, hx, hy, Instr.storeAt, Instr.sureAddr, Sem.run_bind, Sem.run_pure, Result.andThen_ok, run_store_seg ty cells hB hi hfit h1]
    exact hK _ _ (h _ u2 u1)
/-- a whole block -/
theorem wpList_store_all {ops : Array Oper} {rest : List Oper} {op : Oper} {a : Act} {w : World} {Q : Exit → Act → World → Prop} (ty : TypeId) (x y : Operand) (ho : op.op = .store ty x y) (hw : Region.wanted op (yielded ops a.tmps) = true)
    (g : Nat) (t : TypeId) (cur cells : Array Value) (hx : a.eval x = .pointer (some ⟨g, 0, none⟩)) (hy : a.eval y = .agg cells)
    (hi : (P.info? ty).map (·.size) = some cells.size) (hfit : cells.size = cur.size) (h1 : ∀ v ∈ cells.toList, v.oneCell' = true) (hB : Blk w g t cur)
    (h : ∀ w', Blk w' g t cells → Up w w' g → wpList P ops Q rest (a.put op.dst undef) w') : wpList P ops Q (op :: rest) a w :=
  wpList_store_seg ty x y ho hw g 0 t cur cells hx hy hi (by omega) h1 hB (fun w' hb hu => h w' (by rwa [lay_whole (by simpa using hfit), Array.toArray_toList] at hb) hu)
theorem wpList_alloc_blk {ops : Array Oper} {rest : List Oper} {op : Oper} {a : Act} {w : World} {Q : Exit → Act → World → Prop} (ty : TypeId) (ho : op.op = .alloc ty) (hw : Region.wanted op (yielded ops a.tmps) = true)
    (cs : Array Value) (hz : ((P.info? ty).bind (·.zero)).map (·.cells) = some cs)
    (h : ∀ w', Blk w' w.heap.size ty cs → Ext w w' → w'.heap.size = w.heap.size + 1 → wpList P ops Q rest (a.put op.dst (.pointer (some ⟨w.heap.size, 0, none⟩))) w') : wpList P ops Q (op :: rest) a w :=
  BigFrame.wpList_want hw fun K hK => by
    cases hq : P.info? ty with
    | none => simp [hq] at hz
    | some i =>
      cases hz2 : i.zero with
      | none => simp [hq, hz2] at hz
      | some z =>
        simp [hq, hz2] at hz
        unfold Oper.wp execOp
        have hrun : (Instr.alloc ty true (.tuple #[])).run P w = .ok (.pointer (some ⟨w.heap.size, 0, none⟩)) (w.alloc (.cells cs ty)) := by
          simp [Instr.alloc, zeroValue, typeInfo, hq, hz2, newVar, hz, newRow]
        simp only [ho, Sem.run_bind, Sem.run_pure, Result.andThen_ok, hrun]
        exact hK _ _ (h _ (Blk.new w _ _) ((Ext.refl w).alloc _) (by simp))
/-- a struct result that lies in a block, and a plain one -/
theorem results_cell2 {fn : Func} {t u : Tmp} {ty t' : TypeId} {w : World} (tmps : Array Value) {g : Nat} {cs : Array Value} {d : TypeDesc} (h : fn.results = #[.cell t ty, .tmp u]) (hx : tmps.getD t undef = .pointer (some ⟨g, 0, none⟩))
    (hu : P.underlying ty = some d) (hd : d.isRow = true) (hi : (P.info? ty).map (·.size) = some cs.size) (hB : Blk w g t' cs) :
    (results fn tmps).run P w = .ok (.tuple #[.agg cs, tmps.getD u undef]) w := by
  have hl := run_loadVar_mid (P := P) w g 0 ty cs.toList d hB.range hu hd (by simpa using hi)
  have hx' : tmps[t]?.getD undef = .pointer (some ⟨g, 0, none⟩) := by simpa using hx
  simp [results, h, hx', asAddr, hl]
theorem results_cell1 {fn : Func} {t : Tmp} {ty t' : TypeId} {w : World} (tmps : Array Value) {g : Nat} {cs : Array Value} {d : TypeDesc} (h : fn.results = #[.cell t ty]) (hx : tmps.getD t undef = .pointer (some ⟨g, 0, none⟩))
    (hu : P.underlying ty = some d) (hd : d.isRow = true) (hi : (P.info? ty).map (·.size) = some cs.size) (hB : Blk w g t' cs) :
    (results fn tmps).run P w = .ok (.agg cs) w := by
  have hl := run_loadVar_mid (P := P) w g 0 ty cs.toList d hB.range hu hd (by simpa using hi)
  have hx' : tmps[t]?.getD undef = .pointer (some ⟨g, 0, none⟩) := by simpa using hx
  simp [results, h, hx', asAddr, hl]
/-- copy(dst, src) into a block that is known whole -/
theorem wpList_copy_blk {ops : Array Oper} {rest : List Oper} {op : Oper} {a : Act} {w : World} {Q : Exit → Act → World → Prop} (d s : Operand) {dT sT elem : TypeId} (ho : op.op = .call { callee := .builtin .copy, args := #[d, s], argTypes := #[dT, sT] })
    (hw : Region.wanted op (yielded ops a.tmps) = true) (hu : P.underlying dT = some (.slice elem)) (hs : (P.info? elem).map (·.size) = some 1)
    (g o dLen dCap : Nat) (t : TypeId) (cur : Array Value) (A : Option Addr) (sLen sCap : Nat) (cs : List Value)
    (hd : a.eval d = .slice (some ⟨g, o, none⟩) dLen dCap) (hx : a.eval s = .slice A sLen sCap) (hn : cs.length = Nat.min sLen dLen) (hat : At w A cs) (hnil : A = none → sLen = 0 ∧ sCap = 0) (hfit : o + cs.length ≤ cur.size) (h1 : ∀ v ∈ cs, v.oneCell' = true) (hB : Blk w g t cur)
    (h : ∀ w', Blk w' g t (lay cur o cs) → Up w w' g → wpList P ops Q rest (a.put op.dst (.int .i64 cs.length)) w') : wpList P ops Q (op :: rest) a w :=
  BigFrame.wpList_want hw fun K hK => by
    obtain ⟨u1, u2⟩ := up_setRow hB (lay cur o cs)
    unfold Oper.wp execOp
    rcases A with _ | ad
    · obtain ⟨rfl, rfl⟩ := hnil rfl
      have hc : cs = [] := by
        have : cs.length = 0 := by rw [hn]; exact Nat.zero_min _
        exact List.eq_nil_of_length_eq_zero this
      subst hc
      have hrun := run_copy_nil (P := P) w dT sT op.type elem ⟨g, o, none⟩ dLen dCap hu (by rw [hs]; rfl)
      have hself : w.setRow g (lay cur o []) = w := by
        have : lay cur o [] = cur := by simp [lay]
        rw [this]; exact setRow_self w g cur t (0, 0) hB.eq
      simp only [ho, resolve, invoke, builtin, Sem.run_bind, Sem.run_pure, Result.andThen_ok, List.map_toArray, List.map_cons, List.map_nil, hd, hx, hrun]
      have := h _ u2 u1
      rw [hself] at this
      exact hK _ _ this
    · have hrun := run_copy_row (P := P) w dT sT op.type elem g o dLen dCap ad sLen sCap cur t cs hu hs hB.eq hn hat.add hfit h1
      simp only [ho, resolve, invoke, builtin, Sem.run_bind, Sem.run_pure, Result.andThen_ok, List.map_toArray, List.map_cons, List.map_nil, hd, hx, hrun]
      exact hK _ _ (h _ u2 u1)
end
/-- the list under a name of its own, so that no length is taken apart -/
theorem RetInts.fresh {E : TypeId} {k : IntKind} {base : Nat} {xs : List Int} {w : World} {e : Ending} {w' : World} (h : RetInts E k base xs w e w') :
    ∃ zs A c, Hid (zs = xs) ∧ e = .returned (.slice A zs.length c) ∧ w'.ownsRow base E 1 (.slice A zs.length c) zs.length (zs.map (Value.int k)) ∧ Below base w w' := by
  obtain ⟨A, c, he, ho, hb⟩ := h
  exact ⟨xs, A, c, rfl, he, ho, hb⟩
theorem RetInts.mk {E : TypeId} {k : IntKind} {base : Nat} {xs zs : List Int} {w : World} {w' : World} {A : Option Addr} {c : Nat} (h : zs = xs) (ho : w'.ownsRow base E 1 (.slice A zs.length c) zs.length (zs.map (Value.int k))) (hb : Below base w w') :
    RetInts E k base xs w (.returned (.slice A zs.length c)) w' := by subst h; exact ⟨A, c, rfl, ho, hb⟩
/-- of what was there only the row of v has turned; v' lies in that row or in new memory -/
def Moved (w w' : World) (v v' : Value) : Prop := w.grownBy w' v.ownBlock ∧ (v'.ownBlock = v.ownBlock ∨ ∃ g, v'.ownBlock = some g ∧ w.heap.size ≤ g)
theorem Moved.refl (w : World) (v : Value) : Moved w w v v := ⟨World.grownBy.refl w _, .inl rfl⟩
theorem Moved.trans {a b c : World} {v v' v'' : Value} (h : Moved a b v v') (k : Moved b c v' v'') : Moved a c v v'' := by
  obtain ⟨h1, h2⟩ := h
  obtain ⟨k1, k2⟩ := k
  refine ⟨⟨k1.os.trans h1.os, k1.tape.trans h1.tape, k1.output.trans h1.output, Nat.le_trans h1.size k1.size, fun i hi hne => (k1.block i (Nat.lt_of_lt_of_le hi h1.size) ?_).trans (h1.block i hi hne)⟩, ?_⟩
  · rcases h2 with h2 | ⟨g, h2, hg⟩
    · rw [h2]; exact hne
    · rw [h2]; intro e; injection e with e; omega
  · rcases k2 with k2 | ⟨g, k2, hg⟩
    · rw [k2]; exact h2
    · exact .inr ⟨g, k2, Nat.le_trans h1.size hg⟩
theorem Moved.blk {w w' : World} {v v' : Value} {g : Nat} {t : TypeId} {cs : Array Value} (h : Moved w w' v v') (hB : Blk w g t cs) (hne : v.ownBlock ≠ some g) : Blk w' g t cs ∧ v'.ownBlock ≠ some g := by
  refine ⟨hB.grown h.1 (fun e => hne e.symm), ?_⟩
  rcases h.2 with h2 | ⟨g', h2, hg⟩
  · rw [h2]; exact hne
  · rw [h2]; have := hB.lt; intro e; injection e with e; omega
def RetMoved (E : TypeId) (k : IntKind) (base : Nat) (v : Value) (xs : List Int) (w : World) (e : Ending) (w' : World) : Prop :=
  ∃ A c, e = .returned (.slice A xs.length c) ∧ w'.ownsRow base E 1 (.slice A xs.length c) xs.length (xs.map (Value.int k)) ∧ Below base w w' ∧ Moved w w' v (.slice A xs.length c)
theorem RetMoved.fresh {E : TypeId} {k : IntKind} {base : Nat} {v : Value} {xs : List Int} {w : World} {e : Ending} {w' : World} (h : RetMoved E k base v xs w e w') :
    ∃ zs A c, Hid (zs = xs) ∧ e = .returned (.slice A zs.length c) ∧ w'.ownsRow base E 1 (.slice A zs.length c) zs.length (zs.map (Value.int k)) ∧ Below base w w' ∧ Moved w w' v (.slice A zs.length c) := by
  obtain ⟨A, c, he, ho, hb, hm⟩ := h
  exact ⟨xs, A, c, rfl, he, ho, hb, hm⟩
theorem moved_ne {w : World} {base : Nat} {e : TypeId} {size : Nat} {v : Value} {n : Nat} {vs : List Value} {g : Nat} {t : TypeId} {cs : Array Value} (h : w.ownsRow base e size v n vs) (hB : Blk w g t cs) (hne : e ≠ t) : v.ownBlock ≠ some g := by
  rcases h.2 with ⟨rfl, _⟩ | ⟨g', cap, cur, rfl, _, hh, _⟩
  · simp [Value.ownBlock]
  · intro he
    have : g' = g := by simpa [Value.ownBlock] using he
    subst this
    have := hB.eq
    rw [hh] at this
    injection this with this
    injection this with _ ht
    exact hne ht
attribute [irreducible] lay
end Go.Proofs.YtepkcbalmjnhpaaGreat
