/-
  The engine, second half: rules for operations, calls, rows, weakenings.
-/
import Derived.Test.YtepkcbalmjnhpaaGreatEngH
set_option linter.unusedVariables false
set_option linter.unusedSimpArgs false
/-! ### part I -/
/-
  My engine, part I: the rules of the operations on numbers, structs, variables.
-/
namespace Go.Proofs.YtepkcbalmjnhpaaGreat
open Go.RowKit

theorem Sat.put {C : Ctx} {F : FMap} {γ : Gam} {σ : AS} {a : Act} {w : World} (H : Sat C F γ σ a w) {t : Nat} (ht : t < C.n) {d : DV} {v : Value} (hd : Rs F γ d v) : Sat C F γ ⟨(t, d) :: σ.env, σ.heap, σ.used⟩ (a.put (some t) v) w where
  env := fun t' d' h => by
    simp only at h
    rw [look_cons] at h
    by_cases e : t = t'
    · rw [if_pos e] at h; injection h with h; subst h; subst e
      have : t < a.tmps.size := by rw [H.size]; exact ht
      refine ⟨ht, ?_⟩
      simpa [Act.put, this] using hd
    · rw [if_neg e] at h
      refine ⟨(H.env t' d' h).1, ?_⟩
      have := (H.env t' d' h).2
      simpa [Act.put, Array.getElem?_setIfInBounds_ne e] using this
  ws := H.ws
  size := by simpa [Act.put] using H.size
  defers := H.defers
theorem Sat.mono {C : Ctx} {F F' : FMap} {γ γ' : Gam} {σ : AS} {a : Act} {w w' : World} (H : Sat C F γ σ a w) (hF : FLe F F') (hg : GLe γ γ') {heap : Heap} {used : List Nat} (hw : WS C F' γ' heap used w') : Sat C F' γ' ⟨σ.env, heap, used⟩ a w' :=
  ⟨fun t d h => ⟨(H.env t d h).1, (H.env t d h).2.mono hF hg⟩, hw, H.size, H.defers⟩
theorem ev_agree {rt : List Nat} {e e' : List (Nat × DV)} (h : ∀ t ∈ rt, look e' t = look e t) {x : Operand} (hx : ∀ t ∈ tm x, t ∈ rt) : ev e' x = ev e x := by
  cases x with
  | tmp t => exact h t (hx t (by simp [tm]))
  | const v => rfl
  | func f => rfl
  | global g => rfl
section
variable {P : Program} {ops : Array Oper} {σ : AS}
/-- an operation that turns the world -/
theorem OpG.gen {o : Oper} {rt rh : List Nat} {t : Nat} {d : DV} {hp : Heap} {nw : List Nat} (hg : o.guard = none) (hdst : o.dst = some t)
    (h : ∀ (C : Ctx) (F : FMap) (γ : Gam) (σ' : AS) (a : Act) (w : World), (∀ t ∈ rt, look σ'.env t = look σ.env t) → (∀ id ∈ rh, hget σ'.heap id = hget σ.heap id) → (∀ id ∈ nw, id ∉ σ'.used) → Sat C F γ σ' a w →
      ∃ v w' F' γ', (execOp a.eval o).run P w = .ok (.value v) w' ∧ FLe F F' ∧ GLe γ γ' ∧ WS C F' γ' (hp ++ σ'.heap) (nw ++ σ'.used) w' ∧ Rs F' γ' d v) : OpG P ops o rt rh σ ⟨[(t, d)], hp, nw⟩ := by
  intro C F γ σ' a w h1 h2 h3 h4 hs K Q hK
  have hw : Region.wanted o (yielded ops a.tmps) = true := by simp [Region.wanted, hg]
  rw [if_pos hw]
  obtain ⟨v, w', F', γ', k1, k2, k3, k4, k5⟩ := h C F γ σ' a w h1 h2 h3 hs
  refine wpIn_of_val k1 ?_
  rw [hdst]
  exact hK F' γ' _ _ k2 ((hs.mono k2 k3 k4).put (h4 t hdst) k5)
/-- an operation that leaves the world -/
theorem OpG.val {o : Oper} {rt rh : List Nat} {t : Nat} {d : DV} (hg : o.guard = none) (hdst : o.dst = some t)
    (h : ∀ (C : Ctx) (F : FMap) (γ : Gam) (σ' : AS) (a : Act) (w : World), (∀ t ∈ rt, look σ'.env t = look σ.env t) → (∀ id ∈ rh, hget σ'.heap id = hget σ.heap id) → Sat C F γ σ' a w →
      ∃ v, (execOp a.eval o).run P w = .ok (.value v) w ∧ Rs F γ d v) : OpG P ops o rt rh σ ⟨[(t, d)], [], []⟩ :=
  OpG.gen hg hdst fun C F γ σ' a w h1 h2 _ hs => by
    obtain ⟨v, k1, k2⟩ := h C F γ σ' a w h1 h2 hs
    exact ⟨v, w, F, γ, k1, FLe.refl _, GLe.refl _, hs.ws, k2⟩
/-- a store -/
theorem OpG.skip {o : Oper} {rt rh : List Nat} {hp : Heap} (hg : o.guard = none) (hdst : o.dst = none)
    (h : ∀ (C : Ctx) (F : FMap) (γ : Gam) (σ' : AS) (a : Act) (w : World), (∀ t ∈ rt, look σ'.env t = look σ.env t) → (∀ id ∈ rh, hget σ'.heap id = hget σ.heap id) → Sat C F γ σ' a w →
      ∃ w', (execOp a.eval o).run P w = .ok .skip w' ∧ WS C F γ (hp ++ σ'.heap) σ'.used w') : OpG P ops o rt rh σ ⟨[], hp, []⟩ := by
  intro C F γ σ' a w h1 h2 h3 h4 hs K Q hK
  have hw : Region.wanted o (yielded ops a.tmps) = true := by simp [Region.wanted, hg]
  rw [if_pos hw]
  obtain ⟨w', k1, k2⟩ := h C F γ σ' a w h1 h2 hs
  refine wpIn_of_skip k1 ?_
  simp only [hdst, Act.put]
  exact hK F γ _ _ (FLe.refl _) (hs.mono (FLe.refl _) (GLe.refl _) k2)
variable {t : Nat} {ty : TypeId} {pos : String} {af : Array Edge}
theorem o_move {x : Operand} {d : DV} (hx : ev σ.env x = some d) : OpG P ops ⟨some t, .move x, ty, pos, af, none⟩ (tm x) [] σ ⟨[(t, d)], [], []⟩ :=
  OpG.val rfl rfl fun C F γ σ' a w h1 _ hs => ⟨_, rfl, hs.ev ((ev_agree h1 (fun _ h => h)).trans hx)⟩
theorem o_assign {x : Operand} {d : DV} (hx : ev σ.env x = some d) : OpG P ops ⟨some t, .assign x, ty, pos, af, none⟩ (tm x) [] σ ⟨[(t, d)], [], []⟩ :=
  OpG.val rfl rfl fun C F γ σ' a w h1 _ hs => ⟨_, rfl, hs.ev ((ev_agree h1 (fun _ h => h)).trans hx)⟩
theorem o_move_le {x : Operand} {d d' : DV} (hx : ev σ.env x = some d) (hle : DLe d d') : OpG P ops ⟨some t, .move x, ty, pos, af, none⟩ (tm x) [] σ ⟨[(t, d')], [], []⟩ :=
  OpG.val rfl rfl fun C F γ σ' a w h1 _ hs => ⟨_, rfl, hle _ _ _ (hs.ev ((ev_agree h1 (fun _ h => h)).trans hx))⟩
theorem o_assign_le {x : Operand} {d d' : DV} (hx : ev σ.env x = some d) (hle : DLe d d') : OpG P ops ⟨some t, .assign x, ty, pos, af, none⟩ (tm x) [] σ ⟨[(t, d')], [], []⟩ :=
  OpG.val rfl rfl fun C F γ σ' a w h1 _ hs => ⟨_, rfl, hle _ _ _ (hs.ev ((ev_agree h1 (fun _ h => h)).trans hx))⟩
theorem ev2 {C : Ctx} {F : FMap} {γ : Gam} {σ' : AS} {a : Act} {w : World} {x y : Operand} {d e : DV} (hs : Sat C F γ σ' a w) (h1 : ∀ t ∈ tm x ++ tm y, look σ'.env t = look σ.env t) (hx : ev σ.env x = some d) (hy : ev σ.env y = some e) : Rs F γ d (a.eval x) ∧ Rs F γ e (a.eval y) :=
  ⟨hs.ev ((ev_agree h1 (fun _ h => List.mem_append_left _ h)).trans hx), hs.ev ((ev_agree h1 (fun _ h => List.mem_append_right _ h)).trans hy)⟩
/-- the bits of two numbers -/
def bitI (op : BinOp) (k : IntKind) (x y : Int) : Int :=
  let a := BitVec.ofInt k.bits x
  let b := BitVec.ofInt k.bits y
  match op with
  | .and => k.wrap (a &&& b).toNat
  | .or => k.wrap (a ||| b).toNat
  | .xor => k.wrap (a ^^^ b).toNat
  | _ => k.wrap (a &&& ~~~b).toNat
def intOp (op : BinOp) (k : IntKind) (a b : Int) : Option DV := match op with
  | .add => some (.int k (k.wrap (a + b)))
  | .sub => some (.int k (k.wrap (a - b)))
  | .mul => some (.int k (k.wrap (a * b)))
  | .and => some (.int k (bitI .and k a b))
  | .or => some (.int k (bitI .or k a b))
  | .xor => some (.int k (bitI .xor k a b))
  | .andNot => some (.int k (bitI .andNot k a b))
  | .eql => some (.bool (a == b))
  | .neq => some (.bool (a != b))
  | .lss => some (.bool (decide (a < b)))
  | .leq => some (.bool (decide (a ≤ b)))
  | .gtr => some (.bool (decide (b < a)))
  | .geq => some (.bool (decide (b ≤ a)))
  | _ => none
def DV.scal : DV → Value
  | .int k n => .int k n
  | .bool b => .bool b
  | _ => undef
theorem run_intOp {op : BinOp} {k : IntKind} {a b : Int} {d : DV} (h : intOp op k a b = some d) (T : TypeId) (x y : Operand) (w : World) :
    (do eqGuard op T x y (.int k a) (.int k b); binOp op T (.int k a) (.int k b) : Sem Value).run P w = .ok d.scal w := by
  cases op <;> simp only [intOp, Option.some.injEq, reduceCtorEq] at h <;> subst h <;> cases k <;> rfl
theorem rs_intOp {op : BinOp} {k : IntKind} {a b : Int} {d : DV} (h : intOp op k a b = some d) (F : FMap) (γ : Gam) : Rs F γ d d.scal := by
  cases op <;> simp only [intOp, Option.some.injEq, reduceCtorEq] at h <;> subst h <;> simp only [Rs, DV.scal]
theorem o_int {op : BinOp} {T T' : TypeId} {x y : Operand} {k : IntKind} {a b : Int} {d : DV} (hx : ev σ.env x = some (.int k a)) (hy : ev σ.env y = some (.int k b)) (hd : intOp op k a b = some d) :
    OpG P ops ⟨some t, .binOp op T x y T', ty, pos, af, none⟩ (tm x ++ tm y) [] σ ⟨[(t, d)], [], []⟩ :=
  OpG.val rfl rfl fun C F γ σ' ac w h1 _ hs => by
    obtain ⟨k1, k2⟩ := ev2 hs h1 hx hy
    simp only [Rs] at k1 k2
    have r1 := run_intOp (P := P) hd T x y w
    refine ⟨d.scal, ?_, rs_intOp hd F γ⟩
    simp only [execOp, k1, k2, Sem.run_bind] at r1 ⊢
    rw [r1]; rfl
@[reducible] def InR (k : IntKind) (n : Int) : Prop := match k with
  | .i8 => -128 ≤ n ∧ n ≤ 127
  | .i16 => -32768 ≤ n ∧ n ≤ 32767
  | .i32 => -2147483648 ≤ n ∧ n ≤ 2147483647
  | .i64 => -9223372036854775808 ≤ n ∧ n ≤ 9223372036854775807
  | .u8 => 0 ≤ n ∧ n ≤ 255
  | .u16 => 0 ≤ n ∧ n ≤ 65535
  | .u32 => 0 ≤ n ∧ n ≤ 4294967295
  | .u64 => 0 ≤ n ∧ n ≤ 18446744073709551615
theorem wrap_in {k : IntKind} {n : Int} (h : InR k n) : k.wrap n = n := by
  cases k <;> simp only [InR] at h <;> simp [IntKind.wrap, IntKind.signed, IntKind.bits] <;> omega
theorem o_add {T T' : TypeId} {x y : Operand} {k : IntKind} {a b : Int} (hx : ev σ.env x = some (.int k a)) (hy : ev σ.env y = some (.int k b)) (hr : InR k (a + b)) :
    OpG P ops ⟨some t, .binOp .add T x y T', ty, pos, af, none⟩ (tm x ++ tm y) [] σ ⟨[(t, .int k (a + b))], [], []⟩ := o_int hx hy (by rw [intOp, wrap_in hr])
theorem o_sub {T T' : TypeId} {x y : Operand} {k : IntKind} {a b : Int} (hx : ev σ.env x = some (.int k a)) (hy : ev σ.env y = some (.int k b)) (hr : InR k (a - b)) :
    OpG P ops ⟨some t, .binOp .sub T x y T', ty, pos, af, none⟩ (tm x ++ tm y) [] σ ⟨[(t, .int k (a - b))], [], []⟩ := o_int hx hy (by rw [intOp, wrap_in hr])
theorem o_mul {T T' : TypeId} {x y : Operand} {k : IntKind} {a b : Int} (hx : ev σ.env x = some (.int k a)) (hy : ev σ.env y = some (.int k b)) (hr : InR k (a * b)) :
    OpG P ops ⟨some t, .binOp .mul T x y T', ty, pos, af, none⟩ (tm x ++ tm y) [] σ ⟨[(t, .int k (a * b))], [], []⟩ := o_int hx hy (by rw [intOp, wrap_in hr])
theorem o_quo {T T' : TypeId} {x y : Operand} {k : IntKind} {a b : Int} (hx : ev σ.env x = some (.int k a)) (hy : ev σ.env y = some (.int k b)) (hr : 0 ≤ a ∧ 0 < b ∧ InR k (a / b)) :
    OpG P ops ⟨some t, .binOp .quo T x y T', ty, pos, af, none⟩ (tm x ++ tm y) [] σ ⟨[(t, .int k (a / b))], [], []⟩ :=
  OpG.val rfl rfl fun C F γ σ' ac w h1 _ hs => by
    obtain ⟨k1, k2⟩ := ev2 hs h1 hx hy
    simp only [Rs] at k1 k2
    have hb : ¬ b = 0 := by omega
    refine ⟨.int k (a / b), ?_, by simp only [Rs]⟩
    have : k.wrap (a.tdiv b) = a / b := by rw [Int.tdiv_eq_ediv_of_nonneg hr.1, wrap_in hr.2.2]
    simp [execOp, k1, k2, eqGuard, binOp, Op.intDiv, hb, this]
theorem o_rem {T T' : TypeId} {x y : Operand} {k : IntKind} {a b : Int} (hx : ev σ.env x = some (.int k a)) (hy : ev σ.env y = some (.int k b)) (hr : 0 ≤ a ∧ 0 < b) :
    OpG P ops ⟨some t, .binOp .rem T x y T', ty, pos, af, none⟩ (tm x ++ tm y) [] σ ⟨[(t, .int k (a % b))], [], []⟩ :=
  OpG.val rfl rfl fun C F γ σ' ac w h1 _ hs => by
    obtain ⟨k1, k2⟩ := ev2 hs h1 hx hy
    simp only [Rs] at k1 k2
    have hb : ¬ b = 0 := by omega
    refine ⟨.int k (a % b), ?_, by simp only [Rs]⟩
    have : a.tmod b = a % b := Int.tmod_eq_emod_of_nonneg hr.1
    simp [execOp, k1, k2, eqGuard, binOp, Op.intDiv, hb, this]
theorem o_shr {T T' : TypeId} {x y : Operand} {k k' : IntKind} {a b : Int} (hx : ev σ.env x = some (.int k a)) (hy : ev σ.env y = some (.int k' b)) (hr : 0 ≤ b) :
    OpG P ops ⟨some t, .binOp .shr T x y T', ty, pos, af, none⟩ (tm x ++ tm y) [] σ ⟨[(t, .int k (a.fdiv (2 ^ min b.toNat k.bits)))], [], []⟩ :=
  OpG.val rfl rfl fun C F γ σ' ac w h1 _ hs => by
    obtain ⟨k1, k2⟩ := ev2 hs h1 hx hy
    simp only [Rs] at k1 k2
    have hb : ¬ b < 0 := by omega
    exact ⟨.int k (a.fdiv (2 ^ min b.toNat k.bits)), by simp [execOp, k1, k2, eqGuard, binOp, Op.shift, hb], by simp only [Rs]⟩
theorem o_shl {T T' : TypeId} {x y : Operand} {k k' : IntKind} {a b : Int} (hx : ev σ.env x = some (.int k a)) (hy : ev σ.env y = some (.int k' b)) (hr : 0 ≤ b) :
    OpG P ops ⟨some t, .binOp .shl T x y T', ty, pos, af, none⟩ (tm x ++ tm y) [] σ ⟨[(t, .int k (k.wrap (a * 2 ^ min b.toNat k.bits)))], [], []⟩ :=
  OpG.val rfl rfl fun C F γ σ' ac w h1 _ hs => by
    obtain ⟨k1, k2⟩ := ev2 hs h1 hx hy
    simp only [Rs] at k1 k2
    have hb : ¬ b < 0 := by omega
    exact ⟨.int k (k.wrap (a * 2 ^ min b.toNat k.bits)), by simp [execOp, k1, k2, eqGuard, binOp, Op.shift, hb], by simp only [Rs]⟩
theorem o_not {T : TypeId} {x : Operand} {b : Bool} (hx : ev σ.env x = some (.bool b)) : OpG P ops ⟨some t, .unOp .not T x, ty, pos, af, none⟩ (tm x) [] σ ⟨[(t, .bool (!b))], [], []⟩ :=
  OpG.val rfl rfl fun C F γ σ' ac w h1 _ hs => by
    have k1 := hs.ev ((ev_agree h1 (fun _ h => h)).trans hx)
    simp only [Rs] at k1
    exact ⟨.bool (!b), by simp [execOp, k1, Op.unary], by simp only [Rs]⟩
theorem o_neg {T : TypeId} {x : Operand} {k : IntKind} {n : Int} (hx : ev σ.env x = some (.int k n)) : OpG P ops ⟨some t, .unOp .neg T x, ty, pos, af, none⟩ (tm x) [] σ ⟨[(t, .int k (k.wrap (0 - n)))], [], []⟩ :=
  OpG.val rfl rfl fun C F γ σ' ac w h1 _ hs => by
    have k1 := hs.ev ((ev_agree h1 (fun _ h => h)).trans hx)
    simp only [Rs] at k1
    exact ⟨_, by simp [execOp, k1, Op.unary, Op.intArith]; rfl, by simp only [Rs]; simp⟩
theorem o_xor {T : TypeId} {x : Operand} {k : IntKind} {n : Int} (hx : ev σ.env x = some (.int k n)) : OpG P ops ⟨some t, .unOp .xor T x, ty, pos, af, none⟩ (tm x) [] σ ⟨[(t, .int k (bitI .xor k (if k.signed then -1 else k.max) n))], [], []⟩ :=
  OpG.val rfl rfl fun C F γ σ' ac w h1 _ hs => by
    have k1 := hs.ev ((ev_agree h1 (fun _ h => h)).trans hx)
    simp only [Rs] at k1
    exact ⟨_, by simp [execOp, k1, Op.unary, Op.intBits]; rfl, by simp only [Rs]; rfl⟩
class TInt (P : Program) (t : TypeId) (k : outParam IntKind) : Prop where
  h : P.underlying t = some (.int k)
theorem o_conv_w {S T : TypeId} {x : Operand} {k k' k0 : IntKind} {n : Int} [TInt P S k0] [hT : TInt P T k'] (hx : ev σ.env x = some (.int k n)) : OpG P ops ⟨some t, .convert S T x, ty, pos, af, none⟩ (tm x) [] σ ⟨[(t, .int k' (k'.wrap n))], [], []⟩ :=
  OpG.val rfl rfl fun C F γ σ' ac w h1 _ hs => by
    have k1 := hs.ev ((ev_agree h1 (fun _ h => h)).trans hx)
    simp only [Rs] at k1
    exact ⟨_, by simp [execOp, k1, convert, run_underlying (TInt.h (P := P) (t := S)), run_underlying (TInt.h (P := P) (t := T)), Conv.intToInt]; rfl, by simp only [Rs]⟩
theorem o_conv {S T : TypeId} {x : Operand} {k k' k0 : IntKind} {n : Int} [TInt P S k0] [hT : TInt P T k'] (hx : ev σ.env x = some (.int k n)) (hr : InR k' n) : OpG P ops ⟨some t, .convert S T x, ty, pos, af, none⟩ (tm x) [] σ ⟨[(t, .int k' n)], [], []⟩ := by
  have := o_conv_w (P := P) (ops := ops) (σ := σ) (t := t) (ty := ty) (pos := pos) (af := af) (S := S) (T := T) hx
  rw [wrap_in hr] at this; exact this
class TBool (P : Program) (t : TypeId) : Prop where
  h : P.underlying t = some .bool
theorem run_eq_bool {T : TypeId} {a b : Bool} (hT : P.underlying T = some .bool) (w : World) : (Op.equal T (.bool a) (.bool b)).run P w = .ok (a == b) w := by
  have : ∀ n, (Op.equalIn (n + 1) T (.bool a) (.bool b)).run P w = .ok (a == b) w := fun n => by simp [Op.equalIn, run_underlying hT]
  exact this 9999
theorem o_booleq {T T' : TypeId} {x y : Operand} {a b : Bool} [hT : TBool P T] (hx : ev σ.env x = some (.bool a)) (hy : ev σ.env y = some (.bool b)) :
    OpG P ops ⟨some t, .binOp .eql T x y T', ty, pos, af, none⟩ (tm x ++ tm y) [] σ ⟨[(t, .bool (a == b))], [], []⟩ :=
  OpG.val rfl rfl fun C F γ σ' ac w h1 _ hs => by
    obtain ⟨k1, k2⟩ := ev2 hs h1 hx hy
    simp only [Rs] at k1 k2
    have e : binOp .eql T (.bool a) (.bool b) = (do pure (.bool (← Op.equal T (.bool a) (.bool b)))) := rfl
    have e2 : eqGuard .eql T x y (.bool a) (.bool b) = pure () := rfl
    exact ⟨.bool (a == b), by simp only [execOp, k1, k2, e, e2, Sem.run_bind, Sem.run_pure, Result.andThen_ok, run_eq_bool hT.h], by simp only [Rs]⟩
theorem o_boolne {T T' : TypeId} {x y : Operand} {a b : Bool} [hT : TBool P T] (hx : ev σ.env x = some (.bool a)) (hy : ev σ.env y = some (.bool b)) :
    OpG P ops ⟨some t, .binOp .neq T x y T', ty, pos, af, none⟩ (tm x ++ tm y) [] σ ⟨[(t, .bool (a != b))], [], []⟩ :=
  OpG.val rfl rfl fun C F γ σ' ac w h1 _ hs => by
    obtain ⟨k1, k2⟩ := ev2 hs h1 hx hy
    simp only [Rs] at k1 k2
    have e : binOp .neq T (.bool a) (.bool b) = (do pure (.bool (!(← Op.equal T (.bool a) (.bool b))))) := rfl
    have e2 : eqGuard .neq T x y (.bool a) (.bool b) = pure () := rfl
    exact ⟨.bool (a != b), by simp only [execOp, k1, k2, e, e2, Sem.run_bind, Sem.run_pure, Result.andThen_ok, run_eq_bool hT.h, bne], by simp only [Rs]⟩
theorem o_extract {x : Operand} {i : Nat} {ds : List DV} {d : DV} (hx : ev σ.env x = some (.tup ds)) (hd : ds[i]? = some d) : OpG P ops ⟨some t, .extract x i, ty, pos, af, none⟩ (tm x) [] σ ⟨[(t, d)], [], []⟩ :=
  OpG.val rfl rfl fun C F γ σ' ac w h1 _ hs => by
    have k1 := hs.ev ((ev_agree h1 (fun _ h => h)).trans hx)
    simp only [Rs] at k1
    obtain ⟨cs, e, hl⟩ := k1
    obtain ⟨v, hv, hr⟩ := hl.get hd
    refine ⟨v, ?_, hr⟩
    have : cs[i]? = some v := by simpa using hv
    simp [execOp, e, Instr.extract, this]
/-- 'or', 'and': the second operand was asked only where the first left it open -/
theorem o_or {c x : Operand} {b d : Bool} (hc : ev σ.env c = some (.bool b)) (hx : ev σ.env x = some (.ifb (!b) (.bool d))) : OpG P ops ⟨some t, .pick c (.const (.bool true)) x, ty, pos, af, none⟩ (tm c ++ tm x) [] σ ⟨[(t, .bool (b || d))], [], []⟩ :=
  OpG.val rfl rfl fun C F γ σ' ac w h1 _ hs => by
    obtain ⟨k1, k2⟩ := ev2 hs h1 hc hx
    simp only [Rs] at k1 k2
    cases b
    · have := k2.1 rfl
      exact ⟨.bool (false || d), by simp [execOp, k1, this, asBool], by simp only [Rs]⟩
    · exact ⟨.bool (true || d), by simp [execOp, k1, asBool, show ac.eval (.const (.bool true)) = .bool true from rfl], by simp only [Rs]⟩
theorem o_and {c x : Operand} {b d : Bool} (hc : ev σ.env c = some (.bool b)) (hx : ev σ.env x = some (.ifb b (.bool d))) : OpG P ops ⟨some t, .pick c x (.const (.bool false)), ty, pos, af, none⟩ (tm c ++ tm x) [] σ ⟨[(t, .bool (b && d))], [], []⟩ :=
  OpG.val rfl rfl fun C F γ σ' ac w h1 _ hs => by
    obtain ⟨k1, k2⟩ := ev2 hs h1 hc hx
    simp only [Rs] at k1 k2
    cases b
    · exact ⟨.bool (false && d), by simp [execOp, k1, asBool, show ac.eval (.const (.bool false)) = .bool false from rfl], by simp only [Rs]⟩
    · have := k2.1 rfl
      exact ⟨.bool (true && d), by simp [execOp, k1, this, asBool], by simp only [Rs]⟩
end
end Go.Proofs.YtepkcbalmjnhpaaGreat

/-! ### part J -/
/-
  My engine, part J: the rules of the operations on memory, guards, calls.
-/
namespace Go.Proofs.YtepkcbalmjnhpaaGreat
open Go.RowKit

class CSc (P : Program) (t : TypeId) : Prop where
  h : TSc P t
class CRow (P : Program) (t : TypeId) (n : outParam Nat) : Prop where
  h : TRow P t n
class CSize (P : Program) (t : TypeId) (n : outParam Nat) : Prop where
  h : (P.info? t).map (·.size) = some n
class CZero (P : Program) (t : TypeId) (zs : outParam (List DV)) : Prop where
  h : ((P.info? t).bind (·.zero)).map (fun z => z.cells.toList.map constDV) = some zs
class CFld (P : Program) (t : TypeId) (i : Nat) (off n : outParam Nat) (ft : outParam TypeId) : Prop where
  h : ∃ fs f, P.underlying t = some (.struct fs) ∧ fs[i]? = some f ∧ f.type = ft ∧ f.offset = off
  s : (P.info? ft).map (·.size) = some n
  p : 0 < n
theorem constDV_rsL (F : FMap) (γ : Gam) : ∀ (l : List Value), (∀ u ∈ l, u.oneCell' = true) → RsL F γ (l.map constDV) l
  | [], _ => by simp [RsL]
  | v :: l, h => by
    simp only [List.map_cons, RsL]
    exact ⟨v, l, rfl, h v (by simp), constDV_rs _ _ _, constDV_rsL F γ l (fun u hu => h u (by simp [hu]))⟩
theorem head_drop {α : Type} (l : List α) (n : Nat) : (l.drop n).head? = l[n]? := by
  rw [List.head?_eq_getElem?, List.getElem?_drop, Nat.add_zero]
section
variable {P : Program} {ops : Array Oper} {σ : AS} {t : Nat} {ty : TypeId} {pos : String} {af : Array Edge}
theorem o_box {T : TypeId} {x : Operand} {d : DV} (hx : ev σ.env x = some d) (hf : d.flat = true) : OpG P ops ⟨some t, .box T x, ty, pos, af, none⟩ (tm x) [] σ ⟨[(t, .ref t 0)], [(t, some (.blk T d.cs))], [t]⟩ :=
  OpG.gen rfl rfl fun C F γ σ' a w h1 _ h3 hs => by
    have k1 := hs.ev ((ev_agree h1 (fun _ h => h)).trans hx)
    have hn : t ∉ σ'.used := h3 t (by simp)
    refine ⟨.pointer (some ⟨w.heap.size, 0, none⟩), w.alloc (.cells (a.eval x).cells T), F, γ.up t (.pointer (some ⟨w.heap.size, 0, none⟩)), ?_, FLe.refl _, Gam.up_le _ (hs.ws.fresh hn), ?_, ?_⟩
    · simp [execOp, Instr.box, newVar, newRow]
    · refine hs.ws.addNew hn _ (fun b hb => by simp [Value.pblk] at hb; exact hb.symm) ?_
      exact ⟨w.heap.size, _, rfl, heap_alloc_new w _, RsL.cs k1 hs.ws.gone hf⟩
    · simp only [Rs]; exact ⟨w.heap.size, by simp [Gam.up], rfl⟩
theorem o_alloc {T : TypeId} {zs : List DV} [hz : CZero P T zs] (ho : (zs.all DV.one) = true) : OpG P ops ⟨some t, .alloc T, ty, pos, af, none⟩ [] [] σ ⟨[(t, .ref t 0)], [(t, some (.blk T zs))], [t]⟩ :=
  OpG.gen rfl rfl fun C F γ σ' a w h1 _ h3 hs => by
    have hn : t ∉ σ'.used := h3 t (by simp)
    have hz' := hz.h
    cases hq : P.info? T with
    | none => simp [hq] at hz'
    | some i =>
      cases hz2 : i.zero with
      | none => simp [hq, hz2] at hz'
      | some z =>
        simp only [hq, hz2, Option.bind_some, Option.map_some, Option.some.injEq] at hz'
        have hone : ∀ u ∈ z.cells.toList, u.oneCell' = true := by
          intro u hu
          have := List.all_eq_true.1 ho (constDV u) (by rw [← hz']; exact List.mem_map.2 ⟨u, hu, rfl⟩)
          exact (constDV_rs F γ u).one hs.ws.gone this
        refine ⟨.pointer (some ⟨w.heap.size, 0, none⟩), w.alloc (.cells z.cells T), F, γ.up t (.pointer (some ⟨w.heap.size, 0, none⟩)), ?_, FLe.refl _, Gam.up_le _ (hs.ws.fresh hn), ?_, ?_⟩
        · simp [execOp, Instr.alloc, zeroValue, typeInfo, hq, hz2, newVar, newRow]
        · refine hs.ws.addNew hn _ (fun b hb => by simp [Value.pblk] at hb; exact hb.symm) ?_
          exact ⟨w.heap.size, _, rfl, heap_alloc_new w _, by rw [← hz']; exact constDV_rsL F γ _ hone⟩
        · simp only [Rs]; exact ⟨w.heap.size, by simp [Gam.up], rfl⟩
/-- reading through an address -/
theorem rs_ref {C : Ctx} {F : FMap} {γ : Gam} {σ' : AS} {a : Act} {w : World} (hs : Sat C F γ σ' a w) {id off T : Nat} {ds : List DV} {v : Value} (hv : Rs F γ (.ref id off) v) (hh : hget σ'.heap id = some (.blk T ds)) :
    ∃ b cs, v = .pointer (some ⟨b, off, none⟩) ∧ γ id = some (.pointer (some ⟨b, 0, none⟩)) ∧ w.heap[b]? = some (.cells cs T (0, 0)) ∧ RsL F γ ds cs.toList := by
  obtain ⟨g, hg, b, cs, rfl, hb, hl⟩ := hs.ws.ent id _ hh
  simp only [Rs] at hv
  obtain ⟨b', hb', h5⟩ := hv
  rw [hg] at hb'; injection hb' with hb'; injection hb' with hb'; injection hb' with hb'; injection hb' with hb' _ _
  subst hb'
  exact ⟨b, cs, h5, hg, hb, hl⟩
theorem o_load_ref {T' : TypeId} {x : Operand} {id off T : Nat} {ds : List DV} {d : DV} (hx : ev σ.env x = some (.ref id off)) (hh : hget σ.heap id = some (.blk T ds)) (hd : LoadD P T' (ds.drop off) d) :
    OpG P ops ⟨some t, .load T' x, ty, pos, af, none⟩ (tm x) [id] σ ⟨[(t, d)], [], []⟩ :=
  OpG.val rfl rfl fun C F γ σ' a w h1 h2 hs => by
    have k1 := hs.ev ((ev_agree h1 (fun _ h => h)).trans hx)
    obtain ⟨b, cs, e, hg, hb, hl⟩ := rs_ref hs k1 ((h2 id (by simp)).trans hh)
    obtain ⟨v, r1, r2, _⟩ := load_rs hd (blk_range hb off) (hl.drop off)
    exact ⟨v, by simp [execOp, e, Instr.loadAt, Instr.sureAddr, r1], r2⟩
theorem o_load_s {T' : TypeId} {x : Operand} {id off T : Nat} {ds : List DV} {d : DV} [hT : CSc P T'] (hx : ev σ.env x = some (.ref id off)) (hh : hget σ.heap id = some (.blk T ds)) (hd : ds[off]? = some d) :
    OpG P ops ⟨some t, .load T' x, ty, pos, af, none⟩ (tm x) [id] σ ⟨[(t, d)], [], []⟩ := o_load_ref hx hh (.sc hT.h (by rw [head_drop]; exact hd))
theorem o_load_r {T' : TypeId} {x : Operand} {id off T n : Nat} {ds ds' : List DV} [hT : CRow P T' n] (hx : ev σ.env x = some (.ref id off)) (hh : hget σ.heap id = some (.blk T ds)) (hn : Nat.ble n (ds.drop off).length = true) (hd : (ds.drop off).take n = ds') :
    OpG P ops ⟨some t, .load T' x, ty, pos, af, none⟩ (tm x) [id] σ ⟨[(t, .agg ds')], [], []⟩ := o_load_ref hx hh (.row n hT.h (Nat.le_of_ble_eq_true hn) (by rw [hd]))
theorem rs_eptr {C : Ctx} {F : FMap} {γ : Gam} {σ' : AS} {a : Act} {w : World} (hs : Sat C F γ σ' a w) {ds : List DV} {v : Value} (hv : Rs F γ (.eptr ds) v) :
    ∃ b o vs, v = .pointer (some ⟨b, o, none⟩) ∧ w.rangeAt b o vs ∧ RsL F γ ds vs := by
  simp only [Rs] at hv
  obtain ⟨b, o, cs, vs, rest, rfl, hb, hd, hl⟩ := hv
  obtain ⟨t, fz, h1⟩ := hs.ws.fs b cs hb
  refine ⟨b, o, vs, rfl, fun j v hv => ?_, hl.mono (FLe.refl _) (GLe.no _)⟩
  have := blk_range h1 o
  rw [hd] at this
  exact this j v (by rw [List.getElem?_append_left]; exact hv; exact (List.getElem?_eq_some_iff.1 hv).1)
theorem o_load_e {T' : TypeId} {x : Operand} {ds : List DV} {d : DV} (hx : ev σ.env x = some (.eptr ds)) (hd : LoadD P T' ds d) :
    OpG P ops ⟨some t, .load T' x, ty, pos, af, none⟩ (tm x) [] σ ⟨[(t, d)], [], []⟩ :=
  OpG.val rfl rfl fun C F γ σ' a w h1 h2 hs => by
    have k1 := hs.ev ((ev_agree h1 (fun _ h => h)).trans hx)
    obtain ⟨b, o, vs, e, hr, hl⟩ := rs_eptr hs k1
    obtain ⟨v, r1, r2, _⟩ := load_rs hd hr hl
    exact ⟨v, by simp [execOp, e, Instr.loadAt, Instr.sureAddr, r1], r2⟩
theorem o_load_es {T' : TypeId} {x : Operand} {ds : List DV} {d : DV} [hT : CSc P T'] (hx : ev σ.env x = some (.eptr ds)) (hd : ds.head? = some d) :
    OpG P ops ⟨some t, .load T' x, ty, pos, af, none⟩ (tm x) [] σ ⟨[(t, d)], [], []⟩ := o_load_e hx (.sc hT.h hd)
theorem o_load_er {T' : TypeId} {x : Operand} {n : Nat} {ds ds' : List DV} [hT : CRow P T' n] (hx : ev σ.env x = some (.eptr ds)) (hn : Nat.ble n ds.length = true) (hd : ds.take n = ds') :
    OpG P ops ⟨some t, .load T' x, ty, pos, af, none⟩ (tm x) [] σ ⟨[(t, .agg ds')], [], []⟩ := o_load_e hx (.row n hT.h (Nat.le_of_ble_eq_true hn) (by rw [hd]))
/-- a field's value -/
theorem part_rs {T' : TypeId} {ds : List DV} {off : Nat} {d : DV} {F : FMap} {γ : Gam} {cs : Array Value} (hd : LoadD P T' (ds.drop off) d) (hl : RsL F γ ds cs.toList) (w : World) : ∃ v, (part T' cs off).run P w = .ok v w ∧ Rs F γ d v := by
  have hl' := hl.drop off
  rcases hd with ⟨n, ⟨dd, hu, hrow, hi⟩, hn, rfl⟩ | ⟨⟨dd, hu, hrow, hi⟩, hh⟩
  · have hagg : (isAgg T').run P w = .ok true w := by
      unfold isAgg
      rw [Sem.run_bind, run_underlying hu w]
      cases dd <;> simp_all
    cases hq : P.info? T' with
    | none => simp [hq] at hi
    | some i =>
      have hs : i.size = n := by simpa [hq] using hi
      refine ⟨.agg (cs.extract off (off + n)), ?_, ?_⟩
      · simp [part, Sem.run_bind, hagg, sizeOf, typeInfo, hq, hs]
      · simp only [Rs]
        refine ⟨_, rfl, ?_⟩
        have := hl'.take n
        have e : (cs.extract off (off + n)).toList = (cs.toList.drop off).take n := by simp
        rw [e]; exact this
  · have hagg : (isAgg T').run P w = .ok false w := by
      unfold isAgg
      rw [Sem.run_bind, run_underlying hu w]
      cases dd <;> simp_all
    rw [head_drop] at hh
    obtain ⟨v, h1, h2, h3⟩ := hl.get hh
    have : cs[off]? = some v := by simpa using h1
    exact ⟨v, by simp [part, Sem.run_bind, hagg, this], h3⟩
theorem o_field {T : TypeId} {i off n : Nat} {ft : TypeId} [hF : CFld P T i off n ft] {x : Operand} {ds : List DV} {d : DV} (hx : ev σ.env x = some (.agg ds)) (hd : LoadD P ft (ds.drop off) d) :
    OpG P ops ⟨some t, .field T x i, ty, pos, af, none⟩ (tm x) [] σ ⟨[(t, d)], [], []⟩ :=
  OpG.val rfl rfl fun C F γ σ' a w h1 h2 hs => by
    have k1 := hs.ev ((ev_agree h1 (fun _ h => h)).trans hx)
    simp only [Rs] at k1
    obtain ⟨cs, e, hl⟩ := k1
    obtain ⟨fs, f, hu, hf, rfl, rfl⟩ := hF.h
    obtain ⟨v, r1, r2⟩ := part_rs hd hl w
    exact ⟨v, by simp [execOp, e, Instr.field, run_underlying hu, hf, asAgg, r1], r2⟩
theorem o_field_s {T : TypeId} {i off n : Nat} {ft : TypeId} [hF : CFld P T i off n ft] [hT : CSc P ft] {x : Operand} {ds : List DV} {d : DV} (hx : ev σ.env x = some (.agg ds)) (hd : ds[off]? = some d) :
    OpG P ops ⟨some t, .field T x i, ty, pos, af, none⟩ (tm x) [] σ ⟨[(t, d)], [], []⟩ := o_field hx (.sc hT.h (by rw [head_drop]; exact hd))
theorem o_field_r {T : TypeId} {i off n m : Nat} {ft : TypeId} [hF : CFld P T i off n ft] [hT : CRow P ft m] {x : Operand} {ds ds' : List DV} (hx : ev σ.env x = some (.agg ds)) (hn : Nat.ble m (ds.drop off).length = true) (hd : (ds.drop off).take m = ds') :
    OpG P ops ⟨some t, .field T x i, ty, pos, af, none⟩ (tm x) [] σ ⟨[(t, .agg ds')], [], []⟩ := o_field hx (.row m hT.h (Nat.le_of_ble_eq_true hn) (by rw [hd]))
/-- a field's address -/
theorem run_fieldAt {T : TypeId} {i off n : Nat} {ft : TypeId} [hF : CFld P T i off n ft] (b o : Nat) (w : World) : (Instr.fieldAt T (.pointer (some ⟨b, o, none⟩)) i).run P w = .ok (.pointer (some ⟨b, o + off, none⟩)) w := by
  obtain ⟨fs, f, hu, hf, rfl, rfl⟩ := hF.h
  have hs := hF.s
  have hp := hF.p
  cases hq : P.info? f.type with
  | none => simp [hq] at hs
  | some i' =>
    have e : i'.size = n := by simpa [hq] using hs
    have hne : ¬ n = 0 := by omega
    by_cases h0 : f.offset = 0
    · simp [Instr.fieldAt, run_underlying hu, hf, Instr.sureAddr, fieldPlace, sizeOf, typeInfo, hq, e, hne, Addr.add, h0]
    · simp [Instr.fieldAt, run_underlying hu, hf, Instr.sureAddr, fieldPlace, sizeOf, typeInfo, hq, e, hne, Addr.add, h0]
theorem o_fieldAddr {T : TypeId} {i fo n : Nat} {ft : TypeId} [hF : CFld P T i fo n ft] {x : Operand} {id off : Nat} (hx : ev σ.env x = some (.ref id off)) : OpG P ops ⟨some t, .fieldAddr T x i, ty, pos, af, none⟩ (tm x) [] σ ⟨[(t, .ref id (off + fo))], [], []⟩ :=
  OpG.val rfl rfl fun C F γ σ' a w h1 h2 hs => by
    have k1 := hs.ev ((ev_agree h1 (fun _ h => h)).trans hx)
    simp only [Rs] at k1
    obtain ⟨b, hg, e⟩ := k1
    refine ⟨_, by simp [execOp, e, run_fieldAt]; rfl, ?_⟩
    simp only [Rs]; exact ⟨b, hg, rfl⟩
theorem o_fieldAddr_e {T : TypeId} {i fo n : Nat} {ft : TypeId} [hF : CFld P T i fo n ft] {x : Operand} {ds ds' : List DV} (hx : ev σ.env x = some (.eptr ds)) (hd : ds.drop fo = ds') : OpG P ops ⟨some t, .fieldAddr T x i, ty, pos, af, none⟩ (tm x) [] σ ⟨[(t, .eptr ds')], [], []⟩ :=
  OpG.val rfl rfl fun C F γ σ' a w h1 h2 hs => by
    have k1 := hs.ev ((ev_agree h1 (fun _ h => h)).trans hx)
    simp only [Rs] at k1
    obtain ⟨b, o, cs, vs, rest, e, hb, h3, hl⟩ := k1
    refine ⟨_, by simp [execOp, e, run_fieldAt]; rfl, ?_⟩
    simp only [Rs]
    have h5 := hl.drop fo
    rw [hd] at h5
    by_cases hle : fo ≤ vs.length
    · refine ⟨b, o + fo, cs, vs.drop fo, rest, rfl, hb, ?_, h5⟩
      rw [← List.drop_drop, h3, List.drop_append_of_le_length hle]
    · refine ⟨b, o + fo, cs, [], cs.toList.drop (o + fo), rfl, hb, by simp, ?_⟩
      rw [List.drop_of_length_le (by omega)] at h5; exact h5
theorem o_fieldAddr_p {T : TypeId} {i fo n : Nat} {ft : TypeId} [hF : CFld P T i fo n ft] {x : Operand} {id j sz o : Nat} (hx : ev σ.env x = some (.rp id j sz o)) : OpG P ops ⟨some t, .fieldAddr T x i, ty, pos, af, none⟩ (tm x) [] σ ⟨[(t, .rp id j sz (o + fo))], [], []⟩ :=
  OpG.val rfl rfl fun C F γ σ' a w h1 h2 hs => by
    have k1 := hs.ev ((ev_agree h1 (fun _ h => h)).trans hx)
    simp only [Rs] at k1
    obtain ⟨b, n, c, hg, e⟩ := k1
    refine ⟨_, by simp [execOp, e, run_fieldAt]; rfl, ?_⟩
    simp only [Rs]; exact ⟨b, n, c, hg, by rw [Nat.add_assoc]⟩
theorem o_nilCheck {x : Operand} {id off : Nat} (hx : ev σ.env x = some (.ref id off)) : OpG P ops ⟨some t, .nilCheck x, ty, pos, af, none⟩ (tm x) [] σ ⟨[(t, .ref id off)], [], []⟩ :=
  OpG.val rfl rfl fun C F γ σ' a w h1 h2 hs => by
    have k1 := hs.ev ((ev_agree h1 (fun _ h => h)).trans hx)
    have k2 := k1
    simp only [Rs] at k1
    obtain ⟨b, hg, e⟩ := k1
    exact ⟨.pointer (some ⟨b, off, none⟩), by simp [execOp, e], by rw [e] at k2; exact k2⟩
/-- a store into a block -/
theorem run_store_any {w : World} {g o : Nat} {T : TypeId} {cur : Array Value} (T' : TypeId) (v : Value) (hB : w.heap[g]? = some (.cells cur T (0, 0))) (hi : (P.info? T').map (·.size) = some v.cells.size) (hfit : o + v.cells.size ≤ cur.size)
    (h1 : ∀ u ∈ v.cells.toList, u.oneCell' = true) : (storeVar T' ⟨g, o, none⟩ v).run P w = .ok () (w.setRow g (lay cur o v.cells.toList)) := by
  have hst := run_storeCells_at P g o T v.cells.toList 0 cur w hB (by simpa using hfit) h1
  cases hq : P.info? T' with
  | none => simp [hq] at hi
  | some i =>
    have hs : v.cells.size = i.size := by simp [hq] at hi; omega
    simp only [Nat.add_zero] at hst
    simp [storeVar, sizeOf, typeInfo, hq, hs, hst, lay]
def layD (ds : List DV) (o : Nat) (cs : List DV) : List DV := ds.take o ++ cs ++ ds.drop (o + cs.length)
theorem lay_list (cur : Array Value) (o : Nat) (cs : List Value) : (lay cur o cs).toList = cur.toList.take o ++ cs ++ cur.toList.drop (o + cs.length) := by
  unfold lay; simp
theorem Stp.setRow {w : World} {g : Nat} (cs : Array Value) {cur : Array Value} {T : TypeId} {fz : Nat × Nat} (h : w.heap[g]? = some (.cells cur T fz)) : Stp w (w.setRow g cs) (some g) ∧ (w.setRow g cs).heap[g]? = some (.cells cs T fz) :=
  ⟨⟨rfl, rfl, rfl, by simp, fun k _ hk => setRow_other w g k _ (fun e => hk (by rw [e]))⟩, setRow_heap w g cur _ T _ h⟩
theorem over_same (id : Nat) (e : Option HE) (h : Heap) (i : Nat) (e' : HE) (hi : hget ([(id, e)] ++ h) i = some e') : hget ((id, e) :: (id, none) :: h) i = some e' := by
  rw [List.singleton_append, hget_cons] at hi
  rw [hget_cons]
  by_cases hid : id = i
  · rw [if_pos hid] at hi ⊢; exact hi
  · rw [if_neg hid] at hi ⊢; rw [hget_cons, if_neg hid]; exact hi
theorem o_store {T' : TypeId} {x y : Operand} {id off T n : Nat} {ds ds' : List DV} {d : DV} [hT : CSize P T' n] (hx : ev σ.env x = some (.ref id off)) (hy : ev σ.env y = some d) (hh : hget σ.heap id = some (.blk T ds)) (hf : d.flat = true) (hn : Nat.beq n d.cs.length = true) (hl : Nat.ble (off + n) ds.length = true) (hd : layD ds off d.cs = ds') :
    OpG P ops ⟨none, .store T' x y, ty, pos, af, none⟩ (tm x ++ tm y) [id] σ ⟨[], [(id, some (.blk T ds'))], []⟩ :=
  OpG.skip rfl rfl fun C F γ σ' a w h1 h2 hs => by
    obtain ⟨k1, k2⟩ := ev2 hs h1 hx hy
    have hh' := (h2 id (by simp)).trans hh
    obtain ⟨b, cs, e, hg, hb, hrl⟩ := rs_ref hs k1 hh'
    have kc := RsL.cs k2 hs.ws.gone hf
    have hn' : n = d.cs.length := Nat.eq_of_beq_eq_true hn
    have hlen := kc.len
    have hcl := hrl.len
    have hle := Nat.le_of_ble_eq_true hl
    have hrun := run_store_any (P := P) (o := off) T' (a.eval y) hb (by rw [hT.h, hn', ← hlen]; simp) (by simp at hlen hcl; omega) kc.one
    obtain ⟨s1, s2⟩ := Stp.setRow (lay cs off (a.eval y).cells.toList) hb
    refine ⟨_, by simp [execOp, e, Instr.storeAt, Instr.sureAddr, hrun]; rfl, ?_⟩
    have W := hs.ws.turn hh' hg (by simpa [Value.pblk] using s1)
    have W2 := W.put (id0 := id) (e0 := .blk T ds') hg ⟨b, _, rfl, s2, ?_⟩ (fun b' hb' => ?_)
    · exact W2.congr (fun i e hi => over_same id _ _ i e hi) (fun _ h => h)
    · rw [lay_list, ← hd, layD]
      rw [← hlen]
      exact ((hrl.take off).append kc).append (hrl.drop _)
    · have ho := hs.ws.own id _ _ b' hh' hg hb'
      refine ⟨ho.1, ho.2, fun i e g hne hi hgi hbi => ?_⟩
      rw [hget_cons] at hi
      split at hi
      · cases hi
      · exact hne (hs.ws.apart i id e _ g _ b' hi hh' hgi hg hbi hb')
end
end Go.Proofs.YtepkcbalmjnhpaaGreat

/-! ### part K -/
/-
  My engine, part K: guards, calls, states that hold others.
-/
namespace Go.Proofs.YtepkcbalmjnhpaaGreat
open Go.RowKit

/-- guarded operands, read where the guard stands -/
inductive Strips : List (Nat × DV) → List Nat → List (Nat × DV) → Prop
  | nil {e : List (Nat × DV)} : Strips e [] e
  | keep {e e' : List (Nat × DV)} {t : Nat} {L : List Nat} (h : Strips e L e') : Strips e (t :: L) e'
  | strip {e e' : List (Nat × DV)} {t : Nat} {L : List Nat} {c : Bool} {d : DV} (h : look e t = some (.ifb c d)) (hc : c = true) (k : Strips e L e') : Strips e (t :: L) ((t, d) :: e')
def tmsOf (o : Op) : List Nat := o.operands.toList.flatMap tm
theorem Strips.spec {e : List (Nat × DV)} {L : List Nat} {e' : List (Nat × DV)} (h : Strips e L e') : ∀ t, look e' t = look e t ∨ (t ∈ L ∧ ∃ c d, c = true ∧ look e t = some (.ifb c d) ∧ look e' t = some d) := by
  induction h with
  | nil => intro t; exact .inl rfl
  | keep h ih =>
    intro t
    rcases ih t with h | ⟨h1, h2⟩
    · exact .inl h
    · exact .inr ⟨List.mem_cons_of_mem _ h1, h2⟩
  | @strip e' t0 L c d h hc k ih =>
    intro t
    rw [look_cons]
    by_cases ht : t0 = t
    · subst ht; rw [if_pos rfl]; exact .inr ⟨List.mem_cons_self .., c, d, hc, h, rfl⟩
    · rw [if_neg ht]
      rcases ih t with h | ⟨h1, h2⟩
      · exact .inl h
      · exact .inr ⟨List.mem_cons_of_mem _ h1, h2⟩
theorem look_pick (env : List (Nat × DV)) : ∀ (L : List Nat) (x : Nat), look (L.filterMap fun y => (look env y).map (y, ·)) x = if x ∈ L then look env x else none
  | [], x => by simp [look]
  | y :: L, x => by
    have ih := look_pick env L x
    rw [List.filterMap_cons]
    cases hl : look env y with
    | none =>
      simp only [Option.map_none]
      rw [ih]
      by_cases hm : x ∈ L
      · simp [hm]
      · by_cases e : x = y
        · subst e; simp [hl]
        · simp [hm, e]
    | some d =>
      simp only [Option.map_some]
      rw [look_cons, ih]
      by_cases e : y = x
      · subst e; simp [hl]
      · have e' : ¬ x = y := fun h => e h.symm
        simp [e, e']
section
variable {P : Program} {ops : Array Oper} {σ : AS} {t : Nat} {ty : TypeId} {pos : String} {af : Array Edge}
theorem o_guard {op : Op} {g gt : Nat} {want b : Bool} {rt rh : List Nat} {d : DV} {env' : List (Nat × DV)} (hgo : (ops[g]?).bind (·.dst) = some gt) (hb : look σ.env gt = some (.bool b)) (hS : b = want → Strips σ.env (tmsOf op) env')
    (h : b = want → OpG P ops ⟨some t, op, ty, pos, af, none⟩ rt rh ⟨env', σ.heap, σ.used⟩ ⟨[(t, d)], [], []⟩) : OpG P ops ⟨some t, op, ty, pos, af, some (g, want)⟩ (gt :: tmsOf op ++ rt) rh σ ⟨[(t, .ifb (b == want) d)], [], []⟩ := by
  intro C F γ σ' a w h1 h2 h3 h4 hs K Q hK
  have hb' : look σ'.env gt = some (.bool b) := (h1 gt (by simp)).trans hb
  have hsl := (hs.env gt _ hb').2
  have hlt := (hs.env gt _ hb').1
  simp only [Rs] at hsl
  have hy : yielded ops a.tmps g = some b := by
    unfold yielded
    rw [hgo]
    have hsz : gt < a.tmps.size := by rw [hs.size]; exact hlt
    simp only [Option.bind_some]
    rw [Array.getElem?_eq_getElem hsz]
    have : a.tmps[gt] = .bool b := by simpa [Array.getD, hsz] using hsl
    rw [this]
  have hwant : Region.wanted ⟨some t, op, ty, pos, af, some (g, want)⟩ (yielded ops a.tmps) = (b == want) := by
    simp only [Region.wanted, hy]; cases b <;> cases want <;> rfl
  rw [hwant]
  have ht : t < C.n := h4 t rfl
  by_cases hbw : b = want
  · have hT : (b == want) = true := by simp [hbw]
    rw [hT]
    simp only [if_true]
    have hst := (hS hbw).spec
    obtain ⟨L, hL⟩ : ∃ L : List (Nat × DV), ∀ x, look L x = if x ∈ tmsOf op then look env' x else none := ⟨_, look_pick env' (tmsOf op)⟩
    have hs2 : Sat C F γ ⟨L ++ σ'.env, σ'.heap, σ'.used⟩ a w := by
      refine ⟨fun x dx hx => ?_, hs.ws, hs.size, hs.defers⟩
      simp only at hx
      rw [look_append, hL] at hx
      by_cases hm : x ∈ tmsOf op
      · rw [if_pos hm] at hx
        have agree : look σ'.env x = look σ.env x := h1 x (by simp [hm])
        rcases hst x with h | ⟨_, c, d', hc, k1, k2⟩
        · rw [h, agree] at hx
          refine hs.env x dx (agree.trans ?_)
          cases hl : look σ.env x <;> simp_all
        · rw [k2] at hx; simp at hx; subst hx
          have := hs.env x _ (agree.trans k1)
          refine ⟨this.1, ?_⟩
          have h5 := this.2
          simp only [Rs] at h5
          exact h5.1 hc
      · rw [if_neg hm] at hx; exact hs.env x dx (by simpa using hx)
    have key := h hbw C F γ ⟨L ++ σ'.env, σ'.heap, σ'.used⟩ a w (fun x hx => ?_) h2 (by simp) h4 hs2 K Q (fun F' γ' a' w' hF hs' => hK F' γ' a' w' hF ?_)
    · have hw : Region.wanted ⟨some t, op, ty, pos, af, none⟩ (yielded ops a.tmps) = true := rfl
      rw [if_pos hw] at key
      exact key
    · -- what is read agrees
      simp only
      rw [look_append, hL]
      by_cases hm : x ∈ tmsOf op
      · rw [if_pos hm]
        have agree : look σ'.env x = look σ.env x := h1 x (by simp [hm])
        rcases hst x with h | ⟨_, c, d', hc, k1, k2⟩
        · rw [agree, ← h]; cases look env' x <;> rfl
        · rw [k2]; rfl
      · rw [if_neg hm]
        rcases hst x with h | ⟨hx', _⟩
        · rw [h, ← h1 x (by simp [hx])]; rfl
        · exact absurd hx' hm
    · -- back to the state as it was
      refine ⟨fun x dx hx => ?_, hs'.ws.congr (fun _ _ h => h) (fun _ h => h), hs'.size, hs'.defers⟩
      simp only [AS.app, List.singleton_append] at hx
      rw [look_cons] at hx
      by_cases hxt : t = x
      · rw [if_pos hxt] at hx; injection hx with hx; subst hx; subst hxt
        have := hs'.env t d (by simp only [AS.app, List.singleton_append]; rw [look_cons, if_pos rfl])
        refine ⟨this.1, ?_⟩
        simp only [Rs]
        exact ⟨fun _ => this.2, fun h => by rw [hT] at h; cases h⟩
      · rw [if_neg hxt] at hx
        have get : ∀ d1, (look L x).or (look σ'.env x) = some d1 → x < C.n ∧ Rs F' γ' d1 (a'.tmps.getD x undef) := fun d1 h => hs'.env x d1 (by simp only [AS.app, List.singleton_append]; rw [look_cons, if_neg hxt, look_append]; exact h)
        rw [hL] at get
        by_cases hm : x ∈ tmsOf op
        · rw [if_pos hm] at get
          have agree : look σ'.env x = look σ.env x := h1 x (by simp [hm])
          rcases hst x with h | ⟨_, c, d', hc, k1, k2⟩
          · refine get dx ?_
            rw [h, ← agree, hx]; rfl
          · rw [agree, k1] at hx; injection hx with hx; subst hx
            have := get d' (by rw [k2]; rfl)
            refine ⟨this.1, ?_⟩
            simp only [Rs]
            exact ⟨fun _ => this.2, fun h => by rw [hc] at h; cases h⟩
        · rw [if_neg hm] at get
          exact get dx (by simpa using hx)
  · have hT : (b == want) = false := by simp [hbw]
    rw [hT]
    simp only [Bool.false_eq_true, if_false]
    refine hK F γ _ _ (FLe.refl _) (hs.put ht ?_)
    simp only [Rs]
    exact ⟨fun h => (by rw [hT] at h; cases h), fun _ => trivial⟩
theorem o_guardT {op : Op} {g gt : Nat} {b : Bool} {rt rh : List Nat} {d : DV} {env' : List (Nat × DV)} (hgo : (ops[g]?).bind (·.dst) = some gt) (hb : look σ.env gt = some (.bool b)) (hS : b = true → Strips σ.env (tmsOf op) env')
    (h : b = true → OpG P ops ⟨some t, op, ty, pos, af, none⟩ rt rh ⟨env', σ.heap, σ.used⟩ ⟨[(t, d)], [], []⟩) : OpG P ops ⟨some t, op, ty, pos, af, some (g, true)⟩ (gt :: tmsOf op ++ rt) rh σ ⟨[(t, .ifb b d)], [], []⟩ := by
  have := o_guard hgo hb hS h
  rwa [show (b == true) = b by cases b <;> rfl] at this
theorem o_guardF {op : Op} {g gt : Nat} {b : Bool} {rt rh : List Nat} {d : DV} {env' : List (Nat × DV)} (hgo : (ops[g]?).bind (·.dst) = some gt) (hb : look σ.env gt = some (.bool b)) (hS : b = false → Strips σ.env (tmsOf op) env')
    (h : b = false → OpG P ops ⟨some t, op, ty, pos, af, none⟩ rt rh ⟨env', σ.heap, σ.used⟩ ⟨[(t, d)], [], []⟩) : OpG P ops ⟨some t, op, ty, pos, af, some (g, false)⟩ (gt :: tmsOf op ++ rt) rh σ ⟨[(t, .ifb (!b) d)], [], []⟩ := by
  have := o_guard hgo hb hS h
  rwa [show (b == false) = (!b) by cases b <;> rfl] at this
theorem nt {b : Bool} (h : b = false) : (!b) = true := by rw [h]; rfl
def evL (e : List (Nat × DV)) : List Operand → Option (List DV)
  | [] => some []
  | x :: xs => match ev e x, evL e xs with
    | some d, some ds => some (d :: ds)
    | _, _ => none
theorem evL_agree {rt : List Nat} {e e' : List (Nat × DV)} (h : ∀ t ∈ rt, look e' t = look e t) : ∀ {xs : List Operand}, (∀ t ∈ xs.flatMap tm, t ∈ rt) → evL e' xs = evL e xs
  | [], _ => rfl
  | x :: xs, hx => by
    simp only [List.flatMap_cons, List.mem_append] at hx
    rw [evL, evL, ev_agree h (fun t ht => hx t (.inl ht)), evL_agree h (fun t ht => hx t (.inr ht))]
theorem Sat.evs {C : Ctx} {F : FMap} {γ : Gam} {σ : AS} {a : Act} {w : World} (H : Sat C F γ σ a w) : ∀ {xs : List Operand} {ds : List DV}, evL σ.env xs = some ds → RsT F γ ds (xs.map a.eval)
  | [], ds, h => by simp only [evL] at h; injection h with h; subst h; simp [RsT]
  | x :: xs, ds, h => by
    simp only [evL] at h
    cases h1 : Proofs.YtepkcbalmjnhpaaGreat.ev σ.env x with
    | none => rw [h1] at h; cases h
    | some d =>
      cases h2 : evL σ.env xs with
      | none => rw [h1, h2] at h; cases h
      | some ds' =>
        rw [h1, h2] at h; injection h with h; subst h
        simp only [List.map_cons, RsT]
        exact ⟨_, _, rfl, H.ev h1, H.evs h2⟩
class CFn (P : Program) (f : FuncId) : Prop where
  h : (P.funcs[f]?).map (fun fn => (fn.name == "runtime.NumGoroutine", fn.body.isSome)) = some (false, true)
theorem run_callFunc {f : FuncId} [hf : CFn P f] (vs : Array Value) (w : World) : (callFunc f vs).run P w = .ok (.enter f vs) w := by
  have := hf.h
  cases hq : P.funcs[f]? with
  | none => simp [hq] at this
  | some fn =>
    simp only [hq, Option.map_some, Option.some.injEq, Prod.mk.injEq] at this
    obtain ⟨h1, h2⟩ := this
    have h3 : ¬ fn.body = none := by rintro e; rw [e] at h2; cases h2
    have h4 : ¬ fn.name = "runtime.NumGoroutine" := by simpa using h1
    simp [callFunc, program, Sem.run, hq, h3, h4]
theorem run_call {f : FuncId} [hf : CFn P f] (o : Oper) (xs : Array Operand) (ats : Array TypeId) (ho : o.op = .call ⟨.value (.func f), xs, ats⟩) (a : Act) (w : World) : (execOp a.eval o).run P w = .ok (.enter f (xs.map a.eval)) w := by
  have : a.eval (.func f) = .func (.func f) #[] #[] := rfl
  simp [execOp, ho, resolve, this, Deferred.ofValue, invoke, run_callFunc]
theorem o_call {f : FuncId} [hf : CFn P f] {xs : Array Operand} {ats : Array TypeId} {ds args : List DV} {r : DV} (hc : PCall P f args r) (ha : evL σ.env xs.toList = some ds) (hle : DLeL ds args) (hp : idsL args = []) :
    OpG P ops ⟨some t, .call ⟨.value (.func f), xs, ats⟩, ty, pos, af, none⟩ (xs.toList.flatMap tm) [] σ ⟨[(t, r)], [], []⟩ := by
  intro C F γ σ' a w h1 h2 h3 h4 hs K Q hK
  simp only [Region.wanted, ↓reduceIte]
  refine wpIn_of_enter (fun c hc => by cases hc) (run_call _ xs ats rfl a w) ?_
  have hv := hle.rsT (hs.evs ((evL_agree h1 (fun _ h => h)).trans ha))
  have hv' : RsT F Gam.no args (xs.toList.map a.eval) := RsT_ids args _ (by rw [hp]; simp) hv
  have e : (xs.toList.map a.eval).toArray = xs.map a.eval := by rw [← Array.toList_map]
  have := hc C F γ σ'.heap σ'.used w _ hs.ws hv'
  rw [e] at this
  refine this.mono ?_
  rintro e w' ⟨v, F', rfl, k1, k2, k3⟩
  exact ⟨v, rfl, hK F' γ _ _ k1 ((hs.mono k1 (GLe.refl _) k2).put (h4 t rfl) (k3.mono (FLe.refl _) (GLe.no _)))⟩
inductive PreOk (f : Nat → Nat) (heap : Heap) : Heap → Prop
  | nil : PreOk f heap []
  | cons {i : Nat} {e : HE} {h : Heap} (he : hget heap (f i) = some (e.ren f)) (k : PreOk f heap h) : PreOk f heap ((i, some e) :: h)
theorem PreOk.spec {f : Nat → Nat} {heap h : Heap} (k : PreOk f heap h) : ∀ i e, hget h i = some e → hget heap (f i) = some (e.ren f) := by
  induction k with
  | nil => intro i e he; simp [hget, look] at he
  | cons he k ih =>
    intro i e hi
    rw [hget_cons] at hi
    split at hi
    · rename_i e1; subst e1; injection hi with hi; subst hi; exact he
    · exact ih i e hi
def injOk (f : Nat → Nat) (l : List Nat) : Bool := l.all fun i => l.all fun j => !Nat.beq (f i) (f j) || Nat.beq i j
theorem injOk_spec {f : Nat → Nat} {l : List Nat} (h : injOk f l = true) : ∀ i ∈ l, ∀ j ∈ l, f i = f j → i = j := by
  intro i hi j hj e
  have := List.all_eq_true.1 (List.all_eq_true.1 h i hi) j hj
  rw [e] at this
  simp at this
  exact this
theorem o_callA {fn : FuncId} [hf : CFn P fn] {xs : Array Operand} {ats : Array TypeId} {K : Con} (f : Nat → Nat) (hc : ACall P fn K) {ds : List DV} (ha : evL σ.env xs.toList = some ds) (hle : DLeL ds (renL f K.args)) (hpre : PreOk f σ.heap K.pre) (hi : injOk f (K.pre.map (·.1) ++ K.new) = true) :
    OpG P ops ⟨some t, .call ⟨.value (.func fn), xs, ats⟩, ty, pos, af, none⟩ (xs.toList.flatMap tm) (K.pre.map (fun p => f p.1)) σ ⟨[(t, K.res.ren f)], renH f K.post, K.new.map f⟩ := by
  intro C F γ σ' a w h1 h2 h3 h4 hs K' Q hK
  simp only [Region.wanted, ↓reduceIte]
  refine wpIn_of_enter (fun c hc => by cases hc) (run_call _ xs ats rfl a w) ?_
  have hv := hle.rsT (hs.evs ((evL_agree h1 (fun _ h => h)).trans ha))
  have e : (xs.toList.map a.eval).toArray = xs.map a.eval := by rw [← Array.toList_map]
  have := hc C F γ σ'.heap σ'.used w _ f (fun i e he => by
    rw [h2 (f i) (List.mem_map.2 ⟨_, hget_mem he, rfl⟩)]; exact hpre.spec i e he) (fun i hin => h3 (f i) (List.mem_map.2 ⟨i, hin, rfl⟩)) (injOk_spec hi) hs.ws hv
  rw [e] at this
  refine this.mono ?_
  rintro e w' ⟨v, F', γ', rfl, k1, k2, k3, k4⟩
  exact ⟨v, rfl, hK F' γ' _ _ k1 ((hs.mono k1 k2 k3).put (h4 t rfl) k4)⟩
end
end Go.Proofs.YtepkcbalmjnhpaaGreat

/-! ### part L -/
/-
  My engine, part L: slices.
-/
namespace Go.Proofs.YtepkcbalmjnhpaaGreat
open Go.RowKit

/-- the zero of a type as data -/
def zeroDV (z : Value) : DV := match z with
  | .agg cs => .agg (cs.toList.map constDV)
  | v => constDV v
class CSl (P : Program) (t : TypeId) (e : outParam TypeId) (sz bytes : outParam Nat) (zd : outParam DV) : Prop where
  h : ∃ z, El P t e z sz bytes ∧ zeroDV z = zd
theorem CSl.und {P : Program} {t e : TypeId} {sz bytes : Nat} {zd : DV} (h : CSl P t e sz bytes zd) : P.underlying t = some (.slice e) := by obtain ⟨z, h, _⟩ := h.h; exact h.under
theorem CSl.size {P : Program} {t e : TypeId} {sz bytes : Nat} {zd : DV} (h : CSl P t e sz bytes zd) (w : World) : (sizeOf e).run P w = .ok sz w := by
  obtain ⟨z, h, _⟩ := h.h
  obtain ⟨i, hi, _, hs, _⟩ := h.info
  simp [sizeOf, typeInfo, hi, hs]
section
variable {P : Program} {ops : Array Oper} {σ : AS} {t : Nat} {ty : TypeId} {pos : String} {af : Array Edge}
theorem run_len {T : TypeId} {e : TypeId} (hu : P.underlying T = some (.slice e)) (o : Oper) (x : Operand) (ho : o.op = .call ⟨.builtin .len, #[x], #[T]⟩) (a : Act) (w : World) {A : Option Addr} {n c : Nat} (hx : a.eval x = .slice A n c) : (execOp a.eval o).run P w = .ok (.value (.int .i64 n)) w := by
  simp [execOp, ho, resolve, invoke, builtin, Builtin.len_, run_underlying hu, hx, goInt]
theorem o_len {T e : TypeId} {sz0 by0 : Nat} {zd : DV} [hT : CSl P T e sz0 by0 zd] {x : Operand} {sz : Nat} {els : List DV} (hx : ev σ.env x = some (.sl sz els)) : OpG P ops ⟨some t, .call ⟨.builtin .len, #[x], #[T]⟩, ty, pos, af, none⟩ (tm x) [] σ ⟨[(t, .int .i64 els.length)], [], []⟩ :=
  OpG.val rfl rfl fun C F γ σ' a w h1 _ hs => by
    have k1 := hs.ev ((ev_agree h1 (fun _ h => h)).trans hx)
    simp only [Rs] at k1
    obtain ⟨A, c, e, _⟩ := k1
    exact ⟨.int .i64 els.length, run_len hT.und _ x rfl a w e, by simp only [Rs]⟩
theorem o_len_n {T e : TypeId} {sz0 by0 : Nat} {zd : DV} [hT : CSl P T e sz0 by0 zd] {x : Operand} (hx : ev σ.env x = some .nils) : OpG P ops ⟨some t, .call ⟨.builtin .len, #[x], #[T]⟩, ty, pos, af, none⟩ (tm x) [] σ ⟨[(t, .int .i64 0)], [], []⟩ :=
  OpG.val rfl rfl fun C F γ σ' a w h1 _ hs => by
    have k1 := hs.ev ((ev_agree h1 (fun _ h => h)).trans hx)
    simp only [Rs] at k1
    exact ⟨.int .i64 0, run_len hT.und _ x rfl a w k1, by simp only [Rs]⟩
theorem rs_row {C : Ctx} {F : FMap} {γ : Gam} {σ' : AS} {a : Act} {w : World} (hs : Sat C F γ σ' a w) {id E sz : Nat} {els : List DV} {v : Value} (hv : Rs F γ (.row id) v) (hh : hget σ'.heap id = some (.row E sz els)) :
    ∃ A c vs, v = .slice A els.length c ∧ γ id = some v ∧ w.ownsRow 0 E sz v els.length vs ∧ RsE F sz els vs := by
  obtain ⟨g, hg, vs, ho, hE⟩ := hs.ws.ent id _ hh
  simp only [Rs] at hv
  rw [hg] at hv; injection hv with hv; subst hv
  obtain ⟨A, c, e⟩ := own_form ho
  exact ⟨A, c, vs, e, hg, ho, hE⟩
theorem o_len_r {T e : TypeId} {sz0 by0 : Nat} {zd : DV} [hT : CSl P T e sz0 by0 zd] {x : Operand} {id E sz : Nat} {els : List DV} (hx : ev σ.env x = some (.row id)) (hh : hget σ.heap id = some (.row E sz els)) : OpG P ops ⟨some t, .call ⟨.builtin .len, #[x], #[T]⟩, ty, pos, af, none⟩ (tm x) [id] σ ⟨[(t, .int .i64 els.length)], [], []⟩ :=
  OpG.val rfl rfl fun C F γ σ' a w h1 h2 hs => by
    have k1 := hs.ev ((ev_agree h1 (fun _ h => h)).trans hx)
    obtain ⟨A, c, vs, e, _⟩ := rs_row hs k1 ((h2 id (by simp)).trans hh)
    exact ⟨.int .i64 els.length, run_len hT.und _ x rfl a w e, by simp only [Rs]⟩
/-- a bound of a slice expression -/
def Bd (σ : AS) (x : Option Operand) (dflt n : Nat) : Prop := match x with
  | none => n = dflt
  | some y => ∃ k, ev σ.env y = some (.int k (n : Int))
theorem Bd.no {σ : AS} {d : Nat} : Bd σ none d d := rfl
theorem Bd.at {σ : AS} {y : Operand} {d n : Nat} {k : IntKind} {m : Int} (h : ev σ.env y = some (.int k m)) (hm : m = (n : Int)) : Bd σ (some y) d n := ⟨k, by rw [h, hm]⟩
def tmO : Option Operand → List Nat
  | none => []
  | some x => tm x
theorem run_bound {k : IntKind} {n y : Nat} (h : n ≤ y) (cd : BoundsCode) (w : World) : (Instr.sliceBound (.int k (n : Int)) y cd).run P w = .ok n w := by
  simp [Instr.sliceBound, asIntOf, h]
theorem run_bounds {C : Ctx} {F : FMap} {γ : Gam} {σ' : AS} {a : Act} {w : World} (hs : Sat C F γ σ' a w) {lo hi : Option Operand} {l h len cap : Nat} (hl : Bd σ' lo 0 l) (hh : Bd σ' hi len h) (h1 : l ≤ h) (h2 : h ≤ cap) :
    (Instr.sliceBounds true len cap (lo.map a.eval) (hi.map a.eval) none).run P w = .ok (l, h, cap) w := by
  have e1 : ∀ x k n, ev σ'.env x = some (.int k n) → a.eval x = .int k n := fun x k n hx => by have := hs.ev hx; simpa only [Rs] using this
  cases lo with
  | none =>
    cases hi with
    | none => simp only [Bd] at hl hh; subst hl; subst hh; simp [Instr.sliceBounds]
    | some y =>
      obtain ⟨k, hk⟩ := hh
      simp only [Bd] at hl; subst hl
      simp [Instr.sliceBounds, e1 _ _ _ hk, run_bound h2]
  | some x =>
    obtain ⟨k', hk'⟩ := hl
    cases hi with
    | none => simp only [Bd] at hh; subst hh; simp [Instr.sliceBounds, e1 _ _ _ hk', run_bound h1]
    | some y =>
      obtain ⟨k, hk⟩ := hh
      simp [Instr.sliceBounds, e1 _ _ _ hk, e1 _ _ _ hk', run_bound h2, run_bound h1]
theorem Bd.agree {rt : List Nat} {σ' : AS} (h : ∀ t ∈ rt, look σ'.env t = look σ.env t) {x : Option Operand} (hx : ∀ t ∈ tmO x, t ∈ rt) {d n : Nat} (hb : Bd σ x d n) : Bd σ' x d n := by
  cases x with
  | none => exact hb
  | some y => obtain ⟨k, hk⟩ := hb; exact ⟨k, by rw [ev_agree h hx]; exact hk⟩
theorem o_slice {T e : TypeId} {sz by0 : Nat} {zd : DV} [hT : CSl P T e sz by0 zd] {x : Operand} {lo hi : Option Operand} {els : List DV} (l h : Nat) (hx : ev σ.env x = some (.sl sz els)) (hl : Bd σ lo 0 l) (hh : Bd σ hi els.length h) (h1 : l ≤ h) (h2 : h ≤ els.length) :
    OpG P ops ⟨some t, .slice T x lo hi none, ty, pos, af, none⟩ (tm x ++ tmO lo ++ tmO hi) [] σ ⟨[(t, .sl sz ((els.take h).drop l))], [], []⟩ :=
  OpG.val rfl rfl fun C F γ σ' a w hag _ hs => by
    have k1 := hs.ev ((ev_agree hag (fun _ h => by simp [h])).trans hx)
    simp only [Rs] at k1
    obtain ⟨A, c, e, hok, hd⟩ := k1
    have hb := run_bounds (P := P) hs (hl.agree hag (fun _ h => by simp [h])) (hh.agree hag (fun _ h => by simp [h])) h1 (Nat.le_trans h2 hok.2.1)
    refine ⟨.slice (if c = l then A else A.map (·.add (l * sz))) (h - l) (c - l), ?_, ?_⟩
    · simp [execOp, Instr.sliceAt, Instr.slice, run_underlying hT.und, e, hb, hT.size]
    · simp only [Rs]
      have hlen : ((els.take h).drop l).length = h - l := by simp; omega
      refine ⟨_, c - l, by rw [hlen], ⟨fun hn => ?_, by have := hok.2.1; rw [hlen]; omega, by have := hok.2.2; omega⟩, fun hne => ?_⟩
      · have hA : A = none := by
          split at hn
          · exact hn
          · cases A <;> simp_all
        have := hok.1 hA
        omega
      · have hlt : l < h := by
          rcases Nat.lt_or_ge l h with h | h
          · exact h
          · exact absurd (List.eq_nil_of_length_eq_zero (by omega)) hne
        have hne' : els ≠ [] := by rintro rfl; simp at h2; omega
        obtain ⟨b, o, cs, vs, rest, rfl, hF, hcs, hE⟩ := hd hne'
        have hcl : ¬ c = l := by have := hok.2.1; omega
        have hvl := hE.len
        have hmul : h * sz ≤ vs.length := by rw [hvl]; exact Nat.mul_le_mul_right _ h2
        have hmul2 : l * sz ≤ h * sz := Nat.mul_le_mul_right _ h1
        refine ⟨b, o + l * sz, cs, (vs.take (h * sz)).drop (l * sz), vs.drop (h * sz) ++ rest, ?_, hF, ?_, (hE.take h).drop l⟩
        · simp only [hcl, if_false, Option.map_some, Addr.add]
          by_cases h0 : l * sz = 0 <;> simp [h0]
        · rw [← List.drop_drop, hcs, List.drop_append_of_le_length (by omega)]
          rw [← List.append_assoc]
          congr 1
          rw [List.drop_take]
          have : vs.drop (l * sz) = (vs.drop (l * sz)).take (h * sz - l * sz) ++ (vs.drop (l * sz)).drop (h * sz - l * sz) := (List.take_append_drop _ _).symm
          rw [List.drop_drop, show l * sz + (h * sz - l * sz) = h * sz by omega] at this
          exact this
theorem o_indexAddr {T e : TypeId} {sz by0 : Nat} {zd : DV} [hT : CSl P T e sz by0 zd] {x y : Operand} {els : List DV} {k : IntKind} {n : Int} {d : DV} (i : Nat) (hx : ev σ.env x = some (.sl sz els)) (hy : ev σ.env y = some (.int k n)) (hn : n = (i : Int)) (hd : els[i]? = some d) (hf : d.flat = true) :
    OpG P ops ⟨some t, .indexAddr T x y, ty, pos, af, none⟩ (tm x ++ tm y) [] σ ⟨[(t, .eptr d.cs)], [], []⟩ :=
  OpG.val rfl rfl fun C F γ σ' a w hag _ hs => by
    obtain ⟨k1, k2⟩ := ev2 hs hag hx hy
    simp only [Rs] at k1 k2
    obtain ⟨A, c, e, hok, hdd⟩ := k1
    have hlt : i < els.length := by
      rcases Nat.lt_or_ge i els.length with h | h
      · exact h
      · rw [List.getElem?_eq_none h] at hd; cases hd
    obtain ⟨b, o, cs, vs, rest, rfl, hF, hcs, hE⟩ := hdd (by rintro rfl; simp at hlt)
    subst hn
    obtain ⟨v, q1, q2, q3, q4⟩ := hE.get hd
    refine ⟨.pointer (some ⟨b, o + i * sz, none⟩), ?_, ?_⟩
    · by_cases h0 : i * sz = 0
      · simp [execOp, Instr.indexAt, e, k2, asIntOf, run_underlying hT.und, hlt, hT.size, Addr.add, h0]
      · simp [execOp, Instr.indexAt, e, k2, asIntOf, run_underlying hT.und, hlt, hT.size, Addr.add, h0]
    · simp only [Rs]
      have hvl := hE.len
      have hm : (i + 1) * sz ≤ els.length * sz := Nat.mul_le_mul_right _ hlt
      rw [Nat.succ_mul] at hm
      refine ⟨b, o + i * sz, cs, v.cells.toList, vs.drop (i * sz + sz) ++ rest, rfl, hF, ?_, RsL.cs q4 GOne.no hf⟩
      rw [← List.drop_drop, hcs, List.drop_append_of_le_length (by omega), ← q1, ← List.append_assoc]
      congr 1
      rw [← List.drop_drop, List.take_append_drop]
theorem o_indexAddr_r {T e : TypeId} {sz by0 : Nat} {zd : DV} [hT : CSl P T e sz by0 zd] {x y : Operand} {id E : Nat} {els : List DV} {k : IntKind} {n : Int} (i : Nat) (hx : ev σ.env x = some (.row id)) (hh : hget σ.heap id = some (.row E sz els)) (hy : ev σ.env y = some (.int k n)) (hn : n = (i : Int)) (hi : i < els.length) :
    OpG P ops ⟨some t, .indexAddr T x y, ty, pos, af, none⟩ (tm x ++ tm y) [id] σ ⟨[(t, .rp id i sz 0)], [], []⟩ :=
  OpG.val rfl rfl fun C F γ σ' a w hag h2 hs => by
    obtain ⟨k1, k2⟩ := ev2 hs hag hx hy
    obtain ⟨A, c, vs, e, hg, ho, hE⟩ := rs_row hs k1 ((h2 id (by simp)).trans hh)
    simp only [Rs] at k2
    subst hn
    rcases ho.2 with ⟨h1, h0⟩ | ⟨b, cap, cur, h1, _, hb, r⟩
    · omega
    · rw [h1] at e hg
      injection e with e1 e2 e3; subst e1
      refine ⟨.pointer (some ⟨b, i * sz, none⟩), ?_, ?_⟩
      · by_cases h0 : i * sz = 0
        · simp [execOp, Instr.indexAt, h1, k2, asIntOf, run_underlying hT.und, hi, hT.size, Addr.add, h0]
        · simp [execOp, Instr.indexAt, h1, k2, asIntOf, run_underlying hT.und, hi, hT.size, Addr.add, h0]
      · simp only [Rs]; exact ⟨b, _, _, hg, by simp⟩
/-- what an append takes its cells from -/
inductive Src (σ : AS) (sz : Nat) : DV → List DV → List Nat → Prop
  | sl {els : List DV} : Src σ sz (.sl sz els) els []
  | nils : Src σ sz .nils [] []
  | row {id E : Nat} {els : List DV} (h : hget σ.heap id = some (.row E sz els)) : Src σ sz (.row id) els [id]
theorem Src.read {C : Ctx} {F : FMap} {γ : Gam} {σ' : AS} {a : Act} {w : World} (hs : Sat C F γ σ' a w) {sz : Nat} {d : DV} {els : List DV} {rh : List Nat} (h : Src σ sz d els rh) (h2 : ∀ id ∈ rh, hget σ'.heap id = hget σ.heap id) {v : Value} (hv : Rs F γ d v) :
    ∃ A c vs, v = .slice A els.length c ∧ At w A vs ∧ RsE F sz els vs := by
  cases h with
  | sl =>
    simp only [Rs] at hv
    obtain ⟨A, c, e, hok, hd⟩ := hv
    by_cases hne : els = []
    · subst hne; exact ⟨A, c, [], e, At.nil _ _, by simp [RsE]⟩
    · obtain ⟨b, o, cs, vs, rest, rfl, hF, hcs, hE⟩ := hd hne
      obtain ⟨t, fz, h1⟩ := hs.ws.fs b cs hF
      refine ⟨_, c, vs, e, At.mk (fun _ => ⟨b, o, rfl, fun j v hv => ?_⟩), hE⟩
      have := blk_range h1 o
      rw [hcs] at this
      exact this j v (by rw [List.getElem?_append_left]; exact hv; exact (List.getElem?_eq_some_iff.1 hv).1)
  | nils => simp only [Rs] at hv; exact ⟨none, 0, [], hv, At.nil _ _, by simp [RsE]⟩
  | row h =>
    obtain ⟨A, c, vs, e, _, ho, hE⟩ := rs_row hs hv ((h2 _ (by simp)).trans h)
    rw [e] at ho
    exact ⟨A, c, vs, e, At.of_own ho, hE⟩
theorem run_append {T : TypeId} (o : Oper) (x y : Operand) (ho : o.op = .call ⟨.builtin .append, #[x, y], #[T, T]⟩) (a : Act) (w : World) {vx vy v : Value} {w' : World} (hx : a.eval x = vx) (hy : a.eval y = vy) (hr : (Builtin.append_ #[T, T] o.type #[vx, vy]).run P w = .ok v w') : (execOp a.eval o).run P w = .ok (.value v) w' := by
  simp [execOp, ho, resolve, invoke, builtin, hx, hy, hr]
/-- append onto nil -/
theorem o_append_n {T e : TypeId} {sz bytes : Nat} {zd : DV} [hT : CSl P T e sz bytes zd] {x y : Operand} {dy : DV} {ys : List DV} {rh : List Nat} (hx : ev σ.env x = some .nils) (hy : ev σ.env y = some dy) (hS : Src σ sz dy ys rh) (hb : ys.length * bytes ≤ 140737488355328 ∧ ys.length ≤ 140737488355328) :
    OpG P ops ⟨some t, .call ⟨.builtin .append, #[x, y], #[T, T]⟩, ty, pos, af, none⟩ (tm x ++ tm y) rh σ ⟨[(t, .row t)], [(t, some (.row e sz ys))], [t]⟩ :=
  OpG.gen rfl rfl fun C F γ σ' a w hag h2 h3 hs => by
    obtain ⟨k1, k2⟩ := ev2 hs hag hx hy
    simp only [Rs] at k1
    have hn : t ∉ σ'.used := h3 t (by simp)
    obtain ⟨A, c, vs, ey, hat, hE⟩ := hS.read hs h2 k2
    obtain ⟨z, hEl, _⟩ := hT.h
    obtain ⟨A', c', w', hrun, ho, hg, hob⟩ := run_app (P := P) w hEl ty 0 (.slice none 0 0) 0 [] (own_nil _ _ _ _) A ys.length c vs hE.len hat hE.one (by rw [Nat.zero_add]; exact hb.1) (by rw [Nat.zero_add]; exact hb.2) (Nat.zero_le _)
    rw [Nat.zero_add, List.nil_append] at ho
    have S : Stp w w' none := Stp.of_grown (by simpa [Value.ownBlock] using hg)
    refine ⟨.slice A' (0 + ys.length) c', w', F, γ.up t (.slice A' ys.length c'), run_append _ x y rfl a w k1 ey hrun, FLe.refl _, Gam.up_le _ (hs.ws.fresh hn), ?_, ?_⟩
    · refine (hs.ws.quiet S).add hn ⟨vs, ho, hE⟩ (fun b hb' => ?_)
      rw [pblk_row ho] at hb'
      have hbs : b = w.heap.size := by
        rcases hob with h | h
        · simp only [Value.ownBlock, Nat.zero_add] at h hb'; rw [hb'] at h; cases h
        · simp only [Nat.zero_add] at h; rw [hb'] at h; injection h
      subst hbs
      refine ⟨?_, .inr hs.ws.size, fun id' e' g' hh hg' hb'' => ?_⟩
      · cases hF : F w.heap.size with
        | none => rfl
        | some cs => exact absurd (hs.ws.flt hF) (Nat.lt_irrefl _)
      · obtain ⟨g1, q1, q2⟩ := hs.ws.ent id' e' hh
        rw [hg'] at q1; injection q1 with q1; subst q1
        exact absurd (q2.lt _ hb'') (Nat.lt_irrefl _)
    · simp only [Rs, Nat.zero_add]; exact Gam.up_same _ _ _
/-- append onto a row of the call's own -/
theorem o_append {T e : TypeId} {sz bytes : Nat} {zd : DV} [hT : CSl P T e sz bytes zd] {x y : Operand} {id : Nat} {xs : List DV} {dy : DV} {ys : List DV} {rh : List Nat} (hx : ev σ.env x = some (.row id)) (hh : hget σ.heap id = some (.row e sz xs)) (hy : ev σ.env y = some dy) (hS : Src σ sz dy ys rh)
    (hb : (xs.length + ys.length) * bytes ≤ 140737488355328 ∧ xs.length + ys.length ≤ 140737488355328) :
    OpG P ops ⟨some t, .call ⟨.builtin .append, #[x, y], #[T, T]⟩, ty, pos, af, none⟩ (tm x ++ tm y) (id :: rh) σ ⟨[(t, .row t)], [(t, some (.row e sz (xs ++ ys))), (id, none)], [t]⟩ :=
  OpG.gen rfl rfl fun C F γ σ' a w hag h2 h3 hs => by
    obtain ⟨k1, k2⟩ := ev2 hs hag hx hy
    have hn : t ∉ σ'.used := h3 t (by simp)
    have hh' := (h2 id (by simp)).trans hh
    obtain ⟨A0, c0, vs0, e0, hg0, ho0, hE0⟩ := rs_row hs k1 hh'
    obtain ⟨A, c, vs, ey, hat, hE⟩ := hS.read hs (fun i hi => h2 i (by simp [hi])) k2
    obtain ⟨z, hEl, _⟩ := hT.h
    obtain ⟨A', c', w', hrun, ho, hg, hob⟩ := run_app (P := P) w hEl ty 0 _ xs.length vs0 ho0 A ys.length c vs hE.len hat hE.one hb.1 hb.2 (Nat.zero_le _)
    have S : Stp w w' (Value.pblk (a.eval x)) := by rw [pblk_row ho0]; exact Stp.of_grown hg
    refine ⟨.slice A' (xs.length + ys.length) c', w', F, γ.up t (.slice A' (xs.length + ys.length) c'), run_append _ x y rfl a w rfl ey hrun, FLe.refl _, Gam.up_le _ (hs.ws.fresh hn), ?_, ?_⟩
    · have W := hs.ws.turn hh' hg0 S
      refine W.add hn ⟨vs0 ++ vs, by rw [List.length_append]; exact ho, hE0.append hE⟩ (fun b hb' => ?_)
      rw [pblk_row ho] at hb'
      rcases hob with h | h
      · rw [hb', ← pblk_row ho0] at h
        have q := hs.ws.own id _ _ b hh' hg0 h.symm
        refine ⟨q.1, q.2, fun id' e' g' hh2 hg' hb'' => ?_⟩
        rw [hget_cons] at hh2
        split at hh2
        · cases hh2
        · rename_i hne; exact hne (hs.ws.apart id id' _ e' _ g' b hh' hh2 hg0 hg' h.symm hb'')
      · rw [hb'] at h; injection h with h; subst h
        refine ⟨?_, .inr hs.ws.size, fun id' e' g' hh2 hg' hb'' => ?_⟩
        · cases hF : F w.heap.size with
          | none => rfl
          | some cs => exact absurd (hs.ws.flt hF) (Nat.lt_irrefl _)
        · rw [hget_cons] at hh2
          split at hh2
          · cases hh2
          · obtain ⟨g1, q1, q2⟩ := hs.ws.ent id' e' hh2
            rw [hg'] at q1; injection q1 with q1; subst q1
            exact absurd (q2.lt _ hb'') (Nat.lt_irrefl _)
    · simp only [Rs]; exact Gam.up_same _ _ _
/-- what an operation makes is data at once -/
theorem o_frz {o : Oper} {rt rh : List Nat} {hp : Heap} {nw : List Nat} {E sz : Nat} {els : List DV} (h : OpG P ops o rt rh σ ⟨[(t, .row t)], (t, some (.row E sz els)) :: hp, nw⟩) : OpG P ops o rt rh σ ⟨[(t, .sl sz els)], (t, none) :: hp, nw⟩ := by
  intro C F γ σ' a w h1 h2 h3 h4 hs K Q hK
  refine h C F γ σ' a w h1 h2 h3 h4 hs K Q (fun F' γ' a' w' hF hs' => ?_)
  have hh : hget (((t, some (.row E sz els)) :: hp) ++ σ'.heap) t = some (.row E sz els) := by rw [List.cons_append, hget_cons, if_pos rfl]
  have hr := (hs'.env t (.row t) (by simp only [AS.app, List.singleton_append]; rw [look_cons, if_pos rfl]))
  have hr2 := hr.2
  simp only [Rs] at hr2
  obtain ⟨F2, f1, f2, f3⟩ := hs'.ws.freeze hh hr2
  refine hK F2 γ' a' w' (hF.trans f1) ⟨fun x dx hx => ?_, f2.congr (fun i e hi => ?_) (fun _ h => h), hs'.size, hs'.defers⟩
  · simp only [AS.app, List.singleton_append] at hx
    rw [look_cons] at hx
    by_cases hxt : t = x
    · rw [if_pos hxt] at hx; injection hx with hx; subst hx; subst hxt
      exact ⟨hr.1, f3⟩
    · rw [if_neg hxt] at hx
      have := hs'.env x dx (by simp only [AS.app, List.singleton_append]; rw [look_cons, if_neg hxt]; exact hx)
      exact ⟨this.1, this.2.mono f1 (GLe.refl _)⟩
  · simp only [AS.app, List.cons_append] at hi ⊢
    rw [hget_cons] at hi ⊢
    by_cases hit : t = i
    · rw [if_pos hit] at hi; cases hi
    · rw [if_neg hit] at hi ⊢; rw [hget_cons, if_neg hit]; exact hi
/-- make([]T, n, m) -/
theorem zeroDV_rs {z : Value} {zd : DV} (h : zeroDV z = zd) (ho : ∀ u ∈ z.cells.toList, u.oneCell' = true) (F : FMap) : Rs F Gam.no zd z := by
  subst h
  unfold zeroDV
  split
  · rename_i cs
    simp only [Rs]
    exact ⟨cs, rfl, constDV_rsL F _ _ ho⟩
  · exact constDV_rs _ _ _
theorem RsE.replicate {F : FMap} {sz : Nat} {d : DV} {v : Value} (h1 : v.cells.size = sz) (h2 : ∀ u ∈ v.cells.toList, u.oneCell' = true) (h : Rs F Gam.no d v) : ∀ n, RsE F sz (List.replicate n d) (List.replicate n v.cells.toList).flatten
  | 0 => by simp [RsE]
  | n + 1 => by
    simp only [List.replicate_succ, List.flatten_cons, RsE]
    exact ⟨v, _, rfl, h1, h2, h, RsE.replicate h1 h2 h n⟩
end
end Go.Proofs.YtepkcbalmjnhpaaGreat

/-! ### part M -/
/-
  My engine, part M: make, literals, min and max; states that hold others.
-/
namespace Go.Proofs.YtepkcbalmjnhpaaGreat
open Go.RowKit
theorem madeCells_flat (z : Array Value) (hz : 0 < z.size) (n : Nat) : (madeCells z (n * z.size)).toList = (List.replicate n z.toList).flatten := by
  apply List.ext_getElem?
  intro j
  have hfl : ∀ n j, (List.replicate n z.toList).flatten[j]? = if j < n * z.size then z.toList[j % z.size]? else none := by
    intro n
    induction n with
    | zero => intro j; simp
    | succ n ih =>
      intro j
      rw [List.replicate_succ, List.flatten_cons, List.getElem?_append]
      by_cases hj : j < z.toList.length
      · rw [if_pos hj]
        have hj' : j < z.size := by simpa using hj
        have : j < (n + 1) * z.size := by rw [Nat.succ_mul]; omega
        rw [if_pos this, Nat.mod_eq_of_lt hj']
      · rw [if_neg hj, ih]
        have hj' : z.size ≤ j := by simpa using hj
        have e : (j - z.toList.length) % z.size = j % z.size := by
          rw [Array.length_toList]
          conv => rhs; rw [← Nat.sub_add_cancel hj']
          rw [Nat.add_mod_right]
        rw [e, Array.length_toList]
        by_cases h : j - z.size < n * z.size
        · rw [if_pos h, if_pos (by rw [Nat.succ_mul]; omega)]
        · rw [if_neg h, if_neg (by rw [Nat.succ_mul]; omega)]
  rw [hfl]
  by_cases hj : j < n * z.size
  · have hm : j % z.size < z.size := Nat.mod_lt _ hz
    rw [if_pos hj]
    simp [madeCells, hj, hm]
  · rw [if_neg hj]
    rw [List.getElem?_eq_none (by rw [Array.length_toList, size_madeCells]; omega)]
section
variable {P : Program} {ops : Array Oper} {σ : AS} {t : Nat} {ty : TypeId} {pos : String} {af : Array Edge}
theorem zero_one {T : TypeId} {zd : DV} {z : Value} (h : zeroDV z = zd) (hz : (zd.cs.all DV.one) = true) : ∀ u ∈ z.cells.toList, u.oneCell' = true := by
  subst h
  intro u hu
  have e : (zeroDV z).cs = z.cells.toList.map constDV := by
    unfold zeroDV
    cases z <;> simp only [Value.cells, DV.cs] <;> try (simp [constDV, DV.cs]; done)
    · rename_i a n c; cases a <;> (try simp [constDV, DV.cs]) <;> (cases n <;> cases c <;> simp [constDV, DV.cs])
  rw [e] at hz
  exact (constDV_rs (fun _ => none) Gam.no u).one GOne.no (List.all_eq_true.1 hz _ (List.mem_map.2 ⟨u, hu, rfl⟩))
theorem o_make {T e : TypeId} {sz bytes : Nat} {zd : DV} [hT : CSl P T e sz bytes zd] {x y : Operand} {k k' : IntKind} {l c : Int} (n m : Nat) (hx : ev σ.env x = some (.int k l)) (hy : ev σ.env y = some (.int k' c)) (hl : l = (n : Int)) (hc : c = (m : Int)) (hnm : n ≤ m) (hb : bytes * m ≤ 281474976710656 ∧ m ≤ 281474976710656) (hz : (zd.cs.all DV.one) = true) :
    OpG P ops ⟨some t, .makeSlice T x y, ty, pos, af, none⟩ (tm x ++ tm y) [] σ ⟨[(t, .row t)], [(t, some (.row e sz (List.replicate n zd)))], [t]⟩ :=
  OpG.gen rfl rfl fun C F γ σ' a w hag h2 h3 hs => by
    obtain ⟨k1, k2⟩ := ev2 hs hag hx hy
    simp only [Rs] at k1 k2
    have hn : t ∉ σ'.used := h3 t (by simp)
    obtain ⟨z, hEl, hzd⟩ := hT.h
    obtain ⟨i, hi, hiz, hisz, hiby⟩ := hEl.info
    have ho := zero_one (T := T) hzd hz
    subst hl hc
    have hrun := run_make (P := P) w T e i z hEl.under hi hiz k k' (n : Int) (m : Int) (by omega) (by omega) (by rw [hiby]; have := hb.1; rw [← Int.natCast_mul]; omega) (by omega)
    simp only [Int.toNat_natCast] at hrun
    refine ⟨.slice (some ⟨w.heap.size, 0, none⟩) n m, _, F, γ.up t (.slice (some ⟨w.heap.size, 0, none⟩) n m), by simp [execOp, k1, k2, hrun]; rfl, FLe.refl _, Gam.up_le _ (hs.ws.fresh hn), ?_, ?_⟩
    · refine hs.ws.addNew hn _ (fun b hb => by simp [Value.pblk] at hb; exact hb.symm) ?_
      have hzs : z.cells.size = sz := hEl.zsize
      refine ⟨(List.replicate n z.cells.toList).flatten, ⟨by simp [hzs], .inr ⟨w.heap.size, m, _, by simp, Nat.zero_le _, heap_alloc_new w _, by simp; exact hnm, by unfold maxLen; omega, by rw [size_madeCells, hisz], ?_⟩⟩, RsE.replicate hzs ho (zeroDV_rs hzd ho F) n⟩
      rw [List.length_replicate, hisz, ← hzs, madeCells_flat _ (by rw [hzs]; exact hEl.pos)]
      have : ∀ (n m : Nat) (l : List Value), n ≤ m → ((List.replicate m l).flatten).take (n * l.length) = (List.replicate n l).flatten := by
        intro n
        induction n with
        | zero => intro m l _; simp
        | succ n ih =>
          intro m l hm
          obtain ⟨m, rfl⟩ : ∃ m', m = m' + 1 := ⟨m - 1, by omega⟩
          rw [List.replicate_succ, List.replicate_succ, List.flatten_cons, List.flatten_cons, Nat.succ_mul, Nat.add_comm, List.take_append, List.take_of_length_le (by omega), Nat.add_sub_cancel_left, ih m l (by omega)]
      have := this n m z.cells.toList hnm
      rwa [Array.length_toList] at this
    · simp only [Rs]; exact Gam.up_same _ _ _
theorem o_min {T1 T2 : TypeId} {x y : Operand} {k : IntKind} {a b : Int} (hx : ev σ.env x = some (.int k a)) (hy : ev σ.env y = some (.int k b)) : OpG P ops ⟨some t, .call ⟨.builtin .min, #[x, y], #[T1, T2]⟩, ty, pos, af, none⟩ (tm x ++ tm y) [] σ ⟨[(t, .int k (if b < a then b else a))], [], []⟩ :=
  OpG.val rfl rfl fun C F γ σ' ac w hag _ hs => by
    obtain ⟨k1, k2⟩ := ev2 hs hag hx hy
    simp only [Rs] at k1 k2
    exact ⟨.int k (if b < a then b else a), by simp [execOp, resolve, invoke, builtin, Builtin.min_, k1, k2, Builtin.min2], by simp only [Rs]⟩
theorem o_max {T1 T2 : TypeId} {x y : Operand} {k : IntKind} {a b : Int} (hx : ev σ.env x = some (.int k a)) (hy : ev σ.env y = some (.int k b)) : OpG P ops ⟨some t, .call ⟨.builtin .max, #[x, y], #[T1, T2]⟩, ty, pos, af, none⟩ (tm x ++ tm y) [] σ ⟨[(t, .int k (if b > a then b else a))], [], []⟩ :=
  OpG.val rfl rfl fun C F γ σ' ac w hag _ hs => by
    obtain ⟨k1, k2⟩ := ev2 hs hag hx hy
    simp only [Rs] at k1 k2
    exact ⟨.int k (if b > a then b else a), by simp [execOp, resolve, invoke, builtin, Builtin.max_, k1, k2, Builtin.max2], by simp only [Rs]⟩
/-- literals of structs and arrays -/
class CPl (P : Program) (t : TypeId) (zs : outParam (List DV)) (pl : outParam (List (Nat × Nat))) : Prop where
  z : CZero P t zs
  p : (∃ fs, P.underlying t = some (.struct fs) ∧ (∀ f ∈ fs.toList, (P.info? f.type).isSome) ∧ fs.toList.map (fun f => (f.offset, P.cellsOf f.type)) = pl) ∨ (∃ n e s, P.underlying t = some (.array n e) ∧ (P.info? e).map (·.size) = some s ∧ pl = (List.range n).map fun i => (i * s, s))
def fillD (pl : List (Nat × Nat)) : List DV → List (Nat × DV) → Option (List DV)
  | cs, [] => some cs
  | cs, (i, d) :: rest => match pl[i]? with
    | none => none
    | some (off, size) => bif Nat.beq d.cs.length size && Nat.ble (off + size) cs.length && d.flat then fillD pl (layD cs off d.cs) rest else none
def evP (e : List (Nat × DV)) : List (Nat × Operand) → Option (List (Nat × DV))
  | [] => some []
  | (i, x) :: xs => match ev e x, evP e xs with
    | some d, some ds => some ((i, d) :: ds)
    | _, _ => none
theorem fold_lay (vs : List Value) : ∀ (j off : Nat) (cells : Array Value), off + j + vs.length ≤ cells.size → ((vs.zipIdx j).foldl (fun cs (x : Value × Nat) => cs.setIfInBounds (off + x.2) x.1) cells) = lay cells (off + j) vs := by
  induction vs with
  | nil => intro j off cells _; apply Array.toList_inj.1; rw [lay_list]; simp
  | cons v vs ih =>
    intro j off cells h
    simp only [List.length_cons] at h
    rw [List.zipIdx_cons, List.foldl_cons, ih (j + 1) off _ (by simp; omega)]
    apply Array.toList_inj.1
    rw [lay_list, lay_list]
    have hlt : off + j < cells.toList.length := by simp; omega
    rw [Array.toList_setIfInBounds, List.length_cons]
    rw [List.set_eq_take_append_cons_drop, if_pos hlt]
    have e1 : (cells.toList.take (off + j) ++ v :: cells.toList.drop (off + j + 1)).take (off + (j + 1)) = cells.toList.take (off + j) ++ [v] := by
      rw [List.take_append, List.take_of_length_le (by simp; omega)]
      have : off + (j + 1) - (List.take (off + j) cells.toList).length = 1 := by simp; omega
      rw [this]; rfl
    have e2 : (cells.toList.take (off + j) ++ v :: cells.toList.drop (off + j + 1)).drop (off + (j + 1) + vs.length) = cells.toList.drop (off + j + (vs.length + 1)) := by
      rw [List.drop_append, List.drop_of_length_le (by simp; omega), List.nil_append]
      have : off + (j + 1) + vs.length - (List.take (off + j) cells.toList).length = vs.length + 1 := by simp; omega
      rw [this, List.drop_succ_cons, List.drop_drop]; congr 1; omega
    rw [e1, e2]; simp
theorem fill_rs {F : FMap} {γ : Gam} (hg : GOne γ) (place : Nat → Option (Nat × Nat)) (pl : List (Nat × Nat)) : ∀ (dps : List (Nat × DV)) (vps : List (Nat × Value)) (zs ds : List DV) (cells : Array Value),
    (dps.map (·.1) = vps.map (·.1)) → RsT F γ (dps.map (·.2)) (vps.map (·.2)) → (∀ i ∈ dps.map (·.1), ∀ q, pl[i]? = some q → place i = some q) → RsL F γ zs cells.toList → fillD pl zs dps = some ds → ∃ cs, Instr.fill place cells vps = some cs ∧ RsL F γ ds cs.toList
  | [], [], zs, ds, cells, _, _, _, hz, hf => by
    simp only [fillD] at hf; injection hf with hf; subst hf; exact ⟨cells, rfl, hz⟩
  | [], _ :: _, zs, ds, cells, h, _, _, _, _ => by simp at h
  | _ :: _, [], zs, ds, cells, h, _, _, _, _ => by simp at h
  | (i, d) :: dps, (i', v) :: vps, zs, ds, cells, hk, hv, hp, hz, hf => by
    simp only [List.map_cons, List.cons.injEq] at hk
    obtain ⟨rfl, hk⟩ := hk
    simp only [List.map_cons, RsT, List.cons.injEq] at hv
    obtain ⟨v', rest, ⟨rfl, rfl⟩, hd, hv⟩ := hv
    simp only [fillD] at hf
    cases hq : pl[i]? with
    | none => rw [hq] at hf; cases hf
    | some q =>
      obtain ⟨off, size⟩ := q
      rw [hq] at hf
      simp only at hf
      cases hc : (Nat.beq d.cs.length size && Nat.ble (off + size) zs.length && d.flat) with
      | false => rw [hc] at hf; cases hf
      | true =>
        rw [hc] at hf
        simp only [cond_true] at hf
        simp only [Bool.and_eq_true] at hc
        have c1 : d.cs.length = size := Nat.eq_of_beq_eq_true hc.1.1
        have c2 := Nat.le_of_ble_eq_true hc.1.2
        have kc := RsL.cs hd hg hc.2
        have hl1 := kc.len
        have hl2 := hz.len
        have hvs : v.cells.size = size := by simpa [c1] using hl1
        have hcs : cells.size = zs.length := by simpa using hl2
        have hz' : RsL F γ (layD zs off d.cs) (lay cells off v.cells.toList).toList := by
          rw [lay_list, layD, ← hl1]
          exact ((hz.take off).append kc).append (hz.drop _)
        obtain ⟨cs, r1, r2⟩ := fill_rs hg place pl dps vps _ ds _ hk hv (fun j hj => hp j (by simp [hj])) hz' hf
        refine ⟨cs, ?_, r2⟩
        have hpl := hp i (by simp) _ hq
        simp only [Instr.fill, hpl]
        have hno : ¬ (decide (v.cells.size ≠ size) || decide (off + v.cells.size > cells.size)) = true := by simp; omega
        rw [if_neg hno]
        have hfold := fold_lay v.cells.toList 0 off cells (by simp; omega)
        rw [Nat.add_zero] at hfold
        have : (v.cells.zipIdx.foldl (fun cs (x : Value × Nat) => cs.setIfInBounds (off + x.2) x.1) cells) = lay cells off v.cells.toList := by
          rw [← hfold, ← Array.foldl_toList, Array.toList_zipIdx]
        rw [← r1, ← this]
theorem evP_agree {rt : List Nat} {e e' : List (Nat × DV)} (h : ∀ t ∈ rt, look e' t = look e t) : ∀ {xs : List (Nat × Operand)}, (∀ t ∈ xs.flatMap (fun p => tm p.2), t ∈ rt) → evP e' xs = evP e xs
  | [], _ => rfl
  | (i, x) :: xs, hx => by
    simp only [List.flatMap_cons, List.mem_append] at hx
    rw [evP, evP, ev_agree h (fun t ht => hx t (.inl ht)), evP_agree h (fun t ht => hx t (.inr ht))]
theorem Sat.evp {C : Ctx} {F : FMap} {γ : Gam} {σ : AS} {a : Act} {w : World} (H : Sat C F γ σ a w) : ∀ {xs : List (Nat × Operand)} {ds : List (Nat × DV)}, evP σ.env xs = some ds → ds.map (·.1) = xs.map (·.1) ∧ RsT F γ (ds.map (·.2)) (xs.map (fun p => a.eval p.2))
  | [], ds, h => by simp only [evP] at h; injection h with h; subst h; simp [RsT]
  | (i, x) :: xs, ds, h => by
    simp only [evP] at h
    cases h1 : Proofs.YtepkcbalmjnhpaaGreat.ev σ.env x with
    | none => rw [h1] at h; cases h
    | some d =>
      cases h2 : evP σ.env xs with
      | none => rw [h1, h2] at h; cases h
      | some ds' =>
        rw [h1, h2] at h; injection h with h; subst h
        obtain ⟨k1, k2⟩ := H.evp h2
        simp only [List.map_cons, RsT]
        exact ⟨by rw [k1], _, _, rfl, H.ev h1, k2⟩
theorem run_mapM {α β : Type} {f : α → Sem β} {g : α → β} {w : World} : ∀ {l : List α}, (∀ x ∈ l, (f x).run P w = .ok (g x) w) → (l.mapM f).run P w = .ok (l.map g) w
  | [], _ => by simp
  | x :: l, h => by
    have h1 := h x (by simp)
    have h2 := run_mapM (l := l) (fun y hy => h y (by simp [hy]))
    rw [List.mapM_cons, Sem.run_bind, h1, Result.andThen_ok, Sem.run_bind, h2]; rfl
theorem run_places {fs : Array Field} (hi : ∀ f ∈ fs.toList, (P.info? f.type).isSome) (w : World) : (fs.mapM fun f => do pure (f.offset, ← sizeOf f.type) : Sem (Array (Nat × Nat))).run P w = .ok (fs.toList.map fun f => (f.offset, P.cellsOf f.type)).toArray w := by
  rw [Array.mapM_eq_mapM_toList]
  have := run_mapM (P := P) (w := w) (f := fun f : Field => (do pure (f.offset, ← sizeOf f.type) : Sem (Nat × Nat))) (g := fun f => (f.offset, P.cellsOf f.type)) (l := fs.toList) (fun f hf => by
    obtain ⟨i, hq⟩ := Option.isSome_iff_exists.1 (hi f hf)
    simp [sizeOf, typeInfo, hq, Program.cellsOf])
  show Sem.run P ((fs.toList.mapM _) >>= fun x => pure x.toArray) w = _
  rw [Sem.run_bind, this]; rfl
theorem o_build {T : TypeId} {zs : List DV} {pl : List (Nat × Nat)} [hP : CPl P T zs pl] {ps : Array (Nat × Operand)} {dps : List (Nat × DV)} {ds : List DV} (hz : (zs.all DV.one) = true) (he : evP σ.env ps.toList = some dps) (hf : fillD pl zs dps = some ds) :
    OpG P ops ⟨some t, .build T ps, ty, pos, af, none⟩ (ps.toList.flatMap fun p => tm p.2) [] σ ⟨[(t, .agg ds)], [], []⟩ :=
  OpG.val rfl rfl fun C F γ σ' a w hag _ hs => by
    obtain ⟨k1, k2⟩ := hs.evp ((evP_agree hag (fun _ h => h)).trans he)
    have hz' := hP.z.h
    cases hq : P.info? T with
    | none => simp [hq] at hz'
    | some i =>
      cases hz2 : i.zero with
      | none => simp [hq, hz2] at hz'
      | some z =>
        simp only [hq, hz2, Option.bind_some, Option.map_some, Option.some.injEq] at hz'
        have hone : ∀ u ∈ z.cells.toList, u.oneCell' = true := by
          intro u hu
          have := List.all_eq_true.1 hz (constDV u) (by rw [← hz']; exact List.mem_map.2 ⟨u, hu, rfl⟩)
          exact (constDV_rs F γ u).one hs.ws.gone this
        have hzs : RsL F γ zs z.cells.toList := by rw [← hz']; exact constDV_rsL F γ _ hone
        have hzv : (zeroValue T).run P w = .ok z w := by simp [zeroValue, typeInfo, hq, hz2]
        have hmap : (ps.map fun (p : Nat × Operand) => (p.1, a.eval p.2)).toList = ps.toList.map fun p => (p.1, a.eval p.2) := by simp
        rcases hP.p with ⟨fs, hu, hin, hpl⟩ | ⟨n, e, s, hu, hsz, hpl⟩
        · have hpr := run_places (P := P) hin w
          rw [hpl] at hpr
          obtain ⟨cs, r1, r2⟩ := fill_rs hs.ws.gone (fun i => pl[i]?) pl dps (ps.toList.map fun p => (p.1, a.eval p.2)) zs ds z.cells (by rw [k1]; simp) (by rw [List.map_map]; exact k2) (fun i _ q h => h) hzs hf
          refine ⟨.agg cs, ?_, by simp only [Rs]; exact ⟨cs, rfl, r2⟩⟩
          simp only [execOp, Instr.build, Sem.run_bind, hzv, Result.andThen_ok, run_underlying hu w, hpr, Sem.run_pure]
          simp only [hmap] at *
          simp [r1]
        · cases hqe : P.info? e with
          | none => simp [hqe] at hsz
          | some ie =>
            have hse : (sizeOf e).run P w = .ok s w := by
              have : ie.size = s := by simpa [hqe] using hsz
              simp [sizeOf, typeInfo, hqe, this]
            obtain ⟨cs, r1, r2⟩ := fill_rs hs.ws.gone (fun i => some (i * s, s)) pl dps (ps.toList.map fun p => (p.1, a.eval p.2)) zs ds z.cells (by rw [k1]; simp) (by rw [List.map_map]; exact k2) (fun i _ q h => by
              rw [hpl, List.getElem?_map] at h
              cases hr : (List.range n)[i]? with
              | none => rw [hr] at h; cases h
              | some j =>
                rw [hr] at h
                have : j = i := by
                  obtain ⟨_, e⟩ := List.getElem?_eq_some_iff.1 hr
                  simpa using e.symm
                subst this; exact h) hzs hf
            refine ⟨.agg cs, ?_, by simp only [Rs]; exact ⟨cs, rfl, r2⟩⟩
            simp only [execOp, Instr.build, Sem.run_bind, hzv, Result.andThen_ok, run_underlying hu w, hse, Sem.run_pure]
            simp only [hmap] at *
            simp [r1]
end
end Go.Proofs.YtepkcbalmjnhpaaGreat

/-! ### part N -/
/-
  My engine, part N: slice literals, elements of rows; states that hold others.
-/
namespace Go.Proofs.YtepkcbalmjnhpaaGreat
open Go.RowKit
theorem RsL.split {F : FMap} {γ : Gam} {ds es : List DV} {vs : List Value} (h : RsL F γ (ds ++ es) vs) : RsL F γ ds (vs.take ds.length) ∧ RsL F γ es (vs.drop ds.length) := by
  have h1 := h.take ds.length
  have h2 := h.drop ds.length
  rw [List.take_left'] at h1
  · rw [List.drop_left'] at h2
    · exact ⟨h1, h2⟩
    · rfl
  · rfl
def elOk (sz : Nat) (d : DV) : Bool := Nat.beq d.cs.length sz && d.flat && d.ids.isEmpty
theorem Rs_of_cs {F : FMap} {γ : Gam} {d : DV} {vs : List Value} (hf : d.flat = true) (h : RsL F γ d.cs vs) : ∃ v : Value, v.cells.toList = vs ∧ Rs F γ d v := by
  by_cases ho : d.one = true
  · rw [DV.cs_one ho] at h
    simp only [RsL] at h
    obtain ⟨v, rest, rfl, h1, h2, rfl⟩ := h
    exact ⟨v, by rw [oneCell_cells h1], h2⟩
  · cases d with
    | agg ds => exact ⟨.agg vs.toArray, rfl, by simp only [Rs]; exact ⟨vs.toArray, rfl, by simpa [DV.cs] using h⟩⟩
    | _ => exact absurd hf ho
theorem RsE.of_cells {F : FMap} {γ : Gam} {sz : Nat} : ∀ {els : List DV} {vs : List Value}, (els.all (elOk sz)) = true → RsL F γ (els.flatMap DV.cs) vs → RsE F sz els vs
  | [], vs, _, h => by simp only [List.flatMap_nil, RsL] at h; subst h; simp [RsE]
  | d :: els, vs, hk, h => by
    simp only [List.all_cons, Bool.and_eq_true] at hk
    obtain ⟨hk1, hk2⟩ := hk
    simp only [elOk, Bool.and_eq_true] at hk1
    have hlen : d.cs.length = sz := Nat.eq_of_beq_eq_true hk1.1.1
    have hids : d.ids = [] := by simpa using hk1.2
    rw [List.flatMap_cons] at h
    obtain ⟨h1, h2⟩ := h.split
    obtain ⟨v, e1, e2⟩ := Rs_of_cs hk1.1.2 h1
    simp only [RsE]
    refine ⟨v, vs.drop d.cs.length, by rw [e1, List.take_append_drop], ?_, ?_, Rs_ids d v (by rw [hids]; simp) e2, RsE.of_cells hk2 h2⟩
    · have := h1.len
      rw [← e1, Array.length_toList] at this
      rw [this, hlen]
    · rw [e1]; exact h1.one
theorem splice_list {α : Type} (A Y : List α) {o n sz p L : Nat} (hY : Y.length = n) (h1 : o + n ≤ sz) (h2 : p + sz ≤ L) (h3 : L ≤ A.length) :
    (A.take (p + o) ++ Y ++ A.drop (p + o + n)).take L = (A.take L).take p ++ ((((A.take L).drop p).take sz).take o ++ Y ++ (((A.take L).drop p).take sz).drop (o + n)) ++ (A.take L).drop (p + sz) := by
  have e1 : (A.take L).take p = A.take p := by rw [List.take_take, Nat.min_eq_left (by omega)]
  have e2 : ((A.take L).drop p).take sz = (A.drop p).take sz := by rw [List.drop_take, List.take_take, Nat.min_eq_left (by omega)]
  have e3 : ((A.drop p).take sz).take o = (A.drop p).take o := by rw [List.take_take, Nat.min_eq_left (by omega)]
  have e4 : ((A.drop p).take sz).drop (o + n) = (A.drop (p + o + n)).take (sz - (o + n)) := by rw [List.drop_take, List.drop_drop, Nat.add_assoc]
  have e5 : (A.take L).drop (p + sz) = (A.drop (p + sz)).take (L - (p + sz)) := by rw [List.drop_take]
  have e6 : (A.drop (p + o + n)).take (L - (p + o + n)) = (A.drop (p + o + n)).take (sz - (o + n)) ++ (A.drop (p + sz)).take (L - (p + sz)) := by
    have : L - (p + o + n) = (sz - (o + n)) + (L - (p + sz)) := by omega
    rw [this, List.take_add, List.drop_drop, show p + o + n + (sz - (o + n)) = p + sz by omega]
  have e7 : A.take (p + o) = A.take p ++ (A.drop p).take o := List.take_add
  have l1 : (A.take (p + o)).length = p + o := by rw [List.length_take]; omega
  rw [e1, e2, e3, e4, e5, List.take_append, List.take_of_length_le (by rw [List.length_append, l1, hY]; omega), List.length_append, l1, hY, e6, e7]
  simp
section
variable {P : Program} {ops : Array Oper} {σ : AS} {t : Nat} {ty : TypeId} {pos : String} {af : Array Edge}
theorem o_buildSlice {T e : TypeId} {sz bytes : Nat} {zd : DV} [hT : CSl P T e sz bytes zd] {n : Nat} {ps : Array (Nat × Operand)} {dps : List (Nat × DV)} (hz : (zd.cs.all DV.one) = true) (hn : Nat.ble (n * sz) 16777216 = true) (he : evP σ.env ps.toList = some dps) (hk : Nat.beq dps.length n = true)
    (hf : fillD ((List.range n).map fun i => (i * sz, sz)) (List.replicate n zd.cs).flatten dps = some ((dps.map (·.2)).flatMap DV.cs)) (hok : (dps.map (·.2)).all (elOk sz) = true) :
    OpG P ops ⟨some t, .buildSlice T n ps, ty, pos, af, none⟩ (ps.toList.flatMap fun p => tm p.2) [] σ ⟨[(t, .row t)], [(t, some (.row e sz (dps.map (·.2))))], [t]⟩ :=
  OpG.gen rfl rfl fun C F γ σ' a w hag h2 h3 hs => by
    obtain ⟨k1, k2⟩ := hs.evp ((evP_agree hag (fun _ h => h)).trans he)
    have htn : t ∉ σ'.used := h3 t (by simp)
    obtain ⟨z, hEl, hzd⟩ := hT.h
    obtain ⟨i, hi, hiz, hisz, hiby⟩ := hEl.info
    have ho := zero_one (T := T) hzd hz
    have hzs : z.cells.size = sz := hEl.zsize
    have hdl : dps.length = n := Nat.eq_of_beq_eq_true hk
    have hle := Nat.le_of_ble_eq_true hn
    have hmap : (ps.map fun (p : Nat × Operand) => (p.1, a.eval p.2)).toList = ps.toList.map fun p => (p.1, a.eval p.2) := by simp
    have hcell : RsL F γ zd.cs z.cells.toList := by
      have := zeroDV_rs hzd ho F
      have hfl : zd.flat = true := by
        rw [← hzd] at hz ⊢
        unfold zeroDV at hz ⊢
        split
        · rfl
        · rename_i h'
          by_cases h1 : (constDV z).one = true
          · cases hc : constDV z <;> simp_all [DV.flat, DV.one]
          · cases hc : constDV z <;> simp_all [DV.flat, DV.one, DV.cs, constDV]
      exact (RsL.cs this GOne.no hfl).mono (FLe.refl _) (GLe.no _)
    have hinit : RsL F γ (List.replicate n zd.cs).flatten (madeCells z.cells (n * z.cells.size)).toList := by
      rw [madeCells_flat _ (by rw [hzs]; exact hEl.pos)]
      clear hn hle hf hk hdl
      induction n with
      | zero => simp [RsL]
      | succ n ih => rw [List.replicate_succ, List.replicate_succ, List.flatten_cons, List.flatten_cons]; exact hcell.append ih
    obtain ⟨cs, r1, r2⟩ := fill_rs hs.ws.gone (fun i => some (i * sz, sz)) ((List.range n).map fun i => (i * sz, sz)) dps (ps.toList.map fun p => (p.1, a.eval p.2)) _ _ _ (by rw [k1]; simp) (by rw [List.map_map]; exact k2) (fun i _ q h => by
      rw [List.getElem?_map] at h
      cases hr : (List.range n)[i]? with
      | none => rw [hr] at h; cases h
      | some j =>
        rw [hr] at h
        have : j = i := by
          obtain ⟨_, e⟩ := List.getElem?_eq_some_iff.1 hr
          simpa using e.symm
        subst this; exact h) hinit hf
    have hE := RsE.of_cells (F := F) (γ := γ) hok r2
    have hcl := hE.len
    rw [List.length_map, hdl, Array.length_toList] at hcl
    have hrun : (execOp a.eval ⟨some t, .buildSlice T n ps, ty, pos, af, none⟩).run P w = .ok (.value (.slice (some ⟨w.heap.size, 0, none⟩) n n)) (w.alloc (.cells cs e)) := by
      have hno : ¬ 2 ^ 24 < n * sz := by
        have : (2 : Nat) ^ 24 = 16777216 := rfl
        omega
      have hr1 : Instr.fill (fun i => some (i * sz, sz)) (madeCells z.cells (n * sz)) (ps.toList.map fun p => (p.1, a.eval p.2)) = some cs := by rw [← hzs] at r1 ⊢; exact r1
      by_cases h0 : n * sz = 0
      · have hz0 : madeCells z.cells (n * sz) = #[] := by rw [h0]; simp [madeCells]
        rw [hz0] at hr1
        simp only [execOp, Instr.buildSlice, Sem.run_bind, run_underlying hEl.under w, Result.andThen_ok, hT.size, Sem.run_pure, h0]
        simp [hmap, hr1, newRow, show (Array.map (fun _ => (default : Value)) (Array.range 0)) = #[] from Array.eq_empty_of_size_eq_zero (by simp)]
      · have hzv : (zeroValue e).run P w = .ok z w := by simp [zeroValue, typeInfo, hi, hiz]
        simp only [execOp, Instr.buildSlice, Sem.run_bind, run_underlying hEl.under w, Result.andThen_ok, hT.size, Sem.run_pure]
        simp only [madeCells] at hr1
        simp [hno, h0, hzv, hmap, hr1, newRow]
    refine ⟨_, _, F, γ.up t (.slice (some ⟨w.heap.size, 0, none⟩) n n), hrun, FLe.refl _, Gam.up_le _ (hs.ws.fresh htn), ?_, ?_⟩
    · refine hs.ws.addNew htn _ (fun b hb => by simp [Value.pblk] at hb; exact hb.symm) ?_
      refine ⟨cs.toList, ⟨by rw [Array.length_toList, hcl, List.length_map, hdl], .inr ⟨w.heap.size, n, cs, by rw [List.length_map, hdl], Nat.zero_le _, heap_alloc_new w _, by rw [List.length_map, hdl]; exact Nat.le_refl _, ?_, hcl, ?_⟩⟩, hE⟩
      · have hp := hEl.pos
        have : n ≤ n * sz := Nat.le_mul_of_pos_right n hp
        unfold maxLen; omega
      · rw [List.length_map, hdl, ← hcl]; exact List.take_of_length_le (by rw [Array.length_toList]; exact Nat.le_refl _)
    · simp only [Rs]; exact Gam.up_same _ _ _
/-- reading an element of a row -/
theorem rs_rp {C : Ctx} {F : FMap} {γ : Gam} {σ' : AS} {a : Act} {w : World} (hs : Sat C F γ σ' a w) {id i sz o E : Nat} {els : List DV} {d : DV} {v : Value} (hv : Rs F γ (.rp id i sz o) v) (hh : hget σ'.heap id = some (.row E sz els)) (hd : els[i]? = some d) :
    ∃ b n c cur vs vd, v = .pointer (some ⟨b, i * sz + o, none⟩) ∧ γ id = some (.slice (some ⟨b, 0, none⟩) n c) ∧ w.heap[b]? = some (.cells cur E (0, 0)) ∧ n = els.length ∧ n ≤ c ∧ c ≤ maxLen ∧ cur.size = c * sz ∧ cur.toList.take (n * sz) = vs ∧ RsE F sz els vs ∧
      (vs.drop (i * sz)).take sz = vd.cells.toList ∧ vd.cells.size = sz ∧ (∀ u ∈ vd.cells.toList, u.oneCell' = true) ∧ Rs F Gam.no d vd := by
  obtain ⟨g, hg, vs, ho, hE⟩ := hs.ws.ent id _ hh
  simp only [Rs] at hv
  obtain ⟨b, n, c, hgb, e⟩ := hv
  rw [hg] at hgb; injection hgb with hgb; subst hgb
  have hlt : i < els.length := by
    rcases Nat.lt_or_ge i els.length with h | h
    · exact h
    · rw [List.getElem?_eq_none h] at hd; cases hd
  rcases ho.2 with ⟨h1, h0⟩ | ⟨b', cap, cur, h1, _, hb, r1, r2, r3, r4⟩
  · cases h1
  · injection h1 with q1 q2 q3
    injection q1 with q1; injection q1 with q1 _ _
    subst q1; subst q2; subst q3
    obtain ⟨vd, p1, p2, p3, p4⟩ := hE.get hd
    exact ⟨b, _, _, cur, vs, vd, e, hg, hb, rfl, r1, r2, r3, r4, hE, p1, p2, p3, p4⟩
theorem o_load_p {T' : TypeId} {x : Operand} {id i sz o E : Nat} {els : List DV} {d r : DV} (hx : ev σ.env x = some (.rp id i sz o)) (hh : hget σ.heap id = some (.row E sz els)) (hd : els[i]? = some d) (hf : d.flat = true) (hl : LoadD P T' (d.cs.drop o) r) :
    OpG P ops ⟨some t, .load T' x, ty, pos, af, none⟩ (tm x) [id] σ ⟨[(t, r)], [], []⟩ :=
  OpG.val rfl rfl fun C F γ σ' a w h1 h2 hs => by
    have k1 := hs.ev ((ev_agree h1 (fun _ h => h)).trans hx)
    obtain ⟨b, n, c, cur, vs, vd, e, hg, hb, rfl, r1, r2, r3, r4, hE, p1, p2, p3, p4⟩ := rs_rp hs k1 ((h2 id (by simp)).trans hh) hd
    have hlt : i < els.length := by
      rcases Nat.lt_or_ge i els.length with h | h
      · exact h
      · rw [List.getElem?_eq_none h] at hd; cases hd
    have hcs := RsL.cs p4 GOne.no hf
    have hr : w.rangeAt b (i * sz + o) (vd.cells.toList.drop o) := by
      intro j v hv
      rw [List.getElem?_drop] at hv
      have hj : o + j < sz := by
        have := (List.getElem?_eq_some_iff.1 hv).1
        rw [Array.length_toList, p2] at this; exact this
      rw [← p1, List.getElem?_take, if_pos hj, List.getElem?_drop] at hv
      rw [← r4, List.getElem?_take] at hv
      have hm : (i + 1) * sz ≤ els.length * sz := Nat.mul_le_mul_right _ hlt
      rw [Nat.succ_mul] at hm
      rw [if_pos (by omega)] at hv
      rw [cell_of_row w b _ cur E (0, 0) hb]
      rw [Nat.add_assoc]; simpa using hv
    obtain ⟨v, q1, q2, _⟩ := load_rs hl hr (hcs.drop o)
    exact ⟨v, by simp [execOp, e, Instr.loadAt, Instr.sureAddr, q1], q2.mono (FLe.refl _) (GLe.no _)⟩
theorem o_load_ps {T' : TypeId} {x : Operand} {id i sz o E : Nat} {els : List DV} {d r : DV} [hT : CSc P T'] (hx : ev σ.env x = some (.rp id i sz o)) (hh : hget σ.heap id = some (.row E sz els)) (hd : els[i]? = some d) (hf : d.flat = true) (hl : d.cs[o]? = some r) :
    OpG P ops ⟨some t, .load T' x, ty, pos, af, none⟩ (tm x) [id] σ ⟨[(t, r)], [], []⟩ := o_load_p hx hh hd hf (.sc hT.h (by rw [head_drop]; exact hl))
theorem o_load_pr {T' : TypeId} {x : Operand} {id i sz o E n : Nat} {els ds' : List DV} {d : DV} [hT : CRow P T' n] (hx : ev σ.env x = some (.rp id i sz o)) (hh : hget σ.heap id = some (.row E sz els)) (hd : els[i]? = some d) (hf : d.flat = true) (hn : Nat.ble n (d.cs.drop o).length = true) (hl : (d.cs.drop o).take n = ds') :
    OpG P ops ⟨some t, .load T' x, ty, pos, af, none⟩ (tm x) [id] σ ⟨[(t, .agg ds')], [], []⟩ := o_load_p hx hh hd hf (.row n hT.h (Nat.le_of_ble_eq_true hn) (by rw [hl]))
/-- a store into an element of a row: its new cells are cs' -/
theorem o_store_p {T' : TypeId} {x y : Operand} {id i sz o E n : Nat} {els : List DV} {d dn e' : DV} [hT : CSize P T' n] (hx : ev σ.env x = some (.rp id i sz o)) (hy : ev σ.env y = some dn) (hh : hget σ.heap id = some (.row E sz els)) (hd : els[i]? = some d) (hf : d.flat = true) (hfn : dn.flat = true) (hn : Nat.beq n dn.cs.length = true)
    (hids : dn.ids = []) (hl : Nat.ble (o + n) sz = true) (he : e'.flat = true) (hlay : layD d.cs o dn.cs = e'.cs) (hsz : 0 < n) :
    OpG P ops ⟨none, .store T' x y, ty, pos, af, none⟩ (tm x ++ tm y) [id] σ ⟨[], [(id, some (.row E sz (els.set i e')))], []⟩ :=
  OpG.skip rfl rfl fun C F γ σ' a w h1 h2 hs => by
    obtain ⟨k1, k2⟩ := ev2 hs h1 hx hy
    have hh' := (h2 id (by simp)).trans hh
    obtain ⟨b, m, c, cur, vs, vd, e, hg, hb, rfl, r1, r2, r3, r4, hE, p1, p2, p3, p4⟩ := rs_rp hs k1 hh' hd
    have hlt : i < els.length := by
      rcases Nat.lt_or_ge i els.length with h | h
      · exact h
      · rw [List.getElem?_eq_none h] at hd; cases hd
    have kc := RsL.cs k2 hs.ws.gone hfn
    have hn' : n = dn.cs.length := Nat.eq_of_beq_eq_true hn
    have hlen := kc.len
    have hle := Nat.le_of_ble_eq_true hl
    have hm : (i + 1) * sz ≤ els.length * sz := Nat.mul_le_mul_right _ hlt
    rw [Nat.succ_mul] at hm
    have hmc : els.length * sz ≤ c * sz := Nat.mul_le_mul_right _ r1
    have hvsz : (a.eval y).cells.size = n := by rw [hn', ← hlen]; simp
    have hrun := run_store_any (P := P) (o := i * sz + o) T' (a.eval y) hb (by rw [hT.h, hvsz]) (by rw [hvsz, r3]; omega) kc.one
    obtain ⟨s1, s2⟩ := Stp.setRow (lay cur (i * sz + o) (a.eval y).cells.toList) hb
    refine ⟨_, by simp [execOp, e, Instr.storeAt, Instr.sureAddr, hrun]; rfl, ?_⟩
    have W := hs.ws.turn hh' hg (by simpa [Value.pblk] using s1)
    -- the element's new value
    have hdl : vd.cells.toList.length = sz := by rw [Array.length_toList, p2]
    have hnew : RsL F Gam.no (layD d.cs o dn.cs) (vd.cells.toList.take o ++ (a.eval y).cells.toList ++ vd.cells.toList.drop (o + n)) := by
      have hcs := RsL.cs p4 GOne.no hf
      rw [layD, ← hn']
      exact ((hcs.take o).append (RsL_ids _ _ (by
        intro x hx
        have : idsL dn.cs = dn.ids := by
          cases dn <;> simp [DV.cs, DV.ids, idsL]
        rw [this, hids] at hx; cases hx) kc)).append (hcs.drop _)
    rw [hlay] at hnew
    obtain ⟨ve, ve1, ve2⟩ := Rs_of_cs he hnew
    have hvl := hE.len
    have hyl : (a.eval y).cells.toList.length = n := by rw [Array.length_toList, hvsz]
    have hvel : ve.cells.size = sz := by
      have : ve.cells.toList.length = sz := by rw [ve1]; simp [hyl, hdl]; omega
      simpa using this
    have hset := hE.set hlt hvel (by rw [ve1]; exact hnew.one) ve2
    have W2 := W.put (id0 := id) (e0 := .row E sz (els.set i e')) hg ⟨_, ⟨?_, .inr ⟨b, c, _, by simp, Nat.zero_le _, s2, by simpa using r1, r2, ?_, ?_⟩⟩, hset⟩ (fun b' hb' => ?_)
    · exact W2.congr (fun i e hi => over_same id _ _ i e hi) (fun _ h => h)
    · have := hset.len; simpa using this
    · rw [lay_size (by rw [hyl, r3]; omega)]; exact r3
    · -- the cells
      have hcl : cur.toList.length = c * sz := by rw [← r3]; simp
      rw [List.length_set, lay_list, ve1, hyl, ← p1, ← r4, Nat.succ_mul]
      exact splice_list cur.toList _ hyl hle (by omega) (by omega)
    · have ho := hs.ws.own id _ _ b' hh' hg hb'
      refine ⟨ho.1, ho.2, fun i e g hne hi hgi hbi => ?_⟩
      rw [hget_cons] at hi
      split at hi
      · cases hi
      · exact hne (hs.ws.apart i id e _ g _ b' hi hh' hgi hg hbi hb')
end
end Go.Proofs.YtepkcbalmjnhpaaGreat

/-! ### part O -/
/-
  My engine, part O: states that hold others.
-/
namespace Go.Proofs.YtepkcbalmjnhpaaGreat
open Go.RowKit
inductive EnvOk (f : Nat → Nat) (e : List (Nat × DV)) : List (Nat × DV) → Prop
  | nil : EnvOk f e []
  | cons {t : Nat} {d d' : DV} {r : List (Nat × DV)} (h : look e t = some d) (hle : DLe d (d'.ren f)) (k : EnvOk f e r) : EnvOk f e ((t, d') :: r)
inductive HLe : HE → HE → Prop
  | refl (e : HE) : HLe e e
  | blk {T : TypeId} {ds ds' : List DV} (h : DLeL ds ds') : HLe (.blk T ds) (.blk T ds')
theorem HLe.ent {F : FMap} {γ : Gam} {w : World} {e e' : HE} (h : HLe e e') {g : Value} (k : Ent F γ w e g) : Ent F γ w e' g := by
  cases h with
  | refl => exact k
  | blk h => obtain ⟨b, cs, k1, k2, k3⟩ := k; exact ⟨b, cs, k1, k2, h.rsL k3⟩
inductive HeapOk (f : Nat → Nat) (h : Heap) : Heap → Prop
  | nil : HeapOk f h []
  | cons {i : Nat} {e e' : HE} {r : Heap} (he : hget h (f i) = some e) (hle : HLe e (e'.ren f)) (k : HeapOk f h r) : HeapOk f h ((i, some e') :: r)
theorem EnvOk.spec {f : Nat → Nat} {e e' : List (Nat × DV)} (h : EnvOk f e e') : ∀ t d', look e' t = some d' → ∃ d, look e t = some d ∧ DLe d (d'.ren f) := by
  induction h with
  | nil => intro t d' h; simp [look] at h
  | cons h hle k ih =>
    intro t d' hd
    rw [look_cons] at hd
    split at hd
    · rename_i e1; subst e1; injection hd with hd; subst hd; exact ⟨_, h, hle⟩
    · exact ih t d' hd
theorem HeapOk.spec {f : Nat → Nat} {h h' : Heap} (k : HeapOk f h h') : ∀ i e', hget h' i = some e' → ∃ e, hget h (f i) = some e ∧ HLe e (e'.ren f) := by
  induction k with
  | nil => intro i e he; simp [hget, look] at he
  | cons he hle k ih =>
    intro i e hi
    rw [hget_cons] at hi
    split at hi
    · rename_i e1; subst e1; injection hi with hi; subst hi; exact ⟨_, he, hle⟩
    · exact ih i e hi
def memB (x : Nat) (l : List Nat) : Bool := l.any (Nat.beq x)
def usedOk (f : Nat → Nat) (u u' : List Nat) : Bool := u.all fun i => Nat.blt i 100000 || (Nat.beq (f i) i && memB i u')
def idsOk (σ : AS) : Bool := (σ.env.all fun p => p.2.ids.all fun i => memB i σ.used) && (σ.heap.all fun p => memB p.1 σ.used && match p.2 with
  | some e => e.ids.all fun i => memB i σ.used
  | none => true)
theorem Imp.of {σ σ' : AS} (f : Nat → Nat) (he : EnvOk f σ.env σ'.env) (hh : HeapOk f σ.heap σ'.heap) (hu : usedOk f σ.used σ'.used = true) (hi : injOk f (σ'.heap.map (·.1)) = true) (hc : idsOk σ' = true) : Imp σ σ' := by
  intro C F γ a w hs
  simp only [idsOk, Bool.and_eq_true, List.all_eq_true] at hc
  let γ' : Gam := fun i => if i ∈ σ'.used then γ (f i) else none
  have gam : ∀ {i}, i ∈ σ'.used → γ (f i) = γ' i := fun h => (if_pos h : γ' _ = γ (f _)).symm
  have mem : ∀ {i e}, hget σ'.heap i = some e → i ∈ σ'.used := fun h => any_beq (hc.2 _ (hget_mem h)).1
  have memk : ∀ {i e}, hget σ'.heap i = some e → i ∈ σ'.heap.map (·.1) := fun h => List.mem_map.2 ⟨_, hget_mem h, rfl⟩
  have idsE : ∀ {i e}, hget σ'.heap i = some e → ∀ x ∈ e.ids, γ (f x) = γ' x := fun h x hx => gam (any_beq (by
    have := (hc.2 _ (hget_mem h)).2
    simp only [List.all_eq_true] at this
    exact this x hx))
  have inj := injOk_spec hi
  refine ⟨F, γ', fun t d hd => ?_, ?_, hs.size, hs.defers⟩
  · obtain ⟨d0, h1, h2⟩ := he.spec t d hd
    have := hs.env t d0 h1
    refine ⟨this.1, (Rs_ren f d _ (fun x hx => gam (any_beq (hc.1 _ (look_mem hd) x hx)))).1 (h2 _ _ _ this.2)⟩
  · exact {
      ent := fun i e h => by
        obtain ⟨e0, h1, h2⟩ := hh.spec i e h
        obtain ⟨g, k1, k2⟩ := hs.ws.ent _ _ h1
        exact ⟨g, (gam (mem h)).symm.trans k1, (Ent_ren f (idsE h)).1 (h2.ent k2)⟩
      own := fun i e g b h hg hb => by
        obtain ⟨e0, h1, h2⟩ := hh.spec i e h
        exact hs.ws.own _ e0 g b h1 ((gam (mem h)).trans hg) hb
      apart := fun i j e e' g g' b h h' hg hg' hb hb' => by
        obtain ⟨e0, h1, _⟩ := hh.spec i e h
        obtain ⟨e1, h1', _⟩ := hh.spec j e' h'
        exact inj i (memk h) j (memk h') (hs.ws.apart _ _ e0 e1 g g' b h1 h1' ((gam (mem h)).trans hg) ((gam (mem h')).trans hg') hb hb')
      fs := hs.ws.fs, f0 := hs.ws.f0, fnew := hs.ws.fnew, os := hs.ws.os, tape := hs.ws.tape, output := hs.ws.output, size := hs.ws.size, keep := hs.ws.keep
      us := fun i g h => by
        simp only [γ'] at h
        split at h
        · assumption
        · cases h
      gone := fun i g h => by
        simp only [γ'] at h
        split at h
        · exact hs.ws.gone _ _ h
        · cases h
      g0 := fun i g h => by
        have h1 := hs.ws.g0 i g h
        have h2 := hs.ws.gk i g h
        have h3 := List.all_eq_true.1 hu i (hs.ws.us i g h1)
        simp only [Bool.or_eq_true, Bool.and_eq_true, Nat.blt_eq] at h3
        rcases h3 with h3 | ⟨h3, h4⟩
        · omega
        · have e : f i = i := Nat.eq_of_beq_eq_true h3
          show γ' i = some g
          rw [← gam (any_beq h4), e]; exact h1
      gk := hs.ws.gk }
/-- nothing is renamed -/
inductive EnvLe (e : List (Nat × DV)) : List (Nat × DV) → Prop
  | nil : EnvLe e []
  | cons {t : Nat} {d d' : DV} {r : List (Nat × DV)} (h : look e t = some d) (hle : DLe d d') (k : EnvLe e r) : EnvLe e ((t, d') :: r)
theorem EnvLe.spec {e e' : List (Nat × DV)} (h : EnvLe e e') : ∀ t d', look e' t = some d' → ∃ d, look e t = some d ∧ DLe d d' := by
  induction h with
  | nil => intro t d' h; simp [look] at h
  | cons h hle k ih =>
    intro t d' hd
    rw [look_cons] at hd
    split at hd
    · rename_i e1; subst e1; injection hd with hd; subst hd; exact ⟨_, h, hle⟩
    · exact ih t d' hd
/-- slots and memory are dropped, or said in weaker words -/
theorem Imp.le {σ : AS} {env' : List (Nat × DV)} (he : EnvLe σ.env env') : Imp σ ⟨env', σ.heap, σ.used⟩ := fun C F γ a w hs =>
  ⟨F, γ, fun t d hd => by
    obtain ⟨d0, h1, h2⟩ := he.spec t d hd
    have := hs.env t d0 h1
    exact ⟨this.1, h2 _ _ _ this.2⟩, hs.ws, hs.size, hs.defers⟩
/-- nil is an empty row of the call's own -/
theorem Imp.nilRow {σ : AS} {t id : Nat} (E sz : Nat) (ht : look σ.env t = some .nils) (hi : memB id σ.used = false) : Imp σ ⟨(t, .row id) :: σ.env, (id, some (.row E sz [])) :: σ.heap, id :: σ.used⟩ := fun C F γ a w hs => by
  have hn : id ∉ σ.used := fun h => by
    have : memB id σ.used = true := List.any_eq_true.2 ⟨id, h, by simp⟩
    rw [hi] at this; cases this
  have hle := Gam.up_le (.slice none 0 0) (hs.ws.fresh hn)
  have W := hs.ws.add hn (e0 := .row E sz []) (g := .slice none 0 0) ⟨[], own_nil _ _ _ _, by simp [RsE]⟩ (fun b hb => by simp [Value.pblk] at hb)
  refine ⟨F, _, fun t' d hd => ?_, W, hs.size, hs.defers⟩
  simp only at hd
  rw [look_cons] at hd
  have h0 := hs.env t _ ht
  split at hd
  · rename_i e1; subst e1; injection hd with hd; subst hd
    refine ⟨h0.1, ?_⟩
    have := h0.2
    simp only [Rs] at this ⊢
    rw [this]; exact Gam.up_same _ _ _
  · exact ⟨(hs.env t' d hd).1, (hs.env t' d hd).2.mono (FLe.refl _) hle⟩
mutual
def DV.frz (id sz : Nat) (els : List DV) : DV → DV
  | .row i => bif Nat.beq i id then .sl sz els else .row i
  | .agg ds => .agg (frzL id sz els ds)
  | .tup ds => .tup (frzL id sz els ds)
  | .ifb b d => .ifb b (d.frz id sz els)
  | .clo f ds => .clo f (frzL id sz els ds)
  | .int k n => .int k n
  | .bool b => .bool b
  | .str s => .str s
  | .val v => .val v
  | .nils => .nils
  | .sl s e => .sl s e
  | .eptr ds => .eptr ds
  | .ref i o => .ref i o
  | .rp i j s o => .rp i j s o
  | .bsl i o n => .bsl i o n
def frzL (id sz : Nat) (els : List DV) : List DV → List DV
  | [] => []
  | d :: ds => d.frz id sz els :: frzL id sz els ds
end
mutual
theorem Rs_frz {F F' : FMap} {γ : Gam} {id sz : Nat} {els : List DV} (hF : FLe F F') (h : ∀ v, γ id = some v → Rs F' γ (.sl sz els) v) : ∀ (d : DV) (v : Value), Rs F γ d v → Rs F' γ (d.frz id sz els) v
  | .row i, v, hd => by
    simp only [Rs] at hd
    simp only [DV.frz]
    by_cases e : i = id
    · subst e
      have : Nat.beq i i = true := by simp
      rw [this]; exact h v hd
    · have : Nat.beq i id = false := by rw [Bool.eq_false_iff]; intro e'; exact e (Nat.eq_of_beq_eq_true e')
      rw [this]; simp only [cond_false, Rs]; exact hd
  | .agg ds, v, hd => by simp only [Rs, DV.frz] at hd ⊢; obtain ⟨cs, rfl, hd⟩ := hd; exact ⟨cs, rfl, RsL_frz hF h ds _ hd⟩
  | .tup ds, v, hd => by simp only [Rs, DV.frz] at hd ⊢; obtain ⟨cs, rfl, hd⟩ := hd; exact ⟨cs, rfl, RsT_frz hF h ds _ hd⟩
  | .ifb b d, v, hd => by simp only [Rs, DV.frz] at hd ⊢; exact ⟨fun e => Rs_frz hF h d v (hd.1 e), hd.2⟩
  | .clo f ds, v, hd => by simp only [Rs, DV.frz] at hd ⊢; obtain ⟨cs, rfl, hd⟩ := hd; exact ⟨cs, rfl, RsT_frz hF h ds _ hd⟩
  | .int k n, v, hd => hd.mono hF (GLe.refl _)
  | .bool b, v, hd => hd.mono hF (GLe.refl _)
  | .str s, v, hd => hd.mono hF (GLe.refl _)
  | .val x, v, hd => hd.mono hF (GLe.refl _)
  | .nils, v, hd => hd.mono hF (GLe.refl _)
  | .sl s e, v, hd => hd.mono hF (GLe.refl _)
  | .eptr ds, v, hd => hd.mono hF (GLe.refl _)
  | .ref i o, v, hd => hd.mono hF (GLe.refl _)
  | .rp i j s o, v, hd => hd.mono hF (GLe.refl _)
  | .bsl i o n, v, hd => hd.mono hF (GLe.refl _)
theorem RsL_frz {F F' : FMap} {γ : Gam} {id sz : Nat} {els : List DV} (hF : FLe F F') (h : ∀ v, γ id = some v → Rs F' γ (.sl sz els) v) : ∀ (ds : List DV) (vs : List Value), RsL F γ ds vs → RsL F' γ (frzL id sz els ds) vs
  | [], vs, hd => by simp only [RsL, frzL] at hd ⊢; exact hd
  | d :: ds, vs, hd => by
    simp only [RsL, frzL] at hd ⊢
    obtain ⟨v, rest, h1, h2, h3, h4⟩ := hd
    exact ⟨v, rest, h1, h2, Rs_frz hF h d v h3, RsL_frz hF h ds _ h4⟩
theorem RsT_frz {F F' : FMap} {γ : Gam} {id sz : Nat} {els : List DV} (hF : FLe F F') (h : ∀ v, γ id = some v → Rs F' γ (.sl sz els) v) : ∀ (ds : List DV) (vs : List Value), RsT F γ ds vs → RsT F' γ (frzL id sz els ds) vs
  | [], vs, hd => by simp only [RsT, frzL] at hd ⊢; exact hd
  | d :: ds, vs, hd => by
    simp only [RsT, frzL] at hd ⊢
    obtain ⟨v, rest, h1, h3, h4⟩ := hd
    exact ⟨v, rest, h1, Rs_frz hF h d v h3, RsT_frz hF h ds _ h4⟩
end
def HE.frz (id sz : Nat) (els : List DV) : HE → HE
  | .blk T ds => .blk T (frzL id sz els ds)
  | .row E s e => .row E s e
  | .obj o => .obj o
def frzE (id sz : Nat) (els : List DV) (e : List (Nat × DV)) : List (Nat × DV) := e.map fun p => (p.1, p.2.frz id sz els)
def frzH (id sz : Nat) (els : List DV) (h : Heap) : Heap := h.map fun p => (p.1, p.2.map (HE.frz id sz els))
theorem look_map {α β : Type} (g : α → β) : ∀ (l : List (Nat × α)) (t : Nat), look (l.map fun p => (p.1, g p.2)) t = (look l t).map g
  | [], t => rfl
  | (k, x) :: l, t => by
    rw [List.map_cons, look_cons, look_cons, look_map g l t]
    split <;> rfl
theorem Imp.freeze {σ : AS} {id E sz : Nat} {els : List DV} (hh : hget σ.heap id = some (.row E sz els)) : Imp σ ⟨frzE id sz els σ.env, (id, none) :: frzH id sz els σ.heap, σ.used⟩ := fun C F γ a w hs => by
  obtain ⟨g, hg, _⟩ := hs.ws.ent id _ hh
  obtain ⟨F', f1, f2, f3⟩ := hs.ws.freeze hh hg
  have h : ∀ v, γ id = some v → Rs F' γ (.sl sz els) v := fun v hv => by rw [hg] at hv; injection hv with hv; subst hv; exact f3
  refine ⟨F', γ, fun t d hd => ?_, ?_, hs.size, hs.defers⟩
  · simp only [frzE] at hd
    rw [look_map (fun d => DV.frz id sz els d)] at hd
    cases hl : look σ.env t with
    | none => rw [hl] at hd; cases hd
    | some d0 =>
      rw [hl] at hd; injection hd with hd; subst hd
      exact ⟨(hs.env t d0 hl).1, Rs_frz f1 h d0 _ (hs.env t d0 hl).2⟩
  · have key : ∀ i e, hget ((id, none) :: frzH id sz els σ.heap) i = some e → ∃ e0, hget ((id, none) :: σ.heap) i = some e0 ∧ e = e0.frz id sz els := by
      intro i e hi
      rw [hget_cons] at hi ⊢
      split at hi
      · cases hi
      · unfold hget at hi ⊢
        simp only [frzH] at hi
        rw [look_map (fun x => Option.map (HE.frz id sz els) x)] at hi
        cases hl : look σ.heap i with
        | none => rw [hl] at hi; simp at hi
        | some x =>
          rw [hl] at hi
          cases x with
          | none => simp at hi
          | some e0 =>
            simp at hi
            rename_i hne
            exact ⟨e0, by rw [if_neg hne], hi.symm⟩
    exact {
      ent := fun i e hi => by
        obtain ⟨e0, k1, rfl⟩ := key i e hi
        have k0 : hget σ.heap i = some e0 := by
          rw [hget_cons] at k1
          split at k1
          · cases k1
          · exact k1
        obtain ⟨g', q1, q2⟩ := hs.ws.ent i e0 k0
        refine ⟨g', q1, ?_⟩
        cases e0 with
        | blk T ds => obtain ⟨b, cs, r1, r2, r3⟩ := q2; exact ⟨b, cs, r1, r2, RsL_frz f1 h ds _ r3⟩
        | row E' s e' => obtain ⟨vs, r1, r2⟩ := q2; exact ⟨vs, r1, r2.mono f1⟩
        | obj o => exact q2
      own := fun i e g' b hi => by obtain ⟨e0, k1, _⟩ := key i e hi; exact f2.own i e0 g' b k1
      apart := fun i j e e' g1 g2 b hi hj => by
        obtain ⟨e0, k1, _⟩ := key i e hi
        obtain ⟨e1, k2, _⟩ := key j e' hj
        exact f2.apart i j e0 e1 g1 g2 b k1 k2
      fs := f2.fs, f0 := f2.f0, fnew := f2.fnew, os := f2.os, tape := f2.tape, output := f2.output, size := f2.size, keep := f2.keep, us := f2.us, gone := f2.gone, g0 := f2.g0, gk := f2.gk }
end Go.Proofs.YtepkcbalmjnhpaaGreat

/-! ### part P -/
/-
  My engine, part P: pointers against nil.
-/
namespace Go.Proofs.YtepkcbalmjnhpaaGreat
open Go.RowKit
class TPtr (P : Program) (t : TypeId) : Prop where
  h : ∃ e, P.underlying t = some (.pointer e)
section
variable {P : Program} {ops : Array Oper} {σ : AS} {t : Nat} {ty : TypeId} {pos : String} {af : Array Edge}
theorem run_eq_ptr {T : TypeId} [hT : TPtr P T] (a : Option Addr) (w : World) : (Op.equal T (.pointer a) (.pointer none)).run P w = .ok a.isNone w := by
  obtain ⟨e, he⟩ := hT.h
  have : ∀ n, (Op.equalIn (n + 1) T (.pointer a) (.pointer none)).run P w = .ok a.isNone w := fun n => by cases a <;> simp [Op.equalIn, run_underlying he]
  exact this 9999
theorem run_ptr_eql {T T' : TypeId} [hT : TPtr P T] {a : Act} {x : Operand} {A : Option Addr} (hx : a.eval x = .pointer A) (w : World) : (execOp a.eval ⟨some t, .binOp .eql T x (.const (.pointer none)) T', ty, pos, af, none⟩).run P w = .ok (.value (.bool A.isNone)) w := by
  have e0 : a.eval (.const (.pointer none)) = .pointer none := rfl
  have e : binOp .eql T (.pointer A) (.pointer none) = (do pure (.bool (← Op.equal T (.pointer A) (.pointer none)))) := by cases A <;> rfl
  have e2 : eqGuard .eql T x (.const (.pointer none)) (.pointer A) (.pointer none) = pure () := rfl
  simp only [execOp, hx, e0, e, e2, Sem.run_bind, Sem.run_pure, Result.andThen_ok, run_eq_ptr]
theorem run_ptr_neq {T T' : TypeId} [hT : TPtr P T] {a : Act} {x : Operand} {A : Option Addr} (hx : a.eval x = .pointer A) (w : World) : (execOp a.eval ⟨some t, .binOp .neq T x (.const (.pointer none)) T', ty, pos, af, none⟩).run P w = .ok (.value (.bool (!A.isNone))) w := by
  have e0 : a.eval (.const (.pointer none)) = .pointer none := rfl
  have e : binOp .neq T (.pointer A) (.pointer none) = (do pure (.bool (!(← Op.equal T (.pointer A) (.pointer none))))) := by cases A <;> rfl
  have e2 : eqGuard .neq T x (.const (.pointer none)) (.pointer A) (.pointer none) = pure () := rfl
  simp only [execOp, hx, e0, e, e2, Sem.run_bind, Sem.run_pure, Result.andThen_ok, run_eq_ptr]
theorem o_ptr_eq {T T' : TypeId} [hT : TPtr P T] {x : Operand} {id off : Nat} (hx : ev σ.env x = some (.ref id off)) : OpG P ops ⟨some t, .binOp .eql T x (.const (.pointer none)) T', ty, pos, af, none⟩ (tm x) [] σ ⟨[(t, .bool false)], [], []⟩ :=
  OpG.val rfl rfl fun C F γ σ' a w h1 h2 hs => by
    have k1 := hs.ev ((ev_agree h1 (fun _ h => h)).trans hx)
    simp only [Rs] at k1
    obtain ⟨b, hg, e⟩ := k1
    exact ⟨_, run_ptr_eql e w, by simp only [Rs]; rfl⟩
theorem o_ptr_ne {T T' : TypeId} [hT : TPtr P T] {x : Operand} {id off : Nat} (hx : ev σ.env x = some (.ref id off)) : OpG P ops ⟨some t, .binOp .neq T x (.const (.pointer none)) T', ty, pos, af, none⟩ (tm x) [] σ ⟨[(t, .bool true)], [], []⟩ :=
  OpG.val rfl rfl fun C F γ σ' a w h1 h2 hs => by
    have k1 := hs.ev ((ev_agree h1 (fun _ h => h)).trans hx)
    simp only [Rs] at k1
    obtain ⟨b, hg, e⟩ := k1
    exact ⟨_, run_ptr_neq e w, by simp only [Rs]; rfl⟩
theorem o_nil_eq {T T' : TypeId} [hT : TPtr P T] {x : Operand} (hx : ev σ.env x = some (.val (.pointer none))) : OpG P ops ⟨some t, .binOp .eql T x (.const (.pointer none)) T', ty, pos, af, none⟩ (tm x) [] σ ⟨[(t, .bool true)], [], []⟩ :=
  OpG.val rfl rfl fun C F γ σ' a w h1 h2 hs => by
    have k1 := hs.ev ((ev_agree h1 (fun _ h => h)).trans hx)
    simp only [Rs] at k1
    exact ⟨_, run_ptr_eql k1 w, by simp only [Rs]; rfl⟩
theorem o_nil_ne {T T' : TypeId} [hT : TPtr P T] {x : Operand} (hx : ev σ.env x = some (.val (.pointer none))) : OpG P ops ⟨some t, .binOp .neq T x (.const (.pointer none)) T', ty, pos, af, none⟩ (tm x) [] σ ⟨[(t, .bool false)], [], []⟩ :=
  OpG.val rfl rfl fun C F γ σ' a w h1 h2 hs => by
    have k1 := hs.ev ((ev_agree h1 (fun _ h => h)).trans hx)
    simp only [Rs] at k1
    exact ⟨_, run_ptr_neq k1 w, by simp only [Rs]; rfl⟩
/-- closures -/
theorem o_makeFunc {f : FuncId} {xs : Array Operand} {ds : List DV} (hx : evL σ.env xs.toList = some ds) : OpG P ops ⟨some t, .makeFunc (.func f) #[] xs, ty, pos, af, none⟩ (xs.toList.flatMap tm) [] σ ⟨[(t, .clo f ds)], [], []⟩ :=
  OpG.val rfl rfl fun C F γ σ' a w h1 h2 hs => by
    have k1 := hs.evs ((evL_agree h1 (fun _ h => h)).trans hx)
    refine ⟨.func (.func f) #[] (xs.map a.eval), by simp [execOp, Instr.makeFunc], ?_⟩
    simp only [Rs]
    exact ⟨_, rfl, by rw [Array.toList_map]; exact k1⟩
/-- entries that a call reads alone -/
inductive RoOk (pre : Heap) : Heap → Prop
  | nil : RoOk pre []
  | cons {i : Nat} {e : HE} {r : Heap} (h : hget pre i = some e) (k : RoOk pre r) : RoOk pre ((i, some e) :: r)
theorem RoOk.spec {pre r : Heap} (k : RoOk pre r) : ∀ p ∈ r, ∃ e, p.2 = some e ∧ hget pre p.1 = some e := by
  induction k with
  | nil => intro p hp; cases hp
  | cons h k ih =>
    intro p hp
    rcases List.mem_cons.1 hp with rfl | hp
    · exact ⟨_, rfl, h⟩
    · exact ih p hp
theorem hget_append (a b : Heap) (i : Nat) : hget (a ++ b) i = match look a i with
    | some x => x
    | none => hget b i := by
  unfold hget
  rw [look_append]
  cases look a i with
  | none => rfl
  | some x => cases x <;> rfl
/-- a call, through its value: the first n entries of its post are turned, the others are read -/
theorem o_callV {fn : FuncId} [hf : CFn P fn] {x : Operand} {caps : List DV} {xs : Array Operand} {ats : Array TypeId} {K : Con} (f : Nat → Nat) (n : Nat) (hc : ACall P fn K) {ds : List DV} (hx : ev σ.env x = some (.clo fn caps)) (ha : evL σ.env xs.toList = some ds) (hle : DLeL (ds ++ caps) (renL f K.args)) (hpre : PreOk f σ.heap K.pre) (hi : injOk f (K.pre.map (·.1) ++ K.new) = true) (hro : RoOk K.pre (K.post.drop n)) :
    OpG P ops ⟨some t, .call ⟨.value x, xs, ats⟩, ty, pos, af, none⟩ (tm x ++ xs.toList.flatMap tm) (K.pre.map (fun p => f p.1)) σ ⟨[(t, K.res.ren f)], renH f (K.post.take n), K.new.map f⟩ := by
  intro C F γ σ' a w h1 h2 h3 h4 hs K' Q hK
  simp only [Region.wanted, ↓reduceIte]
  have kx := hs.ev ((ev_agree h1 (fun _ h => List.mem_append_left _ h)).trans hx)
  simp only [Rs] at kx
  obtain ⟨cs, ex, hcs⟩ := kx
  have ka := hs.evs ((evL_agree h1 (fun _ h => List.mem_append_right _ h)).trans ha)
  have hrun : (execOp a.eval ⟨some t, .call ⟨.value x, xs, ats⟩, ty, pos, af, none⟩).run P w = .ok (.enter fn (xs.map a.eval ++ cs)) w := by
    simp [execOp, resolve, ex, Deferred.ofValue, invoke, run_callFunc]
  refine wpIn_of_enter (fun c hc => by cases hc) hrun ?_
  have hv : RsT F γ (ds ++ caps) (xs.toList.map a.eval ++ cs.toList) := by
    have gen : ∀ {d1 d2 : List DV} {v1 v2 : List Value}, RsT F γ d1 v1 → RsT F γ d2 v2 → RsT F γ (d1 ++ d2) (v1 ++ v2) := by
      intro d1
      induction d1 with
      | nil => intro d2 v1 v2 q1 q2; simp only [RsT] at q1; rw [q1]; exact q2
      | cons d d1 ih =>
        intro d2 v1 v2 q1 q2
        simp only [RsT] at q1
        obtain ⟨v, rest, rfl, q3, q4⟩ := q1
        simp only [List.cons_append, RsT]
        exact ⟨v, rest ++ v2, rfl, q3, ih q4 q2⟩
    exact gen ka hcs
  have e : (xs.toList.map a.eval ++ cs.toList).toArray = xs.map a.eval ++ cs := by rw [← Array.toList_map, ← Array.toList_append]
  have hpre' : ∀ i e, hget K.pre i = some e → hget σ'.heap (f i) = some (e.ren f) := fun i e he => by
    rw [h2 (f i) (List.mem_map.2 ⟨_, hget_mem he, rfl⟩)]; exact hpre.spec i e he
  have := hc C F γ σ'.heap σ'.used w _ f hpre' (fun i hin => h3 (f i) (List.mem_map.2 ⟨i, hin, rfl⟩)) (injOk_spec hi) hs.ws (hle.rsT hv)
  rw [e] at this
  refine this.mono ?_
  rintro e w' ⟨v, F', γ', rfl, k1, k2, k3, k4⟩
  refine ⟨v, rfl, hK F' γ' _ _ k1 ((hs.mono k1 k2 (k3.congr (fun i e he => ?_) (fun _ h => h))).put (h4 t rfl) k4)⟩
  have hsplit : renH f K.post = renH f (K.post.take n) ++ renH f (K.post.drop n) := by
    unfold renH; rw [← List.map_append, List.take_append_drop]
  rw [hsplit, List.append_assoc, hget_append]
  rw [hget_append] at he
  cases hl : look (renH f (K.post.take n)) i with
  | some y => rw [hl] at he; exact he
  | none =>
    rw [hl] at he
    simp only at he ⊢
    rw [hget_append]
    cases hl2 : look (renH f (K.post.drop n)) i with
    | none => exact he
    | some y =>
      simp only
      have hm := look_mem hl2
      unfold renH at hm
      obtain ⟨p, hp1, hp2⟩ := List.mem_map.1 hm
      obtain ⟨e0, q1, q2⟩ := hro.spec p hp1
      injection hp2 with r1 r2
      rw [q1] at r2
      have := hpre' p.1 e0 q2
      rw [r1, he] at this
      rw [← r2, Option.map_some]; exact this.symm
/-- the same, of a function by its name -/
theorem o_callN {fn : FuncId} [hf : CFn P fn] {xs : Array Operand} {ats : Array TypeId} {K : Con} (f : Nat → Nat) (n : Nat) (hc : ACall P fn K) {ds : List DV} (ha : evL σ.env xs.toList = some ds) (hle : DLeL ds (renL f K.args)) (hpre : PreOk f σ.heap K.pre) (hi : injOk f (K.pre.map (·.1) ++ K.new) = true) (hro : RoOk K.pre (K.post.drop n)) :
    OpG P ops ⟨some t, .call ⟨.value (.func fn), xs, ats⟩, ty, pos, af, none⟩ (xs.toList.flatMap tm) (K.pre.map (fun p => f p.1)) σ ⟨[(t, K.res.ren f)], renH f (K.post.take n), K.new.map f⟩ := by
  intro C F γ σ' a w h1 h2 h3 h4 hs K' Q hK
  have := o_callA (ops := ops) (σ := σ) (t := t) (ty := ty) (pos := pos) (af := af) (xs := xs) (ats := ats) f hc ha hle hpre hi C F γ σ' a w h1 h2 h3 h4 hs K' Q (fun F' γ' a' w' hF hs' => hK F' γ' a' w' hF ?_)
  · exact this
  · refine hs'.congr (fun t d h => h) (fun i e he => ?_) (fun _ h => h)
    have hpre' : ∀ i e, hget K.pre i = some e → hget σ'.heap (f i) = some (e.ren f) := fun i e he => by
      rw [h2 (f i) (List.mem_map.2 ⟨_, hget_mem he, rfl⟩)]; exact hpre.spec i e he
    simp only [AS.app] at he ⊢
    have hsplit : renH f K.post = renH f (K.post.take n) ++ renH f (K.post.drop n) := by
      unfold renH; rw [← List.map_append, List.take_append_drop]
    rw [hsplit, List.append_assoc, hget_append]
    rw [hget_append] at he
    cases hl : look (renH f (K.post.take n)) i with
    | some y => rw [hl] at he; exact he
    | none =>
      rw [hl] at he
      simp only at he ⊢
      rw [hget_append]
      cases hl2 : look (renH f (K.post.drop n)) i with
      | none => exact he
      | some y =>
        simp only
        have hm := look_mem hl2
        unfold renH at hm
        obtain ⟨p, hp1, hp2⟩ := List.mem_map.1 hm
        obtain ⟨e0, q1, q2⟩ := hro.spec p hp1
        injection hp2 with r1 r2
        rw [q1] at r2
        have := hpre' p.1 e0 q2
        rw [r1, he] at this
        rw [← r2, Option.map_some]; exact this.symm
class CArr (P : Program) (t : TypeId) (n : outParam Nat) (e : outParam TypeId) (sz : outParam Nat) : Prop where
  u : P.underlying t = some (.array n e)
  s : (P.info? e).map (·.size) = some sz
theorem CArr.size {t n e sz : Nat} (h : CArr P t n e sz) (w : World) : (sizeOf e).run P w = .ok sz w := by
  have := h.s
  cases hq : P.info? e with
  | none => simp [hq] at this
  | some i =>
    have hs : i.size = sz := by simpa [hq] using this
    simp [sizeOf, typeInfo, hq, hs]
theorem o_indexAddr_a {T n e sz : Nat} [hT : CArr P T n e sz] {x y : Operand} {id off : Nat} {k : IntKind} {m : Int} (i : Nat) (hx : ev σ.env x = some (.ref id off)) (hy : ev σ.env y = some (.int k m)) (hm : m = (i : Int)) (hi : i < n) :
    OpG P ops ⟨some t, .indexAddr T x y, ty, pos, af, none⟩ (tm x ++ tm y) [] σ ⟨[(t, .ref id (off + i * sz))], [], []⟩ :=
  OpG.val rfl rfl fun C F γ σ' a w hag _ hs => by
    obtain ⟨k1, k2⟩ := ev2 hs hag hx hy
    simp only [Rs] at k1 k2
    obtain ⟨b, hg, e⟩ := k1
    subst hm
    refine ⟨.pointer (some ⟨b, off + i * sz, none⟩), ?_, by simp only [Rs]; exact ⟨b, hg, rfl⟩⟩
    by_cases h0 : i * sz = 0
    · simp [execOp, Instr.indexAt, e, k2, asIntOf, run_underlying hT.u, Instr.sureAddr, hi, hT.size, Addr.add, h0]
    · simp [execOp, Instr.indexAt, e, k2, asIntOf, run_underlying hT.u, Instr.sureAddr, hi, hT.size, Addr.add, h0]
/-- one cell of a block, at a place that is no numeral -/
theorem o_store_at {T' : TypeId} {x y : Operand} {id off T : Nat} {ds ds' : List DV} {d : DV} [hT : CSize P T' 1] (hx : ev σ.env x = some (.ref id off)) (hy : ev σ.env y = some d) (hh : hget σ.heap id = some (.blk T ds)) (ho : d.one = true) (hl : off < ds.length) (hd : ds.set off d = ds') :
    OpG P ops ⟨none, .store T' x y, ty, pos, af, none⟩ (tm x ++ tm y) [id] σ ⟨[], [(id, some (.blk T ds'))], []⟩ := by
  refine o_store (n := 1) hx hy hh ?_ ?_ ?_ ?_
  · cases d <;> first | rfl | exact ho | (simp [DV.one] at ho)
  · rw [DV.cs_one ho]; rfl
  · rw [Nat.ble_eq]; omega
  · rw [← hd, layD, DV.cs_one ho, List.set_eq_take_append_cons_drop, if_pos hl]; simp
theorem o_store_s {T' : TypeId} {x y : Operand} {id off T : Nat} {ds : List DV} {d : DV} [hT : CSize P T' 1] (hx : ev σ.env x = some (.ref id off)) (hy : ev σ.env y = some d) (hh : hget σ.heap id = some (.blk T ds)) (ho : d.one = true) (hl : Nat.blt off ds.length = true) :
    OpG P ops ⟨none, .store T' x y, ty, pos, af, none⟩ (tm x ++ tm y) [id] σ ⟨[], [(id, some (.blk T (ds.set off d)))], []⟩ := o_store_at hx hy hh ho (Nat.blt_eq ▸ hl) rfl
theorem o_load_at {T' : TypeId} {x : Operand} {id off T : Nat} {ds : List DV} {d : DV} [hT : CSc P T'] (hx : ev σ.env x = some (.ref id off)) (hh : hget σ.heap id = some (.blk T ds)) (hd : ds[off]? = some d) :
    OpG P ops ⟨some t, .load T' x, ty, pos, af, none⟩ (tm x) [id] σ ⟨[(t, d)], [], []⟩ := o_load_s hx hh hd
end
end Go.Proofs.YtepkcbalmjnhpaaGreat
