/-
  The facts on the types and functions of this seat, printed by gen_ty.py.
-/
import Derived.Test.YtkadjbpmnpcfhaaRows
import Derived.Test.YtkadjbpmnpcfhaaEngP
set_option maxRecDepth 100000
set_option linter.unusedVariables false
namespace Go.Proofs.Ytkadjbpmnpcfhaa
open Go.RowKit
theorem TRow.of {P : Program} {t n : Nat} (h : (P.underlying t).map (·.isRow) = some true) (hi : (P.info? t).map (·.size) = some n) : TRow P t n := by
  cases hu : P.underlying t with
  | none => simp [hu] at h
  | some d => exact ⟨d, hu, by simpa [hu] using h, hi⟩
theorem TSc.of {P : Program} {t : Nat} (h : (P.underlying t).map (·.isRow) = some false) (hi : (P.info? t).map (·.size) = some 1) : TSc P t := by
  cases hu : P.underlying t with
  | none => simp [hu] at h
  | some d => exact ⟨d, hu, by simpa [hu] using h, hi⟩
def fldOf (P : Program) (t i : Nat) : Option (TypeId × Nat) := match P.underlying t with
  | some (.struct fs) => (fs[i]?).map fun f => (f.type, f.offset)
  | _ => none
theorem CFld.of {P : Program} {t i off n : Nat} {ft : TypeId} (h : fldOf P t i = some (ft, off)) (hs : (P.info? ft).map (·.size) = some n) (hp : 0 < n) : CFld P t i off n ft := by
  refine ⟨?_, hs, hp⟩
  unfold fldOf at h
  split at h
  · rename_i fs hu
    cases hf : fs[i]? with
    | none => rw [hf] at h; cases h
    | some f => rw [hf] at h; injection h with h; injection h with h1 h2; exact ⟨fs, f, hu, hf, h1, h2⟩
  · cases h
theorem CSl.of {P : Program} {t e sz bytes : Nat} {zd : DV} (hu : P.underlying t = some (.slice e)) (hi : (P.info? e).map (fun i => (i.zero.map (fun z => (zeroDV z, z.cells.size)), i.size, i.bytes)) = some (some (zd, sz), sz, bytes)) (hp : 0 < sz) : CSl P t e sz bytes zd := by
  cases hq : P.info? e with
  | none => simp [hq] at hi
  | some i =>
    simp only [hq, Option.map_some, Option.some.injEq, Prod.mk.injEq] at hi
    obtain ⟨h1, h2, h3⟩ := hi
    cases hz : i.zero with
    | none => simp [hz] at h1
    | some z =>
      simp only [hz, Option.map_some, Option.some.injEq, Prod.mk.injEq] at h1
      exact ⟨z, ⟨hu, ⟨i, hq, hz, h2, h3⟩, h1.2, hp⟩, h1.1⟩
def plOf (P : Program) (t : Nat) : Option (List (Nat × Nat) × Bool) := match P.underlying t with
  | some (.struct fs) => some (fs.toList.map (fun f => (f.offset, P.cellsOf f.type)), fs.toList.all fun f => (P.info? f.type).isSome)
  | _ => none
theorem CPl.ofS {P : Program} {t : Nat} {zs : List DV} {pl : List (Nat × Nat)} (hz : CZero P t zs) (h : plOf P t = some (pl, true)) : CPl P t zs pl := by
  refine ⟨hz, .inl ?_⟩
  unfold plOf at h
  split at h
  · rename_i fs hu
    injection h with h; injection h with h1 h2
    exact ⟨fs, hu, fun f hf => List.all_eq_true.1 h2 f hf, h1⟩
  · cases h
theorem CPl.ofA {P : Program} {t n e s : Nat} {zs : List DV} (hz : CZero P t zs) (h : P.underlying t = some (.array n e)) (hs : (P.info? e).map (·.size) = some s) : CPl P t zs ((List.range n).map fun i => (i * s, s)) := ⟨hz, .inr ⟨n, e, s, h, hs, rfl⟩⟩
instance sz2 : CSize Try.prog 2 1 := ⟨by kernel_rfl⟩
instance ze2 : CZero Try.prog 2 ([.int .i64 0]) := ⟨by kernel_rfl⟩
instance ti2 : TInt Try.prog 2 .i64 := ⟨by kernel_rfl⟩
instance sc2 : CSc Try.prog 2 := ⟨TSc.of (by kernel_rfl) (by kernel_rfl)⟩
instance sz3 : CSize Try.prog 3 1 := ⟨by kernel_rfl⟩
instance ze3 : CZero Try.prog 3 ([.int .i64 0]) := ⟨by kernel_rfl⟩
instance ti3 : TInt Try.prog 3 .i64 := ⟨by kernel_rfl⟩
instance sc3 : CSc Try.prog 3 := ⟨TSc.of (by kernel_rfl) (by kernel_rfl)⟩
instance sz4 : CSize Try.prog 4 1 := ⟨by kernel_rfl⟩
instance ze4 : CZero Try.prog 4 ([.bool false]) := ⟨by kernel_rfl⟩
instance tb4 : TBool Try.prog 4 := ⟨by kernel_rfl⟩
instance sc4 : CSc Try.prog 4 := ⟨TSc.of (by kernel_rfl) (by kernel_rfl)⟩
instance sz5 : CSize Try.prog 5 1 := ⟨by kernel_rfl⟩
instance ze5 : CZero Try.prog 5 ([.int .u8 0]) := ⟨by kernel_rfl⟩
instance ti5 : TInt Try.prog 5 .u8 := ⟨by kernel_rfl⟩
instance sc5 : CSc Try.prog 5 := ⟨TSc.of (by kernel_rfl) (by kernel_rfl)⟩
instance sz9 : CSize Try.prog 9 1 := ⟨by kernel_rfl⟩
instance ze9 : CZero Try.prog 9 ([.str .empty]) := ⟨by kernel_rfl⟩
instance sc9 : CSc Try.prog 9 := ⟨TSc.of (by kernel_rfl) (by kernel_rfl)⟩
instance sz12 : CSize Try.prog 12 1 := ⟨by kernel_rfl⟩
instance ze12 : CZero Try.prog 12 ([.int .u64 0]) := ⟨by kernel_rfl⟩
instance ti12 : TInt Try.prog 12 .u64 := ⟨by kernel_rfl⟩
instance sc12 : CSc Try.prog 12 := ⟨TSc.of (by kernel_rfl) (by kernel_rfl)⟩
instance sz13 : CSize Try.prog 13 2 := ⟨by kernel_rfl⟩
instance ze13 : CZero Try.prog 13 ([.str .empty, .int .u64 0]) := ⟨by kernel_rfl⟩
instance ro13 : CRow Try.prog 13 2 := ⟨TRow.of (by kernel_rfl) (by kernel_rfl)⟩
instance fl13_0 : CFld Try.prog 13 0 0 1 9 := .of (by kernel_rfl) (by kernel_rfl) (by decide)
instance fl13_1 : CFld Try.prog 13 1 1 1 12 := .of (by kernel_rfl) (by kernel_rfl) (by decide)
instance pl13 : CPl Try.prog 13 ([.str .empty, .int .u64 0]) [(0, 1), (1, 1)] := .ofS inferInstance (by kernel_rfl)
instance sz21 : CSize Try.prog 21 1 := ⟨by kernel_rfl⟩
instance ze21 : CZero Try.prog 21 ([.int .i32 0]) := ⟨by kernel_rfl⟩
instance ti21 : TInt Try.prog 21 .i32 := ⟨by kernel_rfl⟩
instance sc21 : CSc Try.prog 21 := ⟨TSc.of (by kernel_rfl) (by kernel_rfl)⟩
instance sz22 : CSize Try.prog 22 1 := ⟨by kernel_rfl⟩
instance ze22 : CZero Try.prog 22 ([.int .u64 0]) := ⟨by kernel_rfl⟩
instance ti22 : TInt Try.prog 22 .u64 := ⟨by kernel_rfl⟩
instance sc22 : CSc Try.prog 22 := ⟨TSc.of (by kernel_rfl) (by kernel_rfl)⟩
instance sz23 : CSize Try.prog 23 1 := ⟨by kernel_rfl⟩
instance ze23 : CZero Try.prog 23 ([.nils]) := ⟨by kernel_rfl⟩
instance sc23 : CSc Try.prog 23 := ⟨TSc.of (by kernel_rfl) (by kernel_rfl)⟩
instance sl23 : CSl Try.prog 23 22 1 8 (.int .u64 0) := .of (by kernel_rfl) (by kernel_rfl) (by decide)
instance sz24 : CSize Try.prog 24 1 := ⟨by kernel_rfl⟩
instance ze24 : CZero Try.prog 24 ([.int .u8 0]) := ⟨by kernel_rfl⟩
instance ti24 : TInt Try.prog 24 .u8 := ⟨by kernel_rfl⟩
instance sc24 : CSc Try.prog 24 := ⟨TSc.of (by kernel_rfl) (by kernel_rfl)⟩
instance sz25 : CSize Try.prog 25 1 := ⟨by kernel_rfl⟩
instance ze25 : CZero Try.prog 25 ([.nils]) := ⟨by kernel_rfl⟩
instance sc25 : CSc Try.prog 25 := ⟨TSc.of (by kernel_rfl) (by kernel_rfl)⟩
instance sl25 : CSl Try.prog 25 2 1 8 (.int .i64 0) := .of (by kernel_rfl) (by kernel_rfl) (by decide)
instance sz26 : CSize Try.prog 26 9 := ⟨by kernel_rfl⟩
instance ze26 : CZero Try.prog 26 ([.int .i64 0, .int .i64 0, .int .u8 0, .int .i64 0, .int .i64 0, .int .i64 0, .int .i64 0, .int .i64 0, .nils]) := ⟨by kernel_rfl⟩
instance ro26 : CRow Try.prog 26 9 := ⟨TRow.of (by kernel_rfl) (by kernel_rfl)⟩
instance fl26_0 : CFld Try.prog 26 0 0 1 3 := .of (by kernel_rfl) (by kernel_rfl) (by decide)
instance fl26_1 : CFld Try.prog 26 1 1 1 3 := .of (by kernel_rfl) (by kernel_rfl) (by decide)
instance fl26_2 : CFld Try.prog 26 2 2 1 24 := .of (by kernel_rfl) (by kernel_rfl) (by decide)
instance fl26_3 : CFld Try.prog 26 3 3 1 3 := .of (by kernel_rfl) (by kernel_rfl) (by decide)
instance fl26_4 : CFld Try.prog 26 4 4 1 3 := .of (by kernel_rfl) (by kernel_rfl) (by decide)
instance fl26_5 : CFld Try.prog 26 5 5 1 3 := .of (by kernel_rfl) (by kernel_rfl) (by decide)
instance fl26_6 : CFld Try.prog 26 6 6 1 3 := .of (by kernel_rfl) (by kernel_rfl) (by decide)
instance fl26_7 : CFld Try.prog 26 7 7 1 2 := .of (by kernel_rfl) (by kernel_rfl) (by decide)
instance fl26_8 : CFld Try.prog 26 8 8 1 25 := .of (by kernel_rfl) (by kernel_rfl) (by decide)
instance pl26 : CPl Try.prog 26 ([.int .i64 0, .int .i64 0, .int .u8 0, .int .i64 0, .int .i64 0, .int .i64 0, .int .i64 0, .int .i64 0, .nils]) [(0, 1), (1, 1), (2, 1), (3, 1), (4, 1), (5, 1), (6, 1), (7, 1), (8, 1)] := .ofS inferInstance (by kernel_rfl)
instance sz27 : CSize Try.prog 27 9 := ⟨by kernel_rfl⟩
instance ze27 : CZero Try.prog 27 ([.int .i64 0, .int .i64 0, .int .u8 0, .int .i64 0, .int .i64 0, .int .i64 0, .int .i64 0, .int .i64 0, .nils]) := ⟨by kernel_rfl⟩
instance ro27 : CRow Try.prog 27 9 := ⟨TRow.of (by kernel_rfl) (by kernel_rfl)⟩
instance fl27_0 : CFld Try.prog 27 0 0 1 3 := .of (by kernel_rfl) (by kernel_rfl) (by decide)
instance fl27_1 : CFld Try.prog 27 1 1 1 3 := .of (by kernel_rfl) (by kernel_rfl) (by decide)
instance fl27_2 : CFld Try.prog 27 2 2 1 24 := .of (by kernel_rfl) (by kernel_rfl) (by decide)
instance fl27_3 : CFld Try.prog 27 3 3 1 3 := .of (by kernel_rfl) (by kernel_rfl) (by decide)
instance fl27_4 : CFld Try.prog 27 4 4 1 3 := .of (by kernel_rfl) (by kernel_rfl) (by decide)
instance fl27_5 : CFld Try.prog 27 5 5 1 3 := .of (by kernel_rfl) (by kernel_rfl) (by decide)
instance fl27_6 : CFld Try.prog 27 6 6 1 3 := .of (by kernel_rfl) (by kernel_rfl) (by decide)
instance fl27_7 : CFld Try.prog 27 7 7 1 2 := .of (by kernel_rfl) (by kernel_rfl) (by decide)
instance fl27_8 : CFld Try.prog 27 8 8 1 25 := .of (by kernel_rfl) (by kernel_rfl) (by decide)
instance pl27 : CPl Try.prog 27 ([.int .i64 0, .int .i64 0, .int .u8 0, .int .i64 0, .int .i64 0, .int .i64 0, .int .i64 0, .int .i64 0, .nils]) [(0, 1), (1, 1), (2, 1), (3, 1), (4, 1), (5, 1), (6, 1), (7, 1), (8, 1)] := .ofS inferInstance (by kernel_rfl)
instance sz28 : CSize Try.prog 28 14 := ⟨by kernel_rfl⟩
instance ze28 : CZero Try.prog 28 ([.int .u8 0, .int .i64 0, .int .u64 0, .int .u64 0, .nils, .int .i64 0, .int .i64 0, .int .u8 0, .int .i64 0, .int .i64 0, .int .i64 0, .int .i64 0, .int .i64 0, .nils]) := ⟨by kernel_rfl⟩
instance ro28 : CRow Try.prog 28 14 := ⟨TRow.of (by kernel_rfl) (by kernel_rfl)⟩
instance fl28_0 : CFld Try.prog 28 0 0 1 5 := .of (by kernel_rfl) (by kernel_rfl) (by decide)
instance fl28_1 : CFld Try.prog 28 1 1 1 3 := .of (by kernel_rfl) (by kernel_rfl) (by decide)
instance fl28_2 : CFld Try.prog 28 2 2 1 22 := .of (by kernel_rfl) (by kernel_rfl) (by decide)
instance fl28_3 : CFld Try.prog 28 3 3 1 22 := .of (by kernel_rfl) (by kernel_rfl) (by decide)
instance fl28_4 : CFld Try.prog 28 4 4 1 23 := .of (by kernel_rfl) (by kernel_rfl) (by decide)
instance fl28_5 : CFld Try.prog 28 5 5 9 27 := .of (by kernel_rfl) (by kernel_rfl) (by decide)
instance pl28 : CPl Try.prog 28 ([.int .u8 0, .int .i64 0, .int .u64 0, .int .u64 0, .nils, .int .i64 0, .int .i64 0, .int .u8 0, .int .i64 0, .int .i64 0, .int .i64 0, .int .i64 0, .int .i64 0, .nils]) [(0, 1), (1, 1), (2, 1), (3, 1), (4, 1), (5, 9)] := .ofS inferInstance (by kernel_rfl)
instance sz29 : CSize Try.prog 29 14 := ⟨by kernel_rfl⟩
instance ze29 : CZero Try.prog 29 ([.int .u8 0, .int .i64 0, .int .u64 0, .int .u64 0, .nils, .int .i64 0, .int .i64 0, .int .u8 0, .int .i64 0, .int .i64 0, .int .i64 0, .int .i64 0, .int .i64 0, .nils]) := ⟨by kernel_rfl⟩
instance ro29 : CRow Try.prog 29 14 := ⟨TRow.of (by kernel_rfl) (by kernel_rfl)⟩
instance fl29_0 : CFld Try.prog 29 0 0 1 5 := .of (by kernel_rfl) (by kernel_rfl) (by decide)
instance fl29_1 : CFld Try.prog 29 1 1 1 3 := .of (by kernel_rfl) (by kernel_rfl) (by decide)
instance fl29_2 : CFld Try.prog 29 2 2 1 22 := .of (by kernel_rfl) (by kernel_rfl) (by decide)
instance fl29_3 : CFld Try.prog 29 3 3 1 22 := .of (by kernel_rfl) (by kernel_rfl) (by decide)
instance fl29_4 : CFld Try.prog 29 4 4 1 23 := .of (by kernel_rfl) (by kernel_rfl) (by decide)
instance fl29_5 : CFld Try.prog 29 5 5 9 27 := .of (by kernel_rfl) (by kernel_rfl) (by decide)
instance pl29 : CPl Try.prog 29 ([.int .u8 0, .int .i64 0, .int .u64 0, .int .u64 0, .nils, .int .i64 0, .int .i64 0, .int .u8 0, .int .i64 0, .int .i64 0, .int .i64 0, .int .i64 0, .int .i64 0, .nils]) [(0, 1), (1, 1), (2, 1), (3, 1), (4, 1), (5, 9)] := .ofS inferInstance (by kernel_rfl)
instance sz32 : CSize Try.prog 32 16 := ⟨by kernel_rfl⟩
instance ze32 : CZero Try.prog 32 ([.int .u64 0, .int .u64 0, .int .u64 0, .int .u64 0, .int .u64 0, .int .u64 0, .int .u64 0, .int .u64 0, .int .u64 0, .int .u64 0, .int .u64 0, .int .u64 0, .int .u64 0, .int .u64 0, .int .u64 0, .int .u64 0]) := ⟨by kernel_rfl⟩
instance ro32 : CRow Try.prog 32 16 := ⟨TRow.of (by kernel_rfl) (by kernel_rfl)⟩
instance ar32 : CArr Try.prog 32 16 22 1 := ⟨by kernel_rfl, by kernel_rfl⟩
instance pl32 : CPl Try.prog 32 ([.int .u64 0, .int .u64 0, .int .u64 0, .int .u64 0, .int .u64 0, .int .u64 0, .int .u64 0, .int .u64 0, .int .u64 0, .int .u64 0, .int .u64 0, .int .u64 0, .int .u64 0, .int .u64 0, .int .u64 0, .int .u64 0]) ((List.range 16).map fun i => (i * 1, 1)) := .ofA (e := 22) inferInstance (by kernel_rfl) (by kernel_rfl)
instance sz33 : CSize Try.prog 33 16 := ⟨by kernel_rfl⟩
instance ze33 : CZero Try.prog 33 ([.int .u64 0, .int .u64 0, .int .u64 0, .int .u64 0, .int .u64 0, .int .u64 0, .int .u64 0, .int .u64 0, .int .u64 0, .int .u64 0, .int .u64 0, .int .u64 0, .int .u64 0, .int .u64 0, .int .u64 0, .int .u64 0]) := ⟨by kernel_rfl⟩
instance ro33 : CRow Try.prog 33 16 := ⟨TRow.of (by kernel_rfl) (by kernel_rfl)⟩
instance fl33_0 : CFld Try.prog 33 0 0 16 32 := .of (by kernel_rfl) (by kernel_rfl) (by decide)
instance pl33 : CPl Try.prog 33 ([.int .u64 0, .int .u64 0, .int .u64 0, .int .u64 0, .int .u64 0, .int .u64 0, .int .u64 0, .int .u64 0, .int .u64 0, .int .u64 0, .int .u64 0, .int .u64 0, .int .u64 0, .int .u64 0, .int .u64 0, .int .u64 0]) [(0, 16)] := .ofS inferInstance (by kernel_rfl)
instance sz34 : CSize Try.prog 34 16 := ⟨by kernel_rfl⟩
instance ze34 : CZero Try.prog 34 ([.int .u64 0, .int .u64 0, .int .u64 0, .int .u64 0, .int .u64 0, .int .u64 0, .int .u64 0, .int .u64 0, .int .u64 0, .int .u64 0, .int .u64 0, .int .u64 0, .int .u64 0, .int .u64 0, .int .u64 0, .int .u64 0]) := ⟨by kernel_rfl⟩
instance ro34 : CRow Try.prog 34 16 := ⟨TRow.of (by kernel_rfl) (by kernel_rfl)⟩
instance fl34_0 : CFld Try.prog 34 0 0 16 32 := .of (by kernel_rfl) (by kernel_rfl) (by decide)
instance pl34 : CPl Try.prog 34 ([.int .u64 0, .int .u64 0, .int .u64 0, .int .u64 0, .int .u64 0, .int .u64 0, .int .u64 0, .int .u64 0, .int .u64 0, .int .u64 0, .int .u64 0, .int .u64 0, .int .u64 0, .int .u64 0, .int .u64 0, .int .u64 0]) [(0, 16)] := .ofS inferInstance (by kernel_rfl)
instance sz35 : CSize Try.prog 35 1 := ⟨by kernel_rfl⟩
instance ze35 : CZero Try.prog 35 ([.int .u8 0]) := ⟨by kernel_rfl⟩
instance ti35 : TInt Try.prog 35 .u8 := ⟨by kernel_rfl⟩
instance sc35 : CSc Try.prog 35 := ⟨TSc.of (by kernel_rfl) (by kernel_rfl)⟩
instance sz36 : CSize Try.prog 36 29 := ⟨by kernel_rfl⟩
instance ze36 : CZero Try.prog 36 ([.int .i64 0, .int .u64 0, .int .u64 0, .int .u64 0, .int .u64 0, .int .u64 0, .int .u64 0, .int .u64 0, .int .u64 0, .int .u64 0, .int .u64 0, .int .u64 0, .int .u64 0, .int .u64 0, .int .u64 0, .int .u64 0, .int .u64 0, .int .u64 0, .int .u8 0, .int .i64 0, .int .i64 0, .int .u8 0, .int .i64 0, .int .i64 0, .int .i64 0, .int .i64 0, .int .i64 0, .nils, .int .u64 0]) := ⟨by kernel_rfl⟩
instance ro36 : CRow Try.prog 36 29 := ⟨TRow.of (by kernel_rfl) (by kernel_rfl)⟩
instance fl36_0 : CFld Try.prog 36 0 0 1 3 := .of (by kernel_rfl) (by kernel_rfl) (by decide)
instance fl36_1 : CFld Try.prog 36 1 1 1 22 := .of (by kernel_rfl) (by kernel_rfl) (by decide)
instance fl36_2 : CFld Try.prog 36 2 2 16 34 := .of (by kernel_rfl) (by kernel_rfl) (by decide)
instance fl36_3 : CFld Try.prog 36 3 18 1 35 := .of (by kernel_rfl) (by kernel_rfl) (by decide)
instance fl36_4 : CFld Try.prog 36 4 19 9 27 := .of (by kernel_rfl) (by kernel_rfl) (by decide)
instance fl36_5 : CFld Try.prog 36 5 28 1 22 := .of (by kernel_rfl) (by kernel_rfl) (by decide)
instance pl36 : CPl Try.prog 36 ([.int .i64 0, .int .u64 0, .int .u64 0, .int .u64 0, .int .u64 0, .int .u64 0, .int .u64 0, .int .u64 0, .int .u64 0, .int .u64 0, .int .u64 0, .int .u64 0, .int .u64 0, .int .u64 0, .int .u64 0, .int .u64 0, .int .u64 0, .int .u64 0, .int .u8 0, .int .i64 0, .int .i64 0, .int .u8 0, .int .i64 0, .int .i64 0, .int .i64 0, .int .i64 0, .int .i64 0, .nils, .int .u64 0]) [(0, 1), (1, 1), (2, 16), (18, 1), (19, 9), (28, 1)] := .ofS inferInstance (by kernel_rfl)
instance sz37 : CSize Try.prog 37 29 := ⟨by kernel_rfl⟩
instance ze37 : CZero Try.prog 37 ([.int .i64 0, .int .u64 0, .int .u64 0, .int .u64 0, .int .u64 0, .int .u64 0, .int .u64 0, .int .u64 0, .int .u64 0, .int .u64 0, .int .u64 0, .int .u64 0, .int .u64 0, .int .u64 0, .int .u64 0, .int .u64 0, .int .u64 0, .int .u64 0, .int .u8 0, .int .i64 0, .int .i64 0, .int .u8 0, .int .i64 0, .int .i64 0, .int .i64 0, .int .i64 0, .int .i64 0, .nils, .int .u64 0]) := ⟨by kernel_rfl⟩
instance ro37 : CRow Try.prog 37 29 := ⟨TRow.of (by kernel_rfl) (by kernel_rfl)⟩
instance fl37_0 : CFld Try.prog 37 0 0 1 3 := .of (by kernel_rfl) (by kernel_rfl) (by decide)
instance fl37_1 : CFld Try.prog 37 1 1 1 22 := .of (by kernel_rfl) (by kernel_rfl) (by decide)
instance fl37_2 : CFld Try.prog 37 2 2 16 34 := .of (by kernel_rfl) (by kernel_rfl) (by decide)
instance fl37_3 : CFld Try.prog 37 3 18 1 35 := .of (by kernel_rfl) (by kernel_rfl) (by decide)
instance fl37_4 : CFld Try.prog 37 4 19 9 27 := .of (by kernel_rfl) (by kernel_rfl) (by decide)
instance fl37_5 : CFld Try.prog 37 5 28 1 22 := .of (by kernel_rfl) (by kernel_rfl) (by decide)
instance pl37 : CPl Try.prog 37 ([.int .i64 0, .int .u64 0, .int .u64 0, .int .u64 0, .int .u64 0, .int .u64 0, .int .u64 0, .int .u64 0, .int .u64 0, .int .u64 0, .int .u64 0, .int .u64 0, .int .u64 0, .int .u64 0, .int .u64 0, .int .u64 0, .int .u64 0, .int .u64 0, .int .u8 0, .int .i64 0, .int .i64 0, .int .u8 0, .int .i64 0, .int .i64 0, .int .i64 0, .int .i64 0, .int .i64 0, .nils, .int .u64 0]) [(0, 1), (1, 1), (2, 16), (18, 1), (19, 9), (28, 1)] := .ofS inferInstance (by kernel_rfl)
instance sz41 : CSize Try.prog 41 1 := ⟨by kernel_rfl⟩
instance ze41 : CZero Try.prog 41 ([.int .i64 0]) := ⟨by kernel_rfl⟩
instance ti41 : TInt Try.prog 41 .i64 := ⟨by kernel_rfl⟩
instance sc41 : CSc Try.prog 41 := ⟨TSc.of (by kernel_rfl) (by kernel_rfl)⟩
instance sz44 : CSize Try.prog 44 1 := ⟨by kernel_rfl⟩
instance ze44 : CZero Try.prog 44 ([.nils]) := ⟨by kernel_rfl⟩
instance sc44 : CSc Try.prog 44 := ⟨TSc.of (by kernel_rfl) (by kernel_rfl)⟩
instance sl44 : CSl Try.prog 44 5 1 1 (.int .u8 0) := .of (by kernel_rfl) (by kernel_rfl) (by decide)
instance sz56 : CSize Try.prog 56 1 := ⟨by kernel_rfl⟩
instance ze56 : CZero Try.prog 56 ([.int .u8 0]) := ⟨by kernel_rfl⟩
instance ti56 : TInt Try.prog 56 .u8 := ⟨by kernel_rfl⟩
instance sc56 : CSc Try.prog 56 := ⟨TSc.of (by kernel_rfl) (by kernel_rfl)⟩
instance sz60 : CSize Try.prog 60 1 := ⟨by kernel_rfl⟩
instance ze60 : CZero Try.prog 60 ([.int .i16 0]) := ⟨by kernel_rfl⟩
instance ti60 : TInt Try.prog 60 .i16 := ⟨by kernel_rfl⟩
instance sc60 : CSc Try.prog 60 := ⟨TSc.of (by kernel_rfl) (by kernel_rfl)⟩
instance sz61 : CSize Try.prog 61 1 := ⟨by kernel_rfl⟩
instance ze61 : CZero Try.prog 61 ([.nils]) := ⟨by kernel_rfl⟩
instance sc61 : CSc Try.prog 61 := ⟨TSc.of (by kernel_rfl) (by kernel_rfl)⟩
instance sl61 : CSl Try.prog 61 3 1 8 (.int .i64 0) := .of (by kernel_rfl) (by kernel_rfl) (by decide)
instance sz64 : CSize Try.prog 64 1 := ⟨by kernel_rfl⟩
instance ze64 : CZero Try.prog 64 ([.nils]) := ⟨by kernel_rfl⟩
instance sc64 : CSc Try.prog 64 := ⟨TSc.of (by kernel_rfl) (by kernel_rfl)⟩
instance sl64 : CSl Try.prog 64 109 5 32 (.agg ([.int .u8 0, .int .u8 0, .bool false, .int .u8 0, .nils])) := .of (by kernel_rfl) (by kernel_rfl) (by decide)
instance sz65 : CSize Try.prog 65 1 := ⟨by kernel_rfl⟩
instance ze65 : CZero Try.prog 65 ([.nils]) := ⟨by kernel_rfl⟩
instance sc65 : CSc Try.prog 65 := ⟨TSc.of (by kernel_rfl) (by kernel_rfl)⟩
instance sl65 : CSl Try.prog 65 37 29 248 (.agg ([.int .i64 0, .int .u64 0, .int .u64 0, .int .u64 0, .int .u64 0, .int .u64 0, .int .u64 0, .int .u64 0, .int .u64 0, .int .u64 0, .int .u64 0, .int .u64 0, .int .u64 0, .int .u64 0, .int .u64 0, .int .u64 0, .int .u64 0, .int .u64 0, .int .u8 0, .int .i64 0, .int .i64 0, .int .u8 0, .int .i64 0, .int .i64 0, .int .i64 0, .int .i64 0, .int .i64 0, .nils, .int .u64 0])) := .of (by kernel_rfl) (by kernel_rfl) (by decide)
instance sz66 : CSize Try.prog 66 1 := ⟨by kernel_rfl⟩
instance ze66 : CZero Try.prog 66 ([.nils]) := ⟨by kernel_rfl⟩
instance sc66 : CSc Try.prog 66 := ⟨TSc.of (by kernel_rfl) (by kernel_rfl)⟩
instance sl66 : CSl Try.prog 66 75 2 16 (.agg ([.int .i64 0, .int .i64 0])) := .of (by kernel_rfl) (by kernel_rfl) (by decide)
instance sz69 : CSize Try.prog 69 1 := ⟨by kernel_rfl⟩
instance ze69 : CZero Try.prog 69 ([.nils]) := ⟨by kernel_rfl⟩
instance sc69 : CSc Try.prog 69 := ⟨TSc.of (by kernel_rfl) (by kernel_rfl)⟩
instance sl69 : CSl Try.prog 69 4 1 1 (.bool false) := .of (by kernel_rfl) (by kernel_rfl) (by decide)
instance sz74 : CSize Try.prog 74 2 := ⟨by kernel_rfl⟩
instance ze74 : CZero Try.prog 74 ([.int .i64 0, .int .i64 0]) := ⟨by kernel_rfl⟩
instance ro74 : CRow Try.prog 74 2 := ⟨TRow.of (by kernel_rfl) (by kernel_rfl)⟩
instance fl74_0 : CFld Try.prog 74 0 0 1 3 := .of (by kernel_rfl) (by kernel_rfl) (by decide)
instance fl74_1 : CFld Try.prog 74 1 1 1 3 := .of (by kernel_rfl) (by kernel_rfl) (by decide)
instance pl74 : CPl Try.prog 74 ([.int .i64 0, .int .i64 0]) [(0, 1), (1, 1)] := .ofS inferInstance (by kernel_rfl)
instance sz75 : CSize Try.prog 75 2 := ⟨by kernel_rfl⟩
instance ze75 : CZero Try.prog 75 ([.int .i64 0, .int .i64 0]) := ⟨by kernel_rfl⟩
instance ro75 : CRow Try.prog 75 2 := ⟨TRow.of (by kernel_rfl) (by kernel_rfl)⟩
instance fl75_0 : CFld Try.prog 75 0 0 1 3 := .of (by kernel_rfl) (by kernel_rfl) (by decide)
instance fl75_1 : CFld Try.prog 75 1 1 1 3 := .of (by kernel_rfl) (by kernel_rfl) (by decide)
instance pl75 : CPl Try.prog 75 ([.int .i64 0, .int .i64 0]) [(0, 1), (1, 1)] := .ofS inferInstance (by kernel_rfl)
instance sz79 : CSize Try.prog 79 1 := ⟨by kernel_rfl⟩
instance ze79 : CZero Try.prog 79 ([.int .u16 0]) := ⟨by kernel_rfl⟩
instance ti79 : TInt Try.prog 79 .u16 := ⟨by kernel_rfl⟩
instance sc79 : CSc Try.prog 79 := ⟨TSc.of (by kernel_rfl) (by kernel_rfl)⟩
instance sz91 : CSize Try.prog 91 6 := ⟨by kernel_rfl⟩
instance ze91 : CZero Try.prog 91 ([.int .i64 0, .int .i64 0, .int .i64 0, .int .i64 0, .int .i64 0, .int .i64 0]) := ⟨by kernel_rfl⟩
instance ro91 : CRow Try.prog 91 6 := ⟨TRow.of (by kernel_rfl) (by kernel_rfl)⟩
instance ar91 : CArr Try.prog 91 6 3 1 := ⟨by kernel_rfl, by kernel_rfl⟩
instance pl91 : CPl Try.prog 91 ([.int .i64 0, .int .i64 0, .int .i64 0, .int .i64 0, .int .i64 0, .int .i64 0]) ((List.range 6).map fun i => (i * 1, 1)) := .ofA (e := 3) inferInstance (by kernel_rfl) (by kernel_rfl)
instance sz94 : CSize Try.prog 94 1 := ⟨by kernel_rfl⟩
instance ze94 : CZero Try.prog 94 ([.int .u8 0]) := ⟨by kernel_rfl⟩
instance ti94 : TInt Try.prog 94 .u8 := ⟨by kernel_rfl⟩
instance sc94 : CSc Try.prog 94 := ⟨TSc.of (by kernel_rfl) (by kernel_rfl)⟩
instance sz97 : CSize Try.prog 97 1 := ⟨by kernel_rfl⟩
instance ze97 : CZero Try.prog 97 ([.val (.pointer none)]) := ⟨by kernel_rfl⟩
instance tp97 : TPtr Try.prog 97 := ⟨⟨119, by kernel_rfl⟩⟩
instance sc97 : CSc Try.prog 97 := ⟨TSc.of (by kernel_rfl) (by kernel_rfl)⟩
instance sz108 : CSize Try.prog 108 5 := ⟨by kernel_rfl⟩
instance ze108 : CZero Try.prog 108 ([.int .u8 0, .int .u8 0, .bool false, .int .u8 0, .nils]) := ⟨by kernel_rfl⟩
instance ro108 : CRow Try.prog 108 5 := ⟨TRow.of (by kernel_rfl) (by kernel_rfl)⟩
instance fl108_0 : CFld Try.prog 108 0 0 1 5 := .of (by kernel_rfl) (by kernel_rfl) (by decide)
instance fl108_1 : CFld Try.prog 108 1 1 1 5 := .of (by kernel_rfl) (by kernel_rfl) (by decide)
instance fl108_2 : CFld Try.prog 108 2 2 1 4 := .of (by kernel_rfl) (by kernel_rfl) (by decide)
instance fl108_3 : CFld Try.prog 108 3 3 1 5 := .of (by kernel_rfl) (by kernel_rfl) (by decide)
instance fl108_4 : CFld Try.prog 108 4 4 1 25 := .of (by kernel_rfl) (by kernel_rfl) (by decide)
instance pl108 : CPl Try.prog 108 ([.int .u8 0, .int .u8 0, .bool false, .int .u8 0, .nils]) [(0, 1), (1, 1), (2, 1), (3, 1), (4, 1)] := .ofS inferInstance (by kernel_rfl)
instance sz109 : CSize Try.prog 109 5 := ⟨by kernel_rfl⟩
instance ze109 : CZero Try.prog 109 ([.int .u8 0, .int .u8 0, .bool false, .int .u8 0, .nils]) := ⟨by kernel_rfl⟩
instance ro109 : CRow Try.prog 109 5 := ⟨TRow.of (by kernel_rfl) (by kernel_rfl)⟩
instance fl109_0 : CFld Try.prog 109 0 0 1 5 := .of (by kernel_rfl) (by kernel_rfl) (by decide)
instance fl109_1 : CFld Try.prog 109 1 1 1 5 := .of (by kernel_rfl) (by kernel_rfl) (by decide)
instance fl109_2 : CFld Try.prog 109 2 2 1 4 := .of (by kernel_rfl) (by kernel_rfl) (by decide)
instance fl109_3 : CFld Try.prog 109 3 3 1 5 := .of (by kernel_rfl) (by kernel_rfl) (by decide)
instance fl109_4 : CFld Try.prog 109 4 4 1 25 := .of (by kernel_rfl) (by kernel_rfl) (by decide)
instance pl109 : CPl Try.prog 109 ([.int .u8 0, .int .u8 0, .bool false, .int .u8 0, .nils]) [(0, 1), (1, 1), (2, 1), (3, 1), (4, 1)] := .ofS inferInstance (by kernel_rfl)
instance sz110 : CSize Try.prog 110 5 := ⟨by kernel_rfl⟩
instance ze110 : CZero Try.prog 110 ([.nils, .nils, .nils, .nils, .nils]) := ⟨by kernel_rfl⟩
instance ro110 : CRow Try.prog 110 5 := ⟨TRow.of (by kernel_rfl) (by kernel_rfl)⟩
instance ar110 : CArr Try.prog 110 5 61 1 := ⟨by kernel_rfl, by kernel_rfl⟩
instance pl110 : CPl Try.prog 110 ([.nils, .nils, .nils, .nils, .nils]) ((List.range 5).map fun i => (i * 1, 1)) := .ofA (e := 61) inferInstance (by kernel_rfl) (by kernel_rfl)
instance sz111 : CSize Try.prog 111 5 := ⟨by kernel_rfl⟩
instance ze111 : CZero Try.prog 111 ([.int .u8 0, .int .u8 0, .int .u8 0, .int .u8 0, .int .u8 0]) := ⟨by kernel_rfl⟩
instance ro111 : CRow Try.prog 111 5 := ⟨TRow.of (by kernel_rfl) (by kernel_rfl)⟩
instance ar111 : CArr Try.prog 111 5 56 1 := ⟨by kernel_rfl, by kernel_rfl⟩
instance pl111 : CPl Try.prog 111 ([.int .u8 0, .int .u8 0, .int .u8 0, .int .u8 0, .int .u8 0]) ((List.range 5).map fun i => (i * 1, 1)) := .ofA (e := 56) inferInstance (by kernel_rfl) (by kernel_rfl)
instance sz118 : CSize Try.prog 118 2 := ⟨by kernel_rfl⟩
instance ze118 : CZero Try.prog 118 ([.nils, .int .i64 0]) := ⟨by kernel_rfl⟩
instance ro118 : CRow Try.prog 118 2 := ⟨TRow.of (by kernel_rfl) (by kernel_rfl)⟩
instance fl118_0 : CFld Try.prog 118 0 0 1 44 := .of (by kernel_rfl) (by kernel_rfl) (by decide)
instance fl118_1 : CFld Try.prog 118 1 1 1 41 := .of (by kernel_rfl) (by kernel_rfl) (by decide)
instance pl118 : CPl Try.prog 118 ([.nils, .int .i64 0]) [(0, 1), (1, 1)] := .ofS inferInstance (by kernel_rfl)
instance sz119 : CSize Try.prog 119 2 := ⟨by kernel_rfl⟩
instance ze119 : CZero Try.prog 119 ([.nils, .int .i64 0]) := ⟨by kernel_rfl⟩
instance ro119 : CRow Try.prog 119 2 := ⟨TRow.of (by kernel_rfl) (by kernel_rfl)⟩
instance fl119_0 : CFld Try.prog 119 0 0 1 44 := .of (by kernel_rfl) (by kernel_rfl) (by decide)
instance fl119_1 : CFld Try.prog 119 1 1 1 41 := .of (by kernel_rfl) (by kernel_rfl) (by decide)
instance pl119 : CPl Try.prog 119 ([.nils, .int .i64 0]) [(0, 1), (1, 1)] := .ofS inferInstance (by kernel_rfl)
instance sz127 : CSize Try.prog 127 1 := ⟨by kernel_rfl⟩
instance ze127 : CZero Try.prog 127 ([.int .u64 0]) := ⟨by kernel_rfl⟩
instance ti127 : TInt Try.prog 127 .u64 := ⟨by kernel_rfl⟩
instance sc127 : CSc Try.prog 127 := ⟨TSc.of (by kernel_rfl) (by kernel_rfl)⟩
instance sz134 : CSize Try.prog 134 1 := ⟨by kernel_rfl⟩
instance ze134 : CZero Try.prog 134 ([.val (.pointer none)]) := ⟨by kernel_rfl⟩
instance tp134 : TPtr Try.prog 134 := ⟨⟨151, by kernel_rfl⟩⟩
instance sc134 : CSc Try.prog 134 := ⟨TSc.of (by kernel_rfl) (by kernel_rfl)⟩
instance sz141 : CSize Try.prog 141 1 := ⟨by kernel_rfl⟩
instance ze141 : CZero Try.prog 141 ([.int .u32 0]) := ⟨by kernel_rfl⟩
instance ti141 : TInt Try.prog 141 .u32 := ⟨by kernel_rfl⟩
instance sc141 : CSc Try.prog 141 := ⟨TSc.of (by kernel_rfl) (by kernel_rfl)⟩
instance sz145 : CSize Try.prog 145 1 := ⟨by kernel_rfl⟩
instance ze145 : CZero Try.prog 145 ([.val (.pointer none)]) := ⟨by kernel_rfl⟩
instance tp145 : TPtr Try.prog 145 := ⟨⟨5, by kernel_rfl⟩⟩
instance sc145 : CSc Try.prog 145 := ⟨TSc.of (by kernel_rfl) (by kernel_rfl)⟩
instance sz150 : CSize Try.prog 150 1 := ⟨by kernel_rfl⟩
instance ze150 : CZero Try.prog 150 ([.str .empty]) := ⟨by kernel_rfl⟩
instance ro150 : CRow Try.prog 150 1 := ⟨TRow.of (by kernel_rfl) (by kernel_rfl)⟩
instance fl150_0 : CFld Try.prog 150 0 0 1 9 := .of (by kernel_rfl) (by kernel_rfl) (by decide)
instance pl150 : CPl Try.prog 150 ([.str .empty]) [(0, 1)] := .ofS inferInstance (by kernel_rfl)
instance sz151 : CSize Try.prog 151 1 := ⟨by kernel_rfl⟩
instance ze151 : CZero Try.prog 151 ([.str .empty]) := ⟨by kernel_rfl⟩
instance ro151 : CRow Try.prog 151 1 := ⟨TRow.of (by kernel_rfl) (by kernel_rfl)⟩
instance fl151_0 : CFld Try.prog 151 0 0 1 9 := .of (by kernel_rfl) (by kernel_rfl) (by decide)
instance pl151 : CPl Try.prog 151 ([.str .empty]) [(0, 1)] := .ofS inferInstance (by kernel_rfl)
instance fn3 : CFn Try.prog 3 := ⟨by kernel_rfl⟩
instance fn4 : CFn Try.prog 4 := ⟨by kernel_rfl⟩
instance fn5 : CFn Try.prog 5 := ⟨by kernel_rfl⟩
instance fn6 : CFn Try.prog 6 := ⟨by kernel_rfl⟩
instance fn7 : CFn Try.prog 7 := ⟨by kernel_rfl⟩
instance fn8 : CFn Try.prog 8 := ⟨by kernel_rfl⟩
instance fn9 : CFn Try.prog 9 := ⟨by kernel_rfl⟩
instance fn10 : CFn Try.prog 10 := ⟨by kernel_rfl⟩
instance fn11 : CFn Try.prog 11 := ⟨by kernel_rfl⟩
instance fn12 : CFn Try.prog 12 := ⟨by kernel_rfl⟩
instance fn13 : CFn Try.prog 13 := ⟨by kernel_rfl⟩
instance fn14 : CFn Try.prog 14 := ⟨by kernel_rfl⟩
instance fn15 : CFn Try.prog 15 := ⟨by kernel_rfl⟩
instance fn16 : CFn Try.prog 16 := ⟨by kernel_rfl⟩
instance fn17 : CFn Try.prog 17 := ⟨by kernel_rfl⟩
instance fn18 : CFn Try.prog 18 := ⟨by kernel_rfl⟩
instance fn19 : CFn Try.prog 19 := ⟨by kernel_rfl⟩
instance fn20 : CFn Try.prog 20 := ⟨by kernel_rfl⟩
instance fn21 : CFn Try.prog 21 := ⟨by kernel_rfl⟩
instance fn22 : CFn Try.prog 22 := ⟨by kernel_rfl⟩
instance fn23 : CFn Try.prog 23 := ⟨by kernel_rfl⟩
instance fn24 : CFn Try.prog 24 := ⟨by kernel_rfl⟩
instance fn25 : CFn Try.prog 25 := ⟨by kernel_rfl⟩
instance fn26 : CFn Try.prog 26 := ⟨by kernel_rfl⟩
instance fn27 : CFn Try.prog 27 := ⟨by kernel_rfl⟩
instance fn28 : CFn Try.prog 28 := ⟨by kernel_rfl⟩
instance fn29 : CFn Try.prog 29 := ⟨by kernel_rfl⟩
instance fn30 : CFn Try.prog 30 := ⟨by kernel_rfl⟩
instance fn31 : CFn Try.prog 31 := ⟨by kernel_rfl⟩
instance fn32 : CFn Try.prog 32 := ⟨by kernel_rfl⟩
instance fn33 : CFn Try.prog 33 := ⟨by kernel_rfl⟩
instance fn34 : CFn Try.prog 34 := ⟨by kernel_rfl⟩
instance fn35 : CFn Try.prog 35 := ⟨by kernel_rfl⟩
instance fn36 : CFn Try.prog 36 := ⟨by kernel_rfl⟩
instance fn37 : CFn Try.prog 37 := ⟨by kernel_rfl⟩
instance fn38 : CFn Try.prog 38 := ⟨by kernel_rfl⟩
instance fn39 : CFn Try.prog 39 := ⟨by kernel_rfl⟩
instance fn40 : CFn Try.prog 40 := ⟨by kernel_rfl⟩
instance fn41 : CFn Try.prog 41 := ⟨by kernel_rfl⟩
instance fn42 : CFn Try.prog 42 := ⟨by kernel_rfl⟩
instance fn43 : CFn Try.prog 43 := ⟨by kernel_rfl⟩
instance fn44 : CFn Try.prog 44 := ⟨by kernel_rfl⟩
instance fn45 : CFn Try.prog 45 := ⟨by kernel_rfl⟩
instance fn46 : CFn Try.prog 46 := ⟨by kernel_rfl⟩
instance fn47 : CFn Try.prog 47 := ⟨by kernel_rfl⟩
instance fn48 : CFn Try.prog 48 := ⟨by kernel_rfl⟩
instance fn49 : CFn Try.prog 49 := ⟨by kernel_rfl⟩
instance fn50 : CFn Try.prog 50 := ⟨by kernel_rfl⟩
instance fn51 : CFn Try.prog 51 := ⟨by kernel_rfl⟩
instance fn52 : CFn Try.prog 52 := ⟨by kernel_rfl⟩
instance fn53 : CFn Try.prog 53 := ⟨by kernel_rfl⟩
instance fn54 : CFn Try.prog 54 := ⟨by kernel_rfl⟩
instance fn55 : CFn Try.prog 55 := ⟨by kernel_rfl⟩
instance fn56 : CFn Try.prog 56 := ⟨by kernel_rfl⟩
instance fn57 : CFn Try.prog 57 := ⟨by kernel_rfl⟩
instance fn58 : CFn Try.prog 58 := ⟨by kernel_rfl⟩
instance fn59 : CFn Try.prog 59 := ⟨by kernel_rfl⟩
instance fn60 : CFn Try.prog 60 := ⟨by kernel_rfl⟩
instance fn61 : CFn Try.prog 61 := ⟨by kernel_rfl⟩
instance fn62 : CFn Try.prog 62 := ⟨by kernel_rfl⟩
instance fn63 : CFn Try.prog 63 := ⟨by kernel_rfl⟩
instance fn64 : CFn Try.prog 64 := ⟨by kernel_rfl⟩
instance fn65 : CFn Try.prog 65 := ⟨by kernel_rfl⟩
instance fn66 : CFn Try.prog 66 := ⟨by kernel_rfl⟩
instance fn67 : CFn Try.prog 67 := ⟨by kernel_rfl⟩
instance fn68 : CFn Try.prog 68 := ⟨by kernel_rfl⟩
instance fn69 : CFn Try.prog 69 := ⟨by kernel_rfl⟩
instance fn70 : CFn Try.prog 70 := ⟨by kernel_rfl⟩
instance fn71 : CFn Try.prog 71 := ⟨by kernel_rfl⟩
instance fn72 : CFn Try.prog 72 := ⟨by kernel_rfl⟩
instance fn73 : CFn Try.prog 73 := ⟨by kernel_rfl⟩
instance fn74 : CFn Try.prog 74 := ⟨by kernel_rfl⟩
instance fn75 : CFn Try.prog 75 := ⟨by kernel_rfl⟩
instance fn76 : CFn Try.prog 76 := ⟨by kernel_rfl⟩
instance fn77 : CFn Try.prog 77 := ⟨by kernel_rfl⟩
instance fn78 : CFn Try.prog 78 := ⟨by kernel_rfl⟩
instance fn79 : CFn Try.prog 79 := ⟨by kernel_rfl⟩
instance fn80 : CFn Try.prog 80 := ⟨by kernel_rfl⟩
instance fn81 : CFn Try.prog 81 := ⟨by kernel_rfl⟩
instance fn82 : CFn Try.prog 82 := ⟨by kernel_rfl⟩
instance fn83 : CFn Try.prog 83 := ⟨by kernel_rfl⟩
instance fn84 : CFn Try.prog 84 := ⟨by kernel_rfl⟩
theorem mixed : Try.prog.follows .mixedOrders = true := by kernel_rfl
end Go.Proofs.Ytkadjbpmnpcfhaa
