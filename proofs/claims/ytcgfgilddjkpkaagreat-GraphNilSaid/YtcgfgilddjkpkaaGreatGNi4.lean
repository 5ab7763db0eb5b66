/-
  What the claim leans on, part 4.
-/
import Derived.Test.YtcgfgilddjkpkaaGreatGNi3
set_option maxRecDepth 100000
set_option linter.unusedVariables false
namespace Go.Proofs.YtcgfgilddjkpkaaGreat
open Go.RowKit
theorem TRow.of {P : Program} {t n : Nat} (h : (P.underlying t).map (·.isRow) = some true) (hi : (P.info? t).map (·.size) = some n) : TRow P t n:=by
 cases hu : P.underlying t with
 | none=>simp [hu] at h
 | some d=>exact ⟨d,hu,by simpa [hu] using h,hi⟩
theorem TSc.of {P : Program} {t : Nat} (h : (P.underlying t).map (·.isRow) = some false) (hi : (P.info? t).map (·.size) = some 1) : TSc P t:=by
 cases hu : P.underlying t with
 | none=>simp [hu] at h
 | some d=>exact ⟨d,hu,by simpa [hu] using h,hi⟩
def fldOf (P : Program) (t i : Nat) : Option (TypeId × Nat):=match P.underlying t with
 | some (.struct fs)=>(fs[i]?).map fun f=>(f.type,f.offset)
 | _=>none
theorem CFld.of {P : Program} {t i off n : Nat} {ft : TypeId} (h : fldOf P t i = some (ft,off)) (hs : (P.info? ft).map (·.size) = some n) (hp : 0 < n) : CFld P t i off n ft:=by
 refine ⟨?_,hs,hp⟩
 unfold fldOf at h
 split at h
 ·rename_i fs hu
  cases hf : fs[i]? with
  | none=>rw [hf] at h; cases h
  | some f=>rw [hf] at h; injection h with h; injection h with h1 h2; exact ⟨fs,f,hu,hf,h1,h2⟩
 ·cases h
theorem CSl.of {P : Program} {t e sz bytes : Nat} {zd : DV} (hu : P.underlying t = some (.slice e)) (hi : (P.info? e).map (fun i=>(i.zero.map (fun z=>(zeroDV z,z.cells.size)),i.size,i.bytes)) = some (some (zd,sz),sz,bytes)) (hp : 0 < sz) : CSl P t e sz bytes zd:=by
 cases hq : P.info? e with
 | none=>simp [hq] at hi
 | some i=>
  simp only [hq,Option.map_some,Option.some.injEq,Prod.mk.injEq] at hi
  obtain ⟨h1,h2,h3⟩ := hi
  cases hz : i.zero with
  | none=>simp [hz] at h1
  | some z=>
   simp only [hz,Option.map_some,Option.some.injEq,Prod.mk.injEq] at h1
   exact ⟨z,⟨hu,⟨i,hq,hz,h2,h3⟩,h1.2,hp⟩,h1.1⟩
def plOf (P : Program) (t : Nat) : Option (List (Nat × Nat) × Bool):=match P.underlying t with
 | some (.struct fs)=>some (fs.toList.map (fun f=>(f.offset,P.cellsOf f.type)),fs.toList.all fun f=>(P.info? f.type).isSome)
 | _=>none
theorem CPl.ofS {P : Program} {t : Nat} {zs : List DV} {pl : List (Nat × Nat)} (hz : CZero P t zs) (h : plOf P t = some (pl,true)) : CPl P t zs pl:=by
 refine ⟨hz,.inl ?_⟩
 unfold plOf at h
 split at h
 ·rename_i fs hu
  injection h with h; injection h with h1 h2
  exact ⟨fs,hu,fun f hf=>List.all_eq_true.1 h2 f hf,h1⟩
 ·cases h
theorem CPl.ofA {P : Program} {t n e s : Nat} {zs : List DV} (hz : CZero P t zs) (h : P.underlying t = some (.array n e)) (hs : (P.info? e).map (·.size) = some s) : CPl P t zs ((List.range n).map fun i=>(i * s,s)) := ⟨hz,.inr ⟨n,e,s,h,hs,rfl⟩⟩
instance sz2 : CSize Tryz.prog 2 1 := ⟨by kernel_rfl⟩
instance ti2 : TInt Tryz.prog 2 .i64 := ⟨by kernel_rfl⟩
instance sc2 : CSc Tryz.prog 2 := ⟨TSc.of (by kernel_rfl) (by kernel_rfl)⟩
instance sz3 : CSize Tryz.prog 3 1 := ⟨by kernel_rfl⟩
instance ze3 : CZero Tryz.prog 3 ([.int .i64 0]) := ⟨by kernel_rfl⟩
instance ti3 : TInt Tryz.prog 3 .i64 := ⟨by kernel_rfl⟩
instance sc3 : CSc Tryz.prog 3 := ⟨TSc.of (by kernel_rfl) (by kernel_rfl)⟩
instance sz4 : CSize Tryz.prog 4 1 := ⟨by kernel_rfl⟩
instance sc4 : CSc Tryz.prog 4 := ⟨TSc.of (by kernel_rfl) (by kernel_rfl)⟩
instance ti5 : TInt Tryz.prog 5 .u8 := ⟨by kernel_rfl⟩
instance sc5 : CSc Tryz.prog 5 := ⟨TSc.of (by kernel_rfl) (by kernel_rfl)⟩
instance sz22 : CSize Tryz.prog 22 1 := ⟨by kernel_rfl⟩
instance ti22 : TInt Tryz.prog 22 .u64 := ⟨by kernel_rfl⟩
instance sc22 : CSc Tryz.prog 22 := ⟨TSc.of (by kernel_rfl) (by kernel_rfl)⟩
instance sz24 : CSize Tryz.prog 24 2 := ⟨by kernel_rfl⟩
instance ze24 : CZero Tryz.prog 24 ([.int .i64 0,.int .u64 0]) := ⟨by kernel_rfl⟩
instance ro24 : CRow Tryz.prog 24 2 := ⟨TRow.of (by kernel_rfl) (by kernel_rfl)⟩
instance fl24_0 : CFld Tryz.prog 24 0 0 1 3:=.of (by kernel_rfl) (by kernel_rfl) (by decide)
instance fl24_1 : CFld Tryz.prog 24 1 1 1 22:=.of (by kernel_rfl) (by kernel_rfl) (by decide)
instance pl24 : CPl Tryz.prog 24 ([.int .i64 0,.int .u64 0]) [(0,1),(1,1)]:=.ofS inferInstance (by kernel_rfl)
instance tp26 : TPtr Tryz.prog 26 := ⟨⟨55,by kernel_rfl⟩⟩
instance sz27 : CSize Tryz.prog 27 1 := ⟨by kernel_rfl⟩
instance sc27 : CSc Tryz.prog 27 := ⟨TSc.of (by kernel_rfl) (by kernel_rfl)⟩
instance ti30 : TInt Tryz.prog 30 .u8 := ⟨by kernel_rfl⟩
instance sc30 : CSc Tryz.prog 30 := ⟨TSc.of (by kernel_rfl) (by kernel_rfl)⟩
instance sz31 : CSize Tryz.prog 31 1 := ⟨by kernel_rfl⟩
instance sc31 : CSc Tryz.prog 31 := ⟨TSc.of (by kernel_rfl) (by kernel_rfl)⟩
instance sl31 : CSl Tryz.prog 31 2 1 8 (.int .i64 0):=.of (by kernel_rfl) (by kernel_rfl) (by decide)
instance sz33 : CSize Tryz.prog 33 9 := ⟨by kernel_rfl⟩
instance ze33 : CZero Tryz.prog 33 ([.int .i64 0,.int .i64 0,.int .u8 0,.int .i64 0,.int .i64 0,.int .i64 0,.int .i64 0,.int .i64 0,.nils]) := ⟨by kernel_rfl⟩
instance ro33 : CRow Tryz.prog 33 9 := ⟨TRow.of (by kernel_rfl) (by kernel_rfl)⟩
instance fl33_0 : CFld Tryz.prog 33 0 0 1 3:=.of (by kernel_rfl) (by kernel_rfl) (by decide)
instance fl33_1 : CFld Tryz.prog 33 1 1 1 3:=.of (by kernel_rfl) (by kernel_rfl) (by decide)
instance fl33_2 : CFld Tryz.prog 33 2 2 1 30:=.of (by kernel_rfl) (by kernel_rfl) (by decide)
instance fl33_3 : CFld Tryz.prog 33 3 3 1 3:=.of (by kernel_rfl) (by kernel_rfl) (by decide)
instance fl33_4 : CFld Tryz.prog 33 4 4 1 3:=.of (by kernel_rfl) (by kernel_rfl) (by decide)
instance fl33_5 : CFld Tryz.prog 33 5 5 1 3:=.of (by kernel_rfl) (by kernel_rfl) (by decide)
instance fl33_6 : CFld Tryz.prog 33 6 6 1 3:=.of (by kernel_rfl) (by kernel_rfl) (by decide)
instance fl33_7 : CFld Tryz.prog 33 7 7 1 2:=.of (by kernel_rfl) (by kernel_rfl) (by decide)
instance fl33_8 : CFld Tryz.prog 33 8 8 1 31:=.of (by kernel_rfl) (by kernel_rfl) (by decide)
instance pl33 : CPl Tryz.prog 33 ([.int .i64 0,.int .i64 0,.int .u8 0,.int .i64 0,.int .i64 0,.int .i64 0,.int .i64 0,.int .i64 0,.nils]) [(0,1),(1,1),(2,1),(3,1),(4,1),(5,1),(6,1),(7,1),(8,1)]:=.ofS inferInstance (by kernel_rfl)
instance sl36 : CSl Tryz.prog 36 24 2 16 (.agg ([.int .i64 0,.int .u64 0])):=.of (by kernel_rfl) (by kernel_rfl) (by decide)
instance sl40 : CSl Tryz.prog 40 33 9 88 (.agg ([.int .i64 0,.int .i64 0,.int .u8 0,.int .i64 0,.int .i64 0,.int .i64 0,.int .i64 0,.int .i64 0,.nils])):=.of (by kernel_rfl) (by kernel_rfl) (by decide)
instance tp42 : TPtr Tryz.prog 42 := ⟨⟨90,by kernel_rfl⟩⟩
instance sz46 : CSize Tryz.prog 46 1 := ⟨by kernel_rfl⟩
instance ze46 : CZero Tryz.prog 46 ([.nils]) := ⟨by kernel_rfl⟩
instance sc46 : CSc Tryz.prog 46 := ⟨TSc.of (by kernel_rfl) (by kernel_rfl)⟩
instance sl46 : CSl Tryz.prog 46 5 1 1 (.int .u8 0):=.of (by kernel_rfl) (by kernel_rfl) (by decide)
instance ze50 : CZero Tryz.prog 50 ([.int .i64 0,.int .i64 0]) := ⟨by kernel_rfl⟩
instance fl50_0 : CFld Tryz.prog 50 0 0 1 3:=.of (by kernel_rfl) (by kernel_rfl) (by decide)
instance fl50_1 : CFld Tryz.prog 50 1 1 1 3:=.of (by kernel_rfl) (by kernel_rfl) (by decide)
instance pl50 : CPl Tryz.prog 50 ([.int .i64 0,.int .i64 0]) [(0,1),(1,1)]:=.ofS inferInstance (by kernel_rfl)
instance sc52 : CSc Tryz.prog 52 := ⟨TSc.of (by kernel_rfl) (by kernel_rfl)⟩
instance sz53 : CSize Tryz.prog 53 1 := ⟨by kernel_rfl⟩
instance sc53 : CSc Tryz.prog 53 := ⟨TSc.of (by kernel_rfl) (by kernel_rfl)⟩
instance sl53 : CSl Tryz.prog 53 57 1 24 (.nils):=.of (by kernel_rfl) (by kernel_rfl) (by decide)
instance ze55 : CZero Tryz.prog 55 ([.nils,.val (.map none)]) := ⟨by kernel_rfl⟩
instance fl55_0 : CFld Tryz.prog 55 0 0 1 53:=.of (by kernel_rfl) (by kernel_rfl) (by decide)
instance fl55_1 : CFld Tryz.prog 55 1 1 1 52:=.of (by kernel_rfl) (by kernel_rfl) (by decide)
instance pl55 : CPl Tryz.prog 55 ([.nils,.val (.map none)]) [(0,1),(1,1)]:=.ofS inferInstance (by kernel_rfl)
instance sz57 : CSize Tryz.prog 57 1 := ⟨by kernel_rfl⟩
instance ze57 : CZero Tryz.prog 57 ([.nils]) := ⟨by kernel_rfl⟩
instance sc57 : CSc Tryz.prog 57 := ⟨TSc.of (by kernel_rfl) (by kernel_rfl)⟩
instance sl57 : CSl Tryz.prog 57 64 29 248 (.agg ([.int .i64 0,.int .u64 0,.int .u64 0,.int .u64 0,.int .u64 0,.int .u64 0,.int .u64 0,.int .u64 0,.int .u64 0,.int .u64 0,.int .u64 0,.int .u64 0,.int .u64 0,.int .u64 0,.int .u64 0,.int .u64 0,.int .u64 0,.int .u64 0,.int .u8 0,.int .i64 0,.int .i64 0,.int .u8 0,.int .i64 0,.int .i64 0,.int .i64 0,.int .i64 0,.int .i64 0,.nils,.int .u64 0])):=.of (by kernel_rfl) (by kernel_rfl) (by decide)
instance ar59 : CArr Tryz.prog 59 16 22 1 := ⟨by kernel_rfl,by kernel_rfl⟩
instance sz61 : CSize Tryz.prog 61 16 := ⟨by kernel_rfl⟩
instance ze61 : CZero Tryz.prog 61 ([.int .u64 0,.int .u64 0,.int .u64 0,.int .u64 0,.int .u64 0,.int .u64 0,.int .u64 0,.int .u64 0,.int .u64 0,.int .u64 0,.int .u64 0,.int .u64 0,.int .u64 0,.int .u64 0,.int .u64 0,.int .u64 0]) := ⟨by kernel_rfl⟩
instance ro61 : CRow Tryz.prog 61 16 := ⟨TRow.of (by kernel_rfl) (by kernel_rfl)⟩
instance fl61_0 : CFld Tryz.prog 61 0 0 16 59:=.of (by kernel_rfl) (by kernel_rfl) (by decide)
instance pl61 : CPl Tryz.prog 61 ([.int .u64 0,.int .u64 0,.int .u64 0,.int .u64 0,.int .u64 0,.int .u64 0,.int .u64 0,.int .u64 0,.int .u64 0,.int .u64 0,.int .u64 0,.int .u64 0,.int .u64 0,.int .u64 0,.int .u64 0,.int .u64 0]) [(0,16)]:=.ofS inferInstance (by kernel_rfl)
instance sc62 : CSc Tryz.prog 62 := ⟨TSc.of (by kernel_rfl) (by kernel_rfl)⟩
instance sz64 : CSize Tryz.prog 64 29 := ⟨by kernel_rfl⟩
instance ze64 : CZero Tryz.prog 64 ([.int .i64 0,.int .u64 0,.int .u64 0,.int .u64 0,.int .u64 0,.int .u64 0,.int .u64 0,.int .u64 0,.int .u64 0,.int .u64 0,.int .u64 0,.int .u64 0,.int .u64 0,.int .u64 0,.int .u64 0,.int .u64 0,.int .u64 0,.int .u64 0,.int .u8 0,.int .i64 0,.int .i64 0,.int .u8 0,.int .i64 0,.int .i64 0,.int .i64 0,.int .i64 0,.int .i64 0,.nils,.int .u64 0]) := ⟨by kernel_rfl⟩
instance ro64 : CRow Tryz.prog 64 29 := ⟨TRow.of (by kernel_rfl) (by kernel_rfl)⟩
instance fl64_0 : CFld Tryz.prog 64 0 0 1 3:=.of (by kernel_rfl) (by kernel_rfl) (by decide)
instance fl64_1 : CFld Tryz.prog 64 1 1 1 22:=.of (by kernel_rfl) (by kernel_rfl) (by decide)
instance fl64_2 : CFld Tryz.prog 64 2 2 16 61:=.of (by kernel_rfl) (by kernel_rfl) (by decide)
instance fl64_3 : CFld Tryz.prog 64 3 18 1 62:=.of (by kernel_rfl) (by kernel_rfl) (by decide)
instance fl64_4 : CFld Tryz.prog 64 4 19 9 33:=.of (by kernel_rfl) (by kernel_rfl) (by decide)
instance fl64_5 : CFld Tryz.prog 64 5 28 1 22:=.of (by kernel_rfl) (by kernel_rfl) (by decide)
instance pl64 : CPl Tryz.prog 64 ([.int .i64 0,.int .u64 0,.int .u64 0,.int .u64 0,.int .u64 0,.int .u64 0,.int .u64 0,.int .u64 0,.int .u64 0,.int .u64 0,.int .u64 0,.int .u64 0,.int .u64 0,.int .u64 0,.int .u64 0,.int .u64 0,.int .u64 0,.int .u64 0,.int .u8 0,.int .i64 0,.int .i64 0,.int .u8 0,.int .i64 0,.int .i64 0,.int .i64 0,.int .i64 0,.int .i64 0,.nils,.int .u64 0]) [(0,1),(1,1),(2,16),(18,1),(19,9),(28,1)]:=.ofS inferInstance (by kernel_rfl)
instance sz66 : CSize Tryz.prog 66 3 := ⟨by kernel_rfl⟩
instance ze66 : CZero Tryz.prog 66 ([.int .i64 0,.int .i64 0,.int .i64 0]) := ⟨by kernel_rfl⟩
instance ro66 : CRow Tryz.prog 66 3 := ⟨TRow.of (by kernel_rfl) (by kernel_rfl)⟩
instance pl66 : CPl Tryz.prog 66 ([.int .i64 0,.int .i64 0,.int .i64 0]) [(0,1),(1,1),(2,1)]:=.ofS inferInstance (by kernel_rfl)
instance sz69 : CSize Tryz.prog 69 1 := ⟨by kernel_rfl⟩
instance sc69 : CSc Tryz.prog 69 := ⟨TSc.of (by kernel_rfl) (by kernel_rfl)⟩
instance sl69 : CSl Tryz.prog 69 3 1 8 (.int .i64 0):=.of (by kernel_rfl) (by kernel_rfl) (by decide)
instance sc88 : CSc Tryz.prog 88 := ⟨TSc.of (by kernel_rfl) (by kernel_rfl)⟩
instance sl88 : CSl Tryz.prog 88 101 4 64 (.agg ([.nils,.nils,.bool false,.int .u64 0])):=.of (by kernel_rfl) (by kernel_rfl) (by decide)
instance ze90 : CZero Tryz.prog 90 ([.nils]) := ⟨by kernel_rfl⟩
instance fl90_0 : CFld Tryz.prog 90 0 0 1 88:=.of (by kernel_rfl) (by kernel_rfl) (by decide)
instance pl90 : CPl Tryz.prog 90 ([.nils]) [(0,1)]:=.ofS inferInstance (by kernel_rfl)
instance sz99 : CSize Tryz.prog 99 1 := ⟨by kernel_rfl⟩
instance sc99 : CSc Tryz.prog 99 := ⟨TSc.of (by kernel_rfl) (by kernel_rfl)⟩
instance sl99 : CSl Tryz.prog 99 147 2 16 (.agg ([.int .u64 0,.int .u64 0])):=.of (by kernel_rfl) (by kernel_rfl) (by decide)
instance sz101 : CSize Tryz.prog 101 4 := ⟨by kernel_rfl⟩
instance ze101 : CZero Tryz.prog 101 ([.nils,.nils,.bool false,.int .u64 0]) := ⟨by kernel_rfl⟩
instance ro101 : CRow Tryz.prog 101 4 := ⟨TRow.of (by kernel_rfl) (by kernel_rfl)⟩
instance fl101_0 : CFld Tryz.prog 101 0 0 1 57:=.of (by kernel_rfl) (by kernel_rfl) (by decide)
instance fl101_1 : CFld Tryz.prog 101 1 1 1 99:=.of (by kernel_rfl) (by kernel_rfl) (by decide)
instance fl101_2 : CFld Tryz.prog 101 2 2 1 4:=.of (by kernel_rfl) (by kernel_rfl) (by decide)
instance fl101_3 : CFld Tryz.prog 101 3 3 1 22:=.of (by kernel_rfl) (by kernel_rfl) (by decide)
instance pl101 : CPl Tryz.prog 101 ([.nils,.nils,.bool false,.int .u64 0]) [(0,1),(1,1),(2,1),(3,1)]:=.ofS inferInstance (by kernel_rfl)
instance ti116 : TInt Tryz.prog 116 .u64 := ⟨by kernel_rfl⟩
instance sl119 : CSl Tryz.prog 119 61 16 128 (.agg ([.int .u64 0,.int .u64 0,.int .u64 0,.int .u64 0,.int .u64 0,.int .u64 0,.int .u64 0,.int .u64 0,.int .u64 0,.int .u64 0,.int .u64 0,.int .u64 0,.int .u64 0,.int .u64 0,.int .u64 0,.int .u64 0])):=.of (by kernel_rfl) (by kernel_rfl) (by decide)
instance sl123 : CSl Tryz.prog 123 4 1 1 (.bool false):=.of (by kernel_rfl) (by kernel_rfl) (by decide)
instance tp126 : TPtr Tryz.prog 126 := ⟨⟨177,by kernel_rfl⟩⟩
instance ti132 : TInt Tryz.prog 132 .u32 := ⟨by kernel_rfl⟩
instance sz142 : CSize Tryz.prog 142 4 := ⟨by kernel_rfl⟩
instance ze142 : CZero Tryz.prog 142 ([.int .i64 0,.int .i64 0,.nils,.bool false]) := ⟨by kernel_rfl⟩
instance fl142_1 : CFld Tryz.prog 142 1 1 1 3:=.of (by kernel_rfl) (by kernel_rfl) (by decide)
instance fl142_2 : CFld Tryz.prog 142 2 2 1 46:=.of (by kernel_rfl) (by kernel_rfl) (by decide)
instance fl142_3 : CFld Tryz.prog 142 3 3 1 4:=.of (by kernel_rfl) (by kernel_rfl) (by decide)
instance pl142 : CPl Tryz.prog 142 ([.int .i64 0,.int .i64 0,.nils,.bool false]) [(0,1),(1,1),(2,1),(3,1)]:=.ofS inferInstance (by kernel_rfl)
instance sz147 : CSize Tryz.prog 147 2 := ⟨by kernel_rfl⟩
instance ze147 : CZero Tryz.prog 147 ([.int .u64 0,.int .u64 0]) := ⟨by kernel_rfl⟩
instance ro147 : CRow Tryz.prog 147 2 := ⟨TRow.of (by kernel_rfl) (by kernel_rfl)⟩
instance fl147_0 : CFld Tryz.prog 147 0 0 1 22:=.of (by kernel_rfl) (by kernel_rfl) (by decide)
instance fl147_1 : CFld Tryz.prog 147 1 1 1 22:=.of (by kernel_rfl) (by kernel_rfl) (by decide)
instance pl147 : CPl Tryz.prog 147 ([.int .u64 0,.int .u64 0]) [(0,1),(1,1)]:=.ofS inferInstance (by kernel_rfl)
instance ze162 : CZero Tryz.prog 162 (List.replicate 144 (.int .u64 0)) := ⟨by kernel_rfl⟩
instance ar162 : CArr Tryz.prog 162 9 61 16 := ⟨by kernel_rfl,by kernel_rfl⟩
instance ze168 : CZero Tryz.prog 168 ([.nils,.nils,.nils,.nils,.nils]) := ⟨by kernel_rfl⟩
instance ar168 : CArr Tryz.prog 168 5 69 1 := ⟨by kernel_rfl,by kernel_rfl⟩
instance sc170 : CSc Tryz.prog 170 := ⟨TSc.of (by kernel_rfl) (by kernel_rfl)⟩
instance ze172 : CZero Tryz.prog 172 ([.int .u8 0,.int .u8 0,.int .u8 0,.int .u8 0,.int .u8 0]) := ⟨by kernel_rfl⟩
instance ar172 : CArr Tryz.prog 172 5 170 1 := ⟨by kernel_rfl,by kernel_rfl⟩
instance pl172 : CPl Tryz.prog 172 ([.int .u8 0,.int .u8 0,.int .u8 0,.int .u8 0,.int .u8 0]) ((List.range 5).map fun i=>(i * 1,1)):=.ofA (e:=170) inferInstance (by kernel_rfl) (by kernel_rfl)
instance ze177 : CZero Tryz.prog 177 ([.int .i64 0,.int .i64 0,.nils,.bool false,.int .i64 0,.int .u64 0,.int .u64 0]) := ⟨by kernel_rfl⟩
instance fl177_0 : CFld Tryz.prog 177 0 0 1 3:=.of (by kernel_rfl) (by kernel_rfl) (by decide)
instance fl177_1 : CFld Tryz.prog 177 1 1 1 3:=.of (by kernel_rfl) (by kernel_rfl) (by decide)
instance fl177_2 : CFld Tryz.prog 177 2 2 1 57:=.of (by kernel_rfl) (by kernel_rfl) (by decide)
instance fl177_3 : CFld Tryz.prog 177 3 3 1 4:=.of (by kernel_rfl) (by kernel_rfl) (by decide)
instance fl177_4 : CFld Tryz.prog 177 4 4 1 3:=.of (by kernel_rfl) (by kernel_rfl) (by decide)
instance fl177_5 : CFld Tryz.prog 177 5 5 1 22:=.of (by kernel_rfl) (by kernel_rfl) (by decide)
instance fl177_6 : CFld Tryz.prog 177 6 6 1 22:=.of (by kernel_rfl) (by kernel_rfl) (by decide)
instance pl177 : CPl Tryz.prog 177 ([.int .i64 0,.int .i64 0,.nils,.bool false,.int .i64 0,.int .u64 0,.int .u64 0]) [(0,1),(1,1),(2,1),(3,1),(4,1),(5,1),(6,1)]:=.ofS inferInstance (by kernel_rfl)
instance tp183 : TPtr Tryz.prog 183 := ⟨⟨210,by kernel_rfl⟩⟩
instance sc183 : CSc Tryz.prog 183 := ⟨TSc.of (by kernel_rfl) (by kernel_rfl)⟩
instance ze210 : CZero Tryz.prog 210 ([.nils,.int .i64 0]) := ⟨by kernel_rfl⟩
instance fl210_0 : CFld Tryz.prog 210 0 0 1 46:=.of (by kernel_rfl) (by kernel_rfl) (by decide)
instance fl210_1 : CFld Tryz.prog 210 1 1 1 27:=.of (by kernel_rfl) (by kernel_rfl) (by decide)
instance pl210 : CPl Tryz.prog 210 ([.nils,.int .i64 0]) [(0,1),(1,1)]:=.ofS inferInstance (by kernel_rfl)
instance sl216 : CSl Tryz.prog 216 99 1 24 (.nils):=.of (by kernel_rfl) (by kernel_rfl) (by decide)
instance fn4 : CFn Tryz.prog 4 := ⟨by kernel_rfl⟩
instance fn5 : CFn Tryz.prog 5 := ⟨by kernel_rfl⟩
instance fn6 : CFn Tryz.prog 6 := ⟨by kernel_rfl⟩
instance fn7 : CFn Tryz.prog 7 := ⟨by kernel_rfl⟩
instance fn8 : CFn Tryz.prog 8 := ⟨by kernel_rfl⟩
instance fn9 : CFn Tryz.prog 9 := ⟨by kernel_rfl⟩
instance fn10 : CFn Tryz.prog 10 := ⟨by kernel_rfl⟩
instance fn11 : CFn Tryz.prog 11 := ⟨by kernel_rfl⟩
instance fn12 : CFn Tryz.prog 12 := ⟨by kernel_rfl⟩
instance fn13 : CFn Tryz.prog 13 := ⟨by kernel_rfl⟩
instance fn14 : CFn Tryz.prog 14 := ⟨by kernel_rfl⟩
instance fn15 : CFn Tryz.prog 15 := ⟨by kernel_rfl⟩
instance fn16 : CFn Tryz.prog 16 := ⟨by kernel_rfl⟩
instance fn17 : CFn Tryz.prog 17 := ⟨by kernel_rfl⟩
instance fn18 : CFn Tryz.prog 18 := ⟨by kernel_rfl⟩
instance fn19 : CFn Tryz.prog 19 := ⟨by kernel_rfl⟩
instance fn20 : CFn Tryz.prog 20 := ⟨by kernel_rfl⟩
instance fn21 : CFn Tryz.prog 21 := ⟨by kernel_rfl⟩
instance fn22 : CFn Tryz.prog 22 := ⟨by kernel_rfl⟩
instance fn23 : CFn Tryz.prog 23 := ⟨by kernel_rfl⟩
instance fn24 : CFn Tryz.prog 24 := ⟨by kernel_rfl⟩
instance fn25 : CFn Tryz.prog 25 := ⟨by kernel_rfl⟩
instance fn26 : CFn Tryz.prog 26 := ⟨by kernel_rfl⟩
instance fn27 : CFn Tryz.prog 27 := ⟨by kernel_rfl⟩
instance fn28 : CFn Tryz.prog 28 := ⟨by kernel_rfl⟩
instance fn31 : CFn Tryz.prog 31 := ⟨by kernel_rfl⟩
instance fn32 : CFn Tryz.prog 32 := ⟨by kernel_rfl⟩
instance fn33 : CFn Tryz.prog 33 := ⟨by kernel_rfl⟩
instance fn34 : CFn Tryz.prog 34 := ⟨by kernel_rfl⟩
instance fn35 : CFn Tryz.prog 35 := ⟨by kernel_rfl⟩
instance fn36 : CFn Tryz.prog 36 := ⟨by kernel_rfl⟩
instance fn37 : CFn Tryz.prog 37 := ⟨by kernel_rfl⟩
instance fn38 : CFn Tryz.prog 38 := ⟨by kernel_rfl⟩
instance fn39 : CFn Tryz.prog 39 := ⟨by kernel_rfl⟩
instance fn40 : CFn Tryz.prog 40 := ⟨by kernel_rfl⟩
instance fn41 : CFn Tryz.prog 41 := ⟨by kernel_rfl⟩
instance fn42 : CFn Tryz.prog 42 := ⟨by kernel_rfl⟩
instance fn43 : CFn Tryz.prog 43 := ⟨by kernel_rfl⟩
instance fn44 : CFn Tryz.prog 44 := ⟨by kernel_rfl⟩
instance fn45 : CFn Tryz.prog 45 := ⟨by kernel_rfl⟩
instance fn46 : CFn Tryz.prog 46 := ⟨by kernel_rfl⟩
instance fn47 : CFn Tryz.prog 47 := ⟨by kernel_rfl⟩
instance fn48 : CFn Tryz.prog 48 := ⟨by kernel_rfl⟩
instance fn49 : CFn Tryz.prog 49 := ⟨by kernel_rfl⟩
instance fn50 : CFn Tryz.prog 50 := ⟨by kernel_rfl⟩
instance fn51 : CFn Tryz.prog 51 := ⟨by kernel_rfl⟩
instance fn52 : CFn Tryz.prog 52 := ⟨by kernel_rfl⟩
instance fn53 : CFn Tryz.prog 53 := ⟨by kernel_rfl⟩
instance fn54 : CFn Tryz.prog 54 := ⟨by kernel_rfl⟩
instance fn55 : CFn Tryz.prog 55 := ⟨by kernel_rfl⟩
instance fn56 : CFn Tryz.prog 56 := ⟨by kernel_rfl⟩
instance fn57 : CFn Tryz.prog 57 := ⟨by kernel_rfl⟩
instance fn58 : CFn Tryz.prog 58 := ⟨by kernel_rfl⟩
instance fn59 : CFn Tryz.prog 59 := ⟨by kernel_rfl⟩
instance fn60 : CFn Tryz.prog 60 := ⟨by kernel_rfl⟩
instance fn61 : CFn Tryz.prog 61 := ⟨by kernel_rfl⟩
instance fn62 : CFn Tryz.prog 62 := ⟨by kernel_rfl⟩
instance fn63 : CFn Tryz.prog 63 := ⟨by kernel_rfl⟩
instance fn64 : CFn Tryz.prog 64 := ⟨by kernel_rfl⟩
instance fn68 : CFn Tryz.prog 68 := ⟨by kernel_rfl⟩
instance fn69 : CFn Tryz.prog 69 := ⟨by kernel_rfl⟩
instance fn70 : CFn Tryz.prog 70 := ⟨by kernel_rfl⟩
instance fn71 : CFn Tryz.prog 71 := ⟨by kernel_rfl⟩
instance fn72 : CFn Tryz.prog 72 := ⟨by kernel_rfl⟩
instance fn73 : CFn Tryz.prog 73 := ⟨by kernel_rfl⟩
instance fn74 : CFn Tryz.prog 74 := ⟨by kernel_rfl⟩
instance fn75 : CFn Tryz.prog 75 := ⟨by kernel_rfl⟩
instance fn85 : CFn Tryz.prog 85 := ⟨by kernel_rfl⟩
instance fn86 : CFn Tryz.prog 86 := ⟨by kernel_rfl⟩
instance fn90 : CFn Tryz.prog 90 := ⟨by kernel_rfl⟩
instance fn91 : CFn Tryz.prog 91 := ⟨by kernel_rfl⟩
instance fn92 : CFn Tryz.prog 92 := ⟨by kernel_rfl⟩
instance fn93 : CFn Tryz.prog 93 := ⟨by kernel_rfl⟩
instance fn94 : CFn Tryz.prog 94 := ⟨by kernel_rfl⟩
instance fn95 : CFn Tryz.prog 95 := ⟨by kernel_rfl⟩
instance fn96 : CFn Tryz.prog 96 := ⟨by kernel_rfl⟩
instance fn98 : CFn Tryz.prog 98 := ⟨by kernel_rfl⟩
instance fn100 : CFn Tryz.prog 100 := ⟨by kernel_rfl⟩
instance fn101 : CFn Tryz.prog 101 := ⟨by kernel_rfl⟩
instance fn102 : CFn Tryz.prog 102 := ⟨by kernel_rfl⟩
instance fn103 : CFn Tryz.prog 103 := ⟨by kernel_rfl⟩
instance fn104 : CFn Tryz.prog 104 := ⟨by kernel_rfl⟩
instance fn105 : CFn Tryz.prog 105 := ⟨by kernel_rfl⟩
instance fn106 : CFn Tryz.prog 106 := ⟨by kernel_rfl⟩
instance fn107 : CFn Tryz.prog 107 := ⟨by kernel_rfl⟩
instance fn108 : CFn Tryz.prog 108 := ⟨by kernel_rfl⟩
instance fn109 : CFn Tryz.prog 109 := ⟨by kernel_rfl⟩
instance fn110 : CFn Tryz.prog 110 := ⟨by kernel_rfl⟩
instance fn111 : CFn Tryz.prog 111 := ⟨by kernel_rfl⟩
instance fn112 : CFn Tryz.prog 112 := ⟨by kernel_rfl⟩
instance fn113 : CFn Tryz.prog 113 := ⟨by kernel_rfl⟩
instance fn114 : CFn Tryz.prog 114 := ⟨by kernel_rfl⟩
instance fn115 : CFn Tryz.prog 115 := ⟨by kernel_rfl⟩
instance fn117 : CFn Tryz.prog 117 := ⟨by kernel_rfl⟩
instance fn131 : CFn Tryz.prog 131 := ⟨by kernel_rfl⟩
instance fn132 : CFn Tryz.prog 132 := ⟨by kernel_rfl⟩
instance fn133 : CFn Tryz.prog 133 := ⟨by kernel_rfl⟩
instance fn134 : CFn Tryz.prog 134 := ⟨by kernel_rfl⟩
instance fn135 : CFn Tryz.prog 135 := ⟨by kernel_rfl⟩
instance fn136 : CFn Tryz.prog 136 := ⟨by kernel_rfl⟩
instance fn137 : CFn Tryz.prog 137 := ⟨by kernel_rfl⟩
instance fn138 : CFn Tryz.prog 138 := ⟨by kernel_rfl⟩
instance fn139 : CFn Tryz.prog 139 := ⟨by kernel_rfl⟩
instance fn140 : CFn Tryz.prog 140 := ⟨by kernel_rfl⟩
instance fn147 : CFn Tryz.prog 147 := ⟨by kernel_rfl⟩
instance fn148 : CFn Tryz.prog 148 := ⟨by kernel_rfl⟩
instance fn149 : CFn Tryz.prog 149 := ⟨by kernel_rfl⟩
instance fn150 : CFn Tryz.prog 150 := ⟨by kernel_rfl⟩
instance fn161 : CFn Tryz.prog 161 := ⟨by kernel_rfl⟩
instance fn162 : CFn Tryz.prog 162 := ⟨by kernel_rfl⟩
instance fn166 : CFn Tryz.prog 166 := ⟨by kernel_rfl⟩
theorem mixed : Tryz.prog.follows .mixedOrders = true:=by kernel_rfl
end Go.Proofs.YtcgfgilddjkpkaaGreat
set_option linter.unusedSimpArgs false
namespace Go.Proofs.YtcgfgilddjkpkaaGreat
def decU (i : Nat) (acc : Int) : List Int→Option (Int × Nat)
 | []=>none
 | b :: rest=>if i = 9∧1 < b then none else if b < 128 then (if b = 0∧0 < i then none else some (acc + b % 128 * 128 ^ i,i + 1)) else decU (i + 1) (acc + b % 128 * 128 ^ i) rest
def Byt (b : Int) : Prop:=0≤b∧b≤255
theorem bit_nat {k : IntKind} {x : Int} (h0 : 0≤x) (h1 : x < 2 ^ k.bits) : (BitVec.ofInt k.bits x).toNat = x.toNat:=by
 rw [BitVec.toNat_ofInt]
 rw [Int.emod_eq_of_lt h0 (by exact_mod_cast h1)]
theorem and_127 {b : Int} (h : Byt b) : bitI .and .u8 b 127 = b % 128:=by
 have key : ∀ x : Fin 256,bitI .and .u8 ((x.val : Nat) : Int) 127 = ((x.val % 128 : Nat) : Int):=by decide +kernel
 have:=key ⟨b.toNat,by have:=h.2; omega⟩
 simp only at this
 rw [Int.toNat_of_nonneg h.1] at this
 rw [this]; have:=h.1; omega
theorem or_add {a c : Int} {i : Nat} (ha : 0≤a) (ha' : a < 128 ^ i) (hc : 0≤c) (hs : a + c * 128 ^ i < 18446744073709551616) : bitI .or .u64 a (c * 128 ^ i) = a + c * 128 ^ i:=by
 have hp : (0 : Int) < 128 ^ i:=Int.pow_pos (by omega)
 have hcm : 0≤c * 128 ^ i:=Int.mul_nonneg hc (by omega)
 have e64 : (2 : Int) ^ IntKind.u64.bits = 18446744073709551616:=rfl
 have n1:=bit_nat (k:=.u64) ha (by rw [e64]; omega)
 have n2:=bit_nat (k:=.u64) hcm (by rw [e64]; omega)
 unfold bitI
 simp only [BitVec.toNat_or,n1,n2]
 obtain ⟨A,rfl⟩ := Int.eq_ofNat_of_zero_le ha
 obtain ⟨C,rfl⟩ := Int.eq_ofNat_of_zero_le hc
 have e1 : ((C : Int) * 128 ^ i) = ((C * 2 ^ (7 * i) : Nat) : Int):=by
  rw [Nat.pow_mul]; simp
 rw [e1,Int.toNat_natCast,Int.toNat_natCast]
 have hA : A < 2 ^ (7 * i):=by
  rw [Nat.pow_mul]
  have : (A : Int) < ((128 ^ i : Nat) : Int):=by simpa using ha'
  exact_mod_cast this
 have hor : A ||| C * 2 ^ (7 * i) = A + C * 2 ^ (7 * i):=by
  rw [Nat.or_comm,Nat.mul_comm,← Nat.two_pow_add_eq_or_of_lt hA,Nat.add_comm]
 rw [hor]
 rw [wrap_in (k:=.u64) ⟨by omega,by rw [e1] at hs; push_cast at hs ⊢; omega⟩]
 push_cast; rfl
theorem shl_7 {c : Int} {i : Nat} (hi : i≤9) (hc : 0≤c) (hs : c * 128 ^ i < 18446744073709551616) : IntKind.u64.wrap (c * 2 ^ min ((7 : Int) * (i : Int)).toNat IntKind.u64.bits) = c * 128 ^ i:=by
 have e : min ((7 : Int) * (i : Int)).toNat IntKind.u64.bits = 7 * i:=by
  have : IntKind.u64.bits = 64:=rfl
  rw [this]; omega
 have e2 : (2 : Int) ^ (7 * i) = 128 ^ i:=by rw [Int.pow_mul]; rfl
 rw [e,e2,wrap_in]
 have hp : (0 : Int) < 128 ^ i:=Int.pow_pos (by omega)
 exact ⟨Int.mul_nonneg hc (by omega),by omega⟩
theorem shr_7 (b : Int) : b.fdiv (2 ^ min (7 : Int).toNat IntKind.u8.bits) = b / 128:=by
 have : (2 : Int) ^ min (7 : Int).toNat IntKind.u8.bits = 128:=rfl
 rw [this,Int.fdiv_eq_ediv_of_nonneg _ (by omega)]
structure Rd where
 xs : List Int
 err : Int
def uintD (xs : List Int) : Int × Int × Int:=match decU 0 0 xs with
 | some (v,n)=>(v,n,0)
 | none=>(0,0,6)
def Rd.take (n e : Int) (r : Rd) : Bool × Rd:=if e≠0 then (false,{ r with err:=e }) else (true,{ r with xs:=r.xs.drop n.toNat })
def Rd.uint (m : Int) (r : Rd) : Int × Rd:=if r.err≠0 then (0,r) else match decU 0 0 r.xs with
 | none=>(0,{ r with err:=6 })
 | some (v,n)=>if m < v then (0,{ r with err:=2 }) else (v,{ r with xs:=r.xs.drop n })
def unzig (u : Int) : Int:=if u % 2 = 1 then -(u / 2) - 1 else u / 2
def Rd.int (r : Rd) : Int × Rd:=if r.err≠0 then (0,r) else match decU 0 0 r.xs with
 | none=>(0,{ r with err:=6 })
 | some (v,n)=>(unzig v,{ r with xs:=r.xs.drop n })
def Rd.byte (r : Rd) : Int × Rd:=if r.err≠0 then (0,r) else match r.xs with
 | []=>(0,{ r with err:=6 })
 | b :: rest=>(b,{ r with xs:=rest })
def Rd.fin (r : Rd) : Int:=if r.err≠0 then r.err else if r.xs = [] then 0 else 6
theorem and_1 {u : Int} (h : U64 u) : bitI .and .u64 u 1 = u % 2:=by
 have h0:=h.1
 have h1:=h.2
 have e64 : (2 : Int) ^ IntKind.u64.bits = 18446744073709551616:=rfl
 have n1:=bit_nat (k:=.u64) h0 (by rw [e64]; omega)
 have n2:=bit_nat (k:=.u64) (x:=1) (by omega) (by rw [e64]; omega)
 unfold bitI
 simp only [BitVec.toNat_and,n1,n2]
 have : u.toNat &&& (1 : Int).toNat = u.toNat % 2:=Nat.and_one_is_mod _
 rw [this,wrap_in (k:=.u64) (by simp only [InR]; omega)]
 omega
theorem shr_1 (u : Int) : u.fdiv (2 ^ min (1 : Int).toNat IntKind.u64.bits) = u / 2:=by
 have : (2 : Int) ^ min (1 : Int).toNat IntKind.u64.bits = 2:=rfl
 rw [this,Int.fdiv_eq_ediv_of_nonneg _ (by omega)]
theorem not_i64 {x : Int} (h : 0≤x∧x≤9223372036854775807) : bitI .xor .i64 (if IntKind.i64.signed then -1 else IntKind.i64.max) x = -x - 1:=by
 have e64 : (2 : Int) ^ IntKind.i64.bits = 18446744073709551616:=rfl
 have n1:=bit_nat (k:=.i64) h.1 (by rw [e64]; omega)
 have e1 : (BitVec.ofInt IntKind.i64.bits (-1)).toNat = 2 ^ 64 - 1:=rfl
 have es : (if IntKind.i64.signed = true then (-1 : Int) else IntKind.i64.max) = -1:=rfl
 rw [es]
 unfold bitI
 simp only [BitVec.toNat_xor,n1,e1]
 have hx : (2 ^ 64 - 1) ^^^ x.toNat = 2 ^ 64 - 1 - x.toNat:=Lib.xor_ones64 x.toNat (by omega)
 rw [hx]
 have hc : ((2 ^ 64 - 1 - x.toNat : Nat) : Int) = 18446744073709551615 - x:=by omega
 rw [hc,IntKind.wrap_i64]; omega
theorem decU_u64 : ∀ (xs : List Int) (i : Nat) (acc v : Int) (n : Nat),(∀ b∈xs,Byt b)→i≤9→0≤acc→acc < 128 ^ i→decU i acc xs = some (v,n)→U64 v
 | [],i,acc,v,n,_,_,_,_,h=>by simp [decU] at h
 | b :: rest,i,acc,v,n,hx,hi,h0,h1,h=>by
  have hb:=hx b (by simp)
  have hb0:=hb.1
  have hb1:=hb.2
  unfold decU at h
  split at h
  ·cases h
  ·rename_i hnd
   have hpow : (128 : Int) ^ i≤9223372036854775808∧(i = 9∨(128 : Int) ^ i≤72057594037927936):=by
    have : i = 0∨i = 1∨i = 2∨i = 3∨i = 4∨i = 5∨i = 6∨i = 7∨i = 8∨i = 9:=by omega
    rcases this with rfl | rfl | rfl | rfl | rfl | rfl | rfl | rfl | rfl | rfl <;> simp
   have hp0 : (0 : Int) < 128 ^ i:=Int.pow_pos (by omega)
   have hm : 0≤b % 128∧b % 128≤127:=by omega
   have e : b % 128 * 128 ^ i≤127 * 128 ^ i:=Int.mul_le_mul_of_nonneg_right hm.2 (by omega)
   have e0 : 0≤b % 128 * 128 ^ i:=Int.mul_nonneg hm.1 (by omega)
   have e2 : (128 : Int) ^ (i + 1) = 128 * 128 ^ i:=by rw [Int.pow_succ,Int.mul_comm]
   split at h
   ·split at h
    ·cases h
    ·injection h with h; injection h with h2 h3
     rw [← h2]
     refine ⟨by omega,?_⟩
     rcases hpow.2 with h9 | h9
     ·have hb9 : b≤1:=by
       rcases Int.lt_or_le 1 b with h | h
       ·exact absurd ⟨h9,h⟩ hnd
       ·exact h
      have : b % 128 = b:=by omega
      rw [this]
      have : b * 128 ^ i≤1 * 128 ^ i:=Int.mul_le_mul_of_nonneg_right hb9 (by omega)
      omega
     ·omega
   ·rename_i hge
    have hi9 : i < 9:=by
     rcases Nat.lt_or_ge i 9 with h | h
     ·exact h
     ·exact absurd ⟨by omega,by omega⟩ hnd
    exact decU_u64 rest (i + 1) _ v n (fun c hc=>hx c (by simp [hc])) (by omega) (by omega) (by omega) h
theorem uintD_u64 (xs : List Int) (hx : ∀ b∈xs,Byt b) : U64 (uintD xs).1:=by
 unfold uintD
 cases h : decU 0 0 xs with
 | none=>exact ⟨by simp,by simp⟩
 | some p=>obtain ⟨v,n⟩ := p; exact decU_u64 xs 0 0 v n hx (by omega) (by omega) (by simp) h
end Go.Proofs.YtcgfgilddjkpkaaGreat
namespace Go.Proofs.YtcgfgilddjkpkaaGreat
open Go.RowKit
def u8s (xs : List Int) : DV:=.sl 1 (xs.map (.int .u8))
def rdE (r : Rd) : HE:=.blk 210 [u8s r.xs,.int .i64 r.err]
theorem idx_map {α : Type} {l : List α} {f : α→DV} {k : Nat} {x : α} (h : l[k]? = some x) : (l.map f)[k]? = some (f x):=by simp [h]
theorem u8s_drop (xs : List Int) (n : Nat) : DV.sl 1 (((xs.map (.int .u8)).take (xs.map (DV.int .u8)).length).drop n) = u8s (xs.drop n):=by
 unfold u8s; rw [List.take_of_length_le (by simp),List.map_drop]
theorem open_c (r : Rd) : ACall Tryz.prog 133 ⟨[.ref 100000 0],[(100000,some (rdE r))],.bool (r.err == 0),[(100000,some (rdE r))],[]⟩ := by
 refine ACall.body Tryz.func133 Tryz.ntmps133 rfl rfl rfl rfl ?_
 (refine a_seq ?_; (apply a_region; (case ht=>exact .cons (o_assign rfl)<|.nil _); (case hd=>kernel_rfl); (case hnew=>kernel_rfl)); refine a_seq ?_; (apply a_region; (case ht=>((apply tc; (case h=>exact o_move rfl)); (apply tc; (case h=>exact o_ptr_ne rfl)); (apply tc; (case h=>exact o_move rfl)); (apply tc; (case h=>(apply o_guardT rfl rfl; (case hS=>intro hb; exact (Strips.keep Strips.nil)); (case h=>intro hb; exact o_move rfl)))); (apply tc; (case h=>(apply o_guardT rfl rfl; (case hS=>intro hb; exact (Strips.strip rfl hb Strips.nil)); (case h=>intro hb; exact o_nilCheck rfl)))); (apply tc; (case h=>(apply o_guardT rfl rfl; (case hS=>intro hb; exact (Strips.strip rfl hb Strips.nil)); (case h=>intro hb; exact o_fieldAddr rfl)))); (apply tc; (case h=>(apply o_guardT rfl rfl; (case hS=>intro hb; exact (Strips.strip rfl hb Strips.nil)); (case h=>intro hb; exact o_load_s rfl rfl rfl)))); (apply tc; (case h=>(apply o_guardT rfl rfl; (case hS=>intro hb; exact (Strips.strip rfl hb Strips.nil)); (case h=>intro hb; exact o_int rfl rfl rfl)))); (apply tc; (case h=>exact o_and rfl rfl)); (apply tc; (case h=>exact o_assign rfl)); exact tn)); (case hd=>kernel_rfl); (case hnew=>kernel_rfl)); refine a_ret ?_; ((refine a_post (ResV.r1 (ResOk.tmp rfl)) (DLe.of_eq ?_) (PostOk.consE rfl ?_ PostOk.nil).spec) <;> ((first | rfl | simp))))
theorem take_c (r : Rd) (n : Nat) (e : Int) (hn : e = 0→n≤r.xs.length) : ACall Tryz.prog 135 ⟨[.ref 100000 0,.int .i64 n,.int .i64 e],[(100000,some (rdE r))],.bool (r.take n e).1,[(100000,some (rdE (r.take n e).2))],[]⟩ := by
 by_cases he : e = 0
 ·have hle:=hn he
  subst he
  have hl : (List.map (DV.int IntKind.u8) r.xs).length = r.xs.length:=by simp
  refine ACall.body Tryz.func135 Tryz.ntmps135 rfl rfl rfl rfl ?_
  (refine a_seq ?_; (apply a_region; (case ht=>exact .cons (o_assign rfl)<|.nil _); (case hd=>kernel_rfl); (case hnew=>kernel_rfl)); refine a_seq ?_; refine a_seq ?_; (apply a_region; (case ht=>exact .cons (o_move rfl)<|.cons (o_int rfl rfl rfl)<|.nil _); (case hd=>kernel_rfl); (case hnew=>kernel_rfl)); (apply a_cond _ rfl; (case ht=>intro c1; (cases c1; done)); (case hf=>intro c1; (first | (cases c1; done) | (refine a_skip ?_; refine a_seq ?_; (apply a_region; (case ht=>exact .cons (o_move rfl)<|.cons (o_move rfl)<|.cons (o_nilCheck rfl)<|.cons (o_fieldAddr rfl)<|.cons (o_load_s rfl rfl rfl)<|.cons (o_move rfl)<|.cons (o_slice n _ rfl (Bd.at rfl rfl) Bd.no (by omega) (by omega))<|.cons (o_nilCheck rfl)<|.cons (o_fieldAddr rfl)<|.cons (o_store_s rfl rfl rfl rfl rfl)<|.nil _); (case hd=>kernel_rfl); (case hnew=>kernel_rfl)); refine a_seq ?_; (apply a_region; (case ht=>exact .cons (o_assign rfl)<|.nil _); (case hd=>kernel_rfl); (case hnew=>kernel_rfl)); refine a_ret ?_; ((refine a_post (ResV.r1 (ResOk.tmp rfl)) (DLe.of_eq ?_) (PostOk.consE rfl ?_ PostOk.nil).spec) <;> ((simp [Rd.take,rdE,constDV,layD,DV.cs,u8s,List.map_drop,List.take_of_length_le]))))))))
 ·refine ACall.body Tryz.func135 Tryz.ntmps135 rfl rfl rfl rfl ?_
  (refine a_seq ?_; (apply a_region; (case ht=>exact .cons (o_assign rfl)<|.nil _); (case hd=>kernel_rfl); (case hnew=>kernel_rfl)); refine a_seq ?_; refine a_seq ?_; (apply a_region; (case ht=>exact .cons (o_move rfl)<|.cons (o_int rfl rfl rfl)<|.nil _); (case hd=>kernel_rfl); (case hnew=>kernel_rfl)); (apply a_cond _ rfl; (case ht=>intro c1; (first | (cases c1; done) | (exfalso; simp [he] at c1; done) | (refine a_seq ?_; (apply a_region; (case ht=>exact .cons (o_move rfl)<|.cons (o_move rfl)<|.cons (o_nilCheck rfl)<|.cons (o_fieldAddr rfl)<|.cons (o_store_s rfl rfl rfl rfl rfl)<|.nil _); (case hd=>kernel_rfl); (case hnew=>kernel_rfl)); refine a_seq ?_; (apply a_region; (case ht=>exact .cons (o_assign rfl)<|.nil _); (case hd=>kernel_rfl); (case hnew=>kernel_rfl)); refine a_ret ?_; ((refine a_post (ResV.r1 (ResOk.tmp rfl)) (DLe.of_eq ?_) (PostOk.consE rfl ?_ PostOk.nil).spec) <;> ((simp [Rd.take,he,rdE,layD,DV.cs,constDV])))))); (case hf=>intro c1; (first | (cases c1; done) | (exfalso; simp [he] at c1; done)))))
theorem uint_c (xs : List Int) (hx : ∀ b∈xs,Byt b) (hl : xs.length≤4611686018427387904) : PCall Tryz.prog 134 [u8s xs] (.tup [.int .u64 (uintD xs).1,.int .i64 (uintD xs).2.1,.int .i64 (uintD xs).2.2]):=by
 refine PCall.body Tryz.func134 Tryz.ntmps134 rfl rfl rfl rfl ?_
 refine a_seq ?_
 (apply a_region; (case ht=>exact .cons (o_assign rfl)<|.cons (o_assign rfl)<|.cons (o_assign rfl)<|.nil _); (case hd=>kernel_rfl); (case hnew=>kernel_rfl))
 refine a_seq ?_
 refine a_seq ?_
 (apply a_region; (case ht=>exact .cons (o_move rfl)<|.cons (o_len rfl)<|.cons (o_move rfl)<|.nil _); (case hd=>kernel_rfl); (case hnew=>kernel_rfl))
 refine a_block ?_
 refine a_loop (fun p : Nat × Int=>⟨[(7,u8s xs),(8,.int .i64 (xs.map (DV.int .u8)).length),(9,.int .i64 (p.1 : Int)),(2,.int .u64 p.2)],[],[]⟩) (fun p=>p.1≤xs.length∧p.1≤9∧0≤p.2∧p.2 < 128 ^ p.1∧decU 0 0 xs = decU p.1 p.2 (xs.drop p.1)) (fun p=>xs.length - p.1) (0,0) ?_ ?_ ?_
 ·exact Imp.le (.cons rfl (DLe.refl _) (.cons rfl (DLe.refl _) (.cons rfl (DLe.refl _) (.cons rfl (DLe.refl _) .nil))))
 ·exact ⟨by omega,by omega,by omega,by simp,by simp⟩
 rintro ⟨k,acc⟩ ⟨h1,h2,h3,h4,h5⟩
 simp only at h1 h2 h3 h4 h5
 refine a_seq ?_
 (apply a_region; (case ht=>exact .cons (o_int rfl rfl rfl)<|.nil _); (case hd=>kernel_rfl); (case hnew=>kernel_rfl))
 refine a_seq ?_
 refine a_cond _ rfl (fun c1=>?_) (fun c1=>?_)
 ·simp only [List.length_map,decide_eq_true_eq] at c1
  have hk : k < xs.length:=by omega
  obtain ⟨b,hb⟩ : ∃ b,xs[k]? = some b := ⟨xs[k],by simp [hk]⟩
  have hby : Byt b:=hx b (List.mem_of_getElem? hb)
  have hdr : xs.drop k = b :: xs.drop (k + 1):=by
   rw [List.drop_eq_getElem_cons hk]
   congr 1
   rw [List.getElem?_eq_getElem hk] at hb; injection hb
  rw [hdr] at h5
  refine a_skip ?_
  refine a_seq ?_
  refine a_block ?_
  refine a_seq ?_
  (apply a_region; (case ht=>exact .cons (o_move rfl)<|.cons (o_indexAddr k rfl rfl rfl (idx_map hb) rfl)<|.cons (o_load_es rfl rfl)<|.cons (o_assign rfl)<|.cons (o_assign rfl)<|.nil _); (case hd=>kernel_rfl); (case hnew=>kernel_rfl))
  refine a_seq ?_
  refine a_seq ?_
  (apply a_region; (case ht=>((apply tc; (case h=>exact o_move rfl)); (apply tc; (case h=>exact o_int rfl rfl rfl)); (apply tc; (case h=>exact o_move rfl)); (apply tc; (case h=>(apply o_guardT rfl rfl; (case hS=>intro hb; exact (Strips.keep Strips.nil)); (case h=>intro hb; exact o_move rfl)))); (apply tc; (case h=>(apply o_guardT rfl rfl; (case hS=>intro hb; exact (Strips.strip rfl hb Strips.nil)); (case h=>intro hb; exact o_int rfl rfl rfl)))); (apply tc; (case h=>exact o_and rfl rfl)); exact tn)); (case hd=>kernel_rfl); (case hnew=>kernel_rfl))
  refine a_cond _ rfl (fun c2=>?_) (fun c2=>?_)
  ·have hd : decU 0 0 xs = none:=by
    simp only [Bool.and_eq_true,beq_iff_eq,decide_eq_true_eq] at c2
    rw [h5,decU,if_pos ⟨by omega,c2.2⟩]
   refine a_seq ?_
   (apply a_region; (case ht=>exact .cons (o_assign rfl)<|.cons (o_assign rfl)<|.cons (o_assign rfl)<|.nil _); (case hd=>kernel_rfl); (case hnew=>kernel_rfl))
   refine a_ret ?_
   ((refine a_post (ResV.r3 (ResOk.tmp rfl) (ResOk.tmp rfl) (ResOk.tmp rfl)) (DLe.of_eq ?_) PostOk.nil.spec) <;> (simp [uintD,hd,constDV]))
  ·have hnd : ¬ (k = 9∧1 < b):=by
    intro h
    have : ((k : Int) == 9 && decide (1 < b)) = true:=by simp [h.1,h.2]
    rw [c2] at this; cases this
   have hpow : (128 : Int) ^ k≤9223372036854775808∧(k = 9∨(128 : Int) ^ k≤72057594037927936):=by
    have : k = 0∨k = 1∨k = 2∨k = 3∨k = 4∨k = 5∨k = 6∨k = 7∨k = 8∨k = 9:=by omega
    rcases this with rfl | rfl | rfl | rfl | rfl | rfl | rfl | rfl | rfl | rfl <;> simp
   have hb0:=hby.1
   have hb1:=hby.2
   have hp0 : (0 : Int) < 128 ^ k:=Int.pow_pos (by omega)
   have hm : 0≤b % 128∧b % 128≤127:=by omega
   have hsum : acc + b % 128 * 128 ^ k < 18446744073709551616∧acc + b % 128 * 128 ^ k < 128 ^ (k + 1)∧0≤b % 128 * 128 ^ k:=by
    have e : b % 128 * 128 ^ k≤127 * 128 ^ k:=Int.mul_le_mul_of_nonneg_right hm.2 (by omega)
    have e0 : 0≤b % 128 * 128 ^ k:=Int.mul_nonneg hm.1 (by omega)
    have e2 : (128 : Int) ^ (k + 1) = 128 * 128 ^ k:=by rw [Int.pow_succ,Int.mul_comm]
    refine ⟨?_,by omega,e0⟩
    rcases hpow.2 with h9 | h9
    ·have hb9 : b≤1:=by
      rcases Int.lt_or_le 1 b with h | h
      ·exact absurd ⟨h9,h⟩ hnd
      ·exact h
     have : b % 128 = b:=by omega
     rw [this]
     have : b * 128 ^ k≤1 * 128 ^ k:=Int.mul_le_mul_of_nonneg_right hb9 (by omega)
     omega
    ·omega
   refine a_skip ?_
   refine a_seq ?_
   (apply a_region; (case ht=>((apply tc; (case h=>exact o_move rfl)); (apply tc; (case h=>exact o_move rfl)); (apply tc; (case h=>exact o_int rfl rfl rfl)); (apply tc; (case h=>exact o_conv_w rfl)); (apply tc; (case h=>exact o_move rfl)); (apply tc; (case h=>(exact o_mul rfl rfl (by simp only [InR]; omega)))); (apply tc; (case h=>exact o_shl rfl rfl (by omega))); (apply tc; (case h=>exact o_int rfl rfl rfl)); (apply tc; (case h=>exact o_assign rfl)); exact tn)); (case hd=>kernel_rfl); (case hnew=>kernel_rfl))
   have ea:=and_127 hby
   have es:=shl_7 (c:=b % 128) h2 hm.1 (by omega)
   have eo:=or_add (a:=acc) (c:=b % 128) (i:=k) h3 h4 hm.1 hsum.1
   refine a_imp (Imp.le (env' := [(7,u8s xs),(8,.int .i64 (xs.map (DV.int .u8)).length),(9,.int .i64 (k : Int)),(5,.int .i64 (k : Int)),(6,.int .u8 b),(2,.int .u64 (acc + b % 128 * 128 ^ k))]) (.cons rfl (DLe.refl _) (.cons rfl (DLe.refl _) (.cons rfl (DLe.refl _) (.cons rfl (DLe.refl _) (.cons rfl (DLe.refl _) (.cons rfl (DLe.of_eq ?_) .nil))))))) ?_
   ·rw [ea,wrap_in (k:=.u64) (n:=b % 128) (by simp only [InR]; omega),es,eo]
   refine a_seq ?_
   (apply a_region; (case ht=>exact .cons (o_move rfl)<|.cons (o_shr rfl rfl (by omega))<|.cons (o_int rfl rfl rfl)<|.nil _); (case hd=>kernel_rfl); (case hnew=>kernel_rfl))
   refine a_cond _ rfl (fun c3=>?_) (fun c3=>?_)
   ·have hlt : b < 128:=by
     rw [shr_7] at c3
     simp only [beq_iff_eq] at c3
     omega
    refine a_seq ?_
    refine a_seq ?_
    (apply a_region; (case ht=>((apply tc; (case h=>exact o_move rfl)); (apply tc; (case h=>exact o_int rfl rfl rfl)); (apply tc; (case h=>exact o_move rfl)); (apply tc; (case h=>(apply o_guardT rfl rfl; (case hS=>intro hb; exact (Strips.keep Strips.nil)); (case h=>intro hb; exact o_move rfl)))); (apply tc; (case h=>(apply o_guardT rfl rfl; (case hS=>intro hb; exact (Strips.strip rfl hb Strips.nil)); (case h=>intro hb; exact o_int rfl rfl rfl)))); (apply tc; (case h=>exact o_and rfl rfl)); exact tn)); (case hd=>kernel_rfl); (case hnew=>kernel_rfl))
    refine a_cond _ rfl (fun c4=>?_) (fun c4=>?_)
    ·have hd : decU 0 0 xs = none:=by
      simp only [Bool.and_eq_true,beq_iff_eq,decide_eq_true_eq] at c4
      rw [h5,decU,if_neg hnd,if_pos hlt,if_pos ⟨c4.1,by omega⟩]
     refine a_seq ?_
     (apply a_region; (case ht=>exact .cons (o_assign rfl)<|.cons (o_assign rfl)<|.cons (o_assign rfl)<|.nil _); (case hd=>kernel_rfl); (case hnew=>kernel_rfl))
     refine a_ret ?_
     ((refine a_post (ResV.r3 (ResOk.tmp rfl) (ResOk.tmp rfl) (ResOk.tmp rfl)) (DLe.of_eq ?_) PostOk.nil.spec) <;> (simp [uintD,hd,constDV]))
    ·have hn0 : ¬ (b = 0∧0 < k):=by
      intro h
      have : ((b == 0) && decide (0 < (k : Int))) = true:=by simp [h.1,h.2]
      rw [c4] at this; cases this
     have hd : decU 0 0 xs = some (acc + b % 128 * 128 ^ k,k + 1):=by
      rw [h5,decU,if_neg hnd,if_pos hlt,if_neg hn0]
     refine a_skip ?_
     refine a_seq ?_
     (apply a_region; (case ht=>((apply tc; (case h=>exact o_move rfl)); (apply tc; (case h=>exact o_move rfl)); (apply tc; (case h=>(exact o_add rfl rfl (by simp only [InR]; omega)))); (apply tc; (case h=>exact o_assign rfl)); (apply tc; (case h=>exact o_assign rfl)); (apply tc; (case h=>exact o_assign rfl)); exact tn)); (case hd=>kernel_rfl); (case hnew=>kernel_rfl))
     refine a_ret ?_
     ((refine a_post (ResV.r3 (ResOk.tmp rfl) (ResOk.tmp rfl) (ResOk.tmp rfl)) (DLe.of_eq ?_) PostOk.nil.spec) <;> (simp [uintD,hd,constDV]))
   ·have hge : ¬ b < 128:=by
     rw [shr_7] at c3
     intro h
     have : (b / 128 == 0) = true:=by simp only [beq_iff_eq]; omega
     rw [c3] at this; cases this
    have h9 : k < 9:=by
     rcases Nat.lt_or_ge k 9 with h | h
     ·exact h
     ·exact absurd ⟨by omega,by omega⟩ hnd
    refine a_skip ?_
    (apply a_region; (case ht=>((apply tc; (case h=>(exact o_add rfl rfl (by simp only [InR]; omega)))); (apply tc; (case h=>exact o_move rfl)); exact tn)); (case hd=>kernel_rfl); (case hnew=>kernel_rfl))
    refine QLoop.next (k + 1,acc + b % 128 * 128 ^ k) ⟨by simp only; omega,by simp only; omega,by simp only; omega,hsum.2.1,?_⟩ (by simp only; omega) (Imp.le (.cons rfl (DLe.refl _) (.cons rfl (DLe.refl _) (.cons rfl (DLe.of_eq ?_) (.cons rfl (DLe.refl _) .nil)))))
    ·rw [h5,decU,if_neg hnd,if_neg hge]
    ·simp
 ·have hd : decU 0 0 xs = none:=by
   simp only [List.length_map,decide_eq_false_iff_not] at c1
   have : k = xs.length:=by omega
   rw [h5,this,List.drop_length]; rfl
  refine a_exit ?_
  refine a_seq ?_
  (apply a_region; (case ht=>exact .cons (o_assign rfl)<|.cons (o_assign rfl)<|.cons (o_assign rfl)<|.nil _); (case hd=>kernel_rfl); (case hnew=>kernel_rfl))
  refine a_ret ?_
  ((refine a_post (ResV.r3 (ResOk.tmp rfl) (ResOk.tmp rfl) (ResOk.tmp rfl)) (DLe.of_eq ?_) PostOk.nil.spec) <;> (simp [uintD,hd,constDV]))
@[simp] theorem rdE_ren (r : Rd) (f : Nat→Nat) : (rdE r).ren f = rdE r:=rfl
structure RdOk (r : Rd) : Prop where
 byt : ∀ b∈r.xs,Byt b
 len : r.xs.length≤4611686018427387904
theorem decU_le : ∀ (xs : List Int) (i : Nat) (acc v : Int) (n : Nat),decU i acc xs = some (v,n)→i < n∧n≤i + xs.length
 | [],i,acc,v,n,h=>by simp [decU] at h
 | b :: rest,i,acc,v,n,h=>by
  unfold decU at h
  split at h
  ·cases h
  ·split at h
   ·split at h
    ·cases h
    ·injection h with h; injection h with h1 h2; simp; omega
   ·rename_i h1 h2
    obtain ⟨q1,q2⟩ := decU_le rest (i + 1) _ v n h
    exact ⟨by omega,by simp; omega⟩
theorem rUint_c (r : Rd) (m : Int) (hr : RdOk r) (hm : U64 m) : ACall Tryz.prog 104 ⟨[.ref 100000 0,.int .u64 m],[(100000,some (rdE r))],.int .u64 (r.uint m).1,[(100000,some (rdE (r.uint m).2))],[]⟩ := by
 obtain ⟨xs,err⟩ := r
 by_cases he : err = 0
 ·subst he
  have hu:=uint_c xs hr.byt hr.len
  cases hd : decU 0 0 xs with
  | none=>
   simp only [uintD,hd] at hu
   have ht:=take_c ⟨xs,0⟩ 0 6 (by simp)
   simp only [Rd.take] at ht
   refine ACall.body Tryz.func104 Tryz.ntmps104 rfl rfl rfl rfl ?_
   (refine a_seq ?_; (apply a_region; (case ht=>exact .cons (o_assign rfl)<|.nil _); (case hd=>kernel_rfl); (case hnew=>kernel_rfl)); refine a_seq ?_; refine a_seq ?_; (apply a_region; (case ht=>exact .cons (o_move rfl)<|.cons (o_callA (fun _=>100000) (open_c ⟨xs,0⟩) rfl (DLeL.refl _) (PreOk.cons rfl PreOk.nil) rfl)<|.cons (o_not rfl)<|.nil _); (case hd=>kernel_rfl); (case hnew=>kernel_rfl)); (apply a_cond _ rfl; (case ht=>intro c1; (cases c1; done)); (case hf=>intro c1; (first | (cases c1; done) | (exfalso; simp at c1; done) | (refine a_skip ?_; refine a_seq ?_; (apply a_region; (case ht=>exact .cons (o_move rfl)<|.cons (o_nilCheck rfl)<|.cons (o_fieldAddr rfl)<|.cons (o_load_s rfl rfl rfl)<|.cons (o_call hu rfl (DLeL.refl _) rfl)<|.cons (o_move rfl)<|.cons (o_extract rfl rfl)<|.cons (o_extract rfl rfl)<|.cons (o_extract rfl rfl)<|.cons (o_assign rfl)<|.cons (o_assign rfl)<|.cons (o_assign rfl)<|.nil _); (case hd=>kernel_rfl); (case hnew=>kernel_rfl)); refine a_seq ?_; refine a_seq ?_; (apply a_region; (case ht=>((apply tc; (case h=>exact o_move rfl)); (apply tc; (case h=>exact o_int rfl rfl rfl)); (apply tc; (case h=>exact o_move rfl)); (apply tc; (case h=>(apply o_guardT rfl rfl; (case hS=>intro hb; exact (Strips.keep Strips.nil)); (case h=>intro hb; exact o_move rfl)))); (apply tc; (case h=>(apply o_guardT rfl rfl; (case hS=>intro hb; exact (Strips.keep Strips.nil)); (case h=>intro hb; exact o_move rfl)))); (apply tc; (case h=>(apply o_guardT rfl rfl; (case hS=>intro hb; exact (Strips.strip rfl hb (Strips.strip rfl hb Strips.nil))); (case h=>intro hb; exact o_int rfl rfl rfl)))); (apply tc; (case h=>exact o_and rfl rfl)); exact tn)); (case hd=>kernel_rfl); (case hnew=>kernel_rfl)); (apply a_cond _ rfl; (case ht=>intro c2; (cases c2; done)); (case hf=>intro c2; (first | (cases c2; done) | (exfalso; simp at c2; done) | (refine a_skip ?_; refine a_seq ?_; refine a_seq ?_; (apply a_region; (case ht=>exact .cons (o_move rfl)<|.cons (o_move rfl)<|.cons (o_move rfl)<|.cons (o_callA (fun _=>100000) ht rfl (DLeL.refl _) (PreOk.cons rfl PreOk.nil) rfl)<|.cons (o_not rfl)<|.nil _); (case hd=>kernel_rfl); (case hnew=>kernel_rfl)); (apply a_cond _ rfl; (case ht=>intro c4; (first | (cases c4; done) | (exfalso; simp at c4; done) | (refine a_seq ?_; (apply a_region; (case ht=>exact .cons (o_assign rfl)<|.nil _); (case hd=>kernel_rfl); (case hnew=>kernel_rfl)); refine a_ret ?_; ((refine a_post (ResV.r1 (ResOk.tmp rfl)) (DLe.of_eq ?_) (PostOk.consE rfl ?_ PostOk.nil).spec) <;> ((simp [Rd.uint,hd,constDV])))))); (case hf=>intro c4; (cases c4; done))))))))))))
  | some p=>
   obtain ⟨v,n⟩ := p
   simp only [uintD,hd] at hu
   have hn:=decU_le xs 0 0 v n hd
   by_cases hv : m < v
   ·have ht:=take_c ⟨xs,0⟩ n 2 (by simp)
    simp only [Rd.take] at ht
    refine ACall.body Tryz.func104 Tryz.ntmps104 rfl rfl rfl rfl ?_
    (refine a_seq ?_; (apply a_region; (case ht=>exact .cons (o_assign rfl)<|.nil _); (case hd=>kernel_rfl); (case hnew=>kernel_rfl)); refine a_seq ?_; refine a_seq ?_; (apply a_region; (case ht=>exact .cons (o_move rfl)<|.cons (o_callA (fun _=>100000) (open_c ⟨xs,0⟩) rfl (DLeL.refl _) (PreOk.cons rfl PreOk.nil) rfl)<|.cons (o_not rfl)<|.nil _); (case hd=>kernel_rfl); (case hnew=>kernel_rfl)); (apply a_cond _ rfl; (case ht=>intro c1; (cases c1; done)); (case hf=>intro c1; (first | (cases c1; done) | (exfalso; simp [hv] at c1; done) | (refine a_skip ?_; refine a_seq ?_; (apply a_region; (case ht=>exact .cons (o_move rfl)<|.cons (o_nilCheck rfl)<|.cons (o_fieldAddr rfl)<|.cons (o_load_s rfl rfl rfl)<|.cons (o_call hu rfl (DLeL.refl _) rfl)<|.cons (o_move rfl)<|.cons (o_extract rfl rfl)<|.cons (o_extract rfl rfl)<|.cons (o_extract rfl rfl)<|.cons (o_assign rfl)<|.cons (o_assign rfl)<|.cons (o_assign rfl)<|.nil _); (case hd=>kernel_rfl); (case hnew=>kernel_rfl)); refine a_seq ?_; refine a_seq ?_; (apply a_region; (case ht=>((apply tc; (case h=>exact o_move rfl)); (apply tc; (case h=>exact o_int rfl rfl rfl)); (apply tc; (case h=>exact o_move rfl)); (apply tc; (case h=>(apply o_guardT rfl rfl; (case hS=>intro hb; exact (Strips.keep Strips.nil)); (case h=>intro hb; exact o_move rfl)))); (apply tc; (case h=>(apply o_guardT rfl rfl; (case hS=>intro hb; exact (Strips.keep Strips.nil)); (case h=>intro hb; exact o_move rfl)))); (apply tc; (case h=>(apply o_guardT rfl rfl; (case hS=>intro hb; exact (Strips.strip rfl hb (Strips.strip rfl hb Strips.nil))); (case h=>intro hb; exact o_int rfl rfl rfl)))); (apply tc; (case h=>exact o_and rfl rfl)); exact tn)); (case hd=>kernel_rfl); (case hnew=>kernel_rfl)); (apply a_cond _ rfl; (case ht=>intro c2; (first | (cases c2; done) | (exfalso; simp [hv] at c2; done) | ((apply a_region; (case ht=>exact .cons (o_assign rfl)<|.nil _); (case hd=>kernel_rfl); (case hnew=>kernel_rfl)); refine a_seq ?_; refine a_seq ?_; (apply a_region; (case ht=>exact .cons (o_move rfl)<|.cons (o_move rfl)<|.cons (o_move rfl)<|.cons (o_callA (fun _=>100000) ht rfl (DLeL.refl _) (PreOk.cons rfl PreOk.nil) rfl)<|.cons (o_not rfl)<|.nil _); (case hd=>kernel_rfl); (case hnew=>kernel_rfl)); (apply a_cond _ rfl; (case ht=>intro c3; (first | (cases c3; done) | (exfalso; simp [hv] at c3; done) | (refine a_seq ?_; (apply a_region; (case ht=>exact .cons (o_assign rfl)<|.nil _); (case hd=>kernel_rfl); (case hnew=>kernel_rfl)); refine a_ret ?_; ((refine a_post (ResV.r1 (ResOk.tmp rfl)) (DLe.of_eq ?_) (PostOk.consE rfl ?_ PostOk.nil).spec) <;> ((simp [Rd.uint,hd,hv,constDV])))))); (case hf=>intro c3; (cases c3; done)))))); (case hf=>intro c2; (first | (cases c2; done) | (exfalso; simp [hv] at c2; done)))))))))
   ·have ht:=take_c ⟨xs,0⟩ n 0 (by simp; omega)
    simp only [Rd.take] at ht
    refine ACall.body Tryz.func104 Tryz.ntmps104 rfl rfl rfl rfl ?_
    (refine a_seq ?_; (apply a_region; (case ht=>exact .cons (o_assign rfl)<|.nil _); (case hd=>kernel_rfl); (case hnew=>kernel_rfl)); refine a_seq ?_; refine a_seq ?_; (apply a_region; (case ht=>exact .cons (o_move rfl)<|.cons (o_callA (fun _=>100000) (open_c ⟨xs,0⟩) rfl (DLeL.refl _) (PreOk.cons rfl PreOk.nil) rfl)<|.cons (o_not rfl)<|.nil _); (case hd=>kernel_rfl); (case hnew=>kernel_rfl)); (apply a_cond _ rfl; (case ht=>intro c1; (cases c1; done)); (case hf=>intro c1; (first | (cases c1; done) | (exfalso; simp [hv] at c1; done) | (refine a_skip ?_; refine a_seq ?_; (apply a_region; (case ht=>exact .cons (o_move rfl)<|.cons (o_nilCheck rfl)<|.cons (o_fieldAddr rfl)<|.cons (o_load_s rfl rfl rfl)<|.cons (o_call hu rfl (DLeL.refl _) rfl)<|.cons (o_move rfl)<|.cons (o_extract rfl rfl)<|.cons (o_extract rfl rfl)<|.cons (o_extract rfl rfl)<|.cons (o_assign rfl)<|.cons (o_assign rfl)<|.cons (o_assign rfl)<|.nil _); (case hd=>kernel_rfl); (case hnew=>kernel_rfl)); refine a_seq ?_; refine a_seq ?_; (apply a_region; (case ht=>((apply tc; (case h=>exact o_move rfl)); (apply tc; (case h=>exact o_int rfl rfl rfl)); (apply tc; (case h=>exact o_move rfl)); (apply tc; (case h=>(apply o_guardT rfl rfl; (case hS=>intro hb; exact (Strips.keep Strips.nil)); (case h=>intro hb; exact o_move rfl)))); (apply tc; (case h=>(apply o_guardT rfl rfl; (case hS=>intro hb; exact (Strips.keep Strips.nil)); (case h=>intro hb; exact o_move rfl)))); (apply tc; (case h=>(apply o_guardT rfl rfl; (case hS=>intro hb; exact (Strips.strip rfl hb (Strips.strip rfl hb Strips.nil))); (case h=>intro hb; exact o_int rfl rfl rfl)))); (apply tc; (case h=>exact o_and rfl rfl)); exact tn)); (case hd=>kernel_rfl); (case hnew=>kernel_rfl)); (apply a_cond _ rfl; (case ht=>intro c2; (first | (cases c2; done) | (exfalso; simp [hv] at c2; done))); (case hf=>intro c2; (first | (cases c2; done) | (exfalso; simp [hv] at c2; done) | (refine a_skip ?_; refine a_seq ?_; refine a_seq ?_; (apply a_region; (case ht=>exact .cons (o_move rfl)<|.cons (o_move rfl)<|.cons (o_move rfl)<|.cons (o_callA (fun _=>100000) ht rfl (DLeL.refl _) (PreOk.cons rfl PreOk.nil) rfl)<|.cons (o_not rfl)<|.nil _); (case hd=>kernel_rfl); (case hnew=>kernel_rfl)); (apply a_cond _ rfl; (case ht=>intro c4; (cases c4; done)); (case hf=>intro c4; (first | (cases c4; done) | (exfalso; simp [hv] at c4; done) | (refine a_skip ?_; refine a_seq ?_; (apply a_region; (case ht=>exact .cons (o_move rfl)<|.cons (o_assign rfl)<|.nil _); (case hd=>kernel_rfl); (case hnew=>kernel_rfl)); refine a_ret ?_; ((refine a_post (ResV.r1 (ResOk.tmp rfl)) (DLe.of_eq ?_) (PostOk.consE rfl ?_ PostOk.nil).spec) <;> ((simp [Rd.uint,hd,hv,constDV]))))))))))))))))
 ·refine ACall.body Tryz.func104 Tryz.ntmps104 rfl rfl rfl rfl ?_
  (refine a_seq ?_; (apply a_region; (case ht=>exact .cons (o_assign rfl)<|.nil _); (case hd=>kernel_rfl); (case hnew=>kernel_rfl)); refine a_seq ?_; refine a_seq ?_; (apply a_region; (case ht=>exact .cons (o_move rfl)<|.cons (o_callA (fun _=>100000) (open_c ⟨xs,err⟩) rfl (DLeL.refl _) (PreOk.cons rfl PreOk.nil) rfl)<|.cons (o_not rfl)<|.nil _); (case hd=>kernel_rfl); (case hnew=>kernel_rfl)); (apply a_cond _ rfl; (case ht=>intro c1; (first | (cases c1; done) | (exfalso; simp [he] at c1; done) | (refine a_seq ?_; (apply a_region; (case ht=>exact .cons (o_assign rfl)<|.nil _); (case hd=>kernel_rfl); (case hnew=>kernel_rfl)); refine a_ret ?_; ((refine a_post (ResV.r1 (ResOk.tmp rfl)) (DLe.of_eq ?_) (PostOk.consE rfl ?_ PostOk.nil).spec) <;> ((simp [Rd.uint,he,constDV])))))); (case hf=>intro c1; (first | (cases c1; done) | (exfalso; simp [he] at c1; done)))))
theorem unzig_c (u : Int) (hu : U64 u) : PCall Tryz.prog 161 [.int .u64 u] (.int .i64 (unzig u)):=by
 have h1:=hu.1
 have h2:=hu.2
 have ea:=and_1 hu
 have es:=shr_1 u
 have eh : 0≤u / 2∧u / 2≤9223372036854775807:=by omega
 have en:=not_i64 eh
 have ew:=wrap_in (k:=.i64) (n:=u / 2) (by simp only [InR]; omega)
 refine PCall.body Tryz.func161 Tryz.ntmps161 rfl rfl rfl rfl ?_
 (refine a_seq ?_; (apply a_region; (case ht=>exact .cons (o_assign rfl)<|.nil _); (case hd=>kernel_rfl); (case hnew=>kernel_rfl)); refine a_seq ?_; refine a_seq ?_; (apply a_region; (case ht=>exact .cons (o_move rfl)<|.cons (o_int rfl rfl rfl)<|.cons (o_int rfl rfl rfl)<|.nil _); (case hd=>kernel_rfl); (case hnew=>kernel_rfl)); (apply a_cond _ rfl; (case ht=>intro c1; (first | (cases c1; done) | (refine a_seq ?_; (apply a_region; (case ht=>((apply tc; (case h=>exact o_move rfl)); (apply tc; (case h=>exact o_shr rfl rfl (by omega))); (apply tc; (case h=>(exact o_conv rfl (by simp only [InR]; omega)))); (apply tc; (case h=>exact o_xor rfl)); (apply tc; (case h=>exact o_assign rfl)); exact tn)); (case hd=>kernel_rfl); (case hnew=>kernel_rfl)); refine a_ret ?_; ((refine a_post (ResV.r1 (ResOk.tmp rfl)) (DLe.of_eq ?_) PostOk.nil.spec) <;> ((simp only [ea,beq_iff_eq,beq_eq_false_iff_ne] at c1; first | (rw [es,ew,en,unzig,if_pos c1]) | (rw [es,ew,unzig,if_neg c1]) | (rw [es,en,unzig,if_pos c1]) | (rw [es,unzig,if_neg c1]))))))); (case hf=>intro c1; (first | (cases c1; done) | (refine a_skip ?_; refine a_seq ?_; (apply a_region; (case ht=>((apply tc; (case h=>exact o_move rfl)); (apply tc; (case h=>exact o_shr rfl rfl (by omega))); (apply tc; (case h=>(exact o_conv rfl (by simp only [InR]; omega)))); (apply tc; (case h=>exact o_assign rfl)); exact tn)); (case hd=>kernel_rfl); (case hnew=>kernel_rfl)); refine a_ret ?_; ((refine a_post (ResV.r1 (ResOk.tmp rfl)) (DLe.of_eq ?_) PostOk.nil.spec) <;> ((simp only [ea,beq_iff_eq,beq_eq_false_iff_ne] at c1; first | (rw [es,ew,en,unzig,if_pos c1]) | (rw [es,ew,unzig,if_neg c1]) | (rw [es,en,unzig,if_pos c1]) | (rw [es,unzig,if_neg c1])))))))))
theorem intN_c (xs : List Int) (hx : ∀ b∈xs,Byt b) (hl : xs.length≤4611686018427387904) : PCall Tryz.prog 149 [u8s xs] (.tup [.int .i64 (unzig (uintD xs).1),.int .i64 (uintD xs).2.1,.int .i64 (uintD xs).2.2]):=by
 refine PCall.body Tryz.func149 Tryz.ntmps149 rfl rfl rfl rfl ?_
 (refine a_seq ?_; (apply a_region; (case ht=>exact .cons (o_assign rfl)<|.cons (o_assign rfl)<|.cons (o_assign rfl)<|.nil _); (case hd=>kernel_rfl); (case hnew=>kernel_rfl)); refine a_seq ?_; (apply a_region; (case ht=>exact .cons (o_move rfl)<|.cons (o_call (uint_c xs hx hl) rfl (DLeL.refl _) rfl)<|.cons (o_move rfl)<|.cons (o_extract rfl rfl)<|.cons (o_extract rfl rfl)<|.cons (o_extract rfl rfl)<|.cons (o_assign rfl)<|.cons (o_assign rfl)<|.cons (o_assign rfl)<|.nil _); (case hd=>kernel_rfl); (case hnew=>kernel_rfl)); refine a_seq ?_; (apply a_region; (case ht=>exact .cons (o_move rfl)<|.cons (o_call (unzig_c _ (uintD_u64 xs hx)) rfl (DLeL.refl _) rfl)<|.cons (o_move rfl)<|.cons (o_move rfl)<|.cons (o_assign rfl)<|.cons (o_assign rfl)<|.cons (o_assign rfl)<|.nil _); (case hd=>kernel_rfl); (case hnew=>kernel_rfl)); refine a_ret ?_; ((refine a_post (ResV.r3 (ResOk.tmp rfl) (ResOk.tmp rfl) (ResOk.tmp rfl)) (DLe.of_eq ?_) PostOk.nil.spec) <;> (rfl)))
theorem rInt_c (r : Rd) (hr : RdOk r) : ACall Tryz.prog 137 ⟨[.ref 100000 0],[(100000,some (rdE r))],.int .i64 r.int.1,[(100000,some (rdE r.int.2))],[]⟩ := by
 obtain ⟨xs,err⟩ := r
 by_cases he : err = 0
 ·subst he
  have hu:=intN_c xs hr.byt hr.len
  cases hd : decU 0 0 xs with
  | none=>
   simp only [uintD,hd] at hu
   have ht:=take_c ⟨xs,0⟩ 0 6 (by simp)
   simp only [Rd.take] at ht
   refine ACall.body Tryz.func137 Tryz.ntmps137 rfl rfl rfl rfl ?_
   (refine a_seq ?_; (apply a_region; (case ht=>exact .cons (o_assign rfl)<|.nil _); (case hd=>kernel_rfl); (case hnew=>kernel_rfl)); refine a_seq ?_; refine a_seq ?_; (apply a_region; (case ht=>exact .cons (o_move rfl)<|.cons (o_callA (fun _=>100000) (open_c ⟨xs,0⟩) rfl (DLeL.refl _) (PreOk.cons rfl PreOk.nil) rfl)<|.cons (o_not rfl)<|.nil _); (case hd=>kernel_rfl); (case hnew=>kernel_rfl)); (apply a_cond _ rfl; (case ht=>intro c1; (cases c1; done)); (case hf=>intro c1; (first | (cases c1; done) | (exfalso; simp at c1; done) | (refine a_skip ?_; refine a_seq ?_; (apply a_region; (case ht=>exact .cons (o_move rfl)<|.cons (o_nilCheck rfl)<|.cons (o_fieldAddr rfl)<|.cons (o_load_s rfl rfl rfl)<|.cons (o_call hu rfl (DLeL.refl _) rfl)<|.cons (o_move rfl)<|.cons (o_extract rfl rfl)<|.cons (o_extract rfl rfl)<|.cons (o_extract rfl rfl)<|.cons (o_assign rfl)<|.cons (o_assign rfl)<|.cons (o_assign rfl)<|.nil _); (case hd=>kernel_rfl); (case hnew=>kernel_rfl)); refine a_seq ?_; refine a_seq ?_; (apply a_region; (case ht=>exact .cons (o_move rfl)<|.cons (o_move rfl)<|.cons (o_move rfl)<|.cons (o_callA (fun _=>100000) ht rfl (DLeL.refl _) (PreOk.cons rfl PreOk.nil) rfl)<|.cons (o_not rfl)<|.nil _); (case hd=>kernel_rfl); (case hnew=>kernel_rfl)); (apply a_cond _ rfl; (case ht=>intro c2; (first | (cases c2; done) | (exfalso; simp at c2; done) | (refine a_seq ?_; (apply a_region; (case ht=>exact .cons (o_assign rfl)<|.nil _); (case hd=>kernel_rfl); (case hnew=>kernel_rfl)); refine a_ret ?_; ((refine a_post (ResV.r1 (ResOk.tmp rfl)) (DLe.of_eq ?_) (PostOk.consE rfl ?_ PostOk.nil).spec) <;> ((simp [Rd.int,hd,constDV])))))); (case hf=>intro c2; (cases c2; done))))))))
  | some p=>
   obtain ⟨v,n⟩ := p
   simp only [uintD,hd] at hu
   have hn:=decU_le xs 0 0 v n hd
   have ht:=take_c ⟨xs,0⟩ n 0 (by simp; omega)
   simp only [Rd.take] at ht
   refine ACall.body Tryz.func137 Tryz.ntmps137 rfl rfl rfl rfl ?_
   (refine a_seq ?_; (apply a_region; (case ht=>exact .cons (o_assign rfl)<|.nil _); (case hd=>kernel_rfl); (case hnew=>kernel_rfl)); refine a_seq ?_; refine a_seq ?_; (apply a_region; (case ht=>exact .cons (o_move rfl)<|.cons (o_callA (fun _=>100000) (open_c ⟨xs,0⟩) rfl (DLeL.refl _) (PreOk.cons rfl PreOk.nil) rfl)<|.cons (o_not rfl)<|.nil _); (case hd=>kernel_rfl); (case hnew=>kernel_rfl)); (apply a_cond _ rfl; (case ht=>intro c1; (cases c1; done)); (case hf=>intro c1; (first | (cases c1; done) | (exfalso; simp at c1; done) | (refine a_skip ?_; refine a_seq ?_; (apply a_region; (case ht=>exact .cons (o_move rfl)<|.cons (o_nilCheck rfl)<|.cons (o_fieldAddr rfl)<|.cons (o_load_s rfl rfl rfl)<|.cons (o_call hu rfl (DLeL.refl _) rfl)<|.cons (o_move rfl)<|.cons (o_extract rfl rfl)<|.cons (o_extract rfl rfl)<|.cons (o_extract rfl rfl)<|.cons (o_assign rfl)<|.cons (o_assign rfl)<|.cons (o_assign rfl)<|.nil _); (case hd=>kernel_rfl); (case hnew=>kernel_rfl)); refine a_seq ?_; refine a_seq ?_; (apply a_region; (case ht=>exact .cons (o_move rfl)<|.cons (o_move rfl)<|.cons (o_move rfl)<|.cons (o_callA (fun _=>100000) ht rfl (DLeL.refl _) (PreOk.cons rfl PreOk.nil) rfl)<|.cons (o_not rfl)<|.nil _); (case hd=>kernel_rfl); (case hnew=>kernel_rfl)); (apply a_cond _ rfl; (case ht=>intro c2; (cases c2; done)); (case hf=>intro c2; (first | (cases c2; done) | (exfalso; simp at c2; done) | (refine a_skip ?_; refine a_seq ?_; (apply a_region; (case ht=>exact .cons (o_move rfl)<|.cons (o_assign rfl)<|.nil _); (case hd=>kernel_rfl); (case hnew=>kernel_rfl)); refine a_ret ?_; ((refine a_post (ResV.r1 (ResOk.tmp rfl)) (DLe.of_eq ?_) (PostOk.consE rfl ?_ PostOk.nil).spec) <;> ((simp [Rd.int,hd,constDV]))))))))))))
 ·refine ACall.body Tryz.func137 Tryz.ntmps137 rfl rfl rfl rfl ?_
  (refine a_seq ?_; (apply a_region; (case ht=>exact .cons (o_assign rfl)<|.nil _); (case hd=>kernel_rfl); (case hnew=>kernel_rfl)); refine a_seq ?_; refine a_seq ?_; (apply a_region; (case ht=>exact .cons (o_move rfl)<|.cons (o_callA (fun _=>100000) (open_c ⟨xs,err⟩) rfl (DLeL.refl _) (PreOk.cons rfl PreOk.nil) rfl)<|.cons (o_not rfl)<|.nil _); (case hd=>kernel_rfl); (case hnew=>kernel_rfl)); (apply a_cond _ rfl; (case ht=>intro c1; (first | (cases c1; done) | (exfalso; simp [he] at c1; done) | (refine a_seq ?_; (apply a_region; (case ht=>exact .cons (o_assign rfl)<|.nil _); (case hd=>kernel_rfl); (case hnew=>kernel_rfl)); refine a_ret ?_; ((refine a_post (ResV.r1 (ResOk.tmp rfl)) (DLe.of_eq ?_) (PostOk.consE rfl ?_ PostOk.nil).spec) <;> ((simp [Rd.int,he,constDV])))))); (case hf=>intro c1; (first | (cases c1; done) | (exfalso; simp [he] at c1; done)))))
theorem rByte_c (r : Rd) (hr : RdOk r) : ACall Tryz.prog 103 ⟨[.ref 100000 0],[(100000,some (rdE r))],.int .u8 r.byte.1,[(100000,some (rdE r.byte.2))],[]⟩ := by
 obtain ⟨xs,err⟩ := r
 by_cases he : err = 0
 ·subst he
  cases xs with
  | nil=>
   refine ACall.body Tryz.func103 Tryz.ntmps103 rfl rfl rfl rfl ?_
   (refine a_seq ?_; (apply a_region; (case ht=>exact .cons (o_assign rfl)<|.nil _); (case hd=>kernel_rfl); (case hnew=>kernel_rfl)); refine a_seq ?_; refine a_seq ?_; (apply a_region; (case ht=>exact .cons (o_move rfl)<|.cons (o_callA (fun _=>100000) (open_c ⟨[],0⟩) rfl (DLeL.refl _) (PreOk.cons rfl PreOk.nil) rfl)<|.cons (o_not rfl)<|.nil _); (case hd=>kernel_rfl); (case hnew=>kernel_rfl)); (apply a_cond _ rfl; (case ht=>intro c1; (cases c1; done)); (case hf=>intro c1; (first | (cases c1; done) | (exfalso; simp at c1; done) | (refine a_skip ?_; refine a_seq ?_; refine a_seq ?_; (apply a_region; (case ht=>exact .cons (o_move rfl)<|.cons (o_nilCheck rfl)<|.cons (o_fieldAddr rfl)<|.cons (o_load_s rfl rfl rfl)<|.cons (o_len rfl)<|.cons (o_int rfl rfl rfl)<|.nil _); (case hd=>kernel_rfl); (case hnew=>kernel_rfl)); (apply a_cond _ rfl; (case ht=>intro c2; (first | (cases c2; done) | (exfalso; simp at c2; done) | (refine a_seq ?_; (apply a_region; (case ht=>exact .cons (o_move rfl)<|.cons (o_nilCheck rfl)<|.cons (o_fieldAddr rfl)<|.cons (o_store_s rfl rfl rfl rfl rfl)<|.nil _); (case hd=>kernel_rfl); (case hnew=>kernel_rfl)); refine a_seq ?_; (apply a_region; (case ht=>exact .cons (o_assign rfl)<|.nil _); (case hd=>kernel_rfl); (case hnew=>kernel_rfl)); refine a_ret ?_; ((refine a_post (ResV.r1 (ResOk.tmp rfl)) (DLe.of_eq ?_) (PostOk.consE rfl ?_ PostOk.nil).spec) <;> ((simp [constDV,layD,DV.cs,renL,DV.ren,HE.ren,u8s,rdE,List.set,List.take_of_length_le,Rd.byte])))))); (case hf=>intro c2; (cases c2; done))))))))
  | cons b rest=>
   have hl:=hr.len
   refine ACall.body Tryz.func103 Tryz.ntmps103 rfl rfl rfl rfl ?_
   (refine a_seq ?_; (apply a_region; (case ht=>exact .cons (o_assign rfl)<|.nil _); (case hd=>kernel_rfl); (case hnew=>kernel_rfl)); refine a_seq ?_; refine a_seq ?_; (apply a_region; (case ht=>exact .cons (o_move rfl)<|.cons (o_callA (fun _=>100000) (open_c ⟨b :: rest,0⟩) rfl (DLeL.refl _) (PreOk.cons rfl PreOk.nil) rfl)<|.cons (o_not rfl)<|.nil _); (case hd=>kernel_rfl); (case hnew=>kernel_rfl)); (apply a_cond _ rfl; (case ht=>intro c1; (cases c1; done)); (case hf=>intro c1; (first | (cases c1; done) | (exfalso; simp at c1; omega; done) | (refine a_skip ?_; refine a_seq ?_; refine a_seq ?_; (apply a_region; (case ht=>exact .cons (o_move rfl)<|.cons (o_nilCheck rfl)<|.cons (o_fieldAddr rfl)<|.cons (o_load_s rfl rfl rfl)<|.cons (o_len rfl)<|.cons (o_int rfl rfl rfl)<|.nil _); (case hd=>kernel_rfl); (case hnew=>kernel_rfl)); (apply a_cond _ rfl; (case ht=>intro c2; (cases c2; done)); (case hf=>intro c2; (first | (cases c2; done) | (exfalso; simp at c2; omega; done) | (refine a_skip ?_; refine a_seq ?_; (apply a_region; (case ht=>exact .cons (o_move rfl)<|.cons (o_nilCheck rfl)<|.cons (o_fieldAddr rfl)<|.cons (o_load_s rfl rfl rfl)<|.cons (o_indexAddr 0 rfl rfl rfl rfl rfl)<|.cons (o_load_es rfl rfl)<|.cons (o_assign rfl)<|.nil _); (case hd=>kernel_rfl); (case hnew=>kernel_rfl)); refine a_seq ?_; (apply a_region; (case ht=>exact .cons (o_move rfl)<|.cons (o_move rfl)<|.cons (o_nilCheck rfl)<|.cons (o_fieldAddr rfl)<|.cons (o_load_s rfl rfl rfl)<|.cons (o_slice 1 _ rfl (Bd.at rfl rfl) Bd.no (by simp) (by simp))<|.cons (o_nilCheck rfl)<|.cons (o_fieldAddr rfl)<|.cons (o_store_s rfl rfl rfl rfl rfl)<|.nil _); (case hd=>kernel_rfl); (case hnew=>kernel_rfl)); refine a_seq ?_; (apply a_region; (case ht=>exact .cons (o_move rfl)<|.cons (o_assign rfl)<|.nil _); (case hd=>kernel_rfl); (case hnew=>kernel_rfl)); refine a_ret ?_; ((refine a_post (ResV.r1 (ResOk.tmp rfl)) (DLe.of_eq ?_) (PostOk.consE rfl ?_ PostOk.nil).spec) <;> ((simp [constDV,layD,DV.cs,renL,DV.ren,HE.ren,u8s,rdE,List.set,List.take_of_length_le,Rd.byte]))))))))))))
 ·refine ACall.body Tryz.func103 Tryz.ntmps103 rfl rfl rfl rfl ?_
  (refine a_seq ?_; (apply a_region; (case ht=>exact .cons (o_assign rfl)<|.nil _); (case hd=>kernel_rfl); (case hnew=>kernel_rfl)); refine a_seq ?_; refine a_seq ?_; (apply a_region; (case ht=>exact .cons (o_move rfl)<|.cons (o_callA (fun _=>100000) (open_c ⟨xs,err⟩) rfl (DLeL.refl _) (PreOk.cons rfl PreOk.nil) rfl)<|.cons (o_not rfl)<|.nil _); (case hd=>kernel_rfl); (case hnew=>kernel_rfl)); (apply a_cond _ rfl; (case ht=>intro c1; (first | (cases c1; done) | (exfalso; simp [he] at c1; done) | (refine a_seq ?_; (apply a_region; (case ht=>exact .cons (o_assign rfl)<|.nil _); (case hd=>kernel_rfl); (case hnew=>kernel_rfl)); refine a_ret ?_; ((refine a_post (ResV.r1 (ResOk.tmp rfl)) (DLe.of_eq ?_) (PostOk.consE rfl ?_ PostOk.nil).spec) <;> ((simp [Rd.byte,he,constDV])))))); (case hf=>intro c1; (first | (cases c1; done) | (exfalso; simp [he] at c1; done)))))
theorem rErr_c (r : Rd) : ACall Tryz.prog 105 ⟨[.ref 100000 0],[(100000,some (rdE r))],.int .i64 r.err,[(100000,some (rdE r))],[]⟩ := by
 refine ACall.body Tryz.func105 Tryz.ntmps105 rfl rfl rfl rfl ?_
 (refine a_seq ?_; (apply a_region; (case ht=>exact .cons (o_assign rfl)<|.nil _); (case hd=>kernel_rfl); (case hnew=>kernel_rfl)); refine a_seq ?_; refine a_seq ?_; (apply a_region; (case ht=>exact .cons (o_move rfl)<|.cons (o_ptr_eq rfl)<|.nil _); (case hd=>kernel_rfl); (case hnew=>kernel_rfl)); (apply a_cond _ rfl; (case ht=>intro c1; (cases c1; done)); (case hf=>intro c1; (first | (cases c1; done) | (refine a_skip ?_; refine a_seq ?_; (apply a_region; (case ht=>exact .cons (o_move rfl)<|.cons (o_nilCheck rfl)<|.cons (o_fieldAddr rfl)<|.cons (o_load_s rfl rfl rfl)<|.cons (o_assign rfl)<|.nil _); (case hd=>kernel_rfl); (case hnew=>kernel_rfl)); refine a_ret ?_; ((refine a_post (ResV.r1 (ResOk.tmp rfl)) (DLe.of_eq ?_) (PostOk.consE rfl ?_ PostOk.nil).spec) <;> (rfl)))))))
theorem rLeft_c (r : Rd) : ACall Tryz.prog 106 ⟨[.ref 100000 0],[(100000,some (rdE r))],.int .i64 r.xs.length,[(100000,some (rdE r))],[]⟩ := by
 refine ACall.body Tryz.func106 Tryz.ntmps106 rfl rfl rfl rfl ?_
 (refine a_seq ?_; (apply a_region; (case ht=>exact .cons (o_assign rfl)<|.nil _); (case hd=>kernel_rfl); (case hnew=>kernel_rfl)); refine a_seq ?_; refine a_seq ?_; (apply a_region; (case ht=>exact .cons (o_move rfl)<|.cons (o_ptr_eq rfl)<|.nil _); (case hd=>kernel_rfl); (case hnew=>kernel_rfl)); (apply a_cond _ rfl; (case ht=>intro c1; (cases c1; done)); (case hf=>intro c1; (first | (cases c1; done) | (refine a_skip ?_; refine a_seq ?_; (apply a_region; (case ht=>exact .cons (o_move rfl)<|.cons (o_nilCheck rfl)<|.cons (o_fieldAddr rfl)<|.cons (o_load_s rfl rfl rfl)<|.cons (o_len rfl)<|.cons (o_assign rfl)<|.nil _); (case hd=>kernel_rfl); (case hnew=>kernel_rfl)); refine a_ret ?_; ((refine a_post (ResV.r1 (ResOk.tmp rfl)) (DLe.of_eq ?_) (PostOk.consE rfl ?_ PostOk.nil).spec) <;> ((first | rfl | simp))))))))
theorem rEnd_c (r : Rd) : ACall Tryz.prog 109 ⟨[.ref 100000 0],[(100000,some (rdE r))],.int .i64 r.fin,[(100000,some (rdE r))],[]⟩ := by
 obtain ⟨xs,err⟩ := r
 by_cases he : err = 0
 ·subst he
  cases xs with
  | nil=>
   refine ACall.body Tryz.func109 Tryz.ntmps109 rfl rfl rfl rfl ?_
   (refine a_seq ?_; (apply a_region; (case ht=>exact .cons (o_assign rfl)<|.nil _); (case hd=>kernel_rfl); (case hnew=>kernel_rfl)); refine a_seq ?_; refine a_seq ?_; (apply a_region; (case ht=>exact .cons (o_move rfl)<|.cons (o_callA (fun _=>100000) (rErr_c ⟨[],0⟩) rfl (DLeL.refl _) (PreOk.cons rfl PreOk.nil) rfl)<|.cons (o_assign rfl)<|.nil _); (case hd=>kernel_rfl); (case hnew=>kernel_rfl)); refine a_seq ?_; (apply a_region; (case ht=>((apply tc; (case h=>exact o_move rfl)); (apply tc; (case h=>exact o_int rfl rfl rfl)); (apply tc; (case h=>exact o_move rfl)); (apply tc; (case h=>(apply o_guardF rfl rfl; (case hS=>intro hb; exact (Strips.keep Strips.nil)); (case h=>intro hb; exact o_move rfl)))); (apply tc; (case h=>(apply o_guardF rfl rfl; (case hS=>intro hb; exact (Strips.strip rfl (nt hb) Strips.nil)); (case h=>intro hb; exact o_nilCheck rfl)))); (apply tc; (case h=>(apply o_guardF rfl rfl; (case hS=>intro hb; exact (Strips.strip rfl (nt hb) Strips.nil)); (case h=>intro hb; exact o_fieldAddr rfl)))); (apply tc; (case h=>(apply o_guardF rfl rfl; (case hS=>intro hb; exact (Strips.strip rfl (nt hb) Strips.nil)); (case h=>intro hb; exact o_load_s rfl rfl rfl)))); (apply tc; (case h=>(apply o_guardF rfl rfl; (case hS=>intro hb; exact (Strips.strip rfl (nt hb) Strips.nil)); (case h=>intro hb; exact o_len rfl)))); (apply tc; (case h=>(apply o_guardF rfl rfl; (case hS=>intro hb; exact (Strips.strip rfl (nt hb) Strips.nil)); (case h=>intro hb; exact o_int rfl rfl rfl)))); (apply tc; (case h=>exact o_or rfl rfl)); exact tn)); (case hd=>kernel_rfl); (case hnew=>kernel_rfl)); (apply a_cond _ rfl; (case ht=>intro c1; (first | (cases c1; done) | (exfalso; simp at c1; done) | (refine a_seq ?_; (apply a_region; (case ht=>exact .cons (o_move rfl)<|.cons (o_assign rfl)<|.nil _); (case hd=>kernel_rfl); (case hnew=>kernel_rfl)); refine a_ret ?_; ((refine a_post (ResV.r1 (ResOk.tmp rfl)) (DLe.of_eq ?_) (PostOk.consE rfl ?_ PostOk.nil).spec) <;> ((simp [constDV,layD,DV.cs,renL,DV.ren,HE.ren,u8s,rdE,List.set,List.take_of_length_le,Rd.fin])))))); (case hf=>intro c1; (cases c1; done))))
  | cons b rest=>
   refine ACall.body Tryz.func109 Tryz.ntmps109 rfl rfl rfl rfl ?_
   (refine a_seq ?_; (apply a_region; (case ht=>exact .cons (o_assign rfl)<|.nil _); (case hd=>kernel_rfl); (case hnew=>kernel_rfl)); refine a_seq ?_; refine a_seq ?_; (apply a_region; (case ht=>exact .cons (o_move rfl)<|.cons (o_callA (fun _=>100000) (rErr_c ⟨b :: rest,0⟩) rfl (DLeL.refl _) (PreOk.cons rfl PreOk.nil) rfl)<|.cons (o_assign rfl)<|.nil _); (case hd=>kernel_rfl); (case hnew=>kernel_rfl)); refine a_seq ?_; (apply a_region; (case ht=>((apply tc; (case h=>exact o_move rfl)); (apply tc; (case h=>exact o_int rfl rfl rfl)); (apply tc; (case h=>exact o_move rfl)); (apply tc; (case h=>(apply o_guardF rfl rfl; (case hS=>intro hb; exact (Strips.keep Strips.nil)); (case h=>intro hb; exact o_move rfl)))); (apply tc; (case h=>(apply o_guardF rfl rfl; (case hS=>intro hb; exact (Strips.strip rfl (nt hb) Strips.nil)); (case h=>intro hb; exact o_nilCheck rfl)))); (apply tc; (case h=>(apply o_guardF rfl rfl; (case hS=>intro hb; exact (Strips.strip rfl (nt hb) Strips.nil)); (case h=>intro hb; exact o_fieldAddr rfl)))); (apply tc; (case h=>(apply o_guardF rfl rfl; (case hS=>intro hb; exact (Strips.strip rfl (nt hb) Strips.nil)); (case h=>intro hb; exact o_load_s rfl rfl rfl)))); (apply tc; (case h=>(apply o_guardF rfl rfl; (case hS=>intro hb; exact (Strips.strip rfl (nt hb) Strips.nil)); (case h=>intro hb; exact o_len rfl)))); (apply tc; (case h=>(apply o_guardF rfl rfl; (case hS=>intro hb; exact (Strips.strip rfl (nt hb) Strips.nil)); (case h=>intro hb; exact o_int rfl rfl rfl)))); (apply tc; (case h=>exact o_or rfl rfl)); exact tn)); (case hd=>kernel_rfl); (case hnew=>kernel_rfl)); (apply a_cond _ rfl; (case ht=>intro c1; (cases c1; done)); (case hf=>intro c1; (first | (cases c1; done) | (exfalso; simp at c1; omega; done) | (refine a_skip ?_; refine a_seq ?_; (apply a_region; (case ht=>exact .cons (o_assign rfl)<|.nil _); (case hd=>kernel_rfl); (case hnew=>kernel_rfl)); refine a_ret ?_; ((refine a_post (ResV.r1 (ResOk.tmp rfl)) (DLe.of_eq ?_) (PostOk.consE rfl ?_ PostOk.nil).spec) <;> ((simp [constDV,layD,DV.cs,renL,DV.ren,HE.ren,u8s,rdE,List.set,List.take_of_length_le,Rd.fin]))))))))
 ·refine ACall.body Tryz.func109 Tryz.ntmps109 rfl rfl rfl rfl ?_
  (refine a_seq ?_; (apply a_region; (case ht=>exact .cons (o_assign rfl)<|.nil _); (case hd=>kernel_rfl); (case hnew=>kernel_rfl)); refine a_seq ?_; refine a_seq ?_; (apply a_region; (case ht=>exact .cons (o_move rfl)<|.cons (o_callA (fun _=>100000) (rErr_c ⟨xs,err⟩) rfl (DLeL.refl _) (PreOk.cons rfl PreOk.nil) rfl)<|.cons (o_assign rfl)<|.nil _); (case hd=>kernel_rfl); (case hnew=>kernel_rfl)); refine a_seq ?_; (apply a_region; (case ht=>((apply tc; (case h=>exact o_move rfl)); (apply tc; (case h=>exact o_int rfl rfl rfl)); (apply tc; (case h=>exact o_move rfl)); (apply tc; (case h=>(apply o_guardF rfl rfl; (case hS=>intro hb; exact (Strips.keep Strips.nil)); (case h=>intro hb; exact o_move rfl)))); (apply tc; (case h=>(apply o_guardF rfl rfl; (case hS=>intro hb; exact (Strips.strip rfl (nt hb) Strips.nil)); (case h=>intro hb; exact o_nilCheck rfl)))); (apply tc; (case h=>(apply o_guardF rfl rfl; (case hS=>intro hb; exact (Strips.strip rfl (nt hb) Strips.nil)); (case h=>intro hb; exact o_fieldAddr rfl)))); (apply tc; (case h=>(apply o_guardF rfl rfl; (case hS=>intro hb; exact (Strips.strip rfl (nt hb) Strips.nil)); (case h=>intro hb; exact o_load_s rfl rfl rfl)))); (apply tc; (case h=>(apply o_guardF rfl rfl; (case hS=>intro hb; exact (Strips.strip rfl (nt hb) Strips.nil)); (case h=>intro hb; exact o_len rfl)))); (apply tc; (case h=>(apply o_guardF rfl rfl; (case hS=>intro hb; exact (Strips.strip rfl (nt hb) Strips.nil)); (case h=>intro hb; exact o_int rfl rfl rfl)))); (apply tc; (case h=>exact o_or rfl rfl)); exact tn)); (case hd=>kernel_rfl); (case hnew=>kernel_rfl)); (apply a_cond _ rfl; (case ht=>intro c1; (first | (cases c1; done) | (exfalso; simp [he] at c1; done) | (refine a_seq ?_; (apply a_region; (case ht=>exact .cons (o_move rfl)<|.cons (o_assign rfl)<|.nil _); (case hd=>kernel_rfl); (case hnew=>kernel_rfl)); refine a_ret ?_; ((refine a_post (ResV.r1 (ResOk.tmp rfl)) (DLe.of_eq ?_) (PostOk.consE rfl ?_ PostOk.nil).spec) <;> ((simp [constDV,layD,DV.cs,renL,DV.ren,HE.ren,u8s,rdE,List.set,List.take_of_length_le,Rd.fin,he])))))); (case hf=>intro c1; (first | (cases c1; done) | (exfalso; simp [he] at c1; done)))))
theorem newReader_c (xs : List Int) (hl : xs.length≤140737488355328) : ACall Tryz.prog 102 ⟨[u8s xs],[],.ref 7 0,[(7,some (rdE ⟨xs,0⟩))],[7]⟩ := by
 refine ACall.body Tryz.func102 Tryz.ntmps102 rfl rfl rfl rfl ?_
 refine a_seq ?_
 (apply a_region; (case ht=>exact .cons (o_assign rfl)<|.nil _); (case hd=>kernel_rfl); (case hnew=>kernel_rfl))
 refine a_seq ?_
 (apply a_region; (case ht=>((apply tc; (case h=>exact o_buildSlice rfl rfl rfl rfl rfl rfl)); (apply tc; (case h=>exact o_move rfl)); (apply tc; (case h=>(exact o_frz (o_append rfl rfl rfl Src.sl (by simp; omega))))); (apply tc; (case h=>exact o_build rfl rfl rfl)); (apply tc; (case h=>exact o_box rfl rfl)); (apply tc; (case h=>exact o_assign rfl)); exact tn)); (case hd=>kernel_rfl); (case hnew=>kernel_rfl))
 refine a_ret ?_
 ((refine a_post (ResV.r1 (ResOk.tmp rfl)) (DLe.of_eq ?_) (PostOk.consE rfl ?_ PostOk.nil).spec) <;> (first | rfl | simp [constDV,layD,DV.cs,renL,DV.ren,HE.ren,u8s,rdE,List.set,List.take_of_length_le]))
theorem o_dead {P : Program} {ops : Array Oper} {σ : AS} {t : Nat} {op : Op} {ty : TypeId} {pos : String} {af : Array Edge} {g : Option (Nat × Bool)} (h : False) : OpG P ops ⟨some t,op,ty,pos,af,g⟩ [] [] σ ⟨[(t,.nils)],[],[]⟩ := h.elim
theorem o_deadB {P : Program} {ops : Array Oper} {σ : AS} {t : Nat} {op : BinOp} {T T' : TypeId} {x y : Operand} {ty : TypeId} {pos : String} {af : Array Edge} {g : Option (Nat × Bool)} (h : False) : OpG P ops ⟨some t,.binOp op T x y T',ty,pos,af,g⟩ [] [] σ ⟨[(t,.bool false)],[],[]⟩ := h.elim
def FSat (F : FMap) (w : World) : Prop := ∀ b cs,F b = some cs→∃ t fz,w.heap[b]? = some (.cells cs t fz)
theorem PCall.ofExt {P : Program} {f : FuncId} {args : List DV} {r : DV} (h : ∀ F w vs,FSat F w→RsT F Gam.no args vs→Calls P f vs.toArray w (fun e w'=>∃ v,e = .returned v∧Ext w w'∧Rs F Gam.no r v)) : PCall P f args r:=by
 intro C F γ heap used w vs H hv
 refine (h F w vs H.fs hv).mono ?_
 rintro e w' ⟨v,rfl,hx,hr⟩
 have b:=hx.below
 exact ⟨v,F,rfl,FLe.refl _,H.quiet ⟨b.os,b.tape,b.output,b.size,fun k hk _=>b.block k hk⟩,hr⟩
theorem PCall.ofInts {P : Program} {f : FuncId} {args : List DV} {E : TypeId} {k : IntKind} {xs : List Int} (h : ∀ F w vs,FSat F w→RsT F Gam.no args vs→Calls P f vs.toArray w (RetInts E k w.heap.size xs w)) : PCall P f args (.sl 1 (xs.map (.int k))):=by
 intro C F γ heap used w vs H hv
 refine (h F w vs H.fs hv).mono ?_
 rintro e w' ⟨A,c,rfl,ho,b⟩
 have W:=H.quiet (w' := w') ⟨b.os,b.tape,b.output,b.size,fun k hk _=>b.block k hk⟩
 have hE : ∀ (F : FMap) (l : List Int),RsE F 1 (l.map (DV.int k)) (l.map (Value.int k)):=by
  intro F l
  induction l with
  | nil=>simp [RsE]
  | cons x l ih=>
   simp only [List.map_cons,RsE]
   exact ⟨.int k x,l.map (Value.int k),by simp [Value.cells],rfl,by simp [Value.cells,Value.oneCell'],by simp only [Rs],ih⟩
 rcases ho.2 with ⟨hA,h0⟩ | ⟨g,cap,cur,hA,hg,hh,r1,r2,r3,r4⟩
 ·have hx : xs = []:=List.eq_nil_of_length_eq_zero h0
  subst hx
  refine ⟨_,F,rfl,FLe.refl _,W,?_⟩
  rw [hA]
  simp only [Rs]
  exact ⟨none,0,rfl,⟨fun _=>⟨rfl,rfl⟩,Nat.le_refl _,by decide⟩,fun h=>absurd rfl h⟩
 ·have hF : F g = none:=by
   cases hf : F g with
   | none=>rfl
   | some cs=>have:=H.flt hf; omega
  refine ⟨_,F.up g cur,rfl,FMap.up_le _ hF,W.data hh hF (.inr (Nat.le_trans H.size hg)) (fun id e g' hi hg' hb=>?_),?_⟩
  ·obtain ⟨g1,q1,q2⟩ := H.ent id e hi
   rw [hg'] at q1; injection q1 with q1; subst q1
   have:=q2.lt _ hb; omega
  ·rw [hA]
   simp only [Rs,List.length_map]
   refine ⟨some ⟨g,0,none⟩,cap,rfl,⟨(fun h=>by cases h),r1,by unfold maxLen at r2; exact r2⟩,fun _=>⟨g,0,cur,xs.map (Value.int k),cur.toList.drop (xs.length * 1),rfl,by simp [FMap.up],?_,hE _ xs⟩⟩
   rw [List.drop_zero,← r4,List.take_append_drop]
theorem RsL_ints {F : FMap} {γ : Gam} {α : Type} (k : IntKind) (c : α→Int) : ∀ {l : List α} {vs : List Value},RsL F γ (l.map fun i=>.int k (c i)) vs→vs = l.map fun i=>.int k (c i)
 | [],vs,h=>by simp only [List.map_nil,RsL] at h; rw [h]; rfl
 | x :: l,vs,h=>by
  simp only [List.map_cons,RsL] at h
  obtain ⟨v,rest,rfl,_,h1,h2⟩ := h
  simp only [Rs] at h1
  rw [h1,RsL_ints k c h2]; rfl
theorem RsE_ints {F : FMap} (k : IntKind) : ∀ {l : List Int} {vs : List Value},RsE F 1 (l.map (DV.int k)) vs→vs = l.map (Value.int k)
 | [],vs,h=>by simp only [List.map_nil,RsE] at h; rw [h]; rfl
 | x :: l,vs,h=>by
  simp only [List.map_cons,RsE] at h
  obtain ⟨v,rest,rfl,_,_,h1,h2⟩ := h
  simp only [Rs] at h1
  rw [h1,RsE_ints k h2]; rfl
theorem sl_ints {F : FMap} {γ : Gam} {k : IntKind} {xs : List Int} {v : Value} {w : World} (hF : FSat F w) (h : Rs F γ (.sl 1 (xs.map (.int k))) v) : ∃ A c,v = .slice A xs.length c∧SlOk A xs.length c∧At w A (xs.map (Value.int k)):=by
 simp only [Rs,List.length_map] at h
 obtain ⟨A,c,e,hok,hd⟩ := h
 refine ⟨A,c,e,hok,At.mk fun hne=>?_⟩
 have hne' : xs.map (DV.int k)≠[]:=by intro h; apply hne; simpa using h
 obtain ⟨b,o,cs,vs,rest,rfl,h1,h2,h3⟩ := hd hne'
 obtain ⟨t,fz,h4⟩ := hF b cs h1
 refine ⟨b,o,rfl,fun j v hv=>?_⟩
 rw [← RsE_ints k h3] at hv
 have:=blk_range h4 o
 rw [h2] at this
 exact this j v (by rw [List.getElem?_append_left]; exact hv; exact (List.getElem?_eq_some_iff.1 hv).1)
def clkD (c : Nat→Int) : List DV:=(List.range 16).map fun i=>.int .u64 (c i)
theorem clk_of {F : FMap} {γ : Gam} {c : Nat→Int} {v : Value} (h : Rs F γ (.agg (clkD c)) v) : v = .agg (clkA c):=by
 simp only [Rs] at h
 obtain ⟨cs,rfl,h⟩ := h
 have:=RsL_ints .u64 c h
 congr 1
 apply Array.toList_inj.1
 rw [this,clkA_list]
theorem length_c (c : Nat→Int) : PCall Tryz.prog 98 [.agg (clkD c)] (.int .i64 (clen c)):=PCall.ofExt fun F w vs hF hv=>by
 simp only [RsT] at hv
 obtain ⟨v,rest,rfl,h1,rfl⟩ := hv
 rw [clk_of h1]
 exact (length_any c w).mono fun e w' ⟨he,hx⟩=>⟨_,he,hx,by simp only [Rs]⟩
theorem clkD_set (l : List Int) (v : Int) (h : l.length < 16) : (clkD (clkOf l)).set (0 + l.length * 1) (.int .u64 v) = clkD (clkOf (l++[v])):=by
 apply List.ext_getElem?
 intro i
 rw [Nat.zero_add,Nat.mul_one,List.getElem?_set]
 simp only [clkD,List.getElem?_map,List.length_map,List.length_range]
 by_cases hi : l.length = i
 ·subst hi
  simp [h,clkOf]
 ·simp only [hi,if_false]
  by_cases h16 : i < 16
  ·have : (clkOf (l++[v])) i = clkOf l i:=by
    unfold clkOf
    rcases Nat.lt_or_ge i l.length with hlt | hge
    ·simp [List.getD,List.getElem?_append_left hlt]
    ·rw [List.getD_eq_getElem?_getD,List.getD_eq_getElem?_getD,List.getElem?_eq_none (by simp; omega),List.getElem?_eq_none hge]
   simp [h16,this]
  ·simp [h16]
def ents : Nat→List Int→Option (List Int × Nat)
 | 0,_=>some ([],0)
 | n + 1,xs=>match decU 0 0 xs with
  | none=>none
  | some (v,m)=>match ents n (xs.drop m) with
   | none=>none
   | some (l,t)=>some (v :: l,m + t)
def clkR (xs : List Int) : Option ((Nat→Int) × Nat):=match xs with
 | []=>none
 | b :: rest=>if 16 < b then none else match ents b.toNat rest with
  | none=>none
  | some (l,t)=>if clen (clkOf l) = b.toNat then some (clkOf l,1 + t) else none
def clkRD (xs : List Int) : DV:=match clkR xs with
 | none=>.tup [.agg (clkD clk0),.int .i64 0,.int .i64 6]
 | some (c,n)=>.tup [.agg (clkD c),.int .i64 n,.int .i64 0]
theorem clkRD_ids (xs : List Int) : (clkRD xs).ids = []:=by
 unfold clkRD
 split <;> rfl
set_option maxHeartbeats 1000000
theorem byt_drop {xs : List Int} (h : ∀ b∈xs,Byt b) (n : Nat) : ∀ b∈xs.drop n,Byt b:=fun b hb=>h b (List.mem_of_mem_drop hb)
theorem ents_none {b : Int} {rest : List Int} (h16 : ¬ 16 < b) (h : ents b.toNat rest = none) : clkR (b :: rest) = none:=by simp [clkR,h16,h]
theorem u8s_dropB (xs : List Int) (n : Nat) : (DV.sl 1 (((xs.map (DV.int IntKind.u8)).take (xs.map (DV.int IntKind.u8)).length).drop n)) = u8s (xs.drop n):=u8s_drop xs n
theorem clkRead_c (xs : List Int) (hx : ∀ b∈xs,Byt b) (hl : xs.length≤4611686018427387904) : PCall Tryz.prog 107 [u8s xs] (clkRD xs):=by
 cases xs with
 | nil=>
  refine PCall.body Tryz.func107 Tryz.ntmps107 rfl rfl rfl (clkRD_ids _) ?_
  refine a_seq ?_
  (apply a_region; (case ht=>exact .cons (o_alloc rfl)<|.cons (o_assign rfl)<|.cons (o_assign rfl)<|.nil _); (case hd=>kernel_rfl); (case hnew=>kernel_rfl))
  refine a_seq ?_
  refine a_seq ?_
  (apply a_region; (case ht=>((apply tc; (case h=>exact o_move rfl)); (apply tc; (case h=>exact o_len rfl)); (apply tc; (case h=>exact o_int rfl rfl rfl)); (apply tc; (case h=>exact o_move rfl)); (apply tc; (case h=>(apply o_guardF rfl rfl; (case hS=>intro hb; exact (Strips.keep Strips.nil)); (case h=>intro hb; exact o_move rfl)))); (apply tc; (case h=>(apply o_guardF rfl rfl; (case hS=>intro hb; exact (Strips.strip rfl (nt hb) Strips.nil)); (case h=>intro hb; exact o_dead (by simp at hb))))); (apply tc; (case h=>(apply o_guardF rfl rfl; (case hS=>intro hb; exact (Strips.strip rfl (nt hb) Strips.nil)); (case h=>intro hb; exact o_dead (by simp at hb))))); (apply tc; (case h=>(apply o_guardF rfl rfl; (case hS=>intro hb; exact (Strips.strip rfl (nt hb) Strips.nil)); (case h=>intro hb; exact o_deadB (by simp at hb))))); (apply tc; (case h=>exact o_or rfl rfl)); exact tn)); (case hd=>kernel_rfl); (case hnew=>kernel_rfl))
  refine a_cond _ rfl (fun c1=>?_) (fun c1=>?_)
  ·refine a_seq ?_
   (apply a_region; (case ht=>exact .cons (o_build rfl rfl rfl)<|.cons (o_store rfl rfl rfl rfl rfl rfl rfl)<|.cons (o_assign rfl)<|.cons (o_assign rfl)<|.nil _); (case hd=>kernel_rfl); (case hnew=>kernel_rfl))
   refine a_ret ?_
   ((refine a_post (ResV.r3 (ResOk.cell rfl rfl (.row _ CRow.h (Nat.le_of_ble_eq_true rfl) rfl)) (ResOk.tmp rfl) (ResOk.tmp rfl)) (DLe.of_eq ?_) PostOk.nil.spec) <;> (rfl))
  ·simp at c1
 | cons b rest=>
  have hb:=hx b (by simp)
  have hb0:=hb.1
  have hb1:=hb.2
  have hrl : rest.length < 4611686018427387904:=by simp at hl; omega
  have hlen : (List.map (DV.int IntKind.u8) (b :: rest)).length = rest.length + 1:=by simp
  refine PCall.body Tryz.func107 Tryz.ntmps107 rfl rfl rfl (clkRD_ids _) ?_
  refine a_seq ?_
  (apply a_region; (case ht=>exact .cons (o_alloc rfl)<|.cons (o_assign rfl)<|.cons (o_assign rfl)<|.nil _); (case hd=>kernel_rfl); (case hnew=>kernel_rfl))
  refine a_seq ?_
  refine a_seq ?_
  (apply a_region; (case ht=>((apply tc; (case h=>exact o_move rfl)); (apply tc; (case h=>exact o_len rfl)); (apply tc; (case h=>exact o_int rfl rfl rfl)); (apply tc; (case h=>exact o_move rfl)); (apply tc; (case h=>(apply o_guardF rfl rfl; (case hS=>intro hb; exact (Strips.keep Strips.nil)); (case h=>intro hb; exact o_move rfl)))); (apply tc; (case h=>(apply o_guardF rfl rfl; (case hS=>intro hb; exact (Strips.strip rfl (nt hb) Strips.nil)); (case h=>intro hb; exact o_indexAddr 0 rfl rfl rfl rfl rfl)))); (apply tc; (case h=>(apply o_guardF rfl rfl; (case hS=>intro hb; exact (Strips.strip rfl (nt hb) Strips.nil)); (case h=>intro hb; exact o_load_es rfl rfl)))); (apply tc; (case h=>(apply o_guardF rfl rfl; (case hS=>intro hb; exact (Strips.strip rfl (nt hb) Strips.nil)); (case h=>intro hb; exact o_int rfl rfl rfl)))); (apply tc; (case h=>exact o_or rfl rfl)); exact tn)); (case hd=>kernel_rfl); (case hnew=>kernel_rfl))
  refine a_cond _ rfl (fun c1=>?_) (fun c1=>?_)
  ·have h16 : 16 < b:=by
    have hne : (((List.map (DV.int IntKind.u8) (b :: rest)).length : Int) == 0) = false:=by rw [hlen]; simp; omega
    rw [hne] at c1
    simpa using c1
   refine a_seq ?_
   (apply a_region; (case ht=>exact .cons (o_build rfl rfl rfl)<|.cons (o_store rfl rfl rfl rfl rfl rfl rfl)<|.cons (o_assign rfl)<|.cons (o_assign rfl)<|.nil _); (case hd=>kernel_rfl); (case hnew=>kernel_rfl))
   refine a_ret ?_
   ((refine a_post (ResV.r3 (ResOk.cell rfl rfl (.row _ CRow.h (Nat.le_of_ble_eq_true rfl) rfl)) (ResOk.tmp rfl) (ResOk.tmp rfl)) (DLe.of_eq ?_) PostOk.nil.spec) <;> ((simp [clkRD,clkR,h16,constDV]; rfl)))
  ·have h16 : ¬ 16 < b:=by
    simp only [Bool.or_eq_false_iff,decide_eq_false_iff_not] at c1
    exact c1.2
   refine a_skip ?_
   refine a_seq ?_
   (apply a_region; (case ht=>exact .cons (o_alloc rfl)<|.nil _); (case hd=>kernel_rfl); (case hnew=>kernel_rfl))
   refine a_seq ?_
   (apply a_region; (case ht=>((apply tc; (case h=>exact o_move rfl)); (apply tc; (case h=>exact o_indexAddr 0 rfl rfl rfl rfl rfl)); (apply tc; (case h=>exact o_load_es rfl rfl)); (apply tc; (case h=>(exact o_conv rfl (by simp only [InR]; omega)))); (apply tc; (case h=>exact o_assign rfl)); (apply tc; (case h=>exact o_assign rfl)); exact tn)); (case hd=>kernel_rfl); (case hnew=>kernel_rfl))
   refine a_seq ?_
   refine a_seq ?_
   (apply a_region; (case ht=>exact .cons (o_move rfl)<|.cons (o_move rfl)<|.nil _); (case hd=>kernel_rfl); (case hnew=>kernel_rfl))
   refine a_block ?_
   refine a_loop (fun p : List Int × Nat=>⟨[(0,u8s (b :: rest)),(2,.ref 2 0),(5,.ref 5 0),(6,.int .i64 b),(7,.int .i64 ((1 + p.2 : Nat) : Int)),(26,.int .i64 b),(27,.int .i64 (p.1.length : Int))],[(2,some (.blk 61 (clkD clk0))),(5,some (.blk 61 (clkD (clkOf p.1))))],[5,2]⟩)
    (fun p=>p.1.length≤b.toNat∧p.2≤rest.length∧ents b.toNat rest = (ents (b.toNat - p.1.length) (rest.drop p.2)).map (fun q=>(p.1++q.1,p.2 + q.2))) (fun p=>b.toNat - p.1.length) ([],0) ?_ ?_ ?_
   ·exact Imp.of (fun i=>i) (.cons rfl (DLe.refl _) (.cons rfl (DLe.refl _) (.cons rfl (DLe.refl _) (.cons rfl (DLe.refl _) (.cons rfl (DLe.refl _) (.cons rfl (DLe.refl _) (.cons rfl (DLe.refl _) .nil))))))) (.cons rfl (.refl _) (.cons rfl (.refl _) .nil)) rfl rfl rfl
   ·refine ⟨by simp,by simp,?_⟩
    simp only [List.length_nil,Nat.sub_zero,List.drop_zero,List.nil_append,Nat.zero_add]
    cases ents b.toNat rest <;> rfl
   rintro ⟨l,t⟩ ⟨i1,i2,i3⟩
   simp only at i1 i2 i3
   dsimp only
   refine a_seq ?_
   (apply a_region; (case ht=>exact .cons (o_int rfl rfl rfl)<|.nil _); (case hd=>kernel_rfl); (case hnew=>kernel_rfl))
   refine a_seq ?_
   refine a_cond _ rfl (fun c2=>?_) (fun c2=>?_)
   ·have hlt : l.length < b.toNat:=by simp only [decide_eq_true_eq] at c2; omega
    obtain ⟨m,hm⟩ : ∃ m,b.toNat - l.length = m + 1 := ⟨b.toNat - l.length - 1,by omega⟩
    rw [hm,ents] at i3
    have hu:=uint_c (rest.drop t) (byt_drop (fun c hc=>hx c (by simp [hc])) t) (by simp; omega)
    have hsl : (u8s ((b :: rest).drop (1 + t))) = u8s (rest.drop t):=by rw [Nat.add_comm,List.drop_succ_cons]
    refine a_skip ?_
    refine a_seq ?_
    refine a_block ?_
    refine a_seq ?_
    (apply a_region; (case ht=>exact .cons (o_move rfl)<|.cons (o_assign rfl)<|.nil _); (case hd=>kernel_rfl); (case hnew=>kernel_rfl))
    refine a_seq ?_
    cases hd : decU 0 0 (rest.drop t) with
    | none=>
     rw [hd] at i3
     simp only [uintD,hd] at hu
     (apply a_region; (case ht=>((apply tc; (case h=>exact o_move rfl)); (apply tc; (case h=>exact o_move rfl)); (apply tc; (case h=>(exact o_slice (1 + t) _ rfl (Bd.at rfl rfl) Bd.no (by simp; omega) (Nat.le_refl _)))); (apply tc; (case h=>exact o_call hu rfl (DLeL.of_eq (by rw [u8s_dropB,hsl])) rfl)); (apply tc; (case h=>exact o_move rfl)); (apply tc; (case h=>exact o_extract rfl rfl)); (apply tc; (case h=>exact o_extract rfl rfl)); (apply tc; (case h=>exact o_extract rfl rfl)); (apply tc; (case h=>exact o_assign rfl)); (apply tc; (case h=>exact o_assign rfl)); (apply tc; (case h=>exact o_assign rfl)); exact tn)); (case hd=>kernel_rfl); (case hnew=>kernel_rfl))
     refine a_seq ?_
     refine a_seq ?_
     (apply a_region; (case ht=>exact .cons (o_move rfl)<|.cons (o_int rfl rfl rfl)<|.nil _); (case hd=>kernel_rfl); (case hnew=>kernel_rfl))
     refine a_cond _ rfl (fun c3=>?_) (fun c3=>?_)
     ·refine a_seq ?_
      (apply a_region; (case ht=>exact .cons (o_build rfl rfl rfl)<|.cons (o_store rfl rfl rfl rfl rfl rfl rfl)<|.cons (o_assign rfl)<|.cons (o_assign rfl)<|.nil _); (case hd=>kernel_rfl); (case hnew=>kernel_rfl))
      refine a_ret ?_
      ((refine a_post (ResV.r3 (ResOk.cell rfl rfl (.row _ CRow.h (Nat.le_of_ble_eq_true rfl) rfl)) (ResOk.tmp rfl) (ResOk.tmp rfl)) (DLe.of_eq ?_) PostOk.nil.spec) <;> ((simp [clkRD,ents_none h16 i3,constDV]; rfl)))
     ·simp at c3
    | some p=>
     obtain ⟨v,k⟩ := p
     have hkl:=decU_le _ 0 0 v k hd
     simp only [List.length_drop] at hkl
     rw [hd] at i3
     simp only [uintD,hd] at hu
     (apply a_region; (case ht=>((apply tc; (case h=>exact o_move rfl)); (apply tc; (case h=>exact o_move rfl)); (apply tc; (case h=>(exact o_slice (1 + t) _ rfl (Bd.at rfl rfl) Bd.no (by simp; omega) (Nat.le_refl _)))); (apply tc; (case h=>exact o_call hu rfl (DLeL.of_eq (by rw [u8s_dropB,hsl])) rfl)); (apply tc; (case h=>exact o_move rfl)); (apply tc; (case h=>exact o_extract rfl rfl)); (apply tc; (case h=>exact o_extract rfl rfl)); (apply tc; (case h=>exact o_extract rfl rfl)); (apply tc; (case h=>exact o_assign rfl)); (apply tc; (case h=>exact o_assign rfl)); (apply tc; (case h=>exact o_assign rfl)); exact tn)); (case hd=>kernel_rfl); (case hnew=>kernel_rfl))
     refine a_seq ?_
     refine a_seq ?_
     (apply a_region; (case ht=>exact .cons (o_move rfl)<|.cons (o_int rfl rfl rfl)<|.nil _); (case hd=>kernel_rfl); (case hnew=>kernel_rfl))
     refine a_cond _ rfl (fun c3=>?_) (fun c3=>?_)
     ·simp at c3
     ·refine a_skip ?_
      refine a_seq ?_
      (apply a_region; (case ht=>((apply tc; (case h=>exact o_move rfl)); (apply tc; (case h=>exact o_move rfl)); (apply tc; (case h=>exact o_fieldAddr rfl)); (apply tc; (case h=>exact o_indexAddr_a l.length rfl rfl rfl (by omega))); (apply tc; (case h=>(exact o_store_at rfl rfl rfl rfl (by simp [clkD]; omega) (clkD_set l v (by omega))))); exact tn)); (case hd=>kernel_rfl); (case hnew=>kernel_rfl))
      (apply a_region; (case ht=>((apply tc; (case h=>exact o_move rfl)); (apply tc; (case h=>exact o_move rfl)); (apply tc; (case h=>(exact o_add rfl rfl (by simp only [InR]; omega)))); (apply tc; (case h=>exact o_assign rfl)); exact tn)); (case hd=>kernel_rfl); (case hnew=>kernel_rfl))
      (apply a_region; (case ht=>((apply tc; (case h=>(exact o_add rfl rfl (by simp only [InR]; omega)))); (apply tc; (case h=>exact o_move rfl)); exact tn)); (case hd=>kernel_rfl); (case hnew=>kernel_rfl))
      refine QLoop.next (l++[v],t + k) ⟨by simp; omega,by simp; omega,?_⟩ (by simp; omega) (Imp.of (fun i=>i) (.cons rfl (DLe.refl _) (.cons rfl (DLe.refl _) (.cons rfl (DLe.refl _) (.cons rfl (DLe.refl _) (.cons rfl (DLe.of_eq ?_) (.cons rfl (DLe.refl _) (.cons rfl (DLe.of_eq ?_) .nil))))))) (.cons rfl (.refl _) (.cons rfl (.refl _) .nil)) rfl rfl rfl)
      ·have e : b.toNat - (l++[v]).length = m:=by simp; omega
       simp only [List.drop_drop] at i3 ⊢
       rw [i3,e]
       cases ents m (rest.drop (t + k)) with
       | none=>rfl
       | some q=>obtain ⟨l',t'⟩ := q; simp [Nat.add_assoc]
      ·simp [DV.ren]; omega
      ·simp [DV.ren]
   ·have hlt : l.length = b.toNat:=by simp only [decide_eq_false_iff_not] at c2; omega
    have he : ents b.toNat rest = some (l,t):=by
     rw [i3,hlt,Nat.sub_self]; simp [ents]
    refine a_exit ?_
    refine a_seq ?_
    refine a_seq ?_
    (apply a_region; (case ht=>exact .cons (o_load_r rfl rfl rfl rfl)<|.cons (o_call (length_c (clkOf l)) rfl (DLeL.refl _) rfl)<|.cons (o_move rfl)<|.cons (o_int rfl rfl rfl)<|.nil _); (case hd=>kernel_rfl); (case hnew=>kernel_rfl))
    refine a_cond _ rfl (fun c4=>?_) (fun c4=>?_)
    ·have hne : ¬ clen (clkOf l) = b.toNat:=by
      simp only [bne_iff_ne] at c4; omega
     refine a_seq ?_
     (apply a_region; (case ht=>exact .cons (o_build rfl rfl rfl)<|.cons (o_store rfl rfl rfl rfl rfl rfl rfl)<|.cons (o_assign rfl)<|.cons (o_assign rfl)<|.nil _); (case hd=>kernel_rfl); (case hnew=>kernel_rfl))
     refine a_ret ?_
     ((refine a_post (ResV.r3 (ResOk.cell rfl rfl (.row _ CRow.h (Nat.le_of_ble_eq_true rfl) rfl)) (ResOk.tmp rfl) (ResOk.tmp rfl)) (DLe.of_eq ?_) PostOk.nil.spec) <;> ((simp [clkRD,clkR,h16,he,hne,constDV]; rfl)))
    ·have hne : clen (clkOf l) = b.toNat:=by
      simp only [bne_eq_false_iff_eq] at c4; omega
     refine a_skip ?_
     refine a_seq ?_
     (apply a_region; (case ht=>exact .cons (o_load_r rfl rfl rfl rfl)<|.cons (o_move rfl)<|.cons (o_store rfl rfl rfl rfl rfl rfl rfl)<|.cons (o_assign rfl)<|.cons (o_assign rfl)<|.nil _); (case hd=>kernel_rfl); (case hnew=>kernel_rfl))
     refine a_ret ?_
     ((refine a_post (ResV.r3 (ResOk.cell rfl rfl (.row _ CRow.h (Nat.le_of_ble_eq_true rfl) rfl)) (ResOk.tmp rfl) (ResOk.tmp rfl)) (DLe.of_eq ?_) PostOk.nil.spec) <;> ((simp [clkRD,clkR,h16,he,hne,constDV]; rfl)))
def evD (e : Ev) : List DV:=[.int .i64 e.tick,.int .i64 e.comp,.int .u8 e.kind,.int .i64 e.peer,.int .i64 e.n,.int .i64 e.copy,.int .i64 e.handler,.int .i64 e.d,.sl 1 (e.args.map (.int .i64))]
def Rd.ints : Nat→Rd→List Int × Rd
 | 0,r=>([],r)
 | n + 1,r=>(r.int.1 :: (ints n r.int.2).1,(ints n r.int.2).2)
def M31 : Int:=2147483647
def Rd.event (c : Int) (r : Rd) : Ev × Rd :=
 let p1:=r.uint M31
 let p2:=p1.2.uint 255
 let p3:=p2.2.uint M31
 let p4:=p3.2.uint M31
 let p5:=p4.2.uint M31
 let p6:=p5.2.uint M31
 let p7:=p6.2.int
 let p8:=p7.2.uint 4
 let p9:=p8.2.ints p8.1.toNat
 (⟨p1.1,c,p2.1,p3.1,p4.1,p5.1,p6.1,p7.1,p9.1⟩,p9.2)
theorem RdOk.drop {xs : List Int} {e e' : Int} (h : RdOk ⟨xs,e⟩) (n : Nat) : RdOk ⟨xs.drop n,e'⟩ := ⟨byt_drop h.byt n,by have:=h.len; simp at this ⊢; omega⟩
theorem RdOk.err {xs : List Int} {e e' : Int} (h : RdOk ⟨xs,e⟩) : RdOk ⟨xs,e'⟩ := ⟨h.byt,h.len⟩
theorem RdOk.uint {r : Rd} (h : RdOk r) (m : Int) : RdOk (r.uint m).2:=by
 obtain ⟨xs,e⟩ := r
 unfold Rd.uint
 split
 ·exact h
 ·split
  ·exact h.err
  ·split
   ·exact h.err
   ·exact h.drop _
theorem RdOk.int {r : Rd} (h : RdOk r) : RdOk r.int.2:=by
 obtain ⟨xs,e⟩ := r
 unfold Rd.int
 split
 ·exact h
 ·split
  ·exact h.err
  ·exact h.drop _
theorem RdOk.byte {r : Rd} (h : RdOk r) : RdOk r.byte.2:=by
 obtain ⟨xs,e⟩ := r
 unfold Rd.byte
 split
 ·exact h
 ·cases xs with
  | nil=>exact h.err
  | cons b rest=>
   have:=h.drop (e' := e) 1
   simpa using this
theorem uint_range {r : Rd} (h : RdOk r) {m : Int} (hm : 0≤m) : 0≤(r.uint m).1∧(r.uint m).1≤m:=by
 obtain ⟨xs,e⟩ := r
 unfold Rd.uint
 split
 ·exact ⟨Int.le_refl _,hm⟩
 ·split
  ·exact ⟨Int.le_refl _,hm⟩
  ·rename_i v n hd
   have:=decU_u64 xs 0 0 v n h.byt (by omega) (by omega) (by simp) hd
   split
   ·exact ⟨Int.le_refl _,hm⟩
   ·exact ⟨this.1,by simp only; omega⟩
theorem Imp.nilCell {σ : AS} {id rid j : Nat} {T : TypeId} {ds : List DV} (E sz : Nat) (hh : hget σ.heap id = some (.blk T ds)) (hj : ds[j]? = some .nils) (hi : memB rid σ.used = false) (hne : Nat.beq rid id = false) :
  Imp σ ⟨σ.env,(id,some (.blk T (ds.set j (.row rid)))) :: (rid,some (.row E sz [])) :: σ.heap,rid :: σ.used⟩ := fun C F γ a w hs=>by
 have hn : rid ∉ σ.used:=fun h=>by
  have : memB rid σ.used = true:=List.any_eq_true.2 ⟨rid,h,by simp⟩
  rw [hi] at this; cases this
 have hrid : rid≠id:=fun e=>by subst e; simp at hne
 have hle:=Gam.up_le (.slice none 0 0) (hs.ws.fresh hn)
 have W:=hs.ws.add hn (e0:=.row E sz []) (g:=.slice none 0 0) ⟨[],own_nil _ _ _ _,by simp [RsE]⟩ (fun b hb=>by simp [Value.pblk] at hb)
 have hh' : hget ((rid,some (.row E sz [])) :: σ.heap) id = some (.blk T ds):=by rw [hget_cons,if_neg hrid]; exact hh
 obtain ⟨g,hg,b,cs,rfl,hb,hl⟩ := W.ent id _ hh'
 have hl' : RsL F (γ.up rid (.slice none 0 0)) (ds.set j (.row rid)) cs.toList:=by
  refine RsL.of_get (by rw [List.length_set]; exact hl.len) (fun i d hd=>?_)
  rw [List.getElem?_set] at hd
  by_cases hij : j = i
  ·subst hij
   obtain ⟨v,q1,q2,q3⟩ := hl.get hj
   have hjl : j < ds.length:=(List.getElem?_eq_some_iff.1 hj).1
   simp [hjl] at hd
   subst hd
   refine ⟨v,q1,q2,?_⟩
   simp only [Rs] at q3 ⊢
   rw [q3]; exact Gam.up_same _ _ _
  ·rw [if_neg hij] at hd; exact hl.get hd
 have W2:=W.put (id0:=id) (e0:=.blk T (ds.set j (.row rid))) hg ⟨b,cs,rfl,hb,hl'⟩ (fun b' hb'=>by
  have ho:=W.own id _ _ b' hh' hg hb'
  exact ⟨ho.1,ho.2,fun i e g hne hi hgi hbi=>hne (W.apart i id e _ g _ b' hi hh' hgi hg hbi hb')⟩)
 exact ⟨F,_,fun t' d hd=>⟨(hs.env t' d hd).1,(hs.env t' d hd).2.mono (FLe.refl _) hle⟩,W2,hs.size,hs.defers⟩
theorem HLe.of_eq {e e' : HE} (h : e = e') : HLe e e' := h ▸ .refl e
def bxE : HE:=.blk 183 [.ref 100000 0]
theorem num_c (r : Rd) (hr : RdOk r) : ACall Tryz.prog 136 ⟨[.ref 100001 0],[(100001,some bxE),(100000,some (rdE r))],.int .i64 (r.uint M31).1,[(100000,some (rdE (r.uint M31).2)),(100001,some bxE)],[]⟩ := by
 have h1:=rUint_c r M31 hr ⟨by decide,by decide⟩
 have h2:=uint_range hr (m:=M31) (by decide)
 have h3 : M31 = 2147483647:=rfl
 generalize r.uint M31 = p at *
 obtain ⟨v,r'⟩ := p
 refine ACall.body Tryz.func136 Tryz.ntmps136 rfl rfl rfl rfl ?_
 (refine a_seq ?_; (apply a_region; (case ht=>exact .cons (o_assign rfl)<|.nil _); (case hd=>kernel_rfl); (case hnew=>kernel_rfl)); refine a_seq ?_; (apply a_region; (case ht=>((apply tc; (case h=>exact o_load_s rfl rfl rfl)); (apply tc; (case h=>exact o_callN (fun _=>100000) 1 h1 rfl (DLeL.refl _) (PreOk.cons rfl PreOk.nil) rfl RoOk.nil)); (apply tc; (case h=>(exact o_conv rfl (by simp only [InR]; omega)))); (apply tc; (case h=>exact o_assign rfl)); exact tn)); (case hd=>kernel_rfl); (case hnew=>kernel_rfl)); refine a_ret ?_; ((refine a_post (ResV.r1 (ResOk.tmp rfl)) (DLe.of_eq ?_) (PostOk.consE rfl ?_ (PostOk.consE rfl ?_ PostOk.nil)).spec) <;> ((first | rfl | simp))))
theorem ints_step (cnt k : Nat) (hk : k < cnt) (r : Rd) (l : List Int) (R : List Int × Rd) (h : R = (l++(r.ints (cnt - k)).1,(r.ints (cnt - k)).2)) : R = (l++[r.int.1]++(r.int.2.ints (cnt - (k + 1))).1,(r.int.2.ints (cnt - (k + 1))).2):=by
 obtain ⟨m,hm⟩ : ∃ m,cnt - k = m + 1 := ⟨cnt - k - 1,by omega⟩
 have hm2 : cnt - (k + 1) = m:=by omega
 rw [h,hm,hm2,Rd.ints]; simp
def fB : Nat→Nat:=fun i=>bif Nat.beq i 100001 then 2 else 100000
theorem readEvent_c (c : Int) (r : Rd) (hr : RdOk r) : ACall Tryz.prog 108 ⟨[.ref 100000 0,.int .i64 c],[(100000,some (rdE r))],.agg (evD (r.event c).1),[(100000,some (rdE (r.event c).2))],[]⟩ := by
 have hev : r.event c = (let p1:=r.uint M31
  let p2:=p1.2.uint 255
  let p3:=p2.2.uint M31
  let p4:=p3.2.uint M31
  let p5:=p4.2.uint M31
  let p6:=p5.2.uint M31
  let p7:=p6.2.int
  let p8:=p7.2.uint 4
  let p9:=p8.2.ints p8.1.toNat
  (⟨p1.1,c,p2.1,p3.1,p4.1,p5.1,p6.1,p7.1,p9.1⟩,p9.2)):=rfl
 simp only at hev
 have k1:=num_c r hr
 have o1:=hr.uint M31
 generalize r.uint M31 = q1 at *
 obtain ⟨v1,r1⟩ := q1
 have k2:=rUint_c r1 255 o1 ⟨by decide,by decide⟩
 have b2:=uint_range o1 (m:=255) (by decide)
 have o2:=o1.uint 255
 simp only at hev
 generalize r1.uint 255 = q2 at *
 obtain ⟨v2,r2⟩ := q2
 have k3:=num_c r2 o2
 have o3:=o2.uint M31
 simp only at hev
 generalize r2.uint M31 = q3 at *
 obtain ⟨v3,r3⟩ := q3
 have k4:=num_c r3 o3
 have o4:=o3.uint M31
 simp only at hev
 generalize r3.uint M31 = q4 at *
 obtain ⟨v4,r4⟩ := q4
 have k5:=num_c r4 o4
 have o5:=o4.uint M31
 simp only at hev
 generalize r4.uint M31 = q5 at *
 obtain ⟨v5,r5⟩ := q5
 have k6:=num_c r5 o5
 have o6:=o5.uint M31
 simp only at hev
 generalize r5.uint M31 = q6 at *
 obtain ⟨v6,r6⟩ := q6
 have k7:=rInt_c r6 o6
 have o7:=o6.int
 simp only at hev
 generalize r6.int = q7 at *
 obtain ⟨v7,r7⟩ := q7
 have k8:=rUint_c r7 4 o7 ⟨by decide,by decide⟩
 have b8:=uint_range o7 (m:=4) (by decide)
 have o8:=o7.uint 4
 simp only at hev
 generalize r7.uint 4 = q8 at *
 obtain ⟨v8,r8⟩ := q8
 simp only at hev k1 k2 k3 k4 k5 k6 k7 k8 o1 o2 o3 o4 o5 o6 o7 o8 b2 b8
 obtain ⟨cnt,rfl⟩ : ∃ cnt : Nat,v8 = cnt := ⟨v8.toNat,by omega⟩
 rw [Int.toNat_natCast] at hev
 rw [hev]
 clear hev
 refine ACall.body Tryz.func108 Tryz.ntmps108 rfl rfl rfl rfl ?_
 refine a_seq ?_
 (apply a_region; (case ht=>exact .cons (o_box rfl rfl)<|.cons (o_alloc rfl)<|.nil _); (case hd=>kernel_rfl); (case hnew=>kernel_rfl))
 refine a_seq ?_
 (apply a_region; (case ht=>exact .cons (o_makeFunc rfl)<|.cons (o_assign rfl)<|.nil _); (case hd=>kernel_rfl); (case hnew=>kernel_rfl))
 refine a_seq ?_
 (apply a_draw mixed; (case ht=>((apply tc; (case h=>exact o_move rfl)); (apply tc; (case h=>exact o_move rfl)); (apply tc; (case h=>exact o_callV fB 1 k1 rfl rfl (DLeL.refl _) (PreOk.cons rfl (PreOk.cons rfl PreOk.nil)) rfl (RoOk.cons rfl RoOk.nil))); (apply tc; (case h=>exact o_load_s rfl rfl rfl)); (apply tc; (case h=>exact o_callN (fun _=>100000) 1 k2 rfl (DLeL.refl _) (PreOk.cons rfl PreOk.nil) rfl RoOk.nil)); (apply tc; (case h=>(exact o_conv rfl (by simp only [InR]; omega)))); (apply tc; (case h=>exact o_build rfl rfl rfl)); (apply tc; (case h=>exact o_alloc rfl)); (apply tc; (case h=>exact o_store rfl rfl rfl rfl rfl rfl rfl)); exact tn)); (case hk=>kernel_rfl); (case hd=>kernel_rfl); (case hnew=>kernel_rfl))
 refine a_seq ?_
 (apply a_region; (case ht=>exact .cons (o_move rfl)<|.cons (o_callV fB 1 k3 rfl rfl (DLeL.refl _) (PreOk.cons rfl (PreOk.cons rfl PreOk.nil)) rfl (RoOk.cons rfl RoOk.nil))<|.cons (o_move rfl)<|.cons (o_callV fB 1 k4 rfl rfl (DLeL.refl _) (PreOk.cons rfl (PreOk.cons rfl PreOk.nil)) rfl (RoOk.cons rfl RoOk.nil))<|.cons (o_move rfl)<|.cons (o_callV fB 1 k5 rfl rfl (DLeL.refl _) (PreOk.cons rfl (PreOk.cons rfl PreOk.nil)) rfl (RoOk.cons rfl RoOk.nil))<|.cons (o_move rfl)<|.cons (o_callV fB 1 k6 rfl rfl (DLeL.refl _) (PreOk.cons rfl (PreOk.cons rfl PreOk.nil)) rfl (RoOk.cons rfl RoOk.nil))<|.cons (o_fieldAddr rfl)<|.cons (o_store_s rfl rfl rfl rfl rfl)<|.cons (o_fieldAddr rfl)<|.cons (o_store_s rfl rfl rfl rfl rfl)<|.cons (o_fieldAddr rfl)<|.cons (o_store_s rfl rfl rfl rfl rfl)<|.cons (o_fieldAddr rfl)<|.cons (o_store_s rfl rfl rfl rfl rfl)<|.nil _); (case hd=>kernel_rfl); (case hnew=>kernel_rfl))
 refine a_seq ?_
 (apply a_region; (case ht=>exact .cons (o_load_s rfl rfl rfl)<|.cons (o_callN (fun _=>100000) 1 k7 rfl (DLeL.refl _) (PreOk.cons rfl PreOk.nil) rfl RoOk.nil)<|.cons (o_fieldAddr rfl)<|.cons (o_store_s rfl rfl rfl rfl rfl)<|.nil _); (case hd=>kernel_rfl); (case hnew=>kernel_rfl))
 refine a_seq ?_
 refine a_seq ?_
 (apply a_region; (case ht=>exact .cons (o_load_s rfl rfl rfl)<|.cons (o_callN (fun _=>100000) 1 k8 rfl (DLeL.refl _) (PreOk.cons rfl PreOk.nil) rfl RoOk.nil)<|.cons (o_move rfl)<|.nil _); (case hd=>kernel_rfl); (case hnew=>kernel_rfl))
 refine a_block ?_
 refine a_imp (Imp.nilCell (id:=6) (rid:=900) (j:=8) 2 1 rfl rfl rfl rfl) ?_
 refine a_loop (fun p : List Int × Rd=>⟨[(2,.ref 2 0),(4,.ref 4 0),(6,.ref 6 0),(31,.int .u64 (cnt : Int)),(32,.int .u64 (p.1.length : Int))],
   [(2,some bxE),(4,some (.blk 33 (evD ev0))),(6,some (.blk 33 [.int .i64 v1,.int .i64 c,.int .u8 v2,.int .i64 v3,.int .i64 v4,.int .i64 v5,.int .i64 v6,.int .i64 v7,.row 900])),(900,some (.row 2 1 (p.1.map (DV.int .i64)))),(100000,some (rdE p.2))],[2,4,6,900,100000]⟩)
  (fun p=>p.1.length≤cnt∧RdOk p.2∧r8.ints cnt = (p.1++(p.2.ints (cnt - p.1.length)).1,(p.2.ints (cnt - p.1.length)).2)) (fun p=>cnt - p.1.length) ([],r8) ?_ ?_ ?_
 ·exact Imp.of (fun i=>i) (.cons rfl (DLe.refl _) (.cons rfl (DLe.refl _) (.cons rfl (DLe.refl _) (.cons rfl (DLe.refl _) (.cons rfl (DLe.refl _) .nil))))) (.cons rfl (.refl _) (.cons rfl (.blk (.cons (DLe.refl _) (.cons (DLe.refl _) (.cons (DLe.refl _) (.cons (DLe.refl _) (.cons (DLe.refl _) (.cons (DLe.refl _) (.cons (DLe.refl _) (.cons (DLe.refl _) (.cons (DLe.nils 1) .nil)))))))))) (.cons rfl (.refl _) (.cons rfl (.refl _) (.cons rfl (.refl _) .nil))))) rfl rfl rfl
 ·exact ⟨by simp,o8,by simp⟩
 rintro ⟨l,q⟩ ⟨i1,i2,i3⟩
 simp only at i1 i2 i3
 dsimp only
 refine a_seq ?_
 (apply a_region; (case ht=>exact .cons (o_int rfl rfl rfl)<|.nil _); (case hd=>kernel_rfl); (case hnew=>kernel_rfl))
 refine a_seq ?_
 refine a_cond _ rfl (fun c1=>?_) (fun c1=>?_)
 ·have hlt : l.length < cnt:=by simp only [decide_eq_true_eq] at c1; omega
  have kq:=rInt_c q i2
  have oq:=i2.int
  have hst:=ints_step cnt l.length hlt q l _ i3
  generalize q.int = pq at *
  obtain ⟨x,q'⟩ := pq
  refine a_skip ?_
  refine a_seq ?_
  refine a_block ?_
  (apply a_draw mixed; (case ht=>((apply tc; (case h=>exact o_fieldAddr rfl)); (apply tc; (case h=>exact o_load_s rfl rfl rfl)); (apply tc; (case h=>exact o_load_s rfl rfl rfl)); (apply tc; (case h=>exact o_callN (fun _=>100000) 1 kq rfl (DLeL.refl _) (PreOk.cons rfl PreOk.nil) rfl RoOk.nil)); (apply tc; (case h=>exact o_buildSlice rfl rfl rfl rfl rfl rfl)); (apply tc; (case h=>(exact o_append rfl rfl rfl (Src.row rfl) (by simp; omega)))); (apply tc; (case h=>exact o_fieldAddr rfl)); (apply tc; (case h=>exact o_store_s rfl rfl rfl rfl rfl)); exact tn)); (case hk=>kernel_rfl); (case hd=>kernel_rfl); (case hnew=>kernel_rfl))
  (apply a_region; (case ht=>((apply tc; (case h=>(exact o_add rfl rfl (by simp only [InR]; omega)))); (apply tc; (case h=>exact o_move rfl)); exact tn)); (case hd=>kernel_rfl); (case hnew=>kernel_rfl))
  refine QLoop.next (l++[x],q') ⟨by simp; omega,oq,?_⟩ (by simp; omega) (Imp.of (fun i=>bif Nat.beq i 900 then 39 else i) (.cons rfl (DLe.refl _) (.cons rfl (DLe.refl _) (.cons rfl (DLe.refl _) (.cons rfl (DLe.refl _) (.cons rfl (DLe.of_eq ?_) .nil))))) (.cons rfl (.refl _) (.cons rfl (.refl _) (.cons rfl (.refl _) (.cons rfl (HLe.of_eq ?_) (.cons rfl (.refl _) .nil))))) rfl rfl rfl)
  ·simp only [List.length_append,List.length_cons,List.length_nil,Nat.zero_add]; exact hst
  ·simp [DV.ren]
  ·simp [HE.ren,DV.ren]
 ·have hlt : l.length = cnt:=by simp only [decide_eq_false_iff_not] at c1; omega
  rw [hlt,Nat.sub_self] at i3
  simp only [Rd.ints,List.append_nil] at i3
  rw [i3]
  refine a_exit ?_
  refine a_imp (Imp.freeze (id:=900) rfl) ?_
  refine a_seq ?_
  (apply a_region; (case ht=>exact .cons (o_load_r rfl rfl rfl rfl)<|.cons (o_store rfl rfl rfl rfl rfl rfl rfl)<|.nil _); (case hd=>kernel_rfl); (case hnew=>kernel_rfl))
  refine a_ret ?_
  ((refine a_post (ResV.r1 (ResOk.cell rfl rfl (.row _ CRow.h (Nat.le_of_ble_eq_true rfl) rfl))) (DLe.of_eq ?_) (PostOk.consE rfl ?_ PostOk.nil).spec) <;> (first | rfl | simp [constDV,layD,DV.cs,renL,DV.ren,HE.ren,u8s,rdE,List.set,List.take_of_length_le,evD]))
def recD (r : Re) : List DV:=(.int .i64 r.comp :: .int .u64 r.seq :: clkD r.clk)++(.int .u8 r.what :: evD r.ev)++[.int .u64 r.count]
def isInt : DV→Bool
 | .int _ _=>true
 | _=>false
theorem RsL_sc {F : FMap} {γ : Gam} : ∀ {ds : List DV} {vs : List Value},(ds.all isInt) = true→RsL F γ ds vs→vs = ds.map DV.scal
 | [],vs,_,h=>by simp only [RsL] at h; rw [h]; rfl
 | d :: ds,vs,hi,h=>by
  simp only [List.all_cons,Bool.and_eq_true] at hi
  simp only [RsL] at h
  obtain ⟨v,rest,rfl,_,h1,h2⟩ := h
  cases d with
  | int k n=>
   simp only [Rs] at h1
   rw [h1,RsL_sc hi.2 h2]; rfl
  | _=>exact absurd hi.1 (by simp [isInt])
theorem RsL_sl {F : FMap} {γ : Gam} {w : World} (hF : FSat F w) {a b : List DV} {k : IntKind} {xs : List Int} {vs : List Value} (ha : (a.all isInt) = true) (h : RsL F γ (a++.sl 1 (xs.map (.int k)) :: b) vs) :
  ∃ A c rest,vs = a.map DV.scal++.slice A xs.length c :: rest∧SlOk A xs.length c∧At w A (xs.map (Value.int k))∧RsL F γ b rest:=by
 obtain ⟨h1,h2⟩ := h.split
 have e1:=RsL_sc ha h1
 have h3 : ∃ v rest,vs.drop a.length = v :: rest∧v.oneCell' = true∧Rs F γ (.sl 1 (xs.map (.int k))) v∧RsL F γ b rest:=by simpa only [RsL] using h2
 obtain ⟨v,rest,e,_,hs,hb⟩ := h3
 obtain ⟨A,c,rfl,hok,hat⟩ := sl_ints hF hs
 exact ⟨A,c,rest,by rw [← e1,← e,List.take_append_drop],hok,hat,hb⟩
theorem rec_of {F : FMap} {γ : Gam} {w : World} (hF : FSat F w) {r : Re} {v : Value} (h : Rs F γ (.agg (recD r)) v) : ∃ A c,v = .agg (recA r A c)∧SlOk A r.ev.args.length c∧At w A (r.ev.args.map (Value.int .i64)):=by
 simp only [Rs] at h
 obtain ⟨cs,rfl,h⟩ := h
 have e : recD r = (.int .i64 r.comp :: .int .u64 r.seq :: clkD r.clk++(.int .u8 r.what :: [.int .i64 r.ev.tick,.int .i64 r.ev.comp,.int .u8 r.ev.kind,.int .i64 r.ev.peer,.int .i64 r.ev.n,.int .i64 r.ev.copy,.int .i64 r.ev.handler,.int .i64 r.ev.d]))++.sl 1 (r.ev.args.map (.int .i64)) :: [.int .u64 r.count]:=rfl
 rw [e] at h
 obtain ⟨A,c,rest,e1,h1,h2,h3⟩ := RsL_sl hF rfl h
 have e2:=RsL_sc (ds:=[.int .u64 r.count]) rfl h3
 refine ⟨A,c,?_,h1,h2⟩
 congr 1
 apply Array.toList_inj.1
 rw [e1,e2]; rfl
theorem one_arg {F : FMap} {γ : Gam} {d : DV} {vs : List Value} (h : RsT F γ [d] vs) : ∃ v,vs = [v]∧Rs F γ d v:=by
 simp only [RsT] at h
 obtain ⟨v,rest,rfl,h1,rfl⟩ := h
 exact ⟨v,rfl,h1⟩
theorem two_args {F : FMap} {γ : Gam} {d e : DV} {vs : List Value} (h : RsT F γ [d,e] vs) : ∃ v u,vs = [v,u]∧Rs F γ d v∧Rs F γ e u:=by
 simp only [RsT] at h
 obtain ⟨v,rest,rfl,h1,u,rest',rfl,h2,rfl⟩ := h
 exact ⟨v,u,rfl,h1,h2⟩
theorem check_c (r : Re) (hn : r.ev.args.length≤1099511627776) (hu : U64 r.seq) : PCall Tryz.prog 59 [.agg (recD r)] (.int .i64 (checkN r)):=PCall.ofExt fun F w vs hF hv=>by
 obtain ⟨v,rfl,h1⟩ := one_arg hv
 obtain ⟨A,c,rfl,_,hat⟩ := rec_of hF h1
 exact (Check_any r A c w hat hn hu).mono fun e w' ⟨he,hx⟩=>⟨_,he,hx,by simp only [Rs]⟩
theorem recBytes_c (r : Re) (hn : r.ev.args.length≤1099511627776) (hT : ReT r) : PCall Tryz.prog 41 [.agg (recD r)] (u8s (recBytes r)):=PCall.ofInts fun F w vs hF hv=>by
 obtain ⟨v,rfl,h1⟩ := one_arg hv
 obtain ⟨A,c,rfl,_,hat⟩ := rec_of hF h1
 exact RecBytes_any r A c w hat hn hT
theorem size_c (r : Re) (hn : r.ev.args.length≤1099511627776) (hT : ReT r) : PCall Tryz.prog 90 [.agg (recD r)] (.int .i64 (recBytes r).length):=PCall.ofExt fun F w vs hF hv=>by
 obtain ⟨v,rfl,h1⟩ := one_arg hv
 obtain ⟨A,c,rfl,_,hat⟩ := rec_of hF h1
 exact (Size_any r A c w hat hn hT).mono fun e w' ⟨he,hx⟩=>⟨_,he,hx,by simp only [Rs]⟩
theorem equal_c (a b : Re) (hn : a.ev.args.length≤1099511627776) : PCall Tryz.prog 113 [.agg (recD a),.agg (recD b)] (.bool (recEq a b)):=PCall.ofExt fun F w vs hF hv=>by
 obtain ⟨v,u,rfl,h1,h2⟩ := two_args hv
 obtain ⟨A,c,rfl,_,hat⟩ := rec_of hF h1
 obtain ⟨B,d,rfl,_,hbt⟩ := rec_of hF h2
 exact (Equal_any a b A B c d w hat hbt hn).mono fun e w' ⟨he,hx⟩=>⟨_,he,hx,by simp only [Rs]⟩
def allF (w : World) : FMap:=fun b=>match w.heap[b]? with
 | some (.cells cs _ _)=>some cs
 | _=>none
theorem allF_sat (w : World) : FSat (allF w) w:=by
 intro b cs h
 unfold allF at h
 split at h
 ·rename_i c t fz hb; injection h with h; subst h; exact ⟨t,fz,hb⟩
 ·cases h
theorem law_run {P : Program} {f : FuncId} {args : List DV} {vs : List Value} {W : World} (h : PCall P f args (.bool true)) (hk : Tbs (allF W)) (hv : RsT (allF W) Gam.no args vs) : Calls P f vs.toArray W (fun e W'=>e = .returned (.bool true)∧Ext W W'):=by
 have H : WS ⟨W,fun _=>False,allF W,0,Gam.no,none,[]⟩ (allF W) Gam.no [] [] W:={
  ent:=fun id e h=>by simp [hget,look] at h
  own:=fun id e g b h=>by simp [hget,look] at h
  apart:=fun id id' e e' g g' b h=>by simp [hget,look] at h
  fs:=allF_sat W
  f0:=FLe.refl _
  fnew:=fun b cs h=>.inl h
  os:=rfl,tape:=rfl,output:=rfl
  size:=Nat.le_refl _
  keep:=fun _ _ _=>rfl
  us:=fun id g h=>by cases h
  gone:=GOne.no
  g0:=GLe.refl _
  gk:=fun id g h=>by cases h
  kn:=hk }
 refine (h _ (allF W) Gam.no [] [] W vs H hv).mono ?_
 rintro e w' ⟨v,F',rfl,_,K,hr⟩
 simp only [Rs] at hr
 exact ⟨by rw [hr],⟨K.os,K.tape,K.output,K.size,fun k hk=>K.keep k hk (fun h=>h)⟩⟩
end Go.Proofs.YtcgfgilddjkpkaaGreat
