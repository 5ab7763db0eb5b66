/-
  What the claim leans on, part 16.
-/
import Derived.Test.YtepkcbalmjnhpaaGreatDoorGTx15
import Derived.BigRegion
set_option linter.unusedVariables false
set_option linter.unusedSimpArgs false
namespace Go.Proofs.YtepkcbalmjnhpaaGreatDoor
open Go.RowKit
theorem awake32 : rootcauselaw32_awake = some true:=by kernel_rfl
theorem awake_calls (w : World) : Calls Tryz.prog 16 #[] w fun e w'=>e = .returned (.bool true)∧Below w.heap.size w w' :=
 (law_run (vs:=[]) (rootcauselaw32_awake_c awake32) rfl).mono fun e w' ⟨he,hx⟩=>⟨he,hx.below⟩
end Go.Proofs.YtepkcbalmjnhpaaGreatDoor
namespace Go.Proofs
open Go.Shelf Go.RowKit Go.Sort Go.Lib
theorem Tryz.awakeS {W0 : World} {B : Nat} {vs : Nat→Value} (hB : B < W0.heap.size) (w : World) (h : Tryz.Hd W0 B vs w) : Calls Tryz.prog 16 #[] w fun e w'=>e = .returned (.bool true)∧Tryz.Hd W0 B vs w' :=
 (YtepkcbalmjnhpaaGreatDoor.awake_calls w).mono fun e w' ⟨he,hb⟩=>⟨he,h.on hB hb⟩
theorem Tryz.textS {W0 : World} {B : Nat} {vs : Nat→Value} (htab : Lib.TabIs Tryz.prog W0 "internal/strconv.uint64pow10" .u64 Lib.pow10Tab) (hB : B < W0.heap.size) (c f n : Int) (o : Bool) (a b : Int) (hc : -9223372036854775808≤c∧c≤9223372036854775807) (hf : 0≤f∧f < 18446744073709551616) (hn : 0≤n∧n < 18446744073709551616) (ha : -9223372036854775808≤a∧a≤9223372036854775807) (hb : -9223372036854775808≤b∧b≤9223372036854775807) (w : World) (h : Tryz.Hd W0 B vs w) :
  Calls Tryz.prog 17 #[.agg #[.int .i64 c,.int .u64 f,.int .u64 n,.bool o,.int .i64 a,.int .i64 b]] w fun e w'=>e = .returned (.string ⟨(Tryz.gapText c f (IntKind.u64.wrap (IntKind.u64.wrap (f + n) - 1)) o a b).toArray⟩)∧Tryz.Hd W0 B vs w' :=
 (Tryz.gapText_any c f n o a b hc hf hn ha hb w (h.tab htab)).mono fun e w' ⟨he,hw⟩=>⟨he,h.on hB hw⟩
theorem Tryz.refS {W0 : World} {B : Nat} {vs : Nat→Value} (hB : B < W0.heap.size) (c f n : Int) (o : Bool) (a b : Int) (hc : -9223372036854775808≤c∧c≤9223372036854775807) (hf : 0≤f∧f < 18446744073709551616) (hn : 0≤n∧n < 18446744073709551616) (ha : -9223372036854775808≤a∧a≤9223372036854775807) (hb : -9223372036854775808≤b∧b≤9223372036854775807) (w : World) (h : Tryz.Hd W0 B vs w) :
  Calls Tryz.prog 18 #[.agg #[.int .i64 c,.int .u64 f,.int .u64 n,.bool o,.int .i64 a,.int .i64 b]] w fun e w'=>e = .returned (.string ⟨(Tryz.gapText c f (IntKind.u64.wrap (IntKind.u64.wrap (f + n) - 1)) o a b).toArray⟩)∧Tryz.Hd W0 B vs w' :=
 (Tryz.refText_any c f n o a b hc hf hn ha hb w).mono fun e w' ⟨he,hw⟩=>⟨he,h.on hB hw⟩
theorem Tryz.Hd.six {W0 : World} {B : Nat} {c f n : Int} {o : Bool} {a b : Int} {w : World} (h : Tryz.Hd W0 B (Tryz.gv c f n o a b) w) : w.cell? ⟨B,0,none⟩ = some (.int .i64 c)∧w.cell? ⟨B,1,none⟩ = some (.int .u64 f)∧w.cell? ⟨B,2,none⟩ = some (.int .u64 n)∧w.cell? ⟨B,3,none⟩ = some (.bool o)∧w.cell? ⟨B,4,none⟩ = some (.int .i64 a)∧w.cell? ⟨B,5,none⟩ = some (.int .i64 b)∧Tryz.Hd W0 B (Tryz.gv c f n o a b) w := ⟨h.1 0 (by decide),h.1 1 (by decide),h.1 2 (by decide),h.1 3 (by decide),h.1 4 (by decide),h.1 5 (by decide),h⟩
theorem Tryz.six_hd {W0 : World} {B : Nat} {c f n : Int} {o : Bool} {a b : Int} {w : World} (h : w.cell? ⟨B,0,none⟩ = some (.int .i64 c)∧w.cell? ⟨B,1,none⟩ = some (.int .u64 f)∧w.cell? ⟨B,2,none⟩ = some (.int .u64 n)∧w.cell? ⟨B,3,none⟩ = some (.bool o)∧w.cell? ⟨B,4,none⟩ = some (.int .i64 a)∧w.cell? ⟨B,5,none⟩ = some (.int .i64 b)∧Tryz.Hd W0 B (Tryz.gv c f n o a b) w) : Tryz.Hd W0 B (Tryz.gv c f n o a b) w:=h.2.2.2.2.2.2
theorem Tryz.lowH {w W0 w' : World} {B : Nat} {vs : Nat→Value} (hb : Below w.heap.size w W0) (h : Tryz.Hd W0 B vs w') : Below w.heap.size w w' := by
 have k:=h.2
 have hs:=hb.size
 exact hb.trans ⟨k.os,k.tape,k.output,k.size,fun i hi=>k.block i (by omega)⟩
set_option maxHeartbeats 6400000 in
set_option maxRecDepth 100000 in
theorem Tryz.gapTexts_any (c f n : Int) (o : Bool) (a b : Int) (hc : -9223372036854775808≤c∧c≤9223372036854775807) (hf : 0≤f∧f < 18446744073709551616) (hn : 0≤n∧n < 18446744073709551616) (ha : -9223372036854775808≤a∧a≤9223372036854775807) (hb : -9223372036854775808≤b∧b≤9223372036854775807) (w : World) (htab : Lib.TabIs Tryz.prog w "internal/strconv.uint64pow10" .u64 Lib.pow10Tab) :
  Calls Tryz.prog 5 #[.agg #[.int .i64 c,.int .u64 f,.int .u64 n,.bool o,.int .i64 a,.int .i64 b]] w fun e w'=>e = .returned (.bool true)∧Below w.heap.size w w' := by
 have hB : w.heap.size < (w.alloc (Obj.cells #[Value.int IntKind.i64 c,Value.int IntKind.u64 f,Value.int IntKind.u64 n,Value.bool o,Value.int IntKind.i64 a,Value.int IntKind.i64 b] 57)).heap.size:=by simp
 have htab0:=Lib.tabIs_alloc htab (Obj.cells #[Value.int IntKind.i64 c,Value.int IntKind.u64 f,Value.int IntKind.u64 n,Value.bool o,Value.int IntKind.i64 a,Value.int IntKind.i64 b] 57)
 have hbl:=(Below.refl w.heap.size w).alloc (Nat.le_refl _) (Obj.cells #[Value.int IntKind.i64 c,Value.int IntKind.u64 f,Value.int IntKind.u64 n,Value.bool o,Value.int IntKind.i64 a,Value.int IntKind.i64 b] 57)
 have hH0 : Tryz.Hd (w.alloc (Obj.cells #[Value.int IntKind.i64 c,Value.int IntKind.u64 f,Value.int IntKind.u64 n,Value.bool o,Value.int IntKind.i64 a,Value.int IntKind.i64 b] 57)) w.heap.size (Tryz.gv c f n o a b) (w.alloc (Obj.cells #[Value.int IntKind.i64 c,Value.int IntKind.u64 f,Value.int IntKind.u64 n,Value.bool o,Value.int IntKind.i64 a,Value.int IntKind.i64 b] 57)) := ⟨fun i hi=>by
  rw [World.cell?_alloc_new]
  match i,hi with
  | 0,_=>rfl
  | 1,_=>rfl
  | 2,_=>rfl
  | 3,_=>rfl
  | 4,_=>rfl
  | 5,_=>rfl,Below.refl _ _⟩
 have tS:=fun (W : World) (h : Tryz.Hd (w.alloc (Obj.cells #[Value.int IntKind.i64 c,Value.int IntKind.u64 f,Value.int IntKind.u64 n,Value.bool o,Value.int IntKind.i64 a,Value.int IntKind.i64 b] 57)) w.heap.size (Tryz.gv c f n o a b) W)=>Tryz.textS htab0 hB c f n o a b hc hf hn ha hb W h
 have rS:=fun (W : World) (h : Tryz.Hd (w.alloc (Obj.cells #[Value.int IntKind.i64 c,Value.int IntKind.u64 f,Value.int IntKind.u64 n,Value.bool o,Value.int IntKind.i64 a,Value.int IntKind.i64 b] 57)) w.heap.size (Tryz.gv c f n o a b) W)=>Tryz.refS hB c f n o a b hc hf hn ha hb W h
 go_enter Tryz.func5,Tryz.ntmps5
 go_wp2
 generalize hW0 : (w.alloc (Obj.cells #[Value.int IntKind.i64 c,Value.int IntKind.u64 f,Value.int IntKind.u64 n,Value.bool o,Value.int IntKind.i64 a,Value.int IntKind.i64 b] 57)) = W0 at *
 clear hW0
 generalize (Tryz.gapText c f (IntKind.u64.wrap (IntKind.u64.wrap (f + n) - 1)) o a b) = tx at tS rS
 cases o
 ·by_cases h0 : n = 0
  ·subst h0
   go_region_with (first
     | (go_at_call 16; refine (Tryz.awakeS hB _ hH0.drew).mono ?_; rintro e w' ⟨rfl,hS⟩; obtain ⟨d0,d1,d2,d3,d4,d5,d6⟩ := Tryz.Hd.six hS))
   all_goals
    go_wp2
    go_ret
    exact ⟨rfl,Tryz.lowH hbl (by assumption)⟩
  ·have h0' : ¬ (n == 0) = true:=by simpa using h0
   go_region_held3 (fun w'=>w'.cell? ⟨w.heap.size,0,none⟩ = some (.int .i64 c)∧w'.cell? ⟨w.heap.size,1,none⟩ = some (.int .u64 f)∧w'.cell? ⟨w.heap.size,2,none⟩ = some (.int .u64 n)∧w'.cell? ⟨w.heap.size,3,none⟩ = some (.bool false)∧w'.cell? ⟨w.heap.size,4,none⟩ = some (.int .i64 a)∧w'.cell? ⟨w.heap.size,5,none⟩ = some (.int .i64 b)∧Tryz.Hd W0 w.heap.size (Tryz.gv c f n false a b) w')
    (first | assumption | exact Tryz.Hd.six (by assumption) | exact Tryz.Hd.six (Tryz.Hd.drew (by assumption)))
    (first
     | (go_at_call 16; refine (Tryz.awakeS hB _ (Tryz.six_hd (by assumption))).mono ?_; rintro e w' ⟨rfl,hS⟩)
     | (go_at_call 17; refine (tS _ (Tryz.six_hd (by assumption))).mono ?_; rintro e w' ⟨rfl,hS⟩)
     | (go_at_call 18; refine (rS _ (Tryz.six_hd (by assumption))).mono ?_; rintro e w' ⟨rfl,hS⟩))
   all_goals
    go_wp2
    go_ret
    exact ⟨rfl,Tryz.lowH hbl (Tryz.six_hd (by assumption))⟩
 ·first
  | go_region_with (first
      | (go_at_call 16; refine (Tryz.awakeS hB _ hH0.drew).mono ?_; rintro e w' ⟨rfl,hS⟩; obtain ⟨d0,d1,d2,d3,d4,d5,d6⟩ := Tryz.Hd.six hS)
      | (go_at_call 17; refine (tS _ (by assumption)).mono ?_; rintro e w' ⟨rfl,hS2⟩; obtain ⟨d0',d1',d2',d3',d4',d5',d6'⟩ := Tryz.Hd.six hS2)
      | (go_at_call 18; refine (rS _ (by assumption)).mono ?_; rintro e w' ⟨rfl,hS3⟩))
  | fail
  all_goals
   go_wp2
   go_ret
   exact ⟨rfl,Tryz.lowH hbl (by assumption)⟩
end Go.Proofs
set_option maxHeartbeats 2000000
set_option maxRecDepth 100000
namespace Go.Proofs.YtepkcbalmjnhpaaGreatDoor
open Go.ChangeShapes Go.WideShapes Go.ChangeAt Go.RowKit
theorem cellsT3 : Tryz.prog.cellsOf 3 = 1:=by kernel_rfl
theorem cellsT41 : Tryz.prog.cellsOf 41 = 1:=by kernel_rfl
theorem cellsT4 : Tryz.prog.cellsOf 4 = 1:=by kernel_rfl
theorem cellsT57 : Tryz.prog.cellsOf 57 = 6:=by kernel_rfl
def gap_Gap.ok (x : gap_Gap) : Prop:=InR .i64 x.gComponent∧InR .u64 x.gFirst∧InR .u64 x.gCount∧True∧InR .i64 x.gFrom∧InR .i64 x.gTo
theorem op_gap_Gap {H : Type} {enc : TypeId × Value→H} {w : World} {fuel : Nat} {cs : List Value} {y : DataW H × List MemPlace} (h : DataW.trod enc Tryz.prog w 0 (fun _=>true) true fuel 57 cs = some y) : ∃ x : gap_Gap,RsL (allF w) Gam.no (gap_Gap.cs x) cs∧gap_Gap.ok x:=by
 obtain ⟨xs,n,_,_,hlen,hxl,hg⟩ := DataW.trod_struct Tryz.underlying57 h
 rw [cellsT57] at hlen
 obtain ⟨y0,hy0⟩ : ∃ y,xs[0]? = some y := ⟨_,List.getElem?_eq_getElem (by rw [hxl]; decide)⟩
 have g0 : DataW.trod enc Tryz.prog w 0 (fun _=>true) true n 3 ((cs.drop 0).take (Tryz.prog.cellsOf 3)) = xs[0]? := hg 0 _ rfl
 rw [cellsT3,hy0] at g0
 obtain ⟨x0,r0,k0⟩ := (op_int Tryz.underlying3) g0
 obtain ⟨y1,hy1⟩ : ∃ y,xs[1]? = some y := ⟨_,List.getElem?_eq_getElem (by rw [hxl]; decide)⟩
 have g1 : DataW.trod enc Tryz.prog w 0 (fun _=>true) true n 41 ((cs.drop 1).take (Tryz.prog.cellsOf 41)) = xs[1]? := hg 1 _ rfl
 rw [cellsT41,hy1] at g1
 obtain ⟨x1,r1,k1⟩ := (op_int Tryz.underlying41) g1
 obtain ⟨y2,hy2⟩ : ∃ y,xs[2]? = some y := ⟨_,List.getElem?_eq_getElem (by rw [hxl]; decide)⟩
 have g2 : DataW.trod enc Tryz.prog w 0 (fun _=>true) true n 41 ((cs.drop 2).take (Tryz.prog.cellsOf 41)) = xs[2]? := hg 2 _ rfl
 rw [cellsT41,hy2] at g2
 obtain ⟨x2,r2,k2⟩ := (op_int Tryz.underlying41) g2
 obtain ⟨y3,hy3⟩ : ∃ y,xs[3]? = some y := ⟨_,List.getElem?_eq_getElem (by rw [hxl]; decide)⟩
 have g3 : DataW.trod enc Tryz.prog w 0 (fun _=>true) true n 4 ((cs.drop 3).take (Tryz.prog.cellsOf 4)) = xs[3]? := hg 3 _ rfl
 rw [cellsT4,hy3] at g3
 obtain ⟨x3,r3,k3⟩ := (op_bool Tryz.underlying4) g3
 obtain ⟨y4,hy4⟩ : ∃ y,xs[4]? = some y := ⟨_,List.getElem?_eq_getElem (by rw [hxl]; decide)⟩
 have g4 : DataW.trod enc Tryz.prog w 0 (fun _=>true) true n 3 ((cs.drop 4).take (Tryz.prog.cellsOf 3)) = xs[4]? := hg 4 _ rfl
 rw [cellsT3,hy4] at g4
 obtain ⟨x4,r4,k4⟩ := (op_int Tryz.underlying3) g4
 obtain ⟨y5,hy5⟩ : ∃ y,xs[5]? = some y := ⟨_,List.getElem?_eq_getElem (by rw [hxl]; decide)⟩
 have g5 : DataW.trod enc Tryz.prog w 0 (fun _=>true) true n 3 ((cs.drop 5).take (Tryz.prog.cellsOf 3)) = xs[5]? := hg 5 _ rfl
 rw [cellsT3,hy5] at g5
 obtain ⟨x5,r5,k5⟩ := (op_int Tryz.underlying3) g5
 exact ⟨⟨x0,x1,x2,x3,x4,x5⟩,RsL.join (off:=0) (n:=1) (by rw [hlen]; decide) r0 (RsL.join (off:=1) (n:=1) (by rw [hlen]; decide) r1 (RsL.join (off:=2) (n:=1) (by rw [hlen]; decide) r2 (RsL.join (off:=3) (n:=1) (by rw [hlen]; decide) r3 (RsL.join (off:=4) (n:=1) (by rw [hlen]; decide) r4 (RsL.join (off:=5) (n:=1) (by rw [hlen]; decide) r5 (RsL.done (n:=6) hlen)))))),⟨k0,k1,k2,k3,k4,k5⟩⟩
end Go.Proofs.YtepkcbalmjnhpaaGreatDoor
