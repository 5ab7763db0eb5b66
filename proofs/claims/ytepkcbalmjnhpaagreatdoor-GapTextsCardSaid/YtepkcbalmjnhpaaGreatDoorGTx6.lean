/-
  What the claim leans on, part 6.
-/
import Derived.Test.YtepkcbalmjnhpaaGreatDoorGTx5
import Derived.Lib.SmallJoins
set_option linter.unusedVariables false
set_option linter.unusedSimpArgs false
namespace Go.Proofs
open Go.Shelf Go.RowKit Go.Sort Go.Lib
theorem Tryz.below_grow (w : World) (k : Nat) (os : Array Obj) : Below w.heap.size w (grow (w.drewN k) os) := ⟨rfl,rfl,rfl,by simp [grow],fun i hi=>heap_grow_old (w.drewN k) os hi⟩
def Tryz.Hd (W0 : World) (B : Nat) (vs : Nat→Value) (w : World) : Prop:=(∀ i,i < 6→w.cell? ⟨B,i,none⟩ = some (vs i))∧Below W0.heap.size W0 w
theorem Tryz.Hd.on {W0 : World} {B : Nat} {vs : Nat→Value} {w w' : World} (hB : B < W0.heap.size) (h : Tryz.Hd W0 B vs w) (hb : Below w.heap.size w w') : Tryz.Hd W0 B vs w' := by
 have hs:=h.2.size
 refine ⟨fun i hi=>?_,h.2.trans ⟨hb.os,hb.tape,hb.output,hb.size,fun k hk=>hb.block k (by omega)⟩⟩
 rw [hb.cell (show (Addr.mk B i none).block < w.heap.size by show B < _; omega)]
 exact h.1 i hi
theorem Tryz.Hd.tab {W0 : World} {B : Nat} {vs : Nat→Value} {w : World} (htab : Lib.TabIs Tryz.prog W0 "internal/strconv.uint64pow10" .u64 Lib.pow10Tab) (h : Tryz.Hd W0 B vs w) : Lib.TabIs Tryz.prog w "internal/strconv.uint64pow10" .u64 Lib.pow10Tab :=
 by
 have hg : Tryz.prog.globalNamed "internal/strconv.uint64pow10" = some 0:=by kernel_rfl
 unfold Lib.TabIs World.var? at htab ⊢
 rw [hg,Option.bind_some] at htab ⊢
 have hlt : 0 < W0.heap.size:=by
  rcases Nat.lt_or_ge 0 W0.heap.size with h' | h'
  ·exact h'
  ·rw [Array.getElem?_eq_none h'] at htab; cases htab
 rw [h.2.block _ hlt]
 exact htab
theorem Tryz.itoaH {W0 : World} {B : Nat} {vs : Nat→Value} (htab : Lib.TabIs Tryz.prog W0 "internal/strconv.uint64pow10" .u64 Lib.pow10Tab) (hB : B < W0.heap.size) (n : Int) (hn : -9223372036854775808≤n∧n≤9223372036854775807) (w : World) (h : Tryz.Hd W0 B vs w) :
  Calls Tryz.prog 45 #[.int .i64 n] w fun e w'=>e = .returned (.string ⟨(Lib.itoa n).toArray⟩)∧Tryz.Hd W0 B vs w' :=
 (Tryz.itoaC n hn.1 hn.2 w (h.tab htab)).mono fun e w' ⟨he,k,os,hw⟩=>⟨he,by rw [hw]; exact h.on hB (Tryz.below_grow w k os)⟩
theorem Tryz.fmtH {W0 : World} {B : Nat} {vs : Nat→Value} (htab : Lib.TabIs Tryz.prog W0 "internal/strconv.uint64pow10" .u64 Lib.pow10Tab) (hB : B < W0.heap.size) (n : Int) (hn : 0≤n∧n < 18446744073709551616) (w : World) (h : Tryz.Hd W0 B vs w) :
  Calls Tryz.prog 44 #[.int .u64 n,.int .i64 10] w fun e w'=>e = .returned (.string ⟨(Lib.decDigits n.toNat).toArray⟩)∧Tryz.Hd W0 B vs w' := by
 obtain ⟨u,rfl⟩ : ∃ u : Nat,n = (u : Int) := ⟨n.toNat,by omega⟩
 exact (Tryz.fmtU u (by omega) w (h.tab htab)).mono fun e w' ⟨he,k,os,hw⟩=>⟨he,by rw [hw]; exact h.on hB (Tryz.below_grow w k os)⟩
theorem Tryz.Hd.drew {W0 : World} {B : Nat} {vs : Nat→Value} {w : World} (h : Tryz.Hd W0 B vs w) : Tryz.Hd W0 B vs w.drew := ⟨fun i hi=>by rw [World.cell?_drew]; exact h.1 i hi,h.2.drew⟩
def Tryz.gv (c f n : Int) (o : Bool) (a b : Int) : Nat→Value
 | 0=>.int .i64 c
 | 1=>.int .u64 f
 | 2=>.int .u64 n
 | 3=>.bool o
 | 4=>.int .i64 a
 | _=>.int .i64 b
theorem Tryz.Hd.keep {W0 : World} {B : Nat} {c f n : Int} {o : Bool} {a b : Int} {w : World} (h : Tryz.Hd W0 B (Tryz.gv c f n o a b) w) : w.cell? ⟨B,0,none⟩ = some (.int .i64 c)∧w.cell? ⟨B,4,none⟩ = some (.int .i64 a)∧w.cell? ⟨B,5,none⟩ = some (.int .i64 b)∧Tryz.Hd W0 B (Tryz.gv c f n o a b) w := ⟨h.1 0 (by decide),h.1 4 (by decide),h.1 5 (by decide),h⟩
theorem Tryz.itoaS {W0 : World} {B : Nat} {c f n : Int} {o : Bool} {a b : Int} (htab : Lib.TabIs Tryz.prog W0 "internal/strconv.uint64pow10" .u64 Lib.pow10Tab) (hB : B < W0.heap.size) (x : Int) (hx : -9223372036854775808≤x∧x≤9223372036854775807) (w : World) (h : w.cell? ⟨B,0,none⟩ = some (.int .i64 c)∧w.cell? ⟨B,4,none⟩ = some (.int .i64 a)∧w.cell? ⟨B,5,none⟩ = some (.int .i64 b)∧Tryz.Hd W0 B (Tryz.gv c f n o a b) w) :
  Calls Tryz.prog 45 #[.int .i64 x] w fun e w'=>e = .returned (.string ⟨(Lib.itoa x).toArray⟩)∧(w'.cell? ⟨B,0,none⟩ = some (.int .i64 c)∧w'.cell? ⟨B,4,none⟩ = some (.int .i64 a)∧w'.cell? ⟨B,5,none⟩ = some (.int .i64 b)∧Tryz.Hd W0 B (Tryz.gv c f n o a b) w') :=
 (Tryz.itoaH htab hB x hx w h.2.2.2).mono fun e w' ⟨he,hh⟩=>⟨he,Tryz.Hd.keep hh⟩
theorem Tryz.low {w W0 w' : World} {B : Nat} {c f n : Int} {o : Bool} {a b : Int} (hb : Below w.heap.size w W0) (h : w'.cell? ⟨B,0,none⟩ = some (.int .i64 c)∧w'.cell? ⟨B,4,none⟩ = some (.int .i64 a)∧w'.cell? ⟨B,5,none⟩ = some (.int .i64 b)∧Tryz.Hd W0 B (Tryz.gv c f n o a b) w') : Below w.heap.size w w' := by
 have k:=h.2.2.2.2
 have hs:=hb.size
 exact hb.trans ⟨k.os,k.tape,k.output,k.size,fun i hi=>k.block i (by omega)⟩
set_option maxHeartbeats 6400000 in
set_option maxRecDepth 100000 in
theorem Tryz.gapText_any (c f n : Int) (o : Bool) (a b : Int) (hc : -9223372036854775808≤c∧c≤9223372036854775807) (hf : 0≤f∧f < 18446744073709551616) (hn : 0≤n∧n < 18446744073709551616) (ha : -9223372036854775808≤a∧a≤9223372036854775807) (hb : -9223372036854775808≤b∧b≤9223372036854775807) (w : World) (htab : Lib.TabIs Tryz.prog w "internal/strconv.uint64pow10" .u64 Lib.pow10Tab) :
  Calls Tryz.prog 17 #[.agg #[.int .i64 c,.int .u64 f,.int .u64 n,.bool o,.int .i64 a,.int .i64 b]] w fun e w'=>e = .returned (.string ⟨(Tryz.gapText c f (IntKind.u64.wrap (IntKind.u64.wrap (f + n) - 1)) o a b).toArray⟩)∧Below w.heap.size w w' := by
 have k1:=Tryz.dec_len f hf.1 hf.2
 have hm : 0≤IntKind.u64.wrap (IntKind.u64.wrap (f + n) - 1)∧IntKind.u64.wrap (IntKind.u64.wrap (f + n) - 1) < 18446744073709551616:=by rw [IntKind.wrap_u64]; omega
 have k2:=Tryz.dec_len _ hm.1 hm.2
 generalize hs1 : IntKind.u64.wrap (f + n) = s1 at *
 generalize hs2 : IntKind.u64.wrap (s1 - 1) = m at *
 have k3:=Lib.itoa_length_le c hc.1 hc.2
 have k4:=Lib.itoa_length_le a ha.1 ha.2
 have k5:=Lib.itoa_length_le b hb.1 hb.2
 -- the gap's own block
 have hB : w.heap.size < (w.alloc (Obj.cells #[Value.int IntKind.i64 c,Value.int IntKind.u64 f,Value.int IntKind.u64 n,Value.bool o,Value.int IntKind.i64 a,Value.int IntKind.i64 b] 57)).heap.size:=by simp
 have htab0:=Lib.tabIs_alloc htab (Obj.cells #[Value.int IntKind.i64 c,Value.int IntKind.u64 f,Value.int IntKind.u64 n,Value.bool o,Value.int IntKind.i64 a,Value.int IntKind.i64 b] 57)
 have hbl:=(Below.refl w.heap.size w).alloc (Nat.le_refl _) (Obj.cells #[Value.int IntKind.i64 c,Value.int IntKind.u64 f,Value.int IntKind.u64 n,Value.bool o,Value.int IntKind.i64 a,Value.int IntKind.i64 b] 57)
 have hH0 : Tryz.Hd (w.alloc (Obj.cells #[Value.int IntKind.i64 c,Value.int IntKind.u64 f,Value.int IntKind.u64 n,Value.bool o,Value.int IntKind.i64 a,Value.int IntKind.i64 b] 57)) w.heap.size (Tryz.gv c f n o a b) (w.alloc (Obj.cells #[Value.int IntKind.i64 c,Value.int IntKind.u64 f,Value.int IntKind.u64 n,Value.bool o,Value.int IntKind.i64 a,Value.int IntKind.i64 b] 57)) := ⟨fun i hi=>by
  rw [World.cell?_alloc_new]
  match i,hi with
  | 0,_=>rfl
  | 1,_=>rfl
  | 2,_=>rfl
  | 3,_=>rfl
  | 4,_=>rfl
  | 5,_=>rfl,Below.refl _ _⟩
 go_enter Tryz.func17,Tryz.ntmps17
 go_wp2_with (first
  | (go_at_call 44; refine Hid.out ?_))
 refine Lib.hid ?_
 generalize hW0 : (w.alloc (Obj.cells #[Value.int IntKind.i64 c,Value.int IntKind.u64 f,Value.int IntKind.u64 n,Value.bool o,Value.int IntKind.i64 a,Value.int IntKind.i64 b] 57)) = W0 at *
 clear hW0
 refine (Tryz.fmtH htab0 hB f hf _ hH0).mono ?_
 rintro e w1 ⟨rfl,hH1⟩
 have c1:=hH1.1 1 (by decide)
 have c2:=hH1.1 2 (by decide)
 simp only [Tryz.gv] at c1 c2
 go_wp2_with (first
  | (go_at_call 44; refine Hid.out ?_))
 refine Lib.hid ?_
 clear c1 c2
 refine (Tryz.fmtH htab0 hB m hm _ hH1).mono ?_
 rintro e w2 ⟨rfl,hH2⟩
 have c3:=hH2.1 3 (by decide)
 simp only [Tryz.gv] at c3
 clear hH0 hH1
 have z0 : ¬ 9223372036854775807 < 10 + (Lib.itoa c).length:=by omega
 have z1 : ¬ 9223372036854775807 < 10 + (Lib.itoa c).length + 10:=by omega
 have z2 : ¬ 9223372036854775807 < 10 + (Lib.itoa c).length + 10 + ((Lib.decDigits f.toNat).length + 4 + (Lib.decDigits m.toNat).length):=by omega
 have z3 : ¬ 9223372036854775807 < 10 + (Lib.itoa c).length + 10 + ((Lib.decDigits f.toNat).length + 4 + (Lib.decDigits m.toNat).length) + 8:=by omega
 have z4 : ¬ 9223372036854775807 < 10 + (Lib.itoa c).length + 10 + ((Lib.decDigits f.toNat).length + 4 + (Lib.decDigits m.toNat).length) + 8 + (Lib.itoa a).length:=by omega
 have z5 : ¬ 9223372036854775807 < 10 + (Lib.itoa c).length + 10 + ((Lib.decDigits f.toNat).length + 4 + (Lib.decDigits m.toNat).length) + 8 + (Lib.itoa a).length + 4:=by omega
 have z6 : ¬ 9223372036854775807 < 10 + (Lib.itoa c).length + 10 + ((Lib.decDigits f.toNat).length + 4 + (Lib.decDigits m.toNat).length) + 8 + (Lib.itoa a).length + 4 + (Lib.itoa b).length:=by omega
 have z7 : ¬ 9223372036854775807 < 10 + (Lib.itoa c).length + 10 + (5 + (Lib.decDigits f.toNat).length + 3):=by omega
 have z8 : ¬ 9223372036854775807 < 10 + (Lib.itoa c).length + 10 + (5 + (Lib.decDigits f.toNat).length + 3) + 8:=by omega
 have z9 : ¬ 9223372036854775807 < 10 + (Lib.itoa c).length + 10 + (5 + (Lib.decDigits f.toNat).length + 3) + 8 + (Lib.itoa a).length:=by omega
 have z10 : ¬ 9223372036854775807 < 10 + (Lib.itoa c).length + 10 + (5 + (Lib.decDigits f.toNat).length + 3) + 8 + (Lib.itoa a).length + 4:=by omega
 have z11 : ¬ 9223372036854775807 < 10 + (Lib.itoa c).length + 10 + (5 + (Lib.decDigits f.toNat).length + 3) + 8 + (Lib.itoa a).length + 4 + (Lib.itoa b).length:=by omega
 cases o
 ·go_wp2
  go_region_held3 (fun w'=>w'.cell? ⟨w.heap.size,0,none⟩ = some (.int .i64 c)∧w'.cell? ⟨w.heap.size,4,none⟩ = some (.int .i64 a)∧w'.cell? ⟨w.heap.size,5,none⟩ = some (.int .i64 b)∧Tryz.Hd W0 w.heap.size (Tryz.gv c f n false a b) w')
   (first | assumption | exact Tryz.Hd.keep (by assumption) | exact Tryz.Hd.keep (Tryz.Hd.drew (by assumption)))
   (first
    | (go_at_call 45; refine (Tryz.itoaS htab0 hB _ (by first | exact hc | exact ha | exact hb) _ (by assumption)).mono ?_; rintro e w' ⟨rfl,hS⟩))
  all_goals
   go_wp2
   go_ret
   refine ⟨congrArg Ending.returned (congrArg Value.string (ByteArray.ext ?_)),Tryz.low (o:=false) hbl (by assumption)⟩
   simp [ByteArray.data_append,Tryz.gapText]
 ·go_wp2
  go_region_held3 (fun w'=>w'.cell? ⟨w.heap.size,0,none⟩ = some (.int .i64 c)∧w'.cell? ⟨w.heap.size,4,none⟩ = some (.int .i64 a)∧w'.cell? ⟨w.heap.size,5,none⟩ = some (.int .i64 b)∧Tryz.Hd W0 w.heap.size (Tryz.gv c f n true a b) w')
   (first | assumption | exact Tryz.Hd.keep (by assumption) | exact Tryz.Hd.keep (Tryz.Hd.drew (by assumption)))
   (first
    | (go_at_call 45; refine (Tryz.itoaS htab0 hB _ (by first | exact hc | exact ha | exact hb) _ (by assumption)).mono ?_; rintro e w' ⟨rfl,hS⟩))
  all_goals
   go_wp2
   go_ret
   refine ⟨congrArg Ending.returned (congrArg Value.string (ByteArray.ext ?_)),Tryz.low (o:=true) hbl (by assumption)⟩
   simp [ByteArray.data_append,Tryz.gapText]
end Go.Proofs
