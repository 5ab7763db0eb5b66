/-
  What the claim leans on, part 5.
-/
import Derived.Test.YtepkcbalmjnhpaaGreatDoorGTx4
import Derived.Lib.ItoaLen
import Derived.Deep.RegionHeld3
import Derived.Deep.RegionWith
set_option linter.unusedVariables false
set_option linter.unusedSimpArgs false
namespace Go.Proofs
open Go.Shelf Go.RowKit Go.Sort Go.Lib
theorem Tryz.app_bytes (a b : List UInt8) : (ByteArray.mk a.toArray)++(ByteArray.mk b.toArray) = ByteArray.mk (a++b).toArray:=by
 apply ByteArray.ext
 simp [ByteArray.data_append]
set_option maxHeartbeats 1600000 in
set_option maxRecDepth 100000 in
theorem Tryz.number_any : ∀ (n : Nat) (x : Int),0≤x→x.toNat≤n→x < 18446744073709551616→∀ w : World,
  Calls Tryz.prog 47 #[.int .u64 x] w fun e w'=>e = .returned (.string ⟨(Lib.decDigits x.toNat).toArray⟩)∧w' = w:=by
 intro n
 induction n with
 | zero=>
  intro x h0 hu hl w
  obtain rfl : x = 0:=by omega
  go_enter Tryz.func47,Tryz.ntmps47
  go_wp2
  go_ret
  exact ⟨by rw [Lib.decDigits_one (by decide)]; rfl,rfl⟩
 | succ n ih=>
  intro x h0 hu hl w
  by_cases h10 : x < 10
  ·have hc : x = 0∨x = 1∨x = 2∨x = 3∨x = 4∨x = 5∨x = 6∨x = 7∨x = 8∨x = 9:=by omega
   rw [Lib.decDigits_one (by omega)]
   rcases hc with rfl | rfl | rfl | rfl | rfl | rfl | rfl | rfl | rfl | rfl <;>
   ·go_enter Tryz.func47,Tryz.ntmps47
    go_wp2
    go_ret
    exact ⟨rfl,rfl⟩
  ·have e1 : (x / 10).toNat = x.toNat / 10:=by omega
   have e2 : (x % 10).toNat = x.toNat % 10:=by omega
   have hd : Lib.decDigits x.toNat = Lib.decDigits (x / 10).toNat++Lib.decDigits (x % 10).toNat:=by
    rw [Lib.decDigits,dif_neg (by omega),e1,e2,Lib.decDigits_one (show x.toNat % 10 < 10 by omega)]
   have l1 : (Lib.decDigits (x.toNat / 10)).length≤20:=by rw [Lib.decDigits_length]; exact Lib.nDigits_le20 _ (by omega)
   have l2 : (Lib.decDigits (x.toNat % 10)).length≤20:=by rw [Lib.decDigits_length]; exact Lib.nDigits_le20 _ (by omega)
   rw [hd]
   go_enter Tryz.func47,Tryz.ntmps47
   go_wp2_with (go_at_call 47; refine (ih _ (by omega) (by omega) (by omega) _).mono ?_; rintro e w' ⟨rfl,rfl⟩)
   go_ret
   refine ⟨?_,rfl⟩
   rw [Tryz.app_bytes,← e1,← e2]
   rfl
theorem Tryz.dec_len (x : Int) (h0 : 0≤x) (hl : x < 18446744073709551616) : (Lib.decDigits x.toNat).length≤20:=by rw [Lib.decDigits_length]; exact Lib.nDigits_le20 _ (by omega)
set_option maxHeartbeats 1600000 in
set_option maxRecDepth 100000 in
theorem Tryz.signed_any (x : Int) (h0 : -9223372036854775808≤x) (hl : x≤9223372036854775807) (w : World) :
  Calls Tryz.prog 46 #[.int .i64 x] w fun e w'=>e = .returned (.string ⟨(Lib.itoa x).toArray⟩)∧w' = w:=by
 by_cases hn : x < 0
 ·have e1 : IntKind.u64.wrap (-IntKind.u64.wrap x) = -x:=by rw [IntKind.wrap_u64,IntKind.wrap_u64]; omega
  have l1:=Tryz.dec_len (-x) (by omega) (by omega)
  have e2 : Lib.itoa x = 45 :: Lib.decDigits (-x).toNat:=by
   unfold Lib.itoa
   rw [if_pos hn,show x.natAbs = (-x).toNat by omega]
  rw [e2]
  go_enter Tryz.func46,Tryz.ntmps46
  go_wp2_with (go_at_call 47; refine (Tryz.number_any _ (-x) (by omega) (Nat.le_refl _) (by omega) _).mono ?_; rintro e w' ⟨rfl,rfl⟩)
  go_ret
  ·refine ⟨?_,rfl⟩
   rw [show (ByteArray.mk #[45]) = ByteArray.mk ([45] : List UInt8).toArray from rfl,Tryz.app_bytes]
   rfl
 ·have e1 : IntKind.u64.wrap x = x:=by rw [IntKind.wrap_u64]; omega
  have e2 : Lib.itoa x = Lib.decDigits x.toNat:=by
   unfold Lib.itoa
   rw [if_neg hn]
  rw [e2]
  go_enter Tryz.func46,Tryz.ntmps46
  go_wp2_with (go_at_call 47; refine (Tryz.number_any _ x (by omega) (Nat.le_refl _) (by omega) _).mono ?_; rintro e w' ⟨rfl,rfl⟩)
  go_ret
  exact ⟨rfl,rfl⟩
def Tryz.gapText (c f n : Int) (o : Bool) (a b : Int) : List UInt8 :=
 [99,111,109,112,111,110,101,110,116,32]++(Lib.itoa c++([58,32,114,101,99,111,114,100,115,32]++((if o then [102,114,111,109,32]++(Lib.decDigits f.toNat++[32,111,110]) else Lib.decDigits f.toNat++([32,116,111,32]++Lib.decDigits n.toNat))++([44,32,116,105,99,107,115,32]++(Lib.itoa a++([32,116,111,32]++Lib.itoa b))))))
set_option maxHeartbeats 6400000 in
set_option maxRecDepth 100000 in
theorem Tryz.refText_any (c f n : Int) (o : Bool) (a b : Int) (hc : -9223372036854775808≤c∧c≤9223372036854775807) (hf : 0≤f∧f < 18446744073709551616) (hn : 0≤n∧n < 18446744073709551616) (ha : -9223372036854775808≤a∧a≤9223372036854775807) (hb : -9223372036854775808≤b∧b≤9223372036854775807) (w : World) :
  Calls Tryz.prog 18 #[.agg #[.int .i64 c,.int .u64 f,.int .u64 n,.bool o,.int .i64 a,.int .i64 b]] w fun e w'=>e = .returned (.string ⟨(Tryz.gapText c f (IntKind.u64.wrap (IntKind.u64.wrap (f + n) - 1)) o a b).toArray⟩)∧Below w.heap.size w w' := by
 have k1:=Tryz.dec_len f hf.1 hf.2
 have hm : 0≤IntKind.u64.wrap (IntKind.u64.wrap (f + n) - 1)∧IntKind.u64.wrap (IntKind.u64.wrap (f + n) - 1) < 18446744073709551616:=by rw [IntKind.wrap_u64]; omega
 have k2:=Tryz.dec_len _ hm.1 hm.2
 generalize hs1 : IntKind.u64.wrap (f + n) = s1 at *
 generalize hs2 : IntKind.u64.wrap (s1 - 1) = m at *
 have k3:=Lib.itoa_length_le c hc.1 hc.2
 have k4:=Lib.itoa_length_le a ha.1 ha.2
 have k5:=Lib.itoa_length_le b hb.1 hb.2
 cases o
 ·go_enter Tryz.func18,Tryz.ntmps18
  go_wp2_with (first
   | (go_at_call 46; refine (Tryz.signed_any _ (by omega) (by omega) _).mono ?_; rintro e w' ⟨rfl,rfl⟩)
   | (go_at_call 47; refine (Tryz.number_any _ _ (by omega) (Nat.le_refl _) (by omega) _).mono ?_; rintro e w' ⟨rfl,rfl⟩))
  go_quiet (first
   | (go_at_call 46; refine Calls.quiet_of_same (Tryz.signed_any _ (by omega) (by omega) _))
   | (go_at_call 47; refine Calls.quiet_of_same (Tryz.number_any _ _ (by omega) (Nat.le_refl _) (by omega) _))
   | (rw [if_neg (by omega)]; exact ⟨rfl,rfl⟩))
  go_wp2
  have hc4 : ((w.alloc (Obj.cells #[Value.int IntKind.i64 c,Value.int IntKind.u64 f,Value.int IntKind.u64 n,Value.bool false,Value.int IntKind.i64 a,Value.int IntKind.i64 b] 60)).drewN nq).cell? ⟨w.heap.size,4,none⟩ = some (.int .i64 a):=by rw [World.cell?_drewN,World.cell?_alloc_new]; rfl
  have hc5 : ((w.alloc (Obj.cells #[Value.int IntKind.i64 c,Value.int IntKind.u64 f,Value.int IntKind.u64 n,Value.bool false,Value.int IntKind.i64 a,Value.int IntKind.i64 b] 60)).drewN nq).cell? ⟨w.heap.size,5,none⟩ = some (.int .i64 b):=by rw [World.cell?_drewN,World.cell?_alloc_new]; rfl
  have hbl:=(Below.refl w.heap.size w).alloc (Nat.le_refl _) (Obj.cells #[Value.int IntKind.i64 c,Value.int IntKind.u64 f,Value.int IntKind.u64 n,Value.bool false,Value.int IntKind.i64 a,Value.int IntKind.i64 b] 60)
  have hbl2 : Below w.heap.size w ((w.alloc (Obj.cells #[Value.int IntKind.i64 c,Value.int IntKind.u64 f,Value.int IntKind.u64 n,Value.bool false,Value.int IntKind.i64 a,Value.int IntKind.i64 b] 60)).drewN nq) := ⟨hbl.os,hbl.tape,hbl.output,hbl.size,hbl.block⟩
  clear hbl
  generalize (w.alloc (Obj.cells #[Value.int IntKind.i64 c,Value.int IntKind.u64 f,Value.int IntKind.u64 n,Value.bool false,Value.int IntKind.i64 a,Value.int IntKind.i64 b] 60)).drewN nq = w1 at hc4 hc5 hbl2 ⊢
  go_quiet (first
   | (go_at_call 46; refine Calls.quiet_of_same (Tryz.signed_any _ (by omega) (by omega) _))
   | (go_at_call 47; refine Calls.quiet_of_same (Tryz.number_any _ _ (by omega) (Nat.le_refl _) (by omega) _))
   | (rw [if_neg (by omega)]; exact ⟨rfl,rfl⟩))
  go_wp2
  go_ret
  refine ⟨congrArg Ending.returned (congrArg Value.string (ByteArray.ext ?_)),?_⟩
  ·simp [ByteArray.data_append,Tryz.gapText]
  ·exact ⟨hbl2.os,hbl2.tape,hbl2.output,hbl2.size,hbl2.block⟩
 ·go_enter Tryz.func18,Tryz.ntmps18
  go_wp2_with (first
   | (go_at_call 46; refine (Tryz.signed_any _ (by omega) (by omega) _).mono ?_; rintro e w' ⟨rfl,rfl⟩)
   | (go_at_call 47; refine (Tryz.number_any _ _ (by omega) (Nat.le_refl _) (by omega) _).mono ?_; rintro e w' ⟨rfl,rfl⟩))
  go_quiet (first
   | (go_at_call 46; refine Calls.quiet_of_same (Tryz.signed_any _ (by omega) (by omega) _))
   | (go_at_call 47; refine Calls.quiet_of_same (Tryz.number_any _ _ (by omega) (Nat.le_refl _) (by omega) _))
   | (rw [if_neg (by omega)]; exact ⟨rfl,rfl⟩))
  go_wp2
  go_ret
  refine ⟨congrArg Ending.returned (congrArg Value.string (ByteArray.ext ?_)),?_⟩
  ·simp [ByteArray.data_append,Tryz.gapText]
  ·have hbl:=(Below.refl w.heap.size w).alloc (Nat.le_refl _) (Obj.cells #[Value.int IntKind.i64 c,Value.int IntKind.u64 f,Value.int IntKind.u64 n,Value.bool true,Value.int IntKind.i64 a,Value.int IntKind.i64 b] 60)
   exact ⟨hbl.os,hbl.tape,hbl.output,hbl.size,hbl.block⟩
end Go.Proofs
