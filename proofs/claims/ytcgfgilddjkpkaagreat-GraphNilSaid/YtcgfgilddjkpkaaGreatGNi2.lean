/-
  What the claim leans on, part 2.
-/
import Derived.Test.YtcgfgilddjkpkaaGreatGNi1
import Derived.Lib.Zigzag
import Derived.Test.YtcgfgilddjkpkaaGreatRows
import Derived.RegionTactic
import Derived.ChangeKeysEq
set_option linter.unusedVariables false
set_option linter.unusedSimpArgs false
namespace Go.Proofs.YtcgfgilddjkpkaaGreat
def putU (v : Int) : List Int:=if h : 128≤v then (v % 128 + 128) :: putU (v / 128) else [v]
 termination_by v.toNat
 decreasing_by omega
theorem putU_big {v : Int} (h : 128≤v) : putU v = (v % 128 + 128) :: putU (v / 128):=by rw [putU]; simp [h]
theorem putU_small {v : Int} (h : v < 128) : putU v = [v]:=by rw [putU]; simp; omega
theorem putU_len (n : Nat) : ∀ v : Int,v < 128 ^ (n + 1)→(putU v).length≤n + 1:=by
 induction n with
 | zero=>intro v hv; rw [putU_small (by simpa using hv)]; simp
 | succ n ih=>
  intro v hv
  by_cases h : 128≤v
  ·rw [putU_big h]
   have : v / 128 < 128 ^ (n + 1):=by
    rw [Int.ediv_lt_iff_lt_mul (by omega)]
    rw [Int.pow_succ] at hv; exact hv
   have:=ih _ this
   simp; omega
  ·rw [putU_small (by omega)]; simp
theorem putU_ten {v : Int} (h : v < 18446744073709551616) : (putU v).length≤10:=by
 have : v < 128 ^ (9 + 1):=by
  have : (128 : Int) ^ (9 + 1) = 1180591620717411303424:=by decide
  omega
 exact putU_len 9 v this
theorem or_128 {v : Int} (h : 0≤v) : bits .or .u8 (v % 256) 128 = v % 128 + 128:=by
 have key : ∀ x : Fin 256,bits .or .u8 ((x.val : Nat) : Int) 128 = ((x.val % 128 + 128 : Nat) : Int):=by decide +kernel
 have:=key ⟨(v % 256).toNat,by omega⟩
 simp only at this
 rw [Int.toNat_of_nonneg (by omega)] at this
 rw [this]; omega
def zig (v : Int) : Int:=if v < 0 then 2 * (-(v + 1)) + 1 else 2 * v
theorem u64_not {x : Int} (h0 : 0≤x) (h1 : x < 18446744073709551616) : bits .xor .u64 IntKind.u64.max x = 18446744073709551615 - x:=by
 have e : IntKind.u64.max = 18446744073709551615:=rfl
 rw [e,u64_xor _ _ (by omega) (by omega) h0 h1]
 have:=Lib.xor_ones64 x.toNat (by omega)
 have e2 : (18446744073709551615 : Int).toNat = 2 ^ 64 - 1:=rfl
 rw [e2,this]; omega
theorem zig_neg {v : Int} (h0 : -9223372036854775808≤v) (h : v < 0) : bits .xor .u64 IntKind.u64.max (IntKind.u64.wrap (IntKind.u64.wrap v * 2)) = zig v:=by
 have e1 : IntKind.u64.wrap v = v + 18446744073709551616:=by
  rw [IntKind.wrap_u64]; omega
 have e2 : IntKind.u64.wrap (IntKind.u64.wrap v * 2) = 2 * v + 18446744073709551616:=by
  rw [e1,IntKind.wrap_u64]; omega
 rw [e2,u64_not (by omega) (by omega)]
 unfold zig; rw [if_pos h]; omega
theorem zig_pos {v : Int} (h : 0≤v) : v * 2 = zig v:=by unfold zig; rw [if_neg (by omega)]; omega
theorem zig_range {v : Int} (h0 : -9223372036854775808≤v) (h1 : v≤9223372036854775807) : 0≤zig v∧zig v < 18446744073709551616:=by unfold zig; split <;> omega
def putI (v : Int) : List Int:=putU (zig v)
def clkA (c : Nat→Int) : Array Value := #[.int .u64 (c 0),.int .u64 (c 1),.int .u64 (c 2),.int .u64 (c 3),.int .u64 (c 4),.int .u64 (c 5),.int .u64 (c 6),.int .u64 (c 7),.int .u64 (c 8),.int .u64 (c 9),.int .u64 (c 10),.int .u64 (c 11),.int .u64 (c 12),.int .u64 (c 13),.int .u64 (c 14),.int .u64 (c 15)]
theorem clkA_size (c : Nat→Int) : (clkA c).size = 16:=rfl
theorem clkA_get (c : Nat→Int) {k : Nat} (h : k < 16) : (clkA c)[k]? = some (.int .u64 (c k)):=by
 match k,h with
 | 0,_=>rfl
 | 1,_=>rfl
 | 2,_=>rfl
 | 3,_=>rfl
 | 4,_=>rfl
 | 5,_=>rfl
 | 6,_=>rfl
 | 7,_=>rfl
 | 8,_=>rfl
 | 9,_=>rfl
 | 10,_=>rfl
 | 11,_=>rfl
 | 12,_=>rfl
 | 13,_=>rfl
 | 14,_=>rfl
 | 15,_=>rfl
 | k + 16,h=>exact absurd h (by omega)
theorem clkA_list (c : Nat→Int) : (clkA c).toList = (List.range 16).map fun i=>.int .u64 (c i):=rfl
def sameTo (a b : Nat→Int) : Nat→Bool
 | 0=>true
 | k + 1=>sameTo a b k && a k == b k
def leqTo (a b : Nat→Int) : Nat→Bool
 | 0=>true
 | k + 1=>leqTo a b k && decide (a k≤b k)
theorem leqTo_iff (a b : Nat→Int) (n : Nat) : leqTo a b n = true↔∀ i < n,a i≤b i:=by
 induction n with
 | zero=>simp [leqTo]
 | succ n ih=>
  simp only [leqTo,Bool.and_eq_true,ih,decide_eq_true_eq]
  constructor
  ·rintro ⟨h1,h2⟩ i hi
   rcases Nat.lt_succ_iff_lt_or_eq.1 hi with h | rfl
   ·exact h1 i h
   ·exact h2
  ·exact fun h=>⟨fun i hi=>h i (by omega),h n (by omega)⟩
theorem leqTo_false {a b : Nat→Int} {n k : Nat} (hk : k < n) (h : b k < a k) : leqTo a b n = false:=by
 rw [Bool.eq_false_iff]; intro ht
 have:=(leqTo_iff a b n).1 ht k hk
 omega
theorem sameTo_iff (a b : Nat→Int) (n : Nat) : sameTo a b n = true↔∀ i < n,a i = b i:=by
 induction n with
 | zero=>simp [sameTo]
 | succ n ih=>
  simp only [sameTo,Bool.and_eq_true,ih,beq_iff_eq]
  constructor
  ·rintro ⟨h1,h2⟩ i hi
   rcases Nat.lt_succ_iff_lt_or_eq.1 hi with h | rfl
   ·exact h1 i h
   ·exact h2
  ·exact fun h=>⟨fun i hi=>h i (by omega),h n (by omega)⟩
def cmpC (a b : Nat→Int) : Int:=if sameTo a b 16 then 1 else if leqTo a b 16 then 2 else if leqTo b a 16 then 3 else 4
def clenTo (c : Nat→Int) : Nat→Nat
 | 0=>0
 | k + 1=>if c k = 0 then clenTo c k else k + 1
theorem clenTo_le (c : Nat→Int) (k : Nat) : clenTo c k≤k:=by
 induction k with
 | zero=>simp [clenTo]
 | succ k ih=>simp only [clenTo]; split <;> omega
def clen (c : Nat→Int) : Nat:=clenTo c 16
def cents (c : Nat→Int) : List Int:=(List.range (clen c)).map c
def clkBytes (c : Nat→Int) : List Int:=(clen c : Int) :: (cents c).flatMap putU
def entB (c : Nat→Int) (k : Nat) : List Int:=((List.range k).map c).flatMap putU
theorem entB_succ (c : Nat→Int) (k : Nat) : entB c (k + 1) = entB c k++putU (c k):=by
 simp [entB,List.range_succ]
theorem clkBytes_eq (c : Nat→Int) : clkBytes c = (clen c : Int) :: entB c (clen c):=rfl
def U64 (v : Int) : Prop:=0≤v∧v < 18446744073709551616
def I64 (v : Int) : Prop := -9223372036854775808≤v∧v≤9223372036854775807
theorem entB_len {c : Nat→Int} (hc : ∀ i,U64 (c i)) (k : Nat) : (entB c k).length≤10 * k:=by
 induction k with
 | zero=>simp [entB]
 | succ k ih=>rw [entB_succ]; have:=putU_ten (hc k).2; simp; omega
theorem clen_le (c : Nat→Int) : clen c≤16:=clenTo_le c 16
structure Ev where
 tick : Int
 comp : Int
 kind : Int
 peer : Int
 n : Int
 copy : Int
 handler : Int
 d : Int
 args : List Int
def evA (e : Ev) (A : Option Addr) (c : Nat) : Array Value :=
 #[.int .i64 e.tick,.int .i64 e.comp,.int .u8 e.kind,.int .i64 e.peer,.int .i64 e.n,.int .i64 e.copy,.int .i64 e.handler,.int .i64 e.d,.slice A e.args.length c]
structure Re where
 comp : Int
 seq : Int
 clk : Nat→Int
 what : Int
 ev : Ev
 count : Int
def recA (r : Re) (A : Option Addr) (c : Nat) : Array Value :=
 #[.int .i64 r.comp,.int .u64 r.seq,.int .u64 (r.clk 0),.int .u64 (r.clk 1),.int .u64 (r.clk 2),.int .u64 (r.clk 3),.int .u64 (r.clk 4),.int .u64 (r.clk 5),.int .u64 (r.clk 6),.int .u64 (r.clk 7),.int .u64 (r.clk 8),.int .u64 (r.clk 9),.int .u64 (r.clk 10),.int .u64 (r.clk 11),.int .u64 (r.clk 12),.int .u64 (r.clk 13),.int .u64 (r.clk 14),.int .u64 (r.clk 15),.int .u8 r.what,
  .int .i64 r.ev.tick,.int .i64 r.ev.comp,.int .u8 r.ev.kind,.int .i64 r.ev.peer,.int .i64 r.ev.n,.int .i64 r.ev.copy,.int .i64 r.ev.handler,.int .i64 r.ev.d,.slice A r.ev.args.length c,.int .u64 r.count]
theorem recA_size (r : Re) (A : Option Addr) (c : Nat) : (recA r A c).size = 29:=rfl
@[go_sem] theorem recA_0 (r : Re) (A : Option Addr) (c : Nat) : (recA r A c)[0]? = some (.int .i64 r.comp):=rfl
@[go_sem] theorem recA_0' (r : Re) (A : Option Addr) (c : Nat) (h : 0 < (recA r A c).size) : (recA r A c)[0] = .int .i64 r.comp:=rfl
@[go_sem] theorem recA_1 (r : Re) (A : Option Addr) (c : Nat) : (recA r A c)[1]? = some (.int .u64 r.seq):=rfl
@[go_sem] theorem recA_1' (r : Re) (A : Option Addr) (c : Nat) (h : 1 < (recA r A c).size) : (recA r A c)[1] = .int .u64 r.seq:=rfl
@[go_sem] theorem recA_18 (r : Re) (A : Option Addr) (c : Nat) : (recA r A c)[18]? = some (.int .u8 r.what):=rfl
@[go_sem] theorem recA_18' (r : Re) (A : Option Addr) (c : Nat) (h : 18 < (recA r A c).size) : (recA r A c)[18] = .int .u8 r.what:=rfl
@[go_sem] theorem recA_19 (r : Re) (A : Option Addr) (c : Nat) : (recA r A c)[19]? = some (.int .i64 r.ev.tick):=rfl
@[go_sem] theorem recA_19' (r : Re) (A : Option Addr) (c : Nat) (h : 19 < (recA r A c).size) : (recA r A c)[19] = .int .i64 r.ev.tick:=rfl
@[go_sem] theorem recA_27 (r : Re) (A : Option Addr) (c : Nat) : (recA r A c)[27]? = some (.slice A r.ev.args.length c):=rfl
@[go_sem] theorem recA_27' (r : Re) (A : Option Addr) (c : Nat) (h : 27 < (recA r A c).size) : (recA r A c)[27] = .slice A r.ev.args.length c:=rfl
@[go_sem] theorem recA_28 (r : Re) (A : Option Addr) (c : Nat) : (recA r A c)[28]? = some (.int .u64 r.count):=rfl
@[go_sem] theorem recA_28' (r : Re) (A : Option Addr) (c : Nat) (h : 28 < (recA r A c).size) : (recA r A c)[28] = .int .u64 r.count:=rfl
theorem recA_clk (r : Re) (A : Option Addr) (c : Nat) : ((recA r A c).toList.drop 2).take 16 = (clkA r.clk).toList:=rfl
theorem recA_ev (r : Re) (A : Option Addr) (c : Nat) : ((recA r A c).toList.drop 19).take 9 = (evA r.ev A c).toList:=rfl
theorem recA_one (r : Re) (A : Option Addr) (c : Nat) : ∀ u∈(recA r A c).toList,u.oneCell' = true:=by
 intro u hu
 simp only [recA,List.mem_cons,List.not_mem_nil,or_false] at hu
 rcases hu with rfl | rfl | rfl | rfl | rfl | rfl | rfl | rfl | rfl | rfl | rfl | rfl | rfl | rfl | rfl | rfl | rfl | rfl | rfl | rfl | rfl | rfl | rfl | rfl | rfl | rfl | rfl | rfl | rfl <;> rfl
def inB (a b : Int) : Bool:=decide (0≤a∧a≤b)
def evOk (e : Ev) (c : Int) : Bool :=
 e.comp == c && inB e.tick 200 && decide (1≤e.kind) && decide (e.kind≤11) && inB e.peer 8 && inB e.n 2147483647 && inB e.copy 1 && inB e.handler 7 && decide (e.args.length≤4)
def evEq (a b : Ev) : Bool :=
 a.tick == b.tick && a.comp == b.comp && a.kind == b.kind && a.peer == b.peer && a.n == b.n && a.copy == b.copy && a.handler == b.handler && a.d == b.d && a.args == b.args
def ev0 : Ev := ⟨0,0,0,0,0,0,0,0,[]⟩
def clk0 : Nat→Int:=fun _=>0
def bareB (r : Re) : Bool:=sameTo r.clk clk0 16 && evEq r.ev ev0
def okWhat (r : Re) : Bool :=
 if r.what = 1 then evOk r.ev r.comp && r.count == 0
 else if r.what = 2 then bareB r && decide (0 < r.count) && decide (r.count≤18446744073709551615 - r.seq)
 else if r.what = 3 then bareB r && r.count == 0
 else false
def validB (r : Re) : Bool:=okWhat r && inB r.comp 8
theorem cmpC_one (a b : Nat→Int) : (cmpC a b == 1) = sameTo a b 16:=by
 unfold cmpC; cases sameTo a b 16 <;> simp
 split
 ·simp
 ·split <;> simp
def checkN (r : Re) : Int:=if validB r then 0 else 1
def re0 : Re := ⟨0,0,clk0,0,ev0,0⟩
end Go.Proofs.YtcgfgilddjkpkaaGreat
set_option maxHeartbeats 400000
namespace Go.Proofs.YtcgfgilddjkpkaaGreat
open Go.RowKit
theorem elU8 : El Tryz.prog 46 5 (.int .u8 0) 1 1:=El.of Tryz.underlying46 (by kernel_rfl) rfl (by decide)
theorem put_any (base : Nat) (A : Option Addr) (c : Nat) (xs : List Int) (v : Int) (w : World) (hv0 : 0≤v) (hv1 : v < 18446744073709551616)
  (hown : w.ownsRow base 5 1 (.slice A xs.length c) xs.length (xs.map (Value.int .u8))) (hb : base≤w.heap.size) (hn : xs.length≤1099511627776) :
  Calls Tryz.prog 97 #[.slice A xs.length c,.int .u64 v] w (RetInts 5 .u8 base (xs++putU v) w):=by
 go_enter Tryz.func97,Tryz.ntmps97
 go_wp2
 go_loopw [0,1] (fun p q wr=>∃ (A' : Option Addr) (c' : Nat) (ys : List Int) (v' : Int),p = .slice A' (xs.length + ys.length) c'∧q = .int .u64 v'∧0≤v'∧v' < 18446744073709551616∧Hid (ys++putU v' = putU v) ∧
   wr.ownsRow base 5 1 (.slice A' (xs.length + ys.length) c') (xs.length + ys.length) ((xs++ys).map (Value.int .u8))∧Below base w wr∧base≤wr.heap.size) (fun _ q _=>(intOf q).toNat)
 case atStart=>exact ⟨A,c,[],v,rfl,rfl,hv0,hv1,rfl,by simpa using hown,Below.refl _ _,hb⟩
 case round=>
  obtain ⟨A',c',ys,v',rfl,rfl,h0,h1,hy,ho,hbw,hbs⟩ := hrel
  have hyl : ys.length≤10:=by have:=congrArg List.length hy.out; have:=putU_ten hv1; simp at *; omega
  by_cases hlt : 128≤v'
  ·have hor:=or_128 h0
   go_wp2_with (at_builtin; refine wpList_app1 _ (.tmp 7) (.tmp 11) elU8 (by rfl) (by rfl) base (.slice A' (xs.length + ys.length) c') _ _ (by rfl) ho _ (by rfl) (by rfl) ⟨?_,?_,hbs⟩ ?_; omega; omega; intro A1 c1 w1 ho1 hb1 hg1 hw1)
   go_roundw
   case rel=>
    refine ⟨A1,c1,ys++[v' % 128 + 128],v' / 128,by simp [Nat.add_assoc],rfl,by omega,by omega,?_,?_,hbw.trans hb1,Nat.le_trans hbs hb1.size⟩
    ·have:=hy.out
     rw [putU_big hlt] at this
     simpa [Hid] using this
    ·simpa [Nat.add_assoc] using ho1
   case measure=>simp [intOf]; omega
  ·have hsm:=putU_small (v:=v') (by omega)
   have hyy : xs++putU v = (xs++ys)++[v']:=by rw [← hy.out,hsm]; simp
   have Hyy:=Lib.hid hyy
   clear hyy hsm
   have hm : v' % 256 = v' := by omega
   go_wp2_with (at_builtin; refine wpList_app1 _ (.tmp 15) (.tmp 18) elU8 (by rfl) (by rfl) base (.slice A' (xs.length + ys.length) c') _ _ (by rfl) ho _ (by rfl) (by rfl) ⟨?_,?_,hbs⟩ ?_; omega; omega; intro A1 c1 w1 ho1 hb1 hg1 hw1)
   go_ret
   refine ⟨A1,c1,?_,?_,hbw.trans hb1⟩
   ·rw [Hyy.out]; simp [Nat.add_assoc]
   ·rw [Hyy.out]; simpa [Nat.add_assoc] using ho1
theorem PutUint_any (A : Option Addr) (c : Nat) (xs : List Int) (v : Int) (w : World) (hv0 : 0≤v) (hv1 : v < 18446744073709551616)
  (hat : At w A (xs.map (Value.int .u8))) (hn : xs.length≤1099511627776) :
  Calls Tryz.prog 65 #[.slice A xs.length c,.int .u64 v] w (RetInts 5 .u8 w.heap.size (xs++putU v) w):=by
 go_enter Tryz.func65,Tryz.ntmps65
 go_wp2_with (first
  | (at_make; refine wpList_mk0 _ _ _ elU8 (by rfl) (by rfl) (xs.length + 10) _ (by rfl) (by rfl) (by omega) ⟨?_,?_⟩ ?_; omega; omega; intro w1 ho1 he1 hs1)
  | (at_builtin; refine wpList_app _ (.tmp 10) (.tmp 11) elU8 (by rfl) (by rfl) w.heap.size _ 0 [] (by rfl) ho1 A xs.length c (xs.map (Value.int .u8)) (by rfl) ?_ (hat.ext he1) (ints_one _ _) ?_ ?_ ?_ ?_; simp; omega; omega; omega; intro A2 c2 w2 ho2 hb2 hg2 hl2))
 have h12 : Ext w w2:=Below.trans he1.below hb2
 refine (put_any w.heap.size A2 c2 xs v _ hv0 hv1 (by simpa using ho2) h12.size hn).mono ?_
 rintro e w3 ⟨A3,c3,rfl,ho3,hb3⟩
 go_wp2
 go_ret
 exact ⟨A3,c3,ret_slice (by simp),ho3,Below.trans h12 hb3⟩
theorem Zigzag_any (v : Int) (w : World) (h0 : -9223372036854775808≤v) (h1 : v≤9223372036854775807) :
  Calls Tryz.prog 99 #[.int .i64 v] w fun e w'=>e = .returned (.int .u64 (zig v))∧w = w' := by
 by_cases hneg : v < 0
 ·go_enter Tryz.func99,Tryz.ntmps99
  go_wp2
  go_ret
  exact ⟨ret_int (zig_neg h0 hneg),rfl⟩
 ·go_enter Tryz.func99,Tryz.ntmps99
  go_wp2
  go_ret
  exact ⟨ret_int (zig_pos (by omega)),rfl⟩
theorem PutInt_any (A : Option Addr) (c : Nat) (xs : List Int) (v : Int) (w : World) (h0 : -9223372036854775808≤v) (h1 : v≤9223372036854775807)
  (hat : At w A (xs.map (Value.int .u8))) (hn : xs.length≤1099511627776) :
  Calls Tryz.prog 67 #[.slice A xs.length c,.int .i64 v] w (RetInts 5 .u8 w.heap.size (xs++putI v) w):=by
 have hz:=zig_range h0 h1
 go_enter Tryz.func67,Tryz.ntmps67
 go_wp2_with (first
  | (go_at_call 99; refine (Zigzag_any _ _ h0 h1).mono ?_; rintro e w' ⟨rfl,rfl⟩)
  | (go_at_call 65; refine (PutUint_any A c xs (zig v) _ hz.1 hz.2 hat hn).mono ?_; rintro e w1 ⟨A1,c1,rfl,ho1,hb1⟩))
 go_ret
 exact ⟨A1,c1,ret_slice (by simp [putI]),ho1,hb1⟩
theorem Leq_any (a b : Nat→Int) (w : World) :
  Calls Tryz.prog 48 #[.agg (clkA a),.agg (clkA b)] w fun e w'=>e = .returned (.bool (leqTo a b 16))∧Ext w w' := by
 have hsa:=clkA_size a
 have hsb:=clkA_size b
 go_enter Tryz.func48,Tryz.ntmps48
 go_wp2
 go_loopw [6] (fun i wr=>∃ k : Nat,k≤16∧i = .int .i64 k∧Hid (leqTo a b k = true)∧Ext w wr∧Blk wr w.heap.size 61 (clkA a)∧Blk wr (w.heap.size + 1) 61 (clkA b)) (fun i _=>16 - (intOf i).toNat)
 case atStart=>exact ⟨0,by omega,rfl,rfl,((Ext.refl w).alloc _).alloc _,(Blk.new w _ _).ext ((Ext.refl _).alloc _),Blk.new2 w _ _ _ _⟩
 case round=>
  obtain ⟨k,hk,rfl,hl,hx,ha,hb⟩ := hrel
  by_cases hlt : k < 16
  ·have h1:=(ha.cell k).trans (clkA_get a hlt)
   have h2:=(hb.cell k).trans (clkA_get b hlt)
   have h3 : (0 : Int)≤(k : Int):=by omega
   have h4 : (k : Int) < 16:=by omega
   by_cases hc : b k < a k
   ·go_wp2
    go_quiet (fail)
    go_wp2
    go_ret
    exact ⟨ret_bool (leqTo_false hlt hc).symm,hx.drewN _⟩
   ·go_wp2
    go_quiet (fail)
    go_wp2
    go_roundw
    case rel=>exact ⟨k + 1,by omega,by go_num,by have:=hl.out; simp [Hid,leqTo,this]; omega,hx.drewN _,ha.ext ((Ext.refl _).drewN _),hb.ext ((Ext.refl _).drewN _)⟩
    case measure=>simp [intOf]; omega
  ·obtain rfl : k = 16:=by omega
   go_wp2
   go_ret
   exact ⟨ret_bool hl.out.symm,hx⟩
theorem run_part_int {P : Program} {e : TypeId} {k : IntKind} (he : P.underlying e = some (.int k)) (xs : Array Value) (i : Nat) (v : Value) (hx : xs[i]? = some v) (w : World) :
  (part e xs i).run P w = .ok v w:=by
 simp [part,isAgg,run_underlying he,hx]
theorem eqItems_ints {P : Program} (d : Nat) {e : TypeId} {k : IntKind} (he : P.underlying e = some (.int k)) (xs ys : Array Value) (a b : Nat→Int) (w : World) :
  ∀ is : List Nat,(∀ i∈is,xs[i]? = some (.int k (a i)))→(∀ i∈is,ys[i]? = some (.int k (b i)))→(Op.eqItems (d + 1) e 1 xs ys is).run P w = .ok (is.all fun i=>a i == b i) w
 | [],_,_=>by simp [Op.eqItems]
 | i :: is,hx,hy=>by
  have ih:=eqItems_ints d he xs ys a b w is (fun j hj=>hx j (by simp [hj])) (fun j hj=>hy j (by simp [hj]))
  simp only [Op.eqItems,Sem.run_bind,Nat.mul_one,run_part_int he xs i _ (hx i (by simp)) w,run_part_int he ys i _ (hy i (by simp)) w,Result.andThen_ok,run_equalIn_int w d e k k _ _ he]
  cases h : (a i == b i)
  ·simp [h]
  ·simp [h,ih]
theorem sameTo_all (a b : Nat→Int) (n : Nat) : ((List.range n).all fun i=>a i == b i) = sameTo a b n:=by
 rw [Bool.eq_iff_iff,sameTo_iff]; simp
theorem clk_size : (Tryz.prog.info? 61).map (·.size) = some 16:=by kernel_rfl
theorem clk_fields : (Tryz.prog.fieldsOf 61).toList.map (fun f=>(f.name,f.type,f.offset)) = [("at",59,0)]:=by kernel_rfl
theorem one_field {fs : List Field} {n : String} {t o : Nat} (h : fs.map (fun f=>(f.name,f.type,f.offset)) = [(n,t,o)]) : ∃ f,fs = [f]∧f.name = n∧f.type = t∧f.offset = o:=by
 match fs,h with
 | [f],h=>simp at h; exact ⟨f,rfl,h⟩
theorem clk_part (c : Nat→Int) (w : World) : (part 59 (clkA c) 0).run Tryz.prog w = .ok (.agg (clkA c)) w:=by
 have hz : (Tryz.prog.info? 59).map (·.size) = some 16:=by kernel_rfl
 cases hq : Tryz.prog.info? 59 with
 | none=>simp [hq] at hz
 | some i=>
  have hs : i.size = 16:=by simpa [hq] using hz
  have hx : (clkA c).extract 0 16 = clkA c:=by
   have:=Array.extract_size (xs:=clkA c)
   rwa [clkA_size] at this
  simp [part,isAgg,run_underlying Tryz.underlying59,sizeOf,typeInfo,hq,hs,hx]
theorem eql_arr (d : Nat) (a b : Nat→Int) (w : World) : (Op.equalIn (d + 2) 59 (.agg (clkA a)) (.agg (clkA b))).run Tryz.prog w = .ok (sameTo a b 16) w:=by
 have hc : Tryz.prog.cellsOf 22 = 1:=by kernel_rfl
 obtain ⟨i8,hi8⟩ : ∃ i,Tryz.prog.info? 22 = some i:=Option.isSome_iff_exists.1 (by kernel_rfl)
 have hi:=eqItems_ints (P:=Tryz.prog) d Tryz.underlying22 (clkA a) (clkA b) a b w (List.range 16) (fun i hi=>clkA_get a (by simpa using hi)) (fun i hi=>clkA_get b (by simpa using hi))
 have harr:=run_equalIn_array (P:=Tryz.prog) w (d + 1) (clkA a) (clkA b) Tryz.underlying59 hi8
 rw [hc,hi] at harr
 rw [harr,sameTo_all]
theorem eql_clk3 (d : Nat) (a b : Nat→Int) (w : World) : (Op.equalIn (d + 3) 61 (.agg (clkA a)) (.agg (clkA b))).run Tryz.prog w = .ok (sameTo a b 16) w:=by
 obtain ⟨f,hf,hn,ht,ho⟩ := one_field clk_fields
 rw [run_equalIn_struct w (d + 2) 61 _ _ (by kernel_rfl) (by kernel_rfl),hf]
 simp only [Op.eqFields,hn,ht,ho,Sem.run_bind,Sem.run_ite,clk_part,Result.andThen_ok,eql_arr]
 rw [if_pos (by decide)]
 cases h : sameTo a b 16 <;> simp
theorem eql_clk (a b : Nat→Int) (w : World) : (binOp .eql 61 (.agg (clkA a)) (.agg (clkA b))).run Tryz.prog w = .ok (.bool (sameTo a b 16)) w:=by
 rw [run_eql_struct]
 have h3:=eql_clk3 9997 a b w
 simp only [Nat.reduceAdd] at h3
 rw [h3]; rfl
theorem Compare_any (a b : Nat→Int) (w : World) :
  Calls Tryz.prog 26 #[.agg (clkA a),.agg (clkA b)] w fun e w'=>e = .returned (.int .u8 (cmpC a b))∧Ext w w' := by
 have hsa:=clkA_size a
 have hsb:=clkA_size b
 have heq:=eql_clk a b
 have hx2 : Ext w ((w.alloc (.cells (clkA a) 61)).alloc (.cells (clkA b) 61)):=((Ext.refl w).alloc _).alloc _
 have hB1 : Blk ((w.alloc (.cells (clkA a) 61)).alloc (.cells (clkA b) 61)) w.heap.size 61 (clkA a):=(Blk.new w _ _).ext ((Ext.refl _).alloc _)
 have hB2 : Blk ((w.alloc (.cells (clkA a) 61)).alloc (.cells (clkA b) 61)) (w.heap.size + 1) 61 (clkA b):=Blk.new2 w _ _ _ _
 have hcm:=Lib.hid (show cmpC a b = if sameTo a b 16 then 1 else if leqTo a b 16 then 2 else if leqTo b a 16 then 3 else 4 from rfl)
 have K1:=Lib.hid (Leq_any a b)
 have K2:=Lib.hid (Leq_any b a)
 generalize cmpC a b = cm at *
 generalize leqTo a b 16 = l1 at *
 generalize leqTo b a 16 = l2 at *
 cases hs : sameTo a b 16
 ·rw [hs] at hcm heq
  go_enter Tryz.func26,Tryz.ntmps26
  go_wp2_with (first
   | (refine wpList_load_blk 61 (.tmp 2) (by rfl) (by rfl) w.heap.size 61 (clkA a) (by rfl) Tryz.underlying61 (by rfl) clk_size hB1 ?_)
   | (refine wpList_load_blk 61 (.tmp 3) (by rfl) (by rfl) (w.heap.size + 1) 61 (clkA b) (by rfl) Tryz.underlying61 (by rfl) clk_size hB2 ?_))
  refine (K1.out _).mono ?_
  rintro e w1 ⟨rfl,hx1⟩
  cases l1
  ·go_wp2_with (first
    | (refine wpList_load_blk 61 (.tmp 2) (by rfl) (by rfl) w.heap.size 61 (clkA a) (by rfl) Tryz.underlying61 (by rfl) clk_size (hB1.ext hx1) ?_)
    | (refine wpList_load_blk 61 (.tmp 3) (by rfl) (by rfl) (w.heap.size + 1) 61 (clkA b) (by rfl) Tryz.underlying61 (by rfl) clk_size (hB2.ext hx1) ?_))
   refine (K2.out _).mono ?_
   rintro e w2 ⟨rfl,hx3⟩
   cases l2
   ·go_wp2
    go_ret
    exact ⟨ret_int (by rw [hcm.out]; rfl),(hx2.trans hx1).trans hx3⟩
   ·go_wp2
    go_ret
    exact ⟨ret_int (by rw [hcm.out]; rfl),(hx2.trans hx1).trans hx3⟩
  ·go_wp2
   go_ret
   exact ⟨ret_int (by rw [hcm.out]; rfl),hx2.trans hx1⟩
 ·rw [hs] at hcm heq
  go_enter Tryz.func26,Tryz.ntmps26
  go_wp2_with (first
   | (refine wpList_load_blk 61 (.tmp 2) (by rfl) (by rfl) w.heap.size 61 (clkA a) (by rfl) Tryz.underlying61 (by rfl) clk_size hB1 ?_)
   | (refine wpList_load_blk 61 (.tmp 3) (by rfl) (by rfl) (w.heap.size + 1) 61 (clkA b) (by rfl) Tryz.underlying61 (by rfl) clk_size hB2 ?_))
  go_ret
  exact ⟨ret_int (by rw [hcm.out]; rfl),hx2⟩
theorem length_any (c : Nat→Int) (w : World) :
  Calls Tryz.prog 98 #[.agg (clkA c)] w fun e w'=>e = .returned (.int .i64 (clen c))∧Ext w w' := by
 have hsa:=clkA_size c
 go_enter Tryz.func98,Tryz.ntmps98
 go_wp2
 clear hsa
 go_loop [3,5] (fun n i=>∃ k : Nat,k≤16∧i = .int .i64 k∧n = .int .i64 (clenTo c k)) (fun _ i=>16 - (intOf i).toNat)
 case atStart=>exact ⟨0,by omega,rfl,rfl⟩
 case round=>
  obtain ⟨k,hk,rfl,rfl⟩ := hrel
  have hle:=clenTo_le c k
  by_cases hlt : k < 16
  ·have h1:=clkA_get c hlt
   by_cases hc : c k = 0
   ·have hb : (c k != 0) = false:=by simp [hc]
    have hn : Hid (clenTo c (k + 1) = clenTo c k):=by simp [Hid,clenTo,hc]
    go_wp2
    go_round
    case rel=>exact ⟨k + 1,by omega,by go_num,by rw [hn.out]⟩
    case measure=>simp [intOf]; omega
   ·have hb : (c k != 0) = true:=by simp [hc]
    have hn : Hid (clenTo c (k + 1) = k + 1):=by simp [Hid,clenTo,hc]
    go_wp2
    go_round
    case rel=>exact ⟨k + 1,by omega,by go_num,by rw [hn.out]; go_num⟩
    case measure=>simp [intOf]; omega
  ·obtain rfl : k = 16:=by omega
   go_wp2
   go_ret
   exact ⟨rfl,(Ext.refl w).alloc _⟩
theorem ClkBytes_any (c : Nat→Int) (A : Option Addr) (cap : Nat) (xs : List Int) (w : World) (hc : ∀ i,U64 (c i))
  (hat : At w A (xs.map (Value.int .u8))) (hn : xs.length≤1000000000) :
  Calls Tryz.prog 66 #[.agg (clkA c),.slice A xs.length cap] w (RetInts 5 .u8 w.heap.size (xs++clkBytes c) w):=by
 have hsa:=clkA_size c
 have hle:=clen_le c
 have hB : Blk (w.alloc (.cells (clkA c) 61)) w.heap.size 61 (clkA c):=Blk.new w _ _
 have hx0 : Ext w (w.alloc (.cells (clkA c) 61)):=(Ext.refl w).alloc _
 have hmod : (clen c : Int) % 256 = clen c:=by omega
 go_enter Tryz.func66,Tryz.ntmps66
 go_wp2_with (first
  | (refine wpList_load_blk 61 (.tmp 2) (by rfl) (by rfl) w.heap.size 61 (clkA c) (by rfl) Tryz.underlying61 (by rfl) clk_size hB ?_)
  | (go_at_call 98; refine (length_any c _).mono ?_; rintro e w1 ⟨rfl,hx1⟩)
  | (at_builtin; refine wpList_app _ (.const (.slice none 0 0)) (.tmp 10) elU8 (by rfl) (by rfl) w1.heap.size _ 0 [] (by rfl) (own_nil _ _ _ _) A xs.length cap (xs.map (Value.int .u8)) (by rfl) ?_ ((hat.ext hx0).ext hx1) (ints_one _ _) ?_ ?_ ?_ ?_; simp; omega; omega; (exact Nat.le_refl _); intro A2 c2 w2 ho2 hb2 hg2 hl2)
  | (at_builtin; refine wpList_app1 _ (.tmp 11) (.tmp 14) elU8 (by rfl) (by rfl) w1.heap.size (.slice A2 (0 + xs.length) c2) _ _ (by simp; rfl) ho2 _ (by rfl) (by rfl) ⟨?_,?_,?_⟩ ?_; omega; omega; (exact hb2.size); intro A3 c3 w3 ho3 hb3 hg3 hw3))
 have hx13 : Ext w1 w3:=hb2.trans hb3
 have hx01:=hx0.trans hx1
 go_loopw [6,17] (fun q i wr=>∃ (k : Nat) (A' : Option Addr) (c' : Nat) (zs : List Int),k≤clen c∧i = .int .i64 k∧q = .slice A' zs.length c'∧Hid (zs = xs++(clen c : Int) :: entB c k)∧Ext w1 wr ∧
   wr.ownsRow w1.heap.size 5 1 (.slice A' zs.length c') zs.length (zs.map (Value.int .u8))) (fun _ i _=>clen c - (intOf i).toNat)
 case atStart=>exact ⟨0,A3,c3,xs++[(clen c : Int)],by omega,rfl,by simp,rfl,hx13,by simpa using ho3⟩
 case round=>
  obtain ⟨k,A',c',zs,hk,rfl,rfl,hz,hx,ho⟩ := hrel
  have hle2:=entB_len hc k
  have hzl : zs.length≤1000000200:=by rw [hz.out]; simp; omega
  by_cases hlt : k < clen c
  ·have h1:=(((hB.ext hx1).ext hx).cell k).trans (clkA_get c (k:=k) (by omega))
   have h3 : (0 : Int)≤(k : Int):=by omega
   have h4 : (k : Int) < 16:=by omega
   go_wp2_with (go_at_call 65; refine ((PutUint_any A' c' zs (c k) wr (hc k).1 (hc k).2 (At.of_own ho) (by omega)).mono ?_); rintro e w4 ⟨A4,c4,rfl,ho4,hb4⟩)
   go_roundw
   case rel=>exact ⟨k + 1,A4,c4,zs++putU (c k),by omega,by go_num,by simp,by simp [Hid,hz.out,entB_succ],hx.trans hb4,own_mono ho4 hx.size⟩
   case measure=>simp [intOf]; omega
  ·obtain rfl : k = clen c:=by omega
   go_wp2
   go_ret
   have hzz : xs++clkBytes c = zs:=by rw [hz.out,clkBytes_eq]
   refine ⟨A',c',ret_slice (by rw [hzz]),?_,hx01.trans hx⟩
   rw [hzz]; exact own_mono ho hx01.size
def clkOf (xs : List Int) : Nat→Int:=fun i=>xs.getD i 0
theorem take_ne {xs ys : List Int} {k : Nat} {x y : Int} (hx : xs[k]? = some x) (hy : ys[k]? = some y) (h : x≠y) : (xs == ys) = false:=by
 rw [beq_eq_false_iff_ne]; rintro rfl
 rw [hx] at hy; injection hy with hy; exact h hy
theorem slEqI64_any (A B : Option Addr) (c d : Nat) (xs ys : List Int) (w : World) (ha : At w A (xs.map (Value.int .i64))) (hb : At w B (ys.map (Value.int .i64))) (hn : xs.length≤1099511627776) :
  Calls Tryz.prog 146 #[.slice A xs.length c,.slice B ys.length d] w fun e w'=>e = .returned (.bool (xs == ys))∧Ext w w' := by
 by_cases hl : xs.length = ys.length
 ·have hl0 : ((xs.length : Int) != (ys.length : Int)) = false:=by simp [hl]
  have HL:=Lib.hid hl
  clear hl
  go_enter Tryz.func146,Tryz.ntmps146
  go_wp2
  go_loopw [13] (fun i wr=>∃ k : Nat,k≤xs.length∧i = .int .i64 k∧Hid (xs.take k = ys.take k)∧Ext w wr) (fun i _=>xs.length - (intOf i).toNat)
  case atStart=>exact ⟨0,by omega,rfl,rfl,Ext.refl w⟩
  case round=>
   obtain ⟨k,hk,rfl,ht,hx⟩ := hrel
   by_cases hlt : k < xs.length
   ·have hlt2 : k < ys.length:=by have:=HL.out; omega
    obtain ⟨b1,o1,rfl,hc1⟩ := (ha.ext hx).cell (j:=k) (v:=.int .i64 xs[k]) (by simp [hlt])
    obtain ⟨b2,o2,rfl,hc2⟩ := (hb.ext hx).cell (j:=k) (v:=.int .i64 ys[k]) (by simp [hlt2])
    have h3 : (0 : Int)≤(k : Int):=by omega
    have h4 : (k : Int) < (xs.length : Int):=by omega
    have h5 : (k : Int) < (ys.length : Int):=by omega
    have ht1 : xs.take (k + 1) = xs.take k++[xs[k]]:=List.take_succ_eq_append_getElem (by omega)
    have ht2 : ys.take (k + 1) = ys.take k++[ys[k]]:=List.take_succ_eq_append_getElem (by omega)
    have hne:=Lib.hid (take_ne (xs:=xs) (ys:=ys) (List.getElem?_eq_getElem hlt) (List.getElem?_eq_getElem hlt2))
    have HT1:=Lib.hid ht1
    have HT2:=Lib.hid ht2
    clear ht1 ht2
    generalize xs[k] = x at *
    generalize ys[k] = y at *
    by_cases he : x = y
    ·subst he
     have hbe : (x != x) = false:=by simp
     go_wp2
     go_quiet (fail)
     go_wp2
     go_roundw
     case rel=>exact ⟨k + 1,by omega,by go_num,by unfold Hid; rw [HT1.out,HT2.out,ht.out],hx.drewN _⟩
     case measure=>simp [intOf]; omega
    ·have hbe : (x != y) = true:=by simp [he]
     go_wp2
     go_quiet (fail)
     go_wp2
     go_ret
     exact ⟨ret_bool (hne.out he).symm,hx.drewN _⟩
   ·go_wp2
    go_ret
    refine ⟨ret_bool ?_,hx⟩
    have h1:=ht.out
    have h2:=HL.out
    rw [List.take_of_length_le (by omega),List.take_of_length_le (by omega)] at h1
    simp [h1]
 ·have hl0 : ((xs.length : Int) != (ys.length : Int)) = true:=by simp; omega
  go_enter Tryz.func146,Tryz.ntmps146
  go_wp2
  go_ret
  refine ⟨ret_bool ?_,Ext.refl w⟩
  symm
  rw [beq_eq_false_iff_ne]
  rintro rfl
  exact hl rfl
theorem within_any (a b : Int) (w : World) :
  Calls Tryz.prog 89 #[.int .i64 a,.int .i64 b] w fun e w'=>e = .returned (.bool (inB a b))∧w = w' := by
 by_cases h0 : 0≤a
 ·go_enter Tryz.func89,Tryz.ntmps89
  go_wp2
  go_ret
  exact ⟨by simp [inB,h0],rfl⟩
 ·go_enter Tryz.func89,Tryz.ntmps89
  go_wp2
  go_ret
  exact ⟨by simp [inB]; omega,rfl⟩
theorem checkEvent_any (e : Ev) (A : Option Addr) (cap : Nat) (c : Int) (w : World) :
  Calls Tryz.prog 87 #[.agg (evA e A cap),.int .i64 c] w fun e' w'=>e' = .returned (.bool (evOk e c))∧Ext w w' := by
 obtain ⟨tick,comp,kind,peer,n,copy,handler,d,args⟩ := e
 unfold evOk
 unfold evA
 simp only
 go_enter Tryz.func87,Tryz.ntmps87
 go_wp2_with (go_at_call 89; refine (within_any _ _ _).mono ?_; rintro e w' ⟨rfl,rfl⟩)
 all_goals go_ret
 all_goals refine ⟨ret_bool ?_,(Ext.refl w).alloc _⟩
 all_goals first | (simp [*]; done) | (simp [*]; omega)
theorem equalEvent_any (a b : Ev) (A B : Option Addr) (c d : Nat) (w : World) (ha : At w A (a.args.map (Value.int .i64))) (hb : At w B (b.args.map (Value.int .i64))) (hn : a.args.length≤1099511627776) :
  Calls Tryz.prog 130 #[.agg (evA a A c),.agg (evA b B d)] w fun e' w'=>e' = .returned (.bool (evEq a b))∧Ext w w' := by
 obtain ⟨tick,comp,kind,peer,n,copy,handler,d1,args⟩ := a
 obtain ⟨tick',comp',kind',peer',n',copy',handler',d',args'⟩ := b
 have HE:=Lib.hid (slEqI64_any A B c d args args')
 unfold evEq
 unfold evA
 simp only at *
 go_enter Tryz.func130,Tryz.ntmps130
 go_wp2_with (go_at_call 146; refine (HE.out _ (ha.ext (((Ext.refl w).alloc _).alloc _)) (hb.ext (((Ext.refl w).alloc _).alloc _)) hn).mono ?_; rintro e w1 ⟨rfl,hx1⟩)
 all_goals go_ret
 all_goals refine ⟨ret_bool ?_,?_⟩
 all_goals first | exact ((Ext.refl w).alloc _).alloc _ | exact Ext.trans (((Ext.refl w).alloc _).alloc _) hx1 | (simp [*]; done) | (simp [*]; omega)
theorem ev_size : (Tryz.prog.info? 33).map (·.size) = some 9:=by kernel_rfl
theorem rec_size : (Tryz.prog.info? 64).map (·.size) = some 29:=by kernel_rfl
theorem Blk.clk {w : World} {g : Nat} {t : TypeId} {r : Re} {A : Option Addr} {c : Nat} (h : Blk w g t (recA r A c)) : w.rangeAt g 2 (clkA r.clk).toList:=by
 have:=rangeAt.take (rangeAt.drop h.range 2) 16
 rwa [recA_clk,Nat.zero_add] at this
theorem Blk.ev {w : World} {g : Nat} {t : TypeId} {r : Re} {A : Option Addr} {c : Nat} (h : Blk w g t (recA r A c)) : w.rangeAt g 19 (evA r.ev A c).toList:=by
 have:=rangeAt.take (rangeAt.drop h.range 19) 9
 rwa [recA_ev,Nat.zero_add] at this
theorem bare_any (r : Re) (A : Option Addr) (c : Nat) (w : World) (ha : At w A (r.ev.args.map (Value.int .i64))) (hn : r.ev.args.length≤1099511627776) :
  Calls Tryz.prog 88 #[.agg (recA r A c)] w fun e w'=>e = .returned (.bool (bareB r))∧Ext w w' := by
 have hs:=recA_size r A c
 have hB : Blk (w.alloc (.cells (recA r A c) 64)) w.heap.size 64 (recA r A c):=Blk.new w _ _
 have hx0 : Ext w (w.alloc (.cells (recA r A c) 64)):=(Ext.refl w).alloc _
 have hcm:=cmpC_one r.clk clk0
 have hbB:=Lib.hid (show bareB r = (sameTo r.clk clk0 16 && evEq r.ev ev0) from rfl)
 have K1:=Lib.hid (Compare_any r.clk clk0)
 generalize bareB r = br at *
 cases hsm : sameTo r.clk clk0 16
 all_goals
  rw [hsm] at hcm hbB
  go_enter Tryz.func88,Tryz.ntmps88
  go_wp2_with (first
   | (refine wpList_load_rg 61 (.tmp 3) (by rfl) (by rfl) w.heap.size 2 (clkA r.clk) (by rfl) Tryz.underlying61 (by rfl) clk_size hB.clk ?_)
   | (go_at_call 26; refine (K1.out _).mono ?_; rintro e w1 ⟨rfl,hx1⟩)
   | (refine wpList_load_rg 33 (.tmp 9) (by rfl) (by rfl) w.heap.size 19 (evA r.ev A c) (by rfl) Tryz.underlying33 (by rfl) ev_size (hB.ext hx1).ev ?_)
   | (go_at_call 130; refine (equalEvent_any r.ev ev0 A none c 0 _ ((ha.ext hx0).ext hx1) (At.nil _ _) hn).mono ?_; rintro e w2 ⟨rfl,hx2⟩))
  go_ret
 ·exact ⟨ret_bool (by rw [hbB.out]; rfl),hx0.trans hx1⟩
 ·exact ⟨ret_bool (by rw [hbB.out]; rfl),(hx0.trans hx1).trans hx2⟩
theorem Check_any (r : Re) (A : Option Addr) (c : Nat) (w : World) (ha : At w A (r.ev.args.map (Value.int .i64))) (hn : r.ev.args.length≤1099511627776) (hu : U64 r.seq) :
  Calls Tryz.prog 59 #[.agg (recA r A c)] w fun e w'=>e = .returned (.int .i64 (checkN r))∧Ext w w' := by
 have hs:=recA_size r A c
 have hB : Blk (w.alloc (.cells (recA r A c) 64)) w.heap.size 64 (recA r A c):=Blk.new w _ _
 have hx0 : Ext w (w.alloc (.cells (recA r A c) 64)):=(Ext.refl w).alloc _
 have hu0:=hu.1
 have hu1:=hu.2
 have hv:=Lib.hid (show checkN r = if (if r.what = 1 then evOk r.ev r.comp && r.count == 0
  else if r.what = 2 then bareB r && decide (0 < r.count) && decide (r.count≤18446744073709551615 - r.seq)
  else if r.what = 3 then bareB r && r.count == 0 else false) && inB r.comp 8 then 0 else 1 from rfl)
 have K1:=Lib.hid (checkEvent_any r.ev A c r.comp)
 have K2:=Lib.hid (bare_any r A c _ (ha.ext hx0) hn)
 have K3:=Lib.hid (within_any r.comp 8)
 generalize checkN r = cn at *
 generalize evOk r.ev r.comp = eo at *
 generalize bareB r = br at *
 generalize inB r.comp 8 = ib at *
 by_cases h1 : r.what = 1
 ·have b1 : (r.what == 1) = true:=by simp [h1]
  have hv' : Hid (cn = if (eo && r.count == 0) && ib then 0 else 1):=by rw [hv.out,if_pos h1]; exact rfl
  clear hv
  have H1:=Lib.hid h1
  clear h1
  go_enter Tryz.func59,Tryz.ntmps59
  go_wp2_with (first
   | (refine wpList_load_rg 33 (.tmp 8) (by rfl) (by rfl) w.heap.size 19 (evA r.ev A c) (by rfl) Tryz.underlying33 (by rfl) ev_size hB.ev ?_)
   | (go_at_call 87; refine (K1.out _).mono ?_; rintro e w1 ⟨rfl,hx1⟩; have hC:=(hB.ext hx1).cell; have hx01:=hx0.trans hx1)
   | (go_at_call 89; refine (K3.out _).mono ?_; rintro e w2 ⟨rfl,rfl⟩))
  all_goals go_ret
  all_goals refine ⟨ret_int ?_,hx01⟩
  all_goals rw [hv'.out]
  all_goals clear K1 K2 K3 hB ha
  all_goals cases ib <;> first | (simp [*]; done) | (simp_all; done)
 by_cases h2 : r.what = 2
 ·have b1 : (r.what == 1) = false:=by simp [h1]
  have b2 : (r.what == 2) = true:=by simp [h2]
  have hv' : Hid (cn = if (br && decide (0 < r.count) && decide (r.count≤18446744073709551615 - r.seq)) && ib then 0 else 1):=by rw [hv.out,if_neg h1,if_pos h2]; exact rfl
  clear hv h1 h2
  go_enter Tryz.func59,Tryz.ntmps59
  go_wp2_with (first
   | (refine wpList_load_rg 64 (.tmp 1) (by rfl) (by rfl) w.heap.size 0 (recA r A c) (by rfl) Tryz.underlying64 (by rfl) rec_size hB.range ?_)
   | (go_at_call 88; refine K2.out.mono ?_; rintro e w1 ⟨rfl,hx1⟩; have hC:=(hB.ext hx1).cell; have hx01:=hx0.trans hx1)
   | (go_at_call 89; refine (K3.out _).mono ?_; rintro e w2 ⟨rfl,rfl⟩))
  all_goals go_ret
  all_goals refine ⟨ret_int ?_,hx01⟩
  all_goals rw [hv'.out]
  all_goals clear K1 K2 K3 hB ha
  all_goals cases ib <;> first | (simp [*]; done) | (simp_all; done) | (simp_all; omega)
 by_cases h3 : r.what = 3
 ·have b1 : (r.what == 1) = false:=by simp [h1]
  have b2 : (r.what == 2) = false:=by simp [h2]
  have b3 : (r.what == 3) = true:=by simp [h3]
  have hv' : Hid (cn = if (br && r.count == 0) && ib then 0 else 1):=by rw [hv.out,if_neg h1,if_neg h2,if_pos h3]; exact rfl
  clear hv h1 h2 h3
  go_enter Tryz.func59,Tryz.ntmps59
  go_wp2_with (first
   | (refine wpList_load_rg 64 (.tmp 1) (by rfl) (by rfl) w.heap.size 0 (recA r A c) (by rfl) Tryz.underlying64 (by rfl) rec_size hB.range ?_)
   | (go_at_call 88; refine K2.out.mono ?_; rintro e w1 ⟨rfl,hx1⟩; have hC:=(hB.ext hx1).cell; have hx01:=hx0.trans hx1)
   | (go_at_call 89; refine (K3.out _).mono ?_; rintro e w2 ⟨rfl,rfl⟩))
  all_goals go_ret
  all_goals refine ⟨ret_int ?_,hx01⟩
  all_goals rw [hv'.out]
  all_goals clear K1 K2 K3 hB ha
  all_goals cases ib <;> first | (simp [*]; done) | (simp_all; done)
 ·have b1 : (r.what == 1) = false:=by simp [h1]
  have b2 : (r.what == 2) = false:=by simp [h2]
  have b3 : (r.what == 3) = false:=by simp [h3]
  have hv' : Hid (cn = 1):=by rw [hv.out,if_neg h1,if_neg h2,if_neg h3]; exact rfl
  clear hv h1 h2 h3
  go_enter Tryz.func59,Tryz.ntmps59
  go_wp2_with fail
  all_goals go_ret
  all_goals exact ⟨ret_int (by rw [hv'.out]),hx0⟩
end Go.Proofs.YtcgfgilddjkpkaaGreat
namespace Go.Proofs.YtcgfgilddjkpkaaGreat
def evNums (e : Ev) : List Int:=[e.tick,e.kind,e.peer,e.n,e.copy,e.handler]
def evBytes (e : Ev) : List Int:=(evNums e).flatMap putU++putI e.d++putU e.args.length++e.args.flatMap putI
def recHead (r : Re) : List Int:=r.what :: (putU r.comp++putU r.seq)
def recTail (r : Re) : List Int :=
 if r.what = 1 then clkBytes r.clk++evBytes r.ev else if r.what = 2 then putU r.count else []
def recBytes (r : Re) : List Int:=if validB r then recHead r++recTail r else []
structure EvT (e : Ev) : Prop where
 tick : I64 e.tick
 comp : I64 e.comp
 kind : 0≤e.kind∧e.kind≤255
 peer : I64 e.peer
 n : I64 e.n
 copy : I64 e.copy
 handler : I64 e.handler
 d : I64 e.d
 args : ∀ x∈e.args,I64 x
structure ReT (r : Re) : Prop where
 comp : I64 r.comp
 seq : U64 r.seq
 clk : ∀ i,U64 (r.clk i)
 what : 0≤r.what∧r.what≤255
 ev : EvT r.ev
 count : U64 r.count
theorem inB_iff {a b : Int} : inB a b = true↔0≤a∧a≤b:=by simp [inB]
theorem evOk_ranges {e : Ev} {c : Int} (h : evOk e c = true) : e.comp = c∧(0≤e.tick∧e.tick≤200)∧(1≤e.kind∧e.kind≤11)∧(0≤e.peer∧e.peer≤8)∧(0≤e.n∧e.n≤2147483647)∧(0≤e.copy∧e.copy≤1)∧(0≤e.handler∧e.handler≤7)∧e.args.length≤4:=by
 unfold evOk at h
 simp only [Bool.and_eq_true,beq_iff_eq,decide_eq_true_eq,inB_iff] at h
 obtain ⟨⟨⟨⟨⟨⟨⟨⟨h1,h2⟩,h3⟩,h4⟩,h5⟩,h6⟩,h7⟩,h8⟩,h9⟩ := h
 exact ⟨h1,h2,⟨h3,h4⟩,h5,h6,h7,h8,h9⟩
theorem valid_comp {r : Re} (h : validB r = true) : 0≤r.comp∧r.comp≤8:=by
 unfold validB at h
 simp only [Bool.and_eq_true,inB_iff] at h
 exact h.2
theorem valid_what {r : Re} (h : validB r = true) : r.what = 1∨r.what = 2∨r.what = 3:=by
 unfold validB okWhat at h
 by_cases h1 : r.what = 1
 ·exact .inl h1
 by_cases h2 : r.what = 2
 ·exact .inr (.inl h2)
 by_cases h3 : r.what = 3
 ·exact .inr (.inr h3)
 ·simp [h1,h2,h3] at h
theorem valid_entry {r : Re} (h : validB r = true) (h1 : r.what = 1) : evOk r.ev r.comp = true∧r.count = 0:=by
 unfold validB okWhat at h
 rw [if_pos h1] at h
 simp only [Bool.and_eq_true,beq_iff_eq] at h
 exact h.1
theorem checkN_zero {r : Re} : (checkN r != 0) = !validB r:=by unfold checkN; cases validB r <;> simp
theorem putI_ten {v : Int} (h : I64 v) : (putI v).length≤10:=putU_ten (zig_range h.1 h.2).2
end Go.Proofs.YtcgfgilddjkpkaaGreat
set_option maxRecDepth 100000
namespace Go.Proofs.YtcgfgilddjkpkaaGreat
open Go.RowKit
theorem RetInts.nil (E : TypeId) (k : IntKind) {w w' : World} (h : Ext w w') : RetInts E k w.heap.size [] w (.returned (.slice none 0 0)) w' := ⟨none,0,rfl,own_nil _ _ _ _,h⟩
theorem RecBytes_not (r : Re) (A : Option Addr) (c : Nat) (w : World) (ha : At w A (r.ev.args.map (Value.int .i64))) (hn : r.ev.args.length≤1099511627776) (hT : ReT r) (hv : validB r = false) :
  Calls Tryz.prog 41 #[.agg (recA r A c)] w (RetInts 5 .u8 w.heap.size (recBytes r) w):=by
 have hs:=recA_size r A c
 have hB : Blk (w.alloc (.cells (recA r A c) 64)) w.heap.size 64 (recA r A c):=Blk.new w _ _
 have hx0 : Ext w (w.alloc (.cells (recA r A c) 64)):=(Ext.refl w).alloc _
 have hcn:=checkN_zero (r:=r)
 have hbs : recBytes r = []:=by simp [recBytes,hv]
 rw [hbs]
 rw [hv] at hcn
 simp only [Bool.not_false] at hcn
 clear hbs hv
 go_enter Tryz.func41,Tryz.ntmps41
 go_wp2_with (first
  | (refine wpList_load_rg 64 (.tmp 1) (by rfl) (by rfl) w.heap.size 0 (recA r A c) (by rfl) Tryz.underlying64 (by rfl) rec_size hB.range ?_)
  | (go_at_call 59; refine (Check_any r A c _ (ha.ext hx0) hn hT.seq).mono ?_; rintro e w1 ⟨rfl,hx1⟩))
 go_ret
 exact RetInts.nil _ _ (hx0.trans hx1)
theorem RecBytes_lost (r : Re) (A : Option Addr) (c : Nat) (w : World) (ha : At w A (r.ev.args.map (Value.int .i64))) (hn : r.ev.args.length≤1099511627776) (hT : ReT r) (hv : validB r = true) (h2 : r.what = 2) :
  Calls Tryz.prog 41 #[.agg (recA r A c)] w (RetInts 5 .u8 w.heap.size (recBytes r) w):=by
 have hs:=recA_size r A c
 have hB : Blk (w.alloc (.cells (recA r A c) 64)) w.heap.size 64 (recA r A c):=Blk.new w _ _
 have hx0 : Ext w (w.alloc (.cells (recA r A c) 64)):=(Ext.refl w).alloc _
 have hcn:=checkN_zero (r:=r)
 have hbs : recBytes r = ([r.what]++putU r.comp++putU r.seq)++putU r.count:=by simp [recBytes,hv,recHead,recTail,h2]
 have Hbs:=Lib.hid hbs
 have hcm:=valid_comp hv
 have hcm0:=hcm.1
 have hcm1:=hcm.2
 have hl1:=putU_ten (v:=r.comp) (by omega)
 have hls:=putU_ten hT.seq.2
 have b1 : (r.what == 1) = false:=by simp [h2]
 have b2 : (r.what == 2) = true:=by simp [h2]
 have hwr : IntKind.u64.wrap r.comp = r.comp:=by rw [IntKind.wrap_u64]; omega
 rw [hv] at hcn
 simp only [Bool.not_true] at hcn
 generalize recBytes r = bs at *
 clear hbs hv hcm h2
 go_enter Tryz.func41,Tryz.ntmps41
 go_wp2_with (first
  | (refine wpList_load_rg 64 (.tmp 1) (by rfl) (by rfl) w.heap.size 0 (recA r A c) (by rfl) Tryz.underlying64 (by rfl) rec_size hB.range ?_)
  | (go_at_call 59; refine (Check_any r A c _ (ha.ext hx0) hn hT.seq).mono ?_; rintro e w1 ⟨rfl,hx1⟩; have hC1:=(hB.ext hx1).cell; have hz1 : w.heap.size < w1.heap.size:=(hB.ext hx1).lt))
 have hx1' : Ext w1 (w1.alloc (.cells #[.int .u8 r.what] 5)):=(Ext.refl w1).alloc _
 refine (PutUint_any (some ⟨w1.heap.size,0,none⟩) 1 [r.what] r.comp (w1.alloc (.cells #[.int .u8 r.what] 5)) hcm0 (by omega) (At.one w1 _ _) (by simp)).mono ?_
 intro e w2 h2
 obtain ⟨zs2,A2,c2,hz2,rfl,ho2,hb2⟩ := h2.fresh
 clear h2
 have hl2 : zs2.length≤11:=by rw [hz2.out]; simp; omega
 have hx2:=hx1'.trans hb2
 have hC2:=((hB.ext hx1).ext hx2).cell
 go_wp2_with fail
 refine (PutUint_any A2 c2 zs2 r.seq w2 hT.seq.1 hT.seq.2 (At.of_own ho2) (by omega)).mono ?_
 intro e w3 h3
 obtain ⟨zs3,A3,c3,hz3,rfl,ho3,hb3⟩ := h3.fresh
 clear h3
 have hl3 : zs3.length≤21:=by rw [hz3.out]; simp; omega
 have hx3:=hx2.trans hb3
 have hC3:=((hB.ext hx1).ext hx3).cell
 go_wp2_with fail
 refine (PutUint_any A3 c3 zs3 r.count w3 hT.count.1 hT.count.2 (At.of_own ho3) (by omega)).mono ?_
 intro e w4 h4
 obtain ⟨zs4,A4,c4,hz4,rfl,ho4,hb4⟩ := h4.fresh
 clear h4
 have hx4:=(hx0.trans hx1).trans (hx3.trans hb4)
 have hw4:=(hx0.trans hx1).trans hx3
 go_wp2_with fail
 go_ret
 exact RetInts.mk (by rw [hz4.out,hz3.out,hz2.out,Hbs.out]) (own_mono ho4 hw4.size) hx4
theorem RecBytes_end (r : Re) (A : Option Addr) (c : Nat) (w : World) (ha : At w A (r.ev.args.map (Value.int .i64))) (hn : r.ev.args.length≤1099511627776) (hT : ReT r) (hv : validB r = true) (h3 : r.what = 3) :
  Calls Tryz.prog 41 #[.agg (recA r A c)] w (RetInts 5 .u8 w.heap.size (recBytes r) w):=by
 have hs:=recA_size r A c
 have hB : Blk (w.alloc (.cells (recA r A c) 64)) w.heap.size 64 (recA r A c):=Blk.new w _ _
 have hx0 : Ext w (w.alloc (.cells (recA r A c) 64)):=(Ext.refl w).alloc _
 have hcn:=checkN_zero (r:=r)
 have hbs : recBytes r = [r.what]++putU r.comp++putU r.seq:=by simp [recBytes,hv,recHead,recTail,h3]
 have Hbs:=Lib.hid hbs
 have hls:=putU_ten hT.seq.2
 have hcm:=valid_comp hv
 have hcm0:=hcm.1
 have hcm1:=hcm.2
 have hl1:=putU_ten (v:=r.comp) (by omega)
 have b1 : (r.what == 1) = false:=by simp [h3]
 have b2 : (r.what == 2) = false:=by simp [h3]
 have hwr : IntKind.u64.wrap r.comp = r.comp:=by rw [IntKind.wrap_u64]; omega
 rw [hv] at hcn
 simp only [Bool.not_true] at hcn
 generalize recBytes r = bs at *
 clear hbs hv hcm h3
 go_enter Tryz.func41,Tryz.ntmps41
 go_wp2_with (first
  | (refine wpList_load_rg 64 (.tmp 1) (by rfl) (by rfl) w.heap.size 0 (recA r A c) (by rfl) Tryz.underlying64 (by rfl) rec_size hB.range ?_)
  | (go_at_call 59; refine (Check_any r A c _ (ha.ext hx0) hn hT.seq).mono ?_; rintro e w1 ⟨rfl,hx1⟩; have hC1:=(hB.ext hx1).cell; have hz1 : w.heap.size < w1.heap.size:=(hB.ext hx1).lt))
 have hx1' : Ext w1 (w1.alloc (.cells #[.int .u8 r.what] 5)):=(Ext.refl w1).alloc _
 refine (PutUint_any (some ⟨w1.heap.size,0,none⟩) 1 [r.what] r.comp (w1.alloc (.cells #[.int .u8 r.what] 5)) hcm0 (by omega) (At.one w1 _ _) (by simp)).mono ?_
 intro e w2 h2
 obtain ⟨zs2,A2,c2,hz2,rfl,ho2,hb2⟩ := h2.fresh
 clear h2
 have hl2 : zs2.length≤11:=by rw [hz2.out]; simp; omega
 have hx2:=hx1'.trans hb2
 have hC2:=((hB.ext hx1).ext hx2).cell
 go_wp2_with fail
 refine (PutUint_any A2 c2 zs2 r.seq w2 hT.seq.1 hT.seq.2 (At.of_own ho2) (by omega)).mono ?_
 intro e w3 h3
 obtain ⟨zs3,A3,c3,hz3,rfl,ho3,hb3⟩ := h3.fresh
 clear h3
 have hl3 : zs3.length≤21:=by rw [hz3.out]; simp; omega
 have hx3:=hx2.trans hb3
 have hC3:=((hB.ext hx1).ext hx3).cell
 go_wp2_with fail
 go_ret
 exact RetInts.mk (by rw [hz3.out,hz2.out,Hbs.out]) (own_mono ho3 ((hx0.trans hx1).trans hx2).size) ((hx0.trans hx1).trans hx3)
set_option maxHeartbeats 1000000
theorem ev_zero : ((Tryz.prog.info? 33).bind (·.zero)).map (·.cells) = some (evA ev0 none 0):=by kernel_rfl
theorem evA_one (e : Ev) (A : Option Addr) (c : Nat) : ∀ u∈(evA e A c).toList,u.oneCell' = true:=by
 intro u hu
 simp only [evA,List.mem_cons,List.not_mem_nil,or_false] at hu
 rcases hu with rfl | rfl | rfl | rfl | rfl | rfl | rfl | rfl | rfl <;> rfl
theorem idx6_0 (x0 x1 x2 x3 x4 x5 : Int) (w : World) : (Instr.index 136 (.agg #[.int .i64 x0,.int .i64 x1,.int .i64 x2,.int .i64 x3,.int .i64 x4,.int .i64 x5]) (.int .i64 ((0 : Nat) : Int))).run Tryz.prog w = .ok (.int .i64 ([x0,x1,x2,x3,x4,x5].getD 0 0)) w:=by kernel_rfl
theorem idx6_1 (x0 x1 x2 x3 x4 x5 : Int) (w : World) : (Instr.index 136 (.agg #[.int .i64 x0,.int .i64 x1,.int .i64 x2,.int .i64 x3,.int .i64 x4,.int .i64 x5]) (.int .i64 ((1 : Nat) : Int))).run Tryz.prog w = .ok (.int .i64 ([x0,x1,x2,x3,x4,x5].getD 1 0)) w:=by kernel_rfl
theorem idx6_2 (x0 x1 x2 x3 x4 x5 : Int) (w : World) : (Instr.index 136 (.agg #[.int .i64 x0,.int .i64 x1,.int .i64 x2,.int .i64 x3,.int .i64 x4,.int .i64 x5]) (.int .i64 ((2 : Nat) : Int))).run Tryz.prog w = .ok (.int .i64 ([x0,x1,x2,x3,x4,x5].getD 2 0)) w:=by kernel_rfl
theorem idx6_3 (x0 x1 x2 x3 x4 x5 : Int) (w : World) : (Instr.index 136 (.agg #[.int .i64 x0,.int .i64 x1,.int .i64 x2,.int .i64 x3,.int .i64 x4,.int .i64 x5]) (.int .i64 ((3 : Nat) : Int))).run Tryz.prog w = .ok (.int .i64 ([x0,x1,x2,x3,x4,x5].getD 3 0)) w:=by kernel_rfl
theorem idx6_4 (x0 x1 x2 x3 x4 x5 : Int) (w : World) : (Instr.index 136 (.agg #[.int .i64 x0,.int .i64 x1,.int .i64 x2,.int .i64 x3,.int .i64 x4,.int .i64 x5]) (.int .i64 ((4 : Nat) : Int))).run Tryz.prog w = .ok (.int .i64 ([x0,x1,x2,x3,x4,x5].getD 4 0)) w:=by kernel_rfl
theorem idx6_5 (x0 x1 x2 x3 x4 x5 : Int) (w : World) : (Instr.index 136 (.agg #[.int .i64 x0,.int .i64 x1,.int .i64 x2,.int .i64 x3,.int .i64 x4,.int .i64 x5]) (.int .i64 ((5 : Nat) : Int))).run Tryz.prog w = .ok (.int .i64 ([x0,x1,x2,x3,x4,x5].getD 5 0)) w:=by kernel_rfl
theorem idx6 (x0 x1 x2 x3 x4 x5 : Int) {k : Nat} (h : k < 6) (w : World) : (Instr.index 136 (.agg #[.int .i64 x0,.int .i64 x1,.int .i64 x2,.int .i64 x3,.int .i64 x4,.int .i64 x5]) (.int .i64 (k : Int))).run Tryz.prog w = .ok (.int .i64 ([x0,x1,x2,x3,x4,x5].getD k 0)) w:=by
 have h6 : k = 0∨k = 1∨k = 2∨k = 3∨k = 4∨k = 5:=by omega
 rcases h6 with rfl | rfl | rfl | rfl | rfl | rfl
 ·exact idx6_0 x0 x1 x2 x3 x4 x5 w
 ·exact idx6_1 x0 x1 x2 x3 x4 x5 w
 ·exact idx6_2 x0 x1 x2 x3 x4 x5 w
 ·exact idx6_3 x0 x1 x2 x3 x4 x5 w
 ·exact idx6_4 x0 x1 x2 x3 x4 x5 w
 ·exact idx6_5 x0 x1 x2 x3 x4 x5 w
theorem take_getD (l : List Int) {k : Nat} (h : k < l.length) : l.take (k + 1) = l.take k++[l.getD k 0]:=by
 rw [List.take_succ_eq_append_getElem h,List.getD_eq_getElem?_getD,List.getElem?_eq_getElem h]; rfl
theorem RecBytes_entry (r : Re) (A : Option Addr) (c : Nat) (w : World) (ha : At w A (r.ev.args.map (Value.int .i64))) (hn : r.ev.args.length≤1099511627776) (hT : ReT r) (hv : validB r = true) (h1 : r.what = 1) :
  Calls Tryz.prog 41 #[.agg (recA r A c)] w (RetInts 5 .u8 w.heap.size (recBytes r) w):=by
 have hs:=recA_size r A c
 have hB : Blk (w.alloc (.cells (recA r A c) 64)) w.heap.size 64 (recA r A c):=Blk.new w _ _
 have hx0 : Ext w (w.alloc (.cells (recA r A c) 64)):=(Ext.refl w).alloc _
 have hcn:=checkN_zero (r:=r)
 have hbs : recBytes r = ([r.what]++putU r.comp++putU r.seq)++clkBytes r.clk++(evNums r.ev).flatMap putU++putI r.ev.d++putU r.ev.args.length++r.ev.args.flatMap putI:=by simp [recBytes,hv,recHead,recTail,h1,evBytes]
 have Hbs:=Lib.hid hbs
 have hcm:=valid_comp hv
 have hcm0:=hcm.1
 have hcm1:=hcm.2
 have hl1:=putU_ten (v:=r.comp) (by omega)
 have hls:=putU_ten hT.seq.2
 have b1 : (r.what == 1) = true:=by simp [h1]
 obtain ⟨_,⟨r1,r2⟩,⟨r3,r4⟩,⟨r5,r6⟩,⟨r7,r8⟩,⟨r9,r10⟩,⟨r11,r12⟩,r13⟩ := evOk_ranges (valid_entry hv h1).1
 have hwr : IntKind.u64.wrap r.comp = r.comp:=by rw [IntKind.wrap_u64]; omega
 rw [hv] at hcn
 simp only [Bool.not_true] at hcn
 generalize recBytes r = bs at *
 clear hbs hv hcm h1
 go_enter Tryz.func41,Tryz.ntmps41
 go_wp2_with (first
  | (refine wpList_load_rg 64 (.tmp 1) (by rfl) (by rfl) w.heap.size 0 (recA r A c) (by rfl) Tryz.underlying64 (by rfl) rec_size hB.range ?_)
  | (go_at_call 59; refine (Check_any r A c _ (ha.ext hx0) hn hT.seq).mono ?_; rintro e w1 ⟨rfl,hx1⟩; have hC1:=(hB.ext hx1).cell; have hz1 : w.heap.size < w1.heap.size:=(hB.ext hx1).lt))
 have hx1' : Ext w1 (w1.alloc (.cells #[.int .u8 r.what] 5)):=(Ext.refl w1).alloc _
 refine (PutUint_any (some ⟨w1.heap.size,0,none⟩) 1 [r.what] r.comp (w1.alloc (.cells #[.int .u8 r.what] 5)) hcm0 (by omega) (At.one w1 _ _) (by simp)).mono ?_
 intro e w2 h2
 obtain ⟨zs2,A2,c2,hz2,rfl,ho2,hb2⟩ := h2.fresh
 clear h2
 have hl2 : zs2.length≤11:=by rw [hz2.out]; simp; omega
 have hx2:=hx1'.trans hb2
 have hC2:=((hB.ext hx1).ext hx2).cell
 go_wp2_with fail
 refine (PutUint_any A2 c2 zs2 r.seq w2 hT.seq.1 hT.seq.2 (At.of_own ho2) (by omega)).mono ?_
 intro e w3 h3
 obtain ⟨zs3,A3,c3,hz3,rfl,ho3,hb3⟩ := h3.fresh
 clear h3
 have hl3 : zs3.length≤21:=by rw [hz3.out]; simp; omega
 have hx3:=hx2.trans hb3
 have hC3:=((hB.ext hx1).ext hx3).cell
 have hB3:=(hB.ext hx1).ext hx3
 go_wp2_with (first
  | (refine wpList_load_rg 33 (.tmp 28) (by rfl) (by rfl) w.heap.size 19 (evA r.ev A c) (by rfl) Tryz.underlying33 (by rfl) ev_size hB3.ev ?_)
  | (refine wpList_alloc_blk 33 (by rfl) (by rfl) (evA ev0 none 0) ev_zero ?_; intro w4 hB4 hx4 hs4)
  | (refine wpList_store_all 33 (.tmp 4) (.tmp 29) (by rfl) (by rfl) w3.heap.size 33 (evA ev0 none 0) (evA r.ev A c) (by rfl) (by rfl) ev_size rfl (evA_one _ _ _) hB4 ?_; intro w5 hB5 hu5; have hx5 : Ext w3 w5:=hu5.ext hx4 (Nat.le_refl _); have hr5:=hB3.ext hx5)
  | (refine wpList_load_rg 61 (.tmp 30) (by rfl) (by rfl) w.heap.size 2 (clkA r.clk) (by rfl) Tryz.underlying61 (by rfl) clk_size hr5.clk ?_))
 refine (ClkBytes_any r.clk A3 c3 zs3 w5 hT.clk ((At.of_own ho3).ext hx5) (by omega)).mono ?_
 intro e w6 h6
 obtain ⟨zs6,A6,c6,hz6,rfl,ho6,hb6⟩ := h6.fresh
 clear h6
 have hlc:=entB_len hT.clk (clen r.clk)
 have hlc2:=clen_le r.clk
 have hl6 : zs6.length≤200:=by rw [hz6.out,clkBytes_eq]; simp; omega
 have hB6 : Blk w6 w3.heap.size 33 (evA r.ev A c):=hB5.ext hb6
 have hev : evA r.ev A c = #[.int .i64 r.ev.tick,.int .i64 r.ev.comp,.int .u8 r.ev.kind,.int .i64 r.ev.peer,.int .i64 r.ev.n,.int .i64 r.ev.copy,.int .i64 r.ev.handler,.int .i64 r.ev.d,.slice A r.ev.args.length c]:=rfl
 rw [hev] at hB6
 have hC6:=hB6.cell
 clear hC2 hC3 hC1 hev
 go_wp2_with fail
 have hlt7 : w3.heap.size < w6.heap.size:=hB6.lt
 go_loopw [3,48] (fun p i wr=>∃ (k : Nat) (A' : Option Addr) (c' : Nat) (zs : List Int),k≤6∧i = .int .i64 k∧p = .slice A' zs.length c'∧Hid (zs = zs6++((evNums r.ev).take k).flatMap putU)∧zs.length≤200 + 10 * k∧Ext w6 wr ∧
   wr.ownsRow w.heap.size 5 1 (.slice A' zs.length c') zs.length (zs.map (Value.int .u8))) (fun _ i _=>6 - (intOf i).toNat)
 case atStart=>exact ⟨0,A6,c6,zs6,by omega,rfl,rfl,by simp [Hid],by omega,Ext.refl _,own_mono ho6 (((hx0.trans hx1).trans hx3).trans hx5).size⟩
 case round=>
  obtain ⟨k,A',c',zs,hk,rfl,rfl,hz,hzl,hx,ho⟩ := hrel
  have hBr:=hB6.ext hx
  have hCr:=hBr.cell
  by_cases hlt : k < 6
  ·have hidx:=idx6 r.ev.tick r.ev.kind r.ev.peer r.ev.n r.ev.copy r.ev.handler hlt
   have hnk : 0≤[r.ev.tick,r.ev.kind,r.ev.peer,r.ev.n,r.ev.copy,r.ev.handler].getD k 0∧[r.ev.tick,r.ev.kind,r.ev.peer,r.ev.n,r.ev.copy,r.ev.handler].getD k 0≤2147483647:=by
    match k,hlt with
    | 0,_=>exact ⟨r1,by simp; omega⟩
    | 1,_=>exact ⟨by simp; omega,by simp; omega⟩
    | 2,_=>exact ⟨r5,by simp; omega⟩
    | 3,_=>exact ⟨r7,r8⟩
    | 4,_=>exact ⟨r9,by simp; omega⟩
    | 5,_=>exact ⟨r11,by simp; omega⟩
   have htk : (evNums r.ev).take (k + 1) = (evNums r.ev).take k++[[r.ev.tick,r.ev.kind,r.ev.peer,r.ev.n,r.ev.copy,r.ev.handler].getD k 0]:=take_getD (evNums r.ev) (by simpa [evNums] using hlt)
   have Htk:=Lib.hid htk
   clear htk
   generalize [r.ev.tick,r.ev.kind,r.ev.peer,r.ev.n,r.ev.copy,r.ev.handler].getD k 0 = nk at *
   have hn0:=hnk.1
   have hn1:=hnk.2
   have hlk:=putU_ten (v:=nk) (by omega)
   have hwk : IntKind.u64.wrap nk = nk:=by rw [IntKind.wrap_u64]; omega
   clear hnk
   go_wp2_with (go_at_call 65; refine ((PutUint_any A' c' zs nk wr hn0 (by omega) (At.of_own ho) (by omega)).mono ?_); rintro e w8 ⟨A8,c8,rfl,ho8,hb8⟩)
   go_roundw
   case rel=>exact ⟨k + 1,A8,c8,zs++putU nk,by omega,by go_num,by simp,by simp [Hid,hz.out,Htk.out],by simp; omega,hx.trans hb8,own_mono ho8 (Nat.le_trans ((((hx0.trans hx1).trans hx3).trans hx5).trans (Ext.trans hb6 hx)).size (Nat.le_refl _))⟩
   case measure=>simp [intOf]; omega
  ·obtain rfl : k = 6:=by omega
   go_wp2_with fail
   refine (PutInt_any A' c' zs r.ev.d wr hT.ev.d.1 hT.ev.d.2 (At.of_own ho) (by omega)).mono ?_
   intro e w8 h8
   obtain ⟨zs8,A8,c8,hz8,rfl,ho8,hb8⟩ := h8.fresh
   clear h8
   have hld:=putI_ten hT.ev.d
   have hl8 : zs8.length≤270:=by rw [hz8.out]; simp; omega
   have hB8:=hBr.ext hb8
   have hC8:=hB8.cell
   have hwl : IntKind.u64.wrap (r.ev.args.length : Int) = r.ev.args.length:=by rw [IntKind.wrap_u64]; omega
   clear hCr
   go_wp2_with fail
   refine (PutUint_any A8 c8 zs8 r.ev.args.length w8 (by omega) (by omega) (At.of_own ho8) (by omega)).mono ?_
   intro e w9 h9
   obtain ⟨zs9,A9,c9,hz9,rfl,ho9,hb9⟩ := h9.fresh
   clear h9
   have hla:=putU_ten (v:=(r.ev.args.length : Int)) (by omega)
   have hl9 : zs9.length≤280:=by rw [hz9.out]; simp; omega
   have hB9:=hB8.ext hb9
   have hC9:=hB9.cell
   have hxx : Ext w w9:=(((((hx0.trans hx1).trans hx3).trans hx5).trans hb6).trans hx).trans (Ext.trans hb8 hb9)
   clear hC8
   go_wp2_with fail
   obtain ⟨wo,rfl⟩ : ∃ wo : World,wo = wr := ⟨_,rfl⟩
   have hat9:=ha.ext hxx
   go_loopw [3,69] (fun p i wr=>∃ (k : Nat) (A' : Option Addr) (c' : Nat) (zs : List Int),k≤r.ev.args.length∧i = .int .i64 k∧p = .slice A' zs.length c'∧Hid (zs = zs9++(r.ev.args.take k).flatMap putI)∧zs.length≤280 + 10 * k∧Ext w9 wr ∧
     wr.ownsRow w.heap.size 5 1 (.slice A' zs.length c') zs.length (zs.map (Value.int .u8))) (fun _ i _=>r.ev.args.length - (intOf i).toNat)
   case atStart=>exact ⟨0,A9,c9,zs9,by omega,rfl,rfl,by simp [Hid],by omega,Ext.refl _,own_mono ho9 (((((hx0.trans hx1).trans hx3).trans hx5).trans hb6).trans (Ext.trans hx hb8)).size⟩
   case round=>
    obtain ⟨k,Ak,ck,zsk,hk,rfl,rfl,hzk,hzl,hxk,hok⟩ := hrel
    by_cases hlt : k < r.ev.args.length
    ·obtain ⟨b1,o1,rfl,hc1⟩ := (hat9.ext hxk).cell (j:=k) (v:=.int .i64 r.ev.args[k]) (by simp [hlt])
     have hak : I64 r.ev.args[k]:=hT.ev.args _ (List.getElem_mem hlt)
     have Htk:=Lib.hid (List.take_succ_eq_append_getElem hlt)
     have hlk:=putI_ten hak
     generalize r.ev.args[k] = x at *
     go_wp2_with (go_at_call 67; refine ((PutInt_any Ak ck zsk x wr hak.1 hak.2 (At.of_own hok) (by omega)).mono ?_); rintro e w10 ⟨A10,c10,rfl,ho10,hb10⟩)
     go_roundw
     case rel=>exact ⟨k + 1,A10,c10,zsk++putI x,by omega,by go_num,by simp,by simp [Hid,hzk.out,Htk.out],by simp; omega,hxk.trans hb10,own_mono ho10 (hxx.trans hxk).size⟩
     case measure=>simp [intOf]; omega
    ·obtain rfl : k = r.ev.args.length:=by omega
     go_wp2_with fail
     go_ret
     refine RetInts.mk ?_ hok (hxx.trans hxk)
     rw [hzk.out,hz9.out,hz8.out,hz.out,hz6.out,hz3.out,hz2.out,Hbs.out]
     simp [evNums]
theorem RecBytes_any (r : Re) (A : Option Addr) (c : Nat) (w : World) (ha : At w A (r.ev.args.map (Value.int .i64))) (hn : r.ev.args.length≤1099511627776) (hT : ReT r) :
  Calls Tryz.prog 41 #[.agg (recA r A c)] w (RetInts 5 .u8 w.heap.size (recBytes r) w):=by
 cases hv : validB r
 ·exact RecBytes_not r A c w ha hn hT hv
 ·rcases valid_what hv with h | h | h
  ·exact RecBytes_entry r A c w ha hn hT hv h
  ·exact RecBytes_lost r A c w ha hn hT hv h
  ·exact RecBytes_end r A c w ha hn hT hv h
theorem Size_any (r : Re) (A : Option Addr) (c : Nat) (w : World) (ha : At w A (r.ev.args.map (Value.int .i64))) (hn : r.ev.args.length≤1099511627776) (hT : ReT r) :
  Calls Tryz.prog 90 #[.agg (recA r A c)] w fun e w'=>e = .returned (.int .i64 (recBytes r).length)∧Ext w w' := by
 have hs:=recA_size r A c
 have hB : Blk (w.alloc (.cells (recA r A c) 64)) w.heap.size 64 (recA r A c):=Blk.new w _ _
 have hx0 : Ext w (w.alloc (.cells (recA r A c) 64)):=(Ext.refl w).alloc _
 go_enter Tryz.func90,Tryz.ntmps90
 go_wp2_with (first
  | (refine wpList_load_rg 64 (.tmp 1) (by rfl) (by rfl) w.heap.size 0 (recA r A c) (by rfl) Tryz.underlying64 (by rfl) rec_size hB.range ?_)
  | (go_at_call 41; refine (RecBytes_any r A c _ (ha.ext hx0) hn hT).mono ?_; rintro e w1 ⟨A1,c1,rfl,ho1,hb1⟩))
 go_ret
 exact ⟨rfl,hx0.trans hb1⟩
def recEq (a b : Re) : Bool:=a.comp == b.comp && a.seq == b.seq && sameTo a.clk b.clk 16 && a.what == b.what && evEq a.ev b.ev && a.count == b.count
theorem Equal_any (a b : Re) (A B : Option Addr) (c d : Nat) (w : World) (ha : At w A (a.ev.args.map (Value.int .i64))) (hb : At w B (b.ev.args.map (Value.int .i64))) (hn : a.ev.args.length≤1099511627776) :
  Calls Tryz.prog 113 #[.agg (recA a A c),.agg (recA b B d)] w fun e w'=>e = .returned (.bool (recEq a b))∧Ext w w' := by
 have hs1:=recA_size a A c
 have hs2:=recA_size b B d
 have hB1 : Blk ((w.alloc (.cells (recA a A c) 64)).alloc (.cells (recA b B d) 64)) w.heap.size 64 (recA a A c):=(Blk.new w _ _).ext ((Ext.refl _).alloc _)
 have hB2 : Blk ((w.alloc (.cells (recA a A c) 64)).alloc (.cells (recA b B d) 64)) (w.heap.size + 1) 64 (recA b B d):=Blk.new2 w _ _ _ _
 have hx0 : Ext w ((w.alloc (.cells (recA a A c) 64)).alloc (.cells (recA b B d) 64)):=((Ext.refl w).alloc _).alloc _
 have hcm:=cmpC_one a.clk b.clk
 have hre:=Lib.hid (show recEq a b = (a.comp == b.comp && a.seq == b.seq && sameTo a.clk b.clk 16 && a.what == b.what && evEq a.ev b.ev && a.count == b.count) from rfl)
 have K1:=Lib.hid (Compare_any a.clk b.clk)
 have K2:=Lib.hid (fun w' (e : Ext w w')=>equalEvent_any a.ev b.ev A B c d w' (ha.ext e) (hb.ext e) hn)
 generalize recEq a b = req at *
 generalize evEq a.ev b.ev = ee at *
 generalize sameTo a.clk b.clk 16 = sm at *
 have tk1 : True:=trivial
 have tk2 : True:=trivial
 have tk3 : True:=trivial
 have tk4 : True:=trivial
 go_enter Tryz.func113,Tryz.ntmps113
 go_wp2_with (first
  | (have _t:=tk1; refine wpList_load_rg 61 (.tmp 18) (by rfl) (by rfl) w.heap.size 2 (clkA a.clk) (by rfl) Tryz.underlying61 (by rfl) clk_size hB1.clk ?_; clear tk1)
  | (have _t:=tk2; refine wpList_load_rg 61 (.tmp 20) (by rfl) (by rfl) (w.heap.size + 1) 2 (clkA b.clk) (by rfl) Tryz.underlying61 (by rfl) clk_size hB2.clk ?_; clear tk2)
  | (go_at_call 26; refine (K1.out _).mono ?_; rintro e w1 ⟨rfl,hx1⟩; have hC1:=(hB1.ext hx1).cell; have hC2:=(hB2.ext hx1).cell; have hx01:=hx0.trans hx1)
  | (have _t:=tk3; refine wpList_load_rg 33 (.tmp 33) (by rfl) (by rfl) w.heap.size 19 (evA a.ev A c) (by rfl) Tryz.underlying33 (by rfl) ev_size (hB1.ext hx1).ev ?_; clear tk3)
  | (have _t:=tk4; refine wpList_load_rg 33 (.tmp 35) (by rfl) (by rfl) (w.heap.size + 1) 19 (evA b.ev B d) (by rfl) Tryz.underlying33 (by rfl) ev_size (hB2.ext hx1).ev ?_; clear tk4)
  | (go_at_call 130; refine (K2.out _ hx01).mono ?_; rintro e w2 ⟨rfl,hx2⟩; have hC3:=((hB1.ext hx1).ext hx2).cell; have hC4:=((hB2.ext hx1).ext hx2).cell; have hx02:=hx01.trans hx2))
 all_goals go_ret
 all_goals refine ⟨ret_bool ?_,?_⟩
 all_goals first | exact hx02 | exact hx01 | exact hx0 | skip
 all_goals rw [hre.out]
 all_goals clear K1 K2 hB1 hB2 ha hb
 all_goals first | (simp [*]; done) | (simp_all; done)
end Go.Proofs.YtcgfgilddjkpkaaGreat
namespace Go.Proofs.YtcgfgilddjkpkaaGreat
end Go.Proofs.YtcgfgilddjkpkaaGreat
