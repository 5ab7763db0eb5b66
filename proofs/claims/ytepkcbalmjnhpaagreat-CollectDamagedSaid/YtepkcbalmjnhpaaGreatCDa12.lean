/-
  What the claim leans on, part 12.
-/
import Derived.Test.YtepkcbalmjnhpaaGreatCDa11
import Derived.Laws.BytesArg
set_option linter.unusedVariables false
set_option linter.unusedSimpArgs false
namespace Go.Proofs.YtepkcbalmjnhpaaGreat
open Go.RowKit
class TStr (P : Program) (t : TypeId) : Prop where
 h : P.underlying t = some .string
section
variable {P : Program} {ops : Array Oper} {σ : AS} {t ty : Nat} {pos : String} {af : Array Edge}
end
set_option maxRecDepth 100000
instance : TStr Tryz.prog 9 := ⟨by kernel_rfl⟩
instance : TStr Tryz.prog 10 := ⟨by kernel_rfl⟩
instance : TStr Tryz.prog 11 := ⟨by kernel_rfl⟩
set_option maxHeartbeats 1000000
theorem recOk_read {b : List Int} {y : Re} (hb : ∀ x∈b,Byt x) (hl : b.length≤4611686018427387904) (h : readRec b = some y) : RecOk (ofRe y):=by
 obtain ⟨hv,_,hT,ha⟩ := readRec_ok hb hl h
 refine ⟨fits_ofRe hT ha,fun h2=>?_⟩
 have w2 : y.what = 2:=h2
 unfold validB okWhat at hv
 rw [if_neg (by omega),if_pos w2] at hv
 simp only [Bool.and_eq_true,decide_eq_true_eq] at hv
 have h1:=hv.1.1.2
 have h3:=hv.1.2
 show 0 < y.count∧y.seq + y.count≤18446744073709551615
 omega
theorem record_any (b : List Int) (hb : ∀ x∈b,Byt x) (hl : b.length≤140737488355328) : (∃ r e,record_Read b = some (r,e)∧e≠0)∨∃ y,readRec b = some y∧record_Read b = some (ofRe y,0)∧RecOk (ofRe y):=by
 have hbo : bytOk b = true:=by
  unfold bytOk
  simp only [Bool.and_eq_true,List.all_eq_true,okI_iff,InR,decide_eq_true_eq]
  exact ⟨fun x hx=>hb x hx,hl⟩
 unfold record_Read
 rw [chk_pos hbo]
 cases h : readRec b with
 | none=>exact .inl ⟨_,6,rfl,by decide⟩
 | some y=>exact .inr ⟨y,rfl,rfl,recOk_read hb (by omega) h⟩
def Stands (q : List Int) (n : Nat) : Prop := ∃ a b c0 c1 c2 c3 rest,q = 165 :: 90 :: a :: b :: c0 :: c1 :: c2 :: c3 :: rest∧(n : Int) = a + 256 * b∧n≤4000∧n≤rest.length∧ckS [a,b] (rest.take n) = c0 + 256 * c1 + 65536 * c2 + 16777216 * c3
theorem stands_any (q : List Int) (hq : ∀ x∈q,Byt x) (hl : q.length≤1099511627776) : ∃ v ok,frame_stands q = some (v,ok)∧(ok = true→∃ n : Nat,v = 8 + (n : Int)∧Stands q n):=by
 by_cases h8 : q.length < 8
 ·have hd : decide ((q.length : Int) < 8) = true:=by simp only [decide_eq_true_eq]; omega
  unfold frame_stands
  rw [hd]
  simp only [gb,Bool.not_true,Bool.false_eq_true,if_false,Option.bind_some,Bool.true_or,if_true]
  exact ⟨0,false,rfl,fun h=>by cases h⟩
 ·obtain ⟨x0,x1,x2,x3,x4,x5,x6,x7,rest,rfl⟩ : ∃ x0 x1 x2 x3 x4 x5 x6 x7 rest,q = x0 :: x1 :: x2 :: x3 :: x4 :: x5 :: x6 :: x7 :: rest:=by
   rcases q with _ | ⟨x0,_ | ⟨x1,_ | ⟨x2,_ | ⟨x3,_ | ⟨x4,_ | ⟨x5,_ | ⟨x6,_ | ⟨x7,rest⟩⟩⟩⟩⟩⟩⟩⟩
   case cons.cons.cons.cons.cons.cons.cons.cons=>exact ⟨_,_,_,_,_,_,_,_,_,rfl⟩
   all_goals (exfalso; simp at h8)
  have hlen : ((x0 :: x1 :: x2 :: x3 :: x4 :: x5 :: x6 :: x7 :: rest).length : Int) = 8 + rest.length:=by simp only [List.length_cons]; omega
  have b2:=hq x2 (by simp)
  have b3:=hq x3 (by simp)
  have b4:=hq x4 (by simp)
  have b5:=hq x5 (by simp)
  have b6:=hq x6 (by simp)
  have b7:=hq x7 (by simp)
  have i0 : idx (x0 :: x1 :: x2 :: x3 :: x4 :: x5 :: x6 :: x7 :: rest) 0 = some x0:=rfl
  have i1 : idx (x0 :: x1 :: x2 :: x3 :: x4 :: x5 :: x6 :: x7 :: rest) 1 = some x1:=rfl
  have i2 : idx (x0 :: x1 :: x2 :: x3 :: x4 :: x5 :: x6 :: x7 :: rest) 2 = some x2:=rfl
  have i3 : idx (x0 :: x1 :: x2 :: x3 :: x4 :: x5 :: x6 :: x7 :: rest) 3 = some x3:=rfl
  have i4 : idx (x0 :: x1 :: x2 :: x3 :: x4 :: x5 :: x6 :: x7 :: rest) 4 = some x4:=rfl
  have i5 : idx (x0 :: x1 :: x2 :: x3 :: x4 :: x5 :: x6 :: x7 :: rest) 5 = some x5:=rfl
  have i6 : idx (x0 :: x1 :: x2 :: x3 :: x4 :: x5 :: x6 :: x7 :: rest) 6 = some x6:=rfl
  have i7 : idx (x0 :: x1 :: x2 :: x3 :: x4 :: x5 :: x6 :: x7 :: rest) 7 = some x7:=rfl
  have s1 : slc (x0 :: x1 :: x2 :: x3 :: x4 :: x5 :: x6 :: x7 :: rest) 2 4 = [x2,x3]:=rfl
  have hsl : ∀ n : Nat,slc (x0 :: x1 :: x2 :: x3 :: x4 :: x5 :: x6 :: x7 :: rest) 8 (8 + (n : Int)) = rest.take n:=fun n=>by
   unfold slc
   rw [show (8 + (n : Int)).toNat = n + 8 by omega,show (8 : Int).toNat = 8 from rfl]
   simp
  have hl' : rest.length≤1099511627776:=by simp only [List.length_cons] at hl; omega
  unfold frame_stands
  rw [i0,i1,i2,i3,i4,i5,i6,i7,s1,hlen]
  have hd : decide (8 + (rest.length : Int) < 8) = false:=by simp only [decide_eq_false_iff_not]; omega
  rw [hd]
  simp only [gb,Bool.not_false,if_true,Option.bind_some,Bool.false_or]
  by_cases m0 : x0 = 165
  ·subst m0
   simp only [bne_self_eq_false,Bool.not_false,if_true,Option.bind_some,Bool.false_or]
   by_cases m1 : x1 = 90
   ·subst m1
    simp only [bne_self_eq_false,Bool.false_eq_true,if_false]
    obtain ⟨g21,g22⟩ := b2
    obtain ⟨g31,g32⟩ := b3
    obtain ⟨g41,g42⟩ := b4
    obtain ⟨g51,g52⟩ := b5
    obtain ⟨g61,g62⟩ := b6
    obtain ⟨g71,g72⟩ := b7
    have p8 : (2 : Int) ^ min (Int.toNat 8) (IntKind.bits .i64) = 2 ^ 8:=by decide
    have hn : bitI .or .i64 (IntKind.wrap .i64 x2) (IntKind.wrap .i64 ((IntKind.wrap .i64 x3) * 2 ^ min (Int.toNat 8) (IntKind.bits .i64))) = x2 + 256 * x3:=by
     rw [p8,wrap_i64 (n:=x2) (by omega) (by omega),wrap_i64 (n:=x3) (by omega) (by omega),wrap_i64 (by omega) (by omega),or_i64 8 (by omega) (by omega) (by omega) (by omega)]
     omega
    rw [hn]
    obtain ⟨n,hnn⟩ : ∃ n : Nat,x2 + 256 * x3 = (n : Int) := ⟨(x2 + 256 * x3).toNat,by omega⟩
    have w1 : IntKind.wrap .i64 (8 + (rest.length : Int) - 8) = (rest.length : Int):=by rw [wrap_i64 (by omega) (by omega)]; omega
    have w2 : IntKind.wrap .i64 (8 + (n : Int)) = 8 + (n : Int):=wrap_i64 (by omega) (by omega)
    rw [hnn,w1,w2]
    by_cases c1 : 4000 < (n : Int)∨(rest.length : Int) < (n : Int)
    ·rw [if_pos (by simp only [Bool.or_eq_true,decide_eq_true_eq]; exact c1)]
     exact ⟨0,false,rfl,fun h=>by cases h⟩
    ·have hln : n≤rest.length:=by omega
     rw [if_neg (by simp only [Bool.or_eq_true,decide_eq_true_eq]; exact c1),chk_pos (by unfold slOk; simp only [List.length_cons]; omega),chk_pos (by unfold slOk; simp only [List.length_cons]; omega),hsl,checksum_eq _ _ (by simp) (by rw [List.length_take]; omega),Option.bind_some]
     have q8 : (2 : Int) ^ min (Int.toNat 8) (IntKind.bits .u32) = 2 ^ 8:=by decide
     have q16 : (2 : Int) ^ min (Int.toNat 16) (IntKind.bits .u32) = 2 ^ 16:=by decide
     have q24 : (2 : Int) ^ min (Int.toNat 24) (IntKind.bits .u32) = 2 ^ 24:=by decide
     have hsum : bitI .or .u32 (bitI .or .u32 (bitI .or .u32 (IntKind.wrap .u32 x4) (IntKind.wrap .u32 ((IntKind.wrap .u32 x5) * 2 ^ min (Int.toNat 8) (IntKind.bits .u32)))) (IntKind.wrap .u32 ((IntKind.wrap .u32 x6) * 2 ^ min (Int.toNat 16) (IntKind.bits .u32)))) (IntKind.wrap .u32 ((IntKind.wrap .u32 x7) * 2 ^ min (Int.toNat 24) (IntKind.bits .u32))) = x4 + 256 * x5 + 65536 * x6 + 16777216 * x7:=by
      rw [q8,q16,q24]
      rw [wrap_u32 (n:=x4) ⟨by omega,by omega⟩,wrap_u32 (n:=x5) ⟨by omega,by omega⟩,wrap_u32 (n:=x6) ⟨by omega,by omega⟩,wrap_u32 (n:=x7) ⟨by omega,by omega⟩]
      rw [wrap_u32 (n:=x5 * 2 ^ 8) ⟨by omega,by omega⟩,wrap_u32 (n:=x6 * 2 ^ 16) ⟨by omega,by omega⟩,wrap_u32 (n:=x7 * 2 ^ 24) ⟨by omega,by omega⟩]
      rw [or_u32 8 (by omega) (by omega) (by omega) (by omega),or_u32 16 (by omega) (by omega) (by omega) (by omega),or_u32 24 (by omega) (by omega) (by omega) (by omega)]
      omega
     rw [hsum]
     by_cases c2 : x4 + 256 * x5 + 65536 * x6 + 16777216 * x7 = ckS [x2,x3] (rest.take n)
     ·rw [if_neg (by simp [c2])]
      exact ⟨_,true,rfl,fun _=>⟨n,rfl,x2,x3,x4,x5,x6,x7,rest,rfl,hnn.symm,by omega,hln,c2.symm⟩⟩
     ·rw [if_pos (by simpa using c2)]
      exact ⟨0,false,rfl,fun h=>by cases h⟩
   ·rw [if_pos (by simpa using m1)]
    exact ⟨0,false,rfl,fun h=>by cases h⟩
  ·have hb : (x0 != 165) = true:=by simpa using m0
   rw [hb]
   simp only [Bool.not_true,Bool.false_eq_true,if_false,Option.bind_some,Bool.true_or,if_true]
   exact ⟨0,false,rfl,fun h=>by cases h⟩
theorem scanL_any {q : List Int} (hq : ∀ x∈q,Byt x) (hl : q.length≤1099511627776) (off : Nat) (ho : off≤q.length) : ∃ e,whileM (E:=Int × Int × Bool) (scanL q) ((off : Int),0,false) = some e∧∃ t : Nat,e.1 = (t : Int)∧off≤t∧t≤q.length∧(e.2.2 = true→t < q.length∧∃ n : Nat,e.2.1 = 8 + (n : Int)∧Stands (q.drop t) n):=by
 refine whileM_ind (S:=Int × Int × Bool) (E:=Int × Int × Bool) (step:=scanL q) (s0:=((off : Int),0,false)) (fun s=>∃ t : Nat,s.1 = (t : Int)∧off≤t∧t≤q.length∧s.2.2 = false) (fun s=>q.length - s.1.toNat) (fun e=>∃ t : Nat,e.1 = (t : Int)∧off≤t∧t≤q.length∧(e.2.2 = true→t < q.length∧∃ n : Nat,e.2.1 = 8 + (n : Int)∧Stands (q.drop t) n)) ⟨off,rfl,Nat.le_refl _,ho,rfl⟩ (by (try dsimp only); omega) ?_
 rintro ⟨i,l,g⟩ ⟨t,h1,h2,h3,h4⟩
 dsimp only at h1 h4 ⊢
 subst h1 h4
 unfold scanL
 dsimp only
 by_cases hc : t < q.length
 ·obtain ⟨v,ok,s1,s2⟩ := stands_any (q.drop t) (fun x hx=>hq x (List.mem_of_mem_drop hx)) (by rw [List.length_drop]; omega)
  have w : IntKind.wrap .i64 ((t : Int) + 1) = ((t + 1 : Nat) : Int):=by rw [wrap_i64 (by omega) (by omega)]; omega
  rw [if_pos (by simp only [decide_eq_true_eq]; omega),chk_pos (by unfold slOk; omega),Int.toNat_natCast,s1,Option.bind_some,w]
  cases ok with
  | true=>exact .inr ⟨_,rfl,t,rfl,h2,h3,fun _=>⟨hc,s2 rfl⟩⟩
  | false=>exact .inl ⟨_,rfl,⟨t + 1,rfl,by omega,by omega,rfl⟩,by (try dsimp only); omega⟩
 ·rw [if_neg (by simp only [decide_eq_true_eq]; omega)]
  exact .inr ⟨_,rfl,t,rfl,h2,h3,fun h=>by cases h⟩
def PartOk (q : List Int) (x : frame_Part) : Prop:=x.gGood = true→∃ t n : Nat,Stands (q.drop t) n∧x.gBody = (q.drop (t + 8)).take n
theorem stands_room {q : List Int} {t n : Nat} (h : Stands (q.drop t) n) : t + 8 + n≤q.length:=by
 obtain ⟨a,b,c0,c1,c2,c3,rest,e,_,_,hn,_⟩ := h
 have:=congrArg List.length e
 simp only [List.length_drop,List.length_cons] at this
 omega
theorem scan_any {q : List Int} (hq : ∀ x∈q,Byt x) (hl : q.length≤1099511627776) : ∀ (fu off : Nat),off≤q.length→q.length < off + fu→∃ parts,scanM q fu (off : Int) = some parts∧parts.length≤2 * fu∧∀ x∈parts,PartOk q x
 | 0,off,h1,h2=>by omega
 | fu + 1,off,h1,h2=>by
  have gapOk : ∀ (c : Bool) (o l : Int),∀ x∈(if c = true then [(⟨o,l,[],false⟩ : frame_Part)] else []),PartOk q x:=fun c o l x hx hg=>by
   split at hx
   ·rw [List.mem_singleton] at hx; subst hx; cases hg
   ·cases hx
  have gapLen : ∀ (c : Bool) (o l : Int),(if c = true then [(⟨o,l,[],false⟩ : frame_Part)] else []).length≤1:=fun c o l=>by
   split <;> simp
  unfold scanM
  by_cases hc : off < q.length
  ·rw [if_pos (by simp only [decide_eq_true_eq]; omega)]
   obtain ⟨⟨i,l,g⟩,e1,t,e2,e3,e4,e5⟩ := scanL_any hq hl off h1
   rw [e1,Option.bind_some]
   dsimp only at e2 e5 ⊢
   subst e2
   cases g with
   | false=>
    rw [if_neg (by decide)]
    exact ⟨_,rfl,by have:=gapLen (decide ((off : Int) < (t : Int))) off (IntKind.wrap .i64 ((t : Int) - (off : Int))); omega,gapOk _ _ _⟩
   | true=>
    obtain ⟨f1,n,rfl,f2⟩ := e5 rfl
    have hroom:=stands_room f2
    have w1 : IntKind.wrap .i64 ((t : Int) + 8) = (t : Int) + 8:=wrap_i64 (by omega) (by omega)
    have w2 : IntKind.wrap .i64 ((t : Int) + (8 + (n : Int))) = ((t + 8 + n : Nat) : Int):=by rw [wrap_i64 (by omega) (by omega)]; omega
    have hs : slc q ((t : Int) + 8) ((t + 8 + n : Nat) : Int) = (q.drop (t + 8)).take n:=by
     unfold slc
     rw [show ((t : Int) + 8).toNat = t + 8 by omega,Int.toNat_natCast,List.drop_take,Nat.add_sub_cancel_left]
    have hsl : ((q.drop (t + 8)).take n).length≤q.length:=by rw [List.length_take,List.length_drop]; omega
    obtain ⟨rest,r1,r2,r3⟩ := scan_any hq hl fu (t + 8 + n) hroom (by omega)
    rw [if_pos rfl,w1,w2,chk_pos (by unfold slOk; omega),hs,chk_pos (by simp only [apOk,List.length_nil,Nat.zero_add]; omega),r1,Option.bind_some,List.nil_append]
    refine ⟨_,rfl,?_,fun x hx=>?_⟩
    ·have:=gapLen (decide ((off : Int) < (t : Int))) off (IntKind.wrap .i64 ((t : Int) - (off : Int)))
     rw [List.length_append,List.length_cons]
     omega
    ·rcases List.mem_append.1 hx with h | h
     ·exact gapOk _ _ _ x h
     ·rcases List.mem_cons.1 h with rfl | h
      ·exact fun _=>⟨t,n,f2,rfl⟩
      ·exact r3 x h
  ·rw [if_neg (by simp only [decide_eq_true_eq]; omega)]
   exact ⟨[],rfl,by simp,fun x hx=>by cases hx⟩
theorem fold_any {q : List Int} (hq : ∀ x∈q,Byt x) (hl : q.length≤1000000) : ∀ (parts : List frame_Part) (l : List Rk) (lost : Int),(∀ x∈parts,PartOk q x)→l.length + parts.length≤10000000→∃ l' lost',foldO readStep (l,lost) parts = some (l',lost')∧l'.length≤l.length + parts.length∧∀ r∈l',r∈l∨(RecOk r∧∃ t n : Nat,Stands (q.drop t) n∧record_Read ((q.drop (t + 8)).take n) = some (r,0))
 | [],l,lost,_,_=>⟨l,lost,rfl,by simp,fun r hr=>.inl hr⟩
 | x :: parts,l,lost,h,hn=>by
  rw [List.length_cons] at hn
  have go : ∀ (l2 : List Rk) (lost2 : Int),readStep (l,lost) x = some (l2,lost2)→l2.length≤l.length + 1→(∀ r∈l2,r∈l∨(RecOk r∧∃ t n : Nat,Stands (q.drop t) n∧record_Read ((q.drop (t + 8)).take n) = some (r,0)))→∃ l' lost',foldO readStep (l,lost) (x :: parts) = some (l',lost')∧l'.length≤l.length + (x :: parts).length∧∀ r∈l',r∈l∨(RecOk r∧∃ t n : Nat,Stands (q.drop t) n∧record_Read ((q.drop (t + 8)).take n) = some (r,0)):=fun l2 lost2 e hl2 hm=>by
   obtain ⟨l',lost',f1,f2,f3⟩ := fold_any hq hl parts l2 lost2 (fun y hy=>h y (List.mem_cons_of_mem _ hy)) (by omega)
   refine ⟨l',lost',?_,by rw [List.length_cons]; omega,fun r hr=>?_⟩
   ·unfold foldO
    rw [e,Option.bind_some]; exact f1
   ·rcases f3 r hr with h1 | h1
    ·exact hm r h1
    ·exact .inr h1
  by_cases hg : x.gGood = true
  ·obtain ⟨t,n,s1,s2⟩ := h x (List.mem_cons_self ..) hg
   have hb : ∀ b∈(q.drop (t + 8)).take n,Byt b:=fun b hb=>hq b (List.mem_of_mem_drop (List.mem_of_mem_take hb))
   have hbl : ((q.drop (t + 8)).take n).length≤1000000:=by rw [List.length_take,List.length_drop]; omega
   rcases record_any _ hb (by omega) with ⟨r,e,e1,e2⟩ | ⟨y,y1,y2,y3⟩
   ·refine go l (IntKind.wrap .i64 (lost + x.gLen)) ?_ (by omega) fun r hr=>.inl hr
    unfold readStep
    rw [if_pos hg,s2,e1,Option.bind_some,if_neg (by simpa using e2)]
   ·refine go (l++[ofRe y]) lost ?_ (by simp) fun r hr=>?_
    ·unfold readStep
     rw [if_pos hg,s2,y2,Option.bind_some,if_pos (show ((ofRe y,(0 : Int)).snd == 0) = true from rfl),chk_pos (by simp only [apOk,List.length_singleton]; omega)]
    ·rcases List.mem_append.1 hr with h1 | h1
     ·exact .inl h1
     ·rw [List.mem_singleton] at h1
      subst h1
      exact .inr ⟨y3,t,n,s1,y2⟩
  ·refine go l (IntKind.wrap .i64 (lost + x.gLen)) ?_ (by omega) fun r hr=>.inl hr
   unfold readStep
   rw [if_neg hg]
theorem read_any {q : List Int} (hq : ∀ x∈q,Byt x) (hl : q.length≤1000000) : ∃ l lost,recorder_Read q = some (l,lost)∧l.length≤2 * (q.length + 1)∧∀ r∈l,RecOk r∧∃ t n : Nat,Stands (q.drop t) n∧record_Read ((q.drop (t + 8)).take n) = some (r,0):=by
 unfold recorder_Read
 rw [chk_pos (by simp only [apOk,List.length_nil,Nat.zero_add]; omega),List.nil_append]
 obtain ⟨parts,p1,p2,p3⟩ := scan_any hq (by omega) (q.length + 1) 0 (Nat.zero_le _) (by omega)
 rw [show ((0 : Nat) : Int) = 0 from rfl] at p1
 rw [p1,Option.bind_some]
 obtain ⟨l,lost,f1,f2,f3⟩ := fold_any hq hl parts [] 0 p3 (by simp only [List.length_nil]; omega)
 refine ⟨l,lost,f1,by simp only [List.length_nil] at f2; omega,fun r hr=>?_⟩
 rcases f3 r hr with h | h
 ·cases h
 ·exact h
def C1 (s : Nat) : Nat:=if s % 2 = 1 then (s / 2) ^^^ 2197175160 else s / 2
def CN : Nat→Nat→Nat
 | 0,s=>s
 | n + 1,s=>C1 (CN n s)
def CB (s v : Nat) : Nat:=CN 8 (s ^^^ v)
def CL (s : Nat) (l : List Nat) : Nat:=l.foldl CB s
theorem xcl {a b c : Nat} (h : a ^^^ b = a ^^^ c) : b = c:=by
 have:=congrArg (fun x=>a ^^^ x) h
 simp only [← Nat.xor_assoc,Nat.xor_self,Nat.zero_xor] at this
 exact this
theorem xcr {a b c : Nat} (h : b ^^^ a = c ^^^ a) : b = c:=by
 rw [Nat.xor_comm b,Nat.xor_comm c] at h
 exact xcl h
theorem xorN {x y : Int} (hx : U32 x) (hy : U32 y) : bitI .xor .u32 x y = ((x.toNat ^^^ y.toNat : Nat) : Int):=by
 have e32 : (2 : Int) ^ IntKind.u32.bits = 4294967296:=rfl
 have n1:=bit_nat (k:=.u32) hx.1 (by rw [e32]; exact hx.2)
 have n2:=bit_nat (k:=.u32) hy.1 (by rw [e32]; exact hy.2)
 have hlt : x.toNat ^^^ y.toNat < 2 ^ 32:=Nat.xor_lt_two_pow (by have:=hx.2; have:=hx.1; omega) (by have:=hy.2; have:=hy.1; omega)
 unfold bitI
 simp only [BitVec.toNat_xor,n1,n2]
 exact wrap_u32 ⟨by omega,by omega⟩
theorem C1_lt {s : Nat} (h : s < 4294967296) : C1 s < 4294967296:=by
 unfold C1
 split
 ·exact Nat.xor_lt_two_pow (n:=32) (by omega) (by decide)
 ·omega
theorem C1_inj {s t : Nat} (hs : s < 4294967296) (ht : t < 4294967296) (h : C1 s = C1 t) : s = t:=by
 have hm : (2197175160 : Nat).testBit 31 = true:=by decide
 have top : ∀ n : Nat,n < 2147483648→n.testBit 31 = false:=fun n hn=>Nat.testBit_lt_two_pow (i:=31) (by omega)
 unfold C1 at h
 split at h <;> split at h
 ·have:=xcr h
  omega
 ·have:=congrArg (fun n=>n.testBit 31) h
  simp only [Nat.testBit_xor,hm,top (s / 2) (by omega),top (t / 2) (by omega)] at this
  cases this
 ·have:=congrArg (fun n=>n.testBit 31) h
  simp only [Nat.testBit_xor,hm,top (s / 2) (by omega),top (t / 2) (by omega)] at this
  cases this
 ·omega
theorem CN_lt {s : Nat} (h : s < 4294967296) : ∀ n,CN n s < 4294967296
 | 0=>h
 | n + 1=>C1_lt (CN_lt h n)
theorem CN_inj {s t : Nat} (hs : s < 4294967296) (ht : t < 4294967296) : ∀ n,CN n s = CN n t→s = t
 | 0,h=>h
 | n + 1,h=>CN_inj hs ht n (C1_inj (CN_lt hs n) (CN_lt ht n) h)
theorem x_lt {s v : Nat} (hs : s < 4294967296) (hv : v < 256) : s ^^^ v < 4294967296:=Nat.xor_lt_two_pow (n:=32) (by omega) (by omega)
theorem CB_lt {s v : Nat} (hs : s < 4294967296) (hv : v < 256) : CB s v < 4294967296:=CN_lt (x_lt hs hv) 8
theorem CB_l {s t v : Nat} (hs : s < 4294967296) (ht : t < 4294967296) (hv : v < 256) (h : CB s v = CB t v) : s = t:=xcr (CN_inj (x_lt hs hv) (x_lt ht hv) 8 h)
theorem CB_r {s v w : Nat} (hs : s < 4294967296) (hv : v < 256) (hw : w < 256) (h : CB s v = CB s w) : v = w:=xcl (CN_inj (x_lt hs hv) (x_lt hs hw) 8 h)
theorem CL_lt : ∀ {l : List Nat} {s : Nat},s < 4294967296→(∀ v∈l,v < 256)→CL s l < 4294967296
 | [],s,hs,_=>hs
 | v :: l,s,hs,h=>CL_lt (l:=l) (CB_lt hs (h v (List.mem_cons_self ..))) fun w hw=>h w (List.mem_cons_of_mem _ hw)
theorem CL_inj : ∀ {l : List Nat} {s t : Nat},s < 4294967296→t < 4294967296→(∀ v∈l,v < 256)→CL s l = CL t l→s = t
 | [],s,t,_,_,_,h=>h
 | v :: l,s,t,hs,ht,hl,h=>by
  have hv:=hl v (List.mem_cons_self ..)
  exact CB_l hs ht hv (CL_inj (l:=l) (CB_lt hs hv) (CB_lt ht hv) (fun w hw=>hl w (List.mem_cons_of_mem _ hw)) h)
theorem CL_app (s : Nat) (u w : List Nat) : CL s (u++w) = CL (CL s u) w:=by unfold CL; exact List.foldl_append
theorem CL_one {u w : List Nat} {s v v' : Nat} (hs : s < 4294967296) (hu : ∀ x∈u,x < 256) (hw : ∀ x∈w,x < 256) (hv : v < 256) (hv' : v' < 256) (h : CL s (u++v :: w) = CL s (u++v' :: w)) : v = v' := by
 rw [CL_app,CL_app] at h
 have h1:=CL_lt hs hu
 exact CB_r h1 hv hv' (CL_inj (l:=w) (CB_lt h1 hv) (CB_lt h1 hv') hw h)
theorem crc1_nat {a : Int} (h : U32 a) : crc1 a = ((C1 a.toNat : Nat) : Int):=by
 have h0:=h.1
 have h1:=h.2
 have ha : bitI .and .u32 a 1 = a % 2:=by
  have e32 : (2 : Int) ^ IntKind.u32.bits = 4294967296:=rfl
  have n1:=bit_nat (k:=.u32) h0 (by rw [e32]; exact h1)
  have n2:=bit_nat (k:=.u32) (show (0 : Int)≤1 by decide) (by rw [e32]; decide)
  unfold bitI
  simp only [BitVec.toNat_and,n1,n2]
  rw [show (1 : Int).toNat = 1 from rfl,Nat.and_one_is_mod,wrap_u32 ⟨by omega,by omega⟩]
  omega
 have hd : Int.fdiv a (2 ^ min (Int.toNat 1) (IntKind.bits .u32)) = a / 2:=by
  have : (2 : Int) ^ min (1 : Int).toNat IntKind.u32.bits = 2:=rfl
  rw [this,Int.fdiv_eq_ediv_of_nonneg _ (by omega)]
 unfold crc1 frame_update_L4 C1
 simp only [ha,hd]
 by_cases hp : a % 2 = 1
 ·rw [if_pos (by simpa using hp),if_pos (by omega)]
  simp only [Option.getD_some]
  rw [xorN ⟨by omega,by omega⟩ ⟨by decide,by decide⟩]
  rw [show (a / 2).toNat = a.toNat / 2 by omega]
  rfl
 ·rw [if_neg (by simpa using hp),if_neg (by omega)]
  simp only [Option.getD_some]
  omega
theorem iter_nat {a : Int} (h : U32 a) : ∀ n,iterI crc1 n a = ((CN n a.toNat : Nat) : Int)
 | 0=>by have:=h.1; show a = ((a.toNat : Nat) : Int); omega
 | n + 1=>by
  have hl : CN n a.toNat < 4294967296:=CN_lt (by have:=h.1; have:=h.2; omega) n
  show crc1 (iterI crc1 n a) = _
  rw [iter_nat h n,crc1_nat ⟨by omega,by omega⟩,Int.toNat_natCast]
  rfl
theorem crcB_nat {a v : Int} (h : U32 a) (hv : Byt v) : crcB a v = ((CB a.toNat v.toNat : Nat) : Int):=by
 have h0:=hv.1
 have h1:=hv.2
 have hv' : U32 v := ⟨h0,by omega⟩
 have hx:=x_lt (s:=a.toNat) (v:=v.toNat) (by have:=h.1; have:=h.2; omega) (by omega)
 unfold crcB CB
 rw [wrap_u32 hv',xorN h hv',iter_nat ⟨by omega,by omega⟩,Int.toNat_natCast]
theorem crcL_nat : ∀ {xs : List Int} {a : Int},U32 a→(∀ v∈xs,Byt v)→crcL a xs = ((CL a.toNat (xs.map Int.toNat) : Nat) : Int)
 | [],a,h,_=>by have:=h.1; show a = ((a.toNat : Nat) : Int); omega
 | v :: xs,a,h,hx=>by
  have hv:=hx v (List.mem_cons_self ..)
  have hb:=crcB_nat h hv
  have hl:=CB_lt (s:=a.toNat) (v:=v.toNat) (by have:=h.1; have:=h.2; omega) (by have:=hv.1; have:=hv.2; omega)
  show crcL (crcB a v) xs = _
  rw [hb,crcL_nat (xs:=xs) ⟨by omega,by omega⟩ fun w hw=>hx w (List.mem_cons_of_mem _ hw),Int.toNat_natCast]
  rfl
def KN (a b : List Nat) : Nat:=4294967295 ^^^ CL (CL 4294967295 a) b
theorem nat_lt {xs : List Int} (hx : ∀ v∈xs,Byt v) : ∀ v∈xs.map Int.toNat,v < 256:=by
 intro v hv
 obtain ⟨x,h,rfl⟩ := List.mem_map.1 hv
 have:=hx x h
 have h1:=this.1
 have h2:=this.2
 omega
theorem ckS_nat {a b : List Int} (ha : ∀ v∈a,Byt v) (hb : ∀ v∈b,Byt v) : ckS a b = ((KN (a.map Int.toNat) (b.map Int.toNat) : Nat) : Int):=by
 have h1:=CL_lt (l:=a.map Int.toNat) (s:=4294967295) (by decide) (nat_lt ha)
 have h2:=CL_lt (l:=b.map Int.toNat) h1 (nat_lt hb)
 unfold ckS KN
 rw [crcL_nat ⟨by decide,by decide⟩ ha,show (4294967295 : Int).toNat = 4294967295 from rfl,crcL_nat ⟨by omega,by omega⟩ hb,Int.toNat_natCast]
 rw [show (if IntKind.signed .u32 = true then (-1 : Int) else IntKind.max .u32) = 4294967295 from rfl,xorN ⟨by decide,by decide⟩ ⟨by omega,by omega⟩]
 rfl
theorem ck_change {a b : List Int} (ha : ∀ v∈a,Byt v) (hb : ∀ v∈b,Byt v) {e : Nat} (he : e < b.length) {v : Int} (hv : Byt v) (h : ckS a (b.set e v) = ckS a b) : v = b[e]:=by
 have hbe:=hb _ (List.getElem_mem he)
 have hs : ∀ w∈b.set e v,Byt w:=fun w hw=>(List.mem_or_eq_of_mem_set hw).elim (hb w) fun h=>by rw [h]; exact hv
 have h1:=CL_lt (l:=a.map Int.toNat) (s:=4294967295) (by decide) (nat_lt ha)
 rw [ckS_nat ha hs,ckS_nat ha hb] at h
 have h : KN (a.map Int.toNat) ((b.set e v).map Int.toNat) = KN (a.map Int.toNat) (b.map Int.toNat):=by omega
 unfold KN at h
 have h:=xcl h
 have e1 : b = b.take e++b[e] :: b.drop (e + 1):=by rw [← List.drop_eq_getElem_cons he,List.take_append_drop]
 have e2 : b.set e v = b.take e++v :: b.drop (e + 1):=by rw [List.set_eq_take_append_cons_drop,if_pos he]
 have hb1 : b.map Int.toNat = (b.take e).map Int.toNat++(b[e]).toNat :: (b.drop (e + 1)).map Int.toNat:=by
  conv=>lhs; rw [e1]
  rw [List.map_append,List.map_cons]
 rw [e2,hb1,List.map_append,List.map_cons] at h
 have:=CL_one h1 (nat_lt fun w hw=>hb w (List.mem_of_mem_take hw)) (nat_lt fun w hw=>hb w (List.mem_of_mem_drop hw)) (by have:=hv.1; have:=hv.2; omega) (by have:=hbe.1; have:=hbe.2; omega) h
 have:=hv.1
 have:=hbe.1
 omega
theorem read_rec {b : List Int} (hb : ∀ x∈b,Byt x) (hl : b.length≤1000000) {r : Rk} (hr : record_Read b = some (r,0)) : ∃ y,readRec b = some y∧r = ofRe y:=by
 have hbo : bytOk b = true:=by
  unfold bytOk
  simp only [Bool.and_eq_true,List.all_eq_true,okI_iff,InR,decide_eq_true_eq]
  exact ⟨fun x hx=>hb x hx,by omega⟩
 unfold record_Read at hr
 rw [chk_pos hbo] at hr
 cases h : readRec b with
 | none=>
  rw [h] at hr
  injection hr with hr
  injection hr with _ hr
  cases hr
 | some y=>
  rw [h] at hr
  injection hr with hr
  injection hr with hr _
  exact ⟨y,rfl,hr.symm⟩
theorem entry_shape {b : List Int} (hb : ∀ x∈b,Byt x) (hl : b.length≤1000000) {r : Rk} (hr : record_Read b = some (r,0)) (h1 : r.gWhat = 1) {k : Int} (hk : k < 128) (h2 : r.gComponent = k) (h3 : r.gSeq < 48) : ∃ sq cl rest,b = 1 :: k :: sq :: cl :: rest∧(cl = 0→∃ tk rest',rest = tk :: rest'∧(tk < 128→∃ kd rest'',rest' = kd :: rest''∧kd≠0)):=by
 obtain ⟨y,y1,rfl⟩ := read_rec hb hl hr
 obtain ⟨v1,v2,v3,_⟩ := readRec_ok hb (by omega) y1
 have w1 : y.what = 1:=h1
 have w2 : y.comp = k:=h2
 have w3 : y.seq < 48:=h3
 have hev:=evOk_ranges (valid_entry v1 w1).1
 have e1 : recHead y = [1,k,y.seq]:=by
  unfold recHead
  rw [w1,w2,putU_small hk,putU_small (by omega)]
  rfl
 have e2 : recTail y = (clen y.clk : Int) :: (entB y.clk (clen y.clk)++evBytes y.ev):=by
  unfold recTail
  rw [if_pos w1,clkBytes_eq]
  rfl
 refine ⟨y.seq,(clen y.clk : Int),entB y.clk (clen y.clk)++evBytes y.ev,?_,fun h0=>?_⟩
 ·rw [← v2]
  unfold recBytes
  rw [if_pos v1,e1,e2]
  rfl
 ·have hc0 : clen y.clk = 0:=by omega
  rw [hc0]
  have e3 : entB y.clk 0++evBytes y.ev = putU y.ev.tick++(putU y.ev.kind++(([y.ev.peer,y.ev.n,y.ev.copy,y.ev.handler].flatMap putU)++(putI y.ev.d++(putU y.ev.args.length++y.ev.args.flatMap putI)))):=by
   unfold entB evBytes evNums
   simp [List.flatMap_cons]
  rw [e3]
  by_cases ht : y.ev.tick < 128
  ·rw [putU_small ht,putU_small (show y.ev.kind < 128 by omega)]
   exact ⟨_,_,rfl,fun _=>⟨_,_,rfl,by omega⟩⟩
  ·rw [putU_big (by omega)]
   exact ⟨_,_,rfl,fun h=>by omega⟩
def entL (k s i : Int) : List Int:=if k = 0 then [1,0,s,1,1,s,3,0,i,0,0,0,0] else [1,1,s,2,0,1,s,3,0,i,0,0,0,0]
def Orig (k : Int) (B : List Int) : Prop := ∃ s,0≤s∧s < 40∧((∃ i,1≤i∧i≤3∧B = entL k s i)∨(∃ n,1≤n∧n≤8∧B = [2,k,s,n])∨B = [3,k,s])
theorem bytes_entry (k s i : Int) (hk : k = 0∨k = 1) (hs : 0≤s∧s < 40) (hi : 1≤i∧i≤3) : recBytes (reOf (mkE k s i)) = entL k s i:=by
 have hv:=(mkE_ok k s i (by omega) (by omega) (by omega)).2
 have e1 : recHead (reOf (mkE k s i)) = [1,k,s]:=by
  unfold recHead
  show (1 : Int) :: (putU k++putU s) = _
  rw [putU_small (v:=k) (by omega),putU_small (v:=s) (by omega)]
  rfl
 have ev : evBytes (reOf (mkE k s i)).ev = [s,3,0,i,0,0,0,0]:=by
  unfold evBytes evNums
  show ([s,3,0,i,0,0].flatMap putU)++putI 0++putU 0++[] = _
  have hz : putI 0 = [0]:=by unfold putI; rw [show zig 0 = 0 from rfl,putU_small (by decide)]
  rw [hz]
  simp only [List.flatMap_cons,List.flatMap_nil]
  rw [putU_small (v:=s) (by omega),putU_small (v:=3) (by omega),putU_small (v:=0) (by omega),putU_small (v:=i) (by omega)]
  rfl
 unfold recBytes
 rw [if_pos hv,e1]
 unfold recTail
 rw [if_pos (show (reOf (mkE k s i)).what = 1 from rfl),clkBytes_eq,ev]
 rcases hk with rfl | rfl
 ·have hc : clen (reOf (mkE 0 s i)).clk = 1:=by kernel_rfl
  rw [hc]
  have h0 : (reOf (mkE 0 s i)).clk 0 = 1:=by kernel_rfl
  unfold entB
  simp only [List.range_succ,List.range_zero,List.nil_append,List.map_cons,List.map_nil,List.flatMap_cons,List.flatMap_nil,h0]
  rw [putU_small (v:=1) (by decide)]
  rfl
 ·have hc : clen (reOf (mkE 1 s i)).clk = 2:=by kernel_rfl
  rw [hc]
  have h0 : (reOf (mkE 1 s i)).clk 0 = 0:=by kernel_rfl
  have h1 : (reOf (mkE 1 s i)).clk 1 = 1:=by kernel_rfl
  unfold entB
  simp only [List.range_succ,List.range_zero,List.nil_append,List.cons_append,List.map_cons,List.map_nil,List.flatMap_cons,List.flatMap_nil,h0,h1]
  rw [putU_small (v:=1) (by decide),putU_small (v:=0) (by decide)]
  rfl
theorem orig_of {k : Int} (hk : k = 0∨k = 1) {x : w30_Raw} (hx : RawOk x) : Orig k (recBytes (reOf (mkR k x))):=by
 have hv:=(mkR_ok k x (by omega) hx).2
 obtain ⟨⟨a1,a2⟩,⟨b1,b2⟩,⟨c1,c2⟩,⟨d1,d2⟩⟩ := hx
 refine ⟨x.gSeq % 40,by omega,by omega,?_⟩
 by_cases w2 : x.gWhat % 4 = 2
 ·refine .inr (.inl ⟨1 + x.gCount % 8,by omega,by omega,?_⟩)
  have e : mkR k x = ⟨k,x.gSeq % 40,⟨zer16⟩,2,⟨0,0,0,0,0,0,0,0,[]⟩,1 + x.gCount % 8⟩ := by unfold mkR; rw [if_pos w2]
  rw [e] at hv ⊢
  unfold recBytes
  rw [if_pos hv]
  unfold recHead recTail
  show (2 : Int) :: (putU k++putU (x.gSeq % 40))++(if (2 : Int) = 1 then _ else if (2 : Int) = 2 then putU (1 + x.gCount % 8) else []) = _
  rw [if_neg (by decide),if_pos rfl,putU_small (v:=k) (by omega),putU_small (v:=x.gSeq % 40) (by omega),putU_small (v:=1 + x.gCount % 8) (by omega)]
  rfl
 ·by_cases w3 : x.gWhat % 4 = 3
  ·refine .inr (.inr ?_)
   have e : mkR k x = ⟨k,x.gSeq % 40,⟨zer16⟩,3,⟨0,0,0,0,0,0,0,0,[]⟩,0⟩ := by unfold mkR; rw [if_neg w2,if_pos w3]
   rw [e] at hv ⊢
   unfold recBytes
   rw [if_pos hv]
   unfold recHead recTail
   show (3 : Int) :: (putU k++putU (x.gSeq % 40))++(if (3 : Int) = 1 then _ else if (3 : Int) = 2 then _ else []) = _
   rw [if_neg (by decide),if_neg (by decide),putU_small (v:=k) (by omega),putU_small (v:=x.gSeq % 40) (by omega)]
   rfl
  ·refine .inl ⟨1 + x.gId % 3,by omega,by omega,?_⟩
   have e : mkR k x = mkE k (x.gSeq % 40) (1 + x.gId % 3):=by unfold mkR; rw [if_neg w2,if_neg w3]
   rw [e]
   exact bytes_entry k _ _ hk ⟨by omega,by omega⟩ ⟨by omega,by omega⟩
theorem orig_facts {k : Int} (hk : k = 0∨k = 1) {B : List Int} (h : Orig k B) : (∀ b∈B,0≤b∧b≤40)∧3≤B.length∧B.length≤14∧B.length≠5∧∃ b0 rest,B = b0 :: rest:=by
 obtain ⟨s,s1,s2,⟨i,i1,i2,rfl⟩ | ⟨n,n1,n2,rfl⟩ | rfl⟩ := h
 ·unfold entL
  split
  ·refine ⟨fun b hb=>?_,by simp,by simp,by simp,_,_,rfl⟩
   simp only [List.mem_cons,List.not_mem_nil,or_false] at hb
   omega
  ·refine ⟨fun b hb=>?_,by simp,by simp,by simp,_,_,rfl⟩
   simp only [List.mem_cons,List.not_mem_nil,or_false] at hb
   omega
 ·refine ⟨fun b hb=>?_,by simp,by simp,by simp,_,_,rfl⟩
  simp only [List.mem_cons,List.not_mem_nil,or_false] at hb
  omega
 ·refine ⟨fun b hb=>?_,by simp,by simp,by simp,_,_,rfl⟩
  simp only [List.mem_cons,List.not_mem_nil,or_false] at hb
  omega
def ckOk (e : Bool) (l : List Nat) : Bool :=
 let c:=KN [l.length % 256,l.length / 256 % 256] l
 !(c % 256 == 165 && c / 256 % 256 == 90) && !(c / 256 % 256 == 165 && c / 65536 % 256 == 90) && !(c / 65536 % 256 == 165 && c / 16777216 % 256 == 90) && !(e && c / 16777216 % 256 == 165)
def entN (k s i : Nat) : List Nat:=if k = 0 then [1,0,s,1,1,s,3,0,i,0,0,0,0] else [1,1,s,2,0,1,s,3,0,i,0,0,0,0]
theorem all_ok : ((List.range 2).all fun k=>(List.range 40).all fun s=>((List.range 3).all fun i=>ckOk false (entN k s (i + 1))) && ((List.range 8).all fun n=>ckOk false [2,k,s,n + 1]) && ckOk true [3,k,s]) = true:=by kernel_rfl
theorem ck_facts {B : List Int} {l : List Nat} {e : Bool} (hB : B.map Int.toNat = l) (hb : ∀ b∈B,Byt b) (hn : B.length≤14) (he : B.length = 3→e = true) (h : ckOk e l = true) : ∃ c : Int,ckS (lenB B.length) B = c∧U32 c∧¬ (c % 256 = 165∧c / 256 % 256 = 90)∧¬ (c / 256 % 256 = 165∧c / 65536 % 256 = 90)∧¬ (c / 65536 % 256 = 165∧c / 16777216 % 256 = 90)∧(B.length = 3→c / 16777216 % 256≠165):=by
 have hl : l.length = B.length:=by rw [← hB,List.length_map]
 have hlb : ∀ v∈lenB B.length,Byt v:=fun v hv=>by
  unfold lenB at hv
  simp only [List.mem_cons,List.not_mem_nil,or_false] at hv
  unfold Byt
  omega
 have hln : (lenB B.length).map Int.toNat = [l.length % 256,l.length / 256 % 256]:=by
  rw [hl]
  unfold lenB
  simp only [List.map_cons,List.map_nil]
  rw [show ((B.length : Int) % 256).toNat = B.length % 256 by omega,show ((B.length : Int) / 256 % 256).toNat = B.length / 256 % 256 by omega]
 have hk:=ckS_nat hlb hb
 rw [hln,hB] at hk
 have hr:=ckS_range (lenB B.length) B
 refine ⟨_,rfl,hr,?_⟩
 unfold ckOk at h
 dsimp only at h
 generalize KN [l.length % 256,l.length / 256 % 256] l = c at hk h
 rw [hk]
 simp only [Bool.and_eq_true,Bool.not_eq_true',Bool.and_eq_false_iff,beq_eq_false_iff_ne,ne_eq] at h
 obtain ⟨⟨⟨h1,h2⟩,h3⟩,h4⟩ := h
 refine ⟨by omega,by omega,by omega,fun h5=>?_⟩
 rcases h4 with h4 | h4
 ·rw [he h5] at h4; cases h4
 ·omega
theorem orig_ck {k : Int} (hk : k = 0∨k = 1) {B : List Int} (h : Orig k B) : ∃ c : Int,ckS (lenB B.length) B = c∧U32 c∧¬ (c % 256 = 165∧c / 256 % 256 = 90)∧¬ (c / 256 % 256 = 165∧c / 65536 % 256 = 90)∧¬ (c / 65536 % 256 = 165∧c / 16777216 % 256 = 90)∧(B.length = 3→c / 16777216 % 256≠165):=by
 obtain ⟨f1,f2,f3,f4,_⟩ := orig_facts hk h
 have hb : ∀ b∈B,Byt b:=fun b hb=>by have:=f1 b hb; exact ⟨by omega,by omega⟩
 have ha:=all_ok
 simp only [List.all_eq_true,List.mem_range,Bool.and_eq_true] at ha
 obtain ⟨s,s1,s2,h⟩ := h
 have hks:=ha k.toNat (by omega) s.toNat (by omega)
 rcases h with ⟨i,i1,i2,rfl⟩ | ⟨n,n1,n2,rfl⟩ | rfl
 ·have:=hks.1.1 (i.toNat - 1) (by omega)
  rw [show i.toNat - 1 + 1 = i.toNat by omega] at this
  refine ck_facts ?_ hb f3 (fun h3=>?_) this
  ·unfold entL entN
   rcases hk with rfl | rfl <;> simp
  ·unfold entL at h3
   rcases hk with rfl | rfl <;> simp at h3
 ·have:=hks.1.2 (n.toNat - 1) (by omega)
  rw [show n.toNat - 1 + 1 = n.toNat by omega] at this
  refine ck_facts ?_ hb f3 (fun h3=>?_) this
  ·simp
  ·simp at h3
 ·exact ck_facts (by simp) hb f3 (fun _=>rfl) hks.2
theorem frame_cons (B post : List Int) : frameOf B++post = 165 :: 90 :: ((B.length : Int) % 256) :: ((B.length : Int) / 256 % 256) :: (ckS (lenB B.length) B % 256) :: (ckS (lenB B.length) B / 256 % 256) :: (ckS (lenB B.length) B / 65536 % 256) :: (ckS (lenB B.length) B / 16777216 % 256) :: (B++post):=by
 simp [frameOf,lenB,sumB]
def After (k : Int) (post : List Int) : Prop:=post = []∨∃ B p,Orig k B∧post = frameOf B++p
theorem after_first {k : Int} (hk : k = 0∨k = 1) {post : List Int} (h : After k post) : (∀ v,post[0]? = some v→v = 165)∧(∀ v,post[1]? = some v→v = 90)∧(∀ v,post[2]? = some v→3≤v)∧(∀ v,post[3]? = some v→v = 0):=by
 rcases h with rfl | ⟨B,p,hB,rfl⟩
 ·refine ⟨?_,?_,?_,?_⟩ <;> intro v hv <;> simp at hv
 ·obtain ⟨_,f2,f3,_⟩ := orig_facts hk hB
  rw [frame_cons]
  refine ⟨fun v hv=>?_,fun v hv=>?_,fun v hv=>?_,fun v hv=>?_⟩ <;> simp at hv <;> omega
theorem dam_in {k : Int} (hk : k = 0∨k = 1) {B post D : List Int} (hB : Orig k B) (hp : After k post) {t j d n : Nat} (hd1 : 1≤d) (hd2 : d < 8 + B.length) (hs : ∀ x,x < D.length→t + x≠j→D[x]? = (frameOf B++post)[d + x]?) (hdf : ∀ x,x < D.length→t + x = j→D[x]?≠(frameOf B++post)[d + x]?) (hbyt : ∀ x∈D,Byt x) (hDl : D.length≤1000000) (hS : Stands D n) {r : Rk} (hr : record_Read ((D.drop 8).take n) = some (r,0)) (h1 : r.gWhat = 1) (h2 : r.gComponent = k) (h3 : r.gSeq < 48) : False:=by
 obtain ⟨f1,f2,f3,f4,b0,B',hB0⟩ := orig_facts hk hB
 obtain ⟨c,hc,hcr,k1,k2,k3,k4⟩ := orig_ck hk hB
 obtain ⟨p0,p1,p2,p3⟩ := after_first hk hp
 obtain ⟨a,b,e0,e1,e2,e3,rest,rfl,hn,hn4,hnr,hck⟩ := hS
 rw [frame_cons,hc] at hs hdf
 have hL : (B.length : Int) % 256 = B.length:=by omega
 have hH : (B.length : Int) / 256 % 256 = 0:=by omega
 rw [hL,hH] at hs hdf
 have hdl : (165 :: 90 :: a :: b :: e0 :: e1 :: e2 :: e3 :: rest).length = rest.length + 8:=by simp
 rw [hdl] at hs hdf hDl
 have hbody : ((165 :: 90 :: a :: b :: e0 :: e1 :: e2 :: e3 :: rest).drop 8).take n = rest.take n:=rfl
 rw [hbody] at hr
 have hbr : ∀ x∈rest.take n,Byt x:=fun x hx=>hbyt x (by have:=List.mem_of_mem_take hx; simp [this])
 obtain ⟨sq,cl,rest2,hb4,hb5⟩ := entry_shape hbr (by rw [List.length_take]; omega) hr h1 (show k < 128 by omega) h2 h3
 have hBb : ∀ e v,e < B.length→(B++post)[e]? = some v→0≤v∧v≤40:=fun e v he hv=>by
  rw [List.getElem?_append_left he,List.getElem?_eq_getElem he] at hv
  injection hv with hv
  subst hv
  exact f1 _ (List.getElem_mem he)
 -- the marks
 have m0 : t≠j→(165 :: 90 :: (B.length : Int) :: 0 :: (c % 256) :: (c / 256 % 256) :: (c / 65536 % 256) :: (c / 16777216 % 256) :: (B++post))[d]? = some 165:=fun h=>(hs 0 (by omega) h).symm
 have m1 : t + 1≠j→(165 :: 90 :: (B.length : Int) :: 0 :: (c % 256) :: (c / 256 % 256) :: (c / 65536 % 256) :: (c / 16777216 % 256) :: (B++post))[d + 1]? = some 90:=fun h=>(hs 1 (by omega) h).symm
 have hd8 : 3≤d∧d≤7∧(d = 7→B.length≠3)∧(j = t∨j = t + 1):=by
  have hcase : d = 1∨d = 2∨d = 3∨d = 4∨d = 5∨d = 6∨d = 7∨8≤d:=by omega
  have hj : t≠j∨t + 1≠j:=by omega
  rcases hcase with rfl | rfl | rfl | rfl | rfl | rfl | rfl | h8
  ·exfalso
   simp only [List.getElem?_cons_succ,List.getElem?_cons_zero,Option.some.injEq] at m0 m1
   rcases hj with h | h
   ·have:=m0 h; omega
   ·have:=m1 h; omega
  ·exfalso
   simp only [List.getElem?_cons_succ,List.getElem?_cons_zero,Option.some.injEq] at m0 m1
   rcases hj with h | h
   ·have:=m0 h; omega
   ·have:=m1 h; omega
  ·simp only [List.getElem?_cons_succ,List.getElem?_cons_zero,Option.some.injEq] at m0 m1
   refine ⟨by omega,by omega,by omega,Classical.byContradiction fun hno=>?_⟩
   have:=m0 (by omega); omega
  ·simp only [List.getElem?_cons_succ,List.getElem?_cons_zero,Option.some.injEq] at m0 m1
   refine ⟨by omega,by omega,by omega,Classical.byContradiction fun hno=>?_⟩
   exact k1 ⟨m0 (by omega),m1 (by omega)⟩
  ·simp only [List.getElem?_cons_succ,List.getElem?_cons_zero,Option.some.injEq] at m0 m1
   refine ⟨by omega,by omega,by omega,Classical.byContradiction fun hno=>?_⟩
   exact k2 ⟨m0 (by omega),m1 (by omega)⟩
  ·simp only [List.getElem?_cons_succ,List.getElem?_cons_zero,Option.some.injEq] at m0 m1
   refine ⟨by omega,by omega,by omega,Classical.byContradiction fun hno=>?_⟩
   exact k3 ⟨m0 (by omega),m1 (by omega)⟩
  ·simp only [List.getElem?_cons_succ,List.getElem?_cons_zero,Option.some.injEq] at m0 m1
   have hb90 : (B++post)[0]?≠some 90:=fun h=>by
    have:=hBb 0 _ (by omega) h; omega
   have hj1 : j = t + 1:=by
    refine Classical.byContradiction fun hno=>?_
    exact hb90 (m1 (by omega))
   exact ⟨by omega,by omega,fun _ h=>k4 h (m0 (by omega)),.inr hj1⟩
  ·exfalso
   obtain ⟨e,rfl⟩ : ∃ e,d = e + 8 := ⟨d - 8,by omega⟩
   simp only [List.getElem?_cons_succ,Nat.add_right_comm e 8 1] at m0 m1
   rcases hj with h | h
   ·have:=hBb e _ (by omega) (m0 h); omega
   ·have:=m1 h
    by_cases he : e + 1 < B.length
    ·have:=hBb _ _ he this; omega
    ·rw [List.getElem?_append_right (by omega),show e + 1 - B.length = 0 by omega] at this
     have:=p0 _ this; omega
 obtain ⟨d3,d7,d7e,hj⟩ := hd8
 -- the body lies in what was not changed
 have hbx : ∀ x v,(1 :: k :: sq :: cl :: rest2)[x]? = some v→(B++post)[d + x]? = some v:=fun x v hv=>by
  rw [← hb4] at hv
  have hx : x < n∧x < rest.length:=by
   refine Classical.byContradiction fun hno=>?_
   rw [List.getElem?_eq_none (by rw [List.length_take]; omega)] at hv
   cases hv
  rw [List.getElem?_take,if_pos hx.1] at hv
  have:=hs (x + 8) (by omega) (by omega)
  simp only [← Nat.add_assoc,List.getElem?_cons_succ] at this
  rw [← this]
  exact hv
 have r0:=hbx 0 1 rfl
 have r1:=hbx 1 k rfl
 have r2:=hbx 2 sq rfl
 have r3:=hbx 3 cl rfl
 have r45 : cl = 0→∃ tk,(B++post)[d + 4]? = some tk∧(tk < 128→∃ kd,(B++post)[d + 5]? = some kd∧kd≠0):=fun h0=>by
  obtain ⟨tk,rest3,rfl,g⟩ := hb5 h0
  refine ⟨tk,hbx 4 tk rfl,fun hl=>?_⟩
  obtain ⟨kd,rest4,rfl,hkd⟩ := g hl
  exact ⟨kd,hbx 5 kd rfl,hkd⟩
 have hcase : d = 3∨d = 4∨d = 5∨d = 6∨d = 7:=by omega
 obtain ⟨s,s1,s2,⟨i,i1,i2,rfl⟩ | ⟨m,n1,n2,rfl⟩ | rfl⟩ := hB
 ·unfold entL at r0 r1 r2 r3 r45
  rcases hk with rfl | rfl
  ·rcases hcase with rfl | rfl | rfl | rfl | rfl
   ·simp at r0 r1
   ·simp at r0 r1 r2 r3
    obtain ⟨tk,t1,t2⟩ := r45 r3.symm
    simp at t1
    obtain ⟨kd,t3,t4⟩ := t2 (by omega)
    simp at t3
    omega
   ·simp at r0 r1
   ·simp at r0
   ·simp at r0
  ·rcases hcase with rfl | rfl | rfl | rfl | rfl
   ·simp at r0
   ·simp at r0
   ·simp at r0 r1 r2 r3
    obtain ⟨tk,t1,t2⟩ := r45 r3.symm
    simp at t1
    obtain ⟨kd,t3,t4⟩ := t2 (by omega)
    simp at t3
    omega
   ·simp at r0 r1
   ·simp at r0
 ·rcases hcase with rfl | rfl | rfl | rfl | rfl
  ·have hpk:=p0 k (by simpa using r1)
   rcases hk with hk | hk
   ·rw [hk] at hpk; cases hpk
   ·rw [hk] at hpk; cases hpk
  ·have:=p0 1 (by simpa using r0); omega
  ·have:=p1 1 (by simpa using r0); omega
  ·have:=p2 1 (by simpa using r0); omega
  ·have:=p3 1 (by simpa using r0); omega
 ·rcases hcase with rfl | rfl | rfl | rfl | rfl
  ·have:=p0 1 (by simpa using r0); omega
  ·have:=p1 1 (by simpa using r0); omega
  ·have:=p2 1 (by simpa using r0); omega
  ·have:=p3 1 (by simpa using r0); omega
  ·exact d7e rfl rfl
set_option maxHeartbeats 4000000
def w30_CollectDamaged_K2 (v2 : CColl × (List e30_Known) × Int) (v4 : Int × (List Int) × (List e30_Record)) (a8 : List Int) (a11 : List e30_Record) : Option Bool :=
 (CColl_Add_a v4.1 a8 v2.1).bind fun v13=>
 (idx v2.2.1 v4.1).bind fun v15=>
 (e30_Add v15 a11).bind fun v17=>
 (idx v2.2.1 v4.1).bind fun v19=>
 (gb (v17.2 == (v13.1 == 0)) (false) (w30_agrees_a v13.2 (List.set v2.2.1 (Int.toNat v4.1) v17.1))).bind fun v21=>
 some ((v17.2 == (v13.1 == 0)) && v21)
def w30_CollectDamaged_L3 (v2 : CColl × (List e30_Known) × Int) (v4 : Int × (List Int) × (List e30_Record)) (a8 : List Int) (v10 : (List RRec) × Int) (k22 : Nat) (a23 : List e30_Record) : Option (Ctl (List e30_Record) Bool) :=
 (idx v10.1 (k22 : Int)).bind fun v28=>
 if (v28.gComponent != v4.1) = true then
  (CColl_Add_a v4.1 a8 v2.1).bind fun v31=>
  (gb (v31.1 == 14) (false) (w30_agrees_a v31.2 v2.2.1)).bind fun v33=>
  some (.done ((v31.1 == 14) && v33))
 else
  if ((decide (48≤v28.gSeq)) || ((v28.gWhat == 2) && (decide ((IntKind.wrap .u64 (48 - v28.gSeq)) < v28.gCount)))) = true then
   some (.done true)
  else
   chk (apOk 32 (List.length a23 + List.length [(e30_Record.mk (IntKind.wrap .i64 v28.gWhat) (IntKind.wrap .i64 v28.gSeq) v28.gEvent.gN (IntKind.wrap .i64 v28.gCount))]))<|
   some (.next (a23++[(e30_Record.mk (IntKind.wrap .i64 v28.gWhat) (IntKind.wrap .i64 v28.gSeq) v28.gEvent.gN (IntKind.wrap .i64 v28.gCount))]))
def w30_CollectDamaged_K1 (v2 : CColl × (List e30_Known) × Int) (v4 : Int × (List Int) × (List e30_Record)) (a8 : List Int) : Option Bool :=
 (recorder_Read a8).bind fun v10=>
 (forM' (E:=Bool) 9223372036854775807 (List.length v10.1 : Int) (fun k22 s=>w30_CollectDamaged_L3 v2 v4 a8 v10 k22 s) ([] : List e30_Record)).bind fun
  | .next s=>w30_CollectDamaged_K2 v2 v4 a8 s
  | .done r=>some r
def w30_CollectDamaged (x0 : w30_File) (x1 : Int) (x2 : Int) : Option Bool :=
 (w30_begin 0).bind fun v2=>
 (w30_File_bytes x0 v2.2.2).bind fun v4=>
 (w30_awake).bind fun v6=>
 if ((!v6) || false) = true then
  some false
 else
  if (decide (0 < (List.length v4.2.1 : Int))) = true then
   chk ((0 : Int)≤(IntKind.wrap .i64 x1)∧(0 : Int) < (List.length v4.2.1 : Int))<|
   (idx v4.2.1 ((IntKind.wrap .i64 x1) % (List.length v4.2.1 : Int))).bind fun v39=>
   (idx v4.2.1 ((IntKind.wrap .i64 x1) % (List.length v4.2.1 : Int))).bind fun v41=>
   chk ((0 : Int)≤x2∧(0 : Int) < 16)<|
   if ((x2 % 16) == 15) = true then
    chk ((0 : Int)≤(IntKind.wrap .i64 x1)∧(0 : Int) < (List.length (List.set v4.2.1 (Int.toNat ((IntKind.wrap .i64 x1) % (List.length v4.2.1 : Int))) (bitI .xor .u8 v39 x2)) : Int))<|
    chk (slOk (List.length (List.set v4.2.1 (Int.toNat ((IntKind.wrap .i64 x1) % (List.length v4.2.1 : Int))) (bitI .xor .u8 v39 x2))) 0 ((IntKind.wrap .i64 x1) % (List.length (List.set v4.2.1 (Int.toNat ((IntKind.wrap .i64 x1) % (List.length v4.2.1 : Int))) (bitI .xor .u8 v39 x2)) : Int)))<|
    w30_CollectDamaged_K1 v2 v4 (List.take (Int.toNat ((IntKind.wrap .i64 x1) % (List.length (List.set v4.2.1 (Int.toNat ((IntKind.wrap .i64 x1) % (List.length v4.2.1 : Int))) (bitI .xor .u8 v39 x2)) : Int))) (List.set v4.2.1 (Int.toNat ((IntKind.wrap .i64 x1) % (List.length v4.2.1 : Int))) (bitI .xor .u8 v39 x2)))
   else
    w30_CollectDamaged_K1 v2 v4 (List.set v4.2.1 (Int.toNat ((IntKind.wrap .i64 x1) % (List.length v4.2.1 : Int))) (bitI .xor .u8 v39 x2))
  else
   w30_CollectDamaged_K1 v2 v4 v4.2.1
theorem w30_CollectDamaged_c {x0 : w30_File} {x1 : Int} {x2 : Int} {r : Bool} (hM : w30_CollectDamaged x0 x1 x2 = some r) : PCall Tryz.prog 4 [.agg (w30_File.cs x0),.int .u16 x1,.int .u8 x2] (.bool r):=by
 unfold w30_CollectDamaged at hM
 refine PCall.body Tryz.func4 Tryz.ntmps4 rfl rfl rfl rfl ?_
 refine a_seq (ar (.cons (o_box rfl rfl)<|.cons (o_assign rfl)<|.nil _) ?_)
 refine a_seq ?_
 obtain ⟨v2,h1,hM⟩ := of_bind hM
 refine ar (.cons (o_callN (fun i=>bif Nat.beq i 50002 then 10003 else bif Nat.beq i 50001 then 10002 else bif Nat.beq i 50000 then 10001 else i) 3 (w30_begin_c h1) rfl (DLeL.refl _) .nil rfl .nil)<|.cons (o_move rfl)<|.cons (o_extract rfl rfl)<|.cons (o_extract rfl rfl)<|.cons (o_extract rfl rfl)<|.cons (o_assign rfl)<|.cons (o_assign rfl)<|.cons (o_assign rfl)<|.nil _) ?_
 refine a_seq ?_
 obtain ⟨v4,h3,hM⟩ := of_bind hM
 refine ar (.cons (o_load_r rfl rfl rfl rfl)<|.cons (o_move rfl)<|.cons (o_callN (fun i=>bif Nat.beq i 50001 then 10005 else bif Nat.beq i 50000 then 10004 else i) 2 (w30_File_bytes_c h3) rfl (DLeL.refl _) .nil rfl .nil)<|.cons (o_move rfl)<|.cons (o_extract rfl rfl)<|.cons (o_extract rfl rfl)<|.cons (o_extract rfl rfl)<|.cons (o_assign rfl)<|.cons (o_assign rfl)<|.cons (o_assign rfl)<|.nil _) ?_
 refine a_seq (a_seq ?_)
 obtain ⟨v6,h5,hM⟩ := of_bind hM
 refine ar (.cons (o_call (w30_awake_c h5) rfl (DLeL.refl _) rfl)<|.cons (o_not rfl)<|.cons (o_move rfl)<|.cons (o_guardG .bF rfl rfl (fun hb=>(.keep .nil)) (fun hb=>o_move rfl))<|.cons (o_guardG .bF rfl rfl (fun hb=>(.strip rfl hb .nil)) (fun hb=>o_ptr_eq rfl))<|.cons (o_or rfl rfl)<|.nil _) ?_
 refine a_cond _ rfl (fun h7=>?_) (fun h7=>?_)
 ·replace hM:=(of_if hM).1 h7
  refine a_seq (ar (.cons (o_assign rfl)<|.nil _) ?_)
  obtain rfl:=Option.some.inj hM
  exact a_ret (a_post (.r1 (.tmp rfl)) (DLe.refl _) PostOk.nil.spec)
 ·replace hM:=(of_if hM).2 h7
  refine a_skip ?_
  refine a_cut (α:=(List Int)) (fun s=>⟨[(7,.ref 10001 0),(8,.row 10006),(10,.int .i64 v4.1),(11,.sl 1 (List.map (DV.int .u8) s))],[(10001,some (.blk 134 [.row 10007])),(10006,some (.row 60 97 (List.map e30_Known.dv v2.2.1))),(10007,some (.row 137 4 (List.map CPart.dv v2.1.gparts)))],[10001,10006,10007]⟩) (fun s=>w30_CollectDamaged_K1 v2 v4 s = some r) ?_ ?_
  ·refine a_seq (ar (.cons (o_move rfl)<|.cons (t_len_r rfl rfl)<|.cons (o_int rfl rfl rfl)<|.nil _) ?_)
   refine a_cond _ rfl (fun h36=>?_) (fun h36=>?_)
   ·replace hM:=(of_if hM).1 h36
    refine a_seq ?_
    obtain ⟨h37,hM⟩ := of_chk hM
    obtain ⟨v39,h38,hM⟩ := of_bind hM
    obtain ⟨v41,h40,hM⟩ := of_bind hM
    refine ar (.cons (o_move rfl)<|.cons (o_move rfl)<|.cons (o_conv_w rfl)<|.cons (o_move rfl)<|.cons (t_len_r rfl rfl)<|.cons (o_rem rfl rfl h37)<|.cons (t_index_r h38 rfl rfl rfl)<|.cons (t_load_ps h38 rfl rfl rfl rfl)<|.cons (o_move rfl)<|.cons (o_int rfl rfl rfl)<|.cons (t_index_r h40 rfl rfl rfl)<|.cons (t_store_p (bitI .xor .u8 v39 x2) h40 rfl rfl rfl rfl rfl rfl rfl rfl rfl rfl rfl)<|.nil _) ?_
    refine a_seq ?_
    obtain ⟨h42,hM⟩ := of_chk hM
    refine ar (.cons (o_move rfl)<|.cons (o_rem rfl rfl h42)<|.cons (o_int rfl rfl rfl)<|.nil _) ?_
    refine a_cond _ rfl (fun h43=>?_) (fun h43=>?_)
    ·replace hM:=(of_if hM).1 h43
     refine a_imp (Imp.freeze (id:=10004) rfl) ?_
     obtain ⟨h44,hM⟩ := of_chk hM
     obtain ⟨h45,hM⟩ := of_chk hM
     refine ar (.cons (o_move rfl)<|.cons (o_move rfl)<|.cons (o_conv_w rfl)<|.cons (o_move rfl)<|.cons (t_len rfl)<|.cons (o_rem rfl rfl h44)<|.cons (t_slice_h h45 rfl rfl)<|.cons (o_assign rfl)<|.nil _) ?_
     exact ⟨(List.take (Int.toNat ((IntKind.wrap .i64 x1) % (List.length (List.set v4.2.1 (Int.toNat ((IntKind.wrap .i64 x1) % (List.length v4.2.1 : Int))) (bitI .xor .u8 v39 x2)) : Int))) (List.set v4.2.1 (Int.toNat ((IntKind.wrap .i64 x1) % (List.length v4.2.1 : Int))) (bitI .xor .u8 v39 x2))),hM,(Imp.sh (fun i=>bif Nat.beq i 10007 then 10002 else bif Nat.beq i 10006 then 10003 else i) rfl rfl rfl rfl rfl rfl)⟩
    ·replace hM:=(of_if hM).2 h43
     refine a_skip ?_
     exact ⟨(List.set v4.2.1 (Int.toNat ((IntKind.wrap .i64 x1) % (List.length v4.2.1 : Int))) (bitI .xor .u8 v39 x2)),hM,((Imp.freeze (id:=10004) rfl).trans (Imp.sh (fun i=>bif Nat.beq i 10007 then 10002 else bif Nat.beq i 10006 then 10003 else i) rfl rfl rfl rfl rfl rfl))⟩
   ·replace hM:=(of_if hM).2 h36
    refine a_skip ?_
    exact ⟨v4.2.1,hM,((Imp.freeze (id:=10004) rfl).trans (Imp.sh (fun i=>bif Nat.beq i 10007 then 10002 else bif Nat.beq i 10006 then 10003 else i) rfl rfl rfl rfl rfl rfl))⟩
  ·rintro a8 hM
   replace hM : w30_CollectDamaged_K1 v2 v4 a8 = some r:=hM
   unfold w30_CollectDamaged_K1 at hM
   refine a_seq ?_
   obtain ⟨v10,h9,hM⟩ := of_bind hM
   refine ar (.cons (o_move rfl)<|.cons (o_call (recorder_Read_c h9) rfl (DLeL.refl _) rfl)<|.cons (o_move rfl)<|.cons (o_extract rfl rfl)<|.cons (o_extract rfl rfl)<|.cons (o_assign rfl)<|.cons (o_assign rfl)<|.nil _) ?_
   refine a_seq (ar (.cons (o_assign rfl)<|.nil _) ?_)
   refine a_cut (α:=(List e30_Record)) (fun s=>⟨[(7,.ref 10001 0),(8,.row 10008),(10,.int .i64 v4.1),(11,.sl 1 (List.map (DV.int .u8) a8)),(15,.sl 4 (List.map e30_Record.dv s))],[(10001,some (.blk 134 [.row 10009])),(10008,some (.row 60 97 (List.map e30_Known.dv v2.2.1))),(10009,some (.row 137 4 (List.map CPart.dv v2.1.gparts)))],[10001,10008,10009]⟩) (fun s=>w30_CollectDamaged_K2 v2 v4 a8 s = some r) ?_ ?_
   ·refine a_seq (ar (.cons (o_move rfl)<|.cons (t_len rfl)<|.cons (o_move rfl)<|.nil _) ?_)
    obtain ⟨t24,hL24,hK24⟩ := of_bind hM
    refine a_block ?_
    refine a_for (fun k22 (s : (List e30_Record))=>⟨[(7,.ref 10001 0),(8,.row 10011),(10,.int .i64 v4.1),(11,.sl 1 (List.map (DV.int .u8) a8)),(15,.row 10012),(68,.sl 29 (List.map RRec.dv v10.1)),(69,.int .i64 (List.length v10.1 : Int)),(70,.int .i64 (k22 : Int))],[(10001,some (.blk 134 [.row 10013])),(10011,some (.row 60 97 (List.map e30_Known.dv v2.2.1))),(10012,some (.row 56 4 (List.map e30_Record.dv s))),(10013,some (.row 137 4 (List.map CPart.dv v2.1.gparts)))],[10001,10011,10012,10013]⟩) _ hL24 ((Imp.nilRow (t:=15) (id:=10015) 56 4 rfl rfl).trans (Imp.sh (fun i=>bif Nat.beq i 10013 then 10007 else bif Nat.beq i 10012 then 10015 else bif Nat.beq i 10011 then 10006 else i) rfl rfl rfl rfl rfl rfl)) ?_ ?_
    ·rintro k22 a23 t25 hk22 hx22 hM hE24
     replace hM : w30_CollectDamaged_L3 v2 v4 a8 v10 k22 a23 = some t25:=hM
     unfold w30_CollectDamaged_L3 at hM
     refine a_seq (ar (.cons (o_int rfl rfl rfl)<|.nil _) ?_)
     refine a_seq ?_
     refine a_cond _ rfl (fun _=>?_) (fun c=>absurd hk22 (of_decide_eq_false c))
     refine a_skip (a_seq (a_block (a_seq ?_)))
     obtain ⟨v28,h27,hM⟩ := of_bind hM
     refine ar (.cons (t_index h27 rfl rfl rfl)<|.cons (o_load_er rfl rfl rfl)<|.cons (o_alloc rfl)<|.cons (o_store rfl rfl rfl rfl rfl rfl rfl)<|.nil _) ?_
     refine a_seq (a_seq (ar (.cons (o_fieldAddr rfl)<|.cons (o_load_s rfl rfl rfl)<|.cons (o_move rfl)<|.cons (o_int rfl rfl rfl)<|.nil _) ?_))
     refine a_cond _ rfl (fun h29=>?_) (fun h29=>?_)
     ·replace hM:=(of_if hM).1 h29
      refine a_seq ?_
      obtain ⟨v31,h30,hM⟩ := of_bind hM
      obtain ⟨v33,h32,hM⟩ := of_bind hM
      refine ar (.cons (o_move rfl)<|.cons (o_move rfl)<|.cons (o_move rfl)<|.cons (o_callN (fun i=>bif Nat.beq i 50000 then 10014 else bif Nat.beq i 100000 then 10001 else bif Nat.beq i 100001 then 10013 else i) 3 (CColl_Add_a_c h30) rfl (DLeL.refl _) (.cons rfl (.cons rfl .nil)) rfl .nil)<|.cons (o_int rfl rfl rfl)<|.cons (o_move rfl)<|.cons (o_guardG .bT rfl rfl (fun hb=>(.keep .nil)) (fun hb=>o_move rfl))<|.cons (o_guardG .bT rfl rfl (fun hb=>(.keep .nil)) (fun hb=>o_move rfl))<|.cons (o_guardG .bT rfl rfl (fun hb=>(.strip rfl hb (.strip rfl hb .nil))) (fun hb=>o_callN (fun i=>bif Nat.beq i 100000 then 10001 else bif Nat.beq i 100001 then 10014 else bif Nat.beq i 100002 then 10011 else i) 0 (w30_agrees_a_c (of_gb h32 hb)) rfl (DLeL.refl _) (.cons rfl (.cons rfl (.cons rfl .nil))) rfl (.cons rfl (.cons rfl (.cons rfl .nil)))))<|.cons (o_and rfl rfl)<|.cons (o_assign rfl)<|.nil _) ?_
      obtain rfl:=Option.some.inj hM
      obtain rfl:=hE24 _ rfl
      obtain rfl:=Option.some.inj hK24
      exact a_ret (a_post (.r1 (.tmp rfl)) (DLe.refl _) PostOk.nil.spec)
     ·replace hM:=(of_if hM).2 h29
      refine a_skip (a_seq (a_seq (ar (.cons (o_fieldAddr rfl)<|.cons (o_load_s rfl rfl rfl)<|.cons (o_int rfl rfl rfl)<|.cons (o_move rfl)<|.cons (o_guardG .bF rfl rfl (fun hb=>(.keep .nil)) (fun hb=>o_fieldAddr rfl))<|.cons (o_guardG .bF rfl rfl (fun hb=>(.strip rfl hb .nil)) (fun hb=>o_load_s rfl rfl rfl))<|.cons (o_guardG .bF rfl rfl (fun hb=>(.strip rfl hb .nil)) (fun hb=>o_int rfl rfl rfl))<|.cons (o_guardG .bF rfl rfl (fun hb=>(.strip rfl hb .nil)) (fun hb=>o_move rfl))<|.cons (o_guardG .iT rfl rfl (fun hb=>(.keep .nil)) (fun hb=>o_fieldAddr rfl))<|.cons (o_guardG .iT rfl rfl (fun hb=>(.strip rfl hb .nil)) (fun hb=>o_load_s rfl rfl rfl))<|.cons (o_guardG .iT rfl rfl (fun hb=>(.keep .nil)) (fun hb=>o_fieldAddr rfl))<|.cons (o_guardG .iT rfl rfl (fun hb=>(.strip rfl hb .nil)) (fun hb=>o_load_s rfl rfl rfl))<|.cons (o_guardG .iT rfl rfl (fun hb=>(.strip rfl hb .nil)) (fun hb=>o_int rfl rfl rfl))<|.cons (o_guardG .iT rfl rfl (fun hb=>(.strip rfl hb (.strip rfl hb .nil))) (fun hb=>o_int rfl rfl rfl))<|.cons (o_guardG .bF rfl rfl (fun hb=>(.strip rfl hb (.half rfl hb .nil))) (fun hb=>o_and rfl rfl))<|.cons (o_or rfl rfl)<|.nil _) ?_)))
      refine a_cond _ rfl (fun h34=>?_) (fun h34=>?_)
      ·replace hM:=(of_if hM).1 h34
       refine a_seq (ar (.cons (o_assign rfl)<|.nil _) ?_)
       obtain rfl:=Option.some.inj hM
       obtain rfl:=hE24 _ rfl
       obtain rfl:=Option.some.inj hK24
       exact a_ret (a_post (.r1 (.tmp rfl)) (DLe.refl _) PostOk.nil.spec)
      ·replace hM:=(of_if hM).2 h34
       refine a_skip ?_
       obtain ⟨h35,hM⟩ := of_chk hM
       refine ar (.cons (o_move rfl)<|.cons (o_fieldAddr rfl)<|.cons (o_load_s rfl rfl rfl)<|.cons (o_conv_w rfl)<|.cons (o_fieldAddr rfl)<|.cons (o_load_s rfl rfl rfl)<|.cons (o_conv_w rfl)<|.cons (o_fieldAddr rfl)<|.cons (o_fieldAddr rfl)<|.cons (o_load_s rfl rfl rfl)<|.cons (o_fieldAddr rfl)<|.cons (o_load_s rfl rfl rfl)<|.cons (o_conv_w rfl)<|.cons (o_build rfl rfl rfl)<|.cons (t_build e30_Record.dv ([(e30_Record.mk (IntKind.wrap .i64 v28.gWhat) (IntKind.wrap .i64 v28.gSeq) v28.gEvent.gN (IntKind.wrap .i64 v28.gCount))] : List e30_Record) rfl rfl rfl rfl rfl rfl rfl)<|.cons (t_append [(e30_Record.mk (IntKind.wrap .i64 v28.gWhat) (IntKind.wrap .i64 v28.gSeq) v28.gEvent.gN (IntKind.wrap .i64 v28.gCount))] h35 rfl rfl rfl (Src.row rfl))<|.cons (o_assign rfl)<|.nil _) ?_
       refine ar (.cons (o_add rfl rfl (inR_i64 hk22 hx22))<|.cons (o_move rfl)<|.nil _) ?_
       obtain rfl:=Option.some.inj hM
       exact ⟨(a23++[(e30_Record.mk (IntKind.wrap .i64 v28.gWhat) (IntKind.wrap .i64 v28.gSeq) v28.gEvent.gN (IntKind.wrap .i64 v28.gCount))]),rfl,(Imp.of (fun i=>bif Nat.beq i 10012 then 119 else i) (.cons rfl (DLe.refl _) (.cons rfl (DLe.refl _) (.cons rfl (DLe.refl _) (.cons rfl (DLe.refl _) (.cons rfl (DLe.refl _) (.cons rfl (DLe.refl _) (.cons rfl (DLe.refl _) (.cons rfl (DLe.succ _ _) .nil)))))))) (.cons rfl (.refl _) (.cons rfl (.refl _) (.cons rfl (.refl _) (.cons rfl (.refl _) .nil)))) rfl rfl rfl)⟩
    ·rintro k22 a23 hk22 hx22 rfl
     refine a_seq (ar (.cons (o_int rfl rfl rfl)<|.nil _) ?_)
     refine a_seq ?_
     refine a_cond _ rfl (fun c=>absurd (of_decide_eq_true c) (Int.not_lt.2 hk22)) (fun _=>?_)
     refine a_exit ?_
     exact ⟨a23,hK24,((Imp.freeze (id:=10012) rfl).trans (Imp.sh (fun i=>bif Nat.beq i 10009 then 10013 else bif Nat.beq i 10008 then 10011 else i) rfl rfl rfl rfl rfl rfl))⟩
   ·rintro a11 hM
    replace hM : w30_CollectDamaged_K2 v2 v4 a8 a11 = some r:=hM
    unfold w30_CollectDamaged_K2 at hM
    refine a_seq ?_
    obtain ⟨v13,h12,hM⟩ := of_bind hM
    refine ar (.cons (o_move rfl)<|.cons (o_move rfl)<|.cons (o_move rfl)<|.cons (o_callN (fun i=>bif Nat.beq i 50000 then 10010 else bif Nat.beq i 100000 then 10001 else bif Nat.beq i 100001 then 10009 else i) 3 (CColl_Add_a_c h12) rfl (DLeL.refl _) (.cons rfl (.cons rfl .nil)) rfl .nil)<|.cons (o_assign rfl)<|.nil _) ?_
    refine a_seq ?_
    obtain ⟨v15,h14,hM⟩ := of_bind hM
    obtain ⟨v17,h16,hM⟩ := of_bind hM
    refine ar (.cons (o_move rfl)<|.cons (o_move rfl)<|.cons (t_index_r h14 rfl rfl rfl)<|.cons (t_load_pr h14 rfl rfl rfl rfl rfl)<|.cons (o_move rfl)<|.cons (o_call (e30_Add_c h16) rfl (DLeL.refl _) rfl)<|.cons (o_move rfl)<|.cons (o_extract rfl rfl)<|.cons (o_extract rfl rfl)<|.cons (o_alloc rfl)<|.cons (o_store rfl rfl rfl rfl rfl rfl rfl)<|.cons (o_assign rfl)<|.nil _) ?_
    refine a_seq ?_
    obtain ⟨v19,h18,hM⟩ := of_bind hM
    refine ar (.cons (o_move rfl)<|.cons (o_move rfl)<|.cons (o_load_r rfl rfl rfl rfl)<|.cons (t_index_r h18 rfl rfl rfl)<|.cons (t_store_p v17.1 h18 rfl rfl rfl rfl rfl rfl rfl rfl rfl rfl rfl)<|.nil _) ?_
    refine a_seq ?_
    obtain ⟨v21,h20,hM⟩ := of_bind hM
    refine ar (.cons (o_move rfl)<|.cons (o_move rfl)<|.cons (o_int rfl rfl rfl)<|.cons (o_booleq rfl rfl)<|.cons (o_move rfl)<|.cons (o_guardG .bT rfl rfl (fun hb=>(.keep .nil)) (fun hb=>o_move rfl))<|.cons (o_guardG .bT rfl rfl (fun hb=>(.keep .nil)) (fun hb=>o_move rfl))<|.cons (o_guardG .bT rfl rfl (fun hb=>(.strip rfl hb (.strip rfl hb .nil))) (fun hb=>o_callN (fun i=>bif Nat.beq i 100000 then 10001 else bif Nat.beq i 100001 then 10010 else bif Nat.beq i 100002 then 10008 else i) 0 (w30_agrees_a_c (of_gb h20 hb)) rfl (DLeL.refl _) (.cons rfl (.cons rfl (.cons rfl .nil))) rfl (.cons rfl (.cons rfl (.cons rfl .nil)))))<|.cons (o_and rfl rfl)<|.cons (o_assign rfl)<|.nil _) ?_
    obtain rfl:=Option.some.inj hM
    exact a_ret (a_post (.r1 (.tmp rfl)) (DLe.refl _) PostOk.nil.spec)
set_option maxHeartbeats 1000000
theorem dam_at {k : Int} (hk : k = 0∨k = 1) {x : w30_Raw} (hx : RawOk x) {B post D : List Int} (hBx : B = recBytes (reOf (mkR k x))) {t j n : Nat} (hs : ∀ y,y < D.length→t + y≠j→D[y]? = (frameOf B++post)[y]?) (hdf : ∀ y,y < D.length→t + y = j→D[y]?≠(frameOf B++post)[y]?) (hbyt : ∀ y∈D,Byt y) (hDl : D.length≤1000000) (hS : Stands D n) {r : Rk} (hr : record_Read ((D.drop 8).take n) = some (r,0)) : (D.drop 8).take n = B:=by
 have hm:=mkR_ok k x (by omega) hx
 have hT:=(reFits_T hm.1).1
 have hB : Orig k B:=by rw [hBx]; exact orig_of hk hx
 obtain ⟨f1,f2,f3,f4,b0,B',hB0⟩ := orig_facts hk hB
 obtain ⟨c,hc,hcr,k1,k2,k3,k4⟩ := orig_ck hk hB
 obtain ⟨a,b,e0,e1,e2,e3,rest,rfl,hn,hn4,hnr,hck⟩ := hS
 rw [frame_cons,hc] at hs hdf
 have hL : (B.length : Int) % 256 = B.length:=by omega
 have hH : (B.length : Int) / 256 % 256 = 0:=by omega
 rw [hL,hH] at hs hdf
 have hlb : lenB B.length = [(B.length : Int),0]:=by unfold lenB; rw [hL,hH]
 rw [hlb] at hc
 have hdl : (165 :: 90 :: a :: b :: e0 :: e1 :: e2 :: e3 :: rest).length = rest.length + 8:=by simp
 rw [hdl] at hs hdf hDl
 have hbody : ((165 :: 90 :: a :: b :: e0 :: e1 :: e2 :: e3 :: rest).drop 8).take n = rest.take n:=rfl
 rw [hbody] at hr ⊢
 have hbr : ∀ y∈rest,Byt y:=fun y hy=>hbyt y (by simp [hy])
 have hbB : ∀ y∈B,Byt y:=fun y hy=>by have:=f1 y hy; exact ⟨by omega,by omega⟩
 have ya:=hbyt a (by simp)
 have yb:=hbyt b (by simp)
 have y0:=hbyt e0 (by simp)
 have y1:=hbyt e1 (by simp)
 have y2:=hbyt e2 (by simp)
 have y3:=hbyt e3 (by simp)
 unfold Byt at ya yb y0 y1 y2 y3
 have hcr1:=hcr.1
 have hcr2:=hcr.2
 have g0:=hdf 0 (by omega)
 have g1:=hdf 1 (by omega)
 have g2:=hs 2 (by omega)
 have g3:=hs 3 (by omega)
 have g4:=hs 4 (by omega)
 have g5:=hs 5 (by omega)
 have g6:=hs 6 (by omega)
 have g7:=hs 7 (by omega)
 have d2:=hdf 2 (by omega)
 have d3:=hdf 3 (by omega)
 have d4:=hdf 4 (by omega)
 have d5:=hdf 5 (by omega)
 have d6:=hdf 6 (by omega)
 have d7:=hdf 7 (by omega)
 simp only [List.getElem?_cons_succ,List.getElem?_cons_zero,Option.some.injEq,ne_eq,not_true_eq_false,imp_false,Nat.add_zero] at g0 g1 g2 g3 g4 g5 g6 g7 d2 d3 d4 d5 d6 d7
 have gr : ∀ y,y < rest.length→t + (y + 8)≠j→rest[y]? = (B++post)[y]? := fun y hy hj=>by
  have:=hs (y + 8) (by omega) hj
  simpa only [List.getElem?_cons_succ] using this
 have dr : ∀ y,y < rest.length→t + (y + 8) = j→rest[y]?≠(B++post)[y]? := fun y hy hj=>by
  have:=hdf (y + 8) (by omega) hj
  simpa only [List.getElem?_cons_succ] using this
 -- the body,where nothing of it was changed
 have same : (∀ y,y < rest.length→t + (y + 8)≠j)→rest.take n = (B++post).take n:=fun hno=>by
  apply List.ext_getElem?
  intro y
  rw [List.getElem?_take,List.getElem?_take]
  by_cases hy : y < n
  ·rw [if_pos hy,if_pos hy]
   exact gr y (by omega) (hno y (by omega))
  ·rw [if_neg hy,if_neg hy]
 by_cases hj23 : j = t + 2∨j = t + 3
 ·exfalso
  have hne : n≠B.length:=by
   rcases hj23 with h | h
   ·have:=d2 h.symm
    have:=g3 (by omega)
    omega
   ·have:=g2 (by omega)
    have:=d3 h.symm
    omega
  have hsm:=same fun y _=>by omega
  have hlen : ((B++post).take n).length = n:=by rw [← hsm,List.length_take]; omega
  obtain ⟨y,hy,_⟩ := read_rec (fun z hz=>hbr z (List.mem_of_mem_take hz)) (by rw [List.length_take]; omega) hr
  rw [hsm] at hy
  by_cases hlt : n < B.length
  ·rw [List.take_append_of_le_length (by omega),hBx,readRec_less hm.2 hT (recBytes_byt hT) (by rw [← hBx]; omega) (by rw [← hBx]; exact hlt)] at hy
   cases hy
  ·have e : (B++post).take n = B++post.take (n - B.length):=by rw [List.take_append,List.take_of_length_le (by omega)]
   rw [e,List.length_append] at hlen
   rw [e,hBx,readRec_more hm.2 hT (fun h0=>by rw [← hBx] at h0; rw [h0,List.length_nil] at hlen; omega)] at hy
   cases hy
 ·have ha:=g2 (by omega)
  have hb:=g3 (by omega)
  have hnB : n = B.length:=by omega
  subst hnB
  have hla : [a,b] = [(B.length : Int),0]:=by rw [ha,hb]
  rw [hla] at hck
  have hwhole : (B++post).take B.length = B:=List.take_left
  by_cases hj47 : j = t + 4∨j = t + 5∨j = t + 6∨j = t + 7
  ·exfalso
   have hsm:=same fun y _=>by omega
   rw [hsm,hwhole,hc] at hck
   rcases hj47 with h | h | h | h
   ·have:=d4 h.symm
    have:=g5 (by omega)
    have:=g6 (by omega)
    have:=g7 (by omega)
    omega
   ·have:=g4 (by omega)
    have:=d5 h.symm
    have:=g6 (by omega)
    have:=g7 (by omega)
    omega
   ·have:=g4 (by omega)
    have:=g5 (by omega)
    have:=d6 h.symm
    have:=g7 (by omega)
    omega
   ·have:=g4 (by omega)
    have:=g5 (by omega)
    have:=g6 (by omega)
    have:=d7 h.symm
    omega
  ·have h4:=g4 (by omega)
   have h5:=g5 (by omega)
   have h6:=g6 (by omega)
   have h7:=g7 (by omega)
   have hck2 : ckS [(B.length : Int),0] (rest.take B.length) = ckS [(B.length : Int),0] B:=by rw [hck,hc]; omega
   by_cases hin : ∃ e,e < B.length∧t + (e + 8) = j
   ·exfalso
    obtain ⟨e,he,hej⟩ := hin
    have her : e < rest.length:=by omega
    have hset : rest.take B.length = B.set e rest[e]:=by
     apply List.ext_getElem?
     intro y
     rw [List.getElem?_take,List.getElem?_set]
     by_cases hy : y < B.length
     ·rw [if_pos hy]
      by_cases hye : e = y
      ·subst hye
       rw [if_pos rfl,if_pos hy,List.getElem?_eq_getElem her]
      ·rw [if_neg hye,gr y (by omega) (by omega),List.getElem?_append_left hy]
     ·rw [if_neg hy,if_neg (by omega),List.getElem?_eq_none (by omega)]
    rw [hset] at hck2
    have hv:=ck_change (fun v hv=>by simp only [List.mem_cons,List.not_mem_nil,or_false] at hv; unfold Byt; omega) hbB he (hbr _ (List.getElem_mem her)) hck2
    refine dr e her hej ?_
    rw [List.getElem?_append_left he,List.getElem?_eq_getElem her,List.getElem?_eq_getElem he,hv]
   ·apply List.ext_getElem?
    intro y
    rw [List.getElem?_take]
    by_cases hy : y < B.length
    ·rw [if_pos hy,gr y (by omega) (fun h=>hin ⟨y,hy,h⟩),List.getElem?_append_left hy]
    ·rw [if_neg hy,List.getElem?_eq_none (by omega)]
theorem locate : ∀ (Bs : List (List Int)) (t : Nat),t < (Bs.flatMap frameOf).length→∃ pre B post,Bs = pre++B :: post∧(pre.flatMap frameOf).length≤t∧t < (pre.flatMap frameOf).length + (8 + B.length)
 | [],t,h=>by simp at h
 | B :: Bs,t,h=>by
  by_cases hb : t < 8 + B.length
  ·exact ⟨[],B,Bs,rfl,by simp,by simpa using hb⟩
  ·rw [List.flatMap_cons,List.length_append,frameOf_len] at h
   obtain ⟨pre,C,post,e,h1,h2⟩ := locate Bs (t - (8 + B.length)) (by omega)
   refine ⟨B :: pre,C,post,by rw [e]; rfl,?_,?_⟩ <;> rw [List.flatMap_cons,List.length_append,frameOf_len] <;> omega
structure Dam (p q : List Int) (j : Nat) : Prop where
 len : q.length≤p.length
 same : ∀ i,i < q.length→i≠j→q[i]? = p[i]?
 diff : ∀ i,i < q.length→i = j→q[i]?≠p[i]?
 byt : ∀ b∈q,Byt b
theorem dam_main {k : Int} (hk : k = 0∨k = 1) {xs : List w30_Raw} (hxs : ∀ x∈xs,RawOk x) {q : List Int} {j : Nat} (hD : Dam ((fileB k xs).flatMap frameOf) q j) (hql : q.length≤1000000) {t n : Nat} (hS : Stands (q.drop t) n) {r : Rk} (hr : record_Read ((q.drop (t + 8)).take n) = some (r,0)) (h1 : r.gWhat = 1) (h2 : r.gComponent = k) (h3 : r.gSeq < 48) : ∃ x,RawOk x∧(q.drop (t + 8)).take n = recBytes (reOf (mkR k x)):=by
 have hroom:=stands_room hS
 have hpl:=hD.len
 obtain ⟨pre,B,post,e,l1,l2⟩ := locate (fileB k xs) t (by omega)
 have hmem : ∀ C∈fileB k xs,∃ x,RawOk x∧C = recBytes (reOf (mkR k x)):=fun C hC=>by
  obtain ⟨x,hx,rfl⟩ := List.mem_map.1 hC
  exact ⟨x,hxs x hx,rfl⟩
 obtain ⟨x,hx,hBx⟩ := hmem B (by rw [e]; simp)
 have hB : Orig k B:=by rw [hBx]; exact orig_of hk hx
 have hp : After k (post.flatMap frameOf):=by
  cases post with
  | nil=>exact .inl rfl
  | cons C post=>
   obtain ⟨y,hy,hC⟩ := hmem C (by rw [e]; simp)
   exact .inr ⟨C,post.flatMap frameOf,by rw [hC]; exact orig_of hk hy,by rw [List.flatMap_cons]⟩
 have hpe : (fileB k xs).flatMap frameOf = pre.flatMap frameOf++(frameOf B++post.flatMap frameOf):=by
  rw [e,List.flatMap_append,List.flatMap_cons]
 generalize hSl : (pre.flatMap frameOf).length = S at l1 l2
 obtain ⟨d,rfl⟩ : ∃ d,t = S + d := ⟨t - S,by omega⟩
 have hat : ∀ y,((fileB k xs).flatMap frameOf)[S + d + y]? = (frameOf B++post.flatMap frameOf)[d + y]? := fun y=>by
  rw [hpe,List.getElem?_append_right (by omega),hSl,show S + d + y - S = d + y by omega]
 have hdl : (q.drop (S + d)).length≤1000000:=by rw [List.length_drop]; omega
 have hbyt : ∀ y∈q.drop (S + d),Byt y:=fun y hy=>hD.byt y (List.mem_of_mem_drop hy)
 have hs : ∀ y,y < (q.drop (S + d)).length→S + d + y≠j→(q.drop (S + d))[y]? = (frameOf B++post.flatMap frameOf)[d + y]? := fun y hy hj=>by
  rw [List.length_drop] at hy
  rw [List.getElem?_drop,hD.same _ (by omega) hj,hat]
 have hdf : ∀ y,y < (q.drop (S + d)).length→S + d + y = j→(q.drop (S + d))[y]?≠(frameOf B++post.flatMap frameOf)[d + y]? := fun y hy hj=>by
  rw [List.length_drop] at hy
  rw [List.getElem?_drop,← hat]
  exact hD.diff _ (by omega) hj
 rw [← List.drop_drop] at hr ⊢
 by_cases h0 : d = 0
 ·subst h0
  simp only [Nat.zero_add] at hs hdf
  exact ⟨x,hx,(dam_at hk hx hBx hs hdf hbyt hdl hS hr).trans hBx⟩
 ·exact (dam_in hk hB hp (by omega) (by omega) hs hdf hbyt hdl hS hr h1 h2 h3).elim
theorem dam_GE {k : Int} (hk : k = 0∨k = 1) {xs : List w30_Raw} (hxs : ∀ x∈xs,RawOk x) {q : List Int} {j : Nat} (hD : Dam ((fileB k xs).flatMap frameOf) q j) (hql : q.length≤1000000) {t n : Nat} (hS : Stands (q.drop t) n) {r : Rk} (hr : record_Read ((q.drop (t + 8)).take n) = some (r,0)) (h1 : r.gWhat = 1) (h2 : r.gComponent = k) (h3 : r.gSeq < 48) : GE k r:=by
 obtain ⟨x,hx,e⟩ := dam_main hk hxs hD hql hS hr h1 h2 h3
 have hm:=mkR_ok k x (by omega) hx
 obtain ⟨y,y1,y2,y3,_⟩ := rec_reads _ hm.1 hm.2
 rw [e] at hr
 have : some (r,(0 : Int)) = some (y,0):=by rw [← hr]; exact y1
 injection this with this
 injection this with this _
 subst this
 exact (reads_of (by omega) hx y2 y3).good h1
theorem add_other {n : Nat} {parts : List CPart} {Ks : List Kn} (h : Inv n parts Ks) (c : Nat) (hc : c < n + 1) (p : List Int) (rs : List Rk) (lost : Int) (hr : recorder_Read p = some (rs,lost)) (hrs : ∀ r∈rs,RecOk r) (hl : rs.length≤1000000) (ho : ∃ r∈rs,r.gComponent≠(c : Int)) (hn : n≤8) : CColl_Add_a (c : Int) p ⟨parts⟩ = some (14,⟨parts⟩):=by
 have hcp : c < parts.length:=by rw [h.len]; exact hc
 have hd : ¬ ((decide ((c : Int) < 0)) || (decide ((List.length parts : Int)≤(c : Int)))) = true:=by
  simp only [Bool.or_eq_true,decide_eq_true_eq]; omega
 unfold CColl_Add_a
 dsimp only
 rw [if_neg hd,hr,Option.bind_some]
 dsimp only
 rcases partOf_spec rs (c : Int) (by omega) hrs with ⟨_,q2⟩ | ⟨q1,_⟩
 ·rw [q2]; rfl
 ·obtain ⟨r,r1,r2⟩ := ho
  exact absurd (q1.1 r r1) r2
theorem dam_K1 (c : Nat) (hc : c = 0∨c = 1) (p q : List Int) (refs : List e30_Record) (hq : ∀ b∈q,Byt b) (hql : q.length≤10000) (H : ∀ (t n : Nat) (r : Rk),Stands (q.drop t) n→record_Read ((q.drop (t + 8)).take n) = some (r,0)→r.gWhat = 1→r.gComponent = (c : Int)→r.gSeq < 48→GE (c : Int) r) : w30_CollectDamaged_K1 (⟨List.replicate (1 + 1) part0⟩,List.replicate (1 + 1) kn0,((1 : Nat) : Int)) ((c : Int),p,refs) q = some true:=by
 have hI:=inv0 1
 have hc2 : c < 1 + 1:=by omega
 obtain ⟨l,lost,g1,g2,g3⟩ := read_any hq (by omega)
 have hl6 : l.length≤1000000:=by omega
 have hck : c < (List.replicate (1 + 1) kn0).length:=by rw [List.length_replicate]; exact hc2
 unfold w30_CollectDamaged_K1
 rw [g1,Option.bind_some]
 have hInd:=forM_ind (S:=List e30_Record) (E:=Bool) (mx:=9223372036854775807) (n:=(List.length l : Int)) (body:=fun k22 s=>w30_CollectDamaged_L3 (⟨List.replicate (1 + 1) part0⟩,List.replicate (1 + 1) kn0,((1 : Nat) : Int)) ((c : Int),p,refs) q (l,lost) k22 s) (s0:=([] : List e30_Record))
  (fun k s=>s = (l.take k).map toRef∧∀ r∈l.take k,Reads (c : Int) r)
  (fun t=>match t with
   | .next s=>s = l.map toRef∧∀ r∈l,Reads (c : Int) r
   | .done e=>e = true) (by omega) (by omega) ⟨by simp,fun r hr=>by simp at hr⟩ ?_ ?_
 ·obtain ⟨t,t1,t2⟩ := hInd
  rw [t1,Option.bind_some]
  cases t with
  | done e=>dsimp only at t2 ⊢; rw [t2]
  | next s=>
   dsimp only at t2 ⊢
   obtain ⟨rfl,hrs⟩ := t2
   obtain ⟨K,ok,e,parts',a1,a2,a3,a4⟩ := add_step hI (by omega) c hc2 q l lost g1 hrs hl6
   have hag:=a4.agrees (by omega)
   unfold w30_CollectDamaged_K2
   dsimp only
   rw [a2,Option.bind_some,idx_lt hck,Option.bind_some,a1,Option.bind_some,Option.bind_some,Int.toNat_natCast,hag]
   rcases a3 with ⟨rfl,rfl⟩ | ⟨rfl,rfl,_,_⟩ <;> rfl
 ·rintro k s hk ⟨rfl,hR⟩
  have hkl : k < l.length:=by omega
  have hmem:=List.getElem_mem hkl
  obtain ⟨hro,t,n,st1,st2⟩ := g3 _ hmem
  have htk : l.take (k + 1) = l.take k++[l[k]]:=List.take_succ_eq_append_getElem hkl
  unfold w30_CollectDamaged_L3
  dsimp only
  rw [idx_lt hkl,Option.bind_some]
  by_cases hcomp : l[k].gComponent = (c : Int)
  ·rw [if_neg (by simpa using hcomp)]
   have hsq:=fits_seq hro.fits
   have hbr : ∀ b∈(q.drop (t + 8)).take n,Byt b:=fun b hb=>hq b (List.mem_of_mem_drop (List.mem_of_mem_take hb))
   obtain ⟨y,y1,y2⟩ := read_rec hbr (by rw [List.length_take,List.length_drop]; omega) st2
   obtain ⟨v1,_,v3,_⟩ := readRec_ok hbr (by rw [List.length_take,List.length_drop]; omega) y1
   have ew : l[k].gWhat = y.what:=by rw [y2]; rfl
   have ec : l[k].gCount = y.count:=by rw [y2]; rfl
   have hw:=valid_what v1
   have hcnt0 : l[k].gWhat≠2→l[k].gCount = 0:=fun h=>by
    rw [ec]
    by_cases w1 : y.what = 1
    ·exact (valid_entry v1 w1).2
    ·exact valid_count3 v1 w1 (by rw [← ew]; exact h)
   by_cases hbig : 48≤l[k].gSeq∨(l[k].gWhat = 2∧48 < l[k].gSeq + l[k].gCount)
   ·refine .inr ⟨true,?_,rfl⟩
    rw [if_pos ?_]
    by_cases h48 : 48≤l[k].gSeq
    ·simp [h48]
    ·have w : IntKind.wrap .u64 (48 - l[k].gSeq) = 48 - l[k].gSeq:=wrap_u64 (by omega) (by omega)
     rcases hbig with h | ⟨hb1,hb2⟩
     ·omega
     ·rw [w]
      simp only [Bool.or_eq_true,Bool.and_eq_true,decide_eq_true_eq,beq_iff_eq]
      exact .inr ⟨hb1,by omega⟩
   ·have h48 : l[k].gSeq < 48:=by omega
    have w : IntKind.wrap .u64 (48 - l[k].gSeq) = 48 - l[k].gSeq:=wrap_u64 (by omega) (by omega)
    have hcb : 0≤l[k].gCount∧l[k].gCount≤48:=by
     by_cases h2 : l[k].gWhat = 2
     ·have:=hro.lost h2
      omega
     ·rw [hcnt0 h2]; omega
    rw [w,if_neg (by
     simp only [Bool.or_eq_true,Bool.and_eq_true,decide_eq_true_eq,beq_iff_eq]
     rintro (h | ⟨h,h'⟩)
     ·omega
     ·exact hbig (.inr ⟨h,by omega⟩))]
    have e1 : IntKind.wrap .i64 l[k].gWhat = l[k].gWhat:=wrap_i64 (by omega) (by omega)
    have e2 : IntKind.wrap .i64 l[k].gSeq = l[k].gSeq:=wrap_i64 (by omega) (by omega)
    have e3 : IntKind.wrap .i64 l[k].gCount = l[k].gCount:=wrap_i64 (by omega) (by omega)
    rw [e1,e2,e3,chk_pos (by simp only [apOk,List.length_map,List.length_take,List.length_singleton]; omega)]
    have hge : l[k].gWhat = 1→GE (c : Int) l[k]:=fun h=>H t n _ st1 st2 h hcomp h48
    refine .inl ⟨_,rfl,by rw [htk,List.map_append]; rfl,fun r hr=>?_⟩
    rw [htk] at hr
    rcases List.mem_append.1 hr with h | h
    ·exact hR r h
    ·rw [List.mem_singleton] at h
     subst h
     exact ⟨⟨hro,⟨hsq.1,h48⟩,by omega,fun h=>(good_GE (c : Int)).name _ (hge h),fun h2=>⟨(hro.lost h2).1,by omega⟩⟩,hcomp,hge⟩
  ·rw [if_pos (by simpa using hcomp),add_other hI c hc2 q l lost g1 (fun r hr=>(g3 r hr).1) hl6 ⟨_,hmem,hcomp⟩ (by omega),Option.bind_some]
   have hag:=hI.agrees (by omega)
   refine .inr ⟨true,?_,rfl⟩
   dsimp only
   rw [hag]
   rfl
 ·rintro s ⟨rfl,hR⟩
  rw [Int.toNat_natCast,List.take_length] at hR ⊢
  exact ⟨rfl,hR⟩
theorem damaged_law (x0 : Fi) (x1 x2 : Int) (h0 : FileOk x0) (h1 : 0≤x1∧x1≤65535) (h2 : 0≤x2∧x2≤255) : w30_CollectDamaged x0 x1 x2 = some true:=by
 have hn0 : nOf 0 = 1:=by decide
 have hb:=begin_eq 0 (by decide)
 rw [hn0] at hb
 have hby:=bytes_eq x0 ((1 : Nat) : Int) (by decide) h0
 have hrng:=fileC_rng x0 ((1 : Nat) : Int) (by decide)
 obtain ⟨c,hc⟩ : ∃ c : Nat,fileC x0 ((1 : Nat) : Int) = (c : Int) := ⟨(fileC x0 ((1 : Nat) : Int)).toNat,by omega⟩
 have hc1 : c = 0∨c = 1:=by omega
 have hk1 : (c : Int) = 0∨(c : Int) = 1:=by omega
 have hxs : ∀ x∈fileX x0,RawOk x:=fun x hx=>h0.recs x (List.mem_of_mem_take hx)
 have hxl : (fileX x0).length≤12:=by unfold fileX; rw [List.length_take]; omega
 rw [hc] at hby
 have hBl : ∀ B∈fileB (c : Int) (fileX x0),B.length≤400∧∀ b∈B,Byt b:=fun B hB=>by
  obtain ⟨x,hx,rfl⟩ := List.mem_map.1 hB
  have hm:=mkR_ok (c : Int) x (by omega) (hxs x hx)
  have hT:=(reFits_T hm.1).1
  exact ⟨recBytes_small hT,recBytes_byt hT⟩
 have hpl:=flat_frames_len (fileB (c : Int) (fileX x0)) fun B hB=>(hBl B hB).1
 have hfl : (fileB (c : Int) (fileX x0)).length≤12:=by unfold fileB; rw [List.length_map]; exact hxl
 have hpb : ∀ b∈(fileB (c : Int) (fileX x0)).flatMap frameOf,Byt b:=fun b hb=>by
  obtain ⟨B,hB,hb⟩ := List.mem_flatMap.1 hb
  obtain ⟨q1,q2⟩ := hBl B hB
  unfold frameOf lenB sumB at hb
  have hr:=ckS_range [(B.length : Int) % 256,(B.length : Int) / 256 % 256] B
  have hr1:=hr.1
  have hr2:=hr.2
  rcases List.mem_append.1 hb with hb | hb
  ·simp only [List.mem_append,List.mem_cons,List.not_mem_nil,or_false] at hb
   unfold Byt
   omega
  ·exact q2 b hb
 generalize hP : (fileB (c : Int) (fileX x0)).flatMap frameOf = p at hby hpl hpb
 have main : ∀ (q : List Int) (j : Nat),Dam p q j→∀ refs,w30_CollectDamaged_K1 (⟨List.replicate (1 + 1) part0⟩,List.replicate (1 + 1) kn0,((1 : Nat) : Int)) ((c : Int),p,refs) q = some true:=fun q j hD refs=>by
  have hql:=hD.len
  refine dam_K1 c hc1 p q refs hD.byt (by omega) fun t n r s1 s2 s3 s4 s5=>?_
  rw [← hP] at hD
  exact dam_GE hk1 hxs hD (by omega) s1 s2 s3 s4 s5
 unfold w30_CollectDamaged
 rw [hb,Option.bind_some]
 dsimp only
 rw [hby,Option.bind_some]
 dsimp only
 rw [awake30,Option.bind_some]
 simp only [Bool.not_true,Bool.or_self,Bool.false_eq_true,if_false]
 by_cases hpos : 0 < p.length
 ·rw [if_pos (by simpa using hpos)]
  have wa : IntKind.wrap .i64 x1 = x1:=wrap_i64 (by omega) (by omega)
  have m1:=Int.emod_nonneg x1 (show (p.length : Int)≠0 by omega)
  have m2:=Int.emod_lt_of_pos x1 (show (0 : Int) < (p.length : Int) by omega)
  obtain ⟨j,hj⟩ : ∃ j : Nat,x1 % (p.length : Int) = (j : Int) := ⟨(x1 % (p.length : Int)).toNat,by omega⟩
  have hjl : j < p.length:=by omega
  rw [wa,hj,chk_pos ⟨by omega,by omega⟩,idx_lt hjl,Option.bind_some,Option.bind_some,chk_pos ⟨by omega,by decide⟩,Int.toNat_natCast]
  have hvb : Byt (bitI .xor .u8 p[j] x2):=by
   have w : ∀ z : Int,Byt (IntKind.wrap .u8 z):=fun z=>by
    rw [wrap_u8m]
    exact ⟨by omega,by omega⟩
   unfold bitI
   exact w _
  generalize bitI .xor .u8 p[j] x2 = v at hvb ⊢
  have hsb : ∀ b∈p.set j v,Byt b:=fun b hb=>by
   rcases List.mem_or_eq_of_mem_set hb with h | h
   ·exact hpb b h
   ·rw [h]; exact hvb
  have hoth : ∀ i,i≠j→(p.set j v)[i]? = p[i]? := fun i hi=>by
   rw [List.getElem?_set,if_neg (fun h=>hi h.symm)]
  by_cases hcut : ((x2 % 16) == 15) = true
  ·rw [if_pos hcut,List.length_set,hj,chk_pos ⟨by omega,by omega⟩,chk_pos (by unfold slOk; omega),Int.toNat_natCast]
   refine main _ j ⟨by rw [List.length_take,List.length_set]; omega,fun i hi hij=>?_,fun i hi hij=>?_,fun b hb=>hsb b (List.mem_of_mem_take hb)⟩ _
   ·rw [List.length_take] at hi
    rw [List.getElem?_take,if_pos (by omega)]
    exact hoth i hij
   ·rw [List.length_take] at hi; omega
  ·rw [if_neg hcut]
   by_cases hv : v = p[j]
   ·rw [hv,set_self p j hjl]
    exact main p p.length ⟨Nat.le_refl _,fun _ _ _=>rfl,fun i hi hij=>by omega,hpb⟩ _
   ·refine main _ j ⟨by rw [List.length_set]; omega,fun i _ hij=>hoth i hij,fun i hi hij=>?_,hsb⟩ _
    subst hij
    rw [List.getElem?_set,if_pos rfl,if_pos hjl,List.getElem?_eq_getElem hjl]
    intro h
    injection h with h
    exact hv h
 ·rw [if_neg (by simpa using hpos)]
  exact main p p.length ⟨Nat.le_refl _,fun _ _ _=>rfl,fun i hi hij=>by omega,hpb⟩ _
end Go.Proofs.YtepkcbalmjnhpaaGreat
