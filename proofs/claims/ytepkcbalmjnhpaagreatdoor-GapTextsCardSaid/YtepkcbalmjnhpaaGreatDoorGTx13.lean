/-
  What the claim leans on, part 13.
-/
import Derived.Test.YtepkcbalmjnhpaaGreatDoorGTx12
import Derived.Shelf.SlSortCmp.NoneTotal
set_option maxRecDepth 100000
set_option maxHeartbeats 2000000
set_option linter.unusedVariables false
namespace Go.Proofs
open Go.Shelf Go.RowKit Go.Lib Go.Sort
def Tryz.sortSpan_ren : Ren:={ f:=fun x=>match x with | 6=>132 | 15=>148 | 14=>147 | 28=>162 | 29=>136 | 20=>154 | 21=>155 | 22=>156 | 23=>157 | 24=>158 | 25=>159 | 26=>160 | 27=>161 | 46=>164 | 47=>165 | 48=>166 | 49=>167 | 50=>168 | 57=>170 | n=>n,t:=fun x=>match x with | 22=>155 | 24=>190 | 25=>228 | 3=>3 | 39=>92 | 0=>0 | 53=>93 | 55=>41 | 4=>4 | 46=>250 | 45=>249 | 50=>208 | 5=>5 | 9=>9 | 66=>257 | 70=>260 | 76=>262 | 77=>143 | n=>n,g:=fun n=>n }
theorem Tryz.sortSpan : SlLaysF0.n6 Tryz.prog Tryz.sortSpan_ren where
 mixed:=by kernel_rfl
 f6:=Exists.intro "slices.SortFunc[[]rootcause/collect.span,rootcause/collect.span]" ⟨by decide,Eq.trans Tryz.func132 (congrArg some (by kernel_rfl))⟩
 f14:=Exists.intro "slices.pdqsortCmpFunc[rootcause/collect.span]" ⟨by decide,Eq.trans Tryz.func147 (congrArg some (by kernel_rfl))⟩
 f15:=Eq.trans Tryz.func148 (congrArg some (by kernel_rfl))
 f20:=Exists.intro "slices.insertionSortCmpFunc[rootcause/collect.span]" ⟨by decide,Eq.trans Tryz.func154 (congrArg some (by kernel_rfl))⟩
 f21:=Exists.intro "slices.heapSortCmpFunc[rootcause/collect.span]" ⟨by decide,Eq.trans Tryz.func155 (congrArg some (by kernel_rfl))⟩
 f22:=Exists.intro "slices.breakPatternsCmpFunc[rootcause/collect.span]" ⟨by decide,Eq.trans Tryz.func156 (congrArg some (by kernel_rfl))⟩
 f23:=Exists.intro "slices.choosePivotCmpFunc[rootcause/collect.span]" ⟨by decide,Eq.trans Tryz.func157 (congrArg some (by kernel_rfl))⟩
 f24:=Exists.intro "slices.reverseRangeCmpFunc[rootcause/collect.span]" ⟨by decide,Eq.trans Tryz.func158 (congrArg some (by kernel_rfl))⟩
 f25:=Exists.intro "slices.partialInsertionSortCmpFunc[rootcause/collect.span]" ⟨by decide,Eq.trans Tryz.func159 (congrArg some (by kernel_rfl))⟩
 f26:=Exists.intro "slices.partitionEqualCmpFunc[rootcause/collect.span]" ⟨by decide,Eq.trans Tryz.func160 (congrArg some (by kernel_rfl))⟩
 f27:=Exists.intro "slices.partitionCmpFunc[rootcause/collect.span]" ⟨by decide,Eq.trans Tryz.func161 (congrArg some (by kernel_rfl))⟩
 f28:=Eq.trans Tryz.func162 (congrArg some (by kernel_rfl))
 f29:=Eq.trans Tryz.func136 (congrArg some (by kernel_rfl))
 f46:=Exists.intro "slices.siftDownCmpFunc[rootcause/collect.span]" ⟨by decide,Eq.trans Tryz.func164 (congrArg some (by kernel_rfl))⟩
 f47:=Eq.trans Tryz.func165 (congrArg some (by kernel_rfl))
 f48:=Eq.trans Tryz.func166 (congrArg some (by kernel_rfl))
 f49:=Exists.intro "slices.medianAdjacentCmpFunc[rootcause/collect.span]" ⟨by decide,Eq.trans Tryz.func167 (congrArg some (by kernel_rfl))⟩
 f50:=Exists.intro "slices.medianCmpFunc[rootcause/collect.span]" ⟨by decide,Eq.trans Tryz.func168 (congrArg some (by kernel_rfl))⟩
 f57:=Exists.intro "slices.order2CmpFunc[rootcause/collect.span]" ⟨by decide,Eq.trans Tryz.func170 (congrArg some (by kernel_rfl))⟩
 t0:=Tryz.underlying0
 a0:=Tryz.isAgg0
 z0:=Tryz.sizeOf0
 v0:=Tryz.zeroValue0
 t3:=Tryz.underlying3
 a3:=Tryz.isAgg3
 z3:=Tryz.sizeOf3
 v3:=Tryz.zeroValue3
 t4:=Tryz.underlying4
 a4:=Tryz.isAgg4
 z4:=Tryz.sizeOf4
 v4:=Tryz.zeroValue4
 t5:=Tryz.underlying5
 a5:=Tryz.isAgg5
 z5:=Tryz.sizeOf5
 v5:=Tryz.zeroValue5
 t9:=Tryz.underlying9
 a9:=Tryz.isAgg9
 z9:=Tryz.sizeOf9
 v9:=Tryz.zeroValue9
 t22:=Tryz.underlying155
 a22:=Tryz.isAgg155
 z22:=Tryz.sizeOf155
 v22:=Tryz.zeroValue155
 t25:=Tryz.underlying228
 a25:=Tryz.isAgg228
 z25:=Tryz.sizeOf228
 v25:=Tryz.zeroValue228
 t39:=Tryz.underlying92
 a39:=Tryz.isAgg92
 z39:=Tryz.sizeOf92
 v39:=Tryz.zeroValue92
 t45:=Tryz.underlying249
 a45:=Tryz.isAgg249
 z45:=Tryz.sizeOf249
 v45:=Tryz.zeroValue249
 t46:=Tryz.underlying250
 a46:=Tryz.isAgg250
 z46:=Tryz.sizeOf250
 v46:=Tryz.zeroValue250
 t50:=Tryz.underlying208
 a50:=Tryz.isAgg208
 z50:=Tryz.sizeOf208
 v50:=Tryz.zeroValue208
 t53:=Tryz.underlying93
 a53:=Tryz.isAgg93
 z53:=Tryz.sizeOf93
 v53:=Tryz.zeroValue93
 t55:=Tryz.underlying41
 a55:=Tryz.isAgg41
 z55:=Tryz.sizeOf41
 v55:=Tryz.zeroValue41
 t66:=Tryz.underlying257
 a66:=Tryz.isAgg257
 z66:=Tryz.sizeOf257
 v66:=Tryz.zeroValue257
 t70:=Tryz.underlying260
 a70:=Tryz.isAgg260
 z70:=Tryz.sizeOf260
 v70:=Tryz.zeroValue260
 t76:=Tryz.underlying262
 a76:=Tryz.isAgg262
 z76:=Tryz.sizeOf262
 v76:=Tryz.zeroValue262
 t77:=Tryz.underlying143
 a77:=Tryz.isAgg143
 z77:=Tryz.sizeOf143
 v77:=Tryz.zeroValue143
end Go.Proofs
set_option maxHeartbeats 1000000
set_option linter.unusedSimpArgs false
namespace Go.Proofs.YtepkcbalmjnhpaaGreatDoor
open Go.Shelf Go.RowKit Go.Sort
def spanCmp (x y : CSpan) : Int:=if x.gfrom < y.gfrom then -1 else if y.gfrom < x.gfrom then 1 else 0
def spanEnc (x : CSpan) : List Value:=[.int .u64 x.gfrom,.int .u64 x.gto]
instance : Inhabited CSpan := ⟨⟨0,0⟩⟩
def spanPdq (xs : List CSpan) : List CSpan:=(pdq (ltOf spanCmp) xs.toArray 0 xs.toArray.size (Lib.bitLen xs.toArray.size) true true).toList
def spanSort (xs : List CSpan) : Option (List CSpan):=chk (xs.length < 4611686018427387904) (some (spanPdq xs))
theorem span_lt (x y : CSpan) : ltOf spanCmp x y = decide (x.gfrom < y.gfrom):=by
 unfold ltOf spanCmp
 by_cases h1 : x.gfrom < y.gfrom
 ·simp [h1]
 ·by_cases h2 : y.gfrom < x.gfrom <;> simp [h1,h2]
theorem span_swo : SWO (ltOf spanCmp) where
 irrefl x:=by rw [span_lt]; simp
 trans x y z h1 h2:=by rw [span_lt] at *; simp at *; omega
 ntrans x y z h1 h2:=by rw [span_lt] at *; simp at *; omega
theorem span_closure (x y : CSpan) (W : World) : Calls Tryz.prog 133 #[.agg #[.int .u64 x.gfrom,.int .u64 x.gto],.agg #[.int .u64 y.gfrom,.int .u64 y.gto]] W fun e w'=>e = .returned (.int .i64 (spanCmp x y))∧∃ q os',w' = grow (W.drewN q) os' := by
 have hc:=Lib.hid (show spanCmp x y = if x.gfrom < y.gfrom then -1 else if y.gfrom < x.gfrom then 1 else 0 from rfl)
 generalize spanCmp x y = r at hc ⊢
 obtain ⟨a,b⟩ := x
 obtain ⟨c,d⟩ := y
 dsimp only at hc ⊢
 by_cases h1 : a < c
 ·have hr : r = -1:=by rw [hc.out,if_pos h1]
  subst hr
  clear hc
  go_enter Tryz.func133,Tryz.ntmps133
  go_wp2
  go_ret
  exact ⟨rfl,0,_,by rw [alloc_eq_grow,alloc_eq_grow,grow_grow]; rfl⟩
 ·by_cases h2 : c < a
  ·have hr : r = 1:=by rw [hc.out,if_neg h1,if_pos h2]
   subst hr
   clear hc
   have h3 : a > c:=h2
   go_enter Tryz.func133,Tryz.ntmps133
   go_wp2
   go_ret
   exact ⟨rfl,0,_,by rw [alloc_eq_grow,alloc_eq_grow,grow_grow]; rfl⟩
  ·have hr : r = 0:=by rw [hc.out,if_neg h1,if_neg h2]
   subst hr
   clear hc
   have h3 : ¬ a > c:=h2
   go_enter Tryz.func133,Tryz.ntmps133
   go_wp2
   go_ret
   exact ⟨rfl,0,_,by rw [alloc_eq_grow,alloc_eq_grow,grow_grow]; rfl⟩
theorem flatK_list {α : Type} [Inhabited α] (enc : α→List Value) (k : Nat) (hk : ∀ x,(enc x).length = k) (h0 : 0 < k) : ∀ xs : List α,(flatK enc k xs.toArray).toList = xs.flatMap enc:=by
 have get : ∀ (xs : List α) (t : Nat),t < xs.length * k→(xs.flatMap enc)[t]? = some ((enc xs[t / k]!)[t % k]!):=by
  intro xs
  induction xs with
  | nil=>intro t h; simp at h
  | cons x xs ih=>
   intro t h
   rw [List.flatMap_cons,List.getElem?_append,hk]
   by_cases ht : t < k
   ·rw [if_pos ht,Nat.div_eq_of_lt ht,Nat.mod_eq_of_lt ht]
    have hl : t < (enc x).length:=by rw [hk]; exact ht
    simp [List.getElem?_eq_getElem hl,getElem!_pos,hl]
   ·rw [if_neg ht]
    have hge : k≤t:=Nat.le_of_not_lt ht
    have hlt : t - k < xs.length * k:=by simp only [List.length_cons,Nat.succ_mul] at h; omega
    rw [ih (t - k) hlt]
    have hd : t / k = (t - k) / k + 1:=by
     have : t = (t - k) + k:=by omega
     conv=>lhs; rw [this]
     exact Nat.add_div_right _ h0
    have hm : t % k = (t - k) % k:=by
     have : t = (t - k) + k:=by omega
     conv=>lhs; rw [this]
     exact Nat.add_mod_right _ _
    rw [hd,hm]
    simp
 intro xs
 apply List.ext_getElem?
 intro t
 by_cases h : t < xs.length * k
 ·rw [get xs t h]
  have hs : t < (flatK enc k xs.toArray).size:=by simpa using h
  have:=get_flatK enc k xs.toArray t (by simpa using h)
  rw [getElem!_pos (flatK enc k xs.toArray) t hs] at this
  rw [Array.getElem?_toList,Array.getElem?_eq_getElem hs,this]
  simp
 ·have hl : (xs.flatMap enc).length = xs.length * k:=by
   clear h get
   induction xs with
   | nil=>simp
   | cons x xs ih=>rw [List.flatMap_cons,List.length_append,ih,hk,List.length_cons,Nat.succ_mul]; omega
  rw [List.getElem?_eq_none (l:=xs.flatMap enc) (by rw [hl]; omega),List.getElem?_eq_none (l:=(flatK enc k xs.toArray).toList) (by simp; omega)]
theorem sortW_heap {α : Type} [Inhabited α] (enc : α→List Value) (k : Nat) {w : World} {b m : Nat} {d : Array α} {os : Array Obj} {cur : Array Value} {E : TypeId} (hb : w.heap[b]? = some (.cells cur E (0,0))) (hd : d.size * k≤cur.size) :
  (∃ cur',(sortWorldK enc k w b 0 m d os).heap[b]? = some (.cells cur' E (0,0))∧cur'.size = cur.size∧cur'.toList.take (d.size * k) = (flatK enc k d).toList)∧Stp w (sortWorldK enc k w b 0 m d os) (some b):=by
 have hlt:=(Array.getElem?_eq_some_iff.1 hb).1
 have hput : (putRowK enc k (Sort.ahead w m) b 0 d).heap[b]? = some (.cells (putCells id 0 (flatK enc k d) cur) E (0,0)):=by
  simp [putRowK,putRow,mapBlock,Sort.ahead,Array.getElem?_modify,hb,onCells]
 have hsz : (putRowK enc k (Sort.ahead w m) b 0 d).heap.size = w.heap.size:=by simp [putRowK,putRow,mapBlock,Sort.ahead]
 refine ⟨⟨putCells id 0 (flatK enc k d) cur,?_,by simp [putCells],?_⟩,⟨rfl,rfl,rfl,?_,fun j hj hne=>?_⟩⟩
 ·have : b < (putRowK enc k (Sort.ahead w m) b 0 d).heap.size:=by rw [hsz]; exact hlt
  simp only [sortWorldK,grow]
  rw [Array.getElem?_append_left this]; exact hput
 ·apply List.ext_getElem?
  intro t
  rw [List.getElem?_take]
  by_cases ht : t < d.size * k
  ·rw [if_pos ht]
   have h1 : t < (flatK enc k d).size:=by simpa using ht
   have h2 : t < cur.size:=by omega
   simp only [putCells,Array.getElem?_toList,Array.getElem?_mapIdx,Array.getElem?_eq_getElem h2,Array.getElem?_eq_getElem h1,Option.map_some,Nat.zero_le,true_and,Nat.zero_add,h1,if_true,Nat.sub_zero,id]
   rw [getElem!_pos (flatK enc k d) t h1]
  ·rw [if_neg ht,List.getElem?_eq_none (by simp; omega)]
 ·simp only [sortWorldK,grow,Array.size_append]; rw [hsz]; omega
 ·have : j < (putRowK enc k (Sort.ahead w m) b 0 d).heap.size:=by rw [hsz]; exact hj
  have hne' : b≠j:=fun e=>hne (by rw [e])
  simp only [sortWorldK,grow]
  rw [Array.getElem?_append_left this]
  simp [putRowK,putRow,mapBlock,Sort.ahead,Array.getElem?_modify,hne']
theorem sort_bridge {P : Program} {α : Type} [Inhabited α] (enc : α→List Value) (dv : α→DV) (k : Nat) (E : TypeId) (fn g : FuncId) (sortF : List α→List α) (hlen : ∀ x,(enc x).length = k) (hk0 : 0 < k)
  (hE : ∀ (F : FMap) (xs : List α) (cs : List Value),RsE F k (xs.map dv) cs↔cs = xs.flatMap enc)
  (hcall : ∀ (blk cap : Nat) (d : Array α) (w : World),HoldsK enc k w blk 0 d→blk < w.heap.size→d.size < 4611686018427387904 →
   Calls P fn #[.slice (some ⟨blk,0,none⟩) d.size cap,.func (.func g) #[] #[]] w fun e w'=>e = .returned (.tuple #[])∧∃ n os,w' = sortWorldK enc k w blk 0 n (sortF d.toList).toArray os)
  (hnone : ∀ (p : Option Addr) (cap : Nat) (fv : Value) (w : World),Calls P fn #[.slice p 0 cap,fv] w fun e w'=>e = .returned (.tuple #[])∧w' = w)
  (hsl : ∀ xs,(sortF xs).length = xs.length) (xs : List α) (hx : xs.length < 4611686018427387904) :
  ACall P fn ⟨[.row 100000,.val (.func (.func g) #[] #[])],[(100000,some (.row E k (xs.map dv)))],.tup [],[(100000,some (.row E k ((sortF xs).map dv)))],[]⟩ := by
 intro C F γ heap used w vs f hpre hnew hinj H hv
 have he : hget heap (f 100000) = some (.row E k (xs.map dv)):=hpre 100000 (.row E k (xs.map dv)) rfl
 obtain ⟨gv,hg,cs,hown,hcs⟩ := H.ent _ _ he
 simp only [renL,DV.ren,RsT,Rs] at hv
 obtain ⟨v1,r1,rfl,k1,v2,r2,rfl,rfl,rfl⟩ := hv
 rw [hg] at k1; injection k1 with k1; subst k1
 rw [hE] at hcs
 rw [List.length_map] at hown
 have keep : ∀ (w' : World),Stp w w' none→xs = []→∃ v F' γ',Ending.returned (.tuple #[]) = .returned v∧FLe F F'∧GLe γ γ'∧WS C F' γ' (renH f [(100000,some (.row E k ((sortF xs).map dv)))]++heap) (List.map f []++used) w'∧Rs F' γ' (DV.ren f (.tup [])) v:=by
  intro w' S h0
  have h1 : sortF xs = []:=List.eq_nil_of_length_eq_zero (by rw [hsl,h0]; rfl)
  refine ⟨_,F,γ,rfl,FLe.refl _,GLe.refl _,(H.quiet S).congr (fun i e hi=>?_) (fun _ h=>h),by simp [DV.ren,renL,Rs,RsT]⟩
  simp only [renH,List.map_cons,List.map_nil,List.cons_append,List.nil_append,Option.map_some,HE.ren] at hi
  rw [hget_cons] at hi
  split at hi
  ·rename_i e1; subst e1; rw [he,← hi,h1,h0]
  ·exact hi
 by_cases hxe : xs = []
 ·have hgn : ∃ p cap,gv = .slice p 0 cap:=by
   rcases hown.2 with ⟨q,_⟩ | ⟨b,cap,cur,q,_⟩
   ·exact ⟨none,0,q⟩
   ·rw [hxe] at q; exact ⟨_,cap,q⟩
  obtain ⟨p,cap,rfl⟩ := hgn
  refine (hnone p cap _ w).mono ?_
  rintro e w' ⟨rfl,rfl⟩
  exact keep _ (Stp.refl _) hxe
 ·rcases hown.2 with ⟨_,q⟩ | ⟨b,cap,cur,rfl,q1,q2,q3,q4,q5,q6⟩
  ·exact absurd (List.eq_nil_of_length_eq_zero q) hxe
  ·have hfl:=flatK_list enc k hlen hk0
   have hcl : cs.length = xs.length * k:=hown.1
   have hH : HoldsK enc k w b 0 xs.toArray:=by
    intro j hj
    have hj' : j < xs.length * k:=by simpa using hj
    have hjc : j < cur.size:=by
     rw [q5]; exact Nat.lt_of_lt_of_le hj' (Nat.mul_le_mul_right _ q3)
    have e1 : (flatK enc k xs.toArray)[j]! = cur[j]:=by
     have a1 : (flatK enc k xs.toArray).toList[j]? = some (flatK enc k xs.toArray)[j]! := by
      rw [Array.getElem?_toList,Array.getElem?_eq_getElem hj,getElem!_pos (flatK enc k xs.toArray) j hj]
     rw [hfl,← hcs,← q6,List.getElem?_take,if_pos hj',Array.getElem?_toList,Array.getElem?_eq_getElem hjc] at a1
     exact (Option.some.inj a1).symm
    refine ⟨?_,?_⟩
    ·simp only [World.cell?,q2,Nat.zero_add,id,e1]
     simp [hjc]
    ·simp [World.frozen?,q2]
   have hlt : b < w.heap.size:=(Array.getElem?_eq_some_iff.1 q2).1
   have:=hcall b cap xs.toArray w hH hlt (by simpa using hx)
   simp only [List.size_toArray] at this
   refine this.mono ?_
   rintro e w' ⟨rfl,m,os,rfl⟩
   have hd : (sortF xs).toArray.size * k≤cur.size:=by
    simp only [List.size_toArray,hsl]; rw [q5]; exact Nat.mul_le_mul_right _ q3
   obtain ⟨⟨cur',c1,c2,c3⟩,S⟩ := sortW_heap enc k (m:=m) (os:=os) q2 hd
   refine ⟨_,F,γ,rfl,FLe.refl _,GLe.refl _,?_,by simp [DV.ren,renL,Rs,RsT]⟩
   have hT:=H.turn he hg (by simpa [Value.pblk] using S)
   have hP:=hT.put (e0:=.row E k ((sortF xs).map dv)) hg ⟨(sortF xs).flatMap enc,?_,(hE _ _ _).2 rfl⟩ (fun b' hb'=>?_)
   ·refine hP.congr (fun i e hi=>?_) (fun _ h=>h)
    simp only [renH,List.map_cons,List.map_nil,List.cons_append,List.nil_append,Option.map_some,HE.ren] at hi
    rw [hget_cons] at hi ⊢
    split at hi
    ·rename_i e1; rw [if_pos e1]; exact hi
    ·rename_i e1; rw [if_neg e1,hget_cons,if_neg e1]; exact hi
   ·have hfl2 : ((sortF xs).flatMap enc).length = (sortF xs).length * k:=by
     rw [← hfl]; simp
    refine ⟨by rw [List.length_map]; exact hfl2,.inr ⟨b,cap,cur',?_,Nat.zero_le _,c1,?_,q4,by rw [c2,q5],?_⟩⟩
    ·rw [List.length_map,hsl]
    ·rw [List.length_map,hsl]; exact q3
    ·rw [List.length_map,← hfl,← c3]; simp
   ·have q:=H.own _ _ _ b' he hg hb'
    refine ⟨q.1,q.2,fun id' e' g' hne hh2 hg' hb''=>?_⟩
    rw [hget_cons] at hh2
    split at hh2
    ·cases hh2
    ·exact hne (H.apart id' _ e' _ g' _ b' hh2 he hg' hg hb'' hb')
theorem span_rsE (F : FMap) : ∀ (xs : List CSpan) (cs : List Value),RsE F 2 (xs.map CSpan.dv) cs↔cs = xs.flatMap spanEnc
 | [],cs=>by simp [RsE]
 | x :: xs,cs=>by
  simp only [List.map_cons,RsE,List.flatMap_cons,span_rsE F xs]
  constructor
  ·rintro ⟨v,rest,rfl,h1,h2,h3,rfl⟩
   congr 1
   simp only [CSpan.dv,CSpan.cs,Rs,RsL] at h3
   obtain ⟨cs,rfl,v1,r1,e1,_,rfl,v2,r2,rfl,_,rfl,rfl⟩ := h3
   simpa [Value.cells,spanEnc] using e1
  ·rintro rfl
   exact ⟨.agg #[.int .u64 x.gfrom,.int .u64 x.gto],_,rfl,rfl,by simp [Value.cells,Value.oneCell'],by
    simp only [CSpan.dv,CSpan.cs,Rs,RsL]
    exact ⟨_,rfl,_,_,rfl,rfl,rfl,_,_,rfl,rfl,rfl,rfl⟩,rfl⟩
theorem spanPdq_spec (xs : List CSpan) : PermIn 0 xs.toArray.size xs.toArray (spanPdq xs).toArray∧SortedIn (ltOf spanCmp) 0 xs.toArray.size (spanPdq xs).toArray:=by
 have h:=pdq_sorts (ltOf spanCmp) span_swo xs.toArray 0 xs.toArray.size (Lib.bitLen xs.toArray.size) true true (Nat.zero_le _) (Nat.le_refl _) (Or.inl rfl)
 simpa [spanPdq] using h
theorem spanPdq_len (xs : List CSpan) : (spanPdq xs).length = xs.length:=by
 have:=(spanPdq_spec xs).1.1
 simpa using this
theorem spanSort_c {x r : List CSpan} (hM : spanSort x = some r) : ACall Tryz.prog 132 ⟨[.row 100000,.val (.func (.func 133) #[] #[])],[(100000,some (.row 190 2 (List.map CSpan.dv x)))],.tup [],[(100000,some (.row 190 2 (List.map CSpan.dv r)))],[]⟩ := by
 obtain ⟨h,hM⟩ := of_chk hM
 obtain rfl:=Option.some.inj hM
 refine sort_bridge spanEnc CSpan.dv 2 _ _ _ spanPdq (fun _=>rfl) (by decide) span_rsE (fun blk cap d w hH hlt hsz=>?_) (fun p cap fv w=>?_) spanPdq_len x h
 ·have eg : ∀ args w,(callFunc 133 args).run Tryz.prog w = .ok (.enter 133 args) w:=enters_of Tryz.func133 (by kernel_rfl) rfl
  have aE : ∀ w,(isAgg 190).run Tryz.prog w = .ok true w:=fun w=>by simp [isAgg,run_underlying Tryz.underlying190]
  have zE : ∀ w,(Go.sizeOf 190).run Tryz.prog w = .ok 2 w:=fun w=>by
   have : (Tryz.prog.info? 190).map (·.size) = some 2:=by kernel_rfl
   cases hi : Tryz.prog.info? 190 with
   | none=>rw [hi] at this; cases this
   | some i=>rw [hi] at this; injection this with this; simp [Go.sizeOf,typeInfo,hi,this]
  have hcon:=AnyQ.slices_SortFunc_eq Tryz.sortSpan 2 aE zE spanEnc (fun _=>rfl) (fun x v hv=>by simp [spanEnc] at hv; rcases hv with rfl | rfl <;> rfl) spanCmp span_swo 133 #[] blk 0 cap d w eg (fun _ _ _ _ x y=>span_closure x y _) hH hlt hsz
  change Calls Tryz.prog 132 _ _ _ at hcon
  refine hcon.mono ?_
  rintro e w' ⟨rfl,n,os,rfl⟩
  exact ⟨rfl,n,os,by simp [spanPdq]⟩
 ·have:=AnyF.slices_SortFunc_none Tryz.sortSpan p cap fv w
  exact this
end Go.Proofs.YtepkcbalmjnhpaaGreatDoor
set_option maxHeartbeats 4000000
namespace Go.Proofs.YtepkcbalmjnhpaaGreatDoor
open Go.RowKit
def collect_mergeSpans_K1 (a5 : List CSpan) (a6 : Int) : Option (List CSpan) :=
 chk (slOk (List.length a5) 0 a6)<|
 some (List.take (Int.toNat a6) a5)
def collect_mergeSpans_L2 (k8 : Nat) (a9 : List CSpan) (a10 : Int) : Option ((List CSpan) × Int) :=
 (idx a9 (k8 : Int)).bind fun v15=>
 (gb (decide (0 < a10)) (CSpan.mk 0 0) (idx a9 (IntKind.wrap .i64 (a10 - 1)))).bind fun v17=>
 if ((decide (0 < a10)) && (decide (v15.gfrom≤v17.gto))) = true then
  (idx a9 (IntKind.wrap .i64 (a10 - 1))).bind fun v20=>
  (idx a9 (IntKind.wrap .i64 (a10 - 1))).bind fun v22=>
  some ((List.set a9 (Int.toNat (IntKind.wrap .i64 (a10 - 1))) (CSpan.mk v22.gfrom (if v15.gto > v20.gto then v15.gto else v20.gto))),a10)
 else
  (idx a9 a10).bind fun v24=>
  some ((List.set a9 (Int.toNat a10) v15),(IntKind.wrap .i64 (a10 + 1)))
def collect_mergeSpans (x0 : List CSpan) (x1 : List CSpan) : Option (List CSpan) :=
 (catS [x0,x1]).bind fun v2=>
 (spanSort v2).bind fun v4=>
 (foldM' 9223372036854775807 (List.length v4 : Int) (fun k8 s=>collect_mergeSpans_L2 k8 s.1 s.2) (v4,0)).bind fun s=>collect_mergeSpans_K1 s.1 s.2
theorem collect_mergeSpans_c {x0 : List CSpan} {x1 : List CSpan} {r : (List CSpan)} (hM : collect_mergeSpans x0 x1 = some r) : PCall Tryz.prog 101 [.sl 2 (List.map CSpan.dv x0),.sl 2 (List.map CSpan.dv x1)] (.sl 2 (List.map CSpan.dv r)):=by
 unfold collect_mergeSpans at hM
 refine PCall.body Tryz.func101 Tryz.ntmps101 rfl rfl rfl rfl ?_
 refine a_seq (ar (.cons (o_assign rfl)<|.nil _) ?_)
 refine a_seq ?_
 obtain ⟨v2,h1,hM⟩ := of_bind hM
 refine ar (.cons (o_move rfl)<|.cons (o_move rfl)<|.cons (o_frz (t_build (encSl 2 CSpan.dv) ([x0,x1] : List (List CSpan)) rfl rfl rfl rfl rfl rfl rfl))<|.cons (o_callN (fun i=>bif Nat.beq i 50000 then 12 else i) 1 (catS_c h1) rfl (DLeL.refl _) .nil rfl .nil)<|.cons (o_assign rfl)<|.nil _) ?_
 refine a_seq ?_
 obtain ⟨v4,h3,hM⟩ := of_bind hM
 refine ar (.cons (o_move rfl)<|.cons (o_callN (fun i=>bif Nat.beq i 100000 then 12 else i) 1 (spanSort_c h3) rfl (DLeL.refl _) (.cons rfl .nil) rfl .nil)<|.nil _) ?_
 refine a_seq (ar (.cons (o_assign rfl)<|.nil _) ?_)
 refine a_cut (α:=(List CSpan) × Int) (fun s=>⟨[(5,.sl 2 (List.map CSpan.dv s.1)),(6,.int .i64 s.2)],[],[]⟩) (fun s=>collect_mergeSpans_K1 s.1 s.2 = some r) ?_ ?_
 ·refine a_seq (ar (.cons (o_move rfl)<|.cons (t_len_r rfl rfl)<|.cons (o_move rfl)<|.nil _) ?_)
  obtain ⟨⟨a9,a10⟩,hL11,hK11⟩ := of_bind hM
  refine a_block ?_
  refine a_fold (fun k8 (s : (List CSpan) × Int)=>⟨[(5,.row 10001),(6,.int .i64 s.2),(15,.row 10001),(16,.int .i64 (List.length v4 : Int)),(17,.int .i64 (k8 : Int))],[(10001,some (.row 190 2 (List.map CSpan.dv s.1)))],[10001]⟩) _ hL11 (Imp.sh (fun i=>bif Nat.beq i 10001 then 12 else i) rfl rfl rfl rfl rfl rfl) ?_ ?_
  ·rintro k8 ⟨a9,a10⟩ t12 hk8 hx8 hM
   replace hM : collect_mergeSpans_L2 k8 a9 a10 = some t12:=hM
   unfold collect_mergeSpans_L2 at hM
   refine a_seq (ar (.cons (o_int rfl rfl rfl)<|.nil _) ?_)
   refine a_seq ?_
   refine a_cond _ rfl (fun _=>?_) (fun c=>absurd hk8 (of_decide_eq_false c))
   refine a_skip (a_seq (a_block (a_seq ?_)))
   obtain ⟨v15,h14,hM⟩ := of_bind hM
   refine ar (.cons (t_index_r h14 rfl rfl rfl)<|.cons (t_load_pr h14 rfl rfl rfl rfl rfl)<|.cons (o_alloc rfl)<|.cons (o_store rfl rfl rfl rfl rfl rfl rfl)<|.nil _) ?_
   refine a_seq (a_seq ?_)
   obtain ⟨v17,h16,hM⟩ := of_bind hM
   refine ad mixed (.cons (o_move rfl)<|.cons (o_int rfl rfl rfl)<|.cons (o_move rfl)<|.cons (o_guardG .bT rfl rfl (fun hb=>(.keep .nil)) (fun hb=>o_fieldAddr rfl))<|.cons (o_guardG .bT rfl rfl (fun hb=>(.strip rfl hb .nil)) (fun hb=>o_load_s rfl rfl rfl))<|.cons (o_guardG .bT rfl rfl (fun hb=>(.keep .nil)) (fun hb=>o_move rfl))<|.cons (o_guardG .bT rfl rfl (fun hb=>(.keep .nil)) (fun hb=>o_move rfl))<|.cons (o_guardG .bT rfl rfl (fun hb=>(.strip rfl hb .nil)) (fun hb=>o_int rfl rfl rfl))<|.cons (o_guardG .bT rfl rfl (fun hb=>(.strip rfl hb (.strip rfl hb .nil))) (fun hb=>t_index_r (of_gb h16 hb) rfl rfl rfl))<|.cons (o_guardG .bT rfl rfl (fun hb=>(.strip rfl hb .nil)) (fun hb=>o_fieldAddr_p rfl))<|.cons (o_guardG .bT rfl rfl (fun hb=>(.strip rfl hb .nil)) (fun hb=>t_load_ps (of_gb h16 hb) rfl rfl rfl rfl))<|.cons (o_guardG .bT rfl rfl (fun hb=>(.strip rfl hb (.strip rfl hb .nil))) (fun hb=>o_int rfl rfl rfl))<|.cons (o_and rfl rfl)<|.nil _) ?_
   refine a_cond _ rfl (fun h18=>?_) (fun h18=>?_)
   ·replace hM:=(of_if hM).1 h18
    refine a_seq ?_
    obtain ⟨v20,h19,hM⟩ := of_bind hM
    obtain ⟨v22,h21,hM⟩ := of_bind hM
    refine ad mixed (.cons (o_move rfl)<|.cons (o_move rfl)<|.cons (o_int rfl rfl rfl)<|.cons (o_move rfl)<|.cons (o_move rfl)<|.cons (o_int rfl rfl rfl)<|.cons (t_index_r h19 rfl rfl rfl)<|.cons (o_fieldAddr_p rfl)<|.cons (t_load_ps h19 rfl rfl rfl rfl)<|.cons (o_fieldAddr rfl)<|.cons (o_load_s rfl rfl rfl)<|.cons (o_max rfl rfl)<|.cons (t_index_r h21 rfl rfl rfl)<|.cons (o_fieldAddr_p rfl)<|.cons (t_store_p (CSpan.mk v22.gfrom (if v15.gto > v20.gto then v15.gto else v20.gto)) h21 rfl rfl rfl rfl rfl rfl rfl rfl rfl rfl rfl)<|.nil _) ?_
    refine a_exit (ar (.cons (o_add rfl rfl (inR_i64 hk8 hx8))<|.cons (o_move rfl)<|.nil _) ?_)
    obtain rfl:=Option.some.inj hM
    exact (Imp.of (fun i=>i) (.cons rfl (DLe.refl _) (.cons rfl (DLe.refl _) (.cons rfl (DLe.refl _) (.cons rfl (DLe.refl _) (.cons rfl (DLe.succ _ _) .nil))))) (.cons rfl (.refl _) .nil) rfl rfl rfl)
   ·replace hM:=(of_if hM).2 h18
    refine a_skip (a_seq ?_)
    obtain ⟨v24,h23,hM⟩ := of_bind hM
    refine ar (.cons (o_move rfl)<|.cons (o_move rfl)<|.cons (o_load_r rfl rfl rfl rfl)<|.cons (t_index_r h23 rfl rfl rfl)<|.cons (t_store_p v15 h23 rfl rfl rfl rfl rfl rfl rfl rfl rfl rfl rfl)<|.nil _) ?_
    refine ar (.cons (o_move rfl)<|.cons (o_int rfl rfl rfl)<|.cons (o_assign rfl)<|.nil _) ?_
    refine ar (.cons (o_add rfl rfl (inR_i64 hk8 hx8))<|.cons (o_move rfl)<|.nil _) ?_
    obtain rfl:=Option.some.inj hM
    exact (Imp.of (fun i=>i) (.cons rfl (DLe.refl _) (.cons rfl (DLe.refl _) (.cons rfl (DLe.refl _) (.cons rfl (DLe.refl _) (.cons rfl (DLe.succ _ _) .nil))))) (.cons rfl (.refl _) .nil) rfl rfl rfl)
  ·rintro k8 hk8 hx8
   refine a_seq (ar (.cons (o_int rfl rfl rfl)<|.nil _) ?_)
   refine a_seq ?_
   refine a_cond _ rfl (fun c=>absurd (of_decide_eq_true c) (Int.not_lt.2 hk8)) (fun _=>?_)
   refine a_exit ?_
   exact ⟨(a9,a10),hK11,((Imp.freeze (id:=10001) rfl).trans (Imp.sh (fun i=>i) rfl rfl rfl rfl rfl rfl))⟩
 ·rintro ⟨a5,a6⟩ hM
  replace hM : collect_mergeSpans_K1 a5 a6 = some r:=hM
  unfold collect_mergeSpans_K1 at hM
  refine a_seq ?_
  obtain ⟨h7,hM⟩ := of_chk hM
  refine ar (.cons (o_move rfl)<|.cons (o_move rfl)<|.cons (t_slice_h h7 rfl rfl)<|.cons (o_assign rfl)<|.nil _) ?_
  obtain rfl:=Option.some.inj hM
  exact a_ret (a_post (.r1 (.tmp rfl)) (DLe.refl _) PostOk.nil.spec)
def CPart_merge_K1 (x0 : CPart) (x1 : CPart) (v3 : (List RRec) × Bool) : Option (CPart × Bool) :=
 (collect_mergeSpans x0.glost x1.glost).bind fun v6=>
 (gb ((decide (0 < (List.length v6 : Int))) && (x0.gknown || x1.gknown)) (CSpan.mk 0 0) (idx v6 (IntKind.wrap .i64 ((List.length v6 : Int) - 1)))).bind fun v8=>
 if (((decide (0 < (List.length v6 : Int))) && (x0.gknown || x1.gknown)) && (decide ((if x1.gtotal > x0.gtotal then x1.gtotal else x0.gtotal) < v8.gto))) = true then
  some ((CPart.mk [] [] false 0),false)
 else
  (collect_without v6 v3.1).bind fun v11=>
  some ((CPart.mk v3.1 v11 (x0.gknown || x1.gknown) (if x1.gtotal > x0.gtotal then x1.gtotal else x0.gtotal)),true)
def CPart_merge (x0 : CPart) (x1 : CPart) : Option (CPart × Bool) :=
 if ((x0.gknown && x1.gknown) && (x0.gtotal != x1.gtotal)) = true then
  some ((CPart.mk [] [] false 0),false)
 else
  (collect_mergeEntries x0.gentries x1.gentries).bind fun v3=>
  if (!v3.2) = true then
   some ((CPart.mk [] [] false 0),false)
  else
   if (decide (0 < (List.length v3.1 : Int))) = true then
    (idx v3.1 (IntKind.wrap .i64 ((List.length v3.1 : Int) - 1))).bind fun v14=>
    if ((v14.gSeq == 18446744073709551615) || ((x0.gknown || x1.gknown) && (decide ((if x1.gtotal > x0.gtotal then x1.gtotal else x0.gtotal)≤v14.gSeq)))) = true then
     some ((CPart.mk [] [] false 0),false)
    else
     CPart_merge_K1 x0 x1 v3
   else
    CPart_merge_K1 x0 x1 v3
theorem CPart_merge_c {x0 : CPart} {x1 : CPart} {r : CPart × Bool} (hM : CPart_merge x0 x1 = some r) : PCall Tryz.prog 74 [.agg (CPart.cs x0),.agg (CPart.cs x1)] (.tup [.agg (CPart.cs r.1),.bool r.2]):=by
 unfold CPart_merge at hM
 refine PCall.body Tryz.func74 Tryz.ntmps74 rfl rfl rfl rfl ?_
 refine a_seq (ar (.cons (o_box rfl rfl)<|.cons (o_box rfl rfl)<|.cons (o_alloc rfl)<|.cons (o_assign rfl)<|.nil _) ?_)
 refine a_seq (a_seq (ar (.cons (o_fieldAddr rfl)<|.cons (o_load_s rfl rfl rfl)<|.cons (o_move rfl)<|.cons (o_guardG .bT rfl rfl (fun hb=>(.keep .nil)) (fun hb=>o_fieldAddr rfl))<|.cons (o_guardG .bT rfl rfl (fun hb=>(.strip rfl hb .nil)) (fun hb=>o_load_s rfl rfl rfl))<|.cons (o_and rfl rfl)<|.cons (o_move rfl)<|.cons (o_guardG .bT rfl rfl (fun hb=>(.keep .nil)) (fun hb=>o_fieldAddr rfl))<|.cons (o_guardG .bT rfl rfl (fun hb=>(.strip rfl hb .nil)) (fun hb=>o_load_s rfl rfl rfl))<|.cons (o_guardG .bT rfl rfl (fun hb=>(.keep .nil)) (fun hb=>o_fieldAddr rfl))<|.cons (o_guardG .bT rfl rfl (fun hb=>(.strip rfl hb .nil)) (fun hb=>o_load_s rfl rfl rfl))<|.cons (o_guardG .bT rfl rfl (fun hb=>(.strip rfl hb (.strip rfl hb .nil))) (fun hb=>o_int rfl rfl rfl))<|.cons (o_and rfl rfl)<|.nil _) ?_))
 refine a_cond _ rfl (fun h1=>?_) (fun h1=>?_)
 ·replace hM:=(of_if hM).1 h1
  refine a_seq (ar (.cons (o_build rfl rfl rfl)<|.cons (o_store rfl rfl rfl rfl rfl rfl rfl)<|.cons (o_assign rfl)<|.nil _) ?_)
  obtain rfl:=Option.some.inj hM
  exact a_ret (a_post (.r2 (.cell rfl rfl (.row _ CRow.h (Nat.le_of_ble_eq_true rfl) rfl)) (.tmp rfl)) (DLe.tup (.cons (DLe.agg (.cons (DLe.nils _) (.cons (DLe.nils _) (.cons (DLe.refl _) (.cons (DLe.refl _) .nil))))) (.cons (DLe.refl _) .nil))) PostOk.nil.spec)
 ·replace hM:=(of_if hM).2 h1
  refine a_skip (a_seq (ar (.cons (o_fieldAddr rfl)<|.cons (o_load_s rfl rfl rfl)<|.cons (o_move rfl)<|.cons (o_guardG .bF rfl rfl (fun hb=>(.keep .nil)) (fun hb=>o_fieldAddr rfl))<|.cons (o_guardG .bF rfl rfl (fun hb=>(.strip rfl hb .nil)) (fun hb=>o_load_s rfl rfl rfl))<|.cons (o_or rfl rfl)<|.cons (o_fieldAddr rfl)<|.cons (o_load_s rfl rfl rfl)<|.cons (o_fieldAddr rfl)<|.cons (o_load_s rfl rfl rfl)<|.cons (o_max rfl rfl)<|.cons (o_build rfl rfl rfl)<|.cons (o_alloc rfl)<|.cons (o_store rfl rfl rfl rfl rfl rfl rfl)<|.nil _) ?_))
  refine a_seq (ar (.cons (o_assign rfl)<|.nil _) ?_)
  refine a_seq (a_seq ?_)
  obtain ⟨v3,h2,hM⟩ := of_bind hM
  refine ar (.cons (o_fieldAddr rfl)<|.cons (o_load_s rfl rfl rfl)<|.cons (o_fieldAddr rfl)<|.cons (o_load_s rfl rfl rfl)<|.cons (o_call (collect_mergeEntries_c h2) rfl (DLeL.refl _) rfl)<|.cons (o_move rfl)<|.cons (o_extract rfl rfl)<|.cons (o_extract rfl rfl)<|.cons (o_fieldAddr rfl)<|.cons (o_store_s rfl rfl rfl rfl rfl)<|.cons (o_assign rfl)<|.nil _) ?_
  refine a_seq (ar (.cons (o_move rfl)<|.cons (o_not rfl)<|.nil _) ?_)
  refine a_cond _ rfl (fun h4=>?_) (fun h4=>?_)
  ·replace hM:=(of_if hM).1 h4
   refine a_seq (ar (.cons (o_build rfl rfl rfl)<|.cons (o_store rfl rfl rfl rfl rfl rfl rfl)<|.cons (o_assign rfl)<|.nil _) ?_)
   obtain rfl:=Option.some.inj hM
   exact a_ret (a_post (.r2 (.cell rfl rfl (.row _ CRow.h (Nat.le_of_ble_eq_true rfl) rfl)) (.tmp rfl)) (DLe.tup (.cons (DLe.agg (.cons (DLe.nils _) (.cons (DLe.nils _) (.cons (DLe.refl _) (.cons (DLe.refl _) .nil))))) (.cons (DLe.refl _) .nil))) PostOk.nil.spec)
  ·replace hM:=(of_if hM).2 h4
   refine a_skip ?_
   refine a_cut (α:=Unit) (fun s=>⟨[(2,.ref 2 0),(3,.ref 3 0),(4,.ref 4 0),(6,.ref 6 0)],[(2,some (.blk 157 (CPart.cs x0))),(3,some (.blk 157 (CPart.cs x1))),(4,some (.blk 157 [.nils,.nils,.bool false,.int .u64 0])),(6,some (.blk 157 [.sl 29 (List.map RRec.dv v3.1),.nils,.bool (x0.gknown || x1.gknown),.int .u64 (if x1.gtotal > x0.gtotal then x1.gtotal else x0.gtotal)]))],[2,3,4,6]⟩) (fun s=>CPart_merge_K1 x0 x1 v3 = some r) ?_ ?_
   ·refine a_seq (ar (.cons (o_fieldAddr rfl)<|.cons (o_load_s rfl rfl rfl)<|.cons (t_len rfl)<|.cons (o_assign rfl)<|.nil _) ?_)
    refine a_seq (ar (.cons (o_move rfl)<|.cons (o_int rfl rfl rfl)<|.nil _) ?_)
    refine a_cond _ rfl (fun h12=>?_) (fun h12=>?_)
    ·replace hM:=(of_if hM).1 h12
     refine a_seq ?_
     obtain ⟨v14,h13,hM⟩ := of_bind hM
     refine ar (.cons (o_fieldAddr rfl)<|.cons (o_load_s rfl rfl rfl)<|.cons (o_move rfl)<|.cons (o_int rfl rfl rfl)<|.cons (t_index h13 rfl rfl rfl)<|.cons (o_fieldAddr_e rfl rfl)<|.cons (o_load_es rfl rfl)<|.cons (o_assign rfl)<|.nil _) ?_
     refine a_seq (ar (.cons (o_move rfl)<|.cons (o_int rfl rfl rfl)<|.cons (o_move rfl)<|.cons (o_guardG .bF rfl rfl (fun hb=>(.keep .nil)) (fun hb=>o_fieldAddr rfl))<|.cons (o_guardG .bF rfl rfl (fun hb=>(.strip rfl hb .nil)) (fun hb=>o_load_s rfl rfl rfl))<|.cons (o_guardG .bF rfl rfl (fun hb=>(.strip rfl hb .nil)) (fun hb=>o_move rfl))<|.cons (o_guardG .iT rfl rfl (fun hb=>(.keep .nil)) (fun hb=>o_move rfl))<|.cons (o_guardG .iT rfl rfl (fun hb=>(.keep .nil)) (fun hb=>o_fieldAddr rfl))<|.cons (o_guardG .iT rfl rfl (fun hb=>(.strip rfl hb .nil)) (fun hb=>o_load_s rfl rfl rfl))<|.cons (o_guardG .iT rfl rfl (fun hb=>(.strip rfl hb (.strip rfl hb .nil))) (fun hb=>o_int rfl rfl rfl))<|.cons (o_guardG .bF rfl rfl (fun hb=>(.strip rfl hb (.half rfl hb .nil))) (fun hb=>o_and rfl rfl))<|.cons (o_or rfl rfl)<|.nil _) ?_)
     refine a_cond _ rfl (fun h15=>?_) (fun h15=>?_)
     ·replace hM:=(of_if hM).1 h15
      refine a_seq (ar (.cons (o_build rfl rfl rfl)<|.cons (o_store rfl rfl rfl rfl rfl rfl rfl)<|.cons (o_assign rfl)<|.nil _) ?_)
      obtain rfl:=Option.some.inj hM
      exact a_ret (a_post (.r2 (.cell rfl rfl (.row _ CRow.h (Nat.le_of_ble_eq_true rfl) rfl)) (.tmp rfl)) (DLe.tup (.cons (DLe.agg (.cons (DLe.nils _) (.cons (DLe.nils _) (.cons (DLe.refl _) (.cons (DLe.refl _) .nil))))) (.cons (DLe.refl _) .nil))) PostOk.nil.spec)
     ·replace hM:=(of_if hM).2 h15
      refine a_skip ?_
      exact ⟨(),hM,(Imp.sh (fun i=>i) rfl rfl rfl rfl rfl rfl)⟩
    ·replace hM:=(of_if hM).2 h12
     refine a_skip ?_
     exact ⟨(),hM,(Imp.sh (fun i=>i) rfl rfl rfl rfl rfl rfl)⟩
   ·rintro _ hM
    replace hM : CPart_merge_K1 x0 x1 v3 = some r:=hM
    unfold CPart_merge_K1 at hM
    refine a_seq ?_
    obtain ⟨v6,h5,hM⟩ := of_bind hM
    refine ar (.cons (o_fieldAddr rfl)<|.cons (o_load_s rfl rfl rfl)<|.cons (o_fieldAddr rfl)<|.cons (o_load_s rfl rfl rfl)<|.cons (o_call (collect_mergeSpans_c h5) rfl (DLeL.refl _) rfl)<|.cons (o_fieldAddr rfl)<|.cons (o_store_s rfl rfl rfl rfl rfl)<|.nil _) ?_
    refine a_seq (a_seq (ar (.cons (o_fieldAddr rfl)<|.cons (o_load_s rfl rfl rfl)<|.cons (t_len rfl)<|.cons (o_assign rfl)<|.nil _) ?_))
    refine a_seq ?_
    obtain ⟨v8,h7,hM⟩ := of_bind hM
    refine ad mixed (.cons (o_move rfl)<|.cons (o_int rfl rfl rfl)<|.cons (o_move rfl)<|.cons (o_guardG .bT rfl rfl (fun hb=>(.keep .nil)) (fun hb=>o_fieldAddr rfl))<|.cons (o_guardG .bT rfl rfl (fun hb=>(.strip rfl hb .nil)) (fun hb=>o_load_s rfl rfl rfl))<|.cons (o_and rfl rfl)<|.cons (o_move rfl)<|.cons (o_guardG .bT rfl rfl (fun hb=>(.keep .nil)) (fun hb=>o_fieldAddr rfl))<|.cons (o_guardG .bT rfl rfl (fun hb=>(.strip rfl hb .nil)) (fun hb=>o_load_s rfl rfl rfl))<|.cons (o_guardG .bT rfl rfl (fun hb=>(.keep .nil)) (fun hb=>o_move rfl))<|.cons (o_guardG .bT rfl rfl (fun hb=>(.strip rfl hb .nil)) (fun hb=>o_int rfl rfl rfl))<|.cons (o_guardG .bT rfl rfl (fun hb=>(.strip rfl hb (.strip rfl hb .nil))) (fun hb=>t_index (of_gb h7 hb) rfl rfl rfl))<|.cons (o_guardG .bT rfl rfl (fun hb=>(.strip rfl hb .nil)) (fun hb=>o_fieldAddr_e rfl rfl))<|.cons (o_guardG .bT rfl rfl (fun hb=>(.strip rfl hb .nil)) (fun hb=>o_load_es rfl rfl))<|.cons (o_guardG .bT rfl rfl (fun hb=>(.keep .nil)) (fun hb=>o_fieldAddr rfl))<|.cons (o_guardG .bT rfl rfl (fun hb=>(.strip rfl hb .nil)) (fun hb=>o_load_s rfl rfl rfl))<|.cons (o_guardG .bT rfl rfl (fun hb=>(.strip rfl hb (.strip rfl hb .nil))) (fun hb=>o_int rfl rfl rfl))<|.cons (o_and rfl rfl)<|.nil _) ?_
    refine a_cond _ rfl (fun h9=>?_) (fun h9=>?_)
    ·replace hM:=(of_if hM).1 h9
     refine a_seq (ar (.cons (o_build rfl rfl rfl)<|.cons (o_store rfl rfl rfl rfl rfl rfl rfl)<|.cons (o_assign rfl)<|.nil _) ?_)
     obtain rfl:=Option.some.inj hM
     exact a_ret (a_post (.r2 (.cell rfl rfl (.row _ CRow.h (Nat.le_of_ble_eq_true rfl) rfl)) (.tmp rfl)) (DLe.tup (.cons (DLe.agg (.cons (DLe.nils _) (.cons (DLe.nils _) (.cons (DLe.refl _) (.cons (DLe.refl _) .nil))))) (.cons (DLe.refl _) .nil))) PostOk.nil.spec)
    ·replace hM:=(of_if hM).2 h9
     refine a_skip (a_seq ?_)
     obtain ⟨v11,h10,hM⟩ := of_bind hM
     refine ar (.cons (o_fieldAddr rfl)<|.cons (o_load_s rfl rfl rfl)<|.cons (o_fieldAddr rfl)<|.cons (o_load_s rfl rfl rfl)<|.cons (o_call (collect_without_c h10) rfl (DLeL.refl _) rfl)<|.cons (o_fieldAddr rfl)<|.cons (o_store_s rfl rfl rfl rfl rfl)<|.nil _) ?_
     refine a_seq (ar (.cons (o_load_r rfl rfl rfl rfl)<|.cons (o_store rfl rfl rfl rfl rfl rfl rfl)<|.cons (o_assign rfl)<|.nil _) ?_)
     obtain rfl:=Option.some.inj hM
     exact a_ret (a_post (.r2 (.cell rfl rfl (.row _ CRow.h (Nat.le_of_ble_eq_true rfl) rfl)) (.tmp rfl)) (DLe.refl _) PostOk.nil.spec)
def array_2_int.cs (x : Nat→Int) : List DV:=[.int .i64 (x 0),.int .i64 (x 1)]
def array_2_int.dv (x : Nat→Int) : DV:=.agg (array_2_int.cs x)
def CColl_Add_a (x1 : Int) (x2 : List Int) (o0 : CColl) : Option (Int × CColl) :=
 if ((decide (x1 < 0)) || (decide ((List.length o0.gparts : Int)≤x1))) = true then
  some (1,o0)
 else
  (recorder_Read x2).bind fun v3=>
  (CPartOf v3.1 x1).bind fun v5=>
  if (!v5.2) = true then
   some (14,o0)
  else
   (idx o0.gparts x1).bind fun v8=>
   (CPart_merge v8 v5.1).bind fun v10=>
   if (!v10.2) = true then
    some (14,o0)
   else
    (idx o0.gparts x1).bind fun v13=>
    some (0,(CColl.mk (List.set o0.gparts (Int.toNat x1) v10.1)))
theorem CColl_Add_a_c {x1 : Int} {x2 : List Int} {o0 : CColl} {r : Int × CColl} (hM : CColl_Add_a x1 x2 o0 = some r) : ACall Tryz.prog 41 ⟨[.ref 100000 0,.int .i64 x1,.sl 1 (List.map (DV.int .u8) x2)],[(100000,some (.blk 154 [.row 100001])),(100001,some (.row 157 4 (List.map CPart.dv o0.gparts)))],.int .i64 r.1,[(100000,some (.blk 154 [.row 50000])),(50000,some (.row 157 4 (List.map CPart.dv r.2.gparts))),(100001,none)],[50000]⟩ := by
 unfold CColl_Add_a at hM
 refine ACall.body Tryz.func41 Tryz.ntmps41 rfl rfl rfl rfl ?_
 refine a_seq (ar (.cons (o_assign rfl)<|.nil _) ?_)
 refine a_seq (a_seq (ar (.cons (o_move rfl)<|.cons (o_ptr_eq rfl)<|.cons (o_move rfl)<|.cons (o_guardOn .bF rfl rfl rfl (.keep .nil) (o_move rfl))<|.cons (o_guardOn .bF rfl rfl rfl (.strip rfl rfl .nil) (o_int rfl rfl rfl))<|.cons (o_or rfl rfl)<|.cons (o_move rfl)<|.cons (o_guardG .bF rfl rfl (fun hb=>(.keep .nil)) (fun hb=>o_move rfl))<|.cons (o_guardG .bF rfl rfl (fun hb=>(.keep .nil)) (fun hb=>o_move rfl))<|.cons (o_guardG .bF rfl rfl (fun hb=>(.strip rfl hb .nil)) (fun hb=>o_nilCheck rfl))<|.cons (o_guardG .bF rfl rfl (fun hb=>(.strip rfl hb .nil)) (fun hb=>o_fieldAddr rfl))<|.cons (o_guardG .bF rfl rfl (fun hb=>(.strip rfl hb .nil)) (fun hb=>o_load_s rfl rfl rfl))<|.cons (o_guardG .bF rfl rfl (fun hb=>(.strip rfl hb .nil)) (fun hb=>t_len_r rfl rfl))<|.cons (o_guardG .bF rfl rfl (fun hb=>(.strip rfl hb (.strip rfl hb .nil))) (fun hb=>o_int rfl rfl rfl))<|.cons (o_or rfl rfl)<|.nil _) ?_))
 refine a_cond _ rfl (fun h1=>?_) (fun h1=>?_)
 ·replace hM:=(of_if hM).1 h1
  refine a_seq (ar (.cons (o_assign rfl)<|.nil _) ?_)
  obtain rfl:=Option.some.inj hM
  refine a_imp (σ' := ⟨[(6,.int .i64 1)],[(50000,some (.row 157 4 (List.map CPart.dv o0.gparts))),(100000,some (.blk 154 [.row 50000]))],[50000,100000,100001]⟩) (Imp.sh (fun i=>bif Nat.beq i 50000 then 100001 else i) rfl rfl rfl rfl rfl rfl) ?_
  exact a_ret (a_post (.r1 (.tmp rfl)) (DLe.refl _) (PostOk.spec (.cons rfl (.cons rfl (.gone .nil)))))
 ·replace hM:=(of_if hM).2 h1
  refine a_skip (a_seq ?_)
  obtain ⟨v3,h2,hM⟩ := of_bind hM
  refine ar (.cons (o_move rfl)<|.cons (o_call (recorder_Read_c h2) rfl (DLeL.refl _) rfl)<|.cons (o_move rfl)<|.cons (o_extract rfl rfl)<|.cons (o_extract rfl rfl)<|.cons (o_assign rfl)<|.cons (o_assign rfl)<|.nil _) ?_
  refine a_seq ?_
  obtain ⟨v5,h4,hM⟩ := of_bind hM
  refine ar (.cons (o_move rfl)<|.cons (o_move rfl)<|.cons (o_call (CPartOf_c h4) rfl (DLeL.refl _) rfl)<|.cons (o_move rfl)<|.cons (o_extract rfl rfl)<|.cons (o_extract rfl rfl)<|.cons (o_alloc rfl)<|.cons (o_store rfl rfl rfl rfl rfl rfl rfl)<|.cons (o_assign rfl)<|.nil _) ?_
  refine a_seq (a_seq (ar (.cons (o_move rfl)<|.cons (o_not rfl)<|.nil _) ?_))
  refine a_cond _ rfl (fun h6=>?_) (fun h6=>?_)
  ·replace hM:=(of_if hM).1 h6
   refine a_seq (ar (.cons (o_assign rfl)<|.nil _) ?_)
   obtain rfl:=Option.some.inj hM
   refine a_imp (σ' := ⟨[(6,.int .i64 14)],[(50000,some (.row 157 4 (List.map CPart.dv o0.gparts))),(100000,some (.blk 154 [.row 50000]))],[50000,100000,100001]⟩) (Imp.sh (fun i=>bif Nat.beq i 50000 then 100001 else i) rfl rfl rfl rfl rfl rfl) ?_
   exact a_ret (a_post (.r1 (.tmp rfl)) (DLe.refl _) (PostOk.spec (.cons rfl (.cons rfl (.gone .nil)))))
  ·replace hM:=(of_if hM).2 h6
   refine a_skip (a_seq ?_)
   obtain ⟨v8,h7,hM⟩ := of_bind hM
   obtain ⟨v10,h9,hM⟩ := of_bind hM
   refine ad mixed (.cons (o_move rfl)<|.cons (o_nilCheck rfl)<|.cons (o_fieldAddr rfl)<|.cons (o_load_s rfl rfl rfl)<|.cons (o_move rfl)<|.cons (t_index_r h7 rfl rfl rfl)<|.cons (t_load_pr h7 rfl rfl rfl rfl rfl)<|.cons (o_load_r rfl rfl rfl rfl)<|.cons (o_call (CPart_merge_c h9) rfl (DLeL.refl _) rfl)<|.cons (o_move rfl)<|.cons (o_extract rfl rfl)<|.cons (o_extract rfl rfl)<|.cons (o_alloc rfl)<|.cons (o_store rfl rfl rfl rfl rfl rfl rfl)<|.cons (o_assign rfl)<|.nil _) ?_
   refine a_seq (a_seq (ar (.cons (o_move rfl)<|.cons (o_not rfl)<|.nil _) ?_))
   refine a_cond _ rfl (fun h11=>?_) (fun h11=>?_)
   ·replace hM:=(of_if hM).1 h11
    refine a_seq (ar (.cons (o_assign rfl)<|.nil _) ?_)
    obtain rfl:=Option.some.inj hM
    refine a_imp (σ' := ⟨[(6,.int .i64 14)],[(50000,some (.row 157 4 (List.map CPart.dv o0.gparts))),(100000,some (.blk 154 [.row 50000]))],[50000,100000,100001]⟩) (Imp.sh (fun i=>bif Nat.beq i 50000 then 100001 else i) rfl rfl rfl rfl rfl rfl) ?_
    exact a_ret (a_post (.r1 (.tmp rfl)) (DLe.refl _) (PostOk.spec (.cons rfl (.cons rfl (.gone .nil)))))
   ·replace hM:=(of_if hM).2 h11
    refine a_skip (a_seq ?_)
    obtain ⟨v13,h12,hM⟩ := of_bind hM
    refine ad mixed (.cons (o_move rfl)<|.cons (o_nilCheck rfl)<|.cons (o_fieldAddr rfl)<|.cons (o_load_s rfl rfl rfl)<|.cons (o_move rfl)<|.cons (o_load_r rfl rfl rfl rfl)<|.cons (t_index_r h12 rfl rfl rfl)<|.cons (t_store_p v10.1 h12 rfl rfl rfl rfl rfl rfl rfl rfl rfl rfl rfl)<|.nil _) ?_
    refine a_seq (ar (.cons (o_assign rfl)<|.nil _) ?_)
    obtain rfl:=Option.some.inj hM
    refine a_imp (σ' := ⟨[(6,.int .i64 0)],[(50000,some (.row 157 4 (List.map CPart.dv ((CColl.mk (List.set o0.gparts (Int.toNat x1) v10.1)).gparts)))),(100000,some (.blk 154 [.row 50000]))],[50000,100000,100001]⟩) (Imp.sh (fun i=>bif Nat.beq i 50000 then 100001 else i) rfl rfl rfl rfl rfl rfl) ?_
    exact a_ret (a_post (.r1 (.tmp rfl)) (DLe.refl _) (PostOk.spec (.cons rfl (.cons rfl (.gone .nil)))))
def CColl_Components_a (o0 : CColl) : Option Int :=
 some (if (IntKind.wrap .i64 ((List.length o0.gparts : Int) - 1)) > 0 then (IntKind.wrap .i64 ((List.length o0.gparts : Int) - 1)) else 0)
theorem CColl_Components_a_c {o0 : CColl} {r : Int} (hM : CColl_Components_a o0 = some r) : ACall Tryz.prog 75 ⟨[.ref 100000 0],[(100000,some (.blk 154 [.row 100001])),(100001,some (.row 157 4 (List.map CPart.dv o0.gparts)))],.int .i64 r,[(100000,some (.blk 154 [.row 100001])),(100001,some (.row 157 4 (List.map CPart.dv o0.gparts)))],[]⟩ := by
 unfold CColl_Components_a at hM
 refine ACall.body Tryz.func75 Tryz.ntmps75 rfl rfl rfl rfl ?_
 refine a_seq (ar (.cons (o_assign rfl)<|.nil _) ?_)
 refine a_seq (a_seq (ar (.cons (o_move rfl)<|.cons (o_ptr_eq rfl)<|.nil _) ?_))
 refine a_cond _ rfl (fun c=>by cases c) (fun _=>?_)
 refine a_skip (a_seq (ar (.cons (o_move rfl)<|.cons (o_nilCheck rfl)<|.cons (o_fieldAddr rfl)<|.cons (o_load_s rfl rfl rfl)<|.cons (t_len_r rfl rfl)<|.cons (o_int rfl rfl rfl)<|.cons (o_max rfl rfl)<|.cons (o_assign rfl)<|.nil _) ?_))
 obtain rfl:=Option.some.inj hM
 refine a_imp (σ' := ⟨[(2,.int .i64 (if (IntKind.wrap .i64 ((List.length o0.gparts : Int) - 1)) > 0 then (IntKind.wrap .i64 ((List.length o0.gparts : Int) - 1)) else 0))],[(100000,some (.blk 154 [.row 100001])),(100001,some (.row 157 4 (List.map CPart.dv o0.gparts)))],[100000,100001]⟩) (Imp.sh (fun i=>i) rfl rfl rfl rfl rfl rfl) ?_
 exact a_ret (a_post (.r1 (.tmp rfl)) (DLe.refl _) (PostOk.spec (.cons rfl (.cons rfl .nil))))
def CColl_part_a (x1 : Int) (o0 : CColl) : Option CPart :=
 if ((decide (x1 < 0)) || (decide ((List.length o0.gparts : Int)≤x1))) = true then
  some (CPart.mk [] [] false 0)
 else
  (idx o0.gparts x1).bind fun v3=>
  some v3
theorem CColl_part_a_c {x1 : Int} {o0 : CColl} {r : CPart} (hM : CColl_part_a x1 o0 = some r) : ACall Tryz.prog 104 ⟨[.ref 100000 0,.int .i64 x1],[(100000,some (.blk 154 [.row 100001])),(100001,some (.row 157 4 (List.map CPart.dv o0.gparts)))],.agg (CPart.cs r),[(100000,some (.blk 154 [.row 100001])),(100001,some (.row 157 4 (List.map CPart.dv o0.gparts)))],[]⟩ := by
 unfold CColl_part_a at hM
 refine ACall.body Tryz.func104 Tryz.ntmps104 rfl rfl rfl rfl ?_
 refine a_seq (ar (.cons (o_alloc rfl)<|.nil _) ?_)
 refine a_seq (a_seq (ar (.cons (o_move rfl)<|.cons (o_ptr_eq rfl)<|.cons (o_move rfl)<|.cons (o_guardOn .bF rfl rfl rfl (.keep .nil) (o_move rfl))<|.cons (o_guardOn .bF rfl rfl rfl (.strip rfl rfl .nil) (o_int rfl rfl rfl))<|.cons (o_or rfl rfl)<|.cons (o_move rfl)<|.cons (o_guardG .bF rfl rfl (fun hb=>(.keep .nil)) (fun hb=>o_move rfl))<|.cons (o_guardG .bF rfl rfl (fun hb=>(.keep .nil)) (fun hb=>o_move rfl))<|.cons (o_guardG .bF rfl rfl (fun hb=>(.strip rfl hb .nil)) (fun hb=>o_nilCheck rfl))<|.cons (o_guardG .bF rfl rfl (fun hb=>(.strip rfl hb .nil)) (fun hb=>o_fieldAddr rfl))<|.cons (o_guardG .bF rfl rfl (fun hb=>(.strip rfl hb .nil)) (fun hb=>o_load_s rfl rfl rfl))<|.cons (o_guardG .bF rfl rfl (fun hb=>(.strip rfl hb .nil)) (fun hb=>t_len_r rfl rfl))<|.cons (o_guardG .bF rfl rfl (fun hb=>(.strip rfl hb (.strip rfl hb .nil))) (fun hb=>o_int rfl rfl rfl))<|.cons (o_or rfl rfl)<|.nil _) ?_))
 refine a_cond _ rfl (fun h1=>?_) (fun h1=>?_)
 ·replace hM:=(of_if hM).1 h1
  refine a_seq (ar (.cons (o_build rfl rfl rfl)<|.cons (o_store rfl rfl rfl rfl rfl rfl rfl)<|.nil _) ?_)
  obtain rfl:=Option.some.inj hM
  refine a_imp (σ' := ⟨[(4,.ref 4 0)],[(4,some (.blk 157 [.nils,.nils,.bool false,.int .u64 0])),(100000,some (.blk 154 [.row 100001])),(100001,some (.row 157 4 (List.map CPart.dv o0.gparts)))],[4,100000,100001]⟩) (Imp.sh (fun i=>i) rfl rfl rfl rfl rfl rfl) ?_
  exact a_ret (a_post (.r1 (.cell rfl rfl (.row _ CRow.h (Nat.le_of_ble_eq_true rfl) rfl))) (DLe.agg (.cons (DLe.nils _) (.cons (DLe.nils _) (.cons (DLe.refl _) (.cons (DLe.refl _) .nil))))) (PostOk.spec (.cons rfl (.cons rfl .nil))))
 ·replace hM:=(of_if hM).2 h1
  refine a_skip (a_seq ?_)
  obtain ⟨v3,h2,hM⟩ := of_bind hM
  refine ar (.cons (o_move rfl)<|.cons (o_nilCheck rfl)<|.cons (o_fieldAddr rfl)<|.cons (o_load_s rfl rfl rfl)<|.cons (o_move rfl)<|.cons (t_index_r h2 rfl rfl rfl)<|.cons (t_load_pr h2 rfl rfl rfl rfl rfl)<|.cons (o_store rfl rfl rfl rfl rfl rfl rfl)<|.nil _) ?_
  obtain rfl:=Option.some.inj hM
  refine a_imp (σ' := ⟨[(4,.ref 4 0)],[(4,some (.blk 157 (CPart.cs v3))),(100000,some (.blk 154 [.row 100001])),(100001,some (.row 157 4 (List.map CPart.dv o0.gparts)))],[4,100000,100001]⟩) (Imp.sh (fun i=>i) rfl rfl rfl rfl rfl rfl) ?_
  exact a_ret (a_post (.r1 (.cell rfl rfl (.row _ CRow.h (Nat.le_of_ble_eq_true rfl) rfl))) (DLe.refl _) (PostOk.spec (.cons rfl (.cons rfl .nil))))
def CColl_Records_a (x1 : Int) (o0 : CColl) : Option (List RRec) :=
 (CColl_part_a x1 o0).bind fun v2=>
 (collect_cloneAll v2.gentries).bind fun v4=>
 some v4
theorem CColl_Records_a_c {x1 : Int} {o0 : CColl} {r : (List RRec)} (hM : CColl_Records_a x1 o0 = some r) : ACall Tryz.prog 76 ⟨[.ref 100000 0,.int .i64 x1],[(100000,some (.blk 154 [.row 100001])),(100001,some (.row 157 4 (List.map CPart.dv o0.gparts)))],.sl 29 (List.map RRec.dv r),[(100000,some (.blk 154 [.row 100001])),(100001,some (.row 157 4 (List.map CPart.dv o0.gparts)))],[]⟩ := by
 unfold CColl_Records_a at hM
 refine ACall.body Tryz.func76 Tryz.ntmps76 rfl rfl rfl rfl ?_
 refine a_seq (ar (.cons (o_assign rfl)<|.nil _) ?_)
 refine a_seq ?_
 obtain ⟨v2,h1,hM⟩ := of_bind hM
 obtain ⟨v4,h3,hM⟩ := of_bind hM
 refine ar (.cons (o_move rfl)<|.cons (o_move rfl)<|.cons (o_callN (fun i=>bif Nat.beq i 100000 then 100000 else bif Nat.beq i 100001 then 100001 else i) 0 (CColl_part_a_c h1) rfl (DLeL.refl _) (.cons rfl (.cons rfl .nil)) rfl (.cons rfl (.cons rfl .nil)))<|.cons (o_field_s rfl rfl)<|.cons (o_call (collect_cloneAll_c h3) rfl (DLeL.refl _) rfl)<|.cons (o_assign rfl)<|.nil _) ?_
 obtain rfl:=Option.some.inj hM
 refine a_imp (σ' := ⟨[(4,.sl 29 (List.map RRec.dv v4))],[(100000,some (.blk 154 [.row 100001])),(100001,some (.row 157 4 (List.map CPart.dv o0.gparts)))],[100000,100001]⟩) (Imp.sh (fun i=>i) rfl rfl rfl rfl rfl rfl) ?_
 exact a_ret (a_post (.r1 (.tmp rfl)) (DLe.refl _) (PostOk.spec (.cons rfl (.cons rfl .nil))))
def CColl_Missing_a (x1 : Int) (o0 : CColl) : Option (List (Nat→Int)) :=
 (CColl_part_a x1 o0).bind fun v2=>
 (CPart_missing v2).bind fun v4=>
 (collect_pairs v4).bind fun v6=>
 some v6
theorem CColl_Missing_a_c {x1 : Int} {o0 : CColl} {r : (List (Nat→Int))} (hM : CColl_Missing_a x1 o0 = some r) : ACall Tryz.prog 77 ⟨[.ref 100000 0,.int .i64 x1],[(100000,some (.blk 154 [.row 100001])),(100001,some (.row 157 4 (List.map CPart.dv o0.gparts)))],.sl 2 (List.map array_2_uint64.dv r),[(100000,some (.blk 154 [.row 100001])),(100001,some (.row 157 4 (List.map CPart.dv o0.gparts)))],[]⟩ := by
 unfold CColl_Missing_a at hM
 refine ACall.body Tryz.func77 Tryz.ntmps77 rfl rfl rfl rfl ?_
 refine a_seq (ar (.cons (o_assign rfl)<|.nil _) ?_)
 refine a_seq ?_
 obtain ⟨v2,h1,hM⟩ := of_bind hM
 obtain ⟨v4,h3,hM⟩ := of_bind hM
 obtain ⟨v6,h5,hM⟩ := of_bind hM
 refine ar (.cons (o_move rfl)<|.cons (o_move rfl)<|.cons (o_callN (fun i=>bif Nat.beq i 100000 then 100000 else bif Nat.beq i 100001 then 100001 else i) 0 (CColl_part_a_c h1) rfl (DLeL.refl _) (.cons rfl (.cons rfl .nil)) rfl (.cons rfl (.cons rfl .nil)))<|.cons (o_call (CPart_missing_c h3) rfl (DLeL.refl _) rfl)<|.cons (o_call (collect_pairs_c h5) rfl (DLeL.refl _) rfl)<|.cons (o_assign rfl)<|.nil _) ?_
 obtain rfl:=Option.some.inj hM
 refine a_imp (σ' := ⟨[(4,.sl 2 (List.map array_2_uint64.dv v6))],[(100000,some (.blk 154 [.row 100001])),(100001,some (.row 157 4 (List.map CPart.dv o0.gparts)))],[100000,100001]⟩) (Imp.sh (fun i=>i) rfl rfl rfl rfl rfl rfl) ?_
 exact a_ret (a_post (.r1 (.tmp rfl)) (DLe.refl _) (PostOk.spec (.cons rfl (.cons rfl .nil))))
def gap_between_1_a (x0 : Int) (o0 : List RRec) (o1 : gap_Gap) : Option Bool :=
 (idx o0 x0).bind fun v2=>
 some (decide (o1.gFirst≤v2.gSeq))
theorem gap_between_1_a_c {x0 : Int} {o0 : List RRec} {o1 : gap_Gap} {r : Bool} (hM : gap_between_1_a x0 o0 o1 = some r) : ACall Tryz.prog 108 ⟨[.int .i64 x0,.ref 100000 0,.ref 100001 0],[(100000,some (.blk 25 [.sl 29 (List.map RRec.dv o0)])),(100001,some (.blk 57 (gap_Gap.cs o1)))],.bool r,[(100000,some (.blk 25 [.sl 29 (List.map RRec.dv o0)])),(100001,some (.blk 57 (gap_Gap.cs o1)))],[]⟩ := by
 unfold gap_between_1_a at hM
 refine ACall.body Tryz.func108 Tryz.ntmps108 rfl rfl rfl rfl ?_
 refine a_seq (ar (.cons (o_assign rfl)<|.nil _) ?_)
 refine a_seq ?_
 obtain ⟨v2,h1,hM⟩ := of_bind hM
 refine ad mixed (.cons (o_load_s rfl rfl rfl)<|.cons (o_move rfl)<|.cons (t_index h1 rfl rfl rfl)<|.cons (o_fieldAddr_e rfl rfl)<|.cons (o_load_es rfl rfl)<|.cons (o_fieldAddr rfl)<|.cons (o_load_s rfl rfl rfl)<|.cons (o_int rfl rfl rfl)<|.cons (o_assign rfl)<|.nil _) ?_
 obtain rfl:=Option.some.inj hM
 refine a_imp (σ' := ⟨[(4,.bool (decide (o1.gFirst≤v2.gSeq)))],[(100000,some (.blk 25 [.sl 29 (List.map RRec.dv o0)])),(100001,some (.blk 57 (gap_Gap.cs o1)))],[100000,100001]⟩) (Imp.sh (fun i=>i) rfl rfl rfl rfl rfl rfl) ?_
 exact a_ret (a_post (.r1 (.tmp rfl)) (DLe.refl _) (PostOk.spec (.cons rfl (.cons rfl .nil))))
def sort_Search_a_K1 (a1 : Int) : Option Int :=
 some a1
def sort_Search_a_L2 (o0 : List RRec) (o1 : gap_Gap) (a2 : Int) (a3 : Int) : Option (Ctl (Int × Int) Int) :=
 if (decide (a2 < a3)) = true then
  (gap_between_1_a (IntKind.wrap .i64 (Int.fdiv (IntKind.wrap .u64 (IntKind.wrap .i64 (a2 + a3))) (2 ^ min (Int.toNat 1) (IntKind.bits .u64)))) o0 o1).bind fun v8=>
  if (!v8) = true then
   some (.next ((IntKind.wrap .i64 ((IntKind.wrap .i64 (Int.fdiv (IntKind.wrap .u64 (IntKind.wrap .i64 (a2 + a3))) (2 ^ min (Int.toNat 1) (IntKind.bits .u64)))) + 1)),a3))
  else
   some (.next (a2,(IntKind.wrap .i64 (Int.fdiv (IntKind.wrap .u64 (IntKind.wrap .i64 (a2 + a3))) (2 ^ min (Int.toNat 1) (IntKind.bits .u64))))))
 else
  some (.done a2)
def sort_Search_a (x0 : Int) (o0 : List RRec) (o1 : gap_Gap) : Option Int :=
 (whileM (E:=Int) (fun s=>sort_Search_a_L2 o0 o1 s.1 s.2) (0,x0)).bind fun e=>sort_Search_a_K1 e
theorem sort_Search_a_c {x0 : Int} {o0 : List RRec} {o1 : gap_Gap} {r : Int} (hM : sort_Search_a x0 o0 o1 = some r) : ACall Tryz.prog 107 ⟨[.int .i64 x0,.clo 108 [.ref 100000 0,.ref 100001 0]],[(100000,some (.blk 25 [.sl 29 (List.map RRec.dv o0)])),(100001,some (.blk 57 (gap_Gap.cs o1)))],.int .i64 r,[(100000,some (.blk 25 [.sl 29 (List.map RRec.dv o0)])),(100001,some (.blk 57 (gap_Gap.cs o1)))],[]⟩ := by
 unfold sort_Search_a at hM
 refine ACall.body Tryz.func107 Tryz.ntmps107 rfl rfl rfl rfl ?_
 refine a_seq (ar (.cons (o_assign rfl)<|.nil _) ?_)
 refine a_seq (ar (.cons (o_move rfl)<|.cons (o_assign rfl)<|.cons (o_assign rfl)<|.nil _) ?_)
 refine a_cut (α:=Int) (fun s=>⟨[(5,.int .i64 s)],[(100000,some (.blk 25 [.sl 29 (List.map RRec.dv o0)])),(100001,some (.blk 57 (gap_Gap.cs o1)))],[100000,100001]⟩) (fun s=>sort_Search_a_K1 s = some r) ?_ ?_
 ·obtain ⟨e4,hL4,hK4⟩ := of_bind hM
  refine a_block (a_while (fun s : Int × Int=>⟨[(1,.clo 108 [.ref 100000 0,.ref 100001 0]),(5,.int .i64 s.1),(6,.int .i64 s.2)],[(100000,some (.blk 25 [.sl 29 (List.map RRec.dv o0)])),(100001,some (.blk 57 (gap_Gap.cs o1)))],[100000,100001]⟩) _ hL4 (Imp.sh (fun i=>i) rfl rfl rfl rfl rfl rfl) ?_)
  rintro ⟨a2,a3⟩ t5 hM hE4
  replace hM : sort_Search_a_L2 o0 o1 a2 a3 = some t5:=hM
  unfold sort_Search_a_L2 at hM
  refine a_seq (a_seq (ar (.cons (o_move rfl)<|.cons (o_move rfl)<|.cons (o_int rfl rfl rfl)<|.nil _) ?_))
  refine a_cond _ rfl (fun h6=>?_) (fun h6=>?_)
  ·replace hM:=(of_if hM).1 h6
   refine a_skip (a_block (a_seq (ar (.cons (o_move rfl)<|.cons (o_move rfl)<|.cons (o_int rfl rfl rfl)<|.cons (o_conv_w rfl)<|.cons (o_shr rfl rfl (by decide))<|.cons (o_conv_w rfl)<|.cons (o_assign rfl)<|.nil _) ?_)))
   refine a_seq ?_
   obtain ⟨v8,h7,hM⟩ := of_bind hM
   refine ar (.cons (o_move rfl)<|.cons (o_move rfl)<|.cons (o_callV (fun i=>bif Nat.beq i 100000 then 100000 else bif Nat.beq i 100001 then 100001 else i) 0 (gap_between_1_a_c h7) rfl rfl (DLeL.refl _) (.cons rfl (.cons rfl .nil)) rfl (.cons rfl (.cons rfl .nil)))<|.cons (o_not rfl)<|.nil _) ?_
   refine a_cond _ rfl (fun h9=>?_) (fun h9=>?_)
   ·replace hM:=(of_if hM).1 h9
    refine ar (.cons (o_move rfl)<|.cons (o_int rfl rfl rfl)<|.cons (o_assign rfl)<|.nil _) ?_
    obtain rfl:=Option.some.inj hM
    exact ⟨((IntKind.wrap .i64 ((IntKind.wrap .i64 (Int.fdiv (IntKind.wrap .u64 (IntKind.wrap .i64 (a2 + a3))) (2 ^ min (Int.toNat 1) (IntKind.bits .u64)))) + 1)),a3),rfl,(Imp.sh (fun i=>i) rfl rfl rfl rfl rfl rfl)⟩
   ·replace hM:=(of_if hM).2 h9
    refine ar (.cons (o_move rfl)<|.cons (o_assign rfl)<|.nil _) ?_
    obtain rfl:=Option.some.inj hM
    exact ⟨(a2,(IntKind.wrap .i64 (Int.fdiv (IntKind.wrap .u64 (IntKind.wrap .i64 (a2 + a3))) (2 ^ min (Int.toNat 1) (IntKind.bits .u64))))),rfl,(Imp.sh (fun i=>i) rfl rfl rfl rfl rfl rfl)⟩
  ·replace hM:=(of_if hM).2 h6
   refine a_exit ?_
   obtain rfl:=Option.some.inj hM
   obtain rfl:=hE4 _ rfl
   exact ⟨a2,hK4,(Imp.sh (fun i=>i) rfl rfl rfl rfl rfl rfl)⟩
 ·rintro a1 hM
  replace hM : sort_Search_a_K1 a1 = some r:=hM
  unfold sort_Search_a_K1 at hM
  refine a_seq (ar (.cons (o_move rfl)<|.cons (o_assign rfl)<|.nil _) ?_)
  obtain rfl:=Option.some.inj hM
  refine a_imp (σ' := ⟨[(4,.int .i64 a1)],[(100000,some (.blk 25 [.sl 29 (List.map RRec.dv o0)])),(100001,some (.blk 57 (gap_Gap.cs o1)))],[100000,100001]⟩) (Imp.sh (fun i=>i) rfl rfl rfl rfl rfl rfl) ?_
  exact a_ret (a_post (.r1 (.tmp rfl)) (DLe.refl _) (PostOk.spec (.cons rfl (.cons rfl .nil))))
def gap_between_K2 (x1 : gap_Gap) (a3 : Int) (a4 : Int) : Option gap_Gap :=
 some (gap_Gap.mk x1.gComponent x1.gFirst x1.gCount x1.gOpen a3 a4)
def gap_between_K1 (x0 : List RRec) (x1 : gap_Gap) (x2 : Int) (v2 : Int) (a3 : Int) : Option gap_Gap :=
 if (decide (v2 < (List.length x0 : Int))) = true then
  (idx x0 v2).bind fun v7=>
  gap_between_K2 x1 a3 v7.gEvent.gTick
 else
  gap_between_K2 x1 a3 x2
def gap_between (x0 : List RRec) (x1 : gap_Gap) (x2 : Int) : Option gap_Gap :=
 (sort_Search_a (List.length x0 : Int) x0 (gap_Gap.mk x1.gComponent x1.gFirst x1.gCount x1.gOpen 0 x2)).bind fun v2=>
 if (decide (0 < v2)) = true then
  (idx x0 (IntKind.wrap .i64 (v2 - 1))).bind fun v10=>
  gap_between_K1 x0 x1 x2 v2 v10.gEvent.gTick
 else
  gap_between_K1 x0 x1 x2 v2 0
theorem gap_between_c {x0 : List RRec} {x1 : gap_Gap} {x2 : Int} {r : gap_Gap} (hM : gap_between x0 x1 x2 = some r) : PCall Tryz.prog 78 [.sl 29 (List.map RRec.dv x0),.agg (gap_Gap.cs x1),.int .i64 x2] (.agg (gap_Gap.cs r)):=by
 unfold gap_between at hM
 refine PCall.body Tryz.func78 Tryz.ntmps78 rfl rfl rfl rfl ?_
 refine a_seq (ar (.cons (o_box rfl rfl)<|.cons (o_box rfl rfl)<|.cons (o_alloc rfl)<|.nil _) ?_)
 refine a_seq (ar (.cons (o_move rfl)<|.cons (o_fieldAddr rfl)<|.cons (o_store_s rfl rfl rfl rfl rfl)<|.cons (o_fieldAddr rfl)<|.cons (o_store_s rfl rfl rfl rfl rfl)<|.nil _) ?_)
 refine a_seq ?_
 obtain ⟨v2,h1,hM⟩ := of_bind hM
 refine ar (.cons (o_load_s rfl rfl rfl)<|.cons (t_len rfl)<|.cons (o_makeFunc rfl)<|.cons (o_callN (fun i=>bif Nat.beq i 100000 then 3 else bif Nat.beq i 100001 then 4 else i) 0 (sort_Search_a_c h1) rfl (DLeL.refl _) (.cons rfl (.cons rfl .nil)) rfl (.cons rfl (.cons rfl .nil)))<|.cons (o_assign rfl)<|.nil _) ?_
 refine a_cut (α:=Int) (fun s=>⟨[(3,.ref 3 0),(4,.ref 4 0),(6,.ref 6 0),(7,.int .i64 v2)],[(3,some (.blk 25 [.sl 29 (List.map RRec.dv x0)])),(4,some (.blk 57 [.int .i64 x1.gComponent,.int .u64 x1.gFirst,.int .u64 x1.gCount,.bool x1.gOpen,.int .i64 s,.int .i64 x2])),(6,some (.blk 57 [.int .i64 0,.int .u64 0,.int .u64 0,.bool false,.int .i64 0,.int .i64 0]))],[3,4,6]⟩) (fun s=>gap_between_K1 x0 x1 x2 v2 s = some r) ?_ ?_
 ·refine a_seq (ar (.cons (o_move rfl)<|.cons (o_int rfl rfl rfl)<|.nil _) ?_)
  refine a_cond _ rfl (fun h8=>?_) (fun h8=>?_)
  ·replace hM:=(of_if hM).1 h8
   obtain ⟨v10,h9,hM⟩ := of_bind hM
   refine ar (.cons (o_load_s rfl rfl rfl)<|.cons (o_move rfl)<|.cons (o_int rfl rfl rfl)<|.cons (t_index h9 rfl rfl rfl)<|.cons (o_fieldAddr_e rfl rfl)<|.cons (o_fieldAddr_e rfl rfl)<|.cons (o_load_es rfl rfl)<|.cons (o_fieldAddr rfl)<|.cons (o_store_s rfl rfl rfl rfl rfl)<|.nil _) ?_
   exact ⟨v10.gEvent.gTick,hM,(Imp.sh (fun i=>i) rfl rfl rfl rfl rfl rfl)⟩
  ·replace hM:=(of_if hM).2 h8
   refine a_skip ?_
   exact ⟨0,hM,(Imp.sh (fun i=>i) rfl rfl rfl rfl rfl rfl)⟩
 ·rintro a3 hM
  replace hM : gap_between_K1 x0 x1 x2 v2 a3 = some r:=hM
  unfold gap_between_K1 at hM
  refine a_cut (α:=Int) (fun s=>⟨[(4,.ref 4 0),(6,.ref 6 0)],[(4,some (.blk 57 [.int .i64 x1.gComponent,.int .u64 x1.gFirst,.int .u64 x1.gCount,.bool x1.gOpen,.int .i64 a3,.int .i64 s])),(6,some (.blk 57 [.int .i64 0,.int .u64 0,.int .u64 0,.bool false,.int .i64 0,.int .i64 0]))],[4,6]⟩) (fun s=>gap_between_K2 x1 a3 s = some r) ?_ ?_
  ·refine a_seq (ar (.cons (o_move rfl)<|.cons (o_load_s rfl rfl rfl)<|.cons (t_len rfl)<|.cons (o_int rfl rfl rfl)<|.nil _) ?_)
   refine a_cond _ rfl (fun h5=>?_) (fun h5=>?_)
   ·replace hM:=(of_if hM).1 h5
    obtain ⟨v7,h6,hM⟩ := of_bind hM
    refine ar (.cons (o_load_s rfl rfl rfl)<|.cons (o_move rfl)<|.cons (t_index h6 rfl rfl rfl)<|.cons (o_fieldAddr_e rfl rfl)<|.cons (o_fieldAddr_e rfl rfl)<|.cons (o_load_es rfl rfl)<|.cons (o_fieldAddr rfl)<|.cons (o_store_s rfl rfl rfl rfl rfl)<|.nil _) ?_
    exact ⟨v7.gEvent.gTick,hM,(Imp.sh (fun i=>i) rfl rfl rfl rfl rfl rfl)⟩
   ·replace hM:=(of_if hM).2 h5
    refine a_skip ?_
    exact ⟨x2,hM,(Imp.sh (fun i=>i) rfl rfl rfl rfl rfl rfl)⟩
  ·rintro a4 hM
   replace hM : gap_between_K2 x1 a3 a4 = some r:=hM
   unfold gap_between_K2 at hM
   refine a_seq (ar (.cons (o_load_r rfl rfl rfl rfl)<|.cons (o_store rfl rfl rfl rfl rfl rfl rfl)<|.nil _) ?_)
   obtain rfl:=Option.some.inj hM
   exact a_ret (a_post (.r1 (.cell rfl rfl (.row _ CRow.h (Nat.le_of_ble_eq_true rfl) rfl))) (DLe.refl _) PostOk.nil.spec)
def CColl_Total_a (x1 : Int) (o0 : CColl) : Option (Int × Bool) :=
 (CColl_part_a x1 o0).bind fun v2=>
 some (v2.gtotal,v2.gknown)
theorem CColl_Total_a_c {x1 : Int} {o0 : CColl} {r : Int × Bool} (hM : CColl_Total_a x1 o0 = some r) : ACall Tryz.prog 79 ⟨[.ref 100000 0,.int .i64 x1],[(100000,some (.blk 154 [.row 100001])),(100001,some (.row 157 4 (List.map CPart.dv o0.gparts)))],.tup [.int .u64 r.1,.bool r.2],[(100000,some (.blk 154 [.row 100001])),(100001,some (.row 157 4 (List.map CPart.dv o0.gparts)))],[]⟩ := by
 unfold CColl_Total_a at hM
 refine ACall.body Tryz.func79 Tryz.ntmps79 rfl rfl rfl rfl ?_
 refine a_seq (ar (.cons (o_assign rfl)<|.cons (o_assign rfl)<|.nil _) ?_)
 refine a_seq ?_
 obtain ⟨v2,h1,hM⟩ := of_bind hM
 refine ar (.cons (o_move rfl)<|.cons (o_move rfl)<|.cons (o_callN (fun i=>bif Nat.beq i 100000 then 100000 else bif Nat.beq i 100001 then 100001 else i) 0 (CColl_part_a_c h1) rfl (DLeL.refl _) (.cons rfl (.cons rfl .nil)) rfl (.cons rfl (.cons rfl .nil)))<|.cons (o_alloc rfl)<|.cons (o_store rfl rfl rfl rfl rfl rfl rfl)<|.nil _) ?_
 refine a_seq (ad mixed (.cons (o_fieldAddr rfl)<|.cons (o_load_s rfl rfl rfl)<|.cons (o_fieldAddr rfl)<|.cons (o_load_s rfl rfl rfl)<|.cons (o_assign rfl)<|.cons (o_assign rfl)<|.nil _) ?_)
 obtain rfl:=Option.some.inj hM
 refine a_imp (σ' := ⟨[(4,.int .u64 v2.gtotal),(5,.bool v2.gknown)],[(100000,some (.blk 154 [.row 100001])),(100001,some (.row 157 4 (List.map CPart.dv o0.gparts)))],[100000,100001]⟩) (Imp.sh (fun i=>i) rfl rfl rfl rfl rfl rfl) ?_
 exact a_ret (a_post (.r2 (.tmp rfl) (.tmp rfl)) (DLe.refl _) (PostOk.spec (.cons rfl (.cons rfl .nil))))
def gap_Of_v1_K1 (a2 : List gap_Gap) : Option (List gap_Gap) :=
 some a2
def gap_Of_v1_K3 (a10 : List gap_Gap) : Option (List gap_Gap) :=
 some a10
def gap_Of_v1_K5 (x1 : Int) (o0 : CColl) (k5 : Nat) (v12 : (List RRec)) (a14 : List gap_Gap) (a15 : Int) : Option (List gap_Gap) :=
 (CColl_Total_a (k5 : Int) o0).bind fun v17=>
 if (!v17.2) = true then
  (gap_between v12 (gap_Gap.mk (k5 : Int) a15 0 true 0 0) x1).bind fun v20=>
  chk (apOk 48 (List.length a14 + List.length [v20]))<|
  gap_Of_v1_K3 (a14++[v20])
 else
  gap_Of_v1_K3 a14
def gap_Of_v1_L6 (x1 : Int) (k5 : Nat) (v12 : (List RRec)) (v23 : (List (Nat→Int))) (k24 : Nat) (a25 : List gap_Gap) (a26 : Int) : Option ((List gap_Gap) × Int) :=
 (idx v23 (k24 : Int)).bind fun v31=>
 (gap_between v12 (gap_Gap.mk (k5 : Int) (v31 0) (v31 1) false 0 0) x1).bind fun v33=>
 chk (apOk 48 (List.length a25 + List.length [v33]))<|
 some ((a25++[v33]),(if (IntKind.wrap .u64 ((v31 0) + (v31 1))) > a26 then (IntKind.wrap .u64 ((v31 0) + (v31 1))) else a26))
def gap_Of_v1_K4 (x1 : Int) (o0 : CColl) (k5 : Nat) (a6 : List gap_Gap) (v12 : (List RRec)) (a13 : Int) : Option (List gap_Gap) :=
 (CColl_Missing_a (k5 : Int) o0).bind fun v23=>
 (foldM' 9223372036854775807 (List.length v23 : Int) (fun k24 s=>gap_Of_v1_L6 x1 k5 v12 v23 k24 s.1 s.2) (a6,a13)).bind fun s=>gap_Of_v1_K5 x1 o0 k5 v12 s.1 s.2
def gap_Of_v1_L2 (x1 : Int) (o0 : CColl) (k5 : Nat) (a6 : List gap_Gap) : Option (List gap_Gap) :=
 (CColl_Records_a (k5 : Int) o0).bind fun v12=>
 if (decide (0 < (List.length v12 : Int))) = true then
  (idx v12 (IntKind.wrap .i64 ((List.length v12 : Int) - 1))).bind fun v37=>
  gap_Of_v1_K4 x1 o0 k5 a6 v12 (IntKind.wrap .u64 (v37.gSeq + 1))
 else
  gap_Of_v1_K4 x1 o0 k5 a6 v12 0
def gap_Of_v1 (x1 : Int) (o0 : CColl) : Option (List gap_Gap) :=
 (CColl_Components_a o0).bind fun v4=>
 (foldM' 9223372036854775807 (IntKind.wrap .i64 (v4 + 1)) (fun k5 s=>gap_Of_v1_L2 x1 o0 k5 s) ([] : List gap_Gap)).bind fun s=>gap_Of_v1_K1 s
theorem gap_Of_v1_c {x1 : Int} {o0 : CColl} {r : (List gap_Gap)} (hM : gap_Of_v1 x1 o0 = some r) : ACall Tryz.prog 42 ⟨[.ref 100000 0,.int .i64 x1],[(100000,some (.blk 154 [.row 100001])),(100001,some (.row 157 4 (List.map CPart.dv o0.gparts)))],.sl 6 (List.map gap_Gap.dv r),[(100000,some (.blk 154 [.row 100001])),(100001,some (.row 157 4 (List.map CPart.dv o0.gparts)))],[]⟩ := by
 unfold gap_Of_v1 at hM
 refine ACall.body Tryz.func42 Tryz.ntmps42 rfl rfl rfl rfl ?_
 refine a_seq (ar (.cons (o_assign rfl)<|.nil _) ?_)
 refine a_seq (a_seq (ar (.cons (o_move rfl)<|.cons (o_ptr_eq rfl)<|.nil _) ?_))
 refine a_cond _ rfl (fun c=>by cases c) (fun _=>?_)
 refine a_skip (a_seq (ar (.cons (o_assign rfl)<|.nil _) ?_))
 refine a_cut (α:=(List gap_Gap)) (fun s=>⟨[(5,.sl 6 (List.map gap_Gap.dv s))],[(100000,some (.blk 154 [.row 100001])),(100001,some (.row 157 4 (List.map CPart.dv o0.gparts)))],[100000,100001]⟩) (fun s=>gap_Of_v1_K1 s = some r) ?_ ?_
 ·refine a_seq ?_
  obtain ⟨v4,h3,hM⟩ := of_bind hM
  refine ar (.cons (o_move rfl)<|.cons (o_callN (fun i=>bif Nat.beq i 100000 then 100000 else bif Nat.beq i 100001 then 100001 else i) 0 (CColl_Components_a_c h3) rfl (DLeL.refl _) (.cons rfl (.cons rfl .nil)) rfl (.cons rfl (.cons rfl .nil)))<|.cons (o_int rfl rfl rfl)<|.cons (o_move rfl)<|.nil _) ?_
  obtain ⟨a6,hL7,hK7⟩ := of_bind hM
  refine a_block ?_
  refine a_fold (fun k5 (s : (List gap_Gap))=>⟨[(0,.ref 100000 0),(1,.int .i64 x1),(5,.row 10001),(18,.int .i64 (IntKind.wrap .i64 (v4 + 1))),(19,.int .i64 (k5 : Int))],[(10001,some (.row 57 6 (List.map gap_Gap.dv s))),(100000,some (.blk 154 [.row 100001])),(100001,some (.row 157 4 (List.map CPart.dv o0.gparts)))],[10001,100000,100001]⟩) _ hL7 ((Imp.nilRow (t:=5) (id:=10006) 57 6 rfl rfl).trans (Imp.sh (fun i=>bif Nat.beq i 10001 then 10006 else i) rfl rfl rfl rfl rfl rfl)) ?_ ?_
  ·rintro k5 a6 t8 hk5 hx5 hM
   replace hM : gap_Of_v1_L2 x1 o0 k5 a6 = some t8:=hM
   unfold gap_Of_v1_L2 at hM
   refine a_seq (ar (.cons (o_int rfl rfl rfl)<|.nil _) ?_)
   refine a_seq ?_
   refine a_cond _ rfl (fun _=>?_) (fun c=>absurd hk5 (of_decide_eq_false c))
   refine a_skip ?_
   refine a_cut (α:=(List gap_Gap)) (fun s=>⟨[(0,.ref 100000 0),(1,.int .i64 x1),(5,.row 10002),(18,.int .i64 (IntKind.wrap .i64 (v4 + 1))),(19,.int .i64 (k5 : Int))],[(10002,some (.row 57 6 (List.map gap_Gap.dv s))),(100000,some (.blk 154 [.row 100001])),(100001,some (.row 157 4 (List.map CPart.dv o0.gparts)))],[10002,100000,100001]⟩) (fun s=>gap_Of_v1_K3 s = some t8) ?_ ?_
   ·refine a_block (a_seq (ar (.cons (o_move rfl)<|.cons (o_assign rfl)<|.nil _) ?_))
    refine a_seq ?_
    obtain ⟨v12,h11,hM⟩ := of_bind hM
    refine ar (.cons (o_move rfl)<|.cons (o_move rfl)<|.cons (o_callN (fun i=>bif Nat.beq i 100000 then 100000 else bif Nat.beq i 100001 then 100001 else i) 0 (CColl_Records_a_c h11) rfl (DLeL.refl _) (.cons rfl (.cons rfl .nil)) rfl (.cons rfl (.cons rfl .nil)))<|.cons (o_assign rfl)<|.nil _) ?_
    refine a_seq (ar (.cons (o_assign rfl)<|.nil _) ?_)
    refine a_cut (α:=Int) (fun s=>⟨[(0,.ref 100000 0),(1,.int .i64 x1),(5,.row 10003),(6,.int .i64 (k5 : Int)),(7,.sl 29 (List.map RRec.dv v12)),(8,.int .u64 s),(18,.int .i64 (IntKind.wrap .i64 (v4 + 1))),(19,.int .i64 (k5 : Int))],[(10003,some (.row 57 6 (List.map gap_Gap.dv a6))),(100000,some (.blk 154 [.row 100001])),(100001,some (.row 157 4 (List.map CPart.dv o0.gparts)))],[10003,100000,100001]⟩) (fun s=>gap_Of_v1_K4 x1 o0 k5 a6 v12 s = some t8) ?_ ?_
    ·refine a_seq (ar (.cons (o_move rfl)<|.cons (t_len rfl)<|.cons (o_assign rfl)<|.nil _) ?_)
     refine a_seq (ar (.cons (o_move rfl)<|.cons (o_int rfl rfl rfl)<|.nil _) ?_)
     refine a_cond _ rfl (fun h35=>?_) (fun h35=>?_)
     ·replace hM:=(of_if hM).1 h35
      obtain ⟨v37,h36,hM⟩ := of_bind hM
      refine ar (.cons (o_move rfl)<|.cons (o_move rfl)<|.cons (o_int rfl rfl rfl)<|.cons (t_index h36 rfl rfl rfl)<|.cons (o_fieldAddr_e rfl rfl)<|.cons (o_load_es rfl rfl)<|.cons (o_int rfl rfl rfl)<|.cons (o_assign rfl)<|.nil _) ?_
      exact ⟨(IntKind.wrap .u64 (v37.gSeq + 1)),hM,(Imp.sh (fun i=>bif Nat.beq i 10003 then 10001 else i) rfl rfl rfl rfl rfl rfl)⟩
     ·replace hM:=(of_if hM).2 h35
      refine a_skip ?_
      exact ⟨0,hM,(Imp.sh (fun i=>bif Nat.beq i 10003 then 10001 else i) rfl rfl rfl rfl rfl rfl)⟩
    ·rintro a13 hM
     replace hM : gap_Of_v1_K4 x1 o0 k5 a6 v12 a13 = some t8:=hM
     unfold gap_Of_v1_K4 at hM
     refine a_cut (α:=(List gap_Gap) × Int) (fun s=>⟨[(0,.ref 100000 0),(1,.int .i64 x1),(5,.row 10004),(6,.int .i64 (k5 : Int)),(7,.sl 29 (List.map RRec.dv v12)),(8,.int .u64 s.2),(18,.int .i64 (IntKind.wrap .i64 (v4 + 1))),(19,.int .i64 (k5 : Int))],[(10004,some (.row 57 6 (List.map gap_Gap.dv s.1))),(100000,some (.blk 154 [.row 100001])),(100001,some (.row 157 4 (List.map CPart.dv o0.gparts)))],[10004,100000,100001]⟩) (fun s=>gap_Of_v1_K5 x1 o0 k5 v12 s.1 s.2 = some t8) ?_ ?_
     ·refine a_seq ?_
      obtain ⟨v23,h22,hM⟩ := of_bind hM
      refine ar (.cons (o_move rfl)<|.cons (o_move rfl)<|.cons (o_callN (fun i=>bif Nat.beq i 100000 then 100000 else bif Nat.beq i 100001 then 100001 else i) 0 (CColl_Missing_a_c h22) rfl (DLeL.refl _) (.cons rfl (.cons rfl .nil)) rfl (.cons rfl (.cons rfl .nil)))<|.cons (t_len rfl)<|.cons (o_move rfl)<|.nil _) ?_
      obtain ⟨⟨a25,a26⟩,hL27,hK27⟩ := of_bind hM
      refine a_block ?_
      refine a_fold (fun k24 (s : (List gap_Gap) × Int)=>⟨[(0,.ref 100000 0),(1,.int .i64 x1),(5,.row 10005),(6,.int .i64 (k5 : Int)),(7,.sl 29 (List.map RRec.dv v12)),(8,.int .u64 s.2),(18,.int .i64 (IntKind.wrap .i64 (v4 + 1))),(19,.int .i64 (k5 : Int)),(38,.sl 2 (List.map array_2_uint64.dv v23)),(39,.int .i64 (List.length v23 : Int)),(40,.int .i64 (k24 : Int))],[(10005,some (.row 57 6 (List.map gap_Gap.dv s.1))),(100000,some (.blk 154 [.row 100001])),(100001,some (.row 157 4 (List.map CPart.dv o0.gparts)))],[10005,100000,100001]⟩) _ hL27 (Imp.sh (fun i=>bif Nat.beq i 10005 then 10003 else i) rfl rfl rfl rfl rfl rfl) ?_ ?_
      ·rintro k24 ⟨a25,a26⟩ t28 hk24 hx24 hM
       replace hM : gap_Of_v1_L6 x1 k5 v12 v23 k24 a25 a26 = some t28:=hM
       unfold gap_Of_v1_L6 at hM
       refine a_seq (ar (.cons (o_int rfl rfl rfl)<|.nil _) ?_)
       refine a_seq ?_
       refine a_cond _ rfl (fun _=>?_) (fun c=>absurd hk24 (of_decide_eq_false c))
       refine a_skip (a_seq (a_block (a_seq ?_)))
       obtain ⟨v31,h30,hM⟩ := of_bind hM
       refine ar (.cons (t_index h30 rfl rfl rfl)<|.cons (o_load_er rfl rfl rfl)<|.cons (o_alloc rfl)<|.cons (o_store rfl rfl rfl rfl rfl rfl rfl)<|.nil _) ?_
       refine a_seq ?_
       obtain ⟨v33,h32,hM⟩ := of_bind hM
       obtain ⟨h34,hM⟩ := of_chk hM
       refine ar (.cons (o_move rfl)<|.cons (o_move rfl)<|.cons (o_move rfl)<|.cons (o_indexAddr_a 0 rfl rfl rfl (by decide))<|.cons (o_load_s rfl rfl rfl)<|.cons (o_indexAddr_a 1 rfl rfl rfl (by decide))<|.cons (o_load_s rfl rfl rfl)<|.cons (o_build rfl rfl rfl)<|.cons (o_move rfl)<|.cons (o_call (gap_between_c h32) rfl (DLeL.refl _) rfl)<|.cons (t_build gap_Gap.dv ([v33] : List gap_Gap) rfl rfl rfl rfl rfl rfl rfl)<|.cons (t_append [v33] h34 rfl rfl rfl (Src.row rfl))<|.cons (o_assign rfl)<|.nil _) ?_
       refine ar (.cons (o_move rfl)<|.cons (o_indexAddr_a 0 rfl rfl rfl (by decide))<|.cons (o_load_s rfl rfl rfl)<|.cons (o_indexAddr_a 1 rfl rfl rfl (by decide))<|.cons (o_load_s rfl rfl rfl)<|.cons (o_int rfl rfl rfl)<|.cons (o_max rfl rfl)<|.cons (o_assign rfl)<|.nil _) ?_
       refine ar (.cons (o_add rfl rfl (inR_i64 hk24 hx24))<|.cons (o_move rfl)<|.nil _) ?_
       obtain rfl:=Option.some.inj hM
       exact (Imp.of (fun i=>bif Nat.beq i 10005 then 55 else i) (.cons rfl (DLe.refl _) (.cons rfl (DLe.refl _) (.cons rfl (DLe.refl _) (.cons rfl (DLe.refl _) (.cons rfl (DLe.refl _) (.cons rfl (DLe.refl _) (.cons rfl (DLe.refl _) (.cons rfl (DLe.refl _) (.cons rfl (DLe.refl _) (.cons rfl (DLe.refl _) (.cons rfl (DLe.succ _ _) .nil))))))))))) (.cons rfl (.refl _) (.cons rfl (.refl _) (.cons rfl (.refl _) .nil))) rfl rfl rfl)
      ·rintro k24 hk24 hx24
       refine a_seq (ar (.cons (o_int rfl rfl rfl)<|.nil _) ?_)
       refine a_seq ?_
       refine a_cond _ rfl (fun c=>absurd (of_decide_eq_true c) (Int.not_lt.2 hk24)) (fun _=>?_)
       refine a_exit ?_
       exact ⟨(a25,a26),hK27,(Imp.sh (fun i=>bif Nat.beq i 10004 then 10005 else i) rfl rfl rfl rfl rfl rfl)⟩
     ·rintro ⟨a14,a15⟩ hM
      replace hM : gap_Of_v1_K5 x1 o0 k5 v12 a14 a15 = some t8:=hM
      unfold gap_Of_v1_K5 at hM
      refine a_seq ?_
      obtain ⟨v17,h16,hM⟩ := of_bind hM
      refine ar (.cons (o_move rfl)<|.cons (o_move rfl)<|.cons (o_callN (fun i=>bif Nat.beq i 100000 then 100000 else bif Nat.beq i 100001 then 100001 else i) 0 (CColl_Total_a_c h16) rfl (DLeL.refl _) (.cons rfl (.cons rfl .nil)) rfl (.cons rfl (.cons rfl .nil)))<|.cons (o_move rfl)<|.cons (o_extract rfl rfl)<|.cons (o_extract rfl rfl)<|.cons (o_assign rfl)<|.cons (o_assign rfl)<|.nil _) ?_
      refine a_seq (ar (.cons (o_move rfl)<|.cons (o_not rfl)<|.nil _) ?_)
      refine a_cond _ rfl (fun h18=>?_) (fun h18=>?_)
      ·replace hM:=(of_if hM).1 h18
       obtain ⟨v20,h19,hM⟩ := of_bind hM
       obtain ⟨h21,hM⟩ := of_chk hM
       refine ar (.cons (o_move rfl)<|.cons (o_move rfl)<|.cons (o_move rfl)<|.cons (o_move rfl)<|.cons (o_build rfl rfl rfl)<|.cons (o_move rfl)<|.cons (o_call (gap_between_c h19) rfl (DLeL.refl _) rfl)<|.cons (t_build gap_Gap.dv ([v20] : List gap_Gap) rfl rfl rfl rfl rfl rfl rfl)<|.cons (t_append [v20] h21 rfl rfl rfl (Src.row rfl))<|.cons (o_assign rfl)<|.nil _) ?_
       exact ⟨(a14++[v20]),hM,(Imp.sh (fun i=>bif Nat.beq i 10002 then 80 else i) rfl rfl rfl rfl rfl rfl)⟩
      ·replace hM:=(of_if hM).2 h18
       refine a_skip ?_
       exact ⟨a14,hM,(Imp.sh (fun i=>bif Nat.beq i 10002 then 10004 else i) rfl rfl rfl rfl rfl rfl)⟩
   ·rintro a10 hM
    replace hM : gap_Of_v1_K3 a10 = some t8:=hM
    unfold gap_Of_v1_K3 at hM
    refine ar (.cons (o_add rfl rfl (inR_i64 hk5 hx5))<|.cons (o_move rfl)<|.nil _) ?_
    obtain rfl:=Option.some.inj hM
    exact (Imp.of (fun i=>bif Nat.beq i 10001 then 10002 else i) (.cons rfl (DLe.refl _) (.cons rfl (DLe.refl _) (.cons rfl (DLe.refl _) (.cons rfl (DLe.refl _) (.cons rfl (DLe.succ _ _) .nil))))) (.cons rfl (.refl _) (.cons rfl (.refl _) (.cons rfl (.refl _) .nil))) rfl rfl rfl)
  ·rintro k5 hk5 hx5
   refine a_seq (ar (.cons (o_int rfl rfl rfl)<|.nil _) ?_)
   refine a_seq ?_
   refine a_cond _ rfl (fun c=>absurd (of_decide_eq_true c) (Int.not_lt.2 hk5)) (fun _=>?_)
   refine a_exit ?_
   exact ⟨a6,hK7,((Imp.freeze (id:=10001) rfl).trans (Imp.sh (fun i=>i) rfl rfl rfl rfl rfl rfl))⟩
 ·rintro a2 hM
  replace hM : gap_Of_v1_K1 a2 = some r:=hM
  unfold gap_Of_v1_K1 at hM
  refine a_seq (ar (.cons (o_move rfl)<|.cons (o_assign rfl)<|.nil _) ?_)
  obtain rfl:=Option.some.inj hM
  refine a_imp (σ' := ⟨[(4,.sl 6 (List.map gap_Gap.dv a2))],[(100000,some (.blk 154 [.row 100001])),(100001,some (.row 157 4 (List.map CPart.dv o0.gparts)))],[100000,100001]⟩) (Imp.sh (fun i=>i) rfl rfl rfl rfl rfl rfl) ?_
  exact a_ret (a_post (.r1 (.tmp rfl)) (DLe.refl _) (PostOk.spec (.cons rfl (.cons rfl .nil))))
def gap_Until_K1 (a1 : Int) : Option Int :=
 some a1
def gap_Until_L2 (x0 : List gap_Gap) (x1 : Int) (k2 : Nat) (a3 : Int) : Option Int :=
 (idx x0 (k2 : Int)).bind fun v8=>
 if ((v8.gComponent != x1) || (v8.gFrom == (-9223372036854775808))) = true then
  some a3
 else
  some (if (IntKind.wrap .i64 (v8.gFrom - 1)) < a3 then (IntKind.wrap .i64 (v8.gFrom - 1)) else a3)
def gap_Until (x0 : List gap_Gap) (x1 : Int) (x2 : Int) : Option Int :=
 (foldM' 9223372036854775807 (List.length x0 : Int) (fun k2 s=>gap_Until_L2 x0 x1 k2 s) x2).bind fun s=>gap_Until_K1 s
theorem gap_Until_c {x0 : List gap_Gap} {x1 : Int} {x2 : Int} {r : Int} (hM : gap_Until x0 x1 x2 = some r) : PCall Tryz.prog 43 [.sl 6 (List.map gap_Gap.dv x0),.int .i64 x1,.int .i64 x2] (.int .i64 r):=by
 unfold gap_Until at hM
 refine PCall.body Tryz.func43 Tryz.ntmps43 rfl rfl rfl rfl ?_
 refine a_seq (ar (.cons (o_assign rfl)<|.nil _) ?_)
 refine a_seq (ar (.cons (o_move rfl)<|.cons (o_assign rfl)<|.nil _) ?_)
 refine a_cut (α:=Int) (fun s=>⟨[(7,.int .i64 s)],[],[]⟩) (fun s=>gap_Until_K1 s = some r) ?_ ?_
 ·refine a_seq (ar (.cons (o_move rfl)<|.cons (t_len rfl)<|.cons (o_move rfl)<|.nil _) ?_)
  obtain ⟨a3,hL4,hK4⟩ := of_bind hM
  refine a_block ?_
  refine a_fold (fun k2 (s : Int)=>⟨[(1,.int .i64 x1),(7,.int .i64 s),(11,.sl 6 (List.map gap_Gap.dv x0)),(12,.int .i64 (List.length x0 : Int)),(13,.int .i64 (k2 : Int))],[],[]⟩) _ hL4 (Imp.sh (fun i=>i) rfl rfl rfl rfl rfl rfl) ?_ ?_
  ·rintro k2 a3 t5 hk2 hx2 hM
   replace hM : gap_Until_L2 x0 x1 k2 a3 = some t5:=hM
   unfold gap_Until_L2 at hM
   refine a_seq (ar (.cons (o_int rfl rfl rfl)<|.nil _) ?_)
   refine a_seq ?_
   refine a_cond _ rfl (fun _=>?_) (fun c=>absurd hk2 (of_decide_eq_false c))
   refine a_skip (a_seq (a_block (a_seq ?_)))
   obtain ⟨v8,h7,hM⟩ := of_bind hM
   refine ar (.cons (t_index h7 rfl rfl rfl)<|.cons (o_load_er rfl rfl rfl)<|.cons (o_alloc rfl)<|.cons (o_store rfl rfl rfl rfl rfl rfl rfl)<|.nil _) ?_
   refine a_seq (a_seq (ar (.cons (o_fieldAddr rfl)<|.cons (o_load_s rfl rfl rfl)<|.cons (o_move rfl)<|.cons (o_int rfl rfl rfl)<|.cons (o_move rfl)<|.cons (o_guardG .bF rfl rfl (fun hb=>(.keep .nil)) (fun hb=>o_fieldAddr rfl))<|.cons (o_guardG .bF rfl rfl (fun hb=>(.strip rfl hb .nil)) (fun hb=>o_load_s rfl rfl rfl))<|.cons (o_guardG .bF rfl rfl (fun hb=>(.strip rfl hb .nil)) (fun hb=>o_int rfl rfl rfl))<|.cons (o_or rfl rfl)<|.nil _) ?_))
   refine a_cond _ rfl (fun h9=>?_) (fun h9=>?_)
   ·replace hM:=(of_if hM).1 h9
    refine a_exit (ar (.cons (o_add rfl rfl (inR_i64 hk2 hx2))<|.cons (o_move rfl)<|.nil _) ?_)
    obtain rfl:=Option.some.inj hM
    exact (Imp.of (fun i=>i) (.cons rfl (DLe.refl _) (.cons rfl (DLe.refl _) (.cons rfl (DLe.refl _) (.cons rfl (DLe.refl _) (.cons rfl (DLe.succ _ _) .nil))))) .nil rfl rfl rfl)
   ·replace hM:=(of_if hM).2 h9
    refine a_skip (ar (.cons (o_move rfl)<|.cons (o_fieldAddr rfl)<|.cons (o_load_s rfl rfl rfl)<|.cons (o_int rfl rfl rfl)<|.cons (o_min rfl rfl)<|.cons (o_assign rfl)<|.nil _) ?_)
    refine ar (.cons (o_add rfl rfl (inR_i64 hk2 hx2))<|.cons (o_move rfl)<|.nil _) ?_
    obtain rfl:=Option.some.inj hM
    exact (Imp.of (fun i=>i) (.cons rfl (DLe.refl _) (.cons rfl (DLe.refl _) (.cons rfl (DLe.refl _) (.cons rfl (DLe.refl _) (.cons rfl (DLe.succ _ _) .nil))))) .nil rfl rfl rfl)
  ·rintro k2 hk2 hx2
   refine a_seq (ar (.cons (o_int rfl rfl rfl)<|.nil _) ?_)
   refine a_seq ?_
   refine a_cond _ rfl (fun c=>absurd (of_decide_eq_true c) (Int.not_lt.2 hk2)) (fun _=>?_)
   refine a_exit ?_
   exact ⟨a3,hK4,(Imp.sh (fun i=>i) rfl rfl rfl rfl rfl rfl)⟩
 ·rintro a1 hM
  replace hM : gap_Until_K1 a1 = some r:=hM
  unfold gap_Until_K1 at hM
  refine a_seq (ar (.cons (o_move rfl)<|.cons (o_assign rfl)<|.nil _) ?_)
  obtain rfl:=Option.some.inj hM
  exact a_ret (a_post (.r1 (.tmp rfl)) (DLe.refl _) PostOk.nil.spec)
def rootcauselaw32_awake_K1 (v2_0 : CColl) (a4 : List Int) : Option Bool :=
 (CColl_Add_a 0 a4 v2_0).bind fun v6=>
 if (v6.1 != 0) = true then
  some false
 else
  (gap_Of_v1 20 v6.2).bind fun v9=>
  (RRec_Bytes (RRec.mk 0 8 (VClk.mk (arr 0 [0,0,0,0,0,0,0,0,0,0,0,0,0,0,0,0])) 3 (AEv.mk 0 0 0 0 0 0 0 0 []) 0)).bind fun v11=>
  (frame_Append a4 v11).bind fun v13=>
  (gb (!((List.length v9 : Int) != 3)) (gap_Gap.mk 0 0 0 false 0 0) (idx v9 0)).bind fun v15=>
  (gb (!(((List.length v9 : Int) != 3) || (!((v15.gComponent == 0) && ((v15.gFirst == 2) && ((v15.gCount == 3) && ((v15.gOpen == false) && ((v15.gFrom == 4) && ((v15.gTo == 9) && true))))))))) (gap_Gap.mk 0 0 0 false 0 0) (idx v9 1)).bind fun v17=>
  if (!((((List.length v9 : Int) != 3) || (!((v15.gComponent == 0) && ((v15.gFirst == 2) && ((v15.gCount == 3) && ((v15.gOpen == false) && ((v15.gFrom == 4) && ((v15.gTo == 9) && true)))))))) || (!((v17.gComponent == 0) && ((v17.gFirst == 6) && ((v17.gCount == 0) && ((v17.gOpen == true) && ((v17.gFrom == 9) && ((v17.gTo == 20) && true))))))))) = true then
   (CColl_Add_a 0 v13.1 v6.2).bind fun v19=>
   if (((((List.length v9 : Int) != 3) || (!((v15.gComponent == 0) && ((v15.gFirst == 2) && ((v15.gCount == 3) && ((v15.gOpen == false) && ((v15.gFrom == 4) && ((v15.gTo == 9) && true)))))))) || (!((v17.gComponent == 0) && ((v17.gFirst == 6) && ((v17.gCount == 0) && ((v17.gOpen == true) && ((v17.gFrom == 9) && ((v17.gTo == 20) && true)))))))) || (v19.1 != 0)) = true then
    some false
   else
    (gap_Of_v1 20 v19.2).bind fun v22=>
    (gb ((List.length v22 : Int) == 3) (gap_Gap.mk 0 0 0 false 0 0) (idx v22 1)).bind fun v24=>
    (gb (((List.length v22 : Int) == 3) && ((v24.gComponent == 0) && ((v24.gFirst == 6) && ((v24.gCount == 2) && ((v24.gOpen == false) && ((v24.gFrom == 9) && ((v24.gTo == 20) && true))))))) (0) (gap_Until v22 0 20)).bind fun v26=>
    some ((((List.length v22 : Int) == 3) && ((v24.gComponent == 0) && ((v24.gFirst == 6) && ((v24.gCount == 2) && ((v24.gOpen == false) && ((v24.gFrom == 9) && ((v24.gTo == 20) && true))))))) && (v26 == 3))
  else
   if (((((List.length v9 : Int) != 3) || (!((v15.gComponent == 0) && ((v15.gFirst == 2) && ((v15.gCount == 3) && ((v15.gOpen == false) && ((v15.gFrom == 4) && ((v15.gTo == 9) && true)))))))) || (!((v17.gComponent == 0) && ((v17.gFirst == 6) && ((v17.gCount == 0) && ((v17.gOpen == true) && ((v17.gFrom == 9) && ((v17.gTo == 20) && true)))))))) || false) = true then
    some false
   else
    (gap_Of_v1 20 v6.2).bind fun v20=>
    (gb ((List.length v20 : Int) == 3) (gap_Gap.mk 0 0 0 false 0 0) (idx v20 1)).bind fun v22=>
    (gb (((List.length v20 : Int) == 3) && ((v22.gComponent == 0) && ((v22.gFirst == 6) && ((v22.gCount == 2) && ((v22.gOpen == false) && ((v22.gFrom == 9) && ((v22.gTo == 20) && true))))))) (0) (gap_Until v20 0 20)).bind fun v24=>
    some ((((List.length v20 : Int) == 3) && ((v22.gComponent == 0) && ((v22.gFirst == 6) && ((v22.gCount == 2) && ((v22.gOpen == false) && ((v22.gFrom == 9) && ((v22.gTo == 20) && true))))))) && (v24 == 3))
def rootcauselaw32_awake_L2 (k27 : Nat) (a28 : List Int) : Option (List Int) :=
 (idx [(arr 0 [0,2]),(arr 0 [1,4]),(arr 0 [5,9])] (k27 : Int)).bind fun v33=>
 (RRec_Bytes (RRec.mk 0 (IntKind.wrap .u64 (v33 0)) (VClk.mk (arr 0 [0,0,0,0,0,0,0,0,0,0,0,0,0,0,0,0])) 1 (AEv.mk (v33 1) 0 3 0 0 0 0 0 []) 0)).bind fun v35=>
 (frame_Append a28 v35).bind fun v37=>
 some v37.1
def rootcauselaw32_awake : Option Bool :=
 (collect_New 1).bind fun v2=>
 match v2 with
 | .inl v2_0=>
  (foldM' 9223372036854775807 (List.length [(arr 0 [0,2]),(arr 0 [1,4]),(arr 0 [5,9])] : Int) (fun k27 s=>rootcauselaw32_awake_L2 k27 s) ([] : List Int)).bind fun s=>rootcauselaw32_awake_K1 v2_0 s
 | .inr v2_1=>
  some false
theorem rootcauselaw32_awake_c {r : Bool} (hM : rootcauselaw32_awake = some r) : PCall Tryz.prog 16 [] (.bool r):=by
 unfold rootcauselaw32_awake at hM
 refine PCall.body Tryz.func16 Tryz.ntmps16 rfl rfl rfl rfl ?_
 refine a_seq (ar (.cons (o_assign rfl)<|.nil _) ?_)
 refine a_seq ?_
 obtain ⟨v2,h1,hM⟩ := of_bind hM
 rcases v2 with v2_0 | v2_1
 ·refine ar (.cons (o_callN (fun i=>bif Nat.beq i 50001 then 10002 else bif Nat.beq i 50000 then 10001 else i) 2 (collect_New_c0 h1) rfl (DLeL.refl _) .nil rfl .nil)<|.cons (o_move rfl)<|.cons (o_extract rfl rfl)<|.cons (o_extract rfl rfl)<|.cons (o_assign rfl)<|.cons (o_assign rfl)<|.nil _) ?_
  refine a_seq (a_seq (ar (.cons (o_move rfl)<|.cons (o_int rfl rfl rfl)<|.cons (o_move rfl)<|.cons (o_guardOn .bF rfl rfl rfl (.keep .nil) (o_move rfl))<|.cons (o_guardOn .bF rfl rfl rfl (.strip rfl rfl .nil) (o_ptr_eq rfl))<|.cons (o_or rfl rfl)<|.nil _) ?_))
  refine a_cond _ rfl (fun c=>by cases c) (fun _=>?_)
  refine a_skip (a_seq (ar (.cons (o_assign rfl)<|.nil _) ?_))
  refine a_cut (α:=(List Int)) (fun s=>⟨[(1,.ref 10001 0),(3,.sl 1 (List.map (DV.int .u8) s))],[(10001,some (.blk 154 [.row 10003])),(10003,some (.row 157 4 (List.map CPart.dv v2_0.gparts)))],[10001,10003]⟩) (fun s=>rootcauselaw32_awake_K1 v2_0 s = some r) ?_ ?_
  ·refine a_seq (ar (.cons (o_build rfl rfl rfl)<|.cons (o_build rfl rfl rfl)<|.cons (o_build rfl rfl rfl)<|.cons (t_build array_2_int.dv ([(arr 0 [0,2]),(arr 0 [1,4]),(arr 0 [5,9])] : List (Nat→Int)) rfl rfl rfl rfl rfl rfl rfl)<|.cons (t_len_r rfl rfl)<|.cons (o_move rfl)<|.nil _) ?_)
   obtain ⟨a28,hL29,hK29⟩ := of_bind hM
   refine a_block ?_
   refine a_fold (fun k27 (s : (List Int))=>⟨[(1,.ref 10001 0),(3,.sl 1 (List.map (DV.int .u8) s)),(20,.sl 2 (List.map array_2_int.dv [(arr 0 [0,2]),(arr 0 [1,4]),(arr 0 [5,9])])),(21,.int .i64 (List.length [(arr 0 [0,2]),(arr 0 [1,4]),(arr 0 [5,9])] : Int)),(22,.int .i64 (k27 : Int))],[(10001,some (.blk 154 [.row 10006])),(10006,some (.row 157 4 (List.map CPart.dv v2_0.gparts)))],[10001,10006]⟩) _ hL29 ((Imp.freeze (id:=20) rfl).trans (Imp.of (fun i=>bif Nat.beq i 10006 then 10002 else i) (.cons rfl (DLe.refl _) (.cons rfl (DLe.nils _) (.cons rfl (DLe.refl _) (.cons rfl (DLe.refl _) (.cons rfl (DLe.refl _) .nil))))) (.cons rfl (.refl _) (.cons rfl (.refl _) .nil)) rfl rfl rfl)) ?_ ?_
   ·rintro k27 a28 t30 hk27 hx27 hM
    replace hM : rootcauselaw32_awake_L2 k27 a28 = some t30:=hM
    unfold rootcauselaw32_awake_L2 at hM
    refine a_seq (ar (.cons (o_int rfl rfl rfl)<|.nil _) ?_)
    refine a_seq ?_
    refine a_cond _ rfl (fun _=>?_) (fun c=>absurd hk27 (of_decide_eq_false c))
    refine a_skip (a_seq (a_block (a_seq ?_)))
    obtain ⟨v33,h32,hM⟩ := of_bind hM
    refine ar (.cons (t_index h32 rfl rfl rfl)<|.cons (o_load_er rfl rfl rfl)<|.cons (o_alloc rfl)<|.cons (o_store rfl rfl rfl rfl rfl rfl rfl)<|.nil _) ?_
    obtain ⟨v35,h34,hM⟩ := of_bind hM
    obtain ⟨v37,h36,hM⟩ := of_bind hM
    refine ar (.cons (o_move rfl)<|.cons (o_indexAddr_a 0 rfl rfl rfl (by decide))<|.cons (o_load_s rfl rfl rfl)<|.cons (o_conv_w rfl)<|.cons (o_indexAddr_a 1 rfl rfl rfl (by decide))<|.cons (o_load_s rfl rfl rfl)<|.cons (o_build rfl rfl rfl)<|.cons (o_build rfl rfl rfl)<|.cons (o_call (RRec_Bytes_c h34) rfl (.cons (DLe.agg (.cons (DLe.refl _) (.cons (DLe.refl _) (.cons (DLe.refl _) (.cons (DLe.refl _) (.cons (DLe.refl _) (.cons (DLe.refl _) (.cons (DLe.refl _) (.cons (DLe.refl _) (.cons (DLe.refl _) (.cons (DLe.refl _) (.cons (DLe.refl _) (.cons (DLe.refl _) (.cons (DLe.refl _) (.cons (DLe.refl _) (.cons (DLe.refl _) (.cons (DLe.refl _) (.cons (DLe.refl _) (.cons (DLe.refl _) (.cons (DLe.refl _) (.cons (DLe.refl _) (.cons (DLe.refl _) (.cons (DLe.refl _) (.cons (DLe.refl _) (.cons (DLe.refl _) (.cons (DLe.refl _) (.cons (DLe.refl _) (.cons (DLe.refl _) (.cons (DLe.nils _) (.cons (DLe.refl _) .nil)))))))))))))))))))))))))))))) .nil) rfl)<|.cons (o_callN (fun i=>bif Nat.beq i 50000 then 10007 else i) 1 (frame_Append_c h36) rfl (DLeL.refl _) .nil rfl .nil)<|.cons (o_move rfl)<|.cons (o_extract rfl rfl)<|.cons (o_extract rfl rfl)<|.cons (o_assign rfl)<|.nil _) ?_
    refine ar (.cons (o_add rfl rfl (inR_i64 hk27 hx27))<|.cons (o_move rfl)<|.nil _) ?_
    obtain rfl:=Option.some.inj hM
    exact ((Imp.freeze (id:=10007) rfl).trans (Imp.of (fun i=>i) (.cons rfl (DLe.refl _) (.cons rfl (DLe.refl _) (.cons rfl (DLe.refl _) (.cons rfl (DLe.refl _) (.cons rfl (DLe.succ _ _) .nil))))) (.cons rfl (.refl _) (.cons rfl (.refl _) .nil)) rfl rfl rfl))
   ·rintro k27 hk27 hx27
    refine a_seq (ar (.cons (o_int rfl rfl rfl)<|.nil _) ?_)
    refine a_seq ?_
    refine a_cond _ rfl (fun c=>absurd (of_decide_eq_true c) (Int.not_lt.2 hk27)) (fun _=>?_)
    refine a_exit ?_
    exact ⟨a28,hK29,(Imp.sh (fun i=>bif Nat.beq i 10003 then 10006 else i) rfl rfl rfl rfl rfl rfl)⟩
  ·rintro a4 hM
   replace hM : rootcauselaw32_awake_K1 v2_0 a4 = some r:=hM
   unfold rootcauselaw32_awake_K1 at hM
   refine a_seq (a_seq ?_)
   obtain ⟨v6,h5,hM⟩ := of_bind hM
   refine ar (.cons (o_move rfl)<|.cons (o_move rfl)<|.cons (o_callN (fun i=>bif Nat.beq i 50000 then 10004 else bif Nat.beq i 100000 then 10001 else bif Nat.beq i 100001 then 10003 else i) 3 (CColl_Add_a_c h5) rfl (DLeL.refl _) (.cons rfl (.cons rfl .nil)) rfl .nil)<|.cons (o_int rfl rfl rfl)<|.nil _) ?_
   refine a_cond _ rfl (fun h7=>?_) (fun h7=>?_)
   ·replace hM:=(of_if hM).1 h7
    refine a_seq (ar (.cons (o_assign rfl)<|.nil _) ?_)
    obtain rfl:=Option.some.inj hM
    exact a_ret (a_post (.r1 (.tmp rfl)) (DLe.refl _) PostOk.nil.spec)
   ·replace hM:=(of_if hM).2 h7
    refine a_skip (a_seq ?_)
    obtain ⟨v9,h8,hM⟩ := of_bind hM
    refine ar (.cons (o_move rfl)<|.cons (o_callN (fun i=>bif Nat.beq i 100000 then 10001 else bif Nat.beq i 100001 then 10004 else i) 0 (gap_Of_v1_c h8) rfl (DLeL.refl _) (.cons rfl (.cons rfl .nil)) rfl (.cons rfl (.cons rfl .nil)))<|.cons (o_assign rfl)<|.nil _) ?_
    refine a_seq ?_
    obtain ⟨v11,h10,hM⟩ := of_bind hM
    obtain ⟨v13,h12,hM⟩ := of_bind hM
    refine ar (.cons (o_move rfl)<|.cons (o_build rfl rfl rfl)<|.cons (o_call (RRec_Bytes_c h10) rfl (.cons (DLe.agg (.cons (DLe.refl _) (.cons (DLe.refl _) (.cons (DLe.refl _) (.cons (DLe.refl _) (.cons (DLe.refl _) (.cons (DLe.refl _) (.cons (DLe.refl _) (.cons (DLe.refl _) (.cons (DLe.refl _) (.cons (DLe.refl _) (.cons (DLe.refl _) (.cons (DLe.refl _) (.cons (DLe.refl _) (.cons (DLe.refl _) (.cons (DLe.refl _) (.cons (DLe.refl _) (.cons (DLe.refl _) (.cons (DLe.refl _) (.cons (DLe.refl _) (.cons (DLe.refl _) (.cons (DLe.refl _) (.cons (DLe.refl _) (.cons (DLe.refl _) (.cons (DLe.refl _) (.cons (DLe.refl _) (.cons (DLe.refl _) (.cons (DLe.refl _) (.cons (DLe.nils _) (.cons (DLe.refl _) .nil)))))))))))))))))))))))))))))) .nil) rfl)<|.cons (o_callN (fun i=>bif Nat.beq i 50000 then 10005 else i) 1 (frame_Append_c h12) rfl (DLeL.refl _) .nil rfl .nil)<|.cons (o_move rfl)<|.cons (o_extract rfl rfl)<|.cons (o_extract rfl rfl)<|.cons (o_assign rfl)<|.nil _) ?_
    refine a_seq (a_seq ?_)
    obtain ⟨v15,h14,hM⟩ := of_bind hM
    obtain ⟨v17,h16,hM⟩ := of_bind hM
    by_cases hd18 : (!((((List.length v9 : Int) != 3) || (!((v15.gComponent == 0) && ((v15.gFirst == 2) && ((v15.gCount == 3) && ((v15.gOpen == false) && ((v15.gFrom == 4) && ((v15.gTo == 9) && true)))))))) || (!((v17.gComponent == 0) && ((v17.gFirst == 6) && ((v17.gCount == 0) && ((v17.gOpen == true) && ((v17.gFrom == 9) && ((v17.gTo == 20) && true))))))))) = true
    ·replace hM:=(of_if hM).1 hd18
     refine a_imp (Imp.freeze (id:=10005) rfl) ?_
     obtain ⟨v19,h18,hM⟩ := of_bind hM
     refine ar (.cons (o_move rfl)<|.cons (t_len rfl)<|.cons (o_int rfl rfl rfl)<|.cons (o_move rfl)<|.cons (o_guardG .bF rfl rfl (fun hb=>(.keep .nil)) (fun hb=>o_move rfl))<|.cons (o_guardG .bF rfl rfl (fun hb=>(.strip rfl hb .nil)) (fun hb=>t_index (of_gb h14 hb) rfl rfl rfl))<|.cons (o_guardG .bF rfl rfl (fun hb=>(.strip rfl hb .nil)) (fun hb=>o_load_er rfl rfl rfl))<|.cons (o_guardG .bF rfl rfl (fun hb=>.nil) (fun hb=>o_build rfl rfl rfl))<|.cons (o_guardG .bF rfl rfl (fun hb=>(.strip rfl hb (.strip rfl hb .nil))) (fun hb=>o_neS (b:=((v15.gComponent == 0) && ((v15.gFirst == 2) && ((v15.gCount == 3) && ((v15.gOpen == false) && ((v15.gFrom == 4) && ((v15.gTo == 9) && true))))))) rfl rfl rfl rfl rfl))<|.cons (o_or rfl rfl)<|.cons (o_move rfl)<|.cons (o_guardG .bF rfl rfl (fun hb=>(.keep .nil)) (fun hb=>o_move rfl))<|.cons (o_guardG .bF rfl rfl (fun hb=>(.strip rfl hb .nil)) (fun hb=>t_index (of_gb h16 hb) rfl rfl rfl))<|.cons (o_guardG .bF rfl rfl (fun hb=>(.strip rfl hb .nil)) (fun hb=>o_load_er rfl rfl rfl))<|.cons (o_guardG .bF rfl rfl (fun hb=>.nil) (fun hb=>o_build rfl rfl rfl))<|.cons (o_guardG .bF rfl rfl (fun hb=>(.strip rfl hb (.strip rfl hb .nil))) (fun hb=>o_neS (b:=((v17.gComponent == 0) && ((v17.gFirst == 6) && ((v17.gCount == 0) && ((v17.gOpen == true) && ((v17.gFrom == 9) && ((v17.gTo == 20) && true))))))) rfl rfl rfl rfl rfl))<|.cons (o_or rfl rfl)<|.cons (o_move rfl)<|.cons (o_guardG .bF rfl rfl (fun hb=>(.keep .nil)) (fun hb=>o_move rfl))<|.cons (o_guardG .bF rfl rfl (fun hb=>(.keep .nil)) (fun hb=>o_move rfl))<|.cons (o_guardOn .bF rfl rfl hd18 (.strip rfl hd18 (.strip rfl hd18 .nil)) (o_callN (fun i=>bif Nat.beq i 50000 then 10006 else bif Nat.beq i 100000 then 10001 else bif Nat.beq i 100001 then 10004 else i) 3 (CColl_Add_a_c h18) rfl (DLeL.refl _) (.cons rfl (.cons rfl .nil)) rfl .nil))<|.cons (o_guardOn .bF rfl rfl hd18 (.strip rfl hd18 .nil) (o_int rfl rfl rfl))<|.cons (o_or rfl rfl)<|.nil _) ?_
     refine a_cond _ rfl (fun h20=>?_) (fun h20=>?_)
     ·replace hM:=(of_if hM).1 h20
      refine a_seq (ar (.cons (o_assign rfl)<|.nil _) ?_)
      obtain rfl:=Option.some.inj hM
      exact a_ret (a_post (.r1 (.tmp rfl)) (DLe.refl _) PostOk.nil.spec)
     ·replace hM:=(of_if hM).2 h20
      refine a_skip (a_seq ?_)
      obtain ⟨v22,h21,hM⟩ := of_bind hM
      refine ar (.cons (o_move rfl)<|.cons (o_callN (fun i=>bif Nat.beq i 100000 then 10001 else bif Nat.beq i 100001 then 10006 else i) 0 (gap_Of_v1_c h21) rfl (DLeL.refl _) (.cons rfl (.cons rfl .nil)) rfl (.cons rfl (.cons rfl .nil)))<|.cons (o_assign rfl)<|.nil _) ?_
      refine a_seq ?_
      obtain ⟨v24,h23,hM⟩ := of_bind hM
      obtain ⟨v26,h25,hM⟩ := of_bind hM
      refine ar (.cons (o_move rfl)<|.cons (t_len rfl)<|.cons (o_int rfl rfl rfl)<|.cons (o_move rfl)<|.cons (o_guardG .bT rfl rfl (fun hb=>(.keep .nil)) (fun hb=>o_move rfl))<|.cons (o_guardG .bT rfl rfl (fun hb=>(.strip rfl hb .nil)) (fun hb=>t_index (of_gb h23 hb) rfl rfl rfl))<|.cons (o_guardG .bT rfl rfl (fun hb=>(.strip rfl hb .nil)) (fun hb=>o_load_er rfl rfl rfl))<|.cons (o_guardG .bT rfl rfl (fun hb=>.nil) (fun hb=>o_build rfl rfl rfl))<|.cons (o_guardG .bT rfl rfl (fun hb=>(.strip rfl hb (.strip rfl hb .nil))) (fun hb=>o_eqS (b:=((v24.gComponent == 0) && ((v24.gFirst == 6) && ((v24.gCount == 2) && ((v24.gOpen == false) && ((v24.gFrom == 9) && ((v24.gTo == 20) && true))))))) rfl rfl rfl rfl rfl))<|.cons (o_and rfl rfl)<|.cons (o_move rfl)<|.cons (o_guardG .bT rfl rfl (fun hb=>(.keep .nil)) (fun hb=>o_move rfl))<|.cons (o_guardG .bT rfl rfl (fun hb=>(.strip rfl hb .nil)) (fun hb=>o_call (gap_Until_c (of_gb h25 hb)) rfl (DLeL.refl _) rfl))<|.cons (o_guardG .bT rfl rfl (fun hb=>(.strip rfl hb .nil)) (fun hb=>o_int rfl rfl rfl))<|.cons (o_and rfl rfl)<|.cons (o_assign rfl)<|.nil _) ?_
      obtain rfl:=Option.some.inj hM
      exact a_ret (a_post (.r1 (.tmp rfl)) (DLe.refl _) PostOk.nil.spec)
    ·replace hd18:=Bool.eq_false_iff.2 hd18
     replace hM:=(of_if hM).2 hd18
     refine ar (.cons (o_move rfl)<|.cons (t_len rfl)<|.cons (o_int rfl rfl rfl)<|.cons (o_move rfl)<|.cons (o_guardG .bF rfl rfl (fun hb=>(.keep .nil)) (fun hb=>o_move rfl))<|.cons (o_guardG .bF rfl rfl (fun hb=>(.strip rfl hb .nil)) (fun hb=>t_index (of_gb h14 hb) rfl rfl rfl))<|.cons (o_guardG .bF rfl rfl (fun hb=>(.strip rfl hb .nil)) (fun hb=>o_load_er rfl rfl rfl))<|.cons (o_guardG .bF rfl rfl (fun hb=>.nil) (fun hb=>o_build rfl rfl rfl))<|.cons (o_guardG .bF rfl rfl (fun hb=>(.strip rfl hb (.strip rfl hb .nil))) (fun hb=>o_neS (b:=((v15.gComponent == 0) && ((v15.gFirst == 2) && ((v15.gCount == 3) && ((v15.gOpen == false) && ((v15.gFrom == 4) && ((v15.gTo == 9) && true))))))) rfl rfl rfl rfl rfl))<|.cons (o_or rfl rfl)<|.cons (o_move rfl)<|.cons (o_guardG .bF rfl rfl (fun hb=>(.keep .nil)) (fun hb=>o_move rfl))<|.cons (o_guardG .bF rfl rfl (fun hb=>(.strip rfl hb .nil)) (fun hb=>t_index (of_gb h16 hb) rfl rfl rfl))<|.cons (o_guardG .bF rfl rfl (fun hb=>(.strip rfl hb .nil)) (fun hb=>o_load_er rfl rfl rfl))<|.cons (o_guardG .bF rfl rfl (fun hb=>.nil) (fun hb=>o_build rfl rfl rfl))<|.cons (o_guardG .bF rfl rfl (fun hb=>(.strip rfl hb (.strip rfl hb .nil))) (fun hb=>o_neS (b:=((v17.gComponent == 0) && ((v17.gFirst == 6) && ((v17.gCount == 0) && ((v17.gOpen == true) && ((v17.gFrom == 9) && ((v17.gTo == 20) && true))))))) rfl rfl rfl rfl rfl))<|.cons (o_or rfl rfl)<|.cons (o_move rfl)<|.cons (o_guardG .bF rfl rfl (fun hb=>(.keep .nil)) (fun hb=>o_move rfl))<|.cons (o_guardG .bF rfl rfl (fun hb=>(.keep .nil)) (fun hb=>o_move rfl))<|.cons (o_guardOff (.int .i64 0) .bF rfl rfl hd18)<|.cons (o_guardOff (.bool false) .bF rfl rfl hd18)<|.cons (o_or rfl rfl)<|.nil _) ?_
     refine a_cond _ rfl (fun h18=>?_) (fun h18=>?_)
     ·replace hM:=(of_if hM).1 h18
      refine a_seq (ar (.cons (o_assign rfl)<|.nil _) ?_)
      obtain rfl:=Option.some.inj hM
      exact a_ret (a_post (.r1 (.tmp rfl)) (DLe.refl _) PostOk.nil.spec)
     ·replace hM:=(of_if hM).2 h18
      refine a_skip (a_seq ?_)
      obtain ⟨v20,h19,hM⟩ := of_bind hM
      refine ar (.cons (o_move rfl)<|.cons (o_callN (fun i=>bif Nat.beq i 100000 then 10001 else bif Nat.beq i 100001 then 10004 else i) 0 (gap_Of_v1_c h19) rfl (DLeL.refl _) (.cons rfl (.cons rfl .nil)) rfl (.cons rfl (.cons rfl .nil)))<|.cons (o_assign rfl)<|.nil _) ?_
      refine a_seq ?_
      obtain ⟨v22,h21,hM⟩ := of_bind hM
      obtain ⟨v24,h23,hM⟩ := of_bind hM
      refine ar (.cons (o_move rfl)<|.cons (t_len rfl)<|.cons (o_int rfl rfl rfl)<|.cons (o_move rfl)<|.cons (o_guardG .bT rfl rfl (fun hb=>(.keep .nil)) (fun hb=>o_move rfl))<|.cons (o_guardG .bT rfl rfl (fun hb=>(.strip rfl hb .nil)) (fun hb=>t_index (of_gb h21 hb) rfl rfl rfl))<|.cons (o_guardG .bT rfl rfl (fun hb=>(.strip rfl hb .nil)) (fun hb=>o_load_er rfl rfl rfl))<|.cons (o_guardG .bT rfl rfl (fun hb=>.nil) (fun hb=>o_build rfl rfl rfl))<|.cons (o_guardG .bT rfl rfl (fun hb=>(.strip rfl hb (.strip rfl hb .nil))) (fun hb=>o_eqS (b:=((v22.gComponent == 0) && ((v22.gFirst == 6) && ((v22.gCount == 2) && ((v22.gOpen == false) && ((v22.gFrom == 9) && ((v22.gTo == 20) && true))))))) rfl rfl rfl rfl rfl))<|.cons (o_and rfl rfl)<|.cons (o_move rfl)<|.cons (o_guardG .bT rfl rfl (fun hb=>(.keep .nil)) (fun hb=>o_move rfl))<|.cons (o_guardG .bT rfl rfl (fun hb=>(.strip rfl hb .nil)) (fun hb=>o_call (gap_Until_c (of_gb h23 hb)) rfl (DLeL.refl _) rfl))<|.cons (o_guardG .bT rfl rfl (fun hb=>(.strip rfl hb .nil)) (fun hb=>o_int rfl rfl rfl))<|.cons (o_and rfl rfl)<|.cons (o_assign rfl)<|.nil _) ?_
      obtain rfl:=Option.some.inj hM
      exact a_ret (a_post (.r1 (.tmp rfl)) (DLe.refl _) PostOk.nil.spec)
 ·refine ar (.cons (o_callN (fun i=>i) 0 (collect_New_c1 h1) rfl (DLeL.refl _) .nil rfl .nil)<|.cons (o_move rfl)<|.cons (o_extract rfl rfl)<|.cons (o_extract rfl rfl)<|.cons (o_assign rfl)<|.cons (o_assign rfl)<|.nil _) ?_
  refine a_seq (a_seq (ar (.cons (o_move rfl)<|.cons (o_int rfl rfl rfl)<|.cons (o_move rfl)<|.cons (o_guardOff (.val (.pointer none)) .bF rfl rfl rfl)<|.cons (o_guardOff (.bool false) .bF rfl rfl rfl)<|.cons (o_or rfl rfl)<|.nil _) ?_))
  refine a_cond _ rfl (fun _=>?_) (fun c=>by cases c)
  refine a_seq (ar (.cons (o_assign rfl)<|.nil _) ?_)
  obtain rfl:=Option.some.inj hM
  exact a_ret (a_post (.r1 (.tmp rfl)) (DLe.refl _) PostOk.nil.spec)
set_option maxHeartbeats 1000000
def allF (w : World) : FMap:=fun b=>match w.heap[b]? with
 | some (.cells cs _ _)=>some cs
 | _=>none
theorem allF_sat (w : World) : FSat (allF w) w:=by
 intro b cs h
 unfold allF at h
 split at h
 ·rename_i c t fz hb; injection h with h; subst h; exact ⟨t,fz,hb⟩
 ·cases h
theorem law_run {P : Program} {f : FuncId} {args : List DV} {vs : List Value} {W : World} (h : PCall P f args (.bool true)) (hv : RsT (allF W) Gam.no args vs) : Calls P f vs.toArray W (fun e W'=>e = .returned (.bool true)∧Ext W W'):=by
 have H : WS ⟨W,fun _=>False,allF W,0,Gam.no,none,[]⟩ (allF W) Gam.no [] [] W:={
  ent:=fun id e h=>by simp [hget,look] at h
  own:=fun id e g b h=>by simp [hget,look] at h
  apart:=fun id id' e e' g g' b h=>by simp [hget,look] at h
  fs:=allF_sat W
  f0:=FLe.refl _
  fnew:=fun b cs h=>.inl h
  os:=rfl,tape:=rfl,output:=rfl
  size:=Nat.le_refl _
  keep:=fun _ _ _=>rfl
  us:=fun id g h=>by cases h
  gone:=GOne.no
  g0:=GLe.refl _
  gk:=fun id g h=>by cases h }
 refine (h _ (allF W) Gam.no [] [] W vs H hv).mono ?_
 rintro e w' ⟨v,F',rfl,_,K,hr⟩
 simp only [Rs] at hr
 exact ⟨by rw [hr],⟨K.os,K.tape,K.output,K.size,fun k hk=>K.keep k hk (fun h=>h)⟩⟩
end Go.Proofs.YtepkcbalmjnhpaaGreatDoor
