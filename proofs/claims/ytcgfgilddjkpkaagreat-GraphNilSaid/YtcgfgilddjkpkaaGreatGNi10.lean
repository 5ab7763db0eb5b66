/-
  What the claim leans on, part 10.
-/
import Derived.Test.YtcgfgilddjkpkaaGreatGNi9
import Derived.Test.YtcgfgilddjkpkaaGreatProg
import Derived.Shelf.SlSortCmp.NoneTotal
set_option maxRecDepth 100000
set_option maxHeartbeats 2000000
set_option linter.unusedVariables false
namespace Go.Proofs
open Go.Shelf Go.RowKit Go.Lib Go.Sort
def Tryz.sortSpan_ren : Ren:={ f:=fun x=>match x with | 6=>115 | 15=>55 | 14=>141 | 28=>83 | 29=>84 | 20=>151 | 21=>152 | 22=>153 | 23=>154 | 24=>155 | 25=>156 | 26=>157 | 27=>158 | 46=>163 | 47=>126 | 48=>127 | 49=>164 | 50=>165 | 57=>167 | n=>n,t:=fun x=>match x with | 22=>99 | 24=>147 | 25=>195 | 3=>3 | 39=>116 | 0=>0 | 53=>132 | 55=>22 | 4=>4 | 46=>155 | 45=>154 | 50=>79 | 5=>5 | 9=>9 | 66=>201 | 70=>204 | 76=>221 | 77=>173 | n=>n,g:=fun n=>n }
theorem Tryz.sortSpan : SlLaysF0.n6 Tryz.prog Tryz.sortSpan_ren where
 mixed:=by kernel_rfl
 f6:=Exists.intro "slices.SortFunc[[]rootcause/collect.span,rootcause/collect.span]" ⟨by decide,Eq.trans Tryz.func115 (congrArg some (by kernel_rfl))⟩
 f14:=Exists.intro "slices.pdqsortCmpFunc[rootcause/collect.span]" ⟨by decide,Eq.trans Tryz.func141 (congrArg some (by kernel_rfl))⟩
 f15:=Eq.trans Tryz.func55 (congrArg some (by kernel_rfl))
 f20:=Exists.intro "slices.insertionSortCmpFunc[rootcause/collect.span]" ⟨by decide,Eq.trans Tryz.func151 (congrArg some (by kernel_rfl))⟩
 f21:=Exists.intro "slices.heapSortCmpFunc[rootcause/collect.span]" ⟨by decide,Eq.trans Tryz.func152 (congrArg some (by kernel_rfl))⟩
 f22:=Exists.intro "slices.breakPatternsCmpFunc[rootcause/collect.span]" ⟨by decide,Eq.trans Tryz.func153 (congrArg some (by kernel_rfl))⟩
 f23:=Exists.intro "slices.choosePivotCmpFunc[rootcause/collect.span]" ⟨by decide,Eq.trans Tryz.func154 (congrArg some (by kernel_rfl))⟩
 f24:=Exists.intro "slices.reverseRangeCmpFunc[rootcause/collect.span]" ⟨by decide,Eq.trans Tryz.func155 (congrArg some (by kernel_rfl))⟩
 f25:=Exists.intro "slices.partialInsertionSortCmpFunc[rootcause/collect.span]" ⟨by decide,Eq.trans Tryz.func156 (congrArg some (by kernel_rfl))⟩
 f26:=Exists.intro "slices.partitionEqualCmpFunc[rootcause/collect.span]" ⟨by decide,Eq.trans Tryz.func157 (congrArg some (by kernel_rfl))⟩
 f27:=Exists.intro "slices.partitionCmpFunc[rootcause/collect.span]" ⟨by decide,Eq.trans Tryz.func158 (congrArg some (by kernel_rfl))⟩
 f28:=Eq.trans Tryz.func83 (congrArg some (by kernel_rfl))
 f29:=Eq.trans Tryz.func84 (congrArg some (by kernel_rfl))
 f46:=Exists.intro "slices.siftDownCmpFunc[rootcause/collect.span]" ⟨by decide,Eq.trans Tryz.func163 (congrArg some (by kernel_rfl))⟩
 f47:=Eq.trans Tryz.func126 (congrArg some (by kernel_rfl))
 f48:=Eq.trans Tryz.func127 (congrArg some (by kernel_rfl))
 f49:=Exists.intro "slices.medianAdjacentCmpFunc[rootcause/collect.span]" ⟨by decide,Eq.trans Tryz.func164 (congrArg some (by kernel_rfl))⟩
 f50:=Exists.intro "slices.medianCmpFunc[rootcause/collect.span]" ⟨by decide,Eq.trans Tryz.func165 (congrArg some (by kernel_rfl))⟩
 f57:=Exists.intro "slices.order2CmpFunc[rootcause/collect.span]" ⟨by decide,Eq.trans Tryz.func167 (congrArg some (by kernel_rfl))⟩
 t0:=Tryz.underlying0
 a0:=Tryz.isAgg0
 z0:=Tryz.sizeOf0
 v0:=Tryz.zeroValue0
 t3:=Tryz.underlying3
 a3:=Tryz.isAgg3
 z3:=Tryz.sizeOf3
 v3:=Tryz.zeroValue3
 t4:=Tryz.underlying4
 a4:=Tryz.isAgg4
 z4:=Tryz.sizeOf4
 v4:=Tryz.zeroValue4
 t5:=Tryz.underlying5
 a5:=Tryz.isAgg5
 z5:=Tryz.sizeOf5
 v5:=Tryz.zeroValue5
 t9:=Tryz.underlying9
 a9:=Tryz.isAgg9
 z9:=Tryz.sizeOf9
 v9:=Tryz.zeroValue9
 t22:=Tryz.underlying99
 a22:=Tryz.isAgg99
 z22:=Tryz.sizeOf99
 v22:=Tryz.zeroValue99
 t25:=Tryz.underlying195
 a25:=Tryz.isAgg195
 z25:=Tryz.sizeOf195
 v25:=Tryz.zeroValue195
 t39:=Tryz.underlying116
 a39:=Tryz.isAgg116
 z39:=Tryz.sizeOf116
 v39:=Tryz.zeroValue116
 t45:=Tryz.underlying154
 a45:=Tryz.isAgg154
 z45:=Tryz.sizeOf154
 v45:=Tryz.zeroValue154
 t46:=Tryz.underlying155
 a46:=Tryz.isAgg155
 z46:=Tryz.sizeOf155
 v46:=Tryz.zeroValue155
 t50:=Tryz.underlying79
 a50:=Tryz.isAgg79
 z50:=Tryz.sizeOf79
 v50:=Tryz.zeroValue79
 t53:=Tryz.underlying132
 a53:=Tryz.isAgg132
 z53:=Tryz.sizeOf132
 v53:=Tryz.zeroValue132
 t55:=Tryz.underlying22
 a55:=Tryz.isAgg22
 z55:=Tryz.sizeOf22
 v55:=Tryz.zeroValue22
 t66:=Tryz.underlying201
 a66:=Tryz.isAgg201
 z66:=Tryz.sizeOf201
 v66:=Tryz.zeroValue201
 t70:=Tryz.underlying204
 a70:=Tryz.isAgg204
 z70:=Tryz.sizeOf204
 v70:=Tryz.zeroValue204
 t76:=Tryz.underlying221
 a76:=Tryz.isAgg221
 z76:=Tryz.sizeOf221
 v76:=Tryz.zeroValue221
 t77:=Tryz.underlying173
 a77:=Tryz.isAgg173
 z77:=Tryz.sizeOf173
 v77:=Tryz.zeroValue173
end Go.Proofs
set_option maxHeartbeats 1000000
set_option linter.unusedSimpArgs false
namespace Go.Proofs.YtcgfgilddjkpkaaGreat
open Go.Shelf Go.RowKit Go.Sort
def spanCmp (x y : CSpan) : Int:=if x.gfrom < y.gfrom then -1 else if y.gfrom < x.gfrom then 1 else 0
def spanEnc (x : CSpan) : List Value:=[.int .u64 x.gfrom,.int .u64 x.gto]
instance : Inhabited CSpan := ⟨⟨0,0⟩⟩
def spanPdq (xs : List CSpan) : List CSpan:=(pdq (ltOf spanCmp) xs.toArray 0 xs.toArray.size (Lib.bitLen xs.toArray.size) true true).toList
def spanSort (xs : List CSpan) : Option (List CSpan):=chk (xs.length < 4611686018427387904) (some (spanPdq xs))
theorem span_lt (x y : CSpan) : ltOf spanCmp x y = decide (x.gfrom < y.gfrom):=by
 unfold ltOf spanCmp
 by_cases h1 : x.gfrom < y.gfrom
 ·simp [h1]
 ·by_cases h2 : y.gfrom < x.gfrom <;> simp [h1,h2]
theorem span_swo : SWO (ltOf spanCmp) where
 irrefl x:=by rw [span_lt]; simp
 trans x y z h1 h2:=by rw [span_lt] at *; simp at *; omega
 ntrans x y z h1 h2:=by rw [span_lt] at *; simp at *; omega
theorem span_closure (x y : CSpan) (W : World) : Calls Tryz.prog 116 #[.agg #[.int .u64 x.gfrom,.int .u64 x.gto],.agg #[.int .u64 y.gfrom,.int .u64 y.gto]] W fun e w'=>e = .returned (.int .i64 (spanCmp x y))∧∃ q os',w' = grow (W.drewN q) os' := by
 have hc:=Lib.hid (show spanCmp x y = if x.gfrom < y.gfrom then -1 else if y.gfrom < x.gfrom then 1 else 0 from rfl)
 generalize spanCmp x y = r at hc ⊢
 obtain ⟨a,b⟩ := x
 obtain ⟨c,d⟩ := y
 dsimp only at hc ⊢
 by_cases h1 : a < c
 ·have hr : r = -1:=by rw [hc.out,if_pos h1]
  subst hr
  clear hc
  go_enter Tryz.func116,Tryz.ntmps116
  go_wp2
  go_ret
  exact ⟨rfl,0,_,by rw [alloc_eq_grow,alloc_eq_grow,grow_grow]; rfl⟩
 ·by_cases h2 : c < a
  ·have hr : r = 1:=by rw [hc.out,if_neg h1,if_pos h2]
   subst hr
   clear hc
   have h3 : a > c:=h2
   go_enter Tryz.func116,Tryz.ntmps116
   go_wp2
   go_ret
   exact ⟨rfl,0,_,by rw [alloc_eq_grow,alloc_eq_grow,grow_grow]; rfl⟩
  ·have hr : r = 0:=by rw [hc.out,if_neg h1,if_neg h2]
   subst hr
   clear hc
   have h3 : ¬ a > c:=h2
   go_enter Tryz.func116,Tryz.ntmps116
   go_wp2
   go_ret
   exact ⟨rfl,0,_,by rw [alloc_eq_grow,alloc_eq_grow,grow_grow]; rfl⟩
theorem flatK_list {α : Type} [Inhabited α] (enc : α→List Value) (k : Nat) (hk : ∀ x,(enc x).length = k) (h0 : 0 < k) : ∀ xs : List α,(flatK enc k xs.toArray).toList = xs.flatMap enc:=by
 have get : ∀ (xs : List α) (t : Nat),t < xs.length * k→(xs.flatMap enc)[t]? = some ((enc xs[t / k]!)[t % k]!):=by
  intro xs
  induction xs with
  | nil=>intro t h; simp at h
  | cons x xs ih=>
   intro t h
   rw [List.flatMap_cons,List.getElem?_append,hk]
   by_cases ht : t < k
   ·rw [if_pos ht,Nat.div_eq_of_lt ht,Nat.mod_eq_of_lt ht]
    have hl : t < (enc x).length:=by rw [hk]; exact ht
    simp [List.getElem?_eq_getElem hl,getElem!_pos,hl]
   ·rw [if_neg ht]
    have hge : k≤t:=Nat.le_of_not_lt ht
    have hlt : t - k < xs.length * k:=by simp only [List.length_cons,Nat.succ_mul] at h; omega
    rw [ih (t - k) hlt]
    have hd : t / k = (t - k) / k + 1:=by
     have : t = (t - k) + k:=by omega
     conv=>lhs; rw [this]
     exact Nat.add_div_right _ h0
    have hm : t % k = (t - k) % k:=by
     have : t = (t - k) + k:=by omega
     conv=>lhs; rw [this]
     exact Nat.add_mod_right _ _
    rw [hd,hm]
    simp
 intro xs
 apply List.ext_getElem?
 intro t
 by_cases h : t < xs.length * k
 ·rw [get xs t h]
  have hs : t < (flatK enc k xs.toArray).size:=by simpa using h
  have:=get_flatK enc k xs.toArray t (by simpa using h)
  rw [getElem!_pos (flatK enc k xs.toArray) t hs] at this
  rw [Array.getElem?_toList,Array.getElem?_eq_getElem hs,this]
  simp
 ·have hl : (xs.flatMap enc).length = xs.length * k:=by
   clear h get
   induction xs with
   | nil=>simp
   | cons x xs ih=>rw [List.flatMap_cons,List.length_append,ih,hk,List.length_cons,Nat.succ_mul]; omega
  rw [List.getElem?_eq_none (l:=xs.flatMap enc) (by rw [hl]; omega),List.getElem?_eq_none (l:=(flatK enc k xs.toArray).toList) (by simp; omega)]
theorem sortW_heap {α : Type} [Inhabited α] (enc : α→List Value) (k : Nat) {w : World} {b m : Nat} {d : Array α} {os : Array Obj} {cur : Array Value} {E : TypeId} (hb : w.heap[b]? = some (.cells cur E (0,0))) (hd : d.size * k≤cur.size) :
  (∃ cur',(sortWorldK enc k w b 0 m d os).heap[b]? = some (.cells cur' E (0,0))∧cur'.size = cur.size∧cur'.toList.take (d.size * k) = (flatK enc k d).toList)∧Stp w (sortWorldK enc k w b 0 m d os) (some b):=by
 have hlt:=(Array.getElem?_eq_some_iff.1 hb).1
 have hput : (putRowK enc k (Sort.ahead w m) b 0 d).heap[b]? = some (.cells (putCells id 0 (flatK enc k d) cur) E (0,0)):=by
  simp [putRowK,putRow,mapBlock,Sort.ahead,Array.getElem?_modify,hb,onCells]
 have hsz : (putRowK enc k (Sort.ahead w m) b 0 d).heap.size = w.heap.size:=by simp [putRowK,putRow,mapBlock,Sort.ahead]
 refine ⟨⟨putCells id 0 (flatK enc k d) cur,?_,by simp [putCells],?_⟩,⟨rfl,rfl,rfl,?_,fun j hj hne=>?_⟩⟩
 ·have : b < (putRowK enc k (Sort.ahead w m) b 0 d).heap.size:=by rw [hsz]; exact hlt
  simp only [sortWorldK,grow]
  rw [Array.getElem?_append_left this]; exact hput
 ·apply List.ext_getElem?
  intro t
  rw [List.getElem?_take]
  by_cases ht : t < d.size * k
  ·rw [if_pos ht]
   have h1 : t < (flatK enc k d).size:=by simpa using ht
   have h2 : t < cur.size:=by omega
   simp only [putCells,Array.getElem?_toList,Array.getElem?_mapIdx,Array.getElem?_eq_getElem h2,Array.getElem?_eq_getElem h1,Option.map_some,Nat.zero_le,true_and,Nat.zero_add,h1,if_true,Nat.sub_zero,id]
   rw [getElem!_pos (flatK enc k d) t h1]
  ·rw [if_neg ht,List.getElem?_eq_none (by simp; omega)]
 ·simp only [sortWorldK,grow,Array.size_append]; rw [hsz]; omega
 ·have : j < (putRowK enc k (Sort.ahead w m) b 0 d).heap.size:=by rw [hsz]; exact hj
  have hne' : b≠j:=fun e=>hne (by rw [e])
  simp only [sortWorldK,grow]
  rw [Array.getElem?_append_left this]
  simp [putRowK,putRow,mapBlock,Sort.ahead,Array.getElem?_modify,hne']
theorem sort_bridge {P : Program} {α : Type} [Inhabited α] (enc : α→List Value) (dv : α→DV) (k : Nat) (E : TypeId) (fn g : FuncId) (sortF : List α→List α) (hlen : ∀ x,(enc x).length = k) (hk0 : 0 < k)
  (hE : ∀ (F : FMap) (xs : List α) (cs : List Value),RsE F k (xs.map dv) cs↔cs = xs.flatMap enc)
  (hcall : ∀ (blk cap : Nat) (d : Array α) (w : World),HoldsK enc k w blk 0 d→blk < w.heap.size→d.size < 4611686018427387904 →
   Calls P fn #[.slice (some ⟨blk,0,none⟩) d.size cap,.func (.func g) #[] #[]] w fun e w'=>e = .returned (.tuple #[])∧∃ n os,w' = sortWorldK enc k w blk 0 n (sortF d.toList).toArray os)
  (hnone : ∀ (p : Option Addr) (cap : Nat) (fv : Value) (w : World),Calls P fn #[.slice p 0 cap,fv] w fun e w'=>e = .returned (.tuple #[])∧w' = w)
  (hsl : ∀ xs,(sortF xs).length = xs.length) (xs : List α) (hx : xs.length < 4611686018427387904) :
  ACall P fn ⟨[.row 100000,.val (.func (.func g) #[] #[])],[(100000,some (.row E k (xs.map dv)))],.tup [],[(100000,some (.row E k ((sortF xs).map dv)))],[]⟩ := by
 intro C F γ heap used w vs f hpre hnew hinj H hv
 have he : hget heap (f 100000) = some (.row E k (xs.map dv)):=hpre 100000 (.row E k (xs.map dv)) rfl
 obtain ⟨gv,hg,cs,hown,hcs⟩ := H.ent _ _ he
 simp only [renL,DV.ren,RsT,Rs] at hv
 obtain ⟨v1,r1,rfl,k1,v2,r2,rfl,rfl,rfl⟩ := hv
 rw [hg] at k1; injection k1 with k1; subst k1
 rw [hE] at hcs
 rw [List.length_map] at hown
 have keep : ∀ (w' : World),Stp w w' none→xs = []→∃ v F' γ',Ending.returned (.tuple #[]) = .returned v∧FLe F F'∧GLe γ γ'∧WS C F' γ' (renH f [(100000,some (.row E k ((sortF xs).map dv)))]++heap) (List.map f []++used) w'∧Rs F' γ' (DV.ren f (.tup [])) v:=by
  intro w' S h0
  have h1 : sortF xs = []:=List.eq_nil_of_length_eq_zero (by rw [hsl,h0]; rfl)
  refine ⟨_,F,γ,rfl,FLe.refl _,GLe.refl _,(H.quiet S).congr (fun i e hi=>?_) (fun _ h=>h),by simp [DV.ren,renL,Rs,RsT]⟩
  simp only [renH,List.map_cons,List.map_nil,List.cons_append,List.nil_append,Option.map_some,HE.ren] at hi
  rw [hget_cons] at hi
  split at hi
  ·rename_i e1; subst e1; rw [he,← hi,h1,h0]
  ·exact hi
 by_cases hxe : xs = []
 ·have hgn : ∃ p cap,gv = .slice p 0 cap:=by
   rcases hown.2 with ⟨q,_⟩ | ⟨b,cap,cur,q,_⟩
   ·exact ⟨none,0,q⟩
   ·rw [hxe] at q; exact ⟨_,cap,q⟩
  obtain ⟨p,cap,rfl⟩ := hgn
  refine (hnone p cap _ w).mono ?_
  rintro e w' ⟨rfl,rfl⟩
  exact keep _ (Stp.refl _) hxe
 ·rcases hown.2 with ⟨_,q⟩ | ⟨b,cap,cur,rfl,q1,q2,q3,q4,q5,q6⟩
  ·exact absurd (List.eq_nil_of_length_eq_zero q) hxe
  ·have hfl:=flatK_list enc k hlen hk0
   have hcl : cs.length = xs.length * k:=hown.1
   have hH : HoldsK enc k w b 0 xs.toArray:=by
    intro j hj
    have hj' : j < xs.length * k:=by simpa using hj
    have hjc : j < cur.size:=by
     rw [q5]; exact Nat.lt_of_lt_of_le hj' (Nat.mul_le_mul_right _ q3)
    have e1 : (flatK enc k xs.toArray)[j]! = cur[j]:=by
     have a1 : (flatK enc k xs.toArray).toList[j]? = some (flatK enc k xs.toArray)[j]! := by
      rw [Array.getElem?_toList,Array.getElem?_eq_getElem hj,getElem!_pos (flatK enc k xs.toArray) j hj]
     rw [hfl,← hcs,← q6,List.getElem?_take,if_pos hj',Array.getElem?_toList,Array.getElem?_eq_getElem hjc] at a1
     exact (Option.some.inj a1).symm
    refine ⟨?_,?_⟩
    ·simp only [World.cell?,q2,Nat.zero_add,id,e1]
     simp [hjc]
    ·simp [World.frozen?,q2]
   have hlt : b < w.heap.size:=(Array.getElem?_eq_some_iff.1 q2).1
   have:=hcall b cap xs.toArray w hH hlt (by simpa using hx)
   simp only [List.size_toArray] at this
   refine this.mono ?_
   rintro e w' ⟨rfl,m,os,rfl⟩
   have hd : (sortF xs).toArray.size * k≤cur.size:=by
    simp only [List.size_toArray,hsl]; rw [q5]; exact Nat.mul_le_mul_right _ q3
   obtain ⟨⟨cur',c1,c2,c3⟩,S⟩ := sortW_heap enc k (m:=m) (os:=os) q2 hd
   refine ⟨_,F,γ,rfl,FLe.refl _,GLe.refl _,?_,by simp [DV.ren,renL,Rs,RsT]⟩
   have hT:=H.turn he hg (by simpa [Value.pblk] using S)
   have hP:=hT.put (e0:=.row E k ((sortF xs).map dv)) hg ⟨(sortF xs).flatMap enc,?_,(hE _ _ _).2 rfl⟩ (fun b' hb'=>?_)
   ·refine hP.congr (fun i e hi=>?_) (fun _ h=>h)
    simp only [renH,List.map_cons,List.map_nil,List.cons_append,List.nil_append,Option.map_some,HE.ren] at hi
    rw [hget_cons] at hi ⊢
    split at hi
    ·rename_i e1; rw [if_pos e1]; exact hi
    ·rename_i e1; rw [if_neg e1,hget_cons,if_neg e1]; exact hi
   ·have hfl2 : ((sortF xs).flatMap enc).length = (sortF xs).length * k:=by
     rw [← hfl]; simp
    refine ⟨by rw [List.length_map]; exact hfl2,.inr ⟨b,cap,cur',?_,Nat.zero_le _,c1,?_,q4,by rw [c2,q5],?_⟩⟩
    ·rw [List.length_map,hsl]
    ·rw [List.length_map,hsl]; exact q3
    ·rw [List.length_map,← hfl,← c3]; simp
   ·have q:=H.own _ _ _ b' he hg hb'
    refine ⟨q.1,q.2,fun id' e' g' hne hh2 hg' hb''=>?_⟩
    rw [hget_cons] at hh2
    split at hh2
    ·cases hh2
    ·exact hne (H.apart id' _ e' _ g' _ b' hh2 he hg' hg hb'' hb')
theorem span_rsE (F : FMap) : ∀ (xs : List CSpan) (cs : List Value),RsE F 2 (xs.map CSpan.dv) cs↔cs = xs.flatMap spanEnc
 | [],cs=>by simp [RsE]
 | x :: xs,cs=>by
  simp only [List.map_cons,RsE,List.flatMap_cons,span_rsE F xs]
  constructor
  ·rintro ⟨v,rest,rfl,h1,h2,h3,rfl⟩
   congr 1
   simp only [CSpan.dv,CSpan.cs,Rs,RsL] at h3
   obtain ⟨cs,rfl,v1,r1,e1,_,rfl,v2,r2,rfl,_,rfl,rfl⟩ := h3
   simpa [Value.cells,spanEnc] using e1
  ·rintro rfl
   exact ⟨.agg #[.int .u64 x.gfrom,.int .u64 x.gto],_,rfl,rfl,by simp [Value.cells,Value.oneCell'],by
    simp only [CSpan.dv,CSpan.cs,Rs,RsL]
    exact ⟨_,rfl,_,_,rfl,rfl,rfl,_,_,rfl,rfl,rfl,rfl⟩,rfl⟩
theorem spanPdq_spec (xs : List CSpan) : PermIn 0 xs.toArray.size xs.toArray (spanPdq xs).toArray∧SortedIn (ltOf spanCmp) 0 xs.toArray.size (spanPdq xs).toArray:=by
 have h:=pdq_sorts (ltOf spanCmp) span_swo xs.toArray 0 xs.toArray.size (Lib.bitLen xs.toArray.size) true true (Nat.zero_le _) (Nat.le_refl _) (Or.inl rfl)
 simpa [spanPdq] using h
theorem spanPdq_len (xs : List CSpan) : (spanPdq xs).length = xs.length:=by
 have:=(spanPdq_spec xs).1.1
 simpa using this
theorem spanSort_c {x r : List CSpan} (hM : spanSort x = some r) : ACall Tryz.prog 115 ⟨[.row 100000,.val (.func (.func 116) #[] #[])],[(100000,some (.row 147 2 (List.map CSpan.dv x)))],.tup [],[(100000,some (.row 147 2 (List.map CSpan.dv r)))],[]⟩ := by
 obtain ⟨h,hM⟩ := of_chk hM
 obtain rfl:=Option.some.inj hM
 refine sort_bridge spanEnc CSpan.dv 2 _ _ _ spanPdq (fun _=>rfl) (by decide) span_rsE (fun blk cap d w hH hlt hsz=>?_) (fun p cap fv w=>?_) spanPdq_len x h
 ·have eg : ∀ args w,(callFunc 116 args).run Tryz.prog w = .ok (.enter 116 args) w:=enters_of Tryz.func116 (by kernel_rfl) rfl
  have aE : ∀ w,(isAgg 147).run Tryz.prog w = .ok true w:=fun w=>by simp [isAgg,run_underlying Tryz.underlying147]
  have zE : ∀ w,(Go.sizeOf 147).run Tryz.prog w = .ok 2 w:=fun w=>by
   have : (Tryz.prog.info? 147).map (·.size) = some 2:=by kernel_rfl
   cases hi : Tryz.prog.info? 147 with
   | none=>rw [hi] at this; cases this
   | some i=>rw [hi] at this; injection this with this; simp [Go.sizeOf,typeInfo,hi,this]
  have hcon:=AnyQ.slices_SortFunc_eq Tryz.sortSpan 2 aE zE spanEnc (fun _=>rfl) (fun x v hv=>by simp [spanEnc] at hv; rcases hv with rfl | rfl <;> rfl) spanCmp span_swo 116 #[] blk 0 cap d w eg (fun _ _ _ _ x y=>span_closure x y _) hH hlt hsz
  change Calls Tryz.prog 115 _ _ _ at hcon
  refine hcon.mono ?_
  rintro e w' ⟨rfl,n,os,rfl⟩
  exact ⟨rfl,n,os,by simp [spanPdq]⟩
 ·have:=AnyF.slices_SortFunc_none Tryz.sortSpan p cap fv w
  exact this
end Go.Proofs.YtcgfgilddjkpkaaGreat
set_option maxHeartbeats 4000000
namespace Go.Proofs.YtcgfgilddjkpkaaGreat
open Go.RowKit
def collect_mergeSpans_K1 (a5 : List CSpan) (a6 : Int) : Option (List CSpan) :=
 chk (slOk (List.length a5) 0 a6)<|
 some (List.take (Int.toNat a6) a5)
def collect_mergeSpans_L2 (k8 : Nat) (a9 : List CSpan) (a10 : Int) : Option ((List CSpan) × Int) :=
 (idx a9 (k8 : Int)).bind fun v15=>
 (gb (decide (0 < a10)) (CSpan.mk 0 0) (idx a9 (IntKind.wrap .i64 (a10 - 1)))).bind fun v17=>
 if ((decide (0 < a10)) && (decide (v15.gfrom≤v17.gto))) = true then
  (idx a9 (IntKind.wrap .i64 (a10 - 1))).bind fun v20=>
  (idx a9 (IntKind.wrap .i64 (a10 - 1))).bind fun v22=>
  some ((List.set a9 (Int.toNat (IntKind.wrap .i64 (a10 - 1))) (CSpan.mk v22.gfrom (if v15.gto > v20.gto then v15.gto else v20.gto))),a10)
 else
  (idx a9 a10).bind fun v24=>
  some ((List.set a9 (Int.toNat a10) v15),(IntKind.wrap .i64 (a10 + 1)))
def collect_mergeSpans (x0 : List CSpan) (x1 : List CSpan) : Option (List CSpan) :=
 (catS [x0,x1]).bind fun v2=>
 (spanSort v2).bind fun v4=>
 (foldM' 9223372036854775807 (List.length v4 : Int) (fun k8 s=>collect_mergeSpans_L2 k8 s.1 s.2) (v4,0)).bind fun s=>collect_mergeSpans_K1 s.1 s.2
theorem collect_mergeSpans_c {x0 : List CSpan} {x1 : List CSpan} {r : (List CSpan)} (hM : collect_mergeSpans x0 x1 = some r) : PCall Tryz.prog 72 [.sl 2 (List.map CSpan.dv x0),.sl 2 (List.map CSpan.dv x1)] (.sl 2 (List.map CSpan.dv r)):=by
 unfold collect_mergeSpans at hM
 refine PCall.body Tryz.func72 Tryz.ntmps72 rfl rfl rfl rfl ?_
 refine a_seq (ar (.cons (o_assign rfl)<|.nil _) ?_)
 refine a_seq ?_
 obtain ⟨v2,h1,hM⟩ := of_bind hM
 refine ar (.cons (o_move rfl)<|.cons (o_move rfl)<|.cons (o_frz (t_build (encSl 2 CSpan.dv) ([x0,x1] : List (List CSpan)) rfl rfl rfl rfl rfl rfl rfl))<|.cons (o_callN (fun i=>bif Nat.beq i 50000 then 12 else i) 1 (catS_c h1) rfl (DLeL.refl _) .nil rfl .nil)<|.cons (o_assign rfl)<|.nil _) ?_
 refine a_seq ?_
 obtain ⟨v4,h3,hM⟩ := of_bind hM
 refine ar (.cons (o_move rfl)<|.cons (o_callN (fun i=>bif Nat.beq i 100000 then 12 else i) 1 (spanSort_c h3) rfl (DLeL.refl _) (.cons rfl .nil) rfl .nil)<|.nil _) ?_
 refine a_seq (ar (.cons (o_assign rfl)<|.nil _) ?_)
 refine a_cut (α:=(List CSpan) × Int) (fun s=>⟨[(5,.sl 2 (List.map CSpan.dv s.1)),(6,.int .i64 s.2)],[],[]⟩) (fun s=>collect_mergeSpans_K1 s.1 s.2 = some r) ?_ ?_
 ·refine a_seq (ar (.cons (o_move rfl)<|.cons (t_len_r rfl rfl)<|.cons (o_move rfl)<|.nil _) ?_)
  obtain ⟨⟨a9,a10⟩,hL11,hK11⟩ := of_bind hM
  refine a_block ?_
  refine a_fold (fun k8 (s : (List CSpan) × Int)=>⟨[(5,.row 10001),(6,.int .i64 s.2),(15,.row 10001),(16,.int .i64 (List.length v4 : Int)),(17,.int .i64 (k8 : Int))],[(10001,some (.row 147 2 (List.map CSpan.dv s.1)))],[10001]⟩) _ hL11 (Imp.sh (fun i=>bif Nat.beq i 10001 then 12 else i) rfl rfl rfl rfl rfl rfl) ?_ ?_
  ·rintro k8 ⟨a9,a10⟩ t12 hk8 hx8 hM
   replace hM : collect_mergeSpans_L2 k8 a9 a10 = some t12:=hM
   unfold collect_mergeSpans_L2 at hM
   refine a_seq (ar (.cons (o_int rfl rfl rfl)<|.nil _) ?_)
   refine a_seq ?_
   refine a_cond _ rfl (fun _=>?_) (fun c=>absurd hk8 (of_decide_eq_false c))
   refine a_skip (a_seq (a_block (a_seq ?_)))
   obtain ⟨v15,h14,hM⟩ := of_bind hM
   refine ar (.cons (t_index_r h14 rfl rfl rfl)<|.cons (t_load_pr h14 rfl rfl rfl rfl rfl)<|.cons (o_alloc rfl)<|.cons (o_store rfl rfl rfl rfl rfl rfl rfl)<|.nil _) ?_
   refine a_seq (a_seq ?_)
   obtain ⟨v17,h16,hM⟩ := of_bind hM
   refine ad mixed (.cons (o_move rfl)<|.cons (o_int rfl rfl rfl)<|.cons (o_move rfl)<|.cons (o_guardG .bT rfl rfl (fun hb=>(.keep .nil)) (fun hb=>o_fieldAddr rfl))<|.cons (o_guardG .bT rfl rfl (fun hb=>(.strip rfl hb .nil)) (fun hb=>o_load_s rfl rfl rfl))<|.cons (o_guardG .bT rfl rfl (fun hb=>(.keep .nil)) (fun hb=>o_move rfl))<|.cons (o_guardG .bT rfl rfl (fun hb=>(.keep .nil)) (fun hb=>o_move rfl))<|.cons (o_guardG .bT rfl rfl (fun hb=>(.strip rfl hb .nil)) (fun hb=>o_int rfl rfl rfl))<|.cons (o_guardG .bT rfl rfl (fun hb=>(.strip rfl hb (.strip rfl hb .nil))) (fun hb=>t_index_r (of_gb h16 hb) rfl rfl rfl))<|.cons (o_guardG .bT rfl rfl (fun hb=>(.strip rfl hb .nil)) (fun hb=>o_fieldAddr_p rfl))<|.cons (o_guardG .bT rfl rfl (fun hb=>(.strip rfl hb .nil)) (fun hb=>t_load_ps (of_gb h16 hb) rfl rfl rfl rfl))<|.cons (o_guardG .bT rfl rfl (fun hb=>(.strip rfl hb (.strip rfl hb .nil))) (fun hb=>o_int rfl rfl rfl))<|.cons (o_and rfl rfl)<|.nil _) ?_
   refine a_cond _ rfl (fun h18=>?_) (fun h18=>?_)
   ·replace hM:=(of_if hM).1 h18
    refine a_seq ?_
    obtain ⟨v20,h19,hM⟩ := of_bind hM
    obtain ⟨v22,h21,hM⟩ := of_bind hM
    refine ad mixed (.cons (o_move rfl)<|.cons (o_move rfl)<|.cons (o_int rfl rfl rfl)<|.cons (o_move rfl)<|.cons (o_move rfl)<|.cons (o_int rfl rfl rfl)<|.cons (t_index_r h19 rfl rfl rfl)<|.cons (o_fieldAddr_p rfl)<|.cons (t_load_ps h19 rfl rfl rfl rfl)<|.cons (o_fieldAddr rfl)<|.cons (o_load_s rfl rfl rfl)<|.cons (o_max rfl rfl)<|.cons (t_index_r h21 rfl rfl rfl)<|.cons (o_fieldAddr_p rfl)<|.cons (t_store_p (CSpan.mk v22.gfrom (if v15.gto > v20.gto then v15.gto else v20.gto)) h21 rfl rfl rfl rfl rfl rfl rfl rfl rfl rfl rfl)<|.nil _) ?_
    refine a_exit (ar (.cons (o_add rfl rfl (inR_i64 hk8 hx8))<|.cons (o_move rfl)<|.nil _) ?_)
    obtain rfl:=Option.some.inj hM
    exact (Imp.of (fun i=>i) (.cons rfl (DLe.refl _) (.cons rfl (DLe.refl _) (.cons rfl (DLe.refl _) (.cons rfl (DLe.refl _) (.cons rfl (DLe.succ _ _) .nil))))) (.cons rfl (.refl _) .nil) rfl rfl rfl)
   ·replace hM:=(of_if hM).2 h18
    refine a_skip (a_seq ?_)
    obtain ⟨v24,h23,hM⟩ := of_bind hM
    refine ar (.cons (o_move rfl)<|.cons (o_move rfl)<|.cons (o_load_r rfl rfl rfl rfl)<|.cons (t_index_r h23 rfl rfl rfl)<|.cons (t_store_p v15 h23 rfl rfl rfl rfl rfl rfl rfl rfl rfl rfl rfl)<|.nil _) ?_
    refine ar (.cons (o_move rfl)<|.cons (o_int rfl rfl rfl)<|.cons (o_assign rfl)<|.nil _) ?_
    refine ar (.cons (o_add rfl rfl (inR_i64 hk8 hx8))<|.cons (o_move rfl)<|.nil _) ?_
    obtain rfl:=Option.some.inj hM
    exact (Imp.of (fun i=>i) (.cons rfl (DLe.refl _) (.cons rfl (DLe.refl _) (.cons rfl (DLe.refl _) (.cons rfl (DLe.refl _) (.cons rfl (DLe.succ _ _) .nil))))) (.cons rfl (.refl _) .nil) rfl rfl rfl)
  ·rintro k8 hk8 hx8
   refine a_seq (ar (.cons (o_int rfl rfl rfl)<|.nil _) ?_)
   refine a_seq ?_
   refine a_cond _ rfl (fun c=>absurd (of_decide_eq_true c) (Int.not_lt.2 hk8)) (fun _=>?_)
   refine a_exit ?_
   exact ⟨(a9,a10),hK11,((Imp.freeze (id:=10001) rfl).trans (Imp.sh (fun i=>i) rfl rfl rfl rfl rfl rfl))⟩
 ·rintro ⟨a5,a6⟩ hM
  replace hM : collect_mergeSpans_K1 a5 a6 = some r:=hM
  unfold collect_mergeSpans_K1 at hM
  refine a_seq ?_
  obtain ⟨h7,hM⟩ := of_chk hM
  refine ar (.cons (o_move rfl)<|.cons (o_move rfl)<|.cons (t_slice_h h7 rfl rfl)<|.cons (o_assign rfl)<|.nil _) ?_
  obtain rfl:=Option.some.inj hM
  exact a_ret (a_post (.r1 (.tmp rfl)) (DLe.refl _) PostOk.nil.spec)
def CPart_merge_K1 (x0 : CPart) (x1 : CPart) (v3 : (List RRec) × Bool) : Option (CPart × Bool) :=
 (collect_mergeSpans x0.glost x1.glost).bind fun v6=>
 (gb ((decide (0 < (List.length v6 : Int))) && (x0.gknown || x1.gknown)) (CSpan.mk 0 0) (idx v6 (IntKind.wrap .i64 ((List.length v6 : Int) - 1)))).bind fun v8=>
 if (((decide (0 < (List.length v6 : Int))) && (x0.gknown || x1.gknown)) && (decide ((if x1.gtotal > x0.gtotal then x1.gtotal else x0.gtotal) < v8.gto))) = true then
  some ((CPart.mk [] [] false 0),false)
 else
  (collect_without v6 v3.1).bind fun v11=>
  some ((CPart.mk v3.1 v11 (x0.gknown || x1.gknown) (if x1.gtotal > x0.gtotal then x1.gtotal else x0.gtotal)),true)
def CPart_merge (x0 : CPart) (x1 : CPart) : Option (CPart × Bool) :=
 if ((x0.gknown && x1.gknown) && (x0.gtotal != x1.gtotal)) = true then
  some ((CPart.mk [] [] false 0),false)
 else
  (collect_mergeEntries x0.gentries x1.gentries).bind fun v3=>
  if (!v3.2) = true then
   some ((CPart.mk [] [] false 0),false)
  else
   if (decide (0 < (List.length v3.1 : Int))) = true then
    (idx v3.1 (IntKind.wrap .i64 ((List.length v3.1 : Int) - 1))).bind fun v14=>
    if ((v14.gSeq == 18446744073709551615) || ((x0.gknown || x1.gknown) && (decide ((if x1.gtotal > x0.gtotal then x1.gtotal else x0.gtotal)≤v14.gSeq)))) = true then
     some ((CPart.mk [] [] false 0),false)
    else
     CPart_merge_K1 x0 x1 v3
   else
    CPart_merge_K1 x0 x1 v3
theorem CPart_merge_c {x0 : CPart} {x1 : CPart} {r : CPart × Bool} (hM : CPart_merge x0 x1 = some r) : PCall Tryz.prog 44 [.agg (CPart.cs x0),.agg (CPart.cs x1)] (.tup [.agg (CPart.cs r.1),.bool r.2]):=by
 unfold CPart_merge at hM
 refine PCall.body Tryz.func44 Tryz.ntmps44 rfl rfl rfl rfl ?_
 refine a_seq (ar (.cons (o_box rfl rfl)<|.cons (o_box rfl rfl)<|.cons (o_alloc rfl)<|.cons (o_assign rfl)<|.nil _) ?_)
 refine a_seq (a_seq (ar (.cons (o_fieldAddr rfl)<|.cons (o_load_s rfl rfl rfl)<|.cons (o_move rfl)<|.cons (o_guardG .bT rfl rfl (fun hb=>(.keep .nil)) (fun hb=>o_fieldAddr rfl))<|.cons (o_guardG .bT rfl rfl (fun hb=>(.strip rfl hb .nil)) (fun hb=>o_load_s rfl rfl rfl))<|.cons (o_and rfl rfl)<|.cons (o_move rfl)<|.cons (o_guardG .bT rfl rfl (fun hb=>(.keep .nil)) (fun hb=>o_fieldAddr rfl))<|.cons (o_guardG .bT rfl rfl (fun hb=>(.strip rfl hb .nil)) (fun hb=>o_load_s rfl rfl rfl))<|.cons (o_guardG .bT rfl rfl (fun hb=>(.keep .nil)) (fun hb=>o_fieldAddr rfl))<|.cons (o_guardG .bT rfl rfl (fun hb=>(.strip rfl hb .nil)) (fun hb=>o_load_s rfl rfl rfl))<|.cons (o_guardG .bT rfl rfl (fun hb=>(.strip rfl hb (.strip rfl hb .nil))) (fun hb=>o_int rfl rfl rfl))<|.cons (o_and rfl rfl)<|.nil _) ?_))
 refine a_cond _ rfl (fun h1=>?_) (fun h1=>?_)
 ·replace hM:=(of_if hM).1 h1
  refine a_seq (ar (.cons (o_build rfl rfl rfl)<|.cons (o_store rfl rfl rfl rfl rfl rfl rfl)<|.cons (o_assign rfl)<|.nil _) ?_)
  obtain rfl:=Option.some.inj hM
  exact a_ret (a_post (.r2 (.cell rfl rfl (.row _ CRow.h (Nat.le_of_ble_eq_true rfl) rfl)) (.tmp rfl)) (DLe.tup (.cons (DLe.agg (.cons (DLe.nils _) (.cons (DLe.nils _) (.cons (DLe.refl _) (.cons (DLe.refl _) .nil))))) (.cons (DLe.refl _) .nil))) PostOk.nil.spec)
 ·replace hM:=(of_if hM).2 h1
  refine a_skip (a_seq (ar (.cons (o_fieldAddr rfl)<|.cons (o_load_s rfl rfl rfl)<|.cons (o_move rfl)<|.cons (o_guardG .bF rfl rfl (fun hb=>(.keep .nil)) (fun hb=>o_fieldAddr rfl))<|.cons (o_guardG .bF rfl rfl (fun hb=>(.strip rfl hb .nil)) (fun hb=>o_load_s rfl rfl rfl))<|.cons (o_or rfl rfl)<|.cons (o_fieldAddr rfl)<|.cons (o_load_s rfl rfl rfl)<|.cons (o_fieldAddr rfl)<|.cons (o_load_s rfl rfl rfl)<|.cons (o_max rfl rfl)<|.cons (o_build rfl rfl rfl)<|.cons (o_alloc rfl)<|.cons (o_store rfl rfl rfl rfl rfl rfl rfl)<|.nil _) ?_))
  refine a_seq (ar (.cons (o_assign rfl)<|.nil _) ?_)
  refine a_seq (a_seq ?_)
  obtain ⟨v3,h2,hM⟩ := of_bind hM
  refine ar (.cons (o_fieldAddr rfl)<|.cons (o_load_s rfl rfl rfl)<|.cons (o_fieldAddr rfl)<|.cons (o_load_s rfl rfl rfl)<|.cons (o_call (collect_mergeEntries_c h2) rfl (DLeL.refl _) rfl)<|.cons (o_move rfl)<|.cons (o_extract rfl rfl)<|.cons (o_extract rfl rfl)<|.cons (o_fieldAddr rfl)<|.cons (o_store_s rfl rfl rfl rfl rfl)<|.cons (o_assign rfl)<|.nil _) ?_
  refine a_seq (ar (.cons (o_move rfl)<|.cons (o_not rfl)<|.nil _) ?_)
  refine a_cond _ rfl (fun h4=>?_) (fun h4=>?_)
  ·replace hM:=(of_if hM).1 h4
   refine a_seq (ar (.cons (o_build rfl rfl rfl)<|.cons (o_store rfl rfl rfl rfl rfl rfl rfl)<|.cons (o_assign rfl)<|.nil _) ?_)
   obtain rfl:=Option.some.inj hM
   exact a_ret (a_post (.r2 (.cell rfl rfl (.row _ CRow.h (Nat.le_of_ble_eq_true rfl) rfl)) (.tmp rfl)) (DLe.tup (.cons (DLe.agg (.cons (DLe.nils _) (.cons (DLe.nils _) (.cons (DLe.refl _) (.cons (DLe.refl _) .nil))))) (.cons (DLe.refl _) .nil))) PostOk.nil.spec)
  ·replace hM:=(of_if hM).2 h4
   refine a_skip ?_
   refine a_cut (α:=Unit) (fun s=>⟨[(2,.ref 2 0),(3,.ref 3 0),(4,.ref 4 0),(6,.ref 6 0)],[(2,some (.blk 101 (CPart.cs x0))),(3,some (.blk 101 (CPart.cs x1))),(4,some (.blk 101 [.nils,.nils,.bool false,.int .u64 0])),(6,some (.blk 101 [.sl 29 (List.map RRec.dv v3.1),.nils,.bool (x0.gknown || x1.gknown),.int .u64 (if x1.gtotal > x0.gtotal then x1.gtotal else x0.gtotal)]))],[2,3,4,6]⟩) (fun s=>CPart_merge_K1 x0 x1 v3 = some r) ?_ ?_
   ·refine a_seq (ar (.cons (o_fieldAddr rfl)<|.cons (o_load_s rfl rfl rfl)<|.cons (t_len rfl)<|.cons (o_assign rfl)<|.nil _) ?_)
    refine a_seq (ar (.cons (o_move rfl)<|.cons (o_int rfl rfl rfl)<|.nil _) ?_)
    refine a_cond _ rfl (fun h12=>?_) (fun h12=>?_)
    ·replace hM:=(of_if hM).1 h12
     refine a_seq ?_
     obtain ⟨v14,h13,hM⟩ := of_bind hM
     refine ar (.cons (o_fieldAddr rfl)<|.cons (o_load_s rfl rfl rfl)<|.cons (o_move rfl)<|.cons (o_int rfl rfl rfl)<|.cons (t_index h13 rfl rfl rfl)<|.cons (o_fieldAddr_e rfl rfl)<|.cons (o_load_es rfl rfl)<|.cons (o_assign rfl)<|.nil _) ?_
     refine a_seq (ar (.cons (o_move rfl)<|.cons (o_int rfl rfl rfl)<|.cons (o_move rfl)<|.cons (o_guardG .bF rfl rfl (fun hb=>(.keep .nil)) (fun hb=>o_fieldAddr rfl))<|.cons (o_guardG .bF rfl rfl (fun hb=>(.strip rfl hb .nil)) (fun hb=>o_load_s rfl rfl rfl))<|.cons (o_guardG .bF rfl rfl (fun hb=>(.strip rfl hb .nil)) (fun hb=>o_move rfl))<|.cons (o_guardG .iT rfl rfl (fun hb=>(.keep .nil)) (fun hb=>o_move rfl))<|.cons (o_guardG .iT rfl rfl (fun hb=>(.keep .nil)) (fun hb=>o_fieldAddr rfl))<|.cons (o_guardG .iT rfl rfl (fun hb=>(.strip rfl hb .nil)) (fun hb=>o_load_s rfl rfl rfl))<|.cons (o_guardG .iT rfl rfl (fun hb=>(.strip rfl hb (.strip rfl hb .nil))) (fun hb=>o_int rfl rfl rfl))<|.cons (o_guardG .bF rfl rfl (fun hb=>(.strip rfl hb (.half rfl hb .nil))) (fun hb=>o_and rfl rfl))<|.cons (o_or rfl rfl)<|.nil _) ?_)
     refine a_cond _ rfl (fun h15=>?_) (fun h15=>?_)
     ·replace hM:=(of_if hM).1 h15
      refine a_seq (ar (.cons (o_build rfl rfl rfl)<|.cons (o_store rfl rfl rfl rfl rfl rfl rfl)<|.cons (o_assign rfl)<|.nil _) ?_)
      obtain rfl:=Option.some.inj hM
      exact a_ret (a_post (.r2 (.cell rfl rfl (.row _ CRow.h (Nat.le_of_ble_eq_true rfl) rfl)) (.tmp rfl)) (DLe.tup (.cons (DLe.agg (.cons (DLe.nils _) (.cons (DLe.nils _) (.cons (DLe.refl _) (.cons (DLe.refl _) .nil))))) (.cons (DLe.refl _) .nil))) PostOk.nil.spec)
     ·replace hM:=(of_if hM).2 h15
      refine a_skip ?_
      exact ⟨(),hM,(Imp.sh (fun i=>i) rfl rfl rfl rfl rfl rfl)⟩
    ·replace hM:=(of_if hM).2 h12
     refine a_skip ?_
     exact ⟨(),hM,(Imp.sh (fun i=>i) rfl rfl rfl rfl rfl rfl)⟩
   ·rintro _ hM
    replace hM : CPart_merge_K1 x0 x1 v3 = some r:=hM
    unfold CPart_merge_K1 at hM
    refine a_seq ?_
    obtain ⟨v6,h5,hM⟩ := of_bind hM
    refine ar (.cons (o_fieldAddr rfl)<|.cons (o_load_s rfl rfl rfl)<|.cons (o_fieldAddr rfl)<|.cons (o_load_s rfl rfl rfl)<|.cons (o_call (collect_mergeSpans_c h5) rfl (DLeL.refl _) rfl)<|.cons (o_fieldAddr rfl)<|.cons (o_store_s rfl rfl rfl rfl rfl)<|.nil _) ?_
    refine a_seq (a_seq (ar (.cons (o_fieldAddr rfl)<|.cons (o_load_s rfl rfl rfl)<|.cons (t_len rfl)<|.cons (o_assign rfl)<|.nil _) ?_))
    refine a_seq ?_
    obtain ⟨v8,h7,hM⟩ := of_bind hM
    refine ad mixed (.cons (o_move rfl)<|.cons (o_int rfl rfl rfl)<|.cons (o_move rfl)<|.cons (o_guardG .bT rfl rfl (fun hb=>(.keep .nil)) (fun hb=>o_fieldAddr rfl))<|.cons (o_guardG .bT rfl rfl (fun hb=>(.strip rfl hb .nil)) (fun hb=>o_load_s rfl rfl rfl))<|.cons (o_and rfl rfl)<|.cons (o_move rfl)<|.cons (o_guardG .bT rfl rfl (fun hb=>(.keep .nil)) (fun hb=>o_fieldAddr rfl))<|.cons (o_guardG .bT rfl rfl (fun hb=>(.strip rfl hb .nil)) (fun hb=>o_load_s rfl rfl rfl))<|.cons (o_guardG .bT rfl rfl (fun hb=>(.keep .nil)) (fun hb=>o_move rfl))<|.cons (o_guardG .bT rfl rfl (fun hb=>(.strip rfl hb .nil)) (fun hb=>o_int rfl rfl rfl))<|.cons (o_guardG .bT rfl rfl (fun hb=>(.strip rfl hb (.strip rfl hb .nil))) (fun hb=>t_index (of_gb h7 hb) rfl rfl rfl))<|.cons (o_guardG .bT rfl rfl (fun hb=>(.strip rfl hb .nil)) (fun hb=>o_fieldAddr_e rfl rfl))<|.cons (o_guardG .bT rfl rfl (fun hb=>(.strip rfl hb .nil)) (fun hb=>o_load_es rfl rfl))<|.cons (o_guardG .bT rfl rfl (fun hb=>(.keep .nil)) (fun hb=>o_fieldAddr rfl))<|.cons (o_guardG .bT rfl rfl (fun hb=>(.strip rfl hb .nil)) (fun hb=>o_load_s rfl rfl rfl))<|.cons (o_guardG .bT rfl rfl (fun hb=>(.strip rfl hb (.strip rfl hb .nil))) (fun hb=>o_int rfl rfl rfl))<|.cons (o_and rfl rfl)<|.nil _) ?_
    refine a_cond _ rfl (fun h9=>?_) (fun h9=>?_)
    ·replace hM:=(of_if hM).1 h9
     refine a_seq (ar (.cons (o_build rfl rfl rfl)<|.cons (o_store rfl rfl rfl rfl rfl rfl rfl)<|.cons (o_assign rfl)<|.nil _) ?_)
     obtain rfl:=Option.some.inj hM
     exact a_ret (a_post (.r2 (.cell rfl rfl (.row _ CRow.h (Nat.le_of_ble_eq_true rfl) rfl)) (.tmp rfl)) (DLe.tup (.cons (DLe.agg (.cons (DLe.nils _) (.cons (DLe.nils _) (.cons (DLe.refl _) (.cons (DLe.refl _) .nil))))) (.cons (DLe.refl _) .nil))) PostOk.nil.spec)
    ·replace hM:=(of_if hM).2 h9
     refine a_skip (a_seq ?_)
     obtain ⟨v11,h10,hM⟩ := of_bind hM
     refine ar (.cons (o_fieldAddr rfl)<|.cons (o_load_s rfl rfl rfl)<|.cons (o_fieldAddr rfl)<|.cons (o_load_s rfl rfl rfl)<|.cons (o_call (collect_without_c h10) rfl (DLeL.refl _) rfl)<|.cons (o_fieldAddr rfl)<|.cons (o_store_s rfl rfl rfl rfl rfl)<|.nil _) ?_
     refine a_seq (ar (.cons (o_load_r rfl rfl rfl rfl)<|.cons (o_store rfl rfl rfl rfl rfl rfl rfl)<|.cons (o_assign rfl)<|.nil _) ?_)
     obtain rfl:=Option.some.inj hM
     exact a_ret (a_post (.r2 (.cell rfl rfl (.row _ CRow.h (Nat.le_of_ble_eq_true rfl) rfl)) (.tmp rfl)) (DLe.refl _) PostOk.nil.spec)
end Go.Proofs.YtcgfgilddjkpkaaGreat
