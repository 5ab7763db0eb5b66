/-
  What the claim leans on, part 10.
-/
import Derived.Test.YtepkcbalmjnhpaaCGr9
import Derived.Test.YtepkcbalmjnhpaaProg
import Derived.Shelf.SlSortCmp.NoneTotal
set_option maxRecDepth 100000
set_option maxHeartbeats 2000000
set_option linter.unusedVariables false
namespace Go.Proofs
open Go.Shelf Go.RowKit Go.Lib Go.Sort
def Try.sortSpan_ren : Ren:={ f:=fun x=>match x with | 6=>61 | 15=>75 | 14=>74 | 28=>87 | 29=>88 | 20=>79 | 21=>80 | 22=>81 | 23=>82 | 24=>83 | 25=>84 | 26=>85 | 27=>86 | 46=>91 | 47=>92 | 48=>93 | 49=>94 | 50=>95 | 57=>97 | n=>n,t:=fun x=>match x with | 22=>77 | 24=>102 | 25=>128 | 3=>3 | 39=>67 | 0=>0 | 53=>68 | 55=>22 | 4=>4 | 46=>152 | 45=>151 | 50=>131 | 5=>5 | 9=>9 | 66=>160 | 70=>163 | 76=>165 | 77=>166 | n=>n,g:=fun n=>n }
theorem Try.sortSpan : SlLaysF0.n6 Try.prog Try.sortSpan_ren where
 mixed:=by kernel_rfl
 f6:=Exists.intro "slices.SortFunc[[]rootcause/collect.span,rootcause/collect.span]" ⟨by decide,Eq.trans Try.func61 (congrArg some (by kernel_rfl))⟩
 f14:=Exists.intro "slices.pdqsortCmpFunc[rootcause/collect.span]" ⟨by decide,Eq.trans Try.func74 (congrArg some (by kernel_rfl))⟩
 f15:=Eq.trans Try.func75 (congrArg some (by kernel_rfl))
 f20:=Exists.intro "slices.insertionSortCmpFunc[rootcause/collect.span]" ⟨by decide,Eq.trans Try.func79 (congrArg some (by kernel_rfl))⟩
 f21:=Exists.intro "slices.heapSortCmpFunc[rootcause/collect.span]" ⟨by decide,Eq.trans Try.func80 (congrArg some (by kernel_rfl))⟩
 f22:=Exists.intro "slices.breakPatternsCmpFunc[rootcause/collect.span]" ⟨by decide,Eq.trans Try.func81 (congrArg some (by kernel_rfl))⟩
 f23:=Exists.intro "slices.choosePivotCmpFunc[rootcause/collect.span]" ⟨by decide,Eq.trans Try.func82 (congrArg some (by kernel_rfl))⟩
 f24:=Exists.intro "slices.reverseRangeCmpFunc[rootcause/collect.span]" ⟨by decide,Eq.trans Try.func83 (congrArg some (by kernel_rfl))⟩
 f25:=Exists.intro "slices.partialInsertionSortCmpFunc[rootcause/collect.span]" ⟨by decide,Eq.trans Try.func84 (congrArg some (by kernel_rfl))⟩
 f26:=Exists.intro "slices.partitionEqualCmpFunc[rootcause/collect.span]" ⟨by decide,Eq.trans Try.func85 (congrArg some (by kernel_rfl))⟩
 f27:=Exists.intro "slices.partitionCmpFunc[rootcause/collect.span]" ⟨by decide,Eq.trans Try.func86 (congrArg some (by kernel_rfl))⟩
 f28:=Eq.trans Try.func87 (congrArg some (by kernel_rfl))
 f29:=Eq.trans Try.func88 (congrArg some (by kernel_rfl))
 f46:=Exists.intro "slices.siftDownCmpFunc[rootcause/collect.span]" ⟨by decide,Eq.trans Try.func91 (congrArg some (by kernel_rfl))⟩
 f47:=Eq.trans Try.func92 (congrArg some (by kernel_rfl))
 f48:=Eq.trans Try.func93 (congrArg some (by kernel_rfl))
 f49:=Exists.intro "slices.medianAdjacentCmpFunc[rootcause/collect.span]" ⟨by decide,Eq.trans Try.func94 (congrArg some (by kernel_rfl))⟩
 f50:=Exists.intro "slices.medianCmpFunc[rootcause/collect.span]" ⟨by decide,Eq.trans Try.func95 (congrArg some (by kernel_rfl))⟩
 f57:=Exists.intro "slices.order2CmpFunc[rootcause/collect.span]" ⟨by decide,Eq.trans Try.func97 (congrArg some (by kernel_rfl))⟩
 t0:=Try.underlying0
 a0:=Try.isAgg0
 z0:=Try.sizeOf0
 v0:=Try.zeroValue0
 t3:=Try.underlying3
 a3:=Try.isAgg3
 z3:=Try.sizeOf3
 v3:=Try.zeroValue3
 t4:=Try.underlying4
 a4:=Try.isAgg4
 z4:=Try.sizeOf4
 v4:=Try.zeroValue4
 t5:=Try.underlying5
 a5:=Try.isAgg5
 z5:=Try.sizeOf5
 v5:=Try.zeroValue5
 t9:=Try.underlying9
 a9:=Try.isAgg9
 z9:=Try.sizeOf9
 v9:=Try.zeroValue9
 t22:=Try.underlying77
 a22:=Try.isAgg77
 z22:=Try.sizeOf77
 v22:=Try.zeroValue77
 t25:=Try.underlying128
 a25:=Try.isAgg128
 z25:=Try.sizeOf128
 v25:=Try.zeroValue128
 t39:=Try.underlying67
 a39:=Try.isAgg67
 z39:=Try.sizeOf67
 v39:=Try.zeroValue67
 t45:=Try.underlying151
 a45:=Try.isAgg151
 z45:=Try.sizeOf151
 v45:=Try.zeroValue151
 t46:=Try.underlying152
 a46:=Try.isAgg152
 z46:=Try.sizeOf152
 v46:=Try.zeroValue152
 t50:=Try.underlying131
 a50:=Try.isAgg131
 z50:=Try.sizeOf131
 v50:=Try.zeroValue131
 t53:=Try.underlying68
 a53:=Try.isAgg68
 z53:=Try.sizeOf68
 v53:=Try.zeroValue68
 t55:=Try.underlying22
 a55:=Try.isAgg22
 z55:=Try.sizeOf22
 v55:=Try.zeroValue22
 t66:=Try.underlying160
 a66:=Try.isAgg160
 z66:=Try.sizeOf160
 v66:=Try.zeroValue160
 t70:=Try.underlying163
 a70:=Try.isAgg163
 z70:=Try.sizeOf163
 v70:=Try.zeroValue163
 t76:=Try.underlying165
 a76:=Try.isAgg165
 z76:=Try.sizeOf165
 v76:=Try.zeroValue165
 t77:=Try.underlying166
 a77:=Try.isAgg166
 z77:=Try.sizeOf166
 v77:=Try.zeroValue166
end Go.Proofs
set_option maxHeartbeats 1000000
set_option linter.unusedSimpArgs false
namespace Go.Proofs.Ytepkcbalmjnhpaa
open Go.Shelf Go.RowKit Go.Sort
def spanCmp (x y : CSpan) : Int:=if x.gfrom < y.gfrom then -1 else if y.gfrom < x.gfrom then 1 else 0
def spanEnc (x : CSpan) : List Value:=[.int .u64 x.gfrom,.int .u64 x.gto]
instance : Inhabited CSpan := ⟨⟨0,0⟩⟩
def spanPdq (xs : List CSpan) : List CSpan:=(pdq (ltOf spanCmp) xs.toArray 0 xs.toArray.size (Lib.bitLen xs.toArray.size) true true).toList
def spanSort (xs : List CSpan) : Option (List CSpan):=chk (xs.length < 4611686018427387904) (some (spanPdq xs))
theorem span_lt (x y : CSpan) : ltOf spanCmp x y = decide (x.gfrom < y.gfrom):=by
 unfold ltOf spanCmp
 by_cases h1 : x.gfrom < y.gfrom
 ·simp [h1]
 ·by_cases h2 : y.gfrom < x.gfrom <;> simp [h1,h2]
theorem span_swo : SWO (ltOf spanCmp) where
 irrefl x:=by rw [span_lt]; simp
 trans x y z h1 h2:=by rw [span_lt] at *; simp at *; omega
 ntrans x y z h1 h2:=by rw [span_lt] at *; simp at *; omega
theorem span_closure (x y : CSpan) (W : World) : Calls Try.prog 62 #[.agg #[.int .u64 x.gfrom,.int .u64 x.gto],.agg #[.int .u64 y.gfrom,.int .u64 y.gto]] W fun e w'=>e = .returned (.int .i64 (spanCmp x y))∧∃ q os',w' = grow (W.drewN q) os' := by
 have hc:=Lib.hid (show spanCmp x y = if x.gfrom < y.gfrom then -1 else if y.gfrom < x.gfrom then 1 else 0 from rfl)
 generalize spanCmp x y = r at hc ⊢
 obtain ⟨a,b⟩ := x
 obtain ⟨c,d⟩ := y
 dsimp only at hc ⊢
 by_cases h1 : a < c
 ·have hr : r = -1:=by rw [hc.out,if_pos h1]
  subst hr
  clear hc
  go_enter Try.func62,Try.ntmps62
  go_wp2
  go_ret
  exact ⟨rfl,0,_,by rw [alloc_eq_grow,alloc_eq_grow,grow_grow]; rfl⟩
 ·by_cases h2 : c < a
  ·have hr : r = 1:=by rw [hc.out,if_neg h1,if_pos h2]
   subst hr
   clear hc
   have h3 : a > c:=h2
   go_enter Try.func62,Try.ntmps62
   go_wp2
   go_ret
   exact ⟨rfl,0,_,by rw [alloc_eq_grow,alloc_eq_grow,grow_grow]; rfl⟩
  ·have hr : r = 0:=by rw [hc.out,if_neg h1,if_neg h2]
   subst hr
   clear hc
   have h3 : ¬ a > c:=h2
   go_enter Try.func62,Try.ntmps62
   go_wp2
   go_ret
   exact ⟨rfl,0,_,by rw [alloc_eq_grow,alloc_eq_grow,grow_grow]; rfl⟩
theorem flatK_list {α : Type} [Inhabited α] (enc : α→List Value) (k : Nat) (hk : ∀ x,(enc x).length = k) (h0 : 0 < k) : ∀ xs : List α,(flatK enc k xs.toArray).toList = xs.flatMap enc:=by
 have get : ∀ (xs : List α) (t : Nat),t < xs.length * k→(xs.flatMap enc)[t]? = some ((enc xs[t / k]!)[t % k]!):=by
  intro xs
  induction xs with
  | nil=>intro t h; simp at h
  | cons x xs ih=>
   intro t h
   rw [List.flatMap_cons,List.getElem?_append,hk]
   by_cases ht : t < k
   ·rw [if_pos ht,Nat.div_eq_of_lt ht,Nat.mod_eq_of_lt ht]
    have hl : t < (enc x).length:=by rw [hk]; exact ht
    simp [List.getElem?_eq_getElem hl,getElem!_pos,hl]
   ·rw [if_neg ht]
    have hge : k≤t:=Nat.le_of_not_lt ht
    have hlt : t - k < xs.length * k:=by simp only [List.length_cons,Nat.succ_mul] at h; omega
    rw [ih (t - k) hlt]
    have hd : t / k = (t - k) / k + 1:=by
     have : t = (t - k) + k:=by omega
     conv=>lhs; rw [this]
     exact Nat.add_div_right _ h0
    have hm : t % k = (t - k) % k:=by
     have : t = (t - k) + k:=by omega
     conv=>lhs; rw [this]
     exact Nat.add_mod_right _ _
    rw [hd,hm]
    simp
 intro xs
 apply List.ext_getElem?
 intro t
 by_cases h : t < xs.length * k
 ·rw [get xs t h]
  have hs : t < (flatK enc k xs.toArray).size:=by simpa using h
  have:=get_flatK enc k xs.toArray t (by simpa using h)
  rw [getElem!_pos (flatK enc k xs.toArray) t hs] at this
  rw [Array.getElem?_toList,Array.getElem?_eq_getElem hs,this]
  simp
 ·have hl : (xs.flatMap enc).length = xs.length * k:=by
   clear h get
   induction xs with
   | nil=>simp
   | cons x xs ih=>rw [List.flatMap_cons,List.length_append,ih,hk,List.length_cons,Nat.succ_mul]; omega
  rw [List.getElem?_eq_none (l:=xs.flatMap enc) (by rw [hl]; omega),List.getElem?_eq_none (l:=(flatK enc k xs.toArray).toList) (by simp; omega)]
theorem sortW_heap {α : Type} [Inhabited α] (enc : α→List Value) (k : Nat) {w : World} {b m : Nat} {d : Array α} {os : Array Obj} {cur : Array Value} {E : TypeId} (hb : w.heap[b]? = some (.cells cur E (0,0))) (hd : d.size * k≤cur.size) :
  (∃ cur',(sortWorldK enc k w b 0 m d os).heap[b]? = some (.cells cur' E (0,0))∧cur'.size = cur.size∧cur'.toList.take (d.size * k) = (flatK enc k d).toList)∧Stp w (sortWorldK enc k w b 0 m d os) (some b):=by
 have hlt:=(Array.getElem?_eq_some_iff.1 hb).1
 have hput : (putRowK enc k (Sort.ahead w m) b 0 d).heap[b]? = some (.cells (putCells id 0 (flatK enc k d) cur) E (0,0)):=by
  simp [putRowK,putRow,mapBlock,Sort.ahead,Array.getElem?_modify,hb,onCells]
 have hsz : (putRowK enc k (Sort.ahead w m) b 0 d).heap.size = w.heap.size:=by simp [putRowK,putRow,mapBlock,Sort.ahead]
 refine ⟨⟨putCells id 0 (flatK enc k d) cur,?_,by simp [putCells],?_⟩,⟨rfl,rfl,rfl,?_,fun j hj hne=>?_⟩⟩
 ·have : b < (putRowK enc k (Sort.ahead w m) b 0 d).heap.size:=by rw [hsz]; exact hlt
  simp only [sortWorldK,grow]
  rw [Array.getElem?_append_left this]; exact hput
 ·apply List.ext_getElem?
  intro t
  rw [List.getElem?_take]
  by_cases ht : t < d.size * k
  ·rw [if_pos ht]
   have h1 : t < (flatK enc k d).size:=by simpa using ht
   have h2 : t < cur.size:=by omega
   simp only [putCells,Array.getElem?_toList,Array.getElem?_mapIdx,Array.getElem?_eq_getElem h2,Array.getElem?_eq_getElem h1,Option.map_some,Nat.zero_le,true_and,Nat.zero_add,h1,if_true,Nat.sub_zero,id]
   rw [getElem!_pos (flatK enc k d) t h1]
  ·rw [if_neg ht,List.getElem?_eq_none (by simp; omega)]
 ·simp only [sortWorldK,grow,Array.size_append]; rw [hsz]; omega
 ·have : j < (putRowK enc k (Sort.ahead w m) b 0 d).heap.size:=by rw [hsz]; exact hj
  have hne' : b≠j:=fun e=>hne (by rw [e])
  simp only [sortWorldK,grow]
  rw [Array.getElem?_append_left this]
  simp [putRowK,putRow,mapBlock,Sort.ahead,Array.getElem?_modify,hne']
theorem sort_bridge {P : Program} {α : Type} [Inhabited α] (enc : α→List Value) (dv : α→DV) (k : Nat) (E : TypeId) (fn g : FuncId) (sortF : List α→List α) (hlen : ∀ x,(enc x).length = k) (hk0 : 0 < k)
  (hE : ∀ (F : FMap) (xs : List α) (cs : List Value),RsE F k (xs.map dv) cs↔cs = xs.flatMap enc)
  (hcall : ∀ (blk cap : Nat) (d : Array α) (w : World),HoldsK enc k w blk 0 d→blk < w.heap.size→d.size < 4611686018427387904 →
   Calls P fn #[.slice (some ⟨blk,0,none⟩) d.size cap,.func (.func g) #[] #[]] w fun e w'=>e = .returned (.tuple #[])∧∃ n os,w' = sortWorldK enc k w blk 0 n (sortF d.toList).toArray os)
  (hnone : ∀ (p : Option Addr) (cap : Nat) (fv : Value) (w : World),Calls P fn #[.slice p 0 cap,fv] w fun e w'=>e = .returned (.tuple #[])∧w' = w)
  (hsl : ∀ xs,(sortF xs).length = xs.length) (xs : List α) (hx : xs.length < 4611686018427387904) :
  ACall P fn ⟨[.row 100000,.val (.func (.func g) #[] #[])],[(100000,some (.row E k (xs.map dv)))],.tup [],[(100000,some (.row E k ((sortF xs).map dv)))],[]⟩ := by
 intro C F γ heap used w vs f hpre hnew hinj H hv
 have he : hget heap (f 100000) = some (.row E k (xs.map dv)):=hpre 100000 (.row E k (xs.map dv)) rfl
 obtain ⟨gv,hg,cs,hown,hcs⟩ := H.ent _ _ he
 simp only [renL,DV.ren,RsT,Rs] at hv
 obtain ⟨v1,r1,rfl,k1,v2,r2,rfl,rfl,rfl⟩ := hv
 rw [hg] at k1; injection k1 with k1; subst k1
 rw [hE] at hcs
 rw [List.length_map] at hown
 have keep : ∀ (w' : World),Stp w w' none→xs = []→∃ v F' γ',Ending.returned (.tuple #[]) = .returned v∧FLe F F'∧GLe γ γ'∧WS C F' γ' (renH f [(100000,some (.row E k ((sortF xs).map dv)))]++heap) (List.map f []++used) w'∧Rs F' γ' (DV.ren f (.tup [])) v:=by
  intro w' S h0
  have h1 : sortF xs = []:=List.eq_nil_of_length_eq_zero (by rw [hsl,h0]; rfl)
  refine ⟨_,F,γ,rfl,FLe.refl _,GLe.refl _,(H.quiet S).congr (fun i e hi=>?_) (fun _ h=>h),by simp [DV.ren,renL,Rs,RsT]⟩
  simp only [renH,List.map_cons,List.map_nil,List.cons_append,List.nil_append,Option.map_some,HE.ren] at hi
  rw [hget_cons] at hi
  split at hi
  ·rename_i e1; subst e1; rw [he,← hi,h1,h0]
  ·exact hi
 by_cases hxe : xs = []
 ·have hgn : ∃ p cap,gv = .slice p 0 cap:=by
   rcases hown.2 with ⟨q,_⟩ | ⟨b,cap,cur,q,_⟩
   ·exact ⟨none,0,q⟩
   ·rw [hxe] at q; exact ⟨_,cap,q⟩
  obtain ⟨p,cap,rfl⟩ := hgn
  refine (hnone p cap _ w).mono ?_
  rintro e w' ⟨rfl,rfl⟩
  exact keep _ (Stp.refl _) hxe
 ·rcases hown.2 with ⟨_,q⟩ | ⟨b,cap,cur,rfl,q1,q2,q3,q4,q5,q6⟩
  ·exact absurd (List.eq_nil_of_length_eq_zero q) hxe
  ·have hfl:=flatK_list enc k hlen hk0
   have hcl : cs.length = xs.length * k:=hown.1
   have hH : HoldsK enc k w b 0 xs.toArray:=by
    intro j hj
    have hj' : j < xs.length * k:=by simpa using hj
    have hjc : j < cur.size:=by
     rw [q5]; exact Nat.lt_of_lt_of_le hj' (Nat.mul_le_mul_right _ q3)
    have e1 : (flatK enc k xs.toArray)[j]! = cur[j]:=by
     have a1 : (flatK enc k xs.toArray).toList[j]? = some (flatK enc k xs.toArray)[j]! := by
      rw [Array.getElem?_toList,Array.getElem?_eq_getElem hj,getElem!_pos (flatK enc k xs.toArray) j hj]
     rw [hfl,← hcs,← q6,List.getElem?_take,if_pos hj',Array.getElem?_toList,Array.getElem?_eq_getElem hjc] at a1
     exact (Option.some.inj a1).symm
    refine ⟨?_,?_⟩
    ·simp only [World.cell?,q2,Nat.zero_add,id,e1]
     simp [hjc]
    ·simp [World.frozen?,q2]
   have hlt : b < w.heap.size:=(Array.getElem?_eq_some_iff.1 q2).1
   have:=hcall b cap xs.toArray w hH hlt (by simpa using hx)
   simp only [List.size_toArray] at this
   refine this.mono ?_
   rintro e w' ⟨rfl,m,os,rfl⟩
   have hd : (sortF xs).toArray.size * k≤cur.size:=by
    simp only [List.size_toArray,hsl]; rw [q5]; exact Nat.mul_le_mul_right _ q3
   obtain ⟨⟨cur',c1,c2,c3⟩,S⟩ := sortW_heap enc k (m:=m) (os:=os) q2 hd
   refine ⟨_,F,γ,rfl,FLe.refl _,GLe.refl _,?_,by simp [DV.ren,renL,Rs,RsT]⟩
   have hT:=H.turn he hg (by simpa [Value.pblk] using S)
   have hP:=hT.put (e0:=.row E k ((sortF xs).map dv)) hg ⟨(sortF xs).flatMap enc,?_,(hE _ _ _).2 rfl⟩ (fun b' hb'=>?_)
   ·refine hP.congr (fun i e hi=>?_) (fun _ h=>h)
    simp only [renH,List.map_cons,List.map_nil,List.cons_append,List.nil_append,Option.map_some,HE.ren] at hi
    rw [hget_cons] at hi ⊢
    split at hi
    ·rename_i e1; rw [if_pos e1]; exact hi
    ·rename_i e1; rw [if_neg e1,hget_cons,if_neg e1]; exact hi
   ·have hfl2 : ((sortF xs).flatMap enc).length = (sortF xs).length * k:=by
     rw [← hfl]; simp
    refine ⟨by rw [List.length_map]; exact hfl2,.inr ⟨b,cap,cur',?_,Nat.zero_le _,c1,?_,q4,by rw [c2,q5],?_⟩⟩
    ·rw [List.length_map,hsl]
    ·rw [List.length_map,hsl]; exact q3
    ·rw [List.length_map,← hfl,← c3]; simp
   ·have q:=H.own _ _ _ b' he hg hb'
    refine ⟨q.1,q.2,fun id' e' g' hne hh2 hg' hb''=>?_⟩
    rw [hget_cons] at hh2
    split at hh2
    ·cases hh2
    ·exact hne (H.apart id' _ e' _ g' _ b' hh2 he hg' hg hb'' hb')
theorem span_rsE (F : FMap) : ∀ (xs : List CSpan) (cs : List Value),RsE F 2 (xs.map CSpan.dv) cs↔cs = xs.flatMap spanEnc
 | [],cs=>by simp [RsE]
 | x :: xs,cs=>by
  simp only [List.map_cons,RsE,List.flatMap_cons,span_rsE F xs]
  constructor
  ·rintro ⟨v,rest,rfl,h1,h2,h3,rfl⟩
   congr 1
   simp only [CSpan.dv,CSpan.cs,Rs,RsL] at h3
   obtain ⟨cs,rfl,v1,r1,e1,_,rfl,v2,r2,rfl,_,rfl,rfl⟩ := h3
   simpa [Value.cells,spanEnc] using e1
  ·rintro rfl
   exact ⟨.agg #[.int .u64 x.gfrom,.int .u64 x.gto],_,rfl,rfl,by simp [Value.cells,Value.oneCell'],by
    simp only [CSpan.dv,CSpan.cs,Rs,RsL]
    exact ⟨_,rfl,_,_,rfl,rfl,rfl,_,_,rfl,rfl,rfl,rfl⟩,rfl⟩
theorem spanPdq_spec (xs : List CSpan) : PermIn 0 xs.toArray.size xs.toArray (spanPdq xs).toArray∧SortedIn (ltOf spanCmp) 0 xs.toArray.size (spanPdq xs).toArray:=by
 have h:=pdq_sorts (ltOf spanCmp) span_swo xs.toArray 0 xs.toArray.size (Lib.bitLen xs.toArray.size) true true (Nat.zero_le _) (Nat.le_refl _) (Or.inl rfl)
 simpa [spanPdq] using h
theorem spanPdq_len (xs : List CSpan) : (spanPdq xs).length = xs.length:=by
 have:=(spanPdq_spec xs).1.1
 simpa using this
theorem spanSort_c {x r : List CSpan} (hM : spanSort x = some r) : ACall Try.prog 61 ⟨[.row 100000,.val (.func (.func 62) #[] #[])],[(100000,some (.row 102 2 (List.map CSpan.dv x)))],.tup [],[(100000,some (.row 102 2 (List.map CSpan.dv r)))],[]⟩ := by
 obtain ⟨h,hM⟩ := of_chk hM
 obtain rfl:=Option.some.inj hM
 refine sort_bridge spanEnc CSpan.dv 2 _ _ _ spanPdq (fun _=>rfl) (by decide) span_rsE (fun blk cap d w hH hlt hsz=>?_) (fun p cap fv w=>?_) spanPdq_len x h
 ·have eg : ∀ args w,(callFunc 62 args).run Try.prog w = .ok (.enter 62 args) w:=enters_of Try.func62 (by kernel_rfl) rfl
  have aE : ∀ w,(isAgg 102).run Try.prog w = .ok true w:=fun w=>by simp [isAgg,run_underlying Try.underlying102]
  have zE : ∀ w,(Go.sizeOf 102).run Try.prog w = .ok 2 w:=fun w=>by
   have : (Try.prog.info? 102).map (·.size) = some 2:=by kernel_rfl
   cases hi : Try.prog.info? 102 with
   | none=>rw [hi] at this; cases this
   | some i=>rw [hi] at this; injection this with this; simp [Go.sizeOf,typeInfo,hi,this]
  have hcon:=AnyQ.slices_SortFunc_eq Try.sortSpan 2 aE zE spanEnc (fun _=>rfl) (fun x v hv=>by simp [spanEnc] at hv; rcases hv with rfl | rfl <;> rfl) spanCmp span_swo 62 #[] blk 0 cap d w eg (fun _ _ _ _ x y=>span_closure x y _) hH hlt hsz
  change Calls Try.prog 61 _ _ _ at hcon
  refine hcon.mono ?_
  rintro e w' ⟨rfl,n,os,rfl⟩
  exact ⟨rfl,n,os,by simp [spanPdq]⟩
 ·have:=AnyF.slices_SortFunc_none Try.sortSpan p cap fv w
  exact this
end Go.Proofs.Ytepkcbalmjnhpaa
set_option maxHeartbeats 4000000
namespace Go.Proofs.Ytepkcbalmjnhpaa
open Go.RowKit
def collect_mergeSpans_K1 (a5 : List CSpan) (a6 : Int) : Option (List CSpan) :=
 chk (slOk (List.length a5) 0 a6)<|
 some (List.take (Int.toNat a6) a5)
def collect_mergeSpans_L2 (k8 : Nat) (a9 : List CSpan) (a10 : Int) : Option ((List CSpan) × Int) :=
 (idx a9 (k8 : Int)).bind fun v15=>
 (gb (decide (0 < a10)) (CSpan.mk 0 0) (idx a9 (IntKind.wrap .i64 (a10 - 1)))).bind fun v17=>
 if ((decide (0 < a10)) && (decide (v15.gfrom≤v17.gto))) = true then
  (idx a9 (IntKind.wrap .i64 (a10 - 1))).bind fun v20=>
  (idx a9 (IntKind.wrap .i64 (a10 - 1))).bind fun v22=>
  some ((List.set a9 (Int.toNat (IntKind.wrap .i64 (a10 - 1))) (CSpan.mk v22.gfrom (if v15.gto > v20.gto then v15.gto else v20.gto))),a10)
 else
  (idx a9 a10).bind fun v24=>
  some ((List.set a9 (Int.toNat a10) v15),(IntKind.wrap .i64 (a10 + 1)))
def collect_mergeSpans (x0 : List CSpan) (x1 : List CSpan) : Option (List CSpan) :=
 (catS [x0,x1]).bind fun v2=>
 (spanSort v2).bind fun v4=>
 (foldM' 9223372036854775807 (List.length v4 : Int) (fun k8 s=>collect_mergeSpans_L2 k8 s.1 s.2) (v4,0)).bind fun s=>collect_mergeSpans_K1 s.1 s.2
theorem collect_mergeSpans_c {x0 : List CSpan} {x1 : List CSpan} {r : (List CSpan)} (hM : collect_mergeSpans x0 x1 = some r) : PCall Try.prog 40 [.sl 2 (List.map CSpan.dv x0),.sl 2 (List.map CSpan.dv x1)] (.sl 2 (List.map CSpan.dv r)):=by
 unfold collect_mergeSpans at hM
 refine PCall.body Try.func40 Try.ntmps40 rfl rfl rfl rfl ?_
 refine a_seq (ar (.cons (o_assign rfl)<|.nil _) ?_)
 refine a_seq ?_
 obtain ⟨v2,h1,hM⟩ := of_bind hM
 refine ar (.cons (o_move rfl)<|.cons (o_move rfl)<|.cons (o_frz (t_build (encSl 2 CSpan.dv) ([x0,x1] : List (List CSpan)) rfl rfl rfl rfl rfl rfl rfl))<|.cons (o_callN (fun i=>bif Nat.beq i 50000 then 12 else i) 1 (catS_c h1) rfl (DLeL.refl _) .nil rfl .nil)<|.cons (o_assign rfl)<|.nil _) ?_
 refine a_seq ?_
 obtain ⟨v4,h3,hM⟩ := of_bind hM
 refine ar (.cons (o_move rfl)<|.cons (o_callN (fun i=>bif Nat.beq i 100000 then 12 else i) 1 (spanSort_c h3) rfl (DLeL.refl _) (.cons rfl .nil) rfl .nil)<|.nil _) ?_
 refine a_seq (ar (.cons (o_assign rfl)<|.nil _) ?_)
 refine a_cut (α:=(List CSpan) × Int) (fun s=>⟨[(5,.sl 2 (List.map CSpan.dv s.1)),(6,.int .i64 s.2)],[],[]⟩) (fun s=>collect_mergeSpans_K1 s.1 s.2 = some r) ?_ ?_
 ·refine a_seq (ar (.cons (o_move rfl)<|.cons (t_len_r rfl rfl)<|.cons (o_move rfl)<|.nil _) ?_)
  obtain ⟨⟨a9,a10⟩,hL11,hK11⟩ := of_bind hM
  refine a_block ?_
  refine a_fold (fun k8 (s : (List CSpan) × Int)=>⟨[(5,.row 10001),(6,.int .i64 s.2),(15,.row 10001),(16,.int .i64 (List.length v4 : Int)),(17,.int .i64 (k8 : Int))],[(10001,some (.row 102 2 (List.map CSpan.dv s.1)))],[10001]⟩) _ hL11 (Imp.sh (fun i=>bif Nat.beq i 10001 then 12 else i) rfl rfl rfl rfl rfl rfl) ?_ ?_
  ·rintro k8 ⟨a9,a10⟩ t12 hk8 hx8 hM
   replace hM : collect_mergeSpans_L2 k8 a9 a10 = some t12:=hM
   unfold collect_mergeSpans_L2 at hM
   refine a_seq (ar (.cons (o_int rfl rfl rfl)<|.nil _) ?_)
   refine a_seq ?_
   refine a_cond _ rfl (fun _=>?_) (fun c=>absurd hk8 (of_decide_eq_false c))
   refine a_skip (a_seq (a_block (a_seq ?_)))
   obtain ⟨v15,h14,hM⟩ := of_bind hM
   refine ar (.cons (t_index_r h14 rfl rfl rfl)<|.cons (t_load_pr h14 rfl rfl rfl rfl rfl)<|.cons (o_alloc rfl)<|.cons (o_store rfl rfl rfl rfl rfl rfl rfl)<|.nil _) ?_
   refine a_seq (a_seq ?_)
   obtain ⟨v17,h16,hM⟩ := of_bind hM
   refine ad mixed (.cons (o_move rfl)<|.cons (o_int rfl rfl rfl)<|.cons (o_move rfl)<|.cons (o_guardG .bT rfl rfl (fun hb=>(.keep .nil)) (fun hb=>o_fieldAddr rfl))<|.cons (o_guardG .bT rfl rfl (fun hb=>(.strip rfl hb .nil)) (fun hb=>o_load_s rfl rfl rfl))<|.cons (o_guardG .bT rfl rfl (fun hb=>(.keep .nil)) (fun hb=>o_move rfl))<|.cons (o_guardG .bT rfl rfl (fun hb=>(.keep .nil)) (fun hb=>o_move rfl))<|.cons (o_guardG .bT rfl rfl (fun hb=>(.strip rfl hb .nil)) (fun hb=>o_int rfl rfl rfl))<|.cons (o_guardG .bT rfl rfl (fun hb=>(.strip rfl hb (.strip rfl hb .nil))) (fun hb=>t_index_r (of_gb h16 hb) rfl rfl rfl))<|.cons (o_guardG .bT rfl rfl (fun hb=>(.strip rfl hb .nil)) (fun hb=>o_fieldAddr_p rfl))<|.cons (o_guardG .bT rfl rfl (fun hb=>(.strip rfl hb .nil)) (fun hb=>t_load_ps (of_gb h16 hb) rfl rfl rfl rfl))<|.cons (o_guardG .bT rfl rfl (fun hb=>(.strip rfl hb (.strip rfl hb .nil))) (fun hb=>o_int rfl rfl rfl))<|.cons (o_and rfl rfl)<|.nil _) ?_
   refine a_cond _ rfl (fun h18=>?_) (fun h18=>?_)
   ·replace hM:=(of_if hM).1 h18
    refine a_seq ?_
    obtain ⟨v20,h19,hM⟩ := of_bind hM
    obtain ⟨v22,h21,hM⟩ := of_bind hM
    refine ad mixed (.cons (o_move rfl)<|.cons (o_move rfl)<|.cons (o_int rfl rfl rfl)<|.cons (o_move rfl)<|.cons (o_move rfl)<|.cons (o_int rfl rfl rfl)<|.cons (t_index_r h19 rfl rfl rfl)<|.cons (o_fieldAddr_p rfl)<|.cons (t_load_ps h19 rfl rfl rfl rfl)<|.cons (o_fieldAddr rfl)<|.cons (o_load_s rfl rfl rfl)<|.cons (o_max rfl rfl)<|.cons (t_index_r h21 rfl rfl rfl)<|.cons (o_fieldAddr_p rfl)<|.cons (t_store_p (CSpan.mk v22.gfrom (if v15.gto > v20.gto then v15.gto else v20.gto)) h21 rfl rfl rfl rfl rfl rfl rfl rfl rfl rfl rfl)<|.nil _) ?_
    refine a_exit (ar (.cons (o_add rfl rfl (inR_i64 hk8 hx8))<|.cons (o_move rfl)<|.nil _) ?_)
    obtain rfl:=Option.some.inj hM
    exact (Imp.of (fun i=>i) (.cons rfl (DLe.refl _) (.cons rfl (DLe.refl _) (.cons rfl (DLe.refl _) (.cons rfl (DLe.refl _) (.cons rfl (DLe.succ _ _) .nil))))) (.cons rfl (.refl _) .nil) rfl rfl rfl)
   ·replace hM:=(of_if hM).2 h18
    refine a_skip (a_seq ?_)
    obtain ⟨v24,h23,hM⟩ := of_bind hM
    refine ar (.cons (o_move rfl)<|.cons (o_move rfl)<|.cons (o_load_r rfl rfl rfl rfl)<|.cons (t_index_r h23 rfl rfl rfl)<|.cons (t_store_p v15 h23 rfl rfl rfl rfl rfl rfl rfl rfl rfl rfl rfl)<|.nil _) ?_
    refine ar (.cons (o_move rfl)<|.cons (o_int rfl rfl rfl)<|.cons (o_assign rfl)<|.nil _) ?_
    refine ar (.cons (o_add rfl rfl (inR_i64 hk8 hx8))<|.cons (o_move rfl)<|.nil _) ?_
    obtain rfl:=Option.some.inj hM
    exact (Imp.of (fun i=>i) (.cons rfl (DLe.refl _) (.cons rfl (DLe.refl _) (.cons rfl (DLe.refl _) (.cons rfl (DLe.refl _) (.cons rfl (DLe.succ _ _) .nil))))) (.cons rfl (.refl _) .nil) rfl rfl rfl)
  ·rintro k8 hk8 hx8
   refine a_seq (ar (.cons (o_int rfl rfl rfl)<|.nil _) ?_)
   refine a_seq ?_
   refine a_cond _ rfl (fun c=>absurd (of_decide_eq_true c) (Int.not_lt.2 hk8)) (fun _=>?_)
   refine a_exit ?_
   exact ⟨(a9,a10),hK11,((Imp.freeze (id:=10001) rfl).trans (Imp.sh (fun i=>i) rfl rfl rfl rfl rfl rfl))⟩
 ·rintro ⟨a5,a6⟩ hM
  replace hM : collect_mergeSpans_K1 a5 a6 = some r:=hM
  unfold collect_mergeSpans_K1 at hM
  refine a_seq ?_
  obtain ⟨h7,hM⟩ := of_chk hM
  refine ar (.cons (o_move rfl)<|.cons (o_move rfl)<|.cons (t_slice_h h7 rfl rfl)<|.cons (o_assign rfl)<|.nil _) ?_
  obtain rfl:=Option.some.inj hM
  exact a_ret (a_post (.r1 (.tmp rfl)) (DLe.refl _) PostOk.nil.spec)
def CPart_merge_K1 (x0 : CPart) (x1 : CPart) (v3 : (List RRec) × Bool) : Option (CPart × Bool) :=
 (collect_mergeSpans x0.glost x1.glost).bind fun v6=>
 (gb ((decide (0 < (List.length v6 : Int))) && (x0.gknown || x1.gknown)) (CSpan.mk 0 0) (idx v6 (IntKind.wrap .i64 ((List.length v6 : Int) - 1)))).bind fun v8=>
 if (((decide (0 < (List.length v6 : Int))) && (x0.gknown || x1.gknown)) && (decide ((if x1.gtotal > x0.gtotal then x1.gtotal else x0.gtotal) < v8.gto))) = true then
  some ((CPart.mk [] [] false 0),false)
 else
  (collect_without v6 v3.1).bind fun v11=>
  some ((CPart.mk v3.1 v11 (x0.gknown || x1.gknown) (if x1.gtotal > x0.gtotal then x1.gtotal else x0.gtotal)),true)
def CPart_merge (x0 : CPart) (x1 : CPart) : Option (CPart × Bool) :=
 if ((x0.gknown && x1.gknown) && (x0.gtotal != x1.gtotal)) = true then
  some ((CPart.mk [] [] false 0),false)
 else
  (collect_mergeEntries x0.gentries x1.gentries).bind fun v3=>
  if (!v3.2) = true then
   some ((CPart.mk [] [] false 0),false)
  else
   if (decide (0 < (List.length v3.1 : Int))) = true then
    (idx v3.1 (IntKind.wrap .i64 ((List.length v3.1 : Int) - 1))).bind fun v14=>
    if ((v14.gSeq == 18446744073709551615) || ((x0.gknown || x1.gknown) && (decide ((if x1.gtotal > x0.gtotal then x1.gtotal else x0.gtotal)≤v14.gSeq)))) = true then
     some ((CPart.mk [] [] false 0),false)
    else
     CPart_merge_K1 x0 x1 v3
   else
    CPart_merge_K1 x0 x1 v3
theorem CPart_merge_c {x0 : CPart} {x1 : CPart} {r : CPart × Bool} (hM : CPart_merge x0 x1 = some r) : PCall Try.prog 24 [.agg (CPart.cs x0),.agg (CPart.cs x1)] (.tup [.agg (CPart.cs r.1),.bool r.2]):=by
 unfold CPart_merge at hM
 refine PCall.body Try.func24 Try.ntmps24 rfl rfl rfl rfl ?_
 refine a_seq (ar (.cons (o_box rfl rfl)<|.cons (o_box rfl rfl)<|.cons (o_alloc rfl)<|.cons (o_assign rfl)<|.nil _) ?_)
 refine a_seq (a_seq (ar (.cons (o_fieldAddr rfl)<|.cons (o_load_s rfl rfl rfl)<|.cons (o_move rfl)<|.cons (o_guardG .bT rfl rfl (fun hb=>(.keep .nil)) (fun hb=>o_fieldAddr rfl))<|.cons (o_guardG .bT rfl rfl (fun hb=>(.strip rfl hb .nil)) (fun hb=>o_load_s rfl rfl rfl))<|.cons (o_and rfl rfl)<|.cons (o_move rfl)<|.cons (o_guardG .bT rfl rfl (fun hb=>(.keep .nil)) (fun hb=>o_fieldAddr rfl))<|.cons (o_guardG .bT rfl rfl (fun hb=>(.strip rfl hb .nil)) (fun hb=>o_load_s rfl rfl rfl))<|.cons (o_guardG .bT rfl rfl (fun hb=>(.keep .nil)) (fun hb=>o_fieldAddr rfl))<|.cons (o_guardG .bT rfl rfl (fun hb=>(.strip rfl hb .nil)) (fun hb=>o_load_s rfl rfl rfl))<|.cons (o_guardG .bT rfl rfl (fun hb=>(.strip rfl hb (.strip rfl hb .nil))) (fun hb=>o_int rfl rfl rfl))<|.cons (o_and rfl rfl)<|.nil _) ?_))
 refine a_cond _ rfl (fun h1=>?_) (fun h1=>?_)
 ·replace hM:=(of_if hM).1 h1
  refine a_seq (ar (.cons (o_build rfl rfl rfl)<|.cons (o_store rfl rfl rfl rfl rfl rfl rfl)<|.cons (o_assign rfl)<|.nil _) ?_)
  obtain rfl:=Option.some.inj hM
  exact a_ret (a_post (.r2 (.cell rfl rfl (.row _ CRow.h (Nat.le_of_ble_eq_true rfl) rfl)) (.tmp rfl)) (DLe.tup (.cons (DLe.agg (.cons (DLe.nils _) (.cons (DLe.nils _) (.cons (DLe.refl _) (.cons (DLe.refl _) .nil))))) (.cons (DLe.refl _) .nil))) PostOk.nil.spec)
 ·replace hM:=(of_if hM).2 h1
  refine a_skip (a_seq (ar (.cons (o_fieldAddr rfl)<|.cons (o_load_s rfl rfl rfl)<|.cons (o_move rfl)<|.cons (o_guardG .bF rfl rfl (fun hb=>(.keep .nil)) (fun hb=>o_fieldAddr rfl))<|.cons (o_guardG .bF rfl rfl (fun hb=>(.strip rfl hb .nil)) (fun hb=>o_load_s rfl rfl rfl))<|.cons (o_or rfl rfl)<|.cons (o_fieldAddr rfl)<|.cons (o_load_s rfl rfl rfl)<|.cons (o_fieldAddr rfl)<|.cons (o_load_s rfl rfl rfl)<|.cons (o_max rfl rfl)<|.cons (o_build rfl rfl rfl)<|.cons (o_alloc rfl)<|.cons (o_store rfl rfl rfl rfl rfl rfl rfl)<|.nil _) ?_))
  refine a_seq (ar (.cons (o_assign rfl)<|.nil _) ?_)
  refine a_seq (a_seq ?_)
  obtain ⟨v3,h2,hM⟩ := of_bind hM
  refine ar (.cons (o_fieldAddr rfl)<|.cons (o_load_s rfl rfl rfl)<|.cons (o_fieldAddr rfl)<|.cons (o_load_s rfl rfl rfl)<|.cons (o_call (collect_mergeEntries_c h2) rfl (DLeL.refl _) rfl)<|.cons (o_move rfl)<|.cons (o_extract rfl rfl)<|.cons (o_extract rfl rfl)<|.cons (o_fieldAddr rfl)<|.cons (o_store_s rfl rfl rfl rfl rfl)<|.cons (o_assign rfl)<|.nil _) ?_
  refine a_seq (ar (.cons (o_move rfl)<|.cons (o_not rfl)<|.nil _) ?_)
  refine a_cond _ rfl (fun h4=>?_) (fun h4=>?_)
  ·replace hM:=(of_if hM).1 h4
   refine a_seq (ar (.cons (o_build rfl rfl rfl)<|.cons (o_store rfl rfl rfl rfl rfl rfl rfl)<|.cons (o_assign rfl)<|.nil _) ?_)
   obtain rfl:=Option.some.inj hM
   exact a_ret (a_post (.r2 (.cell rfl rfl (.row _ CRow.h (Nat.le_of_ble_eq_true rfl) rfl)) (.tmp rfl)) (DLe.tup (.cons (DLe.agg (.cons (DLe.nils _) (.cons (DLe.nils _) (.cons (DLe.refl _) (.cons (DLe.refl _) .nil))))) (.cons (DLe.refl _) .nil))) PostOk.nil.spec)
  ·replace hM:=(of_if hM).2 h4
   refine a_skip ?_
   refine a_cut (α:=Unit) (fun s=>⟨[(2,.ref 2 0),(3,.ref 3 0),(4,.ref 4 0),(6,.ref 6 0)],[(2,some (.blk 79 (CPart.cs x0))),(3,some (.blk 79 (CPart.cs x1))),(4,some (.blk 79 [.nils,.nils,.bool false,.int .u64 0])),(6,some (.blk 79 [.sl 29 (List.map RRec.dv v3.1),.nils,.bool (x0.gknown || x1.gknown),.int .u64 (if x1.gtotal > x0.gtotal then x1.gtotal else x0.gtotal)]))],[2,3,4,6]⟩) (fun s=>CPart_merge_K1 x0 x1 v3 = some r) ?_ ?_
   ·refine a_seq (ar (.cons (o_fieldAddr rfl)<|.cons (o_load_s rfl rfl rfl)<|.cons (t_len rfl)<|.cons (o_assign rfl)<|.nil _) ?_)
    refine a_seq (ar (.cons (o_move rfl)<|.cons (o_int rfl rfl rfl)<|.nil _) ?_)
    refine a_cond _ rfl (fun h12=>?_) (fun h12=>?_)
    ·replace hM:=(of_if hM).1 h12
     refine a_seq ?_
     obtain ⟨v14,h13,hM⟩ := of_bind hM
     refine ar (.cons (o_fieldAddr rfl)<|.cons (o_load_s rfl rfl rfl)<|.cons (o_move rfl)<|.cons (o_int rfl rfl rfl)<|.cons (t_index h13 rfl rfl rfl)<|.cons (o_fieldAddr_e rfl rfl)<|.cons (o_load_es rfl rfl)<|.cons (o_assign rfl)<|.nil _) ?_
     refine a_seq (ar (.cons (o_move rfl)<|.cons (o_int rfl rfl rfl)<|.cons (o_move rfl)<|.cons (o_guardG .bF rfl rfl (fun hb=>(.keep .nil)) (fun hb=>o_fieldAddr rfl))<|.cons (o_guardG .bF rfl rfl (fun hb=>(.strip rfl hb .nil)) (fun hb=>o_load_s rfl rfl rfl))<|.cons (o_guardG .bF rfl rfl (fun hb=>(.strip rfl hb .nil)) (fun hb=>o_move rfl))<|.cons (o_guardG .iT rfl rfl (fun hb=>(.keep .nil)) (fun hb=>o_move rfl))<|.cons (o_guardG .iT rfl rfl (fun hb=>(.keep .nil)) (fun hb=>o_fieldAddr rfl))<|.cons (o_guardG .iT rfl rfl (fun hb=>(.strip rfl hb .nil)) (fun hb=>o_load_s rfl rfl rfl))<|.cons (o_guardG .iT rfl rfl (fun hb=>(.strip rfl hb (.strip rfl hb .nil))) (fun hb=>o_int rfl rfl rfl))<|.cons (o_guardG .bF rfl rfl (fun hb=>(.strip rfl hb (.half rfl hb .nil))) (fun hb=>o_and rfl rfl))<|.cons (o_or rfl rfl)<|.nil _) ?_)
     refine a_cond _ rfl (fun h15=>?_) (fun h15=>?_)
     ·replace hM:=(of_if hM).1 h15
      refine a_seq (ar (.cons (o_build rfl rfl rfl)<|.cons (o_store rfl rfl rfl rfl rfl rfl rfl)<|.cons (o_assign rfl)<|.nil _) ?_)
      obtain rfl:=Option.some.inj hM
      exact a_ret (a_post (.r2 (.cell rfl rfl (.row _ CRow.h (Nat.le_of_ble_eq_true rfl) rfl)) (.tmp rfl)) (DLe.tup (.cons (DLe.agg (.cons (DLe.nils _) (.cons (DLe.nils _) (.cons (DLe.refl _) (.cons (DLe.refl _) .nil))))) (.cons (DLe.refl _) .nil))) PostOk.nil.spec)
     ·replace hM:=(of_if hM).2 h15
      refine a_skip ?_
      exact ⟨(),hM,(Imp.sh (fun i=>i) rfl rfl rfl rfl rfl rfl)⟩
    ·replace hM:=(of_if hM).2 h12
     refine a_skip ?_
     exact ⟨(),hM,(Imp.sh (fun i=>i) rfl rfl rfl rfl rfl rfl)⟩
   ·rintro _ hM
    replace hM : CPart_merge_K1 x0 x1 v3 = some r:=hM
    unfold CPart_merge_K1 at hM
    refine a_seq ?_
    obtain ⟨v6,h5,hM⟩ := of_bind hM
    refine ar (.cons (o_fieldAddr rfl)<|.cons (o_load_s rfl rfl rfl)<|.cons (o_fieldAddr rfl)<|.cons (o_load_s rfl rfl rfl)<|.cons (o_call (collect_mergeSpans_c h5) rfl (DLeL.refl _) rfl)<|.cons (o_fieldAddr rfl)<|.cons (o_store_s rfl rfl rfl rfl rfl)<|.nil _) ?_
    refine a_seq (a_seq (ar (.cons (o_fieldAddr rfl)<|.cons (o_load_s rfl rfl rfl)<|.cons (t_len rfl)<|.cons (o_assign rfl)<|.nil _) ?_))
    refine a_seq ?_
    obtain ⟨v8,h7,hM⟩ := of_bind hM
    refine ad mixed (.cons (o_move rfl)<|.cons (o_int rfl rfl rfl)<|.cons (o_move rfl)<|.cons (o_guardG .bT rfl rfl (fun hb=>(.keep .nil)) (fun hb=>o_fieldAddr rfl))<|.cons (o_guardG .bT rfl rfl (fun hb=>(.strip rfl hb .nil)) (fun hb=>o_load_s rfl rfl rfl))<|.cons (o_and rfl rfl)<|.cons (o_move rfl)<|.cons (o_guardG .bT rfl rfl (fun hb=>(.keep .nil)) (fun hb=>o_fieldAddr rfl))<|.cons (o_guardG .bT rfl rfl (fun hb=>(.strip rfl hb .nil)) (fun hb=>o_load_s rfl rfl rfl))<|.cons (o_guardG .bT rfl rfl (fun hb=>(.keep .nil)) (fun hb=>o_move rfl))<|.cons (o_guardG .bT rfl rfl (fun hb=>(.strip rfl hb .nil)) (fun hb=>o_int rfl rfl rfl))<|.cons (o_guardG .bT rfl rfl (fun hb=>(.strip rfl hb (.strip rfl hb .nil))) (fun hb=>t_index (of_gb h7 hb) rfl rfl rfl))<|.cons (o_guardG .bT rfl rfl (fun hb=>(.strip rfl hb .nil)) (fun hb=>o_fieldAddr_e rfl rfl))<|.cons (o_guardG .bT rfl rfl (fun hb=>(.strip rfl hb .nil)) (fun hb=>o_load_es rfl rfl))<|.cons (o_guardG .bT rfl rfl (fun hb=>(.keep .nil)) (fun hb=>o_fieldAddr rfl))<|.cons (o_guardG .bT rfl rfl (fun hb=>(.strip rfl hb .nil)) (fun hb=>o_load_s rfl rfl rfl))<|.cons (o_guardG .bT rfl rfl (fun hb=>(.strip rfl hb (.strip rfl hb .nil))) (fun hb=>o_int rfl rfl rfl))<|.cons (o_and rfl rfl)<|.nil _) ?_
    refine a_cond _ rfl (fun h9=>?_) (fun h9=>?_)
    ·replace hM:=(of_if hM).1 h9
     refine a_seq (ar (.cons (o_build rfl rfl rfl)<|.cons (o_store rfl rfl rfl rfl rfl rfl rfl)<|.cons (o_assign rfl)<|.nil _) ?_)
     obtain rfl:=Option.some.inj hM
     exact a_ret (a_post (.r2 (.cell rfl rfl (.row _ CRow.h (Nat.le_of_ble_eq_true rfl) rfl)) (.tmp rfl)) (DLe.tup (.cons (DLe.agg (.cons (DLe.nils _) (.cons (DLe.nils _) (.cons (DLe.refl _) (.cons (DLe.refl _) .nil))))) (.cons (DLe.refl _) .nil))) PostOk.nil.spec)
    ·replace hM:=(of_if hM).2 h9
     refine a_skip (a_seq ?_)
     obtain ⟨v11,h10,hM⟩ := of_bind hM
     refine ar (.cons (o_fieldAddr rfl)<|.cons (o_load_s rfl rfl rfl)<|.cons (o_fieldAddr rfl)<|.cons (o_load_s rfl rfl rfl)<|.cons (o_call (collect_without_c h10) rfl (DLeL.refl _) rfl)<|.cons (o_fieldAddr rfl)<|.cons (o_store_s rfl rfl rfl rfl rfl)<|.nil _) ?_
     refine a_seq (ar (.cons (o_load_r rfl rfl rfl rfl)<|.cons (o_store rfl rfl rfl rfl rfl rfl rfl)<|.cons (o_assign rfl)<|.nil _) ?_)
     obtain rfl:=Option.some.inj hM
     exact a_ret (a_post (.r2 (.cell rfl rfl (.row _ CRow.h (Nat.le_of_ble_eq_true rfl) rfl)) (.tmp rfl)) (DLe.refl _) PostOk.nil.spec)
def VClk_Tick_K1 (a1 : Nat→Int) : Option VClk :=
 some (VClk.mk a1)
def VClk_Tick (x0 : VClk) (x1 : Int) : Option VClk :=
 chk (((decide (0≤x1)) && (decide (x1 < 16))) = true→inA 16 x1)<|
 if (((decide (0≤x1)) && (decide (x1 < 16))) && (decide ((x0.gat (Int.toNat x1)) < 18446744073709551615))) = true then
  chk (inA 16 x1)<|
  chk (inA 16 x1)<|
  VClk_Tick_K1 (upd x0.gat (Int.toNat x1) (IntKind.wrap .u64 ((x0.gat (Int.toNat x1)) + 1)))
 else
  VClk_Tick_K1 x0.gat
theorem VClk_Tick_c {x0 : VClk} {x1 : Int} {r : VClk} (hM : VClk_Tick x0 x1 = some r) : PCall Try.prog 16 [.agg (VClk.cs x0),.int .i64 x1] (.agg (VClk.cs r)):=by
 unfold VClk_Tick at hM
 refine PCall.body Try.func16 Try.ntmps16 rfl rfl rfl rfl ?_
 refine a_seq (ar (.cons (o_box rfl rfl)<|.cons (o_alloc rfl)<|.nil _) ?_)
 refine a_cut (α:=(Nat→Int)) (fun s=>⟨[(2,.ref 2 0),(4,.ref 4 0)],[(2,some (.blk 32 (VClk.cs (VClk.mk s)))),(4,some (.blk 32 (VClk.cs (VClk.mk (arr 0 [0,0,0,0,0,0,0,0,0,0,0,0,0,0,0,0])))))],[2,4]⟩) (fun s=>VClk_Tick_K1 s = some r) ?_ ?_
 ·refine a_seq ?_
  obtain ⟨h2,hM⟩ := of_chk hM
  refine ar (.cons (o_move rfl)<|.cons (o_int rfl rfl rfl)<|.cons (o_move rfl)<|.cons (o_guardG .bT rfl rfl (fun hb=>(.keep .nil)) (fun hb=>o_move rfl))<|.cons (o_guardG .bT rfl rfl (fun hb=>(.strip rfl hb .nil)) (fun hb=>o_int rfl rfl rfl))<|.cons (o_and rfl rfl)<|.cons (o_move rfl)<|.cons (o_guardG .bT rfl rfl (fun hb=>(.keep .nil)) (fun hb=>o_move rfl))<|.cons (o_guardG .bT rfl rfl (fun hb=>(.keep .nil)) (fun hb=>o_fieldAddr rfl))<|.cons (o_guardG .bT rfl rfl (fun hb=>(.strip rfl hb (.strip rfl hb .nil))) (fun hb=>t_index_d (h2 hb) rfl rfl))<|.cons (o_guardG .bT rfl rfl (fun hb=>(.strip rfl hb .nil)) (fun hb=>o_load_s rfl rfl (arr_get1 (DV.int .u64) x0.gat (h2 hb) rfl)))<|.cons (o_guardG .bT rfl rfl (fun hb=>(.strip rfl hb .nil)) (fun hb=>o_int rfl rfl rfl))<|.cons (o_and rfl rfl)<|.nil _) ?_
  refine a_cond _ rfl (fun h3=>?_) (fun h3=>?_)
  ·replace hM:=(of_if hM).1 h3
   obtain ⟨h4,hM⟩ := of_chk hM
   obtain ⟨h5,hM⟩ := of_chk hM
   refine ar (.cons (o_move rfl)<|.cons (o_fieldAddr rfl)<|.cons (t_index_d h4 rfl rfl)<|.cons (o_load_s rfl rfl (arr_get1 (DV.int .u64) x0.gat h4 rfl))<|.cons (o_int rfl rfl rfl)<|.cons (o_fieldAddr rfl)<|.cons (t_index_d h5 rfl rfl)<|.cons (o_store rfl rfl rfl rfl rfl (arr_ble (fun x=>[(DV.int .u64) x]) x0.gat (fun _=>rfl) (by decide) h5 rfl 0 1 (by decide)) (arr_set (ds' := [.int .u64 ((upd x0.gat (Int.toNat x1) (IntKind.wrap .u64 ((x0.gat (Int.toNat x1)) + 1))) 0),.int .u64 ((upd x0.gat (Int.toNat x1) (IntKind.wrap .u64 ((x0.gat (Int.toNat x1)) + 1))) 1),.int .u64 ((upd x0.gat (Int.toNat x1) (IntKind.wrap .u64 ((x0.gat (Int.toNat x1)) + 1))) 2),.int .u64 ((upd x0.gat (Int.toNat x1) (IntKind.wrap .u64 ((x0.gat (Int.toNat x1)) + 1))) 3),.int .u64 ((upd x0.gat (Int.toNat x1) (IntKind.wrap .u64 ((x0.gat (Int.toNat x1)) + 1))) 4),.int .u64 ((upd x0.gat (Int.toNat x1) (IntKind.wrap .u64 ((x0.gat (Int.toNat x1)) + 1))) 5),.int .u64 ((upd x0.gat (Int.toNat x1) (IntKind.wrap .u64 ((x0.gat (Int.toNat x1)) + 1))) 6),.int .u64 ((upd x0.gat (Int.toNat x1) (IntKind.wrap .u64 ((x0.gat (Int.toNat x1)) + 1))) 7),.int .u64 ((upd x0.gat (Int.toNat x1) (IntKind.wrap .u64 ((x0.gat (Int.toNat x1)) + 1))) 8),.int .u64 ((upd x0.gat (Int.toNat x1) (IntKind.wrap .u64 ((x0.gat (Int.toNat x1)) + 1))) 9),.int .u64 ((upd x0.gat (Int.toNat x1) (IntKind.wrap .u64 ((x0.gat (Int.toNat x1)) + 1))) 10),.int .u64 ((upd x0.gat (Int.toNat x1) (IntKind.wrap .u64 ((x0.gat (Int.toNat x1)) + 1))) 11),.int .u64 ((upd x0.gat (Int.toNat x1) (IntKind.wrap .u64 ((x0.gat (Int.toNat x1)) + 1))) 12),.int .u64 ((upd x0.gat (Int.toNat x1) (IntKind.wrap .u64 ((x0.gat (Int.toNat x1)) + 1))) 13),.int .u64 ((upd x0.gat (Int.toNat x1) (IntKind.wrap .u64 ((x0.gat (Int.toNat x1)) + 1))) 14),.int .u64 ((upd x0.gat (Int.toNat x1) (IntKind.wrap .u64 ((x0.gat (Int.toNat x1)) + 1))) 15)]) (fun x=>[(DV.int .u64) x]) x0.gat (IntKind.wrap .u64 ((x0.gat (Int.toNat x1)) + 1)) (fun _=>rfl) (by decide) h5 rfl 0 (Nat.le_of_ble_eq_true rfl) rfl rfl rfl rfl))<|.nil _) ?_
   exact ⟨(upd x0.gat (Int.toNat x1) (IntKind.wrap .u64 ((x0.gat (Int.toNat x1)) + 1))),hM,(Imp.sh (fun i=>i) rfl rfl rfl rfl rfl rfl)⟩
  ·replace hM:=(of_if hM).2 h3
   refine a_skip ?_
   exact ⟨x0.gat,hM,(Imp.sh (fun i=>i) rfl rfl rfl rfl rfl rfl)⟩
 ·rintro a1 hM
  replace hM : VClk_Tick_K1 a1 = some r:=hM
  unfold VClk_Tick_K1 at hM
  refine a_seq (ar (.cons (o_load_r rfl rfl rfl rfl)<|.cons (o_store rfl rfl rfl rfl rfl rfl rfl)<|.nil _) ?_)
  obtain rfl:=Option.some.inj hM
  exact a_ret (a_post (.r1 (.cell rfl rfl (.row _ CRow.h (Nat.le_of_ble_eq_true rfl) rfl))) (DLe.refl _) PostOk.nil.spec)
def w30_Raw_make (x0 : w30_Raw) (x1 : Int) : Option (RRec × e30_Record) :=
 chk ((0 : Int)≤x0.gSeq∧(0 : Int) < 40)<|
 chk ((0 : Int)≤x0.gWhat∧(0 : Int) < 4)<|
 if ((x0.gWhat % 4) == 2) = true then
  chk ((0 : Int)≤x0.gCount∧(0 : Int) < 8)<|
  some ((RRec.mk x1 (IntKind.wrap .u64 (IntKind.wrap .i64 (x0.gSeq % 40))) (VClk.mk (arr 0 [0,0,0,0,0,0,0,0,0,0,0,0,0,0,0,0])) 2 (AEv.mk 0 0 0 0 0 0 0 0 []) (IntKind.wrap .u64 (IntKind.wrap .i64 (1 + (IntKind.wrap .i64 (x0.gCount % 8)))))),(e30_Record.mk 2 (IntKind.wrap .i64 (x0.gSeq % 40)) 0 (IntKind.wrap .i64 (1 + (IntKind.wrap .i64 (x0.gCount % 8))))))
 else
  if ((x0.gWhat % 4) == 3) = true then
   some ((RRec.mk x1 (IntKind.wrap .u64 (IntKind.wrap .i64 (x0.gSeq % 40))) (VClk.mk (arr 0 [0,0,0,0,0,0,0,0,0,0,0,0,0,0,0,0])) 3 (AEv.mk 0 0 0 0 0 0 0 0 []) 0),(e30_Record.mk 3 (IntKind.wrap .i64 (x0.gSeq % 40)) 0 0))
  else
   chk ((0 : Int)≤x0.gId∧(0 : Int) < 3)<|
   (VClk_Tick (VClk.mk (arr 0 [0,0,0,0,0,0,0,0,0,0,0,0,0,0,0,0])) x1).bind fun v8=>
   some ((RRec.mk x1 (IntKind.wrap .u64 (IntKind.wrap .i64 (x0.gSeq % 40))) v8 1 (AEv.mk (IntKind.wrap .i64 (x0.gSeq % 40)) x1 3 0 (IntKind.wrap .i64 (1 + (IntKind.wrap .i64 (x0.gId % 3)))) 0 0 0 []) 0),(e30_Record.mk 1 (IntKind.wrap .i64 (x0.gSeq % 40)) (IntKind.wrap .i64 (1 + (IntKind.wrap .i64 (x0.gId % 3)))) 0))
theorem w30_Raw_make_c {x0 : w30_Raw} {x1 : Int} {r : RRec × e30_Record} (hM : w30_Raw_make x0 x1 = some r) : PCall Try.prog 6 [.agg (w30_Raw.cs x0),.int .i64 x1] (.tup [.agg (RRec.cs r.1),.agg (e30_Record.cs r.2)]):=by
 unfold w30_Raw_make at hM
 refine PCall.body Try.func6 Try.ntmps6 rfl rfl rfl rfl ?_
 refine a_seq (ar (.cons (o_box rfl rfl)<|.cons (o_alloc rfl)<|.cons (o_alloc rfl)<|.nil _) ?_)
 refine a_seq ?_
 obtain ⟨h1,hM⟩ := of_chk hM
 refine ar (.cons (o_fieldAddr rfl)<|.cons (o_load_s rfl rfl rfl)<|.cons (o_rem rfl rfl h1)<|.cons (o_conv_w rfl)<|.cons (o_assign rfl)<|.nil _) ?_
 refine a_seq (ar (.cons (o_move rfl)<|.cons (o_move rfl)<|.cons (o_conv_w rfl)<|.cons (o_build rfl rfl rfl)<|.cons (o_alloc rfl)<|.cons (o_store rfl rfl rfl rfl rfl rfl rfl)<|.nil _) ?_)
 refine a_seq (a_seq ?_)
 obtain ⟨h2,hM⟩ := of_chk hM
 refine ar (.cons (o_fieldAddr rfl)<|.cons (o_load_s rfl rfl rfl)<|.cons (o_rem rfl rfl h2)<|.nil _) ?_
 refine a_block (a_seq (ar (.cons (o_int rfl rfl rfl)<|.cons (o_assign rfl)<|.nil _) ?_))
 refine a_cond _ rfl (fun h3=>?_) (fun h3=>?_)
 ·replace hM:=(of_if hM).1 h3
  refine a_seq ?_
  obtain ⟨h4,hM⟩ := of_chk hM
  refine ar (.cons (o_fieldAddr rfl)<|.cons (o_load_s rfl rfl rfl)<|.cons (o_rem rfl rfl h4)<|.cons (o_conv_w rfl)<|.cons (o_int rfl rfl rfl)<|.cons (o_assign rfl)<|.nil _) ?_
  refine a_seq (ar (.cons (o_move rfl)<|.cons (o_conv_w rfl)<|.cons (o_fieldAddr rfl)<|.cons (o_store_s rfl rfl rfl rfl rfl)<|.cons (o_fieldAddr rfl)<|.cons (o_store_s rfl rfl rfl rfl rfl)<|.nil _) ?_)
  refine a_seq (ar (.cons (o_load_r rfl rfl rfl rfl)<|.cons (o_move rfl)<|.cons (o_move rfl)<|.cons (o_build rfl rfl rfl)<|.cons (o_store rfl rfl rfl rfl rfl rfl rfl)<|.cons (o_store rfl rfl rfl rfl rfl rfl rfl)<|.nil _) ?_)
  obtain rfl:=Option.some.inj hM
  exact a_ret (a_post (.r2 (.cell rfl rfl (.row _ CRow.h (Nat.le_of_ble_eq_true rfl) rfl)) (.cell rfl rfl (.row _ CRow.h (Nat.le_of_ble_eq_true rfl) rfl))) (DLe.tup (.cons (DLe.agg (.cons (DLe.refl _) (.cons (DLe.refl _) (.cons (DLe.refl _) (.cons (DLe.refl _) (.cons (DLe.refl _) (.cons (DLe.refl _) (.cons (DLe.refl _) (.cons (DLe.refl _) (.cons (DLe.refl _) (.cons (DLe.refl _) (.cons (DLe.refl _) (.cons (DLe.refl _) (.cons (DLe.refl _) (.cons (DLe.refl _) (.cons (DLe.refl _) (.cons (DLe.refl _) (.cons (DLe.refl _) (.cons (DLe.refl _) (.cons (DLe.refl _) (.cons (DLe.refl _) (.cons (DLe.refl _) (.cons (DLe.refl _) (.cons (DLe.refl _) (.cons (DLe.refl _) (.cons (DLe.refl _) (.cons (DLe.refl _) (.cons (DLe.refl _) (.cons (DLe.nils _) (.cons (DLe.refl _) .nil)))))))))))))))))))))))))))))) (.cons (DLe.refl _) .nil))) PostOk.nil.spec)
 ·replace hM:=(of_if hM).2 h3
  refine a_seq (ar (.cons (o_int rfl rfl rfl)<|.cons (o_assign rfl)<|.nil _) ?_)
  refine a_cond _ rfl (fun h5=>?_) (fun h5=>?_)
  ·replace hM:=(of_if hM).1 h5
   refine a_seq (ar (.cons (o_fieldAddr rfl)<|.cons (o_store_s rfl rfl rfl rfl rfl)<|.nil _) ?_)
   refine a_seq (ar (.cons (o_load_r rfl rfl rfl rfl)<|.cons (o_move rfl)<|.cons (o_build rfl rfl rfl)<|.cons (o_store rfl rfl rfl rfl rfl rfl rfl)<|.cons (o_store rfl rfl rfl rfl rfl rfl rfl)<|.nil _) ?_)
   obtain rfl:=Option.some.inj hM
   exact a_ret (a_post (.r2 (.cell rfl rfl (.row _ CRow.h (Nat.le_of_ble_eq_true rfl) rfl)) (.cell rfl rfl (.row _ CRow.h (Nat.le_of_ble_eq_true rfl) rfl))) (DLe.tup (.cons (DLe.agg (.cons (DLe.refl _) (.cons (DLe.refl _) (.cons (DLe.refl _) (.cons (DLe.refl _) (.cons (DLe.refl _) (.cons (DLe.refl _) (.cons (DLe.refl _) (.cons (DLe.refl _) (.cons (DLe.refl _) (.cons (DLe.refl _) (.cons (DLe.refl _) (.cons (DLe.refl _) (.cons (DLe.refl _) (.cons (DLe.refl _) (.cons (DLe.refl _) (.cons (DLe.refl _) (.cons (DLe.refl _) (.cons (DLe.refl _) (.cons (DLe.refl _) (.cons (DLe.refl _) (.cons (DLe.refl _) (.cons (DLe.refl _) (.cons (DLe.refl _) (.cons (DLe.refl _) (.cons (DLe.refl _) (.cons (DLe.refl _) (.cons (DLe.refl _) (.cons (DLe.nils _) (.cons (DLe.refl _) .nil)))))))))))))))))))))))))))))) (.cons (DLe.refl _) .nil))) PostOk.nil.spec)
  ·replace hM:=(of_if hM).2 h5
   refine a_skip (a_seq ?_)
   obtain ⟨h6,hM⟩ := of_chk hM
   refine ar (.cons (o_fieldAddr rfl)<|.cons (o_load_s rfl rfl rfl)<|.cons (o_rem rfl rfl h6)<|.cons (o_conv_w rfl)<|.cons (o_int rfl rfl rfl)<|.cons (o_assign rfl)<|.nil _) ?_
   refine a_seq ?_
   obtain ⟨v8,h7,hM⟩ := of_bind hM
   refine ar (.cons (o_build rfl rfl rfl)<|.cons (o_move rfl)<|.cons (o_call (VClk_Tick_c h7) rfl (DLeL.refl _) rfl)<|.cons (o_fieldAddr rfl)<|.cons (o_store rfl rfl rfl rfl rfl rfl rfl)<|.nil _) ?_
   refine a_seq (ar (.cons (o_move rfl)<|.cons (o_move rfl)<|.cons (o_move rfl)<|.cons (o_build rfl rfl rfl)<|.cons (o_fieldAddr rfl)<|.cons (o_store rfl rfl rfl rfl rfl rfl rfl)<|.nil _) ?_)
   refine a_seq (ar (.cons (o_load_r rfl rfl rfl rfl)<|.cons (o_move rfl)<|.cons (o_move rfl)<|.cons (o_build rfl rfl rfl)<|.cons (o_store rfl rfl rfl rfl rfl rfl rfl)<|.cons (o_store rfl rfl rfl rfl rfl rfl rfl)<|.nil _) ?_)
   obtain rfl:=Option.some.inj hM
   exact a_ret (a_post (.r2 (.cell rfl rfl (.row _ CRow.h (Nat.le_of_ble_eq_true rfl) rfl)) (.cell rfl rfl (.row _ CRow.h (Nat.le_of_ble_eq_true rfl) rfl))) (DLe.tup (.cons (DLe.agg (.cons (DLe.refl _) (.cons (DLe.refl _) (.cons (DLe.refl _) (.cons (DLe.refl _) (.cons (DLe.refl _) (.cons (DLe.refl _) (.cons (DLe.refl _) (.cons (DLe.refl _) (.cons (DLe.refl _) (.cons (DLe.refl _) (.cons (DLe.refl _) (.cons (DLe.refl _) (.cons (DLe.refl _) (.cons (DLe.refl _) (.cons (DLe.refl _) (.cons (DLe.refl _) (.cons (DLe.refl _) (.cons (DLe.refl _) (.cons (DLe.refl _) (.cons (DLe.refl _) (.cons (DLe.refl _) (.cons (DLe.refl _) (.cons (DLe.refl _) (.cons (DLe.refl _) (.cons (DLe.refl _) (.cons (DLe.refl _) (.cons (DLe.refl _) (.cons (DLe.nils _) (.cons (DLe.refl _) .nil)))))))))))))))))))))))))))))) (.cons (DLe.refl _) .nil))) PostOk.nil.spec)
def w30_File_bytes_K1 (x0 : w30_File) (x1 : Int) (a2 : List Int) (a3 : List e30_Record) : Option (Int × (List Int) × (List e30_Record)) :=
 some (((IntKind.wrap .i64 x0.gComponent) % (IntKind.wrap .i64 (x1 + 1))),a2,a3)
def w30_File_bytes_L2 (x0 : w30_File) (x1 : Int) (a4 : List Int) (a5 : List e30_Record) (a6 : Int) : Option (Ctl ((List Int) × (List e30_Record) × Int) (((List Int) × (List e30_Record)) ⊕ (Int × (List Int) × (List e30_Record)))) :=
 if ((decide (a6 < (List.length x0.gRecords : Int))) && (decide (a6 < 12))) = true then
  (idx x0.gRecords a6).bind fun v11=>
  (w30_Raw_make v11 ((IntKind.wrap .i64 x0.gComponent) % (IntKind.wrap .i64 (x1 + 1)))).bind fun v13=>
  (RRec_Bytes v13.1).bind fun v15=>
  (frame_Append a4 v15).bind fun v17=>
  if (v17.2 != 0) = true then
   some (.done (.inr (((IntKind.wrap .i64 x0.gComponent) % (IntKind.wrap .i64 (x1 + 1))),([] : List Int),([] : List e30_Record))))
  else
   chk (apOk 32 (List.length a5 + List.length [v13.2]))<|
   some (.next (v17.1,(a5++[v13.2]),(IntKind.wrap .i64 (a6 + 1))))
 else
  some (.done (.inl (a4,a5)))
def w30_File_bytes (x0 : w30_File) (x1 : Int) : Option (Int × (List Int) × (List e30_Record)) :=
 chk ((0 : Int)≤(IntKind.wrap .i64 x0.gComponent)∧(0 : Int) < (IntKind.wrap .i64 (x1 + 1)))<|
 (whileM (E:=((List Int) × (List e30_Record)) ⊕ (Int × (List Int) × (List e30_Record))) (fun s=>w30_File_bytes_L2 x0 x1 s.1 s.2.1 s.2.2) (([] : List Int),([] : List e30_Record),0)).bind fun
  | .inl e=>w30_File_bytes_K1 x0 x1 e.1 e.2
  | .inr r=>some r
theorem w30_File_bytes_c {x0 : w30_File} {x1 : Int} {r : Int × (List Int) × (List e30_Record)} (hM : w30_File_bytes x0 x1 = some r) : ACall Try.prog 13 ⟨[.agg [.int .u8 x0.gComponent,.sl 4 (List.map w30_Raw.dv x0.gRecords)],.int .i64 x1],[],.tup [.int .i64 r.1,.row 50000,.row 50001],[(50000,some (.row 5 1 (List.map (DV.int .u8) r.2.1))),(50001,some (.row 41 4 (List.map e30_Record.dv r.2.2)))],[50000,50001]⟩ := by
 unfold w30_File_bytes at hM
 refine ACall.body Try.func13 Try.ntmps13 rfl rfl rfl rfl ?_
 refine a_seq (ar (.cons (o_box rfl rfl)<|.cons (o_assign rfl)<|.cons (o_assign rfl)<|.cons (o_assign rfl)<|.nil _) ?_)
 refine a_seq ?_
 obtain ⟨h1,hM⟩ := of_chk hM
 refine ar (.cons (o_fieldAddr rfl)<|.cons (o_load_s rfl rfl rfl)<|.cons (o_conv_w rfl)<|.cons (o_move rfl)<|.cons (o_int rfl rfl rfl)<|.cons (o_rem rfl rfl h1)<|.cons (o_assign rfl)<|.nil _) ?_
 refine a_seq (ar (.cons (o_assign rfl)<|.nil _) ?_)
 refine a_seq (ar (.cons (o_assign rfl)<|.nil _) ?_)
 refine a_cut (α:=(List Int) × (List e30_Record)) (fun s=>⟨[(7,.int .i64 ((IntKind.wrap .i64 x0.gComponent) % (IntKind.wrap .i64 (x1 + 1)))),(8,.row 10001),(9,.row 10002)],[(10001,some (.row 5 1 (List.map (DV.int .u8) s.1))),(10002,some (.row 41 4 (List.map e30_Record.dv s.2)))],[10001,10002]⟩) (fun s=>w30_File_bytes_K1 x0 x1 s.1 s.2 = some r) ?_ ?_
 ·refine a_seq (ar (.cons (o_assign rfl)<|.nil _) ?_)
  obtain ⟨e7,hL7,hK7⟩ := of_bind hM
  refine a_block (a_while (fun s : (List Int) × (List e30_Record) × Int=>⟨[(2,.ref 2 0),(7,.int .i64 ((IntKind.wrap .i64 x0.gComponent) % (IntKind.wrap .i64 (x1 + 1)))),(8,.row 10003),(9,.row 10004),(10,.int .i64 s.2.2)],[(2,some (.blk 64 [.int .u8 x0.gComponent,.sl 4 (List.map w30_Raw.dv x0.gRecords)])),(10003,some (.row 5 1 (List.map (DV.int .u8) s.1))),(10004,some (.row 41 4 (List.map e30_Record.dv s.2.1)))],[2,10003,10004]⟩) _ hL7 ((Imp.nilRow (t:=8) (id:=10006) 5 1 rfl rfl).trans ((Imp.nilRow (t:=9) (id:=10007) 41 4 rfl rfl).trans (Imp.sh (fun i=>bif Nat.beq i 10004 then 10007 else bif Nat.beq i 10003 then 10006 else i) rfl rfl rfl rfl rfl rfl))) ?_)
  rintro ⟨a4,a5,a6⟩ t8 hM hE7
  replace hM : w30_File_bytes_L2 x0 x1 a4 a5 a6 = some t8:=hM
  unfold w30_File_bytes_L2 at hM
  refine a_seq (a_seq (ar (.cons (o_move rfl)<|.cons (o_fieldAddr rfl)<|.cons (o_load_s rfl rfl rfl)<|.cons (t_len rfl)<|.cons (o_int rfl rfl rfl)<|.cons (o_move rfl)<|.cons (o_guardG .bT rfl rfl (fun hb=>(.keep .nil)) (fun hb=>o_move rfl))<|.cons (o_guardG .bT rfl rfl (fun hb=>(.strip rfl hb .nil)) (fun hb=>o_int rfl rfl rfl))<|.cons (o_and rfl rfl)<|.nil _) ?_))
  refine a_cond _ rfl (fun h9=>?_) (fun h9=>?_)
  ·replace hM:=(of_if hM).1 h9
   refine a_skip (a_seq (a_block (a_seq ?_)))
   obtain ⟨v11,h10,hM⟩ := of_bind hM
   obtain ⟨v13,h12,hM⟩ := of_bind hM
   refine ar (.cons (o_fieldAddr rfl)<|.cons (o_load_s rfl rfl rfl)<|.cons (o_move rfl)<|.cons (t_index h10 rfl rfl rfl)<|.cons (o_load_er rfl rfl rfl)<|.cons (o_move rfl)<|.cons (o_call (w30_Raw_make_c h12) rfl (DLeL.refl _) rfl)<|.cons (o_move rfl)<|.cons (o_extract rfl rfl)<|.cons (o_extract rfl rfl)<|.cons (o_alloc rfl)<|.cons (o_alloc rfl)<|.cons (o_store rfl rfl rfl rfl rfl rfl rfl)<|.cons (o_store rfl rfl rfl rfl rfl rfl rfl)<|.nil _) ?_
   refine a_seq (a_imp (Imp.freeze (id:=10003) rfl) ?_)
   obtain ⟨v15,h14,hM⟩ := of_bind hM
   obtain ⟨v17,h16,hM⟩ := of_bind hM
   refine ar (.cons (o_move rfl)<|.cons (o_load_r rfl rfl rfl rfl)<|.cons (o_call (RRec_Bytes_c h14) rfl (DLeL.refl _) rfl)<|.cons (o_callN (fun i=>bif Nat.beq i 50000 then 10005 else i) 1 (frame_Append_c h16) rfl (DLeL.refl _) .nil rfl .nil)<|.cons (o_move rfl)<|.cons (o_extract rfl rfl)<|.cons (o_extract rfl rfl)<|.cons (o_assign rfl)<|.cons (o_assign rfl)<|.nil _) ?_
   refine a_seq (a_seq (ar (.cons (o_move rfl)<|.cons (o_int rfl rfl rfl)<|.nil _) ?_))
   refine a_cond _ rfl (fun h18=>?_) (fun h18=>?_)
   ·replace hM:=(of_if hM).1 h18
    refine a_seq (ar (.cons (o_move rfl)<|.cons (o_assign rfl)<|.cons (o_assign rfl)<|.cons (o_assign rfl)<|.nil _) ?_)
    obtain rfl:=Option.some.inj hM
    obtain rfl:=hE7 _ rfl
    obtain rfl:=Option.some.inj hK7
    refine a_imp (Imp.nilRow (t:=5) (id:=49005) 5 1 rfl rfl) ?_
    refine a_imp (Imp.nilRow (t:=6) (id:=49006) 41 4 rfl rfl) ?_
    refine a_imp (σ' := ⟨[(4,.int .i64 ((IntKind.wrap .i64 x0.gComponent) % (IntKind.wrap .i64 (x1 + 1)))),(5,.row 50000),(6,.row 50001)],[(50000,some (.row 5 1 (List.map (DV.int .u8) ([] : List Int)))),(50001,some (.row 41 4 (List.map e30_Record.dv ([] : List e30_Record))))],[50000,50001]⟩) (Imp.sh (fun i=>bif Nat.beq i 50001 then 49006 else bif Nat.beq i 50000 then 49005 else i) rfl rfl rfl rfl rfl rfl) ?_
    exact a_ret (a_post (.r3 (.tmp rfl) (.tmp rfl) (.tmp rfl)) (DLe.refl _) (PostOk.spec (.cons rfl (.cons rfl .nil))))
   ·replace hM:=(of_if hM).2 h18
    refine a_skip (a_seq (ar (.cons (o_move rfl)<|.cons (o_assign rfl)<|.nil _) ?_))
    obtain ⟨h19,hM⟩ := of_chk hM
    refine ar (.cons (o_move rfl)<|.cons (o_load_r rfl rfl rfl rfl)<|.cons (t_build e30_Record.dv ([v13.2] : List e30_Record) rfl rfl rfl rfl rfl rfl rfl)<|.cons (t_append [v13.2] h19 rfl rfl rfl (Src.row rfl))<|.cons (o_assign rfl)<|.nil _) ?_
    refine ar (.cons (o_move rfl)<|.cons (o_int rfl rfl rfl)<|.cons (o_assign rfl)<|.nil _) ?_
    obtain rfl:=Option.some.inj hM
    exact ⟨(v17.1,(a5++[v13.2]),(IntKind.wrap .i64 (a6 + 1))),rfl,(Imp.sh (fun i=>bif Nat.beq i 10004 then 56 else bif Nat.beq i 10003 then 10005 else i) rfl rfl rfl rfl rfl rfl)⟩
  ·replace hM:=(of_if hM).2 h9
   refine a_exit ?_
   obtain rfl:=Option.some.inj hM
   obtain rfl:=hE7 _ rfl
   exact ⟨(a4,a5),hK7,(Imp.sh (fun i=>bif Nat.beq i 10002 then 10004 else bif Nat.beq i 10001 then 10003 else i) rfl rfl rfl rfl rfl rfl)⟩
 ·rintro ⟨a2,a3⟩ hM
  replace hM : w30_File_bytes_K1 x0 x1 a2 a3 = some r:=hM
  unfold w30_File_bytes_K1 at hM
  refine a_seq (ar (.cons (o_move rfl)<|.cons (o_move rfl)<|.cons (o_move rfl)<|.cons (o_assign rfl)<|.cons (o_assign rfl)<|.cons (o_assign rfl)<|.nil _) ?_)
  obtain rfl:=Option.some.inj hM
  refine a_imp (σ' := ⟨[(4,.int .i64 ((IntKind.wrap .i64 x0.gComponent) % (IntKind.wrap .i64 (x1 + 1)))),(5,.row 50000),(6,.row 50001)],[(50000,some (.row 5 1 (List.map (DV.int .u8) a2))),(50001,some (.row 41 4 (List.map e30_Record.dv a3)))],[50000,50001]⟩) (Imp.sh (fun i=>bif Nat.beq i 50001 then 10002 else bif Nat.beq i 50000 then 10001 else i) rfl rfl rfl rfl rfl rfl) ?_
  exact a_ret (a_post (.r3 (.tmp rfl) (.tmp rfl) (.tmp rfl)) (DLe.refl _) (PostOk.spec (.cons rfl (.cons rfl .nil))))
def CColl_Add_a (x1 : Int) (x2 : List Int) (o0 : CColl) : Option (Int × CColl) :=
 if ((decide (x1 < 0)) || (decide ((List.length o0.gparts : Int)≤x1))) = true then
  some (1,o0)
 else
  (recorder_Read x2).bind fun v3=>
  (CPartOf v3.1 x1).bind fun v5=>
  if (!v5.2) = true then
   some (14,o0)
  else
   (idx o0.gparts x1).bind fun v8=>
   (CPart_merge v8 v5.1).bind fun v10=>
   if (!v10.2) = true then
    some (14,o0)
   else
    (idx o0.gparts x1).bind fun v13=>
    some (0,(CColl.mk (List.set o0.gparts (Int.toNat x1) v10.1)))
theorem CColl_Add_a_c {x1 : Int} {x2 : List Int} {o0 : CColl} {r : Int × CColl} (hM : CColl_Add_a x1 x2 o0 = some r) : ACall Try.prog 9 ⟨[.ref 100000 0,.int .i64 x1,.sl 1 (List.map (DV.int .u8) x2)],[(100000,some (.blk 59 [.row 100001])),(100001,some (.row 79 4 (List.map CPart.dv o0.gparts)))],.int .i64 r.1,[(100000,some (.blk 59 [.row 50000])),(50000,some (.row 79 4 (List.map CPart.dv r.2.gparts))),(100001,none)],[50000]⟩ := by
 unfold CColl_Add_a at hM
 refine ACall.body Try.func9 Try.ntmps9 rfl rfl rfl rfl ?_
 refine a_seq (ar (.cons (o_assign rfl)<|.nil _) ?_)
 refine a_seq (a_seq (ar (.cons (o_move rfl)<|.cons (o_ptr_eq rfl)<|.cons (o_move rfl)<|.cons (o_guardOn .bF rfl rfl rfl (.keep .nil) (o_move rfl))<|.cons (o_guardOn .bF rfl rfl rfl (.strip rfl rfl .nil) (o_int rfl rfl rfl))<|.cons (o_or rfl rfl)<|.cons (o_move rfl)<|.cons (o_guardG .bF rfl rfl (fun hb=>(.keep .nil)) (fun hb=>o_move rfl))<|.cons (o_guardG .bF rfl rfl (fun hb=>(.keep .nil)) (fun hb=>o_move rfl))<|.cons (o_guardG .bF rfl rfl (fun hb=>(.strip rfl hb .nil)) (fun hb=>o_nilCheck rfl))<|.cons (o_guardG .bF rfl rfl (fun hb=>(.strip rfl hb .nil)) (fun hb=>o_fieldAddr rfl))<|.cons (o_guardG .bF rfl rfl (fun hb=>(.strip rfl hb .nil)) (fun hb=>o_load_s rfl rfl rfl))<|.cons (o_guardG .bF rfl rfl (fun hb=>(.strip rfl hb .nil)) (fun hb=>t_len_r rfl rfl))<|.cons (o_guardG .bF rfl rfl (fun hb=>(.strip rfl hb (.strip rfl hb .nil))) (fun hb=>o_int rfl rfl rfl))<|.cons (o_or rfl rfl)<|.nil _) ?_))
 refine a_cond _ rfl (fun h1=>?_) (fun h1=>?_)
 ·replace hM:=(of_if hM).1 h1
  refine a_seq (ar (.cons (o_assign rfl)<|.nil _) ?_)
  obtain rfl:=Option.some.inj hM
  refine a_imp (σ' := ⟨[(6,.int .i64 1)],[(50000,some (.row 79 4 (List.map CPart.dv o0.gparts))),(100000,some (.blk 59 [.row 50000]))],[50000,100000,100001]⟩) (Imp.sh (fun i=>bif Nat.beq i 50000 then 100001 else i) rfl rfl rfl rfl rfl rfl) ?_
  exact a_ret (a_post (.r1 (.tmp rfl)) (DLe.refl _) (PostOk.spec (.cons rfl (.cons rfl (.gone .nil)))))
 ·replace hM:=(of_if hM).2 h1
  refine a_skip (a_seq ?_)
  obtain ⟨v3,h2,hM⟩ := of_bind hM
  refine ar (.cons (o_move rfl)<|.cons (o_call (recorder_Read_c h2) rfl (DLeL.refl _) rfl)<|.cons (o_move rfl)<|.cons (o_extract rfl rfl)<|.cons (o_extract rfl rfl)<|.cons (o_assign rfl)<|.cons (o_assign rfl)<|.nil _) ?_
  refine a_seq ?_
  obtain ⟨v5,h4,hM⟩ := of_bind hM
  refine ar (.cons (o_move rfl)<|.cons (o_move rfl)<|.cons (o_call (CPartOf_c h4) rfl (DLeL.refl _) rfl)<|.cons (o_move rfl)<|.cons (o_extract rfl rfl)<|.cons (o_extract rfl rfl)<|.cons (o_alloc rfl)<|.cons (o_store rfl rfl rfl rfl rfl rfl rfl)<|.cons (o_assign rfl)<|.nil _) ?_
  refine a_seq (a_seq (ar (.cons (o_move rfl)<|.cons (o_not rfl)<|.nil _) ?_))
  refine a_cond _ rfl (fun h6=>?_) (fun h6=>?_)
  ·replace hM:=(of_if hM).1 h6
   refine a_seq (ar (.cons (o_assign rfl)<|.nil _) ?_)
   obtain rfl:=Option.some.inj hM
   refine a_imp (σ' := ⟨[(6,.int .i64 14)],[(50000,some (.row 79 4 (List.map CPart.dv o0.gparts))),(100000,some (.blk 59 [.row 50000]))],[50000,100000,100001]⟩) (Imp.sh (fun i=>bif Nat.beq i 50000 then 100001 else i) rfl rfl rfl rfl rfl rfl) ?_
   exact a_ret (a_post (.r1 (.tmp rfl)) (DLe.refl _) (PostOk.spec (.cons rfl (.cons rfl (.gone .nil)))))
  ·replace hM:=(of_if hM).2 h6
   refine a_skip (a_seq ?_)
   obtain ⟨v8,h7,hM⟩ := of_bind hM
   obtain ⟨v10,h9,hM⟩ := of_bind hM
   refine ad mixed (.cons (o_move rfl)<|.cons (o_nilCheck rfl)<|.cons (o_fieldAddr rfl)<|.cons (o_load_s rfl rfl rfl)<|.cons (o_move rfl)<|.cons (t_index_r h7 rfl rfl rfl)<|.cons (t_load_pr h7 rfl rfl rfl rfl rfl)<|.cons (o_load_r rfl rfl rfl rfl)<|.cons (o_call (CPart_merge_c h9) rfl (DLeL.refl _) rfl)<|.cons (o_move rfl)<|.cons (o_extract rfl rfl)<|.cons (o_extract rfl rfl)<|.cons (o_alloc rfl)<|.cons (o_store rfl rfl rfl rfl rfl rfl rfl)<|.cons (o_assign rfl)<|.nil _) ?_
   refine a_seq (a_seq (ar (.cons (o_move rfl)<|.cons (o_not rfl)<|.nil _) ?_))
   refine a_cond _ rfl (fun h11=>?_) (fun h11=>?_)
   ·replace hM:=(of_if hM).1 h11
    refine a_seq (ar (.cons (o_assign rfl)<|.nil _) ?_)
    obtain rfl:=Option.some.inj hM
    refine a_imp (σ' := ⟨[(6,.int .i64 14)],[(50000,some (.row 79 4 (List.map CPart.dv o0.gparts))),(100000,some (.blk 59 [.row 50000]))],[50000,100000,100001]⟩) (Imp.sh (fun i=>bif Nat.beq i 50000 then 100001 else i) rfl rfl rfl rfl rfl rfl) ?_
    exact a_ret (a_post (.r1 (.tmp rfl)) (DLe.refl _) (PostOk.spec (.cons rfl (.cons rfl (.gone .nil)))))
   ·replace hM:=(of_if hM).2 h11
    refine a_skip (a_seq ?_)
    obtain ⟨v13,h12,hM⟩ := of_bind hM
    refine ad mixed (.cons (o_move rfl)<|.cons (o_nilCheck rfl)<|.cons (o_fieldAddr rfl)<|.cons (o_load_s rfl rfl rfl)<|.cons (o_move rfl)<|.cons (o_load_r rfl rfl rfl rfl)<|.cons (t_index_r h12 rfl rfl rfl)<|.cons (t_store_p v10.1 h12 rfl rfl rfl rfl rfl rfl rfl rfl rfl rfl rfl)<|.nil _) ?_
    refine a_seq (ar (.cons (o_assign rfl)<|.nil _) ?_)
    obtain rfl:=Option.some.inj hM
    refine a_imp (σ' := ⟨[(6,.int .i64 0)],[(50000,some (.row 79 4 (List.map CPart.dv ((CColl.mk (List.set o0.gparts (Int.toNat x1) v10.1)).gparts)))),(100000,some (.blk 59 [.row 50000]))],[50000,100000,100001]⟩) (Imp.sh (fun i=>bif Nat.beq i 50000 then 100001 else i) rfl rfl rfl rfl rfl rfl) ?_
    exact a_ret (a_post (.r1 (.tmp rfl)) (DLe.refl _) (PostOk.spec (.cons rfl (.cons rfl (.gone .nil)))))
def CColl_part_a (x1 : Int) (o0 : CColl) : Option CPart :=
 if ((decide (x1 < 0)) || (decide ((List.length o0.gparts : Int)≤x1))) = true then
  some (CPart.mk [] [] false 0)
 else
  (idx o0.gparts x1).bind fun v3=>
  some v3
theorem CColl_part_a_c {x1 : Int} {o0 : CColl} {r : CPart} (hM : CColl_part_a x1 o0 = some r) : ACall Try.prog 26 ⟨[.ref 100000 0,.int .i64 x1],[(100000,some (.blk 59 [.row 100001])),(100001,some (.row 79 4 (List.map CPart.dv o0.gparts)))],.agg (CPart.cs r),[(100000,some (.blk 59 [.row 100001])),(100001,some (.row 79 4 (List.map CPart.dv o0.gparts)))],[]⟩ := by
 unfold CColl_part_a at hM
 refine ACall.body Try.func26 Try.ntmps26 rfl rfl rfl rfl ?_
 refine a_seq (ar (.cons (o_alloc rfl)<|.nil _) ?_)
 refine a_seq (a_seq (ar (.cons (o_move rfl)<|.cons (o_ptr_eq rfl)<|.cons (o_move rfl)<|.cons (o_guardOn .bF rfl rfl rfl (.keep .nil) (o_move rfl))<|.cons (o_guardOn .bF rfl rfl rfl (.strip rfl rfl .nil) (o_int rfl rfl rfl))<|.cons (o_or rfl rfl)<|.cons (o_move rfl)<|.cons (o_guardG .bF rfl rfl (fun hb=>(.keep .nil)) (fun hb=>o_move rfl))<|.cons (o_guardG .bF rfl rfl (fun hb=>(.keep .nil)) (fun hb=>o_move rfl))<|.cons (o_guardG .bF rfl rfl (fun hb=>(.strip rfl hb .nil)) (fun hb=>o_nilCheck rfl))<|.cons (o_guardG .bF rfl rfl (fun hb=>(.strip rfl hb .nil)) (fun hb=>o_fieldAddr rfl))<|.cons (o_guardG .bF rfl rfl (fun hb=>(.strip rfl hb .nil)) (fun hb=>o_load_s rfl rfl rfl))<|.cons (o_guardG .bF rfl rfl (fun hb=>(.strip rfl hb .nil)) (fun hb=>t_len_r rfl rfl))<|.cons (o_guardG .bF rfl rfl (fun hb=>(.strip rfl hb (.strip rfl hb .nil))) (fun hb=>o_int rfl rfl rfl))<|.cons (o_or rfl rfl)<|.nil _) ?_))
 refine a_cond _ rfl (fun h1=>?_) (fun h1=>?_)
 ·replace hM:=(of_if hM).1 h1
  refine a_seq (ar (.cons (o_build rfl rfl rfl)<|.cons (o_store rfl rfl rfl rfl rfl rfl rfl)<|.nil _) ?_)
  obtain rfl:=Option.some.inj hM
  refine a_imp (σ' := ⟨[(4,.ref 4 0)],[(4,some (.blk 79 [.nils,.nils,.bool false,.int .u64 0])),(100000,some (.blk 59 [.row 100001])),(100001,some (.row 79 4 (List.map CPart.dv o0.gparts)))],[4,100000,100001]⟩) (Imp.sh (fun i=>i) rfl rfl rfl rfl rfl rfl) ?_
  exact a_ret (a_post (.r1 (.cell rfl rfl (.row _ CRow.h (Nat.le_of_ble_eq_true rfl) rfl))) (DLe.agg (.cons (DLe.nils _) (.cons (DLe.nils _) (.cons (DLe.refl _) (.cons (DLe.refl _) .nil))))) (PostOk.spec (.cons rfl (.cons rfl .nil))))
 ·replace hM:=(of_if hM).2 h1
  refine a_skip (a_seq ?_)
  obtain ⟨v3,h2,hM⟩ := of_bind hM
  refine ar (.cons (o_move rfl)<|.cons (o_nilCheck rfl)<|.cons (o_fieldAddr rfl)<|.cons (o_load_s rfl rfl rfl)<|.cons (o_move rfl)<|.cons (t_index_r h2 rfl rfl rfl)<|.cons (t_load_pr h2 rfl rfl rfl rfl rfl)<|.cons (o_store rfl rfl rfl rfl rfl rfl rfl)<|.nil _) ?_
  obtain rfl:=Option.some.inj hM
  refine a_imp (σ' := ⟨[(4,.ref 4 0)],[(4,some (.blk 79 (CPart.cs v3))),(100000,some (.blk 59 [.row 100001])),(100001,some (.row 79 4 (List.map CPart.dv o0.gparts)))],[4,100000,100001]⟩) (Imp.sh (fun i=>i) rfl rfl rfl rfl rfl rfl) ?_
  exact a_ret (a_post (.r1 (.cell rfl rfl (.row _ CRow.h (Nat.le_of_ble_eq_true rfl) rfl))) (DLe.refl _) (PostOk.spec (.cons rfl (.cons rfl .nil))))
def CColl_Missing_a (x1 : Int) (o0 : CColl) : Option (List (Nat→Int)) :=
 (CColl_part_a x1 o0).bind fun v2=>
 (CPart_missing v2).bind fun v4=>
 (collect_pairs v4).bind fun v6=>
 some v6
theorem CColl_Missing_a_c {x1 : Int} {o0 : CColl} {r : (List (Nat→Int))} (hM : CColl_Missing_a x1 o0 = some r) : ACall Try.prog 12 ⟨[.ref 100000 0,.int .i64 x1],[(100000,some (.blk 59 [.row 100001])),(100001,some (.row 79 4 (List.map CPart.dv o0.gparts)))],.sl 2 (List.map array_2_uint64.dv r),[(100000,some (.blk 59 [.row 100001])),(100001,some (.row 79 4 (List.map CPart.dv o0.gparts)))],[]⟩ := by
 unfold CColl_Missing_a at hM
 refine ACall.body Try.func12 Try.ntmps12 rfl rfl rfl rfl ?_
 refine a_seq (ar (.cons (o_assign rfl)<|.nil _) ?_)
 refine a_seq ?_
 obtain ⟨v2,h1,hM⟩ := of_bind hM
 obtain ⟨v4,h3,hM⟩ := of_bind hM
 obtain ⟨v6,h5,hM⟩ := of_bind hM
 refine ar (.cons (o_move rfl)<|.cons (o_move rfl)<|.cons (o_callN (fun i=>bif Nat.beq i 100000 then 100000 else bif Nat.beq i 100001 then 100001 else i) 0 (CColl_part_a_c h1) rfl (DLeL.refl _) (.cons rfl (.cons rfl .nil)) rfl (.cons rfl (.cons rfl .nil)))<|.cons (o_call (CPart_missing_c h3) rfl (DLeL.refl _) rfl)<|.cons (o_call (collect_pairs_c h5) rfl (DLeL.refl _) rfl)<|.cons (o_assign rfl)<|.nil _) ?_
 obtain rfl:=Option.some.inj hM
 refine a_imp (σ' := ⟨[(4,.sl 2 (List.map array_2_uint64.dv v6))],[(100000,some (.blk 59 [.row 100001])),(100001,some (.row 79 4 (List.map CPart.dv o0.gparts)))],[100000,100001]⟩) (Imp.sh (fun i=>i) rfl rfl rfl rfl rfl rfl) ?_
 exact a_ret (a_post (.r1 (.tmp rfl)) (DLe.refl _) (PostOk.spec (.cons rfl (.cons rfl .nil))))
def w30_sameRuns_K1 : Option Bool :=
 some true
def w30_sameRuns_L2 (x0 : List (Nat→Int)) (x1 : List (Nat→Int)) (k2 : Nat) : Option (Ctl Unit Bool) :=
 (idx x0 (k2 : Int)).bind fun v7=>
 (idx x1 (k2 : Int)).bind fun v9=>
 if (!(((v7 0) == (v9 0)) && (((v7 1) == (v9 1)) && true))) = true then
  some (.done false)
 else
  some (.next ())
def w30_sameRuns (x0 : List (Nat→Int)) (x1 : List (Nat→Int)) : Option Bool :=
 if ((List.length x0 : Int) != (List.length x1 : Int)) = true then
  some false
 else
  (forM' (E:=Bool) 9223372036854775807 (List.length x0 : Int) (fun k2 s=>w30_sameRuns_L2 x0 x1 k2) ()).bind fun
   | .next s=>w30_sameRuns_K1
   | .done r=>some r
theorem w30_sameRuns_c {x0 : List (Nat→Int)} {x1 : List (Nat→Int)} {r : Bool} (hM : w30_sameRuns x0 x1 = some r) : PCall Try.prog 11 [.sl 2 (List.map array_2_uint64.dv x0),.sl 2 (List.map array_2_uint64.dv x1)] (.bool r):=by
 unfold w30_sameRuns at hM
 refine PCall.body Try.func11 Try.ntmps11 rfl rfl rfl rfl ?_
 refine a_seq (ar (.cons (o_assign rfl)<|.nil _) ?_)
 refine a_seq (a_seq (ar (.cons (o_move rfl)<|.cons (t_len rfl)<|.cons (o_move rfl)<|.cons (t_len rfl)<|.cons (o_int rfl rfl rfl)<|.nil _) ?_))
 refine a_cond _ rfl (fun h1=>?_) (fun h1=>?_)
 ·replace hM:=(of_if hM).1 h1
  refine a_seq (ar (.cons (o_assign rfl)<|.nil _) ?_)
  obtain rfl:=Option.some.inj hM
  exact a_ret (a_post (.r1 (.tmp rfl)) (DLe.refl _) PostOk.nil.spec)
 ·replace hM:=(of_if hM).2 h1
  refine a_skip ?_
  refine a_cut (α:=Unit) (fun s=>⟨[],[],[]⟩) (fun s=>w30_sameRuns_K1 = some r) ?_ ?_
  ·refine a_seq (ar (.cons (o_move rfl)<|.cons (t_len rfl)<|.cons (o_move rfl)<|.nil _) ?_)
   obtain ⟨t3,hL3,hK3⟩ := of_bind hM
   refine a_block ?_
   refine a_for (fun k2 (s : Unit)=>⟨[(0,.sl 2 (List.map array_2_uint64.dv x0)),(1,.sl 2 (List.map array_2_uint64.dv x1)),(12,.int .i64 (List.length x0 : Int)),(13,.int .i64 (k2 : Int))],[],[]⟩) _ hL3 (Imp.sh (fun i=>i) rfl rfl rfl rfl rfl rfl) ?_ ?_
   ·rintro k2 _ t4 hk2 hx2 hM hE3
    replace hM : w30_sameRuns_L2 x0 x1 k2 = some t4:=hM
    unfold w30_sameRuns_L2 at hM
    refine a_seq (ar (.cons (o_int rfl rfl rfl)<|.nil _) ?_)
    refine a_seq ?_
    refine a_cond _ rfl (fun _=>?_) (fun c=>absurd hk2 (of_decide_eq_false c))
    refine a_skip (a_seq (a_block (a_seq (ar (.cons (o_move rfl)<|.cons (o_assign rfl)<|.nil _) ?_))))
    refine a_seq ?_
    obtain ⟨v7,h6,hM⟩ := of_bind hM
    obtain ⟨v9,h8,hM⟩ := of_bind hM
    refine ad mixed (.cons (o_move rfl)<|.cons (o_move rfl)<|.cons (t_index h6 rfl rfl rfl)<|.cons (o_load_er rfl rfl rfl)<|.cons (o_move rfl)<|.cons (o_move rfl)<|.cons (t_index h8 rfl rfl rfl)<|.cons (o_load_er rfl rfl rfl)<|.cons (o_neS (b:=(((v7 0) == (v9 0)) && (((v7 1) == (v9 1)) && true))) rfl rfl rfl rfl rfl)<|.nil _) ?_
    refine a_cond _ rfl (fun h10=>?_) (fun h10=>?_)
    ·replace hM:=(of_if hM).1 h10
     refine a_seq (ar (.cons (o_assign rfl)<|.nil _) ?_)
     obtain rfl:=Option.some.inj hM
     obtain rfl:=hE3 _ rfl
     obtain rfl:=Option.some.inj hK3
     exact a_ret (a_post (.r1 (.tmp rfl)) (DLe.refl _) PostOk.nil.spec)
    ·replace hM:=(of_if hM).2 h10
     refine a_skip (ar (.cons (o_add rfl rfl (inR_i64 hk2 hx2))<|.cons (o_move rfl)<|.nil _) ?_)
     obtain rfl:=Option.some.inj hM
     exact ⟨(),rfl,(Imp.of (fun i=>i) (.cons rfl (DLe.refl _) (.cons rfl (DLe.refl _) (.cons rfl (DLe.refl _) (.cons rfl (DLe.succ _ _) .nil)))) .nil rfl rfl rfl)⟩
   ·rintro k2 _ hk2 hx2 rfl
    refine a_seq (ar (.cons (o_int rfl rfl rfl)<|.nil _) ?_)
    refine a_seq ?_
    refine a_cond _ rfl (fun c=>absurd (of_decide_eq_true c) (Int.not_lt.2 hk2)) (fun _=>?_)
    refine a_exit ?_
    exact ⟨(),hK3,(Imp.sh (fun i=>i) rfl rfl rfl rfl rfl rfl)⟩
  ·rintro _ hM
   replace hM : w30_sameRuns_K1 = some r:=hM
   unfold w30_sameRuns_K1 at hM
   refine a_seq (ar (.cons (o_assign rfl)<|.nil _) ?_)
   obtain rfl:=Option.some.inj hM
   exact a_ret (a_post (.r1 (.tmp rfl)) (DLe.refl _) PostOk.nil.spec)
def CColl_Lost_a (x1 : Int) (o0 : CColl) : Option (List (Nat→Int)) :=
 (CColl_part_a x1 o0).bind fun v2=>
 (collect_pairs v2.glost).bind fun v4=>
 some v4
theorem CColl_Lost_a_c {x1 : Int} {o0 : CColl} {r : (List (Nat→Int))} (hM : CColl_Lost_a x1 o0 = some r) : ACall Try.prog 14 ⟨[.ref 100000 0,.int .i64 x1],[(100000,some (.blk 59 [.row 100001])),(100001,some (.row 79 4 (List.map CPart.dv o0.gparts)))],.sl 2 (List.map array_2_uint64.dv r),[(100000,some (.blk 59 [.row 100001])),(100001,some (.row 79 4 (List.map CPart.dv o0.gparts)))],[]⟩ := by
 unfold CColl_Lost_a at hM
 refine ACall.body Try.func14 Try.ntmps14 rfl rfl rfl rfl ?_
 refine a_seq (ar (.cons (o_assign rfl)<|.nil _) ?_)
 refine a_seq ?_
 obtain ⟨v2,h1,hM⟩ := of_bind hM
 obtain ⟨v4,h3,hM⟩ := of_bind hM
 refine ar (.cons (o_move rfl)<|.cons (o_move rfl)<|.cons (o_callN (fun i=>bif Nat.beq i 100000 then 100000 else bif Nat.beq i 100001 then 100001 else i) 0 (CColl_part_a_c h1) rfl (DLeL.refl _) (.cons rfl (.cons rfl .nil)) rfl (.cons rfl (.cons rfl .nil)))<|.cons (o_field_s rfl rfl)<|.cons (o_call (collect_pairs_c h3) rfl (DLeL.refl _) rfl)<|.cons (o_assign rfl)<|.nil _) ?_
 obtain rfl:=Option.some.inj hM
 refine a_imp (σ' := ⟨[(4,.sl 2 (List.map array_2_uint64.dv v4))],[(100000,some (.blk 59 [.row 100001])),(100001,some (.row 79 4 (List.map CPart.dv o0.gparts)))],[100000,100001]⟩) (Imp.sh (fun i=>i) rfl rfl rfl rfl rfl rfl) ?_
 exact a_ret (a_post (.r1 (.tmp rfl)) (DLe.refl _) (PostOk.spec (.cons rfl (.cons rfl .nil))))
def CColl_Records_a (x1 : Int) (o0 : CColl) : Option (List RRec) :=
 (CColl_part_a x1 o0).bind fun v2=>
 (collect_cloneAll v2.gentries).bind fun v4=>
 some v4
theorem CColl_Records_a_c {x1 : Int} {o0 : CColl} {r : (List RRec)} (hM : CColl_Records_a x1 o0 = some r) : ACall Try.prog 10 ⟨[.ref 100000 0,.int .i64 x1],[(100000,some (.blk 59 [.row 100001])),(100001,some (.row 79 4 (List.map CPart.dv o0.gparts)))],.sl 29 (List.map RRec.dv r),[(100000,some (.blk 59 [.row 100001])),(100001,some (.row 79 4 (List.map CPart.dv o0.gparts)))],[]⟩ := by
 unfold CColl_Records_a at hM
 refine ACall.body Try.func10 Try.ntmps10 rfl rfl rfl rfl ?_
 refine a_seq (ar (.cons (o_assign rfl)<|.nil _) ?_)
 refine a_seq ?_
 obtain ⟨v2,h1,hM⟩ := of_bind hM
 obtain ⟨v4,h3,hM⟩ := of_bind hM
 refine ar (.cons (o_move rfl)<|.cons (o_move rfl)<|.cons (o_callN (fun i=>bif Nat.beq i 100000 then 100000 else bif Nat.beq i 100001 then 100001 else i) 0 (CColl_part_a_c h1) rfl (DLeL.refl _) (.cons rfl (.cons rfl .nil)) rfl (.cons rfl (.cons rfl .nil)))<|.cons (o_field_s rfl rfl)<|.cons (o_call (collect_cloneAll_c h3) rfl (DLeL.refl _) rfl)<|.cons (o_assign rfl)<|.nil _) ?_
 obtain rfl:=Option.some.inj hM
 refine a_imp (σ' := ⟨[(4,.sl 29 (List.map RRec.dv v4))],[(100000,some (.blk 59 [.row 100001])),(100001,some (.row 79 4 (List.map CPart.dv o0.gparts)))],[100000,100001]⟩) (Imp.sh (fun i=>i) rfl rfl rfl rfl rfl rfl) ?_
 exact a_ret (a_post (.r1 (.tmp rfl)) (DLe.refl _) (PostOk.spec (.cons rfl (.cons rfl .nil))))
def CColl_Complete_a_K1 : Option Bool :=
 some true
def CColl_Complete_a_L2 (o0 : CColl) (k2 : Nat) : Option (Ctl Unit Bool) :=
 (idx o0.gparts (k2 : Int)).bind fun v7=>
 (gb (!(!v7.gknown)) ([]) (CPart_missing v7)).bind fun v9=>
 if ((!v7.gknown) || (decide (0 < (List.length v9 : Int)))) = true then
  some (.done false)
 else
  some (.next ())
def CColl_Complete_a (o0 : CColl) : Option Bool :=
 if ((List.length o0.gparts : Int) == 0) = true then
  some false
 else
  (forM' (E:=Bool) 9223372036854775807 (List.length o0.gparts : Int) (fun k2 s=>CColl_Complete_a_L2 o0 k2) ()).bind fun
   | .next s=>CColl_Complete_a_K1
   | .done r=>some r
theorem CColl_Complete_a_c {o0 : CColl} {r : Bool} (hM : CColl_Complete_a o0 = some r) : ACall Try.prog 15 ⟨[.ref 100000 0],[(100000,some (.blk 59 [.row 100001])),(100001,some (.row 79 4 (List.map CPart.dv o0.gparts)))],.bool r,[(100000,some (.blk 59 [.row 100001])),(100001,some (.row 79 4 (List.map CPart.dv o0.gparts)))],[]⟩ := by
 unfold CColl_Complete_a at hM
 refine ACall.body Try.func15 Try.ntmps15 rfl rfl rfl rfl ?_
 refine a_seq (ar (.cons (o_assign rfl)<|.nil _) ?_)
 refine a_seq (a_seq (ar (.cons (o_move rfl)<|.cons (o_ptr_eq rfl)<|.cons (o_move rfl)<|.cons (o_guardOn .bF rfl rfl rfl (.keep .nil) (o_move rfl))<|.cons (o_guardOn .bF rfl rfl rfl (.strip rfl rfl .nil) (o_nilCheck rfl))<|.cons (o_guardOn .bF rfl rfl rfl (.strip rfl rfl .nil) (o_fieldAddr rfl))<|.cons (o_guardOn .bF rfl rfl rfl (.strip rfl rfl .nil) (o_load_s rfl rfl rfl))<|.cons (o_guardOn .bF rfl rfl rfl (.strip rfl rfl .nil) (t_len_r rfl rfl))<|.cons (o_guardOn .bF rfl rfl rfl (.strip rfl rfl .nil) (o_int rfl rfl rfl))<|.cons (o_or rfl rfl)<|.nil _) ?_))
 refine a_cond _ rfl (fun h1=>?_) (fun h1=>?_)
 ·replace hM:=(of_if hM).1 h1
  refine a_seq (ar (.cons (o_assign rfl)<|.nil _) ?_)
  obtain rfl:=Option.some.inj hM
  refine a_imp (σ' := ⟨[(2,.bool false)],[(100000,some (.blk 59 [.row 100001])),(100001,some (.row 79 4 (List.map CPart.dv o0.gparts)))],[100000,100001]⟩) (Imp.sh (fun i=>i) rfl rfl rfl rfl rfl rfl) ?_
  exact a_ret (a_post (.r1 (.tmp rfl)) (DLe.refl _) (PostOk.spec (.cons rfl (.cons rfl .nil))))
 ·replace hM:=(of_if hM).2 h1
  refine a_skip ?_
  refine a_cut (α:=Unit) (fun s=>⟨[],[(100000,some (.blk 59 [.row 100001])),(100001,some (.row 79 4 (List.map CPart.dv o0.gparts)))],[100000,100001]⟩) (fun s=>CColl_Complete_a_K1 = some r) ?_ ?_
  ·refine a_seq (ar (.cons (o_move rfl)<|.cons (o_nilCheck rfl)<|.cons (o_fieldAddr rfl)<|.cons (o_load_s rfl rfl rfl)<|.cons (t_len_r rfl rfl)<|.cons (o_move rfl)<|.nil _) ?_)
   obtain ⟨t3,hL3,hK3⟩ := of_bind hM
   refine a_block ?_
   refine a_for (fun k2 (s : Unit)=>⟨[(18,.row 100001),(19,.int .i64 (List.length o0.gparts : Int)),(20,.int .i64 (k2 : Int))],[(100000,some (.blk 59 [.row 100001])),(100001,some (.row 79 4 (List.map CPart.dv o0.gparts)))],[100000,100001]⟩) _ hL3 (Imp.sh (fun i=>i) rfl rfl rfl rfl rfl rfl) ?_ ?_
   ·rintro k2 _ t4 hk2 hx2 hM hE3
    replace hM : CColl_Complete_a_L2 o0 k2 = some t4:=hM
    unfold CColl_Complete_a_L2 at hM
    refine a_seq (ar (.cons (o_int rfl rfl rfl)<|.nil _) ?_)
    refine a_seq ?_
    refine a_cond _ rfl (fun _=>?_) (fun c=>absurd hk2 (of_decide_eq_false c))
    refine a_skip (a_seq (a_block (a_seq ?_)))
    obtain ⟨v7,h6,hM⟩ := of_bind hM
    refine ar (.cons (t_index_r h6 rfl rfl rfl)<|.cons (t_load_pr h6 rfl rfl rfl rfl rfl)<|.cons (o_alloc rfl)<|.cons (o_store rfl rfl rfl rfl rfl rfl rfl)<|.nil _) ?_
    refine a_seq ?_
    obtain ⟨v9,h8,hM⟩ := of_bind hM
    refine ar (.cons (o_fieldAddr rfl)<|.cons (o_load_s rfl rfl rfl)<|.cons (o_not rfl)<|.cons (o_move rfl)<|.cons (o_guardG .bF rfl rfl (fun hb=>(.keep .nil)) (fun hb=>o_load_r rfl rfl rfl rfl))<|.cons (o_guardG .bF rfl rfl (fun hb=>(.strip rfl hb .nil)) (fun hb=>o_call (CPart_missing_c (of_gb h8 hb)) rfl (DLeL.refl _) rfl))<|.cons (o_guardG .bF rfl rfl (fun hb=>(.strip rfl hb .nil)) (fun hb=>t_len rfl))<|.cons (o_guardG .bF rfl rfl (fun hb=>(.strip rfl hb .nil)) (fun hb=>o_int rfl rfl rfl))<|.cons (o_or rfl rfl)<|.nil _) ?_
    refine a_cond _ rfl (fun h10=>?_) (fun h10=>?_)
    ·replace hM:=(of_if hM).1 h10
     refine a_seq (ar (.cons (o_assign rfl)<|.nil _) ?_)
     obtain rfl:=Option.some.inj hM
     obtain rfl:=hE3 _ rfl
     obtain rfl:=Option.some.inj hK3
     refine a_imp (σ' := ⟨[(2,.bool false)],[(100000,some (.blk 59 [.row 100001])),(100001,some (.row 79 4 (List.map CPart.dv o0.gparts)))],[100000,100001]⟩) (Imp.sh (fun i=>i) rfl rfl rfl rfl rfl rfl) ?_
     exact a_ret (a_post (.r1 (.tmp rfl)) (DLe.refl _) (PostOk.spec (.cons rfl (.cons rfl .nil))))
    ·replace hM:=(of_if hM).2 h10
     refine a_skip (ar (.cons (o_add rfl rfl (inR_i64 hk2 hx2))<|.cons (o_move rfl)<|.nil _) ?_)
     obtain rfl:=Option.some.inj hM
     exact ⟨(),rfl,(Imp.of (fun i=>i) (.cons rfl (DLe.refl _) (.cons rfl (DLe.refl _) (.cons rfl (DLe.succ _ _) .nil))) (.cons rfl (.refl _) (.cons rfl (.refl _) .nil)) rfl rfl rfl)⟩
   ·rintro k2 _ hk2 hx2 rfl
    refine a_seq (ar (.cons (o_int rfl rfl rfl)<|.nil _) ?_)
    refine a_seq ?_
    refine a_cond _ rfl (fun c=>absurd (of_decide_eq_true c) (Int.not_lt.2 hk2)) (fun _=>?_)
    refine a_exit ?_
    exact ⟨(),hK3,(Imp.sh (fun i=>i) rfl rfl rfl rfl rfl rfl)⟩
  ·rintro _ hM
   replace hM : CColl_Complete_a_K1 = some r:=hM
   unfold CColl_Complete_a_K1 at hM
   refine a_seq (ar (.cons (o_assign rfl)<|.nil _) ?_)
   obtain rfl:=Option.some.inj hM
   refine a_imp (σ' := ⟨[(2,.bool true)],[(100000,some (.blk 59 [.row 100001])),(100001,some (.row 79 4 (List.map CPart.dv o0.gparts)))],[100000,100001]⟩) (Imp.sh (fun i=>i) rfl rfl rfl rfl rfl rfl) ?_
   exact a_ret (a_post (.r1 (.tmp rfl)) (DLe.refl _) (PostOk.spec (.cons rfl (.cons rfl .nil))))
def w30_awake : Option Bool :=
 (collect_New 1).bind fun v2=>
 match v2 with
 | .inl v2_0=>
  (w30_File_bytes (w30_File.mk 0 [(w30_Raw.mk 0 0 0 0),(w30_Raw.mk 0 1 0 0),(w30_Raw.mk 0 4 0 0),(w30_Raw.mk 2 2 0 1)]) 1).bind fun v4=>
  (w30_File_bytes (w30_File.mk 0 [(w30_Raw.mk 0 2 0 0),(w30_Raw.mk 0 3 0 0),(w30_Raw.mk 3 5 0 0)]) 1).bind fun v6=>
  (CColl_Add_a 0 v4.2.1 v2_0).bind fun v8=>
  (gb (!(v8.1 != 0)) (([] : List (Nat→Int))) (CColl_Missing_a 0 v8.2)).bind fun v10=>
  if (!(v8.1 != 0)) = true then
   (w30_sameRuns v10 [(arr 0 [2,2])]).bind fun v12=>
   (gb (!((v8.1 != 0) || (!v12))) (([] : List (Nat→Int))) (CColl_Lost_a 0 v8.2)).bind fun v14=>
   if (!((v8.1 != 0) || (!v12))) = true then
    (w30_sameRuns v14 [(arr 0 [2,2])]).bind fun v16=>
    if (((v8.1 != 0) || (!v12)) || (!v16)) = true then
     some false
    else
     (CColl_Add_a 0 v6.2.1 v8.2).bind fun v19=>
     (gb (v19.1 == 0) (([] : List (Nat→Int))) (CColl_Missing_a 0 v19.2)).bind fun v21=>
     (gb ((v19.1 == 0) && ((List.length v21 : Int) == 0)) (([] : List (Nat→Int))) (CColl_Lost_a 0 v19.2)).bind fun v23=>
     (gb (((v19.1 == 0) && ((List.length v21 : Int) == 0)) && ((List.length v23 : Int) == 0)) (([] : List RRec)) (CColl_Records_a 0 v19.2)).bind fun v25=>
     (gb ((((v19.1 == 0) && ((List.length v21 : Int) == 0)) && ((List.length v23 : Int) == 0)) && ((List.length v25 : Int) == 5)) (false) (CColl_Complete_a v19.2)).bind fun v27=>
     some (((((v19.1 == 0) && ((List.length v21 : Int) == 0)) && ((List.length v23 : Int) == 0)) && ((List.length v25 : Int) == 5)) && (!v27))
   else
    if (((v8.1 != 0) || (!v12)) || false) = true then
     some false
    else
     (CColl_Add_a 0 v6.2.1 v8.2).bind fun v17=>
     (gb (v17.1 == 0) (([] : List (Nat→Int))) (CColl_Missing_a 0 v17.2)).bind fun v19=>
     (gb ((v17.1 == 0) && ((List.length v19 : Int) == 0)) (([] : List (Nat→Int))) (CColl_Lost_a 0 v17.2)).bind fun v21=>
     (gb (((v17.1 == 0) && ((List.length v19 : Int) == 0)) && ((List.length v21 : Int) == 0)) (([] : List RRec)) (CColl_Records_a 0 v17.2)).bind fun v23=>
     (gb ((((v17.1 == 0) && ((List.length v19 : Int) == 0)) && ((List.length v21 : Int) == 0)) && ((List.length v23 : Int) == 5)) (false) (CColl_Complete_a v17.2)).bind fun v25=>
     some (((((v17.1 == 0) && ((List.length v19 : Int) == 0)) && ((List.length v21 : Int) == 0)) && ((List.length v23 : Int) == 5)) && (!v25))
  else
   (gb (!((v8.1 != 0) || false)) (([] : List (Nat→Int))) (CColl_Lost_a 0 v8.2)).bind fun v12=>
   if (!((v8.1 != 0) || false)) = true then
    (w30_sameRuns v12 [(arr 0 [2,2])]).bind fun v14=>
    if (((v8.1 != 0) || false) || (!v14)) = true then
     some false
    else
     (CColl_Add_a 0 v6.2.1 v8.2).bind fun v17=>
     (gb (v17.1 == 0) (([] : List (Nat→Int))) (CColl_Missing_a 0 v17.2)).bind fun v19=>
     (gb ((v17.1 == 0) && ((List.length v19 : Int) == 0)) (([] : List (Nat→Int))) (CColl_Lost_a 0 v17.2)).bind fun v21=>
     (gb (((v17.1 == 0) && ((List.length v19 : Int) == 0)) && ((List.length v21 : Int) == 0)) (([] : List RRec)) (CColl_Records_a 0 v17.2)).bind fun v23=>
     (gb ((((v17.1 == 0) && ((List.length v19 : Int) == 0)) && ((List.length v21 : Int) == 0)) && ((List.length v23 : Int) == 5)) (false) (CColl_Complete_a v17.2)).bind fun v25=>
     some (((((v17.1 == 0) && ((List.length v19 : Int) == 0)) && ((List.length v21 : Int) == 0)) && ((List.length v23 : Int) == 5)) && (!v25))
   else
    if (((v8.1 != 0) || false) || false) = true then
     some false
    else
     (CColl_Add_a 0 v6.2.1 v8.2).bind fun v15=>
     (gb (v15.1 == 0) (([] : List (Nat→Int))) (CColl_Missing_a 0 v15.2)).bind fun v17=>
     (gb ((v15.1 == 0) && ((List.length v17 : Int) == 0)) (([] : List (Nat→Int))) (CColl_Lost_a 0 v15.2)).bind fun v19=>
     (gb (((v15.1 == 0) && ((List.length v17 : Int) == 0)) && ((List.length v19 : Int) == 0)) (([] : List RRec)) (CColl_Records_a 0 v15.2)).bind fun v21=>
     (gb ((((v15.1 == 0) && ((List.length v17 : Int) == 0)) && ((List.length v19 : Int) == 0)) && ((List.length v21 : Int) == 5)) (false) (CColl_Complete_a v15.2)).bind fun v23=>
     some (((((v15.1 == 0) && ((List.length v17 : Int) == 0)) && ((List.length v19 : Int) == 0)) && ((List.length v21 : Int) == 5)) && (!v23))
 | .inr v2_1=>
  none
theorem w30_awake_c {r : Bool} (hM : w30_awake = some r) : PCall Try.prog 5 [] (.bool r):=by
 unfold w30_awake at hM
 refine PCall.body Try.func5 Try.ntmps5 rfl rfl rfl rfl ?_
 refine a_seq (ar (.cons (o_assign rfl)<|.nil _) ?_)
 refine a_seq ?_
 obtain ⟨v2,h1,hM⟩ := of_bind hM
 rcases v2 with v2_0 | v2_1
 ·refine ar (.cons (o_callN (fun i=>bif Nat.beq i 50001 then 10002 else bif Nat.beq i 50000 then 10001 else i) 2 (collect_New_c0 h1) rfl (DLeL.refl _) .nil rfl .nil)<|.cons (o_move rfl)<|.cons (o_extract rfl rfl)<|.cons (o_extract rfl rfl)<|.cons (o_assign rfl)<|.cons (o_assign rfl)<|.nil _) ?_
  refine a_seq ?_
  obtain ⟨v4,h3,hM⟩ := of_bind hM
  refine ar (.cons (o_build rfl rfl rfl)<|.cons (o_build rfl rfl rfl)<|.cons (o_build rfl rfl rfl)<|.cons (o_build rfl rfl rfl)<|.cons (o_frz (t_build w30_Raw.dv ([(w30_Raw.mk 0 0 0 0),(w30_Raw.mk 0 1 0 0),(w30_Raw.mk 0 4 0 0),(w30_Raw.mk 2 2 0 1)] : List w30_Raw) rfl rfl rfl rfl rfl rfl rfl))<|.cons (o_build rfl rfl rfl)<|.cons (o_callN (fun i=>bif Nat.beq i 50001 then 10004 else bif Nat.beq i 50000 then 10003 else i) 2 (w30_File_bytes_c h3) rfl (DLeL.refl _) .nil rfl .nil)<|.cons (o_move rfl)<|.cons (o_extract rfl rfl)<|.cons (o_extract rfl rfl)<|.cons (o_extract rfl rfl)<|.cons (o_assign rfl)<|.cons (o_assign rfl)<|.cons (o_assign rfl)<|.nil _) ?_
  refine a_seq ?_
  obtain ⟨v6,h5,hM⟩ := of_bind hM
  refine ar (.cons (o_build rfl rfl rfl)<|.cons (o_build rfl rfl rfl)<|.cons (o_build rfl rfl rfl)<|.cons (o_frz (t_build w30_Raw.dv ([(w30_Raw.mk 0 2 0 0),(w30_Raw.mk 0 3 0 0),(w30_Raw.mk 3 5 0 0)] : List w30_Raw) rfl rfl rfl rfl rfl rfl rfl))<|.cons (o_build rfl rfl rfl)<|.cons (o_callN (fun i=>bif Nat.beq i 50001 then 10006 else bif Nat.beq i 50000 then 10005 else i) 2 (w30_File_bytes_c h5) rfl (DLeL.refl _) .nil rfl .nil)<|.cons (o_move rfl)<|.cons (o_extract rfl rfl)<|.cons (o_extract rfl rfl)<|.cons (o_extract rfl rfl)<|.cons (o_assign rfl)<|.cons (o_assign rfl)<|.cons (o_assign rfl)<|.nil _) ?_
  refine a_seq (a_seq ?_)
  obtain ⟨v8,h7,hM⟩ := of_bind hM
  obtain ⟨v10,h9,hM⟩ := of_bind hM
  by_cases hd11 : (!(v8.1 != 0)) = true
  ·replace hM:=(of_if hM).1 hd11
   obtain ⟨v12,h11,hM⟩ := of_bind hM
   obtain ⟨v14,h13,hM⟩ := of_bind hM
   by_cases hd15 : (!((v8.1 != 0) || (!v12))) = true
   ·replace hM:=(of_if hM).1 hd15
    refine a_imp (Imp.freeze (id:=10003) rfl) ?_
    obtain ⟨v16,h15,hM⟩ := of_bind hM
    refine ar (.cons (o_move rfl)<|.cons (o_int rfl rfl rfl)<|.cons (o_move rfl)<|.cons (o_guardOn .bF rfl rfl rfl (.keep .nil) (o_move rfl))<|.cons (o_guardOn .bF rfl rfl rfl (.keep .nil) (o_move rfl))<|.cons (o_guardOn .bF rfl rfl rfl (.strip rfl rfl (.strip rfl rfl .nil)) (o_callN (fun i=>bif Nat.beq i 50000 then 10007 else bif Nat.beq i 100000 then 10001 else bif Nat.beq i 100001 then 10002 else i) 3 (CColl_Add_a_c h7) rfl (DLeL.refl _) (.cons rfl (.cons rfl .nil)) rfl .nil))<|.cons (o_guardOn .bF rfl rfl rfl (.strip rfl rfl .nil) (o_int rfl rfl rfl))<|.cons (o_or rfl rfl)<|.cons (o_move rfl)<|.cons (o_guardG .bF rfl rfl (fun hb=>(.keep .nil)) (fun hb=>o_move rfl))<|.cons (o_guardG .bF rfl rfl (fun hb=>(.strip rfl hb .nil)) (fun hb=>o_callN (fun i=>bif Nat.beq i 100000 then 10001 else bif Nat.beq i 100001 then 10007 else i) 0 (CColl_Missing_a_c (of_gb h9 hb)) rfl (DLeL.refl _) (.cons rfl (.cons rfl .nil)) rfl (.cons rfl (.cons rfl .nil))))<|.cons (o_guardG .bF rfl rfl (fun hb=>.nil) (fun hb=>o_build rfl rfl rfl))<|.cons (o_guardOn .bF rfl rfl hd11 (.strip rfl hd11 .nil) (o_frz (t_build array_2_uint64.dv ([(arr 0 [2,2])] : List (Nat→Int)) rfl rfl rfl rfl rfl rfl rfl)))<|.cons (o_guardOn .bF rfl rfl hd11 (.strip rfl hd11 (.strip rfl hd11 .nil)) (o_call (w30_sameRuns_c h11) rfl (DLeL.refl _) rfl))<|.cons (o_guardOn .bF rfl rfl hd11 (.strip rfl hd11 .nil) (o_not rfl))<|.cons (o_or rfl rfl)<|.cons (o_move rfl)<|.cons (o_guardG .bF rfl rfl (fun hb=>(.keep .nil)) (fun hb=>o_move rfl))<|.cons (o_guardG .bF rfl rfl (fun hb=>(.strip rfl hb .nil)) (fun hb=>o_callN (fun i=>bif Nat.beq i 100000 then 10001 else bif Nat.beq i 100001 then 10007 else i) 0 (CColl_Lost_a_c (of_gb h13 hb)) rfl (DLeL.refl _) (.cons rfl (.cons rfl .nil)) rfl (.cons rfl (.cons rfl .nil))))<|.cons (o_guardG .bF rfl rfl (fun hb=>.nil) (fun hb=>o_build rfl rfl rfl))<|.cons (o_guardOn .bF rfl rfl hd15 (.strip rfl hd15 .nil) (o_frz (t_build array_2_uint64.dv ([(arr 0 [2,2])] : List (Nat→Int)) rfl rfl rfl rfl rfl rfl rfl)))<|.cons (o_guardOn .bF rfl rfl hd15 (.strip rfl hd15 (.strip rfl hd15 .nil)) (o_call (w30_sameRuns_c h15) rfl (DLeL.refl _) rfl))<|.cons (o_guardOn .bF rfl rfl hd15 (.strip rfl hd15 .nil) (o_not rfl))<|.cons (o_or rfl rfl)<|.nil _) ?_
    refine a_cond _ rfl (fun h17=>?_) (fun h17=>?_)
    ·replace hM:=(of_if hM).1 h17
     refine a_seq (ar (.cons (o_assign rfl)<|.nil _) ?_)
     obtain rfl:=Option.some.inj hM
     exact a_ret (a_post (.r1 (.tmp rfl)) (DLe.refl _) PostOk.nil.spec)
    ·replace hM:=(of_if hM).2 h17
     refine a_skip (a_seq (a_imp (Imp.freeze (id:=10005) rfl) ?_))
     obtain ⟨v19,h18,hM⟩ := of_bind hM
     obtain ⟨v21,h20,hM⟩ := of_bind hM
     obtain ⟨v23,h22,hM⟩ := of_bind hM
     obtain ⟨v25,h24,hM⟩ := of_bind hM
     obtain ⟨v27,h26,hM⟩ := of_bind hM
     refine ar (.cons (o_move rfl)<|.cons (o_move rfl)<|.cons (o_callN (fun i=>bif Nat.beq i 50000 then 10008 else bif Nat.beq i 100000 then 10001 else bif Nat.beq i 100001 then 10007 else i) 3 (CColl_Add_a_c h18) rfl (DLeL.refl _) (.cons rfl (.cons rfl .nil)) rfl .nil)<|.cons (o_int rfl rfl rfl)<|.cons (o_move rfl)<|.cons (o_guardG .bT rfl rfl (fun hb=>(.keep .nil)) (fun hb=>o_move rfl))<|.cons (o_guardG .bT rfl rfl (fun hb=>(.strip rfl hb .nil)) (fun hb=>o_callN (fun i=>bif Nat.beq i 100000 then 10001 else bif Nat.beq i 100001 then 10008 else i) 0 (CColl_Missing_a_c (of_gb h20 hb)) rfl (DLeL.refl _) (.cons rfl (.cons rfl .nil)) rfl (.cons rfl (.cons rfl .nil))))<|.cons (o_guardG .bT rfl rfl (fun hb=>(.strip rfl hb .nil)) (fun hb=>t_len rfl))<|.cons (o_guardG .bT rfl rfl (fun hb=>(.strip rfl hb .nil)) (fun hb=>o_int rfl rfl rfl))<|.cons (o_and rfl rfl)<|.cons (o_move rfl)<|.cons (o_guardG .bT rfl rfl (fun hb=>(.keep .nil)) (fun hb=>o_move rfl))<|.cons (o_guardG .bT rfl rfl (fun hb=>(.strip rfl hb .nil)) (fun hb=>o_callN (fun i=>bif Nat.beq i 100000 then 10001 else bif Nat.beq i 100001 then 10008 else i) 0 (CColl_Lost_a_c (of_gb h22 hb)) rfl (DLeL.refl _) (.cons rfl (.cons rfl .nil)) rfl (.cons rfl (.cons rfl .nil))))<|.cons (o_guardG .bT rfl rfl (fun hb=>(.strip rfl hb .nil)) (fun hb=>t_len rfl))<|.cons (o_guardG .bT rfl rfl (fun hb=>(.strip rfl hb .nil)) (fun hb=>o_int rfl rfl rfl))<|.cons (o_and rfl rfl)<|.cons (o_move rfl)<|.cons (o_guardG .bT rfl rfl (fun hb=>(.keep .nil)) (fun hb=>o_move rfl))<|.cons (o_guardG .bT rfl rfl (fun hb=>(.strip rfl hb .nil)) (fun hb=>o_callN (fun i=>bif Nat.beq i 100000 then 10001 else bif Nat.beq i 100001 then 10008 else i) 0 (CColl_Records_a_c (of_gb h24 hb)) rfl (DLeL.refl _) (.cons rfl (.cons rfl .nil)) rfl (.cons rfl (.cons rfl .nil))))<|.cons (o_guardG .bT rfl rfl (fun hb=>(.strip rfl hb .nil)) (fun hb=>t_len rfl))<|.cons (o_guardG .bT rfl rfl (fun hb=>(.strip rfl hb .nil)) (fun hb=>o_int rfl rfl rfl))<|.cons (o_and rfl rfl)<|.cons (o_move rfl)<|.cons (o_guardG .bT rfl rfl (fun hb=>(.keep .nil)) (fun hb=>o_move rfl))<|.cons (o_guardG .bT rfl rfl (fun hb=>(.strip rfl hb .nil)) (fun hb=>o_callN (fun i=>bif Nat.beq i 100000 then 10001 else bif Nat.beq i 100001 then 10008 else i) 0 (CColl_Complete_a_c (of_gb h26 hb)) rfl (DLeL.refl _) (.cons rfl (.cons rfl .nil)) rfl (.cons rfl (.cons rfl .nil))))<|.cons (o_guardG .bT rfl rfl (fun hb=>(.strip rfl hb .nil)) (fun hb=>o_not rfl))<|.cons (o_and rfl rfl)<|.cons (o_assign rfl)<|.nil _) ?_
     obtain rfl:=Option.some.inj hM
     exact a_ret (a_post (.r1 (.tmp rfl)) (DLe.refl _) PostOk.nil.spec)
   ·replace hd15:=Bool.eq_false_iff.2 hd15
    replace hM:=(of_if hM).2 hd15
    refine a_imp (Imp.freeze (id:=10003) rfl) ?_
    refine ar (.cons (o_move rfl)<|.cons (o_int rfl rfl rfl)<|.cons (o_move rfl)<|.cons (o_guardOn .bF rfl rfl rfl (.keep .nil) (o_move rfl))<|.cons (o_guardOn .bF rfl rfl rfl (.keep .nil) (o_move rfl))<|.cons (o_guardOn .bF rfl rfl rfl (.strip rfl rfl (.strip rfl rfl .nil)) (o_callN (fun i=>bif Nat.beq i 50000 then 10007 else bif Nat.beq i 100000 then 10001 else bif Nat.beq i 100001 then 10002 else i) 3 (CColl_Add_a_c h7) rfl (DLeL.refl _) (.cons rfl (.cons rfl .nil)) rfl .nil))<|.cons (o_guardOn .bF rfl rfl rfl (.strip rfl rfl .nil) (o_int rfl rfl rfl))<|.cons (o_or rfl rfl)<|.cons (o_move rfl)<|.cons (o_guardG .bF rfl rfl (fun hb=>(.keep .nil)) (fun hb=>o_move rfl))<|.cons (o_guardG .bF rfl rfl (fun hb=>(.strip rfl hb .nil)) (fun hb=>o_callN (fun i=>bif Nat.beq i 100000 then 10001 else bif Nat.beq i 100001 then 10007 else i) 0 (CColl_Missing_a_c (of_gb h9 hb)) rfl (DLeL.refl _) (.cons rfl (.cons rfl .nil)) rfl (.cons rfl (.cons rfl .nil))))<|.cons (o_guardG .bF rfl rfl (fun hb=>.nil) (fun hb=>o_build rfl rfl rfl))<|.cons (o_guardOn .bF rfl rfl hd11 (.strip rfl hd11 .nil) (o_frz (t_build array_2_uint64.dv ([(arr 0 [2,2])] : List (Nat→Int)) rfl rfl rfl rfl rfl rfl rfl)))<|.cons (o_guardOn .bF rfl rfl hd11 (.strip rfl hd11 (.strip rfl hd11 .nil)) (o_call (w30_sameRuns_c h11) rfl (DLeL.refl _) rfl))<|.cons (o_guardOn .bF rfl rfl hd11 (.strip rfl hd11 .nil) (o_not rfl))<|.cons (o_or rfl rfl)<|.cons (o_move rfl)<|.cons (o_guardG .bF rfl rfl (fun hb=>(.keep .nil)) (fun hb=>o_move rfl))<|.cons (o_guardG .bF rfl rfl (fun hb=>(.strip rfl hb .nil)) (fun hb=>o_callN (fun i=>bif Nat.beq i 100000 then 10001 else bif Nat.beq i 100001 then 10007 else i) 0 (CColl_Lost_a_c (of_gb h13 hb)) rfl (DLeL.refl _) (.cons rfl (.cons rfl .nil)) rfl (.cons rfl (.cons rfl .nil))))<|.cons (o_guardG .bF rfl rfl (fun hb=>.nil) (fun hb=>o_build rfl rfl rfl))<|.cons (o_guardOff (.nils) .bF rfl rfl hd15)<|.cons (o_guardOff (.bool false) .bF rfl rfl hd15)<|.cons (o_guardOff (.bool false) .bF rfl rfl hd15)<|.cons (o_or rfl rfl)<|.nil _) ?_
    refine a_cond _ rfl (fun h15=>?_) (fun h15=>?_)
    ·replace hM:=(of_if hM).1 h15
     refine a_seq (ar (.cons (o_assign rfl)<|.nil _) ?_)
     obtain rfl:=Option.some.inj hM
     exact a_ret (a_post (.r1 (.tmp rfl)) (DLe.refl _) PostOk.nil.spec)
    ·replace hM:=(of_if hM).2 h15
     refine a_skip (a_seq (a_imp (Imp.freeze (id:=10005) rfl) ?_))
     obtain ⟨v17,h16,hM⟩ := of_bind hM
     obtain ⟨v19,h18,hM⟩ := of_bind hM
     obtain ⟨v21,h20,hM⟩ := of_bind hM
     obtain ⟨v23,h22,hM⟩ := of_bind hM
     obtain ⟨v25,h24,hM⟩ := of_bind hM
     refine ar (.cons (o_move rfl)<|.cons (o_move rfl)<|.cons (o_callN (fun i=>bif Nat.beq i 50000 then 10008 else bif Nat.beq i 100000 then 10001 else bif Nat.beq i 100001 then 10007 else i) 3 (CColl_Add_a_c h16) rfl (DLeL.refl _) (.cons rfl (.cons rfl .nil)) rfl .nil)<|.cons (o_int rfl rfl rfl)<|.cons (o_move rfl)<|.cons (o_guardG .bT rfl rfl (fun hb=>(.keep .nil)) (fun hb=>o_move rfl))<|.cons (o_guardG .bT rfl rfl (fun hb=>(.strip rfl hb .nil)) (fun hb=>o_callN (fun i=>bif Nat.beq i 100000 then 10001 else bif Nat.beq i 100001 then 10008 else i) 0 (CColl_Missing_a_c (of_gb h18 hb)) rfl (DLeL.refl _) (.cons rfl (.cons rfl .nil)) rfl (.cons rfl (.cons rfl .nil))))<|.cons (o_guardG .bT rfl rfl (fun hb=>(.strip rfl hb .nil)) (fun hb=>t_len rfl))<|.cons (o_guardG .bT rfl rfl (fun hb=>(.strip rfl hb .nil)) (fun hb=>o_int rfl rfl rfl))<|.cons (o_and rfl rfl)<|.cons (o_move rfl)<|.cons (o_guardG .bT rfl rfl (fun hb=>(.keep .nil)) (fun hb=>o_move rfl))<|.cons (o_guardG .bT rfl rfl (fun hb=>(.strip rfl hb .nil)) (fun hb=>o_callN (fun i=>bif Nat.beq i 100000 then 10001 else bif Nat.beq i 100001 then 10008 else i) 0 (CColl_Lost_a_c (of_gb h20 hb)) rfl (DLeL.refl _) (.cons rfl (.cons rfl .nil)) rfl (.cons rfl (.cons rfl .nil))))<|.cons (o_guardG .bT rfl rfl (fun hb=>(.strip rfl hb .nil)) (fun hb=>t_len rfl))<|.cons (o_guardG .bT rfl rfl (fun hb=>(.strip rfl hb .nil)) (fun hb=>o_int rfl rfl rfl))<|.cons (o_and rfl rfl)<|.cons (o_move rfl)<|.cons (o_guardG .bT rfl rfl (fun hb=>(.keep .nil)) (fun hb=>o_move rfl))<|.cons (o_guardG .bT rfl rfl (fun hb=>(.strip rfl hb .nil)) (fun hb=>o_callN (fun i=>bif Nat.beq i 100000 then 10001 else bif Nat.beq i 100001 then 10008 else i) 0 (CColl_Records_a_c (of_gb h22 hb)) rfl (DLeL.refl _) (.cons rfl (.cons rfl .nil)) rfl (.cons rfl (.cons rfl .nil))))<|.cons (o_guardG .bT rfl rfl (fun hb=>(.strip rfl hb .nil)) (fun hb=>t_len rfl))<|.cons (o_guardG .bT rfl rfl (fun hb=>(.strip rfl hb .nil)) (fun hb=>o_int rfl rfl rfl))<|.cons (o_and rfl rfl)<|.cons (o_move rfl)<|.cons (o_guardG .bT rfl rfl (fun hb=>(.keep .nil)) (fun hb=>o_move rfl))<|.cons (o_guardG .bT rfl rfl (fun hb=>(.strip rfl hb .nil)) (fun hb=>o_callN (fun i=>bif Nat.beq i 100000 then 10001 else bif Nat.beq i 100001 then 10008 else i) 0 (CColl_Complete_a_c (of_gb h24 hb)) rfl (DLeL.refl _) (.cons rfl (.cons rfl .nil)) rfl (.cons rfl (.cons rfl .nil))))<|.cons (o_guardG .bT rfl rfl (fun hb=>(.strip rfl hb .nil)) (fun hb=>o_not rfl))<|.cons (o_and rfl rfl)<|.cons (o_assign rfl)<|.nil _) ?_
     obtain rfl:=Option.some.inj hM
     exact a_ret (a_post (.r1 (.tmp rfl)) (DLe.refl _) PostOk.nil.spec)
  ·replace hd11:=Bool.eq_false_iff.2 hd11
   replace hM:=(of_if hM).2 hd11
   obtain ⟨v12,h11,hM⟩ := of_bind hM
   by_cases hd13 : (!((v8.1 != 0) || false)) = true
   ·replace hM:=(of_if hM).1 hd13
    refine a_imp (Imp.freeze (id:=10003) rfl) ?_
    obtain ⟨v14,h13,hM⟩ := of_bind hM
    refine ar (.cons (o_move rfl)<|.cons (o_int rfl rfl rfl)<|.cons (o_move rfl)<|.cons (o_guardOn .bF rfl rfl rfl (.keep .nil) (o_move rfl))<|.cons (o_guardOn .bF rfl rfl rfl (.keep .nil) (o_move rfl))<|.cons (o_guardOn .bF rfl rfl rfl (.strip rfl rfl (.strip rfl rfl .nil)) (o_callN (fun i=>bif Nat.beq i 50000 then 10007 else bif Nat.beq i 100000 then 10001 else bif Nat.beq i 100001 then 10002 else i) 3 (CColl_Add_a_c h7) rfl (DLeL.refl _) (.cons rfl (.cons rfl .nil)) rfl .nil))<|.cons (o_guardOn .bF rfl rfl rfl (.strip rfl rfl .nil) (o_int rfl rfl rfl))<|.cons (o_or rfl rfl)<|.cons (o_move rfl)<|.cons (o_guardG .bF rfl rfl (fun hb=>(.keep .nil)) (fun hb=>o_move rfl))<|.cons (o_guardG .bF rfl rfl (fun hb=>(.strip rfl hb .nil)) (fun hb=>o_callN (fun i=>bif Nat.beq i 100000 then 10001 else bif Nat.beq i 100001 then 10007 else i) 0 (CColl_Missing_a_c (of_gb h9 hb)) rfl (DLeL.refl _) (.cons rfl (.cons rfl .nil)) rfl (.cons rfl (.cons rfl .nil))))<|.cons (o_guardG .bF rfl rfl (fun hb=>.nil) (fun hb=>o_build rfl rfl rfl))<|.cons (o_guardOff (.nils) .bF rfl rfl hd11)<|.cons (o_guardOff (.bool false) .bF rfl rfl hd11)<|.cons (o_guardOff (.bool false) .bF rfl rfl hd11)<|.cons (o_or rfl rfl)<|.cons (o_move rfl)<|.cons (o_guardG .bF rfl rfl (fun hb=>(.keep .nil)) (fun hb=>o_move rfl))<|.cons (o_guardG .bF rfl rfl (fun hb=>(.strip rfl hb .nil)) (fun hb=>o_callN (fun i=>bif Nat.beq i 100000 then 10001 else bif Nat.beq i 100001 then 10007 else i) 0 (CColl_Lost_a_c (of_gb h11 hb)) rfl (DLeL.refl _) (.cons rfl (.cons rfl .nil)) rfl (.cons rfl (.cons rfl .nil))))<|.cons (o_guardG .bF rfl rfl (fun hb=>.nil) (fun hb=>o_build rfl rfl rfl))<|.cons (o_guardOn .bF rfl rfl hd13 (.strip rfl hd13 .nil) (o_frz (t_build array_2_uint64.dv ([(arr 0 [2,2])] : List (Nat→Int)) rfl rfl rfl rfl rfl rfl rfl)))<|.cons (o_guardOn .bF rfl rfl hd13 (.strip rfl hd13 (.strip rfl hd13 .nil)) (o_call (w30_sameRuns_c h13) rfl (DLeL.refl _) rfl))<|.cons (o_guardOn .bF rfl rfl hd13 (.strip rfl hd13 .nil) (o_not rfl))<|.cons (o_or rfl rfl)<|.nil _) ?_
    refine a_cond _ rfl (fun h15=>?_) (fun h15=>?_)
    ·replace hM:=(of_if hM).1 h15
     refine a_seq (ar (.cons (o_assign rfl)<|.nil _) ?_)
     obtain rfl:=Option.some.inj hM
     exact a_ret (a_post (.r1 (.tmp rfl)) (DLe.refl _) PostOk.nil.spec)
    ·replace hM:=(of_if hM).2 h15
     refine a_skip (a_seq (a_imp (Imp.freeze (id:=10005) rfl) ?_))
     obtain ⟨v17,h16,hM⟩ := of_bind hM
     obtain ⟨v19,h18,hM⟩ := of_bind hM
     obtain ⟨v21,h20,hM⟩ := of_bind hM
     obtain ⟨v23,h22,hM⟩ := of_bind hM
     obtain ⟨v25,h24,hM⟩ := of_bind hM
     refine ar (.cons (o_move rfl)<|.cons (o_move rfl)<|.cons (o_callN (fun i=>bif Nat.beq i 50000 then 10008 else bif Nat.beq i 100000 then 10001 else bif Nat.beq i 100001 then 10007 else i) 3 (CColl_Add_a_c h16) rfl (DLeL.refl _) (.cons rfl (.cons rfl .nil)) rfl .nil)<|.cons (o_int rfl rfl rfl)<|.cons (o_move rfl)<|.cons (o_guardG .bT rfl rfl (fun hb=>(.keep .nil)) (fun hb=>o_move rfl))<|.cons (o_guardG .bT rfl rfl (fun hb=>(.strip rfl hb .nil)) (fun hb=>o_callN (fun i=>bif Nat.beq i 100000 then 10001 else bif Nat.beq i 100001 then 10008 else i) 0 (CColl_Missing_a_c (of_gb h18 hb)) rfl (DLeL.refl _) (.cons rfl (.cons rfl .nil)) rfl (.cons rfl (.cons rfl .nil))))<|.cons (o_guardG .bT rfl rfl (fun hb=>(.strip rfl hb .nil)) (fun hb=>t_len rfl))<|.cons (o_guardG .bT rfl rfl (fun hb=>(.strip rfl hb .nil)) (fun hb=>o_int rfl rfl rfl))<|.cons (o_and rfl rfl)<|.cons (o_move rfl)<|.cons (o_guardG .bT rfl rfl (fun hb=>(.keep .nil)) (fun hb=>o_move rfl))<|.cons (o_guardG .bT rfl rfl (fun hb=>(.strip rfl hb .nil)) (fun hb=>o_callN (fun i=>bif Nat.beq i 100000 then 10001 else bif Nat.beq i 100001 then 10008 else i) 0 (CColl_Lost_a_c (of_gb h20 hb)) rfl (DLeL.refl _) (.cons rfl (.cons rfl .nil)) rfl (.cons rfl (.cons rfl .nil))))<|.cons (o_guardG .bT rfl rfl (fun hb=>(.strip rfl hb .nil)) (fun hb=>t_len rfl))<|.cons (o_guardG .bT rfl rfl (fun hb=>(.strip rfl hb .nil)) (fun hb=>o_int rfl rfl rfl))<|.cons (o_and rfl rfl)<|.cons (o_move rfl)<|.cons (o_guardG .bT rfl rfl (fun hb=>(.keep .nil)) (fun hb=>o_move rfl))<|.cons (o_guardG .bT rfl rfl (fun hb=>(.strip rfl hb .nil)) (fun hb=>o_callN (fun i=>bif Nat.beq i 100000 then 10001 else bif Nat.beq i 100001 then 10008 else i) 0 (CColl_Records_a_c (of_gb h22 hb)) rfl (DLeL.refl _) (.cons rfl (.cons rfl .nil)) rfl (.cons rfl (.cons rfl .nil))))<|.cons (o_guardG .bT rfl rfl (fun hb=>(.strip rfl hb .nil)) (fun hb=>t_len rfl))<|.cons (o_guardG .bT rfl rfl (fun hb=>(.strip rfl hb .nil)) (fun hb=>o_int rfl rfl rfl))<|.cons (o_and rfl rfl)<|.cons (o_move rfl)<|.cons (o_guardG .bT rfl rfl (fun hb=>(.keep .nil)) (fun hb=>o_move rfl))<|.cons (o_guardG .bT rfl rfl (fun hb=>(.strip rfl hb .nil)) (fun hb=>o_callN (fun i=>bif Nat.beq i 100000 then 10001 else bif Nat.beq i 100001 then 10008 else i) 0 (CColl_Complete_a_c (of_gb h24 hb)) rfl (DLeL.refl _) (.cons rfl (.cons rfl .nil)) rfl (.cons rfl (.cons rfl .nil))))<|.cons (o_guardG .bT rfl rfl (fun hb=>(.strip rfl hb .nil)) (fun hb=>o_not rfl))<|.cons (o_and rfl rfl)<|.cons (o_assign rfl)<|.nil _) ?_
     obtain rfl:=Option.some.inj hM
     exact a_ret (a_post (.r1 (.tmp rfl)) (DLe.refl _) PostOk.nil.spec)
   ·replace hd13:=Bool.eq_false_iff.2 hd13
    replace hM:=(of_if hM).2 hd13
    refine a_imp (Imp.freeze (id:=10003) rfl) ?_
    refine ar (.cons (o_move rfl)<|.cons (o_int rfl rfl rfl)<|.cons (o_move rfl)<|.cons (o_guardOn .bF rfl rfl rfl (.keep .nil) (o_move rfl))<|.cons (o_guardOn .bF rfl rfl rfl (.keep .nil) (o_move rfl))<|.cons (o_guardOn .bF rfl rfl rfl (.strip rfl rfl (.strip rfl rfl .nil)) (o_callN (fun i=>bif Nat.beq i 50000 then 10007 else bif Nat.beq i 100000 then 10001 else bif Nat.beq i 100001 then 10002 else i) 3 (CColl_Add_a_c h7) rfl (DLeL.refl _) (.cons rfl (.cons rfl .nil)) rfl .nil))<|.cons (o_guardOn .bF rfl rfl rfl (.strip rfl rfl .nil) (o_int rfl rfl rfl))<|.cons (o_or rfl rfl)<|.cons (o_move rfl)<|.cons (o_guardG .bF rfl rfl (fun hb=>(.keep .nil)) (fun hb=>o_move rfl))<|.cons (o_guardG .bF rfl rfl (fun hb=>(.strip rfl hb .nil)) (fun hb=>o_callN (fun i=>bif Nat.beq i 100000 then 10001 else bif Nat.beq i 100001 then 10007 else i) 0 (CColl_Missing_a_c (of_gb h9 hb)) rfl (DLeL.refl _) (.cons rfl (.cons rfl .nil)) rfl (.cons rfl (.cons rfl .nil))))<|.cons (o_guardG .bF rfl rfl (fun hb=>.nil) (fun hb=>o_build rfl rfl rfl))<|.cons (o_guardOff (.nils) .bF rfl rfl hd11)<|.cons (o_guardOff (.bool false) .bF rfl rfl hd11)<|.cons (o_guardOff (.bool false) .bF rfl rfl hd11)<|.cons (o_or rfl rfl)<|.cons (o_move rfl)<|.cons (o_guardG .bF rfl rfl (fun hb=>(.keep .nil)) (fun hb=>o_move rfl))<|.cons (o_guardG .bF rfl rfl (fun hb=>(.strip rfl hb .nil)) (fun hb=>o_callN (fun i=>bif Nat.beq i 100000 then 10001 else bif Nat.beq i 100001 then 10007 else i) 0 (CColl_Lost_a_c (of_gb h11 hb)) rfl (DLeL.refl _) (.cons rfl (.cons rfl .nil)) rfl (.cons rfl (.cons rfl .nil))))<|.cons (o_guardG .bF rfl rfl (fun hb=>.nil) (fun hb=>o_build rfl rfl rfl))<|.cons (o_guardOff (.nils) .bF rfl rfl hd13)<|.cons (o_guardOff (.bool false) .bF rfl rfl hd13)<|.cons (o_guardOff (.bool false) .bF rfl rfl hd13)<|.cons (o_or rfl rfl)<|.nil _) ?_
    refine a_cond _ rfl (fun h13=>?_) (fun h13=>?_)
    ·replace hM:=(of_if hM).1 h13
     refine a_seq (ar (.cons (o_assign rfl)<|.nil _) ?_)
     obtain rfl:=Option.some.inj hM
     exact a_ret (a_post (.r1 (.tmp rfl)) (DLe.refl _) PostOk.nil.spec)
    ·replace hM:=(of_if hM).2 h13
     refine a_skip (a_seq (a_imp (Imp.freeze (id:=10005) rfl) ?_))
     obtain ⟨v15,h14,hM⟩ := of_bind hM
     obtain ⟨v17,h16,hM⟩ := of_bind hM
     obtain ⟨v19,h18,hM⟩ := of_bind hM
     obtain ⟨v21,h20,hM⟩ := of_bind hM
     obtain ⟨v23,h22,hM⟩ := of_bind hM
     refine ar (.cons (o_move rfl)<|.cons (o_move rfl)<|.cons (o_callN (fun i=>bif Nat.beq i 50000 then 10008 else bif Nat.beq i 100000 then 10001 else bif Nat.beq i 100001 then 10007 else i) 3 (CColl_Add_a_c h14) rfl (DLeL.refl _) (.cons rfl (.cons rfl .nil)) rfl .nil)<|.cons (o_int rfl rfl rfl)<|.cons (o_move rfl)<|.cons (o_guardG .bT rfl rfl (fun hb=>(.keep .nil)) (fun hb=>o_move rfl))<|.cons (o_guardG .bT rfl rfl (fun hb=>(.strip rfl hb .nil)) (fun hb=>o_callN (fun i=>bif Nat.beq i 100000 then 10001 else bif Nat.beq i 100001 then 10008 else i) 0 (CColl_Missing_a_c (of_gb h16 hb)) rfl (DLeL.refl _) (.cons rfl (.cons rfl .nil)) rfl (.cons rfl (.cons rfl .nil))))<|.cons (o_guardG .bT rfl rfl (fun hb=>(.strip rfl hb .nil)) (fun hb=>t_len rfl))<|.cons (o_guardG .bT rfl rfl (fun hb=>(.strip rfl hb .nil)) (fun hb=>o_int rfl rfl rfl))<|.cons (o_and rfl rfl)<|.cons (o_move rfl)<|.cons (o_guardG .bT rfl rfl (fun hb=>(.keep .nil)) (fun hb=>o_move rfl))<|.cons (o_guardG .bT rfl rfl (fun hb=>(.strip rfl hb .nil)) (fun hb=>o_callN (fun i=>bif Nat.beq i 100000 then 10001 else bif Nat.beq i 100001 then 10008 else i) 0 (CColl_Lost_a_c (of_gb h18 hb)) rfl (DLeL.refl _) (.cons rfl (.cons rfl .nil)) rfl (.cons rfl (.cons rfl .nil))))<|.cons (o_guardG .bT rfl rfl (fun hb=>(.strip rfl hb .nil)) (fun hb=>t_len rfl))<|.cons (o_guardG .bT rfl rfl (fun hb=>(.strip rfl hb .nil)) (fun hb=>o_int rfl rfl rfl))<|.cons (o_and rfl rfl)<|.cons (o_move rfl)<|.cons (o_guardG .bT rfl rfl (fun hb=>(.keep .nil)) (fun hb=>o_move rfl))<|.cons (o_guardG .bT rfl rfl (fun hb=>(.strip rfl hb .nil)) (fun hb=>o_callN (fun i=>bif Nat.beq i 100000 then 10001 else bif Nat.beq i 100001 then 10008 else i) 0 (CColl_Records_a_c (of_gb h20 hb)) rfl (DLeL.refl _) (.cons rfl (.cons rfl .nil)) rfl (.cons rfl (.cons rfl .nil))))<|.cons (o_guardG .bT rfl rfl (fun hb=>(.strip rfl hb .nil)) (fun hb=>t_len rfl))<|.cons (o_guardG .bT rfl rfl (fun hb=>(.strip rfl hb .nil)) (fun hb=>o_int rfl rfl rfl))<|.cons (o_and rfl rfl)<|.cons (o_move rfl)<|.cons (o_guardG .bT rfl rfl (fun hb=>(.keep .nil)) (fun hb=>o_move rfl))<|.cons (o_guardG .bT rfl rfl (fun hb=>(.strip rfl hb .nil)) (fun hb=>o_callN (fun i=>bif Nat.beq i 100000 then 10001 else bif Nat.beq i 100001 then 10008 else i) 0 (CColl_Complete_a_c (of_gb h22 hb)) rfl (DLeL.refl _) (.cons rfl (.cons rfl .nil)) rfl (.cons rfl (.cons rfl .nil))))<|.cons (o_guardG .bT rfl rfl (fun hb=>(.strip rfl hb .nil)) (fun hb=>o_not rfl))<|.cons (o_and rfl rfl)<|.cons (o_assign rfl)<|.nil _) ?_
     obtain rfl:=Option.some.inj hM
     exact a_ret (a_post (.r1 (.tmp rfl)) (DLe.refl _) PostOk.nil.spec)
 ·cases hM
def w30_sameRuns_v1_K1 : Option Bool :=
 some true
def w30_sameRuns_v1_L2 (x0 : List (Nat→Int)) (o0 : List (Nat→Int)) (k2 : Nat) : Option (Ctl Unit Bool) :=
 (idx x0 (k2 : Int)).bind fun v7=>
 (idx o0 (k2 : Int)).bind fun v9=>
 if (!(((v7 0) == (v9 0)) && (((v7 1) == (v9 1)) && true))) = true then
  some (.done false)
 else
  some (.next ())
def w30_sameRuns_v1 (x0 : List (Nat→Int)) (o0 : List (Nat→Int)) : Option Bool :=
 if ((List.length x0 : Int) != (List.length o0 : Int)) = true then
  some false
 else
  (forM' (E:=Bool) 9223372036854775807 (List.length x0 : Int) (fun k2 s=>w30_sameRuns_v1_L2 x0 o0 k2) ()).bind fun
   | .next s=>w30_sameRuns_v1_K1
   | .done r=>some r
theorem w30_sameRuns_v1_c {x0 : List (Nat→Int)} {o0 : List (Nat→Int)} {r : Bool} (hM : w30_sameRuns_v1 x0 o0 = some r) : ACall Try.prog 11 ⟨[.sl 2 (List.map array_2_uint64.dv x0),.row 100000],[(100000,some (.row 53 2 (List.map array_2_uint64.dv o0)))],.bool r,[(100000,some (.row 53 2 (List.map array_2_uint64.dv o0)))],[]⟩ := by
 unfold w30_sameRuns_v1 at hM
 refine ACall.body Try.func11 Try.ntmps11 rfl rfl rfl rfl ?_
 refine a_seq (ar (.cons (o_assign rfl)<|.nil _) ?_)
 refine a_seq (a_seq (ar (.cons (o_move rfl)<|.cons (t_len rfl)<|.cons (o_move rfl)<|.cons (t_len_r rfl rfl)<|.cons (o_int rfl rfl rfl)<|.nil _) ?_))
 refine a_cond _ rfl (fun h1=>?_) (fun h1=>?_)
 ·replace hM:=(of_if hM).1 h1
  refine a_seq (ar (.cons (o_assign rfl)<|.nil _) ?_)
  obtain rfl:=Option.some.inj hM
  refine a_imp (σ' := ⟨[(4,.bool false)],[(100000,some (.row 53 2 (List.map array_2_uint64.dv o0)))],[100000]⟩) (Imp.sh (fun i=>i) rfl rfl rfl rfl rfl rfl) ?_
  exact a_ret (a_post (.r1 (.tmp rfl)) (DLe.refl _) (PostOk.spec (.cons rfl .nil)))
 ·replace hM:=(of_if hM).2 h1
  refine a_skip ?_
  refine a_cut (α:=Unit) (fun s=>⟨[],[(100000,some (.row 53 2 (List.map array_2_uint64.dv o0)))],[100000]⟩) (fun s=>w30_sameRuns_v1_K1 = some r) ?_ ?_
  ·refine a_seq (ar (.cons (o_move rfl)<|.cons (t_len rfl)<|.cons (o_move rfl)<|.nil _) ?_)
   obtain ⟨t3,hL3,hK3⟩ := of_bind hM
   refine a_block ?_
   refine a_for (fun k2 (s : Unit)=>⟨[(0,.sl 2 (List.map array_2_uint64.dv x0)),(1,.row 100000),(12,.int .i64 (List.length x0 : Int)),(13,.int .i64 (k2 : Int))],[(100000,some (.row 53 2 (List.map array_2_uint64.dv o0)))],[100000]⟩) _ hL3 (Imp.sh (fun i=>i) rfl rfl rfl rfl rfl rfl) ?_ ?_
   ·rintro k2 _ t4 hk2 hx2 hM hE3
    replace hM : w30_sameRuns_v1_L2 x0 o0 k2 = some t4:=hM
    unfold w30_sameRuns_v1_L2 at hM
    refine a_seq (ar (.cons (o_int rfl rfl rfl)<|.nil _) ?_)
    refine a_seq ?_
    refine a_cond _ rfl (fun _=>?_) (fun c=>absurd hk2 (of_decide_eq_false c))
    refine a_skip (a_seq (a_block (a_seq (ar (.cons (o_move rfl)<|.cons (o_assign rfl)<|.nil _) ?_))))
    refine a_seq ?_
    obtain ⟨v7,h6,hM⟩ := of_bind hM
    obtain ⟨v9,h8,hM⟩ := of_bind hM
    refine ad mixed (.cons (o_move rfl)<|.cons (o_move rfl)<|.cons (t_index h6 rfl rfl rfl)<|.cons (o_load_er rfl rfl rfl)<|.cons (o_move rfl)<|.cons (o_move rfl)<|.cons (t_index_r h8 rfl rfl rfl)<|.cons (t_load_pr h8 rfl rfl rfl rfl rfl)<|.cons (o_neS (b:=(((v7 0) == (v9 0)) && (((v7 1) == (v9 1)) && true))) rfl rfl rfl rfl rfl)<|.nil _) ?_
    refine a_cond _ rfl (fun h10=>?_) (fun h10=>?_)
    ·replace hM:=(of_if hM).1 h10
     refine a_seq (ar (.cons (o_assign rfl)<|.nil _) ?_)
     obtain rfl:=Option.some.inj hM
     obtain rfl:=hE3 _ rfl
     obtain rfl:=Option.some.inj hK3
     refine a_imp (σ' := ⟨[(4,.bool false)],[(100000,some (.row 53 2 (List.map array_2_uint64.dv o0)))],[100000]⟩) (Imp.sh (fun i=>i) rfl rfl rfl rfl rfl rfl) ?_
     exact a_ret (a_post (.r1 (.tmp rfl)) (DLe.refl _) (PostOk.spec (.cons rfl .nil)))
    ·replace hM:=(of_if hM).2 h10
     refine a_skip (ar (.cons (o_add rfl rfl (inR_i64 hk2 hx2))<|.cons (o_move rfl)<|.nil _) ?_)
     obtain rfl:=Option.some.inj hM
     exact ⟨(),rfl,(Imp.of (fun i=>i) (.cons rfl (DLe.refl _) (.cons rfl (DLe.refl _) (.cons rfl (DLe.refl _) (.cons rfl (DLe.succ _ _) .nil)))) (.cons rfl (.refl _) .nil) rfl rfl rfl)⟩
   ·rintro k2 _ hk2 hx2 rfl
    refine a_seq (ar (.cons (o_int rfl rfl rfl)<|.nil _) ?_)
    refine a_seq ?_
    refine a_cond _ rfl (fun c=>absurd (of_decide_eq_true c) (Int.not_lt.2 hk2)) (fun _=>?_)
    refine a_exit ?_
    exact ⟨(),hK3,(Imp.sh (fun i=>i) rfl rfl rfl rfl rfl rfl)⟩
  ·rintro _ hM
   replace hM : w30_sameRuns_v1_K1 = some r:=hM
   unfold w30_sameRuns_v1_K1 at hM
   refine a_seq (ar (.cons (o_assign rfl)<|.nil _) ?_)
   obtain rfl:=Option.some.inj hM
   refine a_imp (σ' := ⟨[(4,.bool true)],[(100000,some (.row 53 2 (List.map array_2_uint64.dv o0)))],[100000]⟩) (Imp.sh (fun i=>i) rfl rfl rfl rfl rfl rfl) ?_
   exact a_ret (a_post (.r1 (.tmp rfl)) (DLe.refl _) (PostOk.spec (.cons rfl .nil)))
def w30_CollectGreat_K4 (v28 : Int × CColl) (a34 : List (Nat→Int)) : Option Bool :=
 (gb (v28.1 == 0) (([] : List (Nat→Int))) (CColl_Missing_a 0 v28.2)).bind fun v36=>
 (gb (v28.1 == 0) (false) (w30_sameRuns_v1 v36 a34)).bind fun v38=>
 some ((v28.1 == 0) && v38)
def w30_CollectGreat_K3 (x0 : Int) (x1 : Int) (x2 : Int) (v2_0 : CColl) (a6 : List Int) (a13 : List (Nat→Int)) : Option Bool :=
 (CColl_Add_a 0 a6 v2_0).bind fun v15=>
 (gb (!(v15.1 != 0)) (([] : List (Nat→Int))) (CColl_Missing_a 0 v15.2)).bind fun v17=>
 (gb (!(v15.1 != 0)) (false) (w30_sameRuns_v1 v17 a13)).bind fun v19=>
 if ((v15.1 != 0) || (!v19)) = true then
  some false
 else
  (w30_Raw_make (w30_Raw.mk 3 0 0 0) 0).bind fun v22=>
  (RRec_Bytes (RRec.mk v22.1.gComponent x2 v22.1.gClock v22.1.gWhat v22.1.gEvent v22.1.gCount)).bind fun v24=>
  (frame_Append ([] : List Int) v24).bind fun v26=>
  (CColl_Add_a 0 v26.1 v15.2).bind fun v28=>
  if (decide (x2≤(if x1 > x0 then x1 else x0))) = true then
   (gb (v28.1 == 14) (([] : List (Nat→Int))) (CColl_Missing_a 0 v28.2)).bind fun v31=>
   (gb (v28.1 == 14) (false) (w30_sameRuns_v1 v31 a13)).bind fun v33=>
   some ((v28.1 == 14) && v33)
  else
   if (decide ((IntKind.wrap .u64 ((if x1 > x0 then x1 else x0) + 1)) < x2)) = true then
    chk (apOk 16 (List.length a13 + List.length [(arr 0 [(IntKind.wrap .u64 ((if x1 > x0 then x1 else x0) + 1)),(IntKind.wrap .u64 ((IntKind.wrap .u64 (x2 - (if x1 > x0 then x1 else x0))) - 1))])]))<|
    w30_CollectGreat_K4 v28 (a13++[(arr 0 [(IntKind.wrap .u64 ((if x1 > x0 then x1 else x0) + 1)),(IntKind.wrap .u64 ((IntKind.wrap .u64 (x2 - (if x1 > x0 then x1 else x0))) - 1))])])
   else
    w30_CollectGreat_K4 v28 a13
def w30_CollectGreat_K2 (x0 : Int) (x1 : Int) (x2 : Int) (v2_0 : CColl) (a6 : List Int) (a12 : List (Nat→Int)) : Option Bool :=
 if (decide ((IntKind.wrap .u64 ((if x1 < x0 then x1 else x0) + 1)) < (if x1 > x0 then x1 else x0))) = true then
  chk (apOk 16 (List.length a12 + List.length [(arr 0 [(IntKind.wrap .u64 ((if x1 < x0 then x1 else x0) + 1)),(IntKind.wrap .u64 ((IntKind.wrap .u64 ((if x1 > x0 then x1 else x0) - (if x1 < x0 then x1 else x0))) - 1))])]))<|
  w30_CollectGreat_K3 x0 x1 x2 v2_0 a6 (a12++[(arr 0 [(IntKind.wrap .u64 ((if x1 < x0 then x1 else x0) + 1)),(IntKind.wrap .u64 ((IntKind.wrap .u64 ((if x1 > x0 then x1 else x0) - (if x1 < x0 then x1 else x0))) - 1))])])
 else
  w30_CollectGreat_K3 x0 x1 x2 v2_0 a6 a12
def w30_CollectGreat_K1 (x0 : Int) (x1 : Int) (x2 : Int) (v2_0 : CColl) (a6 : List Int) : Option Bool :=
 if ((if x1 > x0 then x1 else x0) == 18446744073709551615) = true then
  (CColl_Add_a 0 a6 v2_0).bind fun v9=>
  (gb (v9.1 == 14) (([] : List RRec)) (CColl_Records_a 0 v9.2)).bind fun v11=>
  some ((v9.1 == 14) && ((List.length v11 : Int) == 0))
 else
  if (decide (0 < (if x1 < x0 then x1 else x0))) = true then
   chk (apOk 16 (List.length [(arr 0 [0,(if x1 < x0 then x1 else x0)])]))<|
   w30_CollectGreat_K2 x0 x1 x2 v2_0 a6 [(arr 0 [0,(if x1 < x0 then x1 else x0)])]
  else
   w30_CollectGreat_K2 x0 x1 x2 v2_0 a6 ([] : List (Nat→Int))
def w30_CollectGreat_L5 (x0 : Int) (x1 : Int) (k45 : Nat) (a46 : List Int) : Option (List Int) :=
 (idx [(if x1 < x0 then x1 else x0),(if x1 > x0 then x1 else x0)] (k45 : Int)).bind fun v51=>
 (w30_Raw_make (w30_Raw.mk 0 0 0 0) 0).bind fun v53=>
 (RRec_Bytes (RRec.mk v53.1.gComponent v51 v53.1.gClock v53.1.gWhat v53.1.gEvent v53.1.gCount)).bind fun v55=>
 (frame_Append a46 v55).bind fun v57=>
 some v57.1
def w30_CollectGreat (x0 : Int) (x1 : Int) (x2 : Int) : Option Bool :=
 (collect_New 1).bind fun v2=>
 match v2 with
 | .inl v2_0=>
  (w30_awake).bind fun v4=>
  if ((!v4) || false) = true then
   some false
  else
   (foldM' 9223372036854775807 (List.length [(if x1 < x0 then x1 else x0),(if x1 > x0 then x1 else x0)] : Int) (fun k45 s=>w30_CollectGreat_L5 x0 x1 k45 s) ([] : List Int)).bind fun s=>w30_CollectGreat_K1 x0 x1 x2 v2_0 s
 | .inr v2_1=>
  none
theorem w30_CollectGreat_c {x0 : Int} {x1 : Int} {x2 : Int} {r : Bool} (hM : w30_CollectGreat x0 x1 x2 = some r) : PCall Try.prog 3 [.int .u64 x0,.int .u64 x1,.int .u64 x2] (.bool r):=by
 unfold w30_CollectGreat at hM
 refine PCall.body Try.func3 Try.ntmps3 rfl rfl rfl rfl ?_
 refine a_seq (ar (.cons (o_assign rfl)<|.nil _) ?_)
 refine a_seq ?_
 obtain ⟨v2,h1,hM⟩ := of_bind hM
 rcases v2 with v2_0 | v2_1
 ·refine ar (.cons (o_callN (fun i=>bif Nat.beq i 50001 then 10002 else bif Nat.beq i 50000 then 10001 else i) 2 (collect_New_c0 h1) rfl (DLeL.refl _) .nil rfl .nil)<|.cons (o_move rfl)<|.cons (o_extract rfl rfl)<|.cons (o_extract rfl rfl)<|.cons (o_assign rfl)<|.cons (o_assign rfl)<|.nil _) ?_
  refine a_seq (a_seq ?_)
  obtain ⟨v4,h3,hM⟩ := of_bind hM
  refine ar (.cons (o_call (w30_awake_c h3) rfl (DLeL.refl _) rfl)<|.cons (o_not rfl)<|.cons (o_move rfl)<|.cons (o_guardG .bF rfl rfl (fun hb=>(.keep .nil)) (fun hb=>o_move rfl))<|.cons (o_guardG .bF rfl rfl (fun hb=>(.strip rfl hb .nil)) (fun hb=>o_int rfl rfl rfl))<|.cons (o_or rfl rfl)<|.nil _) ?_
  refine a_cond _ rfl (fun h5=>?_) (fun h5=>?_)
  ·replace hM:=(of_if hM).1 h5
   refine a_seq (ar (.cons (o_assign rfl)<|.nil _) ?_)
   obtain rfl:=Option.some.inj hM
   exact a_ret (a_post (.r1 (.tmp rfl)) (DLe.refl _) PostOk.nil.spec)
  ·replace hM:=(of_if hM).2 h5
   refine a_skip (a_seq (ar (.cons (o_move rfl)<|.cons (o_move rfl)<|.cons (o_min rfl rfl)<|.cons (o_move rfl)<|.cons (o_move rfl)<|.cons (o_max rfl rfl)<|.cons (o_assign rfl)<|.cons (o_assign rfl)<|.nil _) ?_))
   refine a_seq (ar (.cons (o_assign rfl)<|.nil _) ?_)
   refine a_cut (α:=(List Int)) (fun s=>⟨[(0,.int .u64 (if x1 < x0 then x1 else x0)),(1,.int .u64 (if x1 > x0 then x1 else x0)),(2,.int .u64 x2),(7,.ref 10001 0),(9,.sl 1 (List.map (DV.int .u8) s))],[(10001,some (.blk 59 [.row 10003])),(10003,some (.row 79 4 (List.map CPart.dv v2_0.gparts)))],[10001,10003]⟩) (fun s=>w30_CollectGreat_K1 x0 x1 x2 v2_0 s = some r) ?_ ?_
   ·refine a_seq (ar (.cons (o_move rfl)<|.cons (o_move rfl)<|.cons (t_build (DV.int .u64) ([(if x1 < x0 then x1 else x0),(if x1 > x0 then x1 else x0)] : List Int) rfl rfl rfl rfl rfl rfl rfl)<|.cons (t_len_r rfl rfl)<|.cons (o_move rfl)<|.nil _) ?_)
    obtain ⟨a46,hL47,hK47⟩ := of_bind hM
    refine a_block ?_
    refine a_fold (fun k45 (s : (List Int))=>⟨[(0,.int .u64 (if x1 < x0 then x1 else x0)),(1,.int .u64 (if x1 > x0 then x1 else x0)),(2,.int .u64 x2),(7,.ref 10001 0),(9,.sl 1 (List.map (DV.int .u8) s)),(35,.sl 1 (List.map (DV.int .u64) [(if x1 < x0 then x1 else x0),(if x1 > x0 then x1 else x0)])),(36,.int .i64 (List.length [(if x1 < x0 then x1 else x0),(if x1 > x0 then x1 else x0)] : Int)),(37,.int .i64 (k45 : Int))],[(10001,some (.blk 59 [.row 10015])),(10015,some (.row 79 4 (List.map CPart.dv v2_0.gparts)))],[10001,10015]⟩) _ hL47 ((Imp.freeze (id:=35) rfl).trans (Imp.of (fun i=>bif Nat.beq i 10015 then 10002 else i) (.cons rfl (DLe.refl _) (.cons rfl (DLe.refl _) (.cons rfl (DLe.refl _) (.cons rfl (DLe.refl _) (.cons rfl (DLe.nils _) (.cons rfl (DLe.refl _) (.cons rfl (DLe.refl _) (.cons rfl (DLe.refl _) .nil)))))))) (.cons rfl (.refl _) (.cons rfl (.refl _) .nil)) rfl rfl rfl)) ?_ ?_
    ·rintro k45 a46 t48 hk45 hx45 hM
     replace hM : w30_CollectGreat_L5 x0 x1 k45 a46 = some t48:=hM
     unfold w30_CollectGreat_L5 at hM
     refine a_seq (ar (.cons (o_int rfl rfl rfl)<|.nil _) ?_)
     refine a_seq ?_
     refine a_cond _ rfl (fun _=>?_) (fun c=>absurd hk45 (of_decide_eq_false c))
     refine a_skip (a_seq (a_block (a_seq ?_)))
     obtain ⟨v51,h50,hM⟩ := of_bind hM
     refine ar (.cons (t_index h50 rfl rfl rfl)<|.cons (o_load_es rfl rfl)<|.cons (o_assign rfl)<|.nil _) ?_
     refine a_seq ?_
     obtain ⟨v53,h52,hM⟩ := of_bind hM
     refine ar (.cons (o_build rfl rfl rfl)<|.cons (o_call (w30_Raw_make_c h52) rfl (DLeL.refl _) rfl)<|.cons (o_move rfl)<|.cons (o_extract rfl rfl)<|.cons (o_extract rfl rfl)<|.cons (o_alloc rfl)<|.cons (o_alloc rfl)<|.cons (o_store rfl rfl rfl rfl rfl rfl rfl)<|.cons (o_store rfl rfl rfl rfl rfl rfl rfl)<|.nil _) ?_
     refine a_seq (ar (.cons (o_move rfl)<|.cons (o_fieldAddr rfl)<|.cons (o_store_s rfl rfl rfl rfl rfl)<|.nil _) ?_)
     obtain ⟨v55,h54,hM⟩ := of_bind hM
     obtain ⟨v57,h56,hM⟩ := of_bind hM
     refine ar (.cons (o_move rfl)<|.cons (o_load_r rfl rfl rfl rfl)<|.cons (o_call (RRec_Bytes_c h54) rfl (DLeL.refl _) rfl)<|.cons (o_callN (fun i=>bif Nat.beq i 50000 then 10016 else i) 1 (frame_Append_c h56) rfl (DLeL.refl _) .nil rfl .nil)<|.cons (o_move rfl)<|.cons (o_extract rfl rfl)<|.cons (o_extract rfl rfl)<|.cons (o_assign rfl)<|.nil _) ?_
     refine ar (.cons (o_add rfl rfl (inR_i64 hk45 hx45))<|.cons (o_move rfl)<|.nil _) ?_
     obtain rfl:=Option.some.inj hM
     exact ((Imp.freeze (id:=10016) rfl).trans (Imp.of (fun i=>i) (.cons rfl (DLe.refl _) (.cons rfl (DLe.refl _) (.cons rfl (DLe.refl _) (.cons rfl (DLe.refl _) (.cons rfl (DLe.refl _) (.cons rfl (DLe.refl _) (.cons rfl (DLe.refl _) (.cons rfl (DLe.succ _ _) .nil)))))))) (.cons rfl (.refl _) (.cons rfl (.refl _) .nil)) rfl rfl rfl))
    ·rintro k45 hk45 hx45
     refine a_seq (ar (.cons (o_int rfl rfl rfl)<|.nil _) ?_)
     refine a_seq ?_
     refine a_cond _ rfl (fun c=>absurd (of_decide_eq_true c) (Int.not_lt.2 hk45)) (fun _=>?_)
     refine a_exit ?_
     exact ⟨a46,hK47,(Imp.sh (fun i=>bif Nat.beq i 10003 then 10015 else i) rfl rfl rfl rfl rfl rfl)⟩
   ·rintro a6 hM
    replace hM : w30_CollectGreat_K1 x0 x1 x2 v2_0 a6 = some r:=hM
    unfold w30_CollectGreat_K1 at hM
    refine a_seq (a_seq (ar (.cons (o_move rfl)<|.cons (o_int rfl rfl rfl)<|.nil _) ?_))
    refine a_cond _ rfl (fun h7=>?_) (fun h7=>?_)
    ·replace hM:=(of_if hM).1 h7
     refine a_seq ?_
     obtain ⟨v9,h8,hM⟩ := of_bind hM
     obtain ⟨v11,h10,hM⟩ := of_bind hM
     refine ar (.cons (o_move rfl)<|.cons (o_move rfl)<|.cons (o_callN (fun i=>bif Nat.beq i 50000 then 10004 else bif Nat.beq i 100000 then 10001 else bif Nat.beq i 100001 then 10003 else i) 3 (CColl_Add_a_c h8) rfl (DLeL.refl _) (.cons rfl (.cons rfl .nil)) rfl .nil)<|.cons (o_int rfl rfl rfl)<|.cons (o_move rfl)<|.cons (o_guardG .bT rfl rfl (fun hb=>(.keep .nil)) (fun hb=>o_move rfl))<|.cons (o_guardG .bT rfl rfl (fun hb=>(.strip rfl hb .nil)) (fun hb=>o_callN (fun i=>bif Nat.beq i 100000 then 10001 else bif Nat.beq i 100001 then 10004 else i) 0 (CColl_Records_a_c (of_gb h10 hb)) rfl (DLeL.refl _) (.cons rfl (.cons rfl .nil)) rfl (.cons rfl (.cons rfl .nil))))<|.cons (o_guardG .bT rfl rfl (fun hb=>(.strip rfl hb .nil)) (fun hb=>t_len rfl))<|.cons (o_guardG .bT rfl rfl (fun hb=>(.strip rfl hb .nil)) (fun hb=>o_int rfl rfl rfl))<|.cons (o_and rfl rfl)<|.cons (o_assign rfl)<|.nil _) ?_
     obtain rfl:=Option.some.inj hM
     exact a_ret (a_post (.r1 (.tmp rfl)) (DLe.refl _) PostOk.nil.spec)
    ·replace hM:=(of_if hM).2 h7
     refine a_skip (a_seq (ar (.cons (o_assign rfl)<|.nil _) ?_))
     refine a_cut (α:=(List (Nat→Int))) (fun s=>⟨[(0,.int .u64 (if x1 < x0 then x1 else x0)),(1,.int .u64 (if x1 > x0 then x1 else x0)),(2,.int .u64 x2),(7,.ref 10001 0),(9,.sl 1 (List.map (DV.int .u8) a6)),(14,.row 10005)],[(10001,some (.blk 59 [.row 10006])),(10005,some (.row 53 2 (List.map array_2_uint64.dv s))),(10006,some (.row 79 4 (List.map CPart.dv v2_0.gparts)))],[10001,10005,10006]⟩) (fun s=>w30_CollectGreat_K2 x0 x1 x2 v2_0 a6 s = some r) ?_ ?_
     ·refine a_seq (ar (.cons (o_move rfl)<|.cons (o_int rfl rfl rfl)<|.nil _) ?_)
      refine a_cond _ rfl (fun h43=>?_) (fun h43=>?_)
      ·replace hM:=(of_if hM).1 h43
       obtain ⟨h44,hM⟩ := of_chk hM
       refine ar (.cons (o_move rfl)<|.cons (o_move rfl)<|.cons (o_build rfl rfl rfl)<|.cons (t_build array_2_uint64.dv ([(arr 0 [0,(if x1 < x0 then x1 else x0)])] : List (Nat→Int)) rfl rfl rfl rfl rfl rfl rfl)<|.cons (t_append_n array_2_uint64.dv [(arr 0 [0,(if x1 < x0 then x1 else x0)])] h44 rfl rfl (Src.row rfl))<|.cons (o_assign rfl)<|.nil _) ?_
       exact ⟨[(arr 0 [0,(if x1 < x0 then x1 else x0)])],hM,(Imp.sh (fun i=>bif Nat.beq i 10006 then 10003 else bif Nat.beq i 10005 then 74 else i) rfl rfl rfl rfl rfl rfl)⟩
      ·replace hM:=(of_if hM).2 h43
       refine a_skip ?_
       exact ⟨([] : List (Nat→Int)),hM,((Imp.nilRow (t:=14) (id:=10014) 53 2 rfl rfl).trans (Imp.sh (fun i=>bif Nat.beq i 10006 then 10003 else bif Nat.beq i 10005 then 10014 else i) rfl rfl rfl rfl rfl rfl))⟩
     ·rintro a12 hM
      replace hM : w30_CollectGreat_K2 x0 x1 x2 v2_0 a6 a12 = some r:=hM
      unfold w30_CollectGreat_K2 at hM
      refine a_cut (α:=(List (Nat→Int))) (fun s=>⟨[(1,.int .u64 (if x1 > x0 then x1 else x0)),(2,.int .u64 x2),(7,.ref 10001 0),(9,.sl 1 (List.map (DV.int .u8) a6)),(14,.row 10007)],[(10001,some (.blk 59 [.row 10008])),(10007,some (.row 53 2 (List.map array_2_uint64.dv s))),(10008,some (.row 79 4 (List.map CPart.dv v2_0.gparts)))],[10001,10007,10008]⟩) (fun s=>w30_CollectGreat_K3 x0 x1 x2 v2_0 a6 s = some r) ?_ ?_
      ·refine a_seq (ar (.cons (o_move rfl)<|.cons (o_move rfl)<|.cons (o_int rfl rfl rfl)<|.cons (o_int rfl rfl rfl)<|.nil _) ?_)
       refine a_cond _ rfl (fun h41=>?_) (fun h41=>?_)
       ·replace hM:=(of_if hM).1 h41
        obtain ⟨h42,hM⟩ := of_chk hM
        refine ar (.cons (o_move rfl)<|.cons (o_move rfl)<|.cons (o_int rfl rfl rfl)<|.cons (o_move rfl)<|.cons (o_move rfl)<|.cons (o_int rfl rfl rfl)<|.cons (o_int rfl rfl rfl)<|.cons (o_build rfl rfl rfl)<|.cons (t_build array_2_uint64.dv ([(arr 0 [(IntKind.wrap .u64 ((if x1 < x0 then x1 else x0) + 1)),(IntKind.wrap .u64 ((IntKind.wrap .u64 ((if x1 > x0 then x1 else x0) - (if x1 < x0 then x1 else x0))) - 1))])] : List (Nat→Int)) rfl rfl rfl rfl rfl rfl rfl)<|.cons (t_append [(arr 0 [(IntKind.wrap .u64 ((if x1 < x0 then x1 else x0) + 1)),(IntKind.wrap .u64 ((IntKind.wrap .u64 ((if x1 > x0 then x1 else x0) - (if x1 < x0 then x1 else x0))) - 1))])] h42 rfl rfl rfl (Src.row rfl))<|.cons (o_assign rfl)<|.nil _) ?_
        exact ⟨(a12++[(arr 0 [(IntKind.wrap .u64 ((if x1 < x0 then x1 else x0) + 1)),(IntKind.wrap .u64 ((IntKind.wrap .u64 ((if x1 > x0 then x1 else x0) - (if x1 < x0 then x1 else x0))) - 1))])]),hM,(Imp.sh (fun i=>bif Nat.beq i 10008 then 10006 else bif Nat.beq i 10007 then 88 else i) rfl rfl rfl rfl rfl rfl)⟩
       ·replace hM:=(of_if hM).2 h41
        refine a_skip ?_
        exact ⟨a12,hM,(Imp.sh (fun i=>bif Nat.beq i 10008 then 10006 else bif Nat.beq i 10007 then 10005 else i) rfl rfl rfl rfl rfl rfl)⟩
      ·rintro a13 hM
       replace hM : w30_CollectGreat_K3 x0 x1 x2 v2_0 a6 a13 = some r:=hM
       unfold w30_CollectGreat_K3 at hM
       refine a_seq (a_seq ?_)
       obtain ⟨v15,h14,hM⟩ := of_bind hM
       obtain ⟨v17,h16,hM⟩ := of_bind hM
       obtain ⟨v19,h18,hM⟩ := of_bind hM
       refine ar (.cons (o_move rfl)<|.cons (o_move rfl)<|.cons (o_callN (fun i=>bif Nat.beq i 50000 then 10009 else bif Nat.beq i 100000 then 10001 else bif Nat.beq i 100001 then 10008 else i) 3 (CColl_Add_a_c h14) rfl (DLeL.refl _) (.cons rfl (.cons rfl .nil)) rfl .nil)<|.cons (o_int rfl rfl rfl)<|.cons (o_move rfl)<|.cons (o_guardG .bF rfl rfl (fun hb=>(.keep .nil)) (fun hb=>o_move rfl))<|.cons (o_guardG .bF rfl rfl (fun hb=>(.strip rfl hb .nil)) (fun hb=>o_callN (fun i=>bif Nat.beq i 100000 then 10001 else bif Nat.beq i 100001 then 10009 else i) 0 (CColl_Missing_a_c (of_gb h16 hb)) rfl (DLeL.refl _) (.cons rfl (.cons rfl .nil)) rfl (.cons rfl (.cons rfl .nil))))<|.cons (o_guardG .bF rfl rfl (fun hb=>(.keep .nil)) (fun hb=>o_move rfl))<|.cons (o_guardG .bF rfl rfl (fun hb=>(.strip rfl hb (.strip rfl hb .nil))) (fun hb=>o_callN (fun i=>bif Nat.beq i 100000 then 10007 else i) 0 (w30_sameRuns_v1_c (of_gb h18 hb)) rfl (DLeL.refl _) (.cons rfl .nil) rfl (.cons rfl .nil)))<|.cons (o_guardG .bF rfl rfl (fun hb=>(.strip rfl hb .nil)) (fun hb=>o_not rfl))<|.cons (o_or rfl rfl)<|.nil _) ?_
       refine a_cond _ rfl (fun h20=>?_) (fun h20=>?_)
       ·replace hM:=(of_if hM).1 h20
        refine a_seq (ar (.cons (o_assign rfl)<|.nil _) ?_)
        obtain rfl:=Option.some.inj hM
        exact a_ret (a_post (.r1 (.tmp rfl)) (DLe.refl _) PostOk.nil.spec)
       ·replace hM:=(of_if hM).2 h20
        refine a_skip (a_seq ?_)
        obtain ⟨v22,h21,hM⟩ := of_bind hM
        refine ar (.cons (o_build rfl rfl rfl)<|.cons (o_call (w30_Raw_make_c h21) rfl (DLeL.refl _) rfl)<|.cons (o_move rfl)<|.cons (o_extract rfl rfl)<|.cons (o_extract rfl rfl)<|.cons (o_alloc rfl)<|.cons (o_alloc rfl)<|.cons (o_store rfl rfl rfl rfl rfl rfl rfl)<|.cons (o_store rfl rfl rfl rfl rfl rfl rfl)<|.nil _) ?_
        refine a_seq (ar (.cons (o_move rfl)<|.cons (o_fieldAddr rfl)<|.cons (o_store_s rfl rfl rfl rfl rfl)<|.nil _) ?_)
        refine a_seq ?_
        obtain ⟨v24,h23,hM⟩ := of_bind hM
        obtain ⟨v26,h25,hM⟩ := of_bind hM
        refine ar (.cons (o_load_r rfl rfl rfl rfl)<|.cons (o_call (RRec_Bytes_c h23) rfl (DLeL.refl _) rfl)<|.cons (o_callN (fun i=>bif Nat.beq i 50000 then 10010 else i) 1 (frame_Append_c h25) rfl (.cons (DLe.nils _) (.cons (DLe.refl _) .nil)) .nil rfl .nil)<|.cons (o_move rfl)<|.cons (o_extract rfl rfl)<|.cons (o_extract rfl rfl)<|.cons (o_assign rfl)<|.nil _) ?_
        refine a_seq (a_imp (Imp.freeze (id:=10010) rfl) ?_)
        obtain ⟨v28,h27,hM⟩ := of_bind hM
        refine ar (.cons (o_move rfl)<|.cons (o_move rfl)<|.cons (o_callN (fun i=>bif Nat.beq i 50000 then 10011 else bif Nat.beq i 100000 then 10001 else bif Nat.beq i 100001 then 10009 else i) 3 (CColl_Add_a_c h27) rfl (DLeL.refl _) (.cons rfl (.cons rfl .nil)) rfl .nil)<|.cons (o_assign rfl)<|.nil _) ?_
        refine a_seq (a_seq (ar (.cons (o_move rfl)<|.cons (o_move rfl)<|.cons (o_int rfl rfl rfl)<|.nil _) ?_))
        refine a_cond _ rfl (fun h29=>?_) (fun h29=>?_)
        ·replace hM:=(of_if hM).1 h29
         refine a_seq ?_
         obtain ⟨v31,h30,hM⟩ := of_bind hM
         obtain ⟨v33,h32,hM⟩ := of_bind hM
         refine ar (.cons (o_move rfl)<|.cons (o_int rfl rfl rfl)<|.cons (o_move rfl)<|.cons (o_guardG .bT rfl rfl (fun hb=>(.keep .nil)) (fun hb=>o_move rfl))<|.cons (o_guardG .bT rfl rfl (fun hb=>(.strip rfl hb .nil)) (fun hb=>o_callN (fun i=>bif Nat.beq i 100000 then 10001 else bif Nat.beq i 100001 then 10011 else i) 0 (CColl_Missing_a_c (of_gb h30 hb)) rfl (DLeL.refl _) (.cons rfl (.cons rfl .nil)) rfl (.cons rfl (.cons rfl .nil))))<|.cons (o_guardG .bT rfl rfl (fun hb=>(.keep .nil)) (fun hb=>o_move rfl))<|.cons (o_guardG .bT rfl rfl (fun hb=>(.strip rfl hb (.strip rfl hb .nil))) (fun hb=>o_callN (fun i=>bif Nat.beq i 100000 then 10007 else i) 0 (w30_sameRuns_v1_c (of_gb h32 hb)) rfl (DLeL.refl _) (.cons rfl .nil) rfl (.cons rfl .nil)))<|.cons (o_and rfl rfl)<|.cons (o_assign rfl)<|.nil _) ?_
         obtain rfl:=Option.some.inj hM
         exact a_ret (a_post (.r1 (.tmp rfl)) (DLe.refl _) PostOk.nil.spec)
        ·replace hM:=(of_if hM).2 h29
         refine a_skip ?_
         refine a_cut (α:=(List (Nat→Int))) (fun s=>⟨[(7,.ref 10001 0),(8,.int .i64 v28.1),(14,.row 10012)],[(10001,some (.blk 59 [.row 10013])),(10012,some (.row 53 2 (List.map array_2_uint64.dv s))),(10013,some (.row 79 4 (List.map CPart.dv v28.2.gparts)))],[10001,10012,10013]⟩) (fun s=>w30_CollectGreat_K4 v28 s = some r) ?_ ?_
         ·refine a_seq (ar (.cons (o_move rfl)<|.cons (o_move rfl)<|.cons (o_int rfl rfl rfl)<|.cons (o_int rfl rfl rfl)<|.nil _) ?_)
          refine a_cond _ rfl (fun h39=>?_) (fun h39=>?_)
          ·replace hM:=(of_if hM).1 h39
           obtain ⟨h40,hM⟩ := of_chk hM
           refine ar (.cons (o_move rfl)<|.cons (o_move rfl)<|.cons (o_int rfl rfl rfl)<|.cons (o_move rfl)<|.cons (o_move rfl)<|.cons (o_int rfl rfl rfl)<|.cons (o_int rfl rfl rfl)<|.cons (o_build rfl rfl rfl)<|.cons (t_build array_2_uint64.dv ([(arr 0 [(IntKind.wrap .u64 ((if x1 > x0 then x1 else x0) + 1)),(IntKind.wrap .u64 ((IntKind.wrap .u64 (x2 - (if x1 > x0 then x1 else x0))) - 1))])] : List (Nat→Int)) rfl rfl rfl rfl rfl rfl rfl)<|.cons (t_append [(arr 0 [(IntKind.wrap .u64 ((if x1 > x0 then x1 else x0) + 1)),(IntKind.wrap .u64 ((IntKind.wrap .u64 (x2 - (if x1 > x0 then x1 else x0))) - 1))])] h40 rfl rfl rfl (Src.row rfl))<|.cons (o_assign rfl)<|.nil _) ?_
           exact ⟨(a13++[(arr 0 [(IntKind.wrap .u64 ((if x1 > x0 then x1 else x0) + 1)),(IntKind.wrap .u64 ((IntKind.wrap .u64 (x2 - (if x1 > x0 then x1 else x0))) - 1))])]),hM,(Imp.sh (fun i=>bif Nat.beq i 10013 then 10011 else bif Nat.beq i 10012 then 140 else i) rfl rfl rfl rfl rfl rfl)⟩
          ·replace hM:=(of_if hM).2 h39
           refine a_skip ?_
           exact ⟨a13,hM,(Imp.sh (fun i=>bif Nat.beq i 10013 then 10011 else bif Nat.beq i 10012 then 10007 else i) rfl rfl rfl rfl rfl rfl)⟩
         ·rintro a34 hM
          replace hM : w30_CollectGreat_K4 v28 a34 = some r:=hM
          unfold w30_CollectGreat_K4 at hM
          refine a_seq ?_
          obtain ⟨v36,h35,hM⟩ := of_bind hM
          obtain ⟨v38,h37,hM⟩ := of_bind hM
          refine ar (.cons (o_move rfl)<|.cons (o_int rfl rfl rfl)<|.cons (o_move rfl)<|.cons (o_guardG .bT rfl rfl (fun hb=>(.keep .nil)) (fun hb=>o_move rfl))<|.cons (o_guardG .bT rfl rfl (fun hb=>(.strip rfl hb .nil)) (fun hb=>o_callN (fun i=>bif Nat.beq i 100000 then 10001 else bif Nat.beq i 100001 then 10013 else i) 0 (CColl_Missing_a_c (of_gb h35 hb)) rfl (DLeL.refl _) (.cons rfl (.cons rfl .nil)) rfl (.cons rfl (.cons rfl .nil))))<|.cons (o_guardG .bT rfl rfl (fun hb=>(.keep .nil)) (fun hb=>o_move rfl))<|.cons (o_guardG .bT rfl rfl (fun hb=>(.strip rfl hb (.strip rfl hb .nil))) (fun hb=>o_callN (fun i=>bif Nat.beq i 100000 then 10012 else i) 0 (w30_sameRuns_v1_c (of_gb h37 hb)) rfl (DLeL.refl _) (.cons rfl .nil) rfl (.cons rfl .nil)))<|.cons (o_and rfl rfl)<|.cons (o_assign rfl)<|.nil _) ?_
          obtain rfl:=Option.some.inj hM
          exact a_ret (a_post (.r1 (.tmp rfl)) (DLe.refl _) PostOk.nil.spec)
 ·cases hM
end Go.Proofs.Ytepkcbalmjnhpaa
namespace Go.Proofs.Ytepkcbalmjnhpaa
theorem foldGo_spec {S : Type} {body : Nat→S→Option S} (f : Nat→S) : ∀ (m k : Nat),(∀ j,k≤j→j < k + m→body j (f j) = some (f (j + 1)))→foldGo body m k (f k) = some (f (k + m))
 | 0,k,_=>rfl
 | m + 1,k,h=>by
  unfold foldGo
  rw [h k (Nat.le_refl _) (by omega),Option.bind_some,foldGo_spec f m (k + 1) (fun j h1 h2=>h j (by omega) (by omega)),show k + 1 + m = k + (m + 1) by omega]
theorem foldM_spec {S : Type} {mx n : Int} {body : Nat→S→Option S} {s0 : S} (N : Nat) (f : Nat→S) (h0 : f 0 = s0) (hn : n = (N : Int)) (hx : n≤mx) (h : ∀ j,j < N→body j (f j) = some (f (j + 1))) : foldM' mx n body s0 = some (f N):=by
 unfold foldM'
 rw [chk_pos hx,← h0,hn,Int.toNat_natCast,foldGo_spec f N 0 (fun j _ h2=>h j (by omega)),Nat.zero_add]
theorem forGo_next {S E : Type} {body : Nat→S→Option (Ctl S E)} (f : Nat→S) : ∀ (m k : Nat),(∀ j,k≤j→j < k + m→body j (f j) = some (.next (f (j + 1))))→forGo body m k (f k) = some (.next (f (k + m)))
 | 0,k,_=>rfl
 | m + 1,k,h=>by
  unfold forGo
  rw [h k (Nat.le_refl _) (by omega)]
  show forGo body m (k + 1) (f (k + 1)) = _
  rw [forGo_next f m (k + 1) (fun j h1 h2=>h j (by omega) (by omega)),show k + 1 + m = k + (m + 1) by omega]
theorem forM_next {S E : Type} {mx n : Int} {body : Nat→S→Option (Ctl S E)} {s0 : S} (N : Nat) (f : Nat→S) (h0 : f 0 = s0) (hn : n = (N : Int)) (hx : n≤mx) (h : ∀ j,j < N→body j (f j) = some (.next (f (j + 1)))) : forM' mx n body s0 = some (.next (f N)):=by
 unfold forM'
 rw [chk_pos hx,← h0,hn,Int.toNat_natCast,forGo_next f N 0 (fun j _ h2=>h j (by omega)),Nat.zero_add]
theorem forGo_done {S E : Type} {body : Nat→S→Option (Ctl S E)} (f : Nat→S) (e : E) : ∀ (i m k : Nat),i < m→(∀ j,k≤j→j < k + i→body j (f j) = some (.next (f (j + 1))))→body (k + i) (f (k + i)) = some (.done e)→forGo body m k (f k) = some (.done e)
 | i,0,k,hi,_,_=>by omega
 | 0,m + 1,k,_,_,he=>by
  unfold forGo
  rw [Nat.add_zero] at he
  rw [he]; rfl
 | i + 1,m + 1,k,hi,h,he=>by
  unfold forGo
  rw [h k (Nat.le_refl _) (by omega)]
  show forGo body m (k + 1) (f (k + 1)) = _
  exact forGo_done f e i m (k + 1) (by omega) (fun j h1 h2=>h j (by omega) (by omega)) (by rw [show k + 1 + i = k + (i + 1) by omega]; exact he)
theorem whileGo_spec {S E : Type} {step : S→Option (Ctl S E)} (f : Nat→S) (e : E) : ∀ (m k n : Nat),m < n→(∀ j,k≤j→j < k + m→step (f j) = some (.next (f (j + 1))))→step (f (k + m)) = some (.done e)→whileGo step n (f k) = some e
 | m,k,0,hn,_,_=>by omega
 | 0,k,n + 1,_,_,he=>by
  unfold whileGo
  rw [Nat.add_zero] at he
  rw [he]; rfl
 | m + 1,k,n + 1,hn,h,he=>by
  unfold whileGo
  rw [h k (Nat.le_refl _) (by omega)]
  show whileGo step n (f (k + 1)) = _
  exact whileGo_spec f e m (k + 1) n (by omega) (fun j h1 h2=>h j (by omega) (by omega)) (by rw [show k + 1 + m = k + (m + 1) by omega]; exact he)
theorem whileM_spec {S E : Type} {step : S→Option (Ctl S E)} {s0 : S} {e : E} (m : Nat) (f : Nat→S) (h0 : f 0 = s0) (hm : m < 1180591620717411303424) (h : ∀ j,j < m→step (f j) = some (.next (f (j + 1)))) (he : step (f m) = some (.done e)) : whileM step s0 = some e:=by
 unfold whileM
 rw [← h0]
 exact whileGo_spec f e m 0 _ hm (fun j _ h2=>h j (by omega)) (by rw [Nat.zero_add]; exact he)
theorem whileM_ind {S E : Type} {step : S→Option (Ctl S E)} {s0 : S} (I : S→Prop) (μ : S→Nat) (Q : E→Prop) (hI : I s0) (hb : μ s0 < 1180591620717411303424)
  (h : ∀ s,I s→(∃ s',step s = some (.next s')∧I s'∧μ s' < μ s)∨(∃ e,step s = some (.done e)∧Q e)) : ∃ e,whileM step s0 = some e∧Q e:=by
 unfold whileM
 have : ∀ n s,I s→μ s < n→∃ e,whileGo step n s = some e∧Q e:=by
  intro n
  induction n with
  | zero=>intro s _ h; omega
  | succ n ih=>
   intro s hs hm
   rcases h s hs with ⟨s',h1,h2,h3⟩ | ⟨e,h1,h2⟩
   ·obtain ⟨e,k1,k2⟩ := ih s' h2 (by omega)
    refine ⟨e,?_,k2⟩
    unfold whileGo
    rw [h1]; exact k1
   ·refine ⟨e,?_,h2⟩
    unfold whileGo
    rw [h1]; rfl
 exact this _ s0 hI hb
theorem forM_ind {S E : Type} {mx n : Int} {body : Nat→S→Option (Ctl S E)} {s0 : S} (I : Nat→S→Prop) (Q : Ctl S E→Prop) (hx : n≤mx) (hn : 0≤n) (hI : I 0 s0)
  (h : ∀ (k : Nat) s,(k : Int) < n→I k s→(∃ s',body k s = some (.next s')∧I (k + 1) s')∨(∃ e,body k s = some (.done e)∧Q (.done e))) (hq : ∀ s,I n.toNat s→Q (.next s)) : ∃ t,forM' mx n body s0 = some t∧Q t:=by
 unfold forM'
 rw [chk_pos hx]
 have : ∀ m k s,m + k = n.toNat→I k s→∃ t,forGo body m k s = some t∧Q t:=by
  intro m
  induction m with
  | zero=>intro k s hk hs; exact ⟨_,rfl,hq s (by rw [← hk,Nat.zero_add]; exact hs)⟩
  | succ m ih=>
   intro k s hk hs
   rcases h k s (by omega) hs with ⟨s',h1,h2⟩ | ⟨e,h1,h2⟩
   ·obtain ⟨t,k1,k2⟩ := ih (k + 1) s' (by omega) h2
    refine ⟨t,?_,k2⟩
    unfold forGo
    rw [h1]; exact k1
   ·refine ⟨_,?_,h2⟩
    unfold forGo
    rw [h1]; rfl
 exact this n.toNat 0 s0 (by omega) hI
theorem wrap_i64 {n : Int} (h1 : -9223372036854775808≤n) (h2 : n≤9223372036854775807) : IntKind.wrap .i64 n = n:=wrap_in (k:=.i64) ⟨h1,h2⟩
theorem wrap_u64 {n : Int} (h1 : 0≤n) (h2 : n≤18446744073709551615) : IntKind.wrap .u64 n = n:=wrap_in (k:=.u64) ⟨h1,h2⟩
end Go.Proofs.Ytepkcbalmjnhpaa
set_option maxHeartbeats 1000000
namespace Go.Proofs.Ytepkcbalmjnhpaa
open Go.RowKit
theorem or_u32 {a c : Int} (i : Nat) (ha : 0≤a) (ha' : a < 2 ^ i) (hc : 0≤c) (hs : a + c * 2 ^ i < 4294967296) : bitI .or .u32 a (c * 2 ^ i) = a + c * 2 ^ i:=by
 have hp : (0 : Int) < 2 ^ i:=Int.pow_pos (by omega)
 have hcm : 0≤c * 2 ^ i:=Int.mul_nonneg hc (by omega)
 have e32 : (2 : Int) ^ IntKind.u32.bits = 4294967296:=rfl
 have n1:=bit_nat (k:=.u32) ha (by rw [e32]; omega)
 have n2:=bit_nat (k:=.u32) hcm (by rw [e32]; omega)
 unfold bitI
 simp only [BitVec.toNat_or,n1,n2]
 obtain ⟨A,rfl⟩ := Int.eq_ofNat_of_zero_le ha
 obtain ⟨C,rfl⟩ := Int.eq_ofNat_of_zero_le hc
 have e1 : ((C : Int) * 2 ^ i) = ((C * 2 ^ i : Nat) : Int):=by simp
 rw [e1,Int.toNat_natCast,Int.toNat_natCast]
 have hA : A < 2 ^ i:=by
  have : (A : Int) < ((2 ^ i : Nat) : Int):=by simpa using ha'
  exact_mod_cast this
 have hor : A ||| C * 2 ^ i = A + C * 2 ^ i:=by
  rw [Nat.or_comm,Nat.mul_comm,← Nat.two_pow_add_eq_or_of_lt hA,Nat.add_comm]
 rw [hor]
 rw [wrap_in (k:=.u32) ⟨by omega,by rw [e1] at hs; push_cast at hs ⊢; omega⟩]
 push_cast; rfl
theorem or_i64 {a c : Int} (i : Nat) (ha : 0≤a) (ha' : a < 2 ^ i) (hc : 0≤c) (hs : a + c * 2 ^ i < 9223372036854775808) : bitI .or .i64 a (c * 2 ^ i) = a + c * 2 ^ i:=by
 have hp : (0 : Int) < 2 ^ i:=Int.pow_pos (by omega)
 have hcm : 0≤c * 2 ^ i:=Int.mul_nonneg hc (by omega)
 have e64 : (2 : Int) ^ IntKind.i64.bits = 18446744073709551616:=rfl
 have n1:=bit_nat (k:=.i64) ha (by rw [e64]; omega)
 have n2:=bit_nat (k:=.i64) hcm (by rw [e64]; omega)
 unfold bitI
 simp only [BitVec.toNat_or,n1,n2]
 obtain ⟨A,rfl⟩ := Int.eq_ofNat_of_zero_le ha
 obtain ⟨C,rfl⟩ := Int.eq_ofNat_of_zero_le hc
 have e1 : ((C : Int) * 2 ^ i) = ((C * 2 ^ i : Nat) : Int):=by simp
 rw [e1,Int.toNat_natCast,Int.toNat_natCast]
 have hA : A < 2 ^ i:=by
  have : (A : Int) < ((2 ^ i : Nat) : Int):=by simpa using ha'
  exact_mod_cast this
 have hor : A ||| C * 2 ^ i = A + C * 2 ^ i:=by
  rw [Nat.or_comm,Nat.mul_comm,← Nat.two_pow_add_eq_or_of_lt hA,Nat.add_comm]
 rw [hor]
 rw [wrap_in (k:=.i64) ⟨by omega,by rw [e1] at hs; push_cast at hs ⊢; omega⟩]
 push_cast; rfl
def U32 (x : Int) : Prop:=0≤x∧x < 4294967296
theorem wrap_u32R (x : Int) : U32 (IntKind.wrap .u32 x):=by
 simp [U32,IntKind.wrap,IntKind.bits,IntKind.signed]; omega
theorem bit_u32R (op : BinOp) (x y : Int) : U32 (bitI op .u32 x y):=by
 unfold bitI
 split <;> exact wrap_u32R _
theorem wrap_u32 {n : Int} (h : U32 n) : IntKind.wrap .u32 n = n:=wrap_in (k:=.u32) ⟨h.1,by have:=h.2; omega⟩
theorem wrap_u8m {n : Int} : IntKind.wrap .u8 n = n % 256:=by
 simp [IntKind.wrap,IntKind.bits,IntKind.signed]
def crc1 (a : Int) : Int:=(frame_update_L4 0 a).getD 0
theorem crc1_some (k : Nat) (a : Int) : frame_update_L4 k a = some (crc1 a):=by
 unfold crc1 frame_update_L4
 split <;> rfl
def iterI (f : Int→Int) : Nat→Int→Int
 | 0,a=>a
 | n + 1,a=>f (iterI f n a)
def crcB (a v : Int) : Int:=iterI crc1 8 (bitI .xor .u32 a (IntKind.wrap .u32 v))
theorem crcB_some (x1 : List Int) (k : Nat) (a : Int) (h : k < x1.length) : frame_update_L2 x1 k a = some (crcB a x1[k]):=by
 unfold frame_update_L2
 have : idx x1 (k : Int) = some x1[k]:=by simp [idx,h]
 rw [this]
 simp only [Option.bind_some]
 have hf : foldM' 9223372036854775807 8 (fun k12 s=>frame_update_L4 k12 s) (bitI .xor .u32 a (IntKind.wrap .u32 x1[k])) = some (crcB a x1[k]) :=
  foldM_spec (mx:=9223372036854775807) (n:=8) (body:=fun k12 s=>frame_update_L4 k12 s) (s0:=bitI .xor .u32 a (IntKind.wrap .u32 x1[k])) 8 (fun j=>iterI crc1 j (bitI .xor .u32 a (IntKind.wrap .u32 x1[k]))) rfl rfl (by decide) (fun j _=>crc1_some _ _)
 rw [hf]
 rfl
def crcL (s : Int) (xs : List Int) : Int:=xs.foldl crcB s
theorem update_eq (s : Int) (xs : List Int) (h : xs.length≤9223372036854775807) : frame_update s xs = some (crcL s xs):=by
 unfold frame_update
 rw [foldM_spec (s0:=s) xs.length (fun j=>crcL s (xs.take j)) (by simp [crcL]) rfl (by omega) (fun j hj=>?_)]
 ·simp [frame_update_K1]
 ·show frame_update_L2 xs j _ = _
  rw [crcB_some xs j _ hj]
  congr 1
  unfold crcL
  rw [List.take_succ_eq_append_getElem hj,List.foldl_append]
  rfl
def ckS (a b : List Int) : Int:=bitI .xor .u32 (if IntKind.signed .u32 = true then -1 else IntKind.max .u32) (crcL (crcL 4294967295 a) b)
theorem checksum_eq (a b : List Int) (ha : a.length≤9223372036854775807) (hb : b.length≤9223372036854775807) : frame_checksum a b = some (ckS a b):=by
 unfold frame_checksum
 rw [update_eq _ _ ha]
 simp only [Option.bind_some]
 rw [update_eq _ _ hb]
 rfl
theorem ckS_range (a b : List Int) : U32 (ckS a b):=bit_u32R _ _ _
def sumB (s : Int) : List Int:=[s % 256,s / 256 % 256,s / 65536 % 256,s / 16777216 % 256]
def lenB (n : Nat) : List Int:=[(n : Int) % 256,(n : Int) / 256 % 256]
def frameOf (b : List Int) : List Int:=[165,90]++lenB b.length++sumB (ckS (lenB b.length) b)++b
theorem frameOf_len (b : List Int) : (frameOf b).length = 8 + b.length:=by simp [frameOf,lenB,sumB]; omega
theorem append_eq (p b : List Int) (hb : b.length≤4000) (hp : p.length≤1099511627776) : frame_Append p b = some (p++frameOf b,0):=by
 unfold frame_Append
 have h1 : ¬ (4000 < (List.length b : Int)):=by omega
 have e1 : [(IntKind.wrap .u8 (List.length b : Int)),(IntKind.wrap .u8 (Int.fdiv (List.length b : Int) (2 ^ min (Int.toNat 8) (IntKind.bits .i64))))] = lenB b.length:=by
  have : (2 : Int) ^ min (Int.toNat 8) (IntKind.bits .i64) = 256:=by decide
  rw [this,wrap_u8m,wrap_u8m,Int.fdiv_eq_ediv_of_nonneg _ (by omega)]
  rfl
 simp only [h1,decide_false,Bool.false_eq_true,if_false,e1]
 rw [checksum_eq _ _ (by simp [lenB]) (by omega)]
 simp only [Option.bind_some]
 have hs:=ckS_range (lenB b.length) b
 have e2 : ∀ s : Int,U32 s→[(IntKind.wrap .u8 s),(IntKind.wrap .u8 (Int.fdiv s (2 ^ min (Int.toNat 8) (IntKind.bits .u32)))),(IntKind.wrap .u8 (Int.fdiv s (2 ^ min (Int.toNat 16) (IntKind.bits .u32)))),(IntKind.wrap .u8 (Int.fdiv s (2 ^ min (Int.toNat 24) (IntKind.bits .u32))))] = sumB s:=by
  intro s hs
  have a1 : (2 : Int) ^ min (Int.toNat 8) (IntKind.bits .u32) = 256:=by decide
  have a2 : (2 : Int) ^ min (Int.toNat 16) (IntKind.bits .u32) = 65536:=by decide
  have a3 : (2 : Int) ^ min (Int.toNat 24) (IntKind.bits .u32) = 16777216:=by decide
  rw [a1,a2,a3,wrap_u8m,wrap_u8m,wrap_u8m,wrap_u8m,Int.fdiv_eq_ediv_of_nonneg _ (by omega),Int.fdiv_eq_ediv_of_nonneg _ (by omega),Int.fdiv_eq_ediv_of_nonneg _ (by omega)]
  rfl
 rw [e2 _ hs]
 have i0 : idx (lenB b.length) 0 = some ((b.length : Int) % 256):=rfl
 have i1 : idx (lenB b.length) 1 = some ((b.length : Int) / 256 % 256):=rfl
 rw [i0,i1]
 simp only [Option.bind_some]
 have w1 : IntKind.wrap .i64 ((List.length p : Int) + 8) = (List.length p : Int) + 8:=wrap_i64 (by omega) (by omega)
 rw [w1,wrap_i64 (by omega) (by omega)]
 have l4 : (sumB (ckS (lenB b.length) b)).length = 4:=rfl
 rw [chk_pos (by unfold mkOk; omega),chk_pos (by simp [apOk]; omega),chk_pos (by simp [apOk]; omega),chk_pos (by simp [apOk,l4]; omega),chk_pos (by simp [apOk,l4]; omega)]
 simp [frameOf,lenB]
theorem stands_eq (b rest : List Int) (hb : b.length≤4000) (hr : rest.length≤1099511627776) : frame_stands (frameOf b++rest) = some (8 + (b.length : Int),true):=by
 have hs:=ckS_range (lenB b.length) b
 generalize hck : ckS (lenB b.length) b = s at hs
 have hl : ((frameOf b++rest).length : Int) = 8 + b.length + rest.length:=by rw [List.length_append,frameOf_len]; push_cast; omega
 have hx : frameOf b++rest = 165 :: 90 :: ((b.length : Int) % 256) :: ((b.length : Int) / 256 % 256) :: (s % 256) :: (s / 256 % 256) :: (s / 65536 % 256) :: (s / 16777216 % 256) :: (b++rest):=by
  rw [← hck]; simp [frameOf,lenB,sumB]
 unfold frame_stands
 have j0 : idx (frameOf b++rest) 0 = some 165:=by rw [hx]; rfl
 have j1 : idx (frameOf b++rest) 1 = some 90:=by rw [hx]; rfl
 have j2 : idx (frameOf b++rest) 2 = some ((b.length : Int) % 256):=by rw [hx]; rfl
 have j3 : idx (frameOf b++rest) 3 = some ((b.length : Int) / 256 % 256):=by rw [hx]; rfl
 have j4 : idx (frameOf b++rest) 4 = some (s % 256):=by rw [hx]; rfl
 have j5 : idx (frameOf b++rest) 5 = some (s / 256 % 256):=by rw [hx]; rfl
 have j6 : idx (frameOf b++rest) 6 = some (s / 65536 % 256):=by rw [hx]; rfl
 have j7 : idx (frameOf b++rest) 7 = some (s / 16777216 % 256):=by rw [hx]; rfl
 have g1 : ¬ ((frameOf b++rest).length : Int) < 8:=by rw [hl]; omega
 rw [j0,j1,j2,j3,j4,j5,j6,j7]
 simp only [gb,g1,decide_false,Bool.not_false,if_true,Option.bind_some,bne_self_eq_false,Bool.or_self,Bool.false_eq_true,if_false]
 have p8 : (2 : Int) ^ min (Int.toNat 8) (IntKind.bits .i64) = 2 ^ 8:=by decide
 have hn : bitI .or .i64 (IntKind.wrap .i64 ((b.length : Int) % 256)) (IntKind.wrap .i64 ((IntKind.wrap .i64 ((b.length : Int) / 256 % 256)) * 2 ^ min (Int.toNat 8) (IntKind.bits .i64))) = (b.length : Int):=by
  rw [p8,wrap_i64 (n:=(b.length : Int) % 256) (by omega) (by omega),wrap_i64 (n:=(b.length : Int) / 256 % 256) (by omega) (by omega),wrap_i64 (by omega) (by omega),or_i64 8 (by omega) (by omega) (by omega) (by omega)]
  omega
 rw [hn,hl]
 have w1 : IntKind.wrap .i64 (8 + (b.length : Int) + rest.length - 8) = (b.length : Int) + rest.length:=by rw [wrap_i64 (by omega) (by omega)]; omega
 have w2 : IntKind.wrap .i64 (8 + (b.length : Int)) = 8 + (b.length : Int):=wrap_i64 (by omega) (by omega)
 rw [w1,w2]
 have c1 : ¬ (4000 < (b.length : Int)):=by omega
 have c2 : ¬ ((b.length : Int) + rest.length < (b.length : Int)):=by omega
 simp only [c1,c2,decide_false,Bool.or_self,Bool.false_eq_true,if_false]
 rw [chk_pos (by unfold slOk; rw [hl]; omega),chk_pos (by unfold slOk; rw [hl]; omega)]
 have s1 : slc (frameOf b++rest) 2 4 = lenB b.length:=by rw [hx]; rfl
 have s2 : slc (frameOf b++rest) 8 (8 + (b.length : Int)) = b:=by
  unfold slc
  have e : (8 + (b.length : Int)).toNat = (frameOf b).length:=by rw [frameOf_len]; omega
  rw [e,List.take_left]
  have : frameOf b = ([165,90]++lenB b.length++sumB (ckS (lenB b.length) b))++b:=rfl
  rw [this]
  exact List.drop_left' rfl
 rw [s1,s2,checksum_eq _ _ (by simp [lenB]) (by omega),hck]
 simp only [Option.bind_some]
 have q8 : (2 : Int) ^ min (Int.toNat 8) (IntKind.bits .u32) = 2 ^ 8:=by decide
 have q16 : (2 : Int) ^ min (Int.toNat 16) (IntKind.bits .u32) = 2 ^ 16:=by decide
 have q24 : (2 : Int) ^ min (Int.toNat 24) (IntKind.bits .u32) = 2 ^ 24:=by decide
 have hs1:=hs.1
 have hs2:=hs.2
 have hsum : bitI .or .u32 (bitI .or .u32 (bitI .or .u32 (IntKind.wrap .u32 (s % 256)) (IntKind.wrap .u32 ((IntKind.wrap .u32 (s / 256 % 256)) * 2 ^ min (Int.toNat 8) (IntKind.bits .u32)))) (IntKind.wrap .u32 ((IntKind.wrap .u32 (s / 65536 % 256)) * 2 ^ min (Int.toNat 16) (IntKind.bits .u32)))) (IntKind.wrap .u32 ((IntKind.wrap .u32 (s / 16777216 % 256)) * 2 ^ min (Int.toNat 24) (IntKind.bits .u32))) = s:=by
  rw [q8,q16,q24]
  rw [wrap_u32 (n:=s % 256) ⟨by omega,by omega⟩,wrap_u32 (n:=s / 256 % 256) ⟨by omega,by omega⟩,wrap_u32 (n:=s / 65536 % 256) ⟨by omega,by omega⟩,wrap_u32 (n:=s / 16777216 % 256) ⟨by omega,by omega⟩]
  rw [wrap_u32 (n:=s / 256 % 256 * 2 ^ 8) ⟨by omega,by omega⟩,wrap_u32 (n:=s / 65536 % 256 * 2 ^ 16) ⟨by omega,by omega⟩,wrap_u32 (n:=s / 16777216 % 256 * 2 ^ 24) ⟨by omega,by omega⟩]
  rw [or_u32 8 (by omega) (by omega) (by omega) (by omega),or_u32 16 (by omega) (by omega) (by omega) (by omega),or_u32 24 (by omega) (by omega) (by omega) (by omega)]
  omega
 rw [hsum]
 simp
def partsOf : Nat→List (List Int)→List frame_Part
 | _,[]=>[]
 | off,b :: bs=>⟨(off : Int),8 + (b.length : Int),b,true⟩ :: partsOf (off + (8 + b.length)) bs
theorem scan_frames : ∀ (bs : List (List Int)) (p : List Int) (off fu : Nat),(∀ b∈bs,b.length≤4000)→p.drop off = bs.flatMap frameOf→off≤p.length→p.length≤1099511627776→bs.length < fu→scanM p fu (off : Int) = some (partsOf off bs)
 | [],p,off,fu,_,h,h1,h2,h3=>by
  obtain ⟨fu,rfl⟩ : ∃ k,fu = k + 1 := ⟨fu - 1,by omega⟩
  have hl : p.length≤off:=by
   have:=congrArg List.length h
   simp at this; omega
  unfold scanM
  have : ¬ ((off : Int) < (p.length : Int)):=by omega
  simp [this,partsOf]
 | b :: bs,p,off,fu,hb,h,h1,h2,h3=>by
  obtain ⟨fu,rfl⟩ : ∃ k,fu = k + 1 := ⟨fu - 1,by omega⟩
  simp only [List.length_cons] at h3
  have hlb:=hb b (List.mem_cons_self ..)
  rw [List.flatMap_cons] at h
  have hlen : p.length = off + (8 + b.length) + (bs.flatMap frameOf).length:=by
   have:=congrArg List.length h
   rw [List.length_drop,List.length_append,frameOf_len] at this; omega
  have hlt : (off : Int) < (p.length : Int):=by omega
  have hw : whileM (E:=Int × Int × Bool) (scanL p) ((off : Int),0,false) = some ((off : Int),8 + (b.length : Int),true):=by
   refine whileM_spec 0 (fun _=>((off : Int),0,false)) rfl (by omega) (fun j hj=>absurd hj (Nat.not_lt_zero _)) ?_
   unfold scanL
   simp only [hlt,decide_true,if_true]
   rw [chk_pos (by unfold slOk; omega),Int.toNat_natCast,h,stands_eq b _ hlb (by omega)]
   rfl
  unfold scanM
  simp only [hlt,decide_true,if_true]
  rw [hw]
  simp only [Option.bind_some,if_true]
  rw [wrap_i64 (n:=(off : Int) + 8) (by omega) (by omega),wrap_i64 (n:=(off : Int) + (8 + (b.length : Int))) (by omega) (by omega)]
  have hs : slc p ((off : Int) + 8) ((off : Int) + (8 + (b.length : Int))) = b:=by
   unfold slc
   have e1 : ((off : Int) + (8 + (b.length : Int))).toNat = off + (8 + b.length):=by omega
   have e2 : ((off : Int) + 8).toNat = off + 8:=by omega
   rw [e1,e2,← List.drop_drop,List.drop_take,Nat.add_sub_cancel_left,h,List.take_left' (frameOf_len b)]
   exact List.drop_left' rfl
  rw [chk_pos (by unfold slOk; omega),hs,chk_pos (by simp [apOk]; omega)]
  have e3 : (off : Int) + (8 + (b.length : Int)) = ((off + (8 + b.length) : Nat) : Int):=by push_cast; omega
  rw [e3,scan_frames bs p (off + (8 + b.length)) fu (fun x hx=>hb x (List.mem_cons_of_mem _ hx)) ?_ (by omega) h2 (by omega)]
  ·simp [partsOf]
  ·rw [← List.drop_drop,h,List.drop_left' (frameOf_len b)]
def ReadsAs (b : List Int) (r : RRec) : Prop:=record_Read b = some (r,0)
theorem fold_reads : ∀ (bs : List (List Int)) (rs : List RRec) (l : List RRec) (lost : Int) (off : Nat),bs.length = rs.length→(∀ (k : Nat) (b : List Int) (r : RRec),bs[k]? = some b→rs[k]? = some r→ReadsAs b r)→l.length + rs.length≤1099511627→foldO readStep (l,lost) (partsOf off bs) = some (l++rs,lost)
 | [],rs,l,lost,off,h1,h2,h3=>by
  have : rs = []:=List.eq_nil_of_length_eq_zero h1.symm
  subst this
  simp [partsOf,foldO]
 | b :: bs,[],l,lost,off,h1,h2,h3=>by simp at h1
 | b :: bs,r :: rs,l,lost,off,h1,h2,h3=>by
  have h0 : ReadsAs b r:=h2 0 b r rfl rfl
  simp only [List.length_cons] at h3 h1
  have step : readStep (l,lost) ⟨(off : Int),8 + (b.length : Int),b,true⟩ = some (l++[r],lost):=by
   unfold readStep
   simp only [if_true]
   rw [h0]
   simp only [Option.bind_some,beq_self_eq_true,if_true]
   rw [chk_pos (by simp [apOk]; omega)]
  simp only [partsOf,foldO,step,Option.bind_some]
  rw [fold_reads bs rs (l++[r]) lost _ (by omega) (fun k b' r' hb hr=>h2 (k + 1) b' r' (by simpa using hb) (by simpa using hr)) (by simp; omega)]
  simp
theorem read_frames (bs : List (List Int)) (rs : List RRec) (hb : ∀ b∈bs,b.length≤4000) (hl : bs.length = rs.length) (hr : ∀ (k : Nat) (b : List Int) (r : RRec),bs[k]? = some b→rs[k]? = some r→ReadsAs b r) (hn : bs.length≤1000000) : recorder_Read (bs.flatMap frameOf) = some (rs,0):=by
 have hlen : (bs.flatMap frameOf).length≤bs.length * 4008:=by
  clear hl hr hn
  induction bs with
  | nil=>simp
  | cons b bs ih=>
   rw [List.flatMap_cons,List.length_append,frameOf_len]
   have:=hb b (List.mem_cons_self ..)
   have:=ih (fun x hx=>hb x (List.mem_cons_of_mem _ hx))
   simp only [List.length_cons,Nat.succ_mul]; omega
 unfold recorder_Read
 rw [chk_pos (by simp only [apOk,List.length_nil,Nat.zero_add]; omega)]
 have hge : bs.length≤(bs.flatMap frameOf).length:=by
  clear hl hr hn hlen hb
  induction bs with
  | nil=>simp
  | cons b bs ih=>rw [List.flatMap_cons,List.length_append,frameOf_len]; simp only [List.length_cons]; omega
 rw [List.nil_append]
 have hs:=scan_frames bs (bs.flatMap frameOf) 0 ((bs.flatMap frameOf).length + 1) hb rfl (Nat.zero_le _) (by omega) (by omega)
 rw [show ((0 : Nat) : Int) = 0 from rfl] at hs
 rw [hs]
 simp only [Option.bind_some]
 have:=fold_reads bs rs [] 0 0 hl hr (by simp; omega)
 simpa using this
end Go.Proofs.Ytepkcbalmjnhpaa
