/-
  What the claim leans on, part 10.
-/
import Derived.Test.YtepkcbalmjnhpaaGreatCDa9
import Derived.Test.YtepkcbalmjnhpaaGreatProg
import Derived.Shelf.SlSortCmp.NoneTotal
set_option maxRecDepth 100000
set_option maxHeartbeats 2000000
set_option linter.unusedVariables false
namespace Go.Proofs
open Go.Shelf Go.RowKit Go.Lib Go.Sort
def Tryz.sortSpan_ren : Ren:={ f:=fun x=>match x with | 6=>159 | 15=>143 | 14=>184 | 28=>178 | 29=>179 | 20=>207 | 21=>208 | 22=>209 | 23=>210 | 24=>211 | 25=>212 | 26=>213 | 27=>214 | 46=>221 | 47=>201 | 48=>202 | 49=>222 | 50=>223 | 57=>228 | n=>n,t:=fun x=>match x with | 22=>135 | 24=>146 | 25=>249 | 3=>3 | 39=>98 | 0=>0 | 53=>199 | 55=>42 | 4=>4 | 46=>268 | 45=>267 | 50=>188 | 5=>5 | 9=>9 | 66=>299 | 70=>302 | 76=>313 | 77=>289 | n=>n,g:=fun n=>n }
theorem Tryz.sortSpan : SlLaysF0.n6 Tryz.prog Tryz.sortSpan_ren where
 mixed:=by kernel_rfl
 f6:=Exists.intro "slices.SortFunc[[]rootcause/collect.span,rootcause/collect.span]" ⟨by decide,Eq.trans Tryz.func159 (congrArg some (by kernel_rfl))⟩
 f14:=Exists.intro "slices.pdqsortCmpFunc[rootcause/collect.span]" ⟨by decide,Eq.trans Tryz.func184 (congrArg some (by kernel_rfl))⟩
 f15:=Eq.trans Tryz.func143 (congrArg some (by kernel_rfl))
 f20:=Exists.intro "slices.insertionSortCmpFunc[rootcause/collect.span]" ⟨by decide,Eq.trans Tryz.func207 (congrArg some (by kernel_rfl))⟩
 f21:=Exists.intro "slices.heapSortCmpFunc[rootcause/collect.span]" ⟨by decide,Eq.trans Tryz.func208 (congrArg some (by kernel_rfl))⟩
 f22:=Exists.intro "slices.breakPatternsCmpFunc[rootcause/collect.span]" ⟨by decide,Eq.trans Tryz.func209 (congrArg some (by kernel_rfl))⟩
 f23:=Exists.intro "slices.choosePivotCmpFunc[rootcause/collect.span]" ⟨by decide,Eq.trans Tryz.func210 (congrArg some (by kernel_rfl))⟩
 f24:=Exists.intro "slices.reverseRangeCmpFunc[rootcause/collect.span]" ⟨by decide,Eq.trans Tryz.func211 (congrArg some (by kernel_rfl))⟩
 f25:=Exists.intro "slices.partialInsertionSortCmpFunc[rootcause/collect.span]" ⟨by decide,Eq.trans Tryz.func212 (congrArg some (by kernel_rfl))⟩
 f26:=Exists.intro "slices.partitionEqualCmpFunc[rootcause/collect.span]" ⟨by decide,Eq.trans Tryz.func213 (congrArg some (by kernel_rfl))⟩
 f27:=Exists.intro "slices.partitionCmpFunc[rootcause/collect.span]" ⟨by decide,Eq.trans Tryz.func214 (congrArg some (by kernel_rfl))⟩
 f28:=Eq.trans Tryz.func178 (congrArg some (by kernel_rfl))
 f29:=Eq.trans Tryz.func179 (congrArg some (by kernel_rfl))
 f46:=Exists.intro "slices.siftDownCmpFunc[rootcause/collect.span]" ⟨by decide,Eq.trans Tryz.func221 (congrArg some (by kernel_rfl))⟩
 f47:=Eq.trans Tryz.func201 (congrArg some (by kernel_rfl))
 f48:=Eq.trans Tryz.func202 (congrArg some (by kernel_rfl))
 f49:=Exists.intro "slices.medianAdjacentCmpFunc[rootcause/collect.span]" ⟨by decide,Eq.trans Tryz.func222 (congrArg some (by kernel_rfl))⟩
 f50:=Exists.intro "slices.medianCmpFunc[rootcause/collect.span]" ⟨by decide,Eq.trans Tryz.func223 (congrArg some (by kernel_rfl))⟩
 f57:=Exists.intro "slices.order2CmpFunc[rootcause/collect.span]" ⟨by decide,Eq.trans Tryz.func228 (congrArg some (by kernel_rfl))⟩
 t0:=Tryz.underlying0
 a0:=Tryz.isAgg0
 z0:=Tryz.sizeOf0
 v0:=Tryz.zeroValue0
 t3:=Tryz.underlying3
 a3:=Tryz.isAgg3
 z3:=Tryz.sizeOf3
 v3:=Tryz.zeroValue3
 t4:=Tryz.underlying4
 a4:=Tryz.isAgg4
 z4:=Tryz.sizeOf4
 v4:=Tryz.zeroValue4
 t5:=Tryz.underlying5
 a5:=Tryz.isAgg5
 z5:=Tryz.sizeOf5
 v5:=Tryz.zeroValue5
 t9:=Tryz.underlying9
 a9:=Tryz.isAgg9
 z9:=Tryz.sizeOf9
 v9:=Tryz.zeroValue9
 t22:=Tryz.underlying135
 a22:=Tryz.isAgg135
 z22:=Tryz.sizeOf135
 v22:=Tryz.zeroValue135
 t25:=Tryz.underlying249
 a25:=Tryz.isAgg249
 z25:=Tryz.sizeOf249
 v25:=Tryz.zeroValue249
 t39:=Tryz.underlying98
 a39:=Tryz.isAgg98
 z39:=Tryz.sizeOf98
 v39:=Tryz.zeroValue98
 t45:=Tryz.underlying267
 a45:=Tryz.isAgg267
 z45:=Tryz.sizeOf267
 v45:=Tryz.zeroValue267
 t46:=Tryz.underlying268
 a46:=Tryz.isAgg268
 z46:=Tryz.sizeOf268
 v46:=Tryz.zeroValue268
 t50:=Tryz.underlying188
 a50:=Tryz.isAgg188
 z50:=Tryz.sizeOf188
 v50:=Tryz.zeroValue188
 t53:=Tryz.underlying199
 a53:=Tryz.isAgg199
 z53:=Tryz.sizeOf199
 v53:=Tryz.zeroValue199
 t55:=Tryz.underlying42
 a55:=Tryz.isAgg42
 z55:=Tryz.sizeOf42
 v55:=Tryz.zeroValue42
 t66:=Tryz.underlying299
 a66:=Tryz.isAgg299
 z66:=Tryz.sizeOf299
 v66:=Tryz.zeroValue299
 t70:=Tryz.underlying302
 a70:=Tryz.isAgg302
 z70:=Tryz.sizeOf302
 v70:=Tryz.zeroValue302
 t76:=Tryz.underlying313
 a76:=Tryz.isAgg313
 z76:=Tryz.sizeOf313
 v76:=Tryz.zeroValue313
 t77:=Tryz.underlying289
 a77:=Tryz.isAgg289
 z77:=Tryz.sizeOf289
 v77:=Tryz.zeroValue289
end Go.Proofs
set_option maxHeartbeats 1000000
set_option linter.unusedSimpArgs false
namespace Go.Proofs.YtepkcbalmjnhpaaGreat
open Go.Shelf Go.RowKit Go.Sort
def spanCmp (x y : CSpan) : Int:=if x.gfrom < y.gfrom then -1 else if y.gfrom < x.gfrom then 1 else 0
def spanEnc (x : CSpan) : List Value:=[.int .u64 x.gfrom,.int .u64 x.gto]
instance : Inhabited CSpan := ⟨⟨0,0⟩⟩
def spanPdq (xs : List CSpan) : List CSpan:=(pdq (ltOf spanCmp) xs.toArray 0 xs.toArray.size (Lib.bitLen xs.toArray.size) true true).toList
def spanSort (xs : List CSpan) : Option (List CSpan):=chk (xs.length < 4611686018427387904) (some (spanPdq xs))
theorem span_lt (x y : CSpan) : ltOf spanCmp x y = decide (x.gfrom < y.gfrom):=by
 unfold ltOf spanCmp
 by_cases h1 : x.gfrom < y.gfrom
 ·simp [h1]
 ·by_cases h2 : y.gfrom < x.gfrom <;> simp [h1,h2]
theorem span_swo : SWO (ltOf spanCmp) where
 irrefl x:=by rw [span_lt]; simp
 trans x y z h1 h2:=by rw [span_lt] at *; simp at *; omega
 ntrans x y z h1 h2:=by rw [span_lt] at *; simp at *; omega
theorem span_closure (x y : CSpan) (W : World) : Calls Tryz.prog 160 #[.agg #[.int .u64 x.gfrom,.int .u64 x.gto],.agg #[.int .u64 y.gfrom,.int .u64 y.gto]] W fun e w'=>e = .returned (.int .i64 (spanCmp x y))∧∃ q os',w' = grow (W.drewN q) os' := by
 have hc:=Lib.hid (show spanCmp x y = if x.gfrom < y.gfrom then -1 else if y.gfrom < x.gfrom then 1 else 0 from rfl)
 generalize spanCmp x y = r at hc ⊢
 obtain ⟨a,b⟩ := x
 obtain ⟨c,d⟩ := y
 dsimp only at hc ⊢
 by_cases h1 : a < c
 ·have hr : r = -1:=by rw [hc.out,if_pos h1]
  subst hr
  clear hc
  go_enter Tryz.func160,Tryz.ntmps160
  go_wp2
  go_ret
  exact ⟨rfl,0,_,by rw [alloc_eq_grow,alloc_eq_grow,grow_grow]; rfl⟩
 ·by_cases h2 : c < a
  ·have hr : r = 1:=by rw [hc.out,if_neg h1,if_pos h2]
   subst hr
   clear hc
   have h3 : a > c:=h2
   go_enter Tryz.func160,Tryz.ntmps160
   go_wp2
   go_ret
   exact ⟨rfl,0,_,by rw [alloc_eq_grow,alloc_eq_grow,grow_grow]; rfl⟩
  ·have hr : r = 0:=by rw [hc.out,if_neg h1,if_neg h2]
   subst hr
   clear hc
   have h3 : ¬ a > c:=h2
   go_enter Tryz.func160,Tryz.ntmps160
   go_wp2
   go_ret
   exact ⟨rfl,0,_,by rw [alloc_eq_grow,alloc_eq_grow,grow_grow]; rfl⟩
theorem flatK_list {α : Type} [Inhabited α] (enc : α→List Value) (k : Nat) (hk : ∀ x,(enc x).length = k) (h0 : 0 < k) : ∀ xs : List α,(flatK enc k xs.toArray).toList = xs.flatMap enc:=by
 have get : ∀ (xs : List α) (t : Nat),t < xs.length * k→(xs.flatMap enc)[t]? = some ((enc xs[t / k]!)[t % k]!):=by
  intro xs
  induction xs with
  | nil=>intro t h; simp at h
  | cons x xs ih=>
   intro t h
   rw [List.flatMap_cons,List.getElem?_append,hk]
   by_cases ht : t < k
   ·rw [if_pos ht,Nat.div_eq_of_lt ht,Nat.mod_eq_of_lt ht]
    have hl : t < (enc x).length:=by rw [hk]; exact ht
    simp [List.getElem?_eq_getElem hl,getElem!_pos,hl]
   ·rw [if_neg ht]
    have hge : k≤t:=Nat.le_of_not_lt ht
    have hlt : t - k < xs.length * k:=by simp only [List.length_cons,Nat.succ_mul] at h; omega
    rw [ih (t - k) hlt]
    have hd : t / k = (t - k) / k + 1:=by
     have : t = (t - k) + k:=by omega
     conv=>lhs; rw [this]
     exact Nat.add_div_right _ h0
    have hm : t % k = (t - k) % k:=by
     have : t = (t - k) + k:=by omega
     conv=>lhs; rw [this]
     exact Nat.add_mod_right _ _
    rw [hd,hm]
    simp
 intro xs
 apply List.ext_getElem?
 intro t
 by_cases h : t < xs.length * k
 ·rw [get xs t h]
  have hs : t < (flatK enc k xs.toArray).size:=by simpa using h
  have:=get_flatK enc k xs.toArray t (by simpa using h)
  rw [getElem!_pos (flatK enc k xs.toArray) t hs] at this
  rw [Array.getElem?_toList,Array.getElem?_eq_getElem hs,this]
  simp
 ·have hl : (xs.flatMap enc).length = xs.length * k:=by
   clear h get
   induction xs with
   | nil=>simp
   | cons x xs ih=>rw [List.flatMap_cons,List.length_append,ih,hk,List.length_cons,Nat.succ_mul]; omega
  rw [List.getElem?_eq_none (l:=xs.flatMap enc) (by rw [hl]; omega),List.getElem?_eq_none (l:=(flatK enc k xs.toArray).toList) (by simp; omega)]
theorem sortW_heap {α : Type} [Inhabited α] (enc : α→List Value) (k : Nat) {w : World} {b m : Nat} {d : Array α} {os : Array Obj} {cur : Array Value} {E : TypeId} (hb : w.heap[b]? = some (.cells cur E (0,0))) (hd : d.size * k≤cur.size) :
  (∃ cur',(sortWorldK enc k w b 0 m d os).heap[b]? = some (.cells cur' E (0,0))∧cur'.size = cur.size∧cur'.toList.take (d.size * k) = (flatK enc k d).toList)∧Stp w (sortWorldK enc k w b 0 m d os) (some b):=by
 have hlt:=(Array.getElem?_eq_some_iff.1 hb).1
 have hput : (putRowK enc k (Sort.ahead w m) b 0 d).heap[b]? = some (.cells (putCells id 0 (flatK enc k d) cur) E (0,0)):=by
  simp [putRowK,putRow,mapBlock,Sort.ahead,Array.getElem?_modify,hb,onCells]
 have hsz : (putRowK enc k (Sort.ahead w m) b 0 d).heap.size = w.heap.size:=by simp [putRowK,putRow,mapBlock,Sort.ahead]
 refine ⟨⟨putCells id 0 (flatK enc k d) cur,?_,by simp [putCells],?_⟩,⟨rfl,rfl,rfl,?_,fun j hj hne=>?_⟩⟩
 ·have : b < (putRowK enc k (Sort.ahead w m) b 0 d).heap.size:=by rw [hsz]; exact hlt
  simp only [sortWorldK,grow]
  rw [Array.getElem?_append_left this]; exact hput
 ·apply List.ext_getElem?
  intro t
  rw [List.getElem?_take]
  by_cases ht : t < d.size * k
  ·rw [if_pos ht]
   have h1 : t < (flatK enc k d).size:=by simpa using ht
   have h2 : t < cur.size:=by omega
   simp only [putCells,Array.getElem?_toList,Array.getElem?_mapIdx,Array.getElem?_eq_getElem h2,Array.getElem?_eq_getElem h1,Option.map_some,Nat.zero_le,true_and,Nat.zero_add,h1,if_true,Nat.sub_zero,id]
   rw [getElem!_pos (flatK enc k d) t h1]
  ·rw [if_neg ht,List.getElem?_eq_none (by simp; omega)]
 ·simp only [sortWorldK,grow,Array.size_append]; rw [hsz]; omega
 ·have : j < (putRowK enc k (Sort.ahead w m) b 0 d).heap.size:=by rw [hsz]; exact hj
  have hne' : b≠j:=fun e=>hne (by rw [e])
  simp only [sortWorldK,grow]
  rw [Array.getElem?_append_left this]
  simp [putRowK,putRow,mapBlock,Sort.ahead,Array.getElem?_modify,hne']
theorem sort_bridge {P : Program} {α : Type} [Inhabited α] (enc : α→List Value) (dv : α→DV) (k : Nat) (E : TypeId) (fn g : FuncId) (sortF : List α→List α) (hlen : ∀ x,(enc x).length = k) (hk0 : 0 < k)
  (hE : ∀ (F : FMap) (xs : List α) (cs : List Value),RsE F k (xs.map dv) cs↔cs = xs.flatMap enc)
  (hcall : ∀ (blk cap : Nat) (d : Array α) (w : World),HoldsK enc k w blk 0 d→blk < w.heap.size→d.size < 4611686018427387904 →
   Calls P fn #[.slice (some ⟨blk,0,none⟩) d.size cap,.func (.func g) #[] #[]] w fun e w'=>e = .returned (.tuple #[])∧∃ n os,w' = sortWorldK enc k w blk 0 n (sortF d.toList).toArray os)
  (hnone : ∀ (p : Option Addr) (cap : Nat) (fv : Value) (w : World),Calls P fn #[.slice p 0 cap,fv] w fun e w'=>e = .returned (.tuple #[])∧w' = w)
  (hsl : ∀ xs,(sortF xs).length = xs.length) (xs : List α) (hx : xs.length < 4611686018427387904) :
  ACall P fn ⟨[.row 100000,.val (.func (.func g) #[] #[])],[(100000,some (.row E k (xs.map dv)))],.tup [],[(100000,some (.row E k ((sortF xs).map dv)))],[]⟩ := by
 intro C F γ heap used w vs f hpre hnew hinj H hv
 have he : hget heap (f 100000) = some (.row E k (xs.map dv)):=hpre 100000 (.row E k (xs.map dv)) rfl
 obtain ⟨gv,hg,cs,hown,hcs⟩ := H.ent _ _ he
 simp only [renL,DV.ren,RsT,Rs] at hv
 obtain ⟨v1,r1,rfl,k1,v2,r2,rfl,rfl,rfl⟩ := hv
 rw [hg] at k1; injection k1 with k1; subst k1
 rw [hE] at hcs
 rw [List.length_map] at hown
 have keep : ∀ (w' : World),Stp w w' none→xs = []→∃ v F' γ',Ending.returned (.tuple #[]) = .returned v∧FLe F F'∧GLe γ γ'∧WS C F' γ' (renH f [(100000,some (.row E k ((sortF xs).map dv)))]++heap) (List.map f []++used) w'∧Rs F' γ' (DV.ren f (.tup [])) v:=by
  intro w' S h0
  have h1 : sortF xs = []:=List.eq_nil_of_length_eq_zero (by rw [hsl,h0]; rfl)
  refine ⟨_,F,γ,rfl,FLe.refl _,GLe.refl _,(H.quiet S).congr (fun i e hi=>?_) (fun _ h=>h),by simp [DV.ren,renL,Rs,RsT]⟩
  simp only [renH,List.map_cons,List.map_nil,List.cons_append,List.nil_append,Option.map_some,HE.ren] at hi
  rw [hget_cons] at hi
  split at hi
  ·rename_i e1; subst e1; rw [he,← hi,h1,h0]
  ·exact hi
 by_cases hxe : xs = []
 ·have hgn : ∃ p cap,gv = .slice p 0 cap:=by
   rcases hown.2 with ⟨q,_⟩ | ⟨b,cap,cur,q,_⟩
   ·exact ⟨none,0,q⟩
   ·rw [hxe] at q; exact ⟨_,cap,q⟩
  obtain ⟨p,cap,rfl⟩ := hgn
  refine (hnone p cap _ w).mono ?_
  rintro e w' ⟨rfl,rfl⟩
  exact keep _ (Stp.refl _) hxe
 ·rcases hown.2 with ⟨_,q⟩ | ⟨b,cap,cur,rfl,q1,q2,q3,q4,q5,q6⟩
  ·exact absurd (List.eq_nil_of_length_eq_zero q) hxe
  ·have hfl:=flatK_list enc k hlen hk0
   have hcl : cs.length = xs.length * k:=hown.1
   have hH : HoldsK enc k w b 0 xs.toArray:=by
    intro j hj
    have hj' : j < xs.length * k:=by simpa using hj
    have hjc : j < cur.size:=by
     rw [q5]; exact Nat.lt_of_lt_of_le hj' (Nat.mul_le_mul_right _ q3)
    have e1 : (flatK enc k xs.toArray)[j]! = cur[j]:=by
     have a1 : (flatK enc k xs.toArray).toList[j]? = some (flatK enc k xs.toArray)[j]! := by
      rw [Array.getElem?_toList,Array.getElem?_eq_getElem hj,getElem!_pos (flatK enc k xs.toArray) j hj]
     rw [hfl,← hcs,← q6,List.getElem?_take,if_pos hj',Array.getElem?_toList,Array.getElem?_eq_getElem hjc] at a1
     exact (Option.some.inj a1).symm
    refine ⟨?_,?_⟩
    ·simp only [World.cell?,q2,Nat.zero_add,id,e1]
     simp [hjc]
    ·simp [World.frozen?,q2]
   have hlt : b < w.heap.size:=(Array.getElem?_eq_some_iff.1 q2).1
   have:=hcall b cap xs.toArray w hH hlt (by simpa using hx)
   simp only [List.size_toArray] at this
   refine this.mono ?_
   rintro e w' ⟨rfl,m,os,rfl⟩
   have hd : (sortF xs).toArray.size * k≤cur.size:=by
    simp only [List.size_toArray,hsl]; rw [q5]; exact Nat.mul_le_mul_right _ q3
   obtain ⟨⟨cur',c1,c2,c3⟩,S⟩ := sortW_heap enc k (m:=m) (os:=os) q2 hd
   refine ⟨_,F,γ,rfl,FLe.refl _,GLe.refl _,?_,by simp [DV.ren,renL,Rs,RsT]⟩
   have hT:=H.turn he hg (by simpa [Value.pblk] using S)
   have hP:=hT.put (e0:=.row E k ((sortF xs).map dv)) hg ⟨(sortF xs).flatMap enc,?_,(hE _ _ _).2 rfl⟩ (fun b' hb'=>?_)
   ·refine hP.congr (fun i e hi=>?_) (fun _ h=>h)
    simp only [renH,List.map_cons,List.map_nil,List.cons_append,List.nil_append,Option.map_some,HE.ren] at hi
    rw [hget_cons] at hi ⊢
    split at hi
    ·rename_i e1; rw [if_pos e1]; exact hi
    ·rename_i e1; rw [if_neg e1,hget_cons,if_neg e1]; exact hi
   ·have hfl2 : ((sortF xs).flatMap enc).length = (sortF xs).length * k:=by
     rw [← hfl]; simp
    refine ⟨by rw [List.length_map]; exact hfl2,.inr ⟨b,cap,cur',?_,Nat.zero_le _,c1,?_,q4,by rw [c2,q5],?_⟩⟩
    ·rw [List.length_map,hsl]
    ·rw [List.length_map,hsl]; exact q3
    ·rw [List.length_map,← hfl,← c3]; simp
   ·have q:=H.own _ _ _ b' he hg hb'
    refine ⟨q.1,q.2,fun id' e' g' hne hh2 hg' hb''=>?_⟩
    rw [hget_cons] at hh2
    split at hh2
    ·cases hh2
    ·exact hne (H.apart id' _ e' _ g' _ b' hh2 he hg' hg hb'' hb')
theorem span_rsE (F : FMap) : ∀ (xs : List CSpan) (cs : List Value),RsE F 2 (xs.map CSpan.dv) cs↔cs = xs.flatMap spanEnc
 | [],cs=>by simp [RsE]
 | x :: xs,cs=>by
  simp only [List.map_cons,RsE,List.flatMap_cons,span_rsE F xs]
  constructor
  ·rintro ⟨v,rest,rfl,h1,h2,h3,rfl⟩
   congr 1
   simp only [CSpan.dv,CSpan.cs,Rs,RsL] at h3
   obtain ⟨cs,rfl,v1,r1,e1,_,rfl,v2,r2,rfl,_,rfl,rfl⟩ := h3
   simpa [Value.cells,spanEnc] using e1
  ·rintro rfl
   exact ⟨.agg #[.int .u64 x.gfrom,.int .u64 x.gto],_,rfl,rfl,by simp [Value.cells,Value.oneCell'],by
    simp only [CSpan.dv,CSpan.cs,Rs,RsL]
    exact ⟨_,rfl,_,_,rfl,rfl,rfl,_,_,rfl,rfl,rfl,rfl⟩,rfl⟩
theorem spanPdq_spec (xs : List CSpan) : PermIn 0 xs.toArray.size xs.toArray (spanPdq xs).toArray∧SortedIn (ltOf spanCmp) 0 xs.toArray.size (spanPdq xs).toArray:=by
 have h:=pdq_sorts (ltOf spanCmp) span_swo xs.toArray 0 xs.toArray.size (Lib.bitLen xs.toArray.size) true true (Nat.zero_le _) (Nat.le_refl _) (Or.inl rfl)
 simpa [spanPdq] using h
theorem spanPdq_len (xs : List CSpan) : (spanPdq xs).length = xs.length:=by
 have:=(spanPdq_spec xs).1.1
 simpa using this
theorem spanSort_c {x r : List CSpan} (hM : spanSort x = some r) : ACall Tryz.prog 159 ⟨[.row 100000,.val (.func (.func 160) #[] #[])],[(100000,some (.row 146 2 (List.map CSpan.dv x)))],.tup [],[(100000,some (.row 146 2 (List.map CSpan.dv r)))],[]⟩ := by
 obtain ⟨h,hM⟩ := of_chk hM
 obtain rfl:=Option.some.inj hM
 refine sort_bridge spanEnc CSpan.dv 2 _ _ _ spanPdq (fun _=>rfl) (by decide) span_rsE (fun blk cap d w hH hlt hsz=>?_) (fun p cap fv w=>?_) spanPdq_len x h
 ·have eg : ∀ args w,(callFunc 160 args).run Tryz.prog w = .ok (.enter 160 args) w:=enters_of Tryz.func160 (by kernel_rfl) rfl
  have aE : ∀ w,(isAgg 146).run Tryz.prog w = .ok true w:=fun w=>by simp [isAgg,run_underlying Tryz.underlying146]
  have zE : ∀ w,(Go.sizeOf 146).run Tryz.prog w = .ok 2 w:=fun w=>by
   have : (Tryz.prog.info? 146).map (·.size) = some 2:=by kernel_rfl
   cases hi : Tryz.prog.info? 146 with
   | none=>rw [hi] at this; cases this
   | some i=>rw [hi] at this; injection this with this; simp [Go.sizeOf,typeInfo,hi,this]
  have hcon:=AnyQ.slices_SortFunc_eq Tryz.sortSpan 2 aE zE spanEnc (fun _=>rfl) (fun x v hv=>by simp [spanEnc] at hv; rcases hv with rfl | rfl <;> rfl) spanCmp span_swo 160 #[] blk 0 cap d w eg (fun _ _ _ _ x y=>span_closure x y _) hH hlt hsz
  change Calls Tryz.prog 159 _ _ _ at hcon
  refine hcon.mono ?_
  rintro e w' ⟨rfl,n,os,rfl⟩
  exact ⟨rfl,n,os,by simp [spanPdq]⟩
 ·have:=AnyF.slices_SortFunc_none Tryz.sortSpan p cap fv w
  exact this
end Go.Proofs.YtepkcbalmjnhpaaGreat
set_option maxHeartbeats 4000000
namespace Go.Proofs.YtepkcbalmjnhpaaGreat
open Go.RowKit
def collect_mergeSpans_K1 (a5 : List CSpan) (a6 : Int) : Option (List CSpan) :=
 chk (slOk (List.length a5) 0 a6)<|
 some (List.take (Int.toNat a6) a5)
def collect_mergeSpans_L2 (k8 : Nat) (a9 : List CSpan) (a10 : Int) : Option ((List CSpan) × Int) :=
 (idx a9 (k8 : Int)).bind fun v15=>
 (gb (decide (0 < a10)) (CSpan.mk 0 0) (idx a9 (IntKind.wrap .i64 (a10 - 1)))).bind fun v17=>
 if ((decide (0 < a10)) && (decide (v15.gfrom≤v17.gto))) = true then
  (idx a9 (IntKind.wrap .i64 (a10 - 1))).bind fun v20=>
  (idx a9 (IntKind.wrap .i64 (a10 - 1))).bind fun v22=>
  some ((List.set a9 (Int.toNat (IntKind.wrap .i64 (a10 - 1))) (CSpan.mk v22.gfrom (if v15.gto > v20.gto then v15.gto else v20.gto))),a10)
 else
  (idx a9 a10).bind fun v24=>
  some ((List.set a9 (Int.toNat a10) v15),(IntKind.wrap .i64 (a10 + 1)))
def collect_mergeSpans (x0 : List CSpan) (x1 : List CSpan) : Option (List CSpan) :=
 (catS [x0,x1]).bind fun v2=>
 (spanSort v2).bind fun v4=>
 (foldM' 9223372036854775807 (List.length v4 : Int) (fun k8 s=>collect_mergeSpans_L2 k8 s.1 s.2) (v4,0)).bind fun s=>collect_mergeSpans_K1 s.1 s.2
theorem collect_mergeSpans_c {x0 : List CSpan} {x1 : List CSpan} {r : (List CSpan)} (hM : collect_mergeSpans x0 x1 = some r) : PCall Tryz.prog 122 [.sl 2 (List.map CSpan.dv x0),.sl 2 (List.map CSpan.dv x1)] (.sl 2 (List.map CSpan.dv r)):=by
 unfold collect_mergeSpans at hM
 refine PCall.body Tryz.func122 Tryz.ntmps122 rfl rfl rfl rfl ?_
 refine a_seq (ar (.cons (o_assign rfl)<|.nil _) ?_)
 refine a_seq ?_
 obtain ⟨v2,h1,hM⟩ := of_bind hM
 refine ar (.cons (o_move rfl)<|.cons (o_move rfl)<|.cons (o_frz (t_build (encSl 2 CSpan.dv) ([x0,x1] : List (List CSpan)) rfl rfl rfl rfl rfl rfl rfl))<|.cons (o_callN (fun i=>bif Nat.beq i 50000 then 12 else i) 1 (catS_c h1) rfl (DLeL.refl _) .nil rfl .nil)<|.cons (o_assign rfl)<|.nil _) ?_
 refine a_seq ?_
 obtain ⟨v4,h3,hM⟩ := of_bind hM
 refine ar (.cons (o_move rfl)<|.cons (o_callN (fun i=>bif Nat.beq i 100000 then 12 else i) 1 (spanSort_c h3) rfl (DLeL.refl _) (.cons rfl .nil) rfl .nil)<|.nil _) ?_
 refine a_seq (ar (.cons (o_assign rfl)<|.nil _) ?_)
 refine a_cut (α:=(List CSpan) × Int) (fun s=>⟨[(5,.sl 2 (List.map CSpan.dv s.1)),(6,.int .i64 s.2)],[],[]⟩) (fun s=>collect_mergeSpans_K1 s.1 s.2 = some r) ?_ ?_
 ·refine a_seq (ar (.cons (o_move rfl)<|.cons (t_len_r rfl rfl)<|.cons (o_move rfl)<|.nil _) ?_)
  obtain ⟨⟨a9,a10⟩,hL11,hK11⟩ := of_bind hM
  refine a_block ?_
  refine a_fold (fun k8 (s : (List CSpan) × Int)=>⟨[(5,.row 10001),(6,.int .i64 s.2),(15,.row 10001),(16,.int .i64 (List.length v4 : Int)),(17,.int .i64 (k8 : Int))],[(10001,some (.row 146 2 (List.map CSpan.dv s.1)))],[10001]⟩) _ hL11 (Imp.sh (fun i=>bif Nat.beq i 10001 then 12 else i) rfl rfl rfl rfl rfl rfl) ?_ ?_
  ·rintro k8 ⟨a9,a10⟩ t12 hk8 hx8 hM
   replace hM : collect_mergeSpans_L2 k8 a9 a10 = some t12:=hM
   unfold collect_mergeSpans_L2 at hM
   refine a_seq (ar (.cons (o_int rfl rfl rfl)<|.nil _) ?_)
   refine a_seq ?_
   refine a_cond _ rfl (fun _=>?_) (fun c=>absurd hk8 (of_decide_eq_false c))
   refine a_skip (a_seq (a_block (a_seq ?_)))
   obtain ⟨v15,h14,hM⟩ := of_bind hM
   refine ar (.cons (t_index_r h14 rfl rfl rfl)<|.cons (t_load_pr h14 rfl rfl rfl rfl rfl)<|.cons (o_alloc rfl)<|.cons (o_store rfl rfl rfl rfl rfl rfl rfl)<|.nil _) ?_
   refine a_seq (a_seq ?_)
   obtain ⟨v17,h16,hM⟩ := of_bind hM
   refine ad mixed (.cons (o_move rfl)<|.cons (o_int rfl rfl rfl)<|.cons (o_move rfl)<|.cons (o_guardG .bT rfl rfl (fun hb=>(.keep .nil)) (fun hb=>o_fieldAddr rfl))<|.cons (o_guardG .bT rfl rfl (fun hb=>(.strip rfl hb .nil)) (fun hb=>o_load_s rfl rfl rfl))<|.cons (o_guardG .bT rfl rfl (fun hb=>(.keep .nil)) (fun hb=>o_move rfl))<|.cons (o_guardG .bT rfl rfl (fun hb=>(.keep .nil)) (fun hb=>o_move rfl))<|.cons (o_guardG .bT rfl rfl (fun hb=>(.strip rfl hb .nil)) (fun hb=>o_int rfl rfl rfl))<|.cons (o_guardG .bT rfl rfl (fun hb=>(.strip rfl hb (.strip rfl hb .nil))) (fun hb=>t_index_r (of_gb h16 hb) rfl rfl rfl))<|.cons (o_guardG .bT rfl rfl (fun hb=>(.strip rfl hb .nil)) (fun hb=>o_fieldAddr_p rfl))<|.cons (o_guardG .bT rfl rfl (fun hb=>(.strip rfl hb .nil)) (fun hb=>t_load_ps (of_gb h16 hb) rfl rfl rfl rfl))<|.cons (o_guardG .bT rfl rfl (fun hb=>(.strip rfl hb (.strip rfl hb .nil))) (fun hb=>o_int rfl rfl rfl))<|.cons (o_and rfl rfl)<|.nil _) ?_
   refine a_cond _ rfl (fun h18=>?_) (fun h18=>?_)
   ·replace hM:=(of_if hM).1 h18
    refine a_seq ?_
    obtain ⟨v20,h19,hM⟩ := of_bind hM
    obtain ⟨v22,h21,hM⟩ := of_bind hM
    refine ad mixed (.cons (o_move rfl)<|.cons (o_move rfl)<|.cons (o_int rfl rfl rfl)<|.cons (o_move rfl)<|.cons (o_move rfl)<|.cons (o_int rfl rfl rfl)<|.cons (t_index_r h19 rfl rfl rfl)<|.cons (o_fieldAddr_p rfl)<|.cons (t_load_ps h19 rfl rfl rfl rfl)<|.cons (o_fieldAddr rfl)<|.cons (o_load_s rfl rfl rfl)<|.cons (o_max rfl rfl)<|.cons (t_index_r h21 rfl rfl rfl)<|.cons (o_fieldAddr_p rfl)<|.cons (t_store_p (CSpan.mk v22.gfrom (if v15.gto > v20.gto then v15.gto else v20.gto)) h21 rfl rfl rfl rfl rfl rfl rfl rfl rfl rfl rfl)<|.nil _) ?_
    refine a_exit (ar (.cons (o_add rfl rfl (inR_i64 hk8 hx8))<|.cons (o_move rfl)<|.nil _) ?_)
    obtain rfl:=Option.some.inj hM
    exact (Imp.of (fun i=>i) (.cons rfl (DLe.refl _) (.cons rfl (DLe.refl _) (.cons rfl (DLe.refl _) (.cons rfl (DLe.refl _) (.cons rfl (DLe.succ _ _) .nil))))) (.cons rfl (.refl _) .nil) rfl rfl rfl)
   ·replace hM:=(of_if hM).2 h18
    refine a_skip (a_seq ?_)
    obtain ⟨v24,h23,hM⟩ := of_bind hM
    refine ar (.cons (o_move rfl)<|.cons (o_move rfl)<|.cons (o_load_r rfl rfl rfl rfl)<|.cons (t_index_r h23 rfl rfl rfl)<|.cons (t_store_p v15 h23 rfl rfl rfl rfl rfl rfl rfl rfl rfl rfl rfl)<|.nil _) ?_
    refine ar (.cons (o_move rfl)<|.cons (o_int rfl rfl rfl)<|.cons (o_assign rfl)<|.nil _) ?_
    refine ar (.cons (o_add rfl rfl (inR_i64 hk8 hx8))<|.cons (o_move rfl)<|.nil _) ?_
    obtain rfl:=Option.some.inj hM
    exact (Imp.of (fun i=>i) (.cons rfl (DLe.refl _) (.cons rfl (DLe.refl _) (.cons rfl (DLe.refl _) (.cons rfl (DLe.refl _) (.cons rfl (DLe.succ _ _) .nil))))) (.cons rfl (.refl _) .nil) rfl rfl rfl)
  ·rintro k8 hk8 hx8
   refine a_seq (ar (.cons (o_int rfl rfl rfl)<|.nil _) ?_)
   refine a_seq ?_
   refine a_cond _ rfl (fun c=>absurd (of_decide_eq_true c) (Int.not_lt.2 hk8)) (fun _=>?_)
   refine a_exit ?_
   exact ⟨(a9,a10),hK11,((Imp.freeze (id:=10001) rfl).trans (Imp.sh (fun i=>i) rfl rfl rfl rfl rfl rfl))⟩
 ·rintro ⟨a5,a6⟩ hM
  replace hM : collect_mergeSpans_K1 a5 a6 = some r:=hM
  unfold collect_mergeSpans_K1 at hM
  refine a_seq ?_
  obtain ⟨h7,hM⟩ := of_chk hM
  refine ar (.cons (o_move rfl)<|.cons (o_move rfl)<|.cons (t_slice_h h7 rfl rfl)<|.cons (o_assign rfl)<|.nil _) ?_
  obtain rfl:=Option.some.inj hM
  exact a_ret (a_post (.r1 (.tmp rfl)) (DLe.refl _) PostOk.nil.spec)
def CPart_merge_K1 (x0 : CPart) (x1 : CPart) (v3 : (List RRec) × Bool) : Option (CPart × Bool) :=
 (collect_mergeSpans x0.glost x1.glost).bind fun v6=>
 (gb ((decide (0 < (List.length v6 : Int))) && (x0.gknown || x1.gknown)) (CSpan.mk 0 0) (idx v6 (IntKind.wrap .i64 ((List.length v6 : Int) - 1)))).bind fun v8=>
 if (((decide (0 < (List.length v6 : Int))) && (x0.gknown || x1.gknown)) && (decide ((if x1.gtotal > x0.gtotal then x1.gtotal else x0.gtotal) < v8.gto))) = true then
  some ((CPart.mk [] [] false 0),false)
 else
  (collect_without v6 v3.1).bind fun v11=>
  some ((CPart.mk v3.1 v11 (x0.gknown || x1.gknown) (if x1.gtotal > x0.gtotal then x1.gtotal else x0.gtotal)),true)
def CPart_merge (x0 : CPart) (x1 : CPart) : Option (CPart × Bool) :=
 if ((x0.gknown && x1.gknown) && (x0.gtotal != x1.gtotal)) = true then
  some ((CPart.mk [] [] false 0),false)
 else
  (collect_mergeEntries x0.gentries x1.gentries).bind fun v3=>
  if (!v3.2) = true then
   some ((CPart.mk [] [] false 0),false)
  else
   if (decide (0 < (List.length v3.1 : Int))) = true then
    (idx v3.1 (IntKind.wrap .i64 ((List.length v3.1 : Int) - 1))).bind fun v14=>
    if ((v14.gSeq == 18446744073709551615) || ((x0.gknown || x1.gknown) && (decide ((if x1.gtotal > x0.gtotal then x1.gtotal else x0.gtotal)≤v14.gSeq)))) = true then
     some ((CPart.mk [] [] false 0),false)
    else
     CPart_merge_K1 x0 x1 v3
   else
    CPart_merge_K1 x0 x1 v3
theorem CPart_merge_c {x0 : CPart} {x1 : CPart} {r : CPart × Bool} (hM : CPart_merge x0 x1 = some r) : PCall Tryz.prog 66 [.agg (CPart.cs x0),.agg (CPart.cs x1)] (.tup [.agg (CPart.cs r.1),.bool r.2]):=by
 unfold CPart_merge at hM
 refine PCall.body Tryz.func66 Tryz.ntmps66 rfl rfl rfl rfl ?_
 refine a_seq (ar (.cons (o_box rfl rfl)<|.cons (o_box rfl rfl)<|.cons (o_alloc rfl)<|.cons (o_assign rfl)<|.nil _) ?_)
 refine a_seq (a_seq (ar (.cons (o_fieldAddr rfl)<|.cons (o_load_s rfl rfl rfl)<|.cons (o_move rfl)<|.cons (o_guardG .bT rfl rfl (fun hb=>(.keep .nil)) (fun hb=>o_fieldAddr rfl))<|.cons (o_guardG .bT rfl rfl (fun hb=>(.strip rfl hb .nil)) (fun hb=>o_load_s rfl rfl rfl))<|.cons (o_and rfl rfl)<|.cons (o_move rfl)<|.cons (o_guardG .bT rfl rfl (fun hb=>(.keep .nil)) (fun hb=>o_fieldAddr rfl))<|.cons (o_guardG .bT rfl rfl (fun hb=>(.strip rfl hb .nil)) (fun hb=>o_load_s rfl rfl rfl))<|.cons (o_guardG .bT rfl rfl (fun hb=>(.keep .nil)) (fun hb=>o_fieldAddr rfl))<|.cons (o_guardG .bT rfl rfl (fun hb=>(.strip rfl hb .nil)) (fun hb=>o_load_s rfl rfl rfl))<|.cons (o_guardG .bT rfl rfl (fun hb=>(.strip rfl hb (.strip rfl hb .nil))) (fun hb=>o_int rfl rfl rfl))<|.cons (o_and rfl rfl)<|.nil _) ?_))
 refine a_cond _ rfl (fun h1=>?_) (fun h1=>?_)
 ·replace hM:=(of_if hM).1 h1
  refine a_seq (ar (.cons (o_build rfl rfl rfl)<|.cons (o_store rfl rfl rfl rfl rfl rfl rfl)<|.cons (o_assign rfl)<|.nil _) ?_)
  obtain rfl:=Option.some.inj hM
  exact a_ret (a_post (.r2 (.cell rfl rfl (.row _ CRow.h (Nat.le_of_ble_eq_true rfl) rfl)) (.tmp rfl)) (DLe.tup (.cons (DLe.agg (.cons (DLe.nils _) (.cons (DLe.nils _) (.cons (DLe.refl _) (.cons (DLe.refl _) .nil))))) (.cons (DLe.refl _) .nil))) PostOk.nil.spec)
 ·replace hM:=(of_if hM).2 h1
  refine a_skip (a_seq (ar (.cons (o_fieldAddr rfl)<|.cons (o_load_s rfl rfl rfl)<|.cons (o_move rfl)<|.cons (o_guardG .bF rfl rfl (fun hb=>(.keep .nil)) (fun hb=>o_fieldAddr rfl))<|.cons (o_guardG .bF rfl rfl (fun hb=>(.strip rfl hb .nil)) (fun hb=>o_load_s rfl rfl rfl))<|.cons (o_or rfl rfl)<|.cons (o_fieldAddr rfl)<|.cons (o_load_s rfl rfl rfl)<|.cons (o_fieldAddr rfl)<|.cons (o_load_s rfl rfl rfl)<|.cons (o_max rfl rfl)<|.cons (o_build rfl rfl rfl)<|.cons (o_alloc rfl)<|.cons (o_store rfl rfl rfl rfl rfl rfl rfl)<|.nil _) ?_))
  refine a_seq (ar (.cons (o_assign rfl)<|.nil _) ?_)
  refine a_seq (a_seq ?_)
  obtain ⟨v3,h2,hM⟩ := of_bind hM
  refine ar (.cons (o_fieldAddr rfl)<|.cons (o_load_s rfl rfl rfl)<|.cons (o_fieldAddr rfl)<|.cons (o_load_s rfl rfl rfl)<|.cons (o_call (collect_mergeEntries_c h2) rfl (DLeL.refl _) rfl)<|.cons (o_move rfl)<|.cons (o_extract rfl rfl)<|.cons (o_extract rfl rfl)<|.cons (o_fieldAddr rfl)<|.cons (o_store_s rfl rfl rfl rfl rfl)<|.cons (o_assign rfl)<|.nil _) ?_
  refine a_seq (ar (.cons (o_move rfl)<|.cons (o_not rfl)<|.nil _) ?_)
  refine a_cond _ rfl (fun h4=>?_) (fun h4=>?_)
  ·replace hM:=(of_if hM).1 h4
   refine a_seq (ar (.cons (o_build rfl rfl rfl)<|.cons (o_store rfl rfl rfl rfl rfl rfl rfl)<|.cons (o_assign rfl)<|.nil _) ?_)
   obtain rfl:=Option.some.inj hM
   exact a_ret (a_post (.r2 (.cell rfl rfl (.row _ CRow.h (Nat.le_of_ble_eq_true rfl) rfl)) (.tmp rfl)) (DLe.tup (.cons (DLe.agg (.cons (DLe.nils _) (.cons (DLe.nils _) (.cons (DLe.refl _) (.cons (DLe.refl _) .nil))))) (.cons (DLe.refl _) .nil))) PostOk.nil.spec)
  ·replace hM:=(of_if hM).2 h4
   refine a_skip ?_
   refine a_cut (α:=Unit) (fun s=>⟨[(2,.ref 2 0),(3,.ref 3 0),(4,.ref 4 0),(6,.ref 6 0)],[(2,some (.blk 137 (CPart.cs x0))),(3,some (.blk 137 (CPart.cs x1))),(4,some (.blk 137 [.nils,.nils,.bool false,.int .u64 0])),(6,some (.blk 137 [.sl 29 (List.map RRec.dv v3.1),.nils,.bool (x0.gknown || x1.gknown),.int .u64 (if x1.gtotal > x0.gtotal then x1.gtotal else x0.gtotal)]))],[2,3,4,6]⟩) (fun s=>CPart_merge_K1 x0 x1 v3 = some r) ?_ ?_
   ·refine a_seq (ar (.cons (o_fieldAddr rfl)<|.cons (o_load_s rfl rfl rfl)<|.cons (t_len rfl)<|.cons (o_assign rfl)<|.nil _) ?_)
    refine a_seq (ar (.cons (o_move rfl)<|.cons (o_int rfl rfl rfl)<|.nil _) ?_)
    refine a_cond _ rfl (fun h12=>?_) (fun h12=>?_)
    ·replace hM:=(of_if hM).1 h12
     refine a_seq ?_
     obtain ⟨v14,h13,hM⟩ := of_bind hM
     refine ar (.cons (o_fieldAddr rfl)<|.cons (o_load_s rfl rfl rfl)<|.cons (o_move rfl)<|.cons (o_int rfl rfl rfl)<|.cons (t_index h13 rfl rfl rfl)<|.cons (o_fieldAddr_e rfl rfl)<|.cons (o_load_es rfl rfl)<|.cons (o_assign rfl)<|.nil _) ?_
     refine a_seq (ar (.cons (o_move rfl)<|.cons (o_int rfl rfl rfl)<|.cons (o_move rfl)<|.cons (o_guardG .bF rfl rfl (fun hb=>(.keep .nil)) (fun hb=>o_fieldAddr rfl))<|.cons (o_guardG .bF rfl rfl (fun hb=>(.strip rfl hb .nil)) (fun hb=>o_load_s rfl rfl rfl))<|.cons (o_guardG .bF rfl rfl (fun hb=>(.strip rfl hb .nil)) (fun hb=>o_move rfl))<|.cons (o_guardG .iT rfl rfl (fun hb=>(.keep .nil)) (fun hb=>o_move rfl))<|.cons (o_guardG .iT rfl rfl (fun hb=>(.keep .nil)) (fun hb=>o_fieldAddr rfl))<|.cons (o_guardG .iT rfl rfl (fun hb=>(.strip rfl hb .nil)) (fun hb=>o_load_s rfl rfl rfl))<|.cons (o_guardG .iT rfl rfl (fun hb=>(.strip rfl hb (.strip rfl hb .nil))) (fun hb=>o_int rfl rfl rfl))<|.cons (o_guardG .bF rfl rfl (fun hb=>(.strip rfl hb (.half rfl hb .nil))) (fun hb=>o_and rfl rfl))<|.cons (o_or rfl rfl)<|.nil _) ?_)
     refine a_cond _ rfl (fun h15=>?_) (fun h15=>?_)
     ·replace hM:=(of_if hM).1 h15
      refine a_seq (ar (.cons (o_build rfl rfl rfl)<|.cons (o_store rfl rfl rfl rfl rfl rfl rfl)<|.cons (o_assign rfl)<|.nil _) ?_)
      obtain rfl:=Option.some.inj hM
      exact a_ret (a_post (.r2 (.cell rfl rfl (.row _ CRow.h (Nat.le_of_ble_eq_true rfl) rfl)) (.tmp rfl)) (DLe.tup (.cons (DLe.agg (.cons (DLe.nils _) (.cons (DLe.nils _) (.cons (DLe.refl _) (.cons (DLe.refl _) .nil))))) (.cons (DLe.refl _) .nil))) PostOk.nil.spec)
     ·replace hM:=(of_if hM).2 h15
      refine a_skip ?_
      exact ⟨(),hM,(Imp.sh (fun i=>i) rfl rfl rfl rfl rfl rfl)⟩
    ·replace hM:=(of_if hM).2 h12
     refine a_skip ?_
     exact ⟨(),hM,(Imp.sh (fun i=>i) rfl rfl rfl rfl rfl rfl)⟩
   ·rintro _ hM
    replace hM : CPart_merge_K1 x0 x1 v3 = some r:=hM
    unfold CPart_merge_K1 at hM
    refine a_seq ?_
    obtain ⟨v6,h5,hM⟩ := of_bind hM
    refine ar (.cons (o_fieldAddr rfl)<|.cons (o_load_s rfl rfl rfl)<|.cons (o_fieldAddr rfl)<|.cons (o_load_s rfl rfl rfl)<|.cons (o_call (collect_mergeSpans_c h5) rfl (DLeL.refl _) rfl)<|.cons (o_fieldAddr rfl)<|.cons (o_store_s rfl rfl rfl rfl rfl)<|.nil _) ?_
    refine a_seq (a_seq (ar (.cons (o_fieldAddr rfl)<|.cons (o_load_s rfl rfl rfl)<|.cons (t_len rfl)<|.cons (o_assign rfl)<|.nil _) ?_))
    refine a_seq ?_
    obtain ⟨v8,h7,hM⟩ := of_bind hM
    refine ad mixed (.cons (o_move rfl)<|.cons (o_int rfl rfl rfl)<|.cons (o_move rfl)<|.cons (o_guardG .bT rfl rfl (fun hb=>(.keep .nil)) (fun hb=>o_fieldAddr rfl))<|.cons (o_guardG .bT rfl rfl (fun hb=>(.strip rfl hb .nil)) (fun hb=>o_load_s rfl rfl rfl))<|.cons (o_and rfl rfl)<|.cons (o_move rfl)<|.cons (o_guardG .bT rfl rfl (fun hb=>(.keep .nil)) (fun hb=>o_fieldAddr rfl))<|.cons (o_guardG .bT rfl rfl (fun hb=>(.strip rfl hb .nil)) (fun hb=>o_load_s rfl rfl rfl))<|.cons (o_guardG .bT rfl rfl (fun hb=>(.keep .nil)) (fun hb=>o_move rfl))<|.cons (o_guardG .bT rfl rfl (fun hb=>(.strip rfl hb .nil)) (fun hb=>o_int rfl rfl rfl))<|.cons (o_guardG .bT rfl rfl (fun hb=>(.strip rfl hb (.strip rfl hb .nil))) (fun hb=>t_index (of_gb h7 hb) rfl rfl rfl))<|.cons (o_guardG .bT rfl rfl (fun hb=>(.strip rfl hb .nil)) (fun hb=>o_fieldAddr_e rfl rfl))<|.cons (o_guardG .bT rfl rfl (fun hb=>(.strip rfl hb .nil)) (fun hb=>o_load_es rfl rfl))<|.cons (o_guardG .bT rfl rfl (fun hb=>(.keep .nil)) (fun hb=>o_fieldAddr rfl))<|.cons (o_guardG .bT rfl rfl (fun hb=>(.strip rfl hb .nil)) (fun hb=>o_load_s rfl rfl rfl))<|.cons (o_guardG .bT rfl rfl (fun hb=>(.strip rfl hb (.strip rfl hb .nil))) (fun hb=>o_int rfl rfl rfl))<|.cons (o_and rfl rfl)<|.nil _) ?_
    refine a_cond _ rfl (fun h9=>?_) (fun h9=>?_)
    ·replace hM:=(of_if hM).1 h9
     refine a_seq (ar (.cons (o_build rfl rfl rfl)<|.cons (o_store rfl rfl rfl rfl rfl rfl rfl)<|.cons (o_assign rfl)<|.nil _) ?_)
     obtain rfl:=Option.some.inj hM
     exact a_ret (a_post (.r2 (.cell rfl rfl (.row _ CRow.h (Nat.le_of_ble_eq_true rfl) rfl)) (.tmp rfl)) (DLe.tup (.cons (DLe.agg (.cons (DLe.nils _) (.cons (DLe.nils _) (.cons (DLe.refl _) (.cons (DLe.refl _) .nil))))) (.cons (DLe.refl _) .nil))) PostOk.nil.spec)
    ·replace hM:=(of_if hM).2 h9
     refine a_skip (a_seq ?_)
     obtain ⟨v11,h10,hM⟩ := of_bind hM
     refine ar (.cons (o_fieldAddr rfl)<|.cons (o_load_s rfl rfl rfl)<|.cons (o_fieldAddr rfl)<|.cons (o_load_s rfl rfl rfl)<|.cons (o_call (collect_without_c h10) rfl (DLeL.refl _) rfl)<|.cons (o_fieldAddr rfl)<|.cons (o_store_s rfl rfl rfl rfl rfl)<|.nil _) ?_
     refine a_seq (ar (.cons (o_load_r rfl rfl rfl rfl)<|.cons (o_store rfl rfl rfl rfl rfl rfl rfl)<|.cons (o_assign rfl)<|.nil _) ?_)
     obtain rfl:=Option.some.inj hM
     exact a_ret (a_post (.r2 (.cell rfl rfl (.row _ CRow.h (Nat.le_of_ble_eq_true rfl) rfl)) (.tmp rfl)) (DLe.refl _) PostOk.nil.spec)
def VClk_Tick_K1 (a1 : Nat→Int) : Option VClk :=
 some (VClk.mk a1)
def VClk_Tick (x0 : VClk) (x1 : Int) : Option VClk :=
 chk (((decide (0≤x1)) && (decide (x1 < 16))) = true→inA 16 x1)<|
 if (((decide (0≤x1)) && (decide (x1 < 16))) && (decide ((x0.gat (Int.toNat x1)) < 18446744073709551615))) = true then
  chk (inA 16 x1)<|
  chk (inA 16 x1)<|
  VClk_Tick_K1 (upd x0.gat (Int.toNat x1) (IntKind.wrap .u64 ((x0.gat (Int.toNat x1)) + 1)))
 else
  VClk_Tick_K1 x0.gat
theorem VClk_Tick_c {x0 : VClk} {x1 : Int} {r : VClk} (hM : VClk_Tick x0 x1 = some r) : PCall Tryz.prog 108 [.agg (VClk.cs x0),.int .i64 x1] (.agg (VClk.cs r)):=by
 unfold VClk_Tick at hM
 refine PCall.body Tryz.func108 Tryz.ntmps108 rfl rfl rfl rfl ?_
 refine a_seq (ar (.cons (o_box rfl rfl)<|.cons (o_alloc rfl)<|.nil _) ?_)
 refine a_cut (α:=(Nat→Int)) (fun s=>⟨[(2,.ref 2 0),(4,.ref 4 0)],[(2,some (.blk 45 (VClk.cs (VClk.mk s)))),(4,some (.blk 45 (VClk.cs (VClk.mk (arr 0 [0,0,0,0,0,0,0,0,0,0,0,0,0,0,0,0])))))],[2,4]⟩) (fun s=>VClk_Tick_K1 s = some r) ?_ ?_
 ·refine a_seq ?_
  obtain ⟨h2,hM⟩ := of_chk hM
  refine ar (.cons (o_move rfl)<|.cons (o_int rfl rfl rfl)<|.cons (o_move rfl)<|.cons (o_guardG .bT rfl rfl (fun hb=>(.keep .nil)) (fun hb=>o_move rfl))<|.cons (o_guardG .bT rfl rfl (fun hb=>(.strip rfl hb .nil)) (fun hb=>o_int rfl rfl rfl))<|.cons (o_and rfl rfl)<|.cons (o_move rfl)<|.cons (o_guardG .bT rfl rfl (fun hb=>(.keep .nil)) (fun hb=>o_move rfl))<|.cons (o_guardG .bT rfl rfl (fun hb=>(.keep .nil)) (fun hb=>o_fieldAddr rfl))<|.cons (o_guardG .bT rfl rfl (fun hb=>(.strip rfl hb (.strip rfl hb .nil))) (fun hb=>t_index_d (h2 hb) rfl rfl))<|.cons (o_guardG .bT rfl rfl (fun hb=>(.strip rfl hb .nil)) (fun hb=>o_load_s rfl rfl (arr_get1 (DV.int .u64) x0.gat (h2 hb) rfl)))<|.cons (o_guardG .bT rfl rfl (fun hb=>(.strip rfl hb .nil)) (fun hb=>o_int rfl rfl rfl))<|.cons (o_and rfl rfl)<|.nil _) ?_
  refine a_cond _ rfl (fun h3=>?_) (fun h3=>?_)
  ·replace hM:=(of_if hM).1 h3
   obtain ⟨h4,hM⟩ := of_chk hM
   obtain ⟨h5,hM⟩ := of_chk hM
   refine ar (.cons (o_move rfl)<|.cons (o_fieldAddr rfl)<|.cons (t_index_d h4 rfl rfl)<|.cons (o_load_s rfl rfl (arr_get1 (DV.int .u64) x0.gat h4 rfl))<|.cons (o_int rfl rfl rfl)<|.cons (o_fieldAddr rfl)<|.cons (t_index_d h5 rfl rfl)<|.cons (o_store rfl rfl rfl rfl rfl (arr_ble (fun x=>[(DV.int .u64) x]) x0.gat (fun _=>rfl) (by decide) h5 rfl 0 1 (by decide)) (arr_set (ds' := [.int .u64 ((upd x0.gat (Int.toNat x1) (IntKind.wrap .u64 ((x0.gat (Int.toNat x1)) + 1))) 0),.int .u64 ((upd x0.gat (Int.toNat x1) (IntKind.wrap .u64 ((x0.gat (Int.toNat x1)) + 1))) 1),.int .u64 ((upd x0.gat (Int.toNat x1) (IntKind.wrap .u64 ((x0.gat (Int.toNat x1)) + 1))) 2),.int .u64 ((upd x0.gat (Int.toNat x1) (IntKind.wrap .u64 ((x0.gat (Int.toNat x1)) + 1))) 3),.int .u64 ((upd x0.gat (Int.toNat x1) (IntKind.wrap .u64 ((x0.gat (Int.toNat x1)) + 1))) 4),.int .u64 ((upd x0.gat (Int.toNat x1) (IntKind.wrap .u64 ((x0.gat (Int.toNat x1)) + 1))) 5),.int .u64 ((upd x0.gat (Int.toNat x1) (IntKind.wrap .u64 ((x0.gat (Int.toNat x1)) + 1))) 6),.int .u64 ((upd x0.gat (Int.toNat x1) (IntKind.wrap .u64 ((x0.gat (Int.toNat x1)) + 1))) 7),.int .u64 ((upd x0.gat (Int.toNat x1) (IntKind.wrap .u64 ((x0.gat (Int.toNat x1)) + 1))) 8),.int .u64 ((upd x0.gat (Int.toNat x1) (IntKind.wrap .u64 ((x0.gat (Int.toNat x1)) + 1))) 9),.int .u64 ((upd x0.gat (Int.toNat x1) (IntKind.wrap .u64 ((x0.gat (Int.toNat x1)) + 1))) 10),.int .u64 ((upd x0.gat (Int.toNat x1) (IntKind.wrap .u64 ((x0.gat (Int.toNat x1)) + 1))) 11),.int .u64 ((upd x0.gat (Int.toNat x1) (IntKind.wrap .u64 ((x0.gat (Int.toNat x1)) + 1))) 12),.int .u64 ((upd x0.gat (Int.toNat x1) (IntKind.wrap .u64 ((x0.gat (Int.toNat x1)) + 1))) 13),.int .u64 ((upd x0.gat (Int.toNat x1) (IntKind.wrap .u64 ((x0.gat (Int.toNat x1)) + 1))) 14),.int .u64 ((upd x0.gat (Int.toNat x1) (IntKind.wrap .u64 ((x0.gat (Int.toNat x1)) + 1))) 15)]) (fun x=>[(DV.int .u64) x]) x0.gat (IntKind.wrap .u64 ((x0.gat (Int.toNat x1)) + 1)) (fun _=>rfl) (by decide) h5 rfl 0 (Nat.le_of_ble_eq_true rfl) rfl rfl rfl rfl))<|.nil _) ?_
   exact ⟨(upd x0.gat (Int.toNat x1) (IntKind.wrap .u64 ((x0.gat (Int.toNat x1)) + 1))),hM,(Imp.sh (fun i=>i) rfl rfl rfl rfl rfl rfl)⟩
  ·replace hM:=(of_if hM).2 h3
   refine a_skip ?_
   exact ⟨x0.gat,hM,(Imp.sh (fun i=>i) rfl rfl rfl rfl rfl rfl)⟩
 ·rintro a1 hM
  replace hM : VClk_Tick_K1 a1 = some r:=hM
  unfold VClk_Tick_K1 at hM
  refine a_seq (ar (.cons (o_load_r rfl rfl rfl rfl)<|.cons (o_store rfl rfl rfl rfl rfl rfl rfl)<|.nil _) ?_)
  obtain rfl:=Option.some.inj hM
  exact a_ret (a_post (.r1 (.cell rfl rfl (.row _ CRow.h (Nat.le_of_ble_eq_true rfl) rfl))) (DLe.refl _) PostOk.nil.spec)
def w30_Raw_make (x0 : w30_Raw) (x1 : Int) : Option (RRec × e30_Record) :=
 chk ((0 : Int)≤x0.gSeq∧(0 : Int) < 40)<|
 chk ((0 : Int)≤x0.gWhat∧(0 : Int) < 4)<|
 if ((x0.gWhat % 4) == 2) = true then
  chk ((0 : Int)≤x0.gCount∧(0 : Int) < 8)<|
  some ((RRec.mk x1 (IntKind.wrap .u64 (IntKind.wrap .i64 (x0.gSeq % 40))) (VClk.mk (arr 0 [0,0,0,0,0,0,0,0,0,0,0,0,0,0,0,0])) 2 (AEv.mk 0 0 0 0 0 0 0 0 []) (IntKind.wrap .u64 (IntKind.wrap .i64 (1 + (IntKind.wrap .i64 (x0.gCount % 8)))))),(e30_Record.mk 2 (IntKind.wrap .i64 (x0.gSeq % 40)) 0 (IntKind.wrap .i64 (1 + (IntKind.wrap .i64 (x0.gCount % 8))))))
 else
  if ((x0.gWhat % 4) == 3) = true then
   some ((RRec.mk x1 (IntKind.wrap .u64 (IntKind.wrap .i64 (x0.gSeq % 40))) (VClk.mk (arr 0 [0,0,0,0,0,0,0,0,0,0,0,0,0,0,0,0])) 3 (AEv.mk 0 0 0 0 0 0 0 0 []) 0),(e30_Record.mk 3 (IntKind.wrap .i64 (x0.gSeq % 40)) 0 0))
  else
   chk ((0 : Int)≤x0.gId∧(0 : Int) < 3)<|
   (VClk_Tick (VClk.mk (arr 0 [0,0,0,0,0,0,0,0,0,0,0,0,0,0,0,0])) x1).bind fun v8=>
   some ((RRec.mk x1 (IntKind.wrap .u64 (IntKind.wrap .i64 (x0.gSeq % 40))) v8 1 (AEv.mk (IntKind.wrap .i64 (x0.gSeq % 40)) x1 3 0 (IntKind.wrap .i64 (1 + (IntKind.wrap .i64 (x0.gId % 3)))) 0 0 0 []) 0),(e30_Record.mk 1 (IntKind.wrap .i64 (x0.gSeq % 40)) (IntKind.wrap .i64 (1 + (IntKind.wrap .i64 (x0.gId % 3)))) 0))
theorem w30_Raw_make_c {x0 : w30_Raw} {x1 : Int} {r : RRec × e30_Record} (hM : w30_Raw_make x0 x1 = some r) : PCall Tryz.prog 60 [.agg (w30_Raw.cs x0),.int .i64 x1] (.tup [.agg (RRec.cs r.1),.agg (e30_Record.cs r.2)]):=by
 unfold w30_Raw_make at hM
 refine PCall.body Tryz.func60 Tryz.ntmps60 rfl rfl rfl rfl ?_
 refine a_seq (ar (.cons (o_box rfl rfl)<|.cons (o_alloc rfl)<|.cons (o_alloc rfl)<|.nil _) ?_)
 refine a_seq ?_
 obtain ⟨h1,hM⟩ := of_chk hM
 refine ar (.cons (o_fieldAddr rfl)<|.cons (o_load_s rfl rfl rfl)<|.cons (o_rem rfl rfl h1)<|.cons (o_conv_w rfl)<|.cons (o_assign rfl)<|.nil _) ?_
 refine a_seq (ar (.cons (o_move rfl)<|.cons (o_move rfl)<|.cons (o_conv_w rfl)<|.cons (o_build rfl rfl rfl)<|.cons (o_alloc rfl)<|.cons (o_store rfl rfl rfl rfl rfl rfl rfl)<|.nil _) ?_)
 refine a_seq (a_seq ?_)
 obtain ⟨h2,hM⟩ := of_chk hM
 refine ar (.cons (o_fieldAddr rfl)<|.cons (o_load_s rfl rfl rfl)<|.cons (o_rem rfl rfl h2)<|.nil _) ?_
 refine a_block (a_seq (ar (.cons (o_int rfl rfl rfl)<|.cons (o_assign rfl)<|.nil _) ?_))
 refine a_cond _ rfl (fun h3=>?_) (fun h3=>?_)
 ·replace hM:=(of_if hM).1 h3
  refine a_seq ?_
  obtain ⟨h4,hM⟩ := of_chk hM
  refine ar (.cons (o_fieldAddr rfl)<|.cons (o_load_s rfl rfl rfl)<|.cons (o_rem rfl rfl h4)<|.cons (o_conv_w rfl)<|.cons (o_int rfl rfl rfl)<|.cons (o_assign rfl)<|.nil _) ?_
  refine a_seq (ar (.cons (o_move rfl)<|.cons (o_conv_w rfl)<|.cons (o_fieldAddr rfl)<|.cons (o_store_s rfl rfl rfl rfl rfl)<|.cons (o_fieldAddr rfl)<|.cons (o_store_s rfl rfl rfl rfl rfl)<|.nil _) ?_)
  refine a_seq (ar (.cons (o_load_r rfl rfl rfl rfl)<|.cons (o_move rfl)<|.cons (o_move rfl)<|.cons (o_build rfl rfl rfl)<|.cons (o_store rfl rfl rfl rfl rfl rfl rfl)<|.cons (o_store rfl rfl rfl rfl rfl rfl rfl)<|.nil _) ?_)
  obtain rfl:=Option.some.inj hM
  exact a_ret (a_post (.r2 (.cell rfl rfl (.row _ CRow.h (Nat.le_of_ble_eq_true rfl) rfl)) (.cell rfl rfl (.row _ CRow.h (Nat.le_of_ble_eq_true rfl) rfl))) (DLe.tup (.cons (DLe.agg (.cons (DLe.refl _) (.cons (DLe.refl _) (.cons (DLe.refl _) (.cons (DLe.refl _) (.cons (DLe.refl _) (.cons (DLe.refl _) (.cons (DLe.refl _) (.cons (DLe.refl _) (.cons (DLe.refl _) (.cons (DLe.refl _) (.cons (DLe.refl _) (.cons (DLe.refl _) (.cons (DLe.refl _) (.cons (DLe.refl _) (.cons (DLe.refl _) (.cons (DLe.refl _) (.cons (DLe.refl _) (.cons (DLe.refl _) (.cons (DLe.refl _) (.cons (DLe.refl _) (.cons (DLe.refl _) (.cons (DLe.refl _) (.cons (DLe.refl _) (.cons (DLe.refl _) (.cons (DLe.refl _) (.cons (DLe.refl _) (.cons (DLe.refl _) (.cons (DLe.nils _) (.cons (DLe.refl _) .nil)))))))))))))))))))))))))))))) (.cons (DLe.refl _) .nil))) PostOk.nil.spec)
 ·replace hM:=(of_if hM).2 h3
  refine a_seq (ar (.cons (o_int rfl rfl rfl)<|.cons (o_assign rfl)<|.nil _) ?_)
  refine a_cond _ rfl (fun h5=>?_) (fun h5=>?_)
  ·replace hM:=(of_if hM).1 h5
   refine a_seq (ar (.cons (o_fieldAddr rfl)<|.cons (o_store_s rfl rfl rfl rfl rfl)<|.nil _) ?_)
   refine a_seq (ar (.cons (o_load_r rfl rfl rfl rfl)<|.cons (o_move rfl)<|.cons (o_build rfl rfl rfl)<|.cons (o_store rfl rfl rfl rfl rfl rfl rfl)<|.cons (o_store rfl rfl rfl rfl rfl rfl rfl)<|.nil _) ?_)
   obtain rfl:=Option.some.inj hM
   exact a_ret (a_post (.r2 (.cell rfl rfl (.row _ CRow.h (Nat.le_of_ble_eq_true rfl) rfl)) (.cell rfl rfl (.row _ CRow.h (Nat.le_of_ble_eq_true rfl) rfl))) (DLe.tup (.cons (DLe.agg (.cons (DLe.refl _) (.cons (DLe.refl _) (.cons (DLe.refl _) (.cons (DLe.refl _) (.cons (DLe.refl _) (.cons (DLe.refl _) (.cons (DLe.refl _) (.cons (DLe.refl _) (.cons (DLe.refl _) (.cons (DLe.refl _) (.cons (DLe.refl _) (.cons (DLe.refl _) (.cons (DLe.refl _) (.cons (DLe.refl _) (.cons (DLe.refl _) (.cons (DLe.refl _) (.cons (DLe.refl _) (.cons (DLe.refl _) (.cons (DLe.refl _) (.cons (DLe.refl _) (.cons (DLe.refl _) (.cons (DLe.refl _) (.cons (DLe.refl _) (.cons (DLe.refl _) (.cons (DLe.refl _) (.cons (DLe.refl _) (.cons (DLe.refl _) (.cons (DLe.nils _) (.cons (DLe.refl _) .nil)))))))))))))))))))))))))))))) (.cons (DLe.refl _) .nil))) PostOk.nil.spec)
  ·replace hM:=(of_if hM).2 h5
   refine a_skip (a_seq ?_)
   obtain ⟨h6,hM⟩ := of_chk hM
   refine ar (.cons (o_fieldAddr rfl)<|.cons (o_load_s rfl rfl rfl)<|.cons (o_rem rfl rfl h6)<|.cons (o_conv_w rfl)<|.cons (o_int rfl rfl rfl)<|.cons (o_assign rfl)<|.nil _) ?_
   refine a_seq ?_
   obtain ⟨v8,h7,hM⟩ := of_bind hM
   refine ar (.cons (o_build rfl rfl rfl)<|.cons (o_move rfl)<|.cons (o_call (VClk_Tick_c h7) rfl (DLeL.refl _) rfl)<|.cons (o_fieldAddr rfl)<|.cons (o_store rfl rfl rfl rfl rfl rfl rfl)<|.nil _) ?_
   refine a_seq (ar (.cons (o_move rfl)<|.cons (o_move rfl)<|.cons (o_move rfl)<|.cons (o_build rfl rfl rfl)<|.cons (o_fieldAddr rfl)<|.cons (o_store rfl rfl rfl rfl rfl rfl rfl)<|.nil _) ?_)
   refine a_seq (ar (.cons (o_load_r rfl rfl rfl rfl)<|.cons (o_move rfl)<|.cons (o_move rfl)<|.cons (o_build rfl rfl rfl)<|.cons (o_store rfl rfl rfl rfl rfl rfl rfl)<|.cons (o_store rfl rfl rfl rfl rfl rfl rfl)<|.nil _) ?_)
   obtain rfl:=Option.some.inj hM
   exact a_ret (a_post (.r2 (.cell rfl rfl (.row _ CRow.h (Nat.le_of_ble_eq_true rfl) rfl)) (.cell rfl rfl (.row _ CRow.h (Nat.le_of_ble_eq_true rfl) rfl))) (DLe.tup (.cons (DLe.agg (.cons (DLe.refl _) (.cons (DLe.refl _) (.cons (DLe.refl _) (.cons (DLe.refl _) (.cons (DLe.refl _) (.cons (DLe.refl _) (.cons (DLe.refl _) (.cons (DLe.refl _) (.cons (DLe.refl _) (.cons (DLe.refl _) (.cons (DLe.refl _) (.cons (DLe.refl _) (.cons (DLe.refl _) (.cons (DLe.refl _) (.cons (DLe.refl _) (.cons (DLe.refl _) (.cons (DLe.refl _) (.cons (DLe.refl _) (.cons (DLe.refl _) (.cons (DLe.refl _) (.cons (DLe.refl _) (.cons (DLe.refl _) (.cons (DLe.refl _) (.cons (DLe.refl _) (.cons (DLe.refl _) (.cons (DLe.refl _) (.cons (DLe.refl _) (.cons (DLe.nils _) (.cons (DLe.refl _) .nil)))))))))))))))))))))))))))))) (.cons (DLe.refl _) .nil))) PostOk.nil.spec)
def w30_File_bytes_K1 (x0 : w30_File) (x1 : Int) (a2 : List Int) (a3 : List e30_Record) : Option (Int × (List Int) × (List e30_Record)) :=
 some (((IntKind.wrap .i64 x0.gComponent) % (IntKind.wrap .i64 (x1 + 1))),a2,a3)
def w30_File_bytes_L2 (x0 : w30_File) (x1 : Int) (a4 : List Int) (a5 : List e30_Record) (a6 : Int) : Option (Ctl ((List Int) × (List e30_Record) × Int) (((List Int) × (List e30_Record)) ⊕ (Int × (List Int) × (List e30_Record)))) :=
 if ((decide (a6 < (List.length x0.gRecords : Int))) && (decide (a6 < 12))) = true then
  (idx x0.gRecords a6).bind fun v11=>
  (w30_Raw_make v11 ((IntKind.wrap .i64 x0.gComponent) % (IntKind.wrap .i64 (x1 + 1)))).bind fun v13=>
  (RRec_Bytes v13.1).bind fun v15=>
  (frame_Append a4 v15).bind fun v17=>
  if (v17.2 != 0) = true then
   some (.done (.inr (((IntKind.wrap .i64 x0.gComponent) % (IntKind.wrap .i64 (x1 + 1))),([] : List Int),([] : List e30_Record))))
  else
   chk (apOk 32 (List.length a5 + List.length [v13.2]))<|
   some (.next (v17.1,(a5++[v13.2]),(IntKind.wrap .i64 (a6 + 1))))
 else
  some (.done (.inl (a4,a5)))
def w30_File_bytes (x0 : w30_File) (x1 : Int) : Option (Int × (List Int) × (List e30_Record)) :=
 chk ((0 : Int)≤(IntKind.wrap .i64 x0.gComponent)∧(0 : Int) < (IntKind.wrap .i64 (x1 + 1)))<|
 (whileM (E:=((List Int) × (List e30_Record)) ⊕ (Int × (List Int) × (List e30_Record))) (fun s=>w30_File_bytes_L2 x0 x1 s.1 s.2.1 s.2.2) (([] : List Int),([] : List e30_Record),0)).bind fun
  | .inl e=>w30_File_bytes_K1 x0 x1 e.1 e.2
  | .inr r=>some r
theorem w30_File_bytes_c {x0 : w30_File} {x1 : Int} {r : Int × (List Int) × (List e30_Record)} (hM : w30_File_bytes x0 x1 = some r) : ACall Tryz.prog 18 ⟨[.agg [.int .u8 x0.gComponent,.sl 4 (List.map w30_Raw.dv x0.gRecords)],.int .i64 x1],[],.tup [.int .i64 r.1,.row 50000,.row 50001],[(50000,some (.row 5 1 (List.map (DV.int .u8) r.2.1))),(50001,some (.row 56 4 (List.map e30_Record.dv r.2.2)))],[50000,50001]⟩ := by
 unfold w30_File_bytes at hM
 refine ACall.body Tryz.func18 Tryz.ntmps18 rfl rfl rfl rfl ?_
 refine a_seq (ar (.cons (o_box rfl rfl)<|.cons (o_assign rfl)<|.cons (o_assign rfl)<|.cons (o_assign rfl)<|.nil _) ?_)
 refine a_seq ?_
 obtain ⟨h1,hM⟩ := of_chk hM
 refine ar (.cons (o_fieldAddr rfl)<|.cons (o_load_s rfl rfl rfl)<|.cons (o_conv_w rfl)<|.cons (o_move rfl)<|.cons (o_int rfl rfl rfl)<|.cons (o_rem rfl rfl h1)<|.cons (o_assign rfl)<|.nil _) ?_
 refine a_seq (ar (.cons (o_assign rfl)<|.nil _) ?_)
 refine a_seq (ar (.cons (o_assign rfl)<|.nil _) ?_)
 refine a_cut (α:=(List Int) × (List e30_Record)) (fun s=>⟨[(7,.int .i64 ((IntKind.wrap .i64 x0.gComponent) % (IntKind.wrap .i64 (x1 + 1)))),(8,.row 10001),(9,.row 10002)],[(10001,some (.row 5 1 (List.map (DV.int .u8) s.1))),(10002,some (.row 56 4 (List.map e30_Record.dv s.2)))],[10001,10002]⟩) (fun s=>w30_File_bytes_K1 x0 x1 s.1 s.2 = some r) ?_ ?_
 ·refine a_seq (ar (.cons (o_assign rfl)<|.nil _) ?_)
  obtain ⟨e7,hL7,hK7⟩ := of_bind hM
  refine a_block (a_while (fun s : (List Int) × (List e30_Record) × Int=>⟨[(2,.ref 2 0),(7,.int .i64 ((IntKind.wrap .i64 x0.gComponent) % (IntKind.wrap .i64 (x1 + 1)))),(8,.row 10003),(9,.row 10004),(10,.int .i64 s.2.2)],[(2,some (.blk 33 [.int .u8 x0.gComponent,.sl 4 (List.map w30_Raw.dv x0.gRecords)])),(10003,some (.row 5 1 (List.map (DV.int .u8) s.1))),(10004,some (.row 56 4 (List.map e30_Record.dv s.2.1)))],[2,10003,10004]⟩) _ hL7 ((Imp.nilRow (t:=8) (id:=10006) 5 1 rfl rfl).trans ((Imp.nilRow (t:=9) (id:=10007) 56 4 rfl rfl).trans (Imp.sh (fun i=>bif Nat.beq i 10004 then 10007 else bif Nat.beq i 10003 then 10006 else i) rfl rfl rfl rfl rfl rfl))) ?_)
  rintro ⟨a4,a5,a6⟩ t8 hM hE7
  replace hM : w30_File_bytes_L2 x0 x1 a4 a5 a6 = some t8:=hM
  unfold w30_File_bytes_L2 at hM
  refine a_seq (a_seq (ar (.cons (o_move rfl)<|.cons (o_fieldAddr rfl)<|.cons (o_load_s rfl rfl rfl)<|.cons (t_len rfl)<|.cons (o_int rfl rfl rfl)<|.cons (o_move rfl)<|.cons (o_guardG .bT rfl rfl (fun hb=>(.keep .nil)) (fun hb=>o_move rfl))<|.cons (o_guardG .bT rfl rfl (fun hb=>(.strip rfl hb .nil)) (fun hb=>o_int rfl rfl rfl))<|.cons (o_and rfl rfl)<|.nil _) ?_))
  refine a_cond _ rfl (fun h9=>?_) (fun h9=>?_)
  ·replace hM:=(of_if hM).1 h9
   refine a_skip (a_seq (a_block (a_seq ?_)))
   obtain ⟨v11,h10,hM⟩ := of_bind hM
   obtain ⟨v13,h12,hM⟩ := of_bind hM
   refine ar (.cons (o_fieldAddr rfl)<|.cons (o_load_s rfl rfl rfl)<|.cons (o_move rfl)<|.cons (t_index h10 rfl rfl rfl)<|.cons (o_load_er rfl rfl rfl)<|.cons (o_move rfl)<|.cons (o_call (w30_Raw_make_c h12) rfl (DLeL.refl _) rfl)<|.cons (o_move rfl)<|.cons (o_extract rfl rfl)<|.cons (o_extract rfl rfl)<|.cons (o_alloc rfl)<|.cons (o_alloc rfl)<|.cons (o_store rfl rfl rfl rfl rfl rfl rfl)<|.cons (o_store rfl rfl rfl rfl rfl rfl rfl)<|.nil _) ?_
   refine a_seq (a_imp (Imp.freeze (id:=10003) rfl) ?_)
   obtain ⟨v15,h14,hM⟩ := of_bind hM
   obtain ⟨v17,h16,hM⟩ := of_bind hM
   refine ar (.cons (o_move rfl)<|.cons (o_load_r rfl rfl rfl rfl)<|.cons (o_call (RRec_Bytes_c h14) rfl (DLeL.refl _) rfl)<|.cons (o_callN (fun i=>bif Nat.beq i 50000 then 10005 else i) 1 (frame_Append_c h16) rfl (DLeL.refl _) .nil rfl .nil)<|.cons (o_move rfl)<|.cons (o_extract rfl rfl)<|.cons (o_extract rfl rfl)<|.cons (o_assign rfl)<|.cons (o_assign rfl)<|.nil _) ?_
   refine a_seq (a_seq (ar (.cons (o_move rfl)<|.cons (o_int rfl rfl rfl)<|.nil _) ?_))
   refine a_cond _ rfl (fun h18=>?_) (fun h18=>?_)
   ·replace hM:=(of_if hM).1 h18
    refine a_seq (ar (.cons (o_move rfl)<|.cons (o_assign rfl)<|.cons (o_assign rfl)<|.cons (o_assign rfl)<|.nil _) ?_)
    obtain rfl:=Option.some.inj hM
    obtain rfl:=hE7 _ rfl
    obtain rfl:=Option.some.inj hK7
    refine a_imp (Imp.nilRow (t:=5) (id:=49005) 5 1 rfl rfl) ?_
    refine a_imp (Imp.nilRow (t:=6) (id:=49006) 56 4 rfl rfl) ?_
    refine a_imp (σ' := ⟨[(4,.int .i64 ((IntKind.wrap .i64 x0.gComponent) % (IntKind.wrap .i64 (x1 + 1)))),(5,.row 50000),(6,.row 50001)],[(50000,some (.row 5 1 (List.map (DV.int .u8) ([] : List Int)))),(50001,some (.row 56 4 (List.map e30_Record.dv ([] : List e30_Record))))],[50000,50001]⟩) (Imp.sh (fun i=>bif Nat.beq i 50001 then 49006 else bif Nat.beq i 50000 then 49005 else i) rfl rfl rfl rfl rfl rfl) ?_
    exact a_ret (a_post (.r3 (.tmp rfl) (.tmp rfl) (.tmp rfl)) (DLe.refl _) (PostOk.spec (.cons rfl (.cons rfl .nil))))
   ·replace hM:=(of_if hM).2 h18
    refine a_skip (a_seq (ar (.cons (o_move rfl)<|.cons (o_assign rfl)<|.nil _) ?_))
    obtain ⟨h19,hM⟩ := of_chk hM
    refine ar (.cons (o_move rfl)<|.cons (o_load_r rfl rfl rfl rfl)<|.cons (t_build e30_Record.dv ([v13.2] : List e30_Record) rfl rfl rfl rfl rfl rfl rfl)<|.cons (t_append [v13.2] h19 rfl rfl rfl (Src.row rfl))<|.cons (o_assign rfl)<|.nil _) ?_
    refine ar (.cons (o_move rfl)<|.cons (o_int rfl rfl rfl)<|.cons (o_assign rfl)<|.nil _) ?_
    obtain rfl:=Option.some.inj hM
    exact ⟨(v17.1,(a5++[v13.2]),(IntKind.wrap .i64 (a6 + 1))),rfl,(Imp.sh (fun i=>bif Nat.beq i 10004 then 56 else bif Nat.beq i 10003 then 10005 else i) rfl rfl rfl rfl rfl rfl)⟩
  ·replace hM:=(of_if hM).2 h9
   refine a_exit ?_
   obtain rfl:=Option.some.inj hM
   obtain rfl:=hE7 _ rfl
   exact ⟨(a4,a5),hK7,(Imp.sh (fun i=>bif Nat.beq i 10002 then 10004 else bif Nat.beq i 10001 then 10003 else i) rfl rfl rfl rfl rfl rfl)⟩
 ·rintro ⟨a2,a3⟩ hM
  replace hM : w30_File_bytes_K1 x0 x1 a2 a3 = some r:=hM
  unfold w30_File_bytes_K1 at hM
  refine a_seq (ar (.cons (o_move rfl)<|.cons (o_move rfl)<|.cons (o_move rfl)<|.cons (o_assign rfl)<|.cons (o_assign rfl)<|.cons (o_assign rfl)<|.nil _) ?_)
  obtain rfl:=Option.some.inj hM
  refine a_imp (σ' := ⟨[(4,.int .i64 ((IntKind.wrap .i64 x0.gComponent) % (IntKind.wrap .i64 (x1 + 1)))),(5,.row 50000),(6,.row 50001)],[(50000,some (.row 5 1 (List.map (DV.int .u8) a2))),(50001,some (.row 56 4 (List.map e30_Record.dv a3)))],[50000,50001]⟩) (Imp.sh (fun i=>bif Nat.beq i 50001 then 10002 else bif Nat.beq i 50000 then 10001 else i) rfl rfl rfl rfl rfl rfl) ?_
  exact a_ret (a_post (.r3 (.tmp rfl) (.tmp rfl) (.tmp rfl)) (DLe.refl _) (PostOk.spec (.cons rfl (.cons rfl .nil))))
def CColl_Add_a (x1 : Int) (x2 : List Int) (o0 : CColl) : Option (Int × CColl) :=
 if ((decide (x1 < 0)) || (decide ((List.length o0.gparts : Int)≤x1))) = true then
  some (1,o0)
 else
  (recorder_Read x2).bind fun v3=>
  (CPartOf v3.1 x1).bind fun v5=>
  if (!v5.2) = true then
   some (14,o0)
  else
   (idx o0.gparts x1).bind fun v8=>
   (CPart_merge v8 v5.1).bind fun v10=>
   if (!v10.2) = true then
    some (14,o0)
   else
    (idx o0.gparts x1).bind fun v13=>
    some (0,(CColl.mk (List.set o0.gparts (Int.toNat x1) v10.1)))
theorem CColl_Add_a_c {x1 : Int} {x2 : List Int} {o0 : CColl} {r : Int × CColl} (hM : CColl_Add_a x1 x2 o0 = some r) : ACall Tryz.prog 20 ⟨[.ref 100000 0,.int .i64 x1,.sl 1 (List.map (DV.int .u8) x2)],[(100000,some (.blk 134 [.row 100001])),(100001,some (.row 137 4 (List.map CPart.dv o0.gparts)))],.int .i64 r.1,[(100000,some (.blk 134 [.row 50000])),(50000,some (.row 137 4 (List.map CPart.dv r.2.gparts))),(100001,none)],[50000]⟩ := by
 unfold CColl_Add_a at hM
 refine ACall.body Tryz.func20 Tryz.ntmps20 rfl rfl rfl rfl ?_
 refine a_seq (ar (.cons (o_assign rfl)<|.nil _) ?_)
 refine a_seq (a_seq (ar (.cons (o_move rfl)<|.cons (o_ptr_eq rfl)<|.cons (o_move rfl)<|.cons (o_guardOn .bF rfl rfl rfl (.keep .nil) (o_move rfl))<|.cons (o_guardOn .bF rfl rfl rfl (.strip rfl rfl .nil) (o_int rfl rfl rfl))<|.cons (o_or rfl rfl)<|.cons (o_move rfl)<|.cons (o_guardG .bF rfl rfl (fun hb=>(.keep .nil)) (fun hb=>o_move rfl))<|.cons (o_guardG .bF rfl rfl (fun hb=>(.keep .nil)) (fun hb=>o_move rfl))<|.cons (o_guardG .bF rfl rfl (fun hb=>(.strip rfl hb .nil)) (fun hb=>o_nilCheck rfl))<|.cons (o_guardG .bF rfl rfl (fun hb=>(.strip rfl hb .nil)) (fun hb=>o_fieldAddr rfl))<|.cons (o_guardG .bF rfl rfl (fun hb=>(.strip rfl hb .nil)) (fun hb=>o_load_s rfl rfl rfl))<|.cons (o_guardG .bF rfl rfl (fun hb=>(.strip rfl hb .nil)) (fun hb=>t_len_r rfl rfl))<|.cons (o_guardG .bF rfl rfl (fun hb=>(.strip rfl hb (.strip rfl hb .nil))) (fun hb=>o_int rfl rfl rfl))<|.cons (o_or rfl rfl)<|.nil _) ?_))
 refine a_cond _ rfl (fun h1=>?_) (fun h1=>?_)
 ·replace hM:=(of_if hM).1 h1
  refine a_seq (ar (.cons (o_assign rfl)<|.nil _) ?_)
  obtain rfl:=Option.some.inj hM
  refine a_imp (σ' := ⟨[(6,.int .i64 1)],[(50000,some (.row 137 4 (List.map CPart.dv o0.gparts))),(100000,some (.blk 134 [.row 50000]))],[50000,100000,100001]⟩) (Imp.sh (fun i=>bif Nat.beq i 50000 then 100001 else i) rfl rfl rfl rfl rfl rfl) ?_
  exact a_ret (a_post (.r1 (.tmp rfl)) (DLe.refl _) (PostOk.spec (.cons rfl (.cons rfl (.gone .nil)))))
 ·replace hM:=(of_if hM).2 h1
  refine a_skip (a_seq ?_)
  obtain ⟨v3,h2,hM⟩ := of_bind hM
  refine ar (.cons (o_move rfl)<|.cons (o_call (recorder_Read_c h2) rfl (DLeL.refl _) rfl)<|.cons (o_move rfl)<|.cons (o_extract rfl rfl)<|.cons (o_extract rfl rfl)<|.cons (o_assign rfl)<|.cons (o_assign rfl)<|.nil _) ?_
  refine a_seq ?_
  obtain ⟨v5,h4,hM⟩ := of_bind hM
  refine ar (.cons (o_move rfl)<|.cons (o_move rfl)<|.cons (o_call (CPartOf_c h4) rfl (DLeL.refl _) rfl)<|.cons (o_move rfl)<|.cons (o_extract rfl rfl)<|.cons (o_extract rfl rfl)<|.cons (o_alloc rfl)<|.cons (o_store rfl rfl rfl rfl rfl rfl rfl)<|.cons (o_assign rfl)<|.nil _) ?_
  refine a_seq (a_seq (ar (.cons (o_move rfl)<|.cons (o_not rfl)<|.nil _) ?_))
  refine a_cond _ rfl (fun h6=>?_) (fun h6=>?_)
  ·replace hM:=(of_if hM).1 h6
   refine a_seq (ar (.cons (o_assign rfl)<|.nil _) ?_)
   obtain rfl:=Option.some.inj hM
   refine a_imp (σ' := ⟨[(6,.int .i64 14)],[(50000,some (.row 137 4 (List.map CPart.dv o0.gparts))),(100000,some (.blk 134 [.row 50000]))],[50000,100000,100001]⟩) (Imp.sh (fun i=>bif Nat.beq i 50000 then 100001 else i) rfl rfl rfl rfl rfl rfl) ?_
   exact a_ret (a_post (.r1 (.tmp rfl)) (DLe.refl _) (PostOk.spec (.cons rfl (.cons rfl (.gone .nil)))))
  ·replace hM:=(of_if hM).2 h6
   refine a_skip (a_seq ?_)
   obtain ⟨v8,h7,hM⟩ := of_bind hM
   obtain ⟨v10,h9,hM⟩ := of_bind hM
   refine ad mixed (.cons (o_move rfl)<|.cons (o_nilCheck rfl)<|.cons (o_fieldAddr rfl)<|.cons (o_load_s rfl rfl rfl)<|.cons (o_move rfl)<|.cons (t_index_r h7 rfl rfl rfl)<|.cons (t_load_pr h7 rfl rfl rfl rfl rfl)<|.cons (o_load_r rfl rfl rfl rfl)<|.cons (o_call (CPart_merge_c h9) rfl (DLeL.refl _) rfl)<|.cons (o_move rfl)<|.cons (o_extract rfl rfl)<|.cons (o_extract rfl rfl)<|.cons (o_alloc rfl)<|.cons (o_store rfl rfl rfl rfl rfl rfl rfl)<|.cons (o_assign rfl)<|.nil _) ?_
   refine a_seq (a_seq (ar (.cons (o_move rfl)<|.cons (o_not rfl)<|.nil _) ?_))
   refine a_cond _ rfl (fun h11=>?_) (fun h11=>?_)
   ·replace hM:=(of_if hM).1 h11
    refine a_seq (ar (.cons (o_assign rfl)<|.nil _) ?_)
    obtain rfl:=Option.some.inj hM
    refine a_imp (σ' := ⟨[(6,.int .i64 14)],[(50000,some (.row 137 4 (List.map CPart.dv o0.gparts))),(100000,some (.blk 134 [.row 50000]))],[50000,100000,100001]⟩) (Imp.sh (fun i=>bif Nat.beq i 50000 then 100001 else i) rfl rfl rfl rfl rfl rfl) ?_
    exact a_ret (a_post (.r1 (.tmp rfl)) (DLe.refl _) (PostOk.spec (.cons rfl (.cons rfl (.gone .nil)))))
   ·replace hM:=(of_if hM).2 h11
    refine a_skip (a_seq ?_)
    obtain ⟨v13,h12,hM⟩ := of_bind hM
    refine ad mixed (.cons (o_move rfl)<|.cons (o_nilCheck rfl)<|.cons (o_fieldAddr rfl)<|.cons (o_load_s rfl rfl rfl)<|.cons (o_move rfl)<|.cons (o_load_r rfl rfl rfl rfl)<|.cons (t_index_r h12 rfl rfl rfl)<|.cons (t_store_p v10.1 h12 rfl rfl rfl rfl rfl rfl rfl rfl rfl rfl rfl)<|.nil _) ?_
    refine a_seq (ar (.cons (o_assign rfl)<|.nil _) ?_)
    obtain rfl:=Option.some.inj hM
    refine a_imp (σ' := ⟨[(6,.int .i64 0)],[(50000,some (.row 137 4 (List.map CPart.dv ((CColl.mk (List.set o0.gparts (Int.toNat x1) v10.1)).gparts)))),(100000,some (.blk 134 [.row 50000]))],[50000,100000,100001]⟩) (Imp.sh (fun i=>bif Nat.beq i 50000 then 100001 else i) rfl rfl rfl rfl rfl rfl) ?_
    exact a_ret (a_post (.r1 (.tmp rfl)) (DLe.refl _) (PostOk.spec (.cons rfl (.cons rfl (.gone .nil)))))
def CColl_part_a (x1 : Int) (o0 : CColl) : Option CPart :=
 if ((decide (x1 < 0)) || (decide ((List.length o0.gparts : Int)≤x1))) = true then
  some (CPart.mk [] [] false 0)
 else
  (idx o0.gparts x1).bind fun v3=>
  some v3
theorem CColl_part_a_c {x1 : Int} {o0 : CColl} {r : CPart} (hM : CColl_part_a x1 o0 = some r) : ACall Tryz.prog 76 ⟨[.ref 100000 0,.int .i64 x1],[(100000,some (.blk 134 [.row 100001])),(100001,some (.row 137 4 (List.map CPart.dv o0.gparts)))],.agg (CPart.cs r),[(100000,some (.blk 134 [.row 100001])),(100001,some (.row 137 4 (List.map CPart.dv o0.gparts)))],[]⟩ := by
 unfold CColl_part_a at hM
 refine ACall.body Tryz.func76 Tryz.ntmps76 rfl rfl rfl rfl ?_
 refine a_seq (ar (.cons (o_alloc rfl)<|.nil _) ?_)
 refine a_seq (a_seq (ar (.cons (o_move rfl)<|.cons (o_ptr_eq rfl)<|.cons (o_move rfl)<|.cons (o_guardOn .bF rfl rfl rfl (.keep .nil) (o_move rfl))<|.cons (o_guardOn .bF rfl rfl rfl (.strip rfl rfl .nil) (o_int rfl rfl rfl))<|.cons (o_or rfl rfl)<|.cons (o_move rfl)<|.cons (o_guardG .bF rfl rfl (fun hb=>(.keep .nil)) (fun hb=>o_move rfl))<|.cons (o_guardG .bF rfl rfl (fun hb=>(.keep .nil)) (fun hb=>o_move rfl))<|.cons (o_guardG .bF rfl rfl (fun hb=>(.strip rfl hb .nil)) (fun hb=>o_nilCheck rfl))<|.cons (o_guardG .bF rfl rfl (fun hb=>(.strip rfl hb .nil)) (fun hb=>o_fieldAddr rfl))<|.cons (o_guardG .bF rfl rfl (fun hb=>(.strip rfl hb .nil)) (fun hb=>o_load_s rfl rfl rfl))<|.cons (o_guardG .bF rfl rfl (fun hb=>(.strip rfl hb .nil)) (fun hb=>t_len_r rfl rfl))<|.cons (o_guardG .bF rfl rfl (fun hb=>(.strip rfl hb (.strip rfl hb .nil))) (fun hb=>o_int rfl rfl rfl))<|.cons (o_or rfl rfl)<|.nil _) ?_))
 refine a_cond _ rfl (fun h1=>?_) (fun h1=>?_)
 ·replace hM:=(of_if hM).1 h1
  refine a_seq (ar (.cons (o_build rfl rfl rfl)<|.cons (o_store rfl rfl rfl rfl rfl rfl rfl)<|.nil _) ?_)
  obtain rfl:=Option.some.inj hM
  refine a_imp (σ' := ⟨[(4,.ref 4 0)],[(4,some (.blk 137 [.nils,.nils,.bool false,.int .u64 0])),(100000,some (.blk 134 [.row 100001])),(100001,some (.row 137 4 (List.map CPart.dv o0.gparts)))],[4,100000,100001]⟩) (Imp.sh (fun i=>i) rfl rfl rfl rfl rfl rfl) ?_
  exact a_ret (a_post (.r1 (.cell rfl rfl (.row _ CRow.h (Nat.le_of_ble_eq_true rfl) rfl))) (DLe.agg (.cons (DLe.nils _) (.cons (DLe.nils _) (.cons (DLe.refl _) (.cons (DLe.refl _) .nil))))) (PostOk.spec (.cons rfl (.cons rfl .nil))))
 ·replace hM:=(of_if hM).2 h1
  refine a_skip (a_seq ?_)
  obtain ⟨v3,h2,hM⟩ := of_bind hM
  refine ar (.cons (o_move rfl)<|.cons (o_nilCheck rfl)<|.cons (o_fieldAddr rfl)<|.cons (o_load_s rfl rfl rfl)<|.cons (o_move rfl)<|.cons (t_index_r h2 rfl rfl rfl)<|.cons (t_load_pr h2 rfl rfl rfl rfl rfl)<|.cons (o_store rfl rfl rfl rfl rfl rfl rfl)<|.nil _) ?_
  obtain rfl:=Option.some.inj hM
  refine a_imp (σ' := ⟨[(4,.ref 4 0)],[(4,some (.blk 137 (CPart.cs v3))),(100000,some (.blk 134 [.row 100001])),(100001,some (.row 137 4 (List.map CPart.dv o0.gparts)))],[4,100000,100001]⟩) (Imp.sh (fun i=>i) rfl rfl rfl rfl rfl rfl) ?_
  exact a_ret (a_post (.r1 (.cell rfl rfl (.row _ CRow.h (Nat.le_of_ble_eq_true rfl) rfl))) (DLe.refl _) (PostOk.spec (.cons rfl (.cons rfl .nil))))
def CColl_Missing_a (x1 : Int) (o0 : CColl) : Option (List (Nat→Int)) :=
 (CColl_part_a x1 o0).bind fun v2=>
 (CPart_missing v2).bind fun v4=>
 (collect_pairs v4).bind fun v6=>
 some v6
theorem CColl_Missing_a_c {x1 : Int} {o0 : CColl} {r : (List (Nat→Int))} (hM : CColl_Missing_a x1 o0 = some r) : ACall Tryz.prog 31 ⟨[.ref 100000 0,.int .i64 x1],[(100000,some (.blk 134 [.row 100001])),(100001,some (.row 137 4 (List.map CPart.dv o0.gparts)))],.sl 2 (List.map array_2_uint64.dv r),[(100000,some (.blk 134 [.row 100001])),(100001,some (.row 137 4 (List.map CPart.dv o0.gparts)))],[]⟩ := by
 unfold CColl_Missing_a at hM
 refine ACall.body Tryz.func31 Tryz.ntmps31 rfl rfl rfl rfl ?_
 refine a_seq (ar (.cons (o_assign rfl)<|.nil _) ?_)
 refine a_seq ?_
 obtain ⟨v2,h1,hM⟩ := of_bind hM
 obtain ⟨v4,h3,hM⟩ := of_bind hM
 obtain ⟨v6,h5,hM⟩ := of_bind hM
 refine ar (.cons (o_move rfl)<|.cons (o_move rfl)<|.cons (o_callN (fun i=>bif Nat.beq i 100000 then 100000 else bif Nat.beq i 100001 then 100001 else i) 0 (CColl_part_a_c h1) rfl (DLeL.refl _) (.cons rfl (.cons rfl .nil)) rfl (.cons rfl (.cons rfl .nil)))<|.cons (o_call (CPart_missing_c h3) rfl (DLeL.refl _) rfl)<|.cons (o_call (collect_pairs_c h5) rfl (DLeL.refl _) rfl)<|.cons (o_assign rfl)<|.nil _) ?_
 obtain rfl:=Option.some.inj hM
 refine a_imp (σ' := ⟨[(4,.sl 2 (List.map array_2_uint64.dv v6))],[(100000,some (.blk 134 [.row 100001])),(100001,some (.row 137 4 (List.map CPart.dv o0.gparts)))],[100000,100001]⟩) (Imp.sh (fun i=>i) rfl rfl rfl rfl rfl rfl) ?_
 exact a_ret (a_post (.r1 (.tmp rfl)) (DLe.refl _) (PostOk.spec (.cons rfl (.cons rfl .nil))))
def w30_sameRuns_K1 : Option Bool :=
 some true
def w30_sameRuns_L2 (x0 : List (Nat→Int)) (x1 : List (Nat→Int)) (k2 : Nat) : Option (Ctl Unit Bool) :=
 (idx x0 (k2 : Int)).bind fun v7=>
 (idx x1 (k2 : Int)).bind fun v9=>
 if (!(((v7 0) == (v9 0)) && (((v7 1) == (v9 1)) && true))) = true then
  some (.done false)
 else
  some (.next ())
def w30_sameRuns (x0 : List (Nat→Int)) (x1 : List (Nat→Int)) : Option Bool :=
 if ((List.length x0 : Int) != (List.length x1 : Int)) = true then
  some false
 else
  (forM' (E:=Bool) 9223372036854775807 (List.length x0 : Int) (fun k2 s=>w30_sameRuns_L2 x0 x1 k2) ()).bind fun
   | .next s=>w30_sameRuns_K1
   | .done r=>some r
theorem w30_sameRuns_c {x0 : List (Nat→Int)} {x1 : List (Nat→Int)} {r : Bool} (hM : w30_sameRuns x0 x1 = some r) : PCall Tryz.prog 56 [.sl 2 (List.map array_2_uint64.dv x0),.sl 2 (List.map array_2_uint64.dv x1)] (.bool r):=by
 unfold w30_sameRuns at hM
 refine PCall.body Tryz.func56 Tryz.ntmps56 rfl rfl rfl rfl ?_
 refine a_seq (ar (.cons (o_assign rfl)<|.nil _) ?_)
 refine a_seq (a_seq (ar (.cons (o_move rfl)<|.cons (t_len rfl)<|.cons (o_move rfl)<|.cons (t_len rfl)<|.cons (o_int rfl rfl rfl)<|.nil _) ?_))
 refine a_cond _ rfl (fun h1=>?_) (fun h1=>?_)
 ·replace hM:=(of_if hM).1 h1
  refine a_seq (ar (.cons (o_assign rfl)<|.nil _) ?_)
  obtain rfl:=Option.some.inj hM
  exact a_ret (a_post (.r1 (.tmp rfl)) (DLe.refl _) PostOk.nil.spec)
 ·replace hM:=(of_if hM).2 h1
  refine a_skip ?_
  refine a_cut (α:=Unit) (fun s=>⟨[],[],[]⟩) (fun s=>w30_sameRuns_K1 = some r) ?_ ?_
  ·refine a_seq (ar (.cons (o_move rfl)<|.cons (t_len rfl)<|.cons (o_move rfl)<|.nil _) ?_)
   obtain ⟨t3,hL3,hK3⟩ := of_bind hM
   refine a_block ?_
   refine a_for (fun k2 (s : Unit)=>⟨[(0,.sl 2 (List.map array_2_uint64.dv x0)),(1,.sl 2 (List.map array_2_uint64.dv x1)),(12,.int .i64 (List.length x0 : Int)),(13,.int .i64 (k2 : Int))],[],[]⟩) _ hL3 (Imp.sh (fun i=>i) rfl rfl rfl rfl rfl rfl) ?_ ?_
   ·rintro k2 _ t4 hk2 hx2 hM hE3
    replace hM : w30_sameRuns_L2 x0 x1 k2 = some t4:=hM
    unfold w30_sameRuns_L2 at hM
    refine a_seq (ar (.cons (o_int rfl rfl rfl)<|.nil _) ?_)
    refine a_seq ?_
    refine a_cond _ rfl (fun _=>?_) (fun c=>absurd hk2 (of_decide_eq_false c))
    refine a_skip (a_seq (a_block (a_seq (ar (.cons (o_move rfl)<|.cons (o_assign rfl)<|.nil _) ?_))))
    refine a_seq ?_
    obtain ⟨v7,h6,hM⟩ := of_bind hM
    obtain ⟨v9,h8,hM⟩ := of_bind hM
    refine ad mixed (.cons (o_move rfl)<|.cons (o_move rfl)<|.cons (t_index h6 rfl rfl rfl)<|.cons (o_load_er rfl rfl rfl)<|.cons (o_move rfl)<|.cons (o_move rfl)<|.cons (t_index h8 rfl rfl rfl)<|.cons (o_load_er rfl rfl rfl)<|.cons (o_neS (b:=(((v7 0) == (v9 0)) && (((v7 1) == (v9 1)) && true))) rfl rfl rfl rfl rfl)<|.nil _) ?_
    refine a_cond _ rfl (fun h10=>?_) (fun h10=>?_)
    ·replace hM:=(of_if hM).1 h10
     refine a_seq (ar (.cons (o_assign rfl)<|.nil _) ?_)
     obtain rfl:=Option.some.inj hM
     obtain rfl:=hE3 _ rfl
     obtain rfl:=Option.some.inj hK3
     exact a_ret (a_post (.r1 (.tmp rfl)) (DLe.refl _) PostOk.nil.spec)
    ·replace hM:=(of_if hM).2 h10
     refine a_skip (ar (.cons (o_add rfl rfl (inR_i64 hk2 hx2))<|.cons (o_move rfl)<|.nil _) ?_)
     obtain rfl:=Option.some.inj hM
     exact ⟨(),rfl,(Imp.of (fun i=>i) (.cons rfl (DLe.refl _) (.cons rfl (DLe.refl _) (.cons rfl (DLe.refl _) (.cons rfl (DLe.succ _ _) .nil)))) .nil rfl rfl rfl)⟩
   ·rintro k2 _ hk2 hx2 rfl
    refine a_seq (ar (.cons (o_int rfl rfl rfl)<|.nil _) ?_)
    refine a_seq ?_
    refine a_cond _ rfl (fun c=>absurd (of_decide_eq_true c) (Int.not_lt.2 hk2)) (fun _=>?_)
    refine a_exit ?_
    exact ⟨(),hK3,(Imp.sh (fun i=>i) rfl rfl rfl rfl rfl rfl)⟩
  ·rintro _ hM
   replace hM : w30_sameRuns_K1 = some r:=hM
   unfold w30_sameRuns_K1 at hM
   refine a_seq (ar (.cons (o_assign rfl)<|.nil _) ?_)
   obtain rfl:=Option.some.inj hM
   exact a_ret (a_post (.r1 (.tmp rfl)) (DLe.refl _) PostOk.nil.spec)
def CColl_Lost_a (x1 : Int) (o0 : CColl) : Option (List (Nat→Int)) :=
 (CColl_part_a x1 o0).bind fun v2=>
 (collect_pairs v2.glost).bind fun v4=>
 some v4
theorem CColl_Lost_a_c {x1 : Int} {o0 : CColl} {r : (List (Nat→Int))} (hM : CColl_Lost_a x1 o0 = some r) : ACall Tryz.prog 42 ⟨[.ref 100000 0,.int .i64 x1],[(100000,some (.blk 134 [.row 100001])),(100001,some (.row 137 4 (List.map CPart.dv o0.gparts)))],.sl 2 (List.map array_2_uint64.dv r),[(100000,some (.blk 134 [.row 100001])),(100001,some (.row 137 4 (List.map CPart.dv o0.gparts)))],[]⟩ := by
 unfold CColl_Lost_a at hM
 refine ACall.body Tryz.func42 Tryz.ntmps42 rfl rfl rfl rfl ?_
 refine a_seq (ar (.cons (o_assign rfl)<|.nil _) ?_)
 refine a_seq ?_
 obtain ⟨v2,h1,hM⟩ := of_bind hM
 obtain ⟨v4,h3,hM⟩ := of_bind hM
 refine ar (.cons (o_move rfl)<|.cons (o_move rfl)<|.cons (o_callN (fun i=>bif Nat.beq i 100000 then 100000 else bif Nat.beq i 100001 then 100001 else i) 0 (CColl_part_a_c h1) rfl (DLeL.refl _) (.cons rfl (.cons rfl .nil)) rfl (.cons rfl (.cons rfl .nil)))<|.cons (o_field_s rfl rfl)<|.cons (o_call (collect_pairs_c h3) rfl (DLeL.refl _) rfl)<|.cons (o_assign rfl)<|.nil _) ?_
 obtain rfl:=Option.some.inj hM
 refine a_imp (σ' := ⟨[(4,.sl 2 (List.map array_2_uint64.dv v4))],[(100000,some (.blk 134 [.row 100001])),(100001,some (.row 137 4 (List.map CPart.dv o0.gparts)))],[100000,100001]⟩) (Imp.sh (fun i=>i) rfl rfl rfl rfl rfl rfl) ?_
 exact a_ret (a_post (.r1 (.tmp rfl)) (DLe.refl _) (PostOk.spec (.cons rfl (.cons rfl .nil))))
def CColl_Records_a (x1 : Int) (o0 : CColl) : Option (List RRec) :=
 (CColl_part_a x1 o0).bind fun v2=>
 (collect_cloneAll v2.gentries).bind fun v4=>
 some v4
theorem CColl_Records_a_c {x1 : Int} {o0 : CColl} {r : (List RRec)} (hM : CColl_Records_a x1 o0 = some r) : ACall Tryz.prog 28 ⟨[.ref 100000 0,.int .i64 x1],[(100000,some (.blk 134 [.row 100001])),(100001,some (.row 137 4 (List.map CPart.dv o0.gparts)))],.sl 29 (List.map RRec.dv r),[(100000,some (.blk 134 [.row 100001])),(100001,some (.row 137 4 (List.map CPart.dv o0.gparts)))],[]⟩ := by
 unfold CColl_Records_a at hM
 refine ACall.body Tryz.func28 Tryz.ntmps28 rfl rfl rfl rfl ?_
 refine a_seq (ar (.cons (o_assign rfl)<|.nil _) ?_)
 refine a_seq ?_
 obtain ⟨v2,h1,hM⟩ := of_bind hM
 obtain ⟨v4,h3,hM⟩ := of_bind hM
 refine ar (.cons (o_move rfl)<|.cons (o_move rfl)<|.cons (o_callN (fun i=>bif Nat.beq i 100000 then 100000 else bif Nat.beq i 100001 then 100001 else i) 0 (CColl_part_a_c h1) rfl (DLeL.refl _) (.cons rfl (.cons rfl .nil)) rfl (.cons rfl (.cons rfl .nil)))<|.cons (o_field_s rfl rfl)<|.cons (o_call (collect_cloneAll_c h3) rfl (DLeL.refl _) rfl)<|.cons (o_assign rfl)<|.nil _) ?_
 obtain rfl:=Option.some.inj hM
 refine a_imp (σ' := ⟨[(4,.sl 29 (List.map RRec.dv v4))],[(100000,some (.blk 134 [.row 100001])),(100001,some (.row 137 4 (List.map CPart.dv o0.gparts)))],[100000,100001]⟩) (Imp.sh (fun i=>i) rfl rfl rfl rfl rfl rfl) ?_
 exact a_ret (a_post (.r1 (.tmp rfl)) (DLe.refl _) (PostOk.spec (.cons rfl (.cons rfl .nil))))
def CColl_Complete_a_K1 : Option Bool :=
 some true
def CColl_Complete_a_L2 (o0 : CColl) (k2 : Nat) : Option (Ctl Unit Bool) :=
 (idx o0.gparts (k2 : Int)).bind fun v7=>
 (gb (!(!v7.gknown)) ([]) (CPart_missing v7)).bind fun v9=>
 if ((!v7.gknown) || (decide (0 < (List.length v9 : Int)))) = true then
  some (.done false)
 else
  some (.next ())
def CColl_Complete_a (o0 : CColl) : Option Bool :=
 if ((List.length o0.gparts : Int) == 0) = true then
  some false
 else
  (forM' (E:=Bool) 9223372036854775807 (List.length o0.gparts : Int) (fun k2 s=>CColl_Complete_a_L2 o0 k2) ()).bind fun
   | .next s=>CColl_Complete_a_K1
   | .done r=>some r
theorem CColl_Complete_a_c {o0 : CColl} {r : Bool} (hM : CColl_Complete_a o0 = some r) : ACall Tryz.prog 41 ⟨[.ref 100000 0],[(100000,some (.blk 134 [.row 100001])),(100001,some (.row 137 4 (List.map CPart.dv o0.gparts)))],.bool r,[(100000,some (.blk 134 [.row 100001])),(100001,some (.row 137 4 (List.map CPart.dv o0.gparts)))],[]⟩ := by
 unfold CColl_Complete_a at hM
 refine ACall.body Tryz.func41 Tryz.ntmps41 rfl rfl rfl rfl ?_
 refine a_seq (ar (.cons (o_assign rfl)<|.nil _) ?_)
 refine a_seq (a_seq (ar (.cons (o_move rfl)<|.cons (o_ptr_eq rfl)<|.cons (o_move rfl)<|.cons (o_guardOn .bF rfl rfl rfl (.keep .nil) (o_move rfl))<|.cons (o_guardOn .bF rfl rfl rfl (.strip rfl rfl .nil) (o_nilCheck rfl))<|.cons (o_guardOn .bF rfl rfl rfl (.strip rfl rfl .nil) (o_fieldAddr rfl))<|.cons (o_guardOn .bF rfl rfl rfl (.strip rfl rfl .nil) (o_load_s rfl rfl rfl))<|.cons (o_guardOn .bF rfl rfl rfl (.strip rfl rfl .nil) (t_len_r rfl rfl))<|.cons (o_guardOn .bF rfl rfl rfl (.strip rfl rfl .nil) (o_int rfl rfl rfl))<|.cons (o_or rfl rfl)<|.nil _) ?_))
 refine a_cond _ rfl (fun h1=>?_) (fun h1=>?_)
 ·replace hM:=(of_if hM).1 h1
  refine a_seq (ar (.cons (o_assign rfl)<|.nil _) ?_)
  obtain rfl:=Option.some.inj hM
  refine a_imp (σ' := ⟨[(2,.bool false)],[(100000,some (.blk 134 [.row 100001])),(100001,some (.row 137 4 (List.map CPart.dv o0.gparts)))],[100000,100001]⟩) (Imp.sh (fun i=>i) rfl rfl rfl rfl rfl rfl) ?_
  exact a_ret (a_post (.r1 (.tmp rfl)) (DLe.refl _) (PostOk.spec (.cons rfl (.cons rfl .nil))))
 ·replace hM:=(of_if hM).2 h1
  refine a_skip ?_
  refine a_cut (α:=Unit) (fun s=>⟨[],[(100000,some (.blk 134 [.row 100001])),(100001,some (.row 137 4 (List.map CPart.dv o0.gparts)))],[100000,100001]⟩) (fun s=>CColl_Complete_a_K1 = some r) ?_ ?_
  ·refine a_seq (ar (.cons (o_move rfl)<|.cons (o_nilCheck rfl)<|.cons (o_fieldAddr rfl)<|.cons (o_load_s rfl rfl rfl)<|.cons (t_len_r rfl rfl)<|.cons (o_move rfl)<|.nil _) ?_)
   obtain ⟨t3,hL3,hK3⟩ := of_bind hM
   refine a_block ?_
   refine a_for (fun k2 (s : Unit)=>⟨[(18,.row 100001),(19,.int .i64 (List.length o0.gparts : Int)),(20,.int .i64 (k2 : Int))],[(100000,some (.blk 134 [.row 100001])),(100001,some (.row 137 4 (List.map CPart.dv o0.gparts)))],[100000,100001]⟩) _ hL3 (Imp.sh (fun i=>i) rfl rfl rfl rfl rfl rfl) ?_ ?_
   ·rintro k2 _ t4 hk2 hx2 hM hE3
    replace hM : CColl_Complete_a_L2 o0 k2 = some t4:=hM
    unfold CColl_Complete_a_L2 at hM
    refine a_seq (ar (.cons (o_int rfl rfl rfl)<|.nil _) ?_)
    refine a_seq ?_
    refine a_cond _ rfl (fun _=>?_) (fun c=>absurd hk2 (of_decide_eq_false c))
    refine a_skip (a_seq (a_block (a_seq ?_)))
    obtain ⟨v7,h6,hM⟩ := of_bind hM
    refine ar (.cons (t_index_r h6 rfl rfl rfl)<|.cons (t_load_pr h6 rfl rfl rfl rfl rfl)<|.cons (o_alloc rfl)<|.cons (o_store rfl rfl rfl rfl rfl rfl rfl)<|.nil _) ?_
    refine a_seq ?_
    obtain ⟨v9,h8,hM⟩ := of_bind hM
    refine ar (.cons (o_fieldAddr rfl)<|.cons (o_load_s rfl rfl rfl)<|.cons (o_not rfl)<|.cons (o_move rfl)<|.cons (o_guardG .bF rfl rfl (fun hb=>(.keep .nil)) (fun hb=>o_load_r rfl rfl rfl rfl))<|.cons (o_guardG .bF rfl rfl (fun hb=>(.strip rfl hb .nil)) (fun hb=>o_call (CPart_missing_c (of_gb h8 hb)) rfl (DLeL.refl _) rfl))<|.cons (o_guardG .bF rfl rfl (fun hb=>(.strip rfl hb .nil)) (fun hb=>t_len rfl))<|.cons (o_guardG .bF rfl rfl (fun hb=>(.strip rfl hb .nil)) (fun hb=>o_int rfl rfl rfl))<|.cons (o_or rfl rfl)<|.nil _) ?_
    refine a_cond _ rfl (fun h10=>?_) (fun h10=>?_)
    ·replace hM:=(of_if hM).1 h10
     refine a_seq (ar (.cons (o_assign rfl)<|.nil _) ?_)
     obtain rfl:=Option.some.inj hM
     obtain rfl:=hE3 _ rfl
     obtain rfl:=Option.some.inj hK3
     refine a_imp (σ' := ⟨[(2,.bool false)],[(100000,some (.blk 134 [.row 100001])),(100001,some (.row 137 4 (List.map CPart.dv o0.gparts)))],[100000,100001]⟩) (Imp.sh (fun i=>i) rfl rfl rfl rfl rfl rfl) ?_
     exact a_ret (a_post (.r1 (.tmp rfl)) (DLe.refl _) (PostOk.spec (.cons rfl (.cons rfl .nil))))
    ·replace hM:=(of_if hM).2 h10
     refine a_skip (ar (.cons (o_add rfl rfl (inR_i64 hk2 hx2))<|.cons (o_move rfl)<|.nil _) ?_)
     obtain rfl:=Option.some.inj hM
     exact ⟨(),rfl,(Imp.of (fun i=>i) (.cons rfl (DLe.refl _) (.cons rfl (DLe.refl _) (.cons rfl (DLe.succ _ _) .nil))) (.cons rfl (.refl _) (.cons rfl (.refl _) .nil)) rfl rfl rfl)⟩
   ·rintro k2 _ hk2 hx2 rfl
    refine a_seq (ar (.cons (o_int rfl rfl rfl)<|.nil _) ?_)
    refine a_seq ?_
    refine a_cond _ rfl (fun c=>absurd (of_decide_eq_true c) (Int.not_lt.2 hk2)) (fun _=>?_)
    refine a_exit ?_
    exact ⟨(),hK3,(Imp.sh (fun i=>i) rfl rfl rfl rfl rfl rfl)⟩
  ·rintro _ hM
   replace hM : CColl_Complete_a_K1 = some r:=hM
   unfold CColl_Complete_a_K1 at hM
   refine a_seq (ar (.cons (o_assign rfl)<|.nil _) ?_)
   obtain rfl:=Option.some.inj hM
   refine a_imp (σ' := ⟨[(2,.bool true)],[(100000,some (.blk 134 [.row 100001])),(100001,some (.row 137 4 (List.map CPart.dv o0.gparts)))],[100000,100001]⟩) (Imp.sh (fun i=>i) rfl rfl rfl rfl rfl rfl) ?_
   exact a_ret (a_post (.r1 (.tmp rfl)) (DLe.refl _) (PostOk.spec (.cons rfl (.cons rfl .nil))))
def w30_awake : Option Bool :=
 (collect_New 1).bind fun v2=>
 match v2 with
 | .inl v2_0=>
  (w30_File_bytes (w30_File.mk 0 [(w30_Raw.mk 0 0 0 0),(w30_Raw.mk 0 1 0 0),(w30_Raw.mk 0 4 0 0),(w30_Raw.mk 2 2 0 1)]) 1).bind fun v4=>
  (w30_File_bytes (w30_File.mk 0 [(w30_Raw.mk 0 2 0 0),(w30_Raw.mk 0 3 0 0),(w30_Raw.mk 3 5 0 0)]) 1).bind fun v6=>
  (CColl_Add_a 0 v4.2.1 v2_0).bind fun v8=>
  (gb (!(v8.1 != 0)) (([] : List (Nat→Int))) (CColl_Missing_a 0 v8.2)).bind fun v10=>
  if (!(v8.1 != 0)) = true then
   (w30_sameRuns v10 [(arr 0 [2,2])]).bind fun v12=>
   (gb (!((v8.1 != 0) || (!v12))) (([] : List (Nat→Int))) (CColl_Lost_a 0 v8.2)).bind fun v14=>
   if (!((v8.1 != 0) || (!v12))) = true then
    (w30_sameRuns v14 [(arr 0 [2,2])]).bind fun v16=>
    if (((v8.1 != 0) || (!v12)) || (!v16)) = true then
     some false
    else
     (CColl_Add_a 0 v6.2.1 v8.2).bind fun v19=>
     (gb (v19.1 == 0) (([] : List (Nat→Int))) (CColl_Missing_a 0 v19.2)).bind fun v21=>
     (gb ((v19.1 == 0) && ((List.length v21 : Int) == 0)) (([] : List (Nat→Int))) (CColl_Lost_a 0 v19.2)).bind fun v23=>
     (gb (((v19.1 == 0) && ((List.length v21 : Int) == 0)) && ((List.length v23 : Int) == 0)) (([] : List RRec)) (CColl_Records_a 0 v19.2)).bind fun v25=>
     (gb ((((v19.1 == 0) && ((List.length v21 : Int) == 0)) && ((List.length v23 : Int) == 0)) && ((List.length v25 : Int) == 5)) (false) (CColl_Complete_a v19.2)).bind fun v27=>
     some (((((v19.1 == 0) && ((List.length v21 : Int) == 0)) && ((List.length v23 : Int) == 0)) && ((List.length v25 : Int) == 5)) && (!v27))
   else
    if (((v8.1 != 0) || (!v12)) || false) = true then
     some false
    else
     (CColl_Add_a 0 v6.2.1 v8.2).bind fun v17=>
     (gb (v17.1 == 0) (([] : List (Nat→Int))) (CColl_Missing_a 0 v17.2)).bind fun v19=>
     (gb ((v17.1 == 0) && ((List.length v19 : Int) == 0)) (([] : List (Nat→Int))) (CColl_Lost_a 0 v17.2)).bind fun v21=>
     (gb (((v17.1 == 0) && ((List.length v19 : Int) == 0)) && ((List.length v21 : Int) == 0)) (([] : List RRec)) (CColl_Records_a 0 v17.2)).bind fun v23=>
     (gb ((((v17.1 == 0) && ((List.length v19 : Int) == 0)) && ((List.length v21 : Int) == 0)) && ((List.length v23 : Int) == 5)) (false) (CColl_Complete_a v17.2)).bind fun v25=>
     some (((((v17.1 == 0) && ((List.length v19 : Int) == 0)) && ((List.length v21 : Int) == 0)) && ((List.length v23 : Int) == 5)) && (!v25))
  else
   (gb (!((v8.1 != 0) || false)) (([] : List (Nat→Int))) (CColl_Lost_a 0 v8.2)).bind fun v12=>
   if (!((v8.1 != 0) || false)) = true then
    (w30_sameRuns v12 [(arr 0 [2,2])]).bind fun v14=>
    if (((v8.1 != 0) || false) || (!v14)) = true then
     some false
    else
     (CColl_Add_a 0 v6.2.1 v8.2).bind fun v17=>
     (gb (v17.1 == 0) (([] : List (Nat→Int))) (CColl_Missing_a 0 v17.2)).bind fun v19=>
     (gb ((v17.1 == 0) && ((List.length v19 : Int) == 0)) (([] : List (Nat→Int))) (CColl_Lost_a 0 v17.2)).bind fun v21=>
     (gb (((v17.1 == 0) && ((List.length v19 : Int) == 0)) && ((List.length v21 : Int) == 0)) (([] : List RRec)) (CColl_Records_a 0 v17.2)).bind fun v23=>
     (gb ((((v17.1 == 0) && ((List.length v19 : Int) == 0)) && ((List.length v21 : Int) == 0)) && ((List.length v23 : Int) == 5)) (false) (CColl_Complete_a v17.2)).bind fun v25=>
     some (((((v17.1 == 0) && ((List.length v19 : Int) == 0)) && ((List.length v21 : Int) == 0)) && ((List.length v23 : Int) == 5)) && (!v25))
   else
    if (((v8.1 != 0) || false) || false) = true then
     some false
    else
     (CColl_Add_a 0 v6.2.1 v8.2).bind fun v15=>
     (gb (v15.1 == 0) (([] : List (Nat→Int))) (CColl_Missing_a 0 v15.2)).bind fun v17=>
     (gb ((v15.1 == 0) && ((List.length v17 : Int) == 0)) (([] : List (Nat→Int))) (CColl_Lost_a 0 v15.2)).bind fun v19=>
     (gb (((v15.1 == 0) && ((List.length v17 : Int) == 0)) && ((List.length v19 : Int) == 0)) (([] : List RRec)) (CColl_Records_a 0 v15.2)).bind fun v21=>
     (gb ((((v15.1 == 0) && ((List.length v17 : Int) == 0)) && ((List.length v19 : Int) == 0)) && ((List.length v21 : Int) == 5)) (false) (CColl_Complete_a v15.2)).bind fun v23=>
     some (((((v15.1 == 0) && ((List.length v17 : Int) == 0)) && ((List.length v19 : Int) == 0)) && ((List.length v21 : Int) == 5)) && (!v23))
 | .inr v2_1=>
  none
theorem w30_awake_c {r : Bool} (hM : w30_awake = some r) : PCall Tryz.prog 15 [] (.bool r):=by
 unfold w30_awake at hM
 refine PCall.body Tryz.func15 Tryz.ntmps15 rfl rfl rfl rfl ?_
 refine a_seq (ar (.cons (o_assign rfl)<|.nil _) ?_)
 refine a_seq ?_
 obtain ⟨v2,h1,hM⟩ := of_bind hM
 rcases v2 with v2_0 | v2_1
 ·refine ar (.cons (o_callN (fun i=>bif Nat.beq i 50001 then 10002 else bif Nat.beq i 50000 then 10001 else i) 2 (collect_New_c0 h1) rfl (DLeL.refl _) .nil rfl .nil)<|.cons (o_move rfl)<|.cons (o_extract rfl rfl)<|.cons (o_extract rfl rfl)<|.cons (o_assign rfl)<|.cons (o_assign rfl)<|.nil _) ?_
  refine a_seq ?_
  obtain ⟨v4,h3,hM⟩ := of_bind hM
  refine ar (.cons (o_build rfl rfl rfl)<|.cons (o_build rfl rfl rfl)<|.cons (o_build rfl rfl rfl)<|.cons (o_build rfl rfl rfl)<|.cons (o_frz (t_build w30_Raw.dv ([(w30_Raw.mk 0 0 0 0),(w30_Raw.mk 0 1 0 0),(w30_Raw.mk 0 4 0 0),(w30_Raw.mk 2 2 0 1)] : List w30_Raw) rfl rfl rfl rfl rfl rfl rfl))<|.cons (o_build rfl rfl rfl)<|.cons (o_callN (fun i=>bif Nat.beq i 50001 then 10004 else bif Nat.beq i 50000 then 10003 else i) 2 (w30_File_bytes_c h3) rfl (DLeL.refl _) .nil rfl .nil)<|.cons (o_move rfl)<|.cons (o_extract rfl rfl)<|.cons (o_extract rfl rfl)<|.cons (o_extract rfl rfl)<|.cons (o_assign rfl)<|.cons (o_assign rfl)<|.cons (o_assign rfl)<|.nil _) ?_
  refine a_seq ?_
  obtain ⟨v6,h5,hM⟩ := of_bind hM
  refine ar (.cons (o_build rfl rfl rfl)<|.cons (o_build rfl rfl rfl)<|.cons (o_build rfl rfl rfl)<|.cons (o_frz (t_build w30_Raw.dv ([(w30_Raw.mk 0 2 0 0),(w30_Raw.mk 0 3 0 0),(w30_Raw.mk 3 5 0 0)] : List w30_Raw) rfl rfl rfl rfl rfl rfl rfl))<|.cons (o_build rfl rfl rfl)<|.cons (o_callN (fun i=>bif Nat.beq i 50001 then 10006 else bif Nat.beq i 50000 then 10005 else i) 2 (w30_File_bytes_c h5) rfl (DLeL.refl _) .nil rfl .nil)<|.cons (o_move rfl)<|.cons (o_extract rfl rfl)<|.cons (o_extract rfl rfl)<|.cons (o_extract rfl rfl)<|.cons (o_assign rfl)<|.cons (o_assign rfl)<|.cons (o_assign rfl)<|.nil _) ?_
  refine a_seq (a_seq ?_)
  obtain ⟨v8,h7,hM⟩ := of_bind hM
  obtain ⟨v10,h9,hM⟩ := of_bind hM
  by_cases hd11 : (!(v8.1 != 0)) = true
  ·replace hM:=(of_if hM).1 hd11
   obtain ⟨v12,h11,hM⟩ := of_bind hM
   obtain ⟨v14,h13,hM⟩ := of_bind hM
   by_cases hd15 : (!((v8.1 != 0) || (!v12))) = true
   ·replace hM:=(of_if hM).1 hd15
    refine a_imp (Imp.freeze (id:=10003) rfl) ?_
    obtain ⟨v16,h15,hM⟩ := of_bind hM
    refine ar (.cons (o_move rfl)<|.cons (o_int rfl rfl rfl)<|.cons (o_move rfl)<|.cons (o_guardOn .bF rfl rfl rfl (.keep .nil) (o_move rfl))<|.cons (o_guardOn .bF rfl rfl rfl (.keep .nil) (o_move rfl))<|.cons (o_guardOn .bF rfl rfl rfl (.strip rfl rfl (.strip rfl rfl .nil)) (o_callN (fun i=>bif Nat.beq i 50000 then 10007 else bif Nat.beq i 100000 then 10001 else bif Nat.beq i 100001 then 10002 else i) 3 (CColl_Add_a_c h7) rfl (DLeL.refl _) (.cons rfl (.cons rfl .nil)) rfl .nil))<|.cons (o_guardOn .bF rfl rfl rfl (.strip rfl rfl .nil) (o_int rfl rfl rfl))<|.cons (o_or rfl rfl)<|.cons (o_move rfl)<|.cons (o_guardG .bF rfl rfl (fun hb=>(.keep .nil)) (fun hb=>o_move rfl))<|.cons (o_guardG .bF rfl rfl (fun hb=>(.strip rfl hb .nil)) (fun hb=>o_callN (fun i=>bif Nat.beq i 100000 then 10001 else bif Nat.beq i 100001 then 10007 else i) 0 (CColl_Missing_a_c (of_gb h9 hb)) rfl (DLeL.refl _) (.cons rfl (.cons rfl .nil)) rfl (.cons rfl (.cons rfl .nil))))<|.cons (o_guardG .bF rfl rfl (fun hb=>.nil) (fun hb=>o_build rfl rfl rfl))<|.cons (o_guardOn .bF rfl rfl hd11 (.strip rfl hd11 .nil) (o_frz (t_build array_2_uint64.dv ([(arr 0 [2,2])] : List (Nat→Int)) rfl rfl rfl rfl rfl rfl rfl)))<|.cons (o_guardOn .bF rfl rfl hd11 (.strip rfl hd11 (.strip rfl hd11 .nil)) (o_call (w30_sameRuns_c h11) rfl (DLeL.refl _) rfl))<|.cons (o_guardOn .bF rfl rfl hd11 (.strip rfl hd11 .nil) (o_not rfl))<|.cons (o_or rfl rfl)<|.cons (o_move rfl)<|.cons (o_guardG .bF rfl rfl (fun hb=>(.keep .nil)) (fun hb=>o_move rfl))<|.cons (o_guardG .bF rfl rfl (fun hb=>(.strip rfl hb .nil)) (fun hb=>o_callN (fun i=>bif Nat.beq i 100000 then 10001 else bif Nat.beq i 100001 then 10007 else i) 0 (CColl_Lost_a_c (of_gb h13 hb)) rfl (DLeL.refl _) (.cons rfl (.cons rfl .nil)) rfl (.cons rfl (.cons rfl .nil))))<|.cons (o_guardG .bF rfl rfl (fun hb=>.nil) (fun hb=>o_build rfl rfl rfl))<|.cons (o_guardOn .bF rfl rfl hd15 (.strip rfl hd15 .nil) (o_frz (t_build array_2_uint64.dv ([(arr 0 [2,2])] : List (Nat→Int)) rfl rfl rfl rfl rfl rfl rfl)))<|.cons (o_guardOn .bF rfl rfl hd15 (.strip rfl hd15 (.strip rfl hd15 .nil)) (o_call (w30_sameRuns_c h15) rfl (DLeL.refl _) rfl))<|.cons (o_guardOn .bF rfl rfl hd15 (.strip rfl hd15 .nil) (o_not rfl))<|.cons (o_or rfl rfl)<|.nil _) ?_
    refine a_cond _ rfl (fun h17=>?_) (fun h17=>?_)
    ·replace hM:=(of_if hM).1 h17
     refine a_seq (ar (.cons (o_assign rfl)<|.nil _) ?_)
     obtain rfl:=Option.some.inj hM
     exact a_ret (a_post (.r1 (.tmp rfl)) (DLe.refl _) PostOk.nil.spec)
    ·replace hM:=(of_if hM).2 h17
     refine a_skip (a_seq (a_imp (Imp.freeze (id:=10005) rfl) ?_))
     obtain ⟨v19,h18,hM⟩ := of_bind hM
     obtain ⟨v21,h20,hM⟩ := of_bind hM
     obtain ⟨v23,h22,hM⟩ := of_bind hM
     obtain ⟨v25,h24,hM⟩ := of_bind hM
     obtain ⟨v27,h26,hM⟩ := of_bind hM
     refine ar (.cons (o_move rfl)<|.cons (o_move rfl)<|.cons (o_callN (fun i=>bif Nat.beq i 50000 then 10008 else bif Nat.beq i 100000 then 10001 else bif Nat.beq i 100001 then 10007 else i) 3 (CColl_Add_a_c h18) rfl (DLeL.refl _) (.cons rfl (.cons rfl .nil)) rfl .nil)<|.cons (o_int rfl rfl rfl)<|.cons (o_move rfl)<|.cons (o_guardG .bT rfl rfl (fun hb=>(.keep .nil)) (fun hb=>o_move rfl))<|.cons (o_guardG .bT rfl rfl (fun hb=>(.strip rfl hb .nil)) (fun hb=>o_callN (fun i=>bif Nat.beq i 100000 then 10001 else bif Nat.beq i 100001 then 10008 else i) 0 (CColl_Missing_a_c (of_gb h20 hb)) rfl (DLeL.refl _) (.cons rfl (.cons rfl .nil)) rfl (.cons rfl (.cons rfl .nil))))<|.cons (o_guardG .bT rfl rfl (fun hb=>(.strip rfl hb .nil)) (fun hb=>t_len rfl))<|.cons (o_guardG .bT rfl rfl (fun hb=>(.strip rfl hb .nil)) (fun hb=>o_int rfl rfl rfl))<|.cons (o_and rfl rfl)<|.cons (o_move rfl)<|.cons (o_guardG .bT rfl rfl (fun hb=>(.keep .nil)) (fun hb=>o_move rfl))<|.cons (o_guardG .bT rfl rfl (fun hb=>(.strip rfl hb .nil)) (fun hb=>o_callN (fun i=>bif Nat.beq i 100000 then 10001 else bif Nat.beq i 100001 then 10008 else i) 0 (CColl_Lost_a_c (of_gb h22 hb)) rfl (DLeL.refl _) (.cons rfl (.cons rfl .nil)) rfl (.cons rfl (.cons rfl .nil))))<|.cons (o_guardG .bT rfl rfl (fun hb=>(.strip rfl hb .nil)) (fun hb=>t_len rfl))<|.cons (o_guardG .bT rfl rfl (fun hb=>(.strip rfl hb .nil)) (fun hb=>o_int rfl rfl rfl))<|.cons (o_and rfl rfl)<|.cons (o_move rfl)<|.cons (o_guardG .bT rfl rfl (fun hb=>(.keep .nil)) (fun hb=>o_move rfl))<|.cons (o_guardG .bT rfl rfl (fun hb=>(.strip rfl hb .nil)) (fun hb=>o_callN (fun i=>bif Nat.beq i 100000 then 10001 else bif Nat.beq i 100001 then 10008 else i) 0 (CColl_Records_a_c (of_gb h24 hb)) rfl (DLeL.refl _) (.cons rfl (.cons rfl .nil)) rfl (.cons rfl (.cons rfl .nil))))<|.cons (o_guardG .bT rfl rfl (fun hb=>(.strip rfl hb .nil)) (fun hb=>t_len rfl))<|.cons (o_guardG .bT rfl rfl (fun hb=>(.strip rfl hb .nil)) (fun hb=>o_int rfl rfl rfl))<|.cons (o_and rfl rfl)<|.cons (o_move rfl)<|.cons (o_guardG .bT rfl rfl (fun hb=>(.keep .nil)) (fun hb=>o_move rfl))<|.cons (o_guardG .bT rfl rfl (fun hb=>(.strip rfl hb .nil)) (fun hb=>o_callN (fun i=>bif Nat.beq i 100000 then 10001 else bif Nat.beq i 100001 then 10008 else i) 0 (CColl_Complete_a_c (of_gb h26 hb)) rfl (DLeL.refl _) (.cons rfl (.cons rfl .nil)) rfl (.cons rfl (.cons rfl .nil))))<|.cons (o_guardG .bT rfl rfl (fun hb=>(.strip rfl hb .nil)) (fun hb=>o_not rfl))<|.cons (o_and rfl rfl)<|.cons (o_assign rfl)<|.nil _) ?_
     obtain rfl:=Option.some.inj hM
     exact a_ret (a_post (.r1 (.tmp rfl)) (DLe.refl _) PostOk.nil.spec)
   ·replace hd15:=Bool.eq_false_iff.2 hd15
    replace hM:=(of_if hM).2 hd15
    refine a_imp (Imp.freeze (id:=10003) rfl) ?_
    refine ar (.cons (o_move rfl)<|.cons (o_int rfl rfl rfl)<|.cons (o_move rfl)<|.cons (o_guardOn .bF rfl rfl rfl (.keep .nil) (o_move rfl))<|.cons (o_guardOn .bF rfl rfl rfl (.keep .nil) (o_move rfl))<|.cons (o_guardOn .bF rfl rfl rfl (.strip rfl rfl (.strip rfl rfl .nil)) (o_callN (fun i=>bif Nat.beq i 50000 then 10007 else bif Nat.beq i 100000 then 10001 else bif Nat.beq i 100001 then 10002 else i) 3 (CColl_Add_a_c h7) rfl (DLeL.refl _) (.cons rfl (.cons rfl .nil)) rfl .nil))<|.cons (o_guardOn .bF rfl rfl rfl (.strip rfl rfl .nil) (o_int rfl rfl rfl))<|.cons (o_or rfl rfl)<|.cons (o_move rfl)<|.cons (o_guardG .bF rfl rfl (fun hb=>(.keep .nil)) (fun hb=>o_move rfl))<|.cons (o_guardG .bF rfl rfl (fun hb=>(.strip rfl hb .nil)) (fun hb=>o_callN (fun i=>bif Nat.beq i 100000 then 10001 else bif Nat.beq i 100001 then 10007 else i) 0 (CColl_Missing_a_c (of_gb h9 hb)) rfl (DLeL.refl _) (.cons rfl (.cons rfl .nil)) rfl (.cons rfl (.cons rfl .nil))))<|.cons (o_guardG .bF rfl rfl (fun hb=>.nil) (fun hb=>o_build rfl rfl rfl))<|.cons (o_guardOn .bF rfl rfl hd11 (.strip rfl hd11 .nil) (o_frz (t_build array_2_uint64.dv ([(arr 0 [2,2])] : List (Nat→Int)) rfl rfl rfl rfl rfl rfl rfl)))<|.cons (o_guardOn .bF rfl rfl hd11 (.strip rfl hd11 (.strip rfl hd11 .nil)) (o_call (w30_sameRuns_c h11) rfl (DLeL.refl _) rfl))<|.cons (o_guardOn .bF rfl rfl hd11 (.strip rfl hd11 .nil) (o_not rfl))<|.cons (o_or rfl rfl)<|.cons (o_move rfl)<|.cons (o_guardG .bF rfl rfl (fun hb=>(.keep .nil)) (fun hb=>o_move rfl))<|.cons (o_guardG .bF rfl rfl (fun hb=>(.strip rfl hb .nil)) (fun hb=>o_callN (fun i=>bif Nat.beq i 100000 then 10001 else bif Nat.beq i 100001 then 10007 else i) 0 (CColl_Lost_a_c (of_gb h13 hb)) rfl (DLeL.refl _) (.cons rfl (.cons rfl .nil)) rfl (.cons rfl (.cons rfl .nil))))<|.cons (o_guardG .bF rfl rfl (fun hb=>.nil) (fun hb=>o_build rfl rfl rfl))<|.cons (o_guardOff (.nils) .bF rfl rfl hd15)<|.cons (o_guardOff (.bool false) .bF rfl rfl hd15)<|.cons (o_guardOff (.bool false) .bF rfl rfl hd15)<|.cons (o_or rfl rfl)<|.nil _) ?_
    refine a_cond _ rfl (fun h15=>?_) (fun h15=>?_)
    ·replace hM:=(of_if hM).1 h15
     refine a_seq (ar (.cons (o_assign rfl)<|.nil _) ?_)
     obtain rfl:=Option.some.inj hM
     exact a_ret (a_post (.r1 (.tmp rfl)) (DLe.refl _) PostOk.nil.spec)
    ·replace hM:=(of_if hM).2 h15
     refine a_skip (a_seq (a_imp (Imp.freeze (id:=10005) rfl) ?_))
     obtain ⟨v17,h16,hM⟩ := of_bind hM
     obtain ⟨v19,h18,hM⟩ := of_bind hM
     obtain ⟨v21,h20,hM⟩ := of_bind hM
     obtain ⟨v23,h22,hM⟩ := of_bind hM
     obtain ⟨v25,h24,hM⟩ := of_bind hM
     refine ar (.cons (o_move rfl)<|.cons (o_move rfl)<|.cons (o_callN (fun i=>bif Nat.beq i 50000 then 10008 else bif Nat.beq i 100000 then 10001 else bif Nat.beq i 100001 then 10007 else i) 3 (CColl_Add_a_c h16) rfl (DLeL.refl _) (.cons rfl (.cons rfl .nil)) rfl .nil)<|.cons (o_int rfl rfl rfl)<|.cons (o_move rfl)<|.cons (o_guardG .bT rfl rfl (fun hb=>(.keep .nil)) (fun hb=>o_move rfl))<|.cons (o_guardG .bT rfl rfl (fun hb=>(.strip rfl hb .nil)) (fun hb=>o_callN (fun i=>bif Nat.beq i 100000 then 10001 else bif Nat.beq i 100001 then 10008 else i) 0 (CColl_Missing_a_c (of_gb h18 hb)) rfl (DLeL.refl _) (.cons rfl (.cons rfl .nil)) rfl (.cons rfl (.cons rfl .nil))))<|.cons (o_guardG .bT rfl rfl (fun hb=>(.strip rfl hb .nil)) (fun hb=>t_len rfl))<|.cons (o_guardG .bT rfl rfl (fun hb=>(.strip rfl hb .nil)) (fun hb=>o_int rfl rfl rfl))<|.cons (o_and rfl rfl)<|.cons (o_move rfl)<|.cons (o_guardG .bT rfl rfl (fun hb=>(.keep .nil)) (fun hb=>o_move rfl))<|.cons (o_guardG .bT rfl rfl (fun hb=>(.strip rfl hb .nil)) (fun hb=>o_callN (fun i=>bif Nat.beq i 100000 then 10001 else bif Nat.beq i 100001 then 10008 else i) 0 (CColl_Lost_a_c (of_gb h20 hb)) rfl (DLeL.refl _) (.cons rfl (.cons rfl .nil)) rfl (.cons rfl (.cons rfl .nil))))<|.cons (o_guardG .bT rfl rfl (fun hb=>(.strip rfl hb .nil)) (fun hb=>t_len rfl))<|.cons (o_guardG .bT rfl rfl (fun hb=>(.strip rfl hb .nil)) (fun hb=>o_int rfl rfl rfl))<|.cons (o_and rfl rfl)<|.cons (o_move rfl)<|.cons (o_guardG .bT rfl rfl (fun hb=>(.keep .nil)) (fun hb=>o_move rfl))<|.cons (o_guardG .bT rfl rfl (fun hb=>(.strip rfl hb .nil)) (fun hb=>o_callN (fun i=>bif Nat.beq i 100000 then 10001 else bif Nat.beq i 100001 then 10008 else i) 0 (CColl_Records_a_c (of_gb h22 hb)) rfl (DLeL.refl _) (.cons rfl (.cons rfl .nil)) rfl (.cons rfl (.cons rfl .nil))))<|.cons (o_guardG .bT rfl rfl (fun hb=>(.strip rfl hb .nil)) (fun hb=>t_len rfl))<|.cons (o_guardG .bT rfl rfl (fun hb=>(.strip rfl hb .nil)) (fun hb=>o_int rfl rfl rfl))<|.cons (o_and rfl rfl)<|.cons (o_move rfl)<|.cons (o_guardG .bT rfl rfl (fun hb=>(.keep .nil)) (fun hb=>o_move rfl))<|.cons (o_guardG .bT rfl rfl (fun hb=>(.strip rfl hb .nil)) (fun hb=>o_callN (fun i=>bif Nat.beq i 100000 then 10001 else bif Nat.beq i 100001 then 10008 else i) 0 (CColl_Complete_a_c (of_gb h24 hb)) rfl (DLeL.refl _) (.cons rfl (.cons rfl .nil)) rfl (.cons rfl (.cons rfl .nil))))<|.cons (o_guardG .bT rfl rfl (fun hb=>(.strip rfl hb .nil)) (fun hb=>o_not rfl))<|.cons (o_and rfl rfl)<|.cons (o_assign rfl)<|.nil _) ?_
     obtain rfl:=Option.some.inj hM
     exact a_ret (a_post (.r1 (.tmp rfl)) (DLe.refl _) PostOk.nil.spec)
  ·replace hd11:=Bool.eq_false_iff.2 hd11
   replace hM:=(of_if hM).2 hd11
   obtain ⟨v12,h11,hM⟩ := of_bind hM
   by_cases hd13 : (!((v8.1 != 0) || false)) = true
   ·replace hM:=(of_if hM).1 hd13
    refine a_imp (Imp.freeze (id:=10003) rfl) ?_
    obtain ⟨v14,h13,hM⟩ := of_bind hM
    refine ar (.cons (o_move rfl)<|.cons (o_int rfl rfl rfl)<|.cons (o_move rfl)<|.cons (o_guardOn .bF rfl rfl rfl (.keep .nil) (o_move rfl))<|.cons (o_guardOn .bF rfl rfl rfl (.keep .nil) (o_move rfl))<|.cons (o_guardOn .bF rfl rfl rfl (.strip rfl rfl (.strip rfl rfl .nil)) (o_callN (fun i=>bif Nat.beq i 50000 then 10007 else bif Nat.beq i 100000 then 10001 else bif Nat.beq i 100001 then 10002 else i) 3 (CColl_Add_a_c h7) rfl (DLeL.refl _) (.cons rfl (.cons rfl .nil)) rfl .nil))<|.cons (o_guardOn .bF rfl rfl rfl (.strip rfl rfl .nil) (o_int rfl rfl rfl))<|.cons (o_or rfl rfl)<|.cons (o_move rfl)<|.cons (o_guardG .bF rfl rfl (fun hb=>(.keep .nil)) (fun hb=>o_move rfl))<|.cons (o_guardG .bF rfl rfl (fun hb=>(.strip rfl hb .nil)) (fun hb=>o_callN (fun i=>bif Nat.beq i 100000 then 10001 else bif Nat.beq i 100001 then 10007 else i) 0 (CColl_Missing_a_c (of_gb h9 hb)) rfl (DLeL.refl _) (.cons rfl (.cons rfl .nil)) rfl (.cons rfl (.cons rfl .nil))))<|.cons (o_guardG .bF rfl rfl (fun hb=>.nil) (fun hb=>o_build rfl rfl rfl))<|.cons (o_guardOff (.nils) .bF rfl rfl hd11)<|.cons (o_guardOff (.bool false) .bF rfl rfl hd11)<|.cons (o_guardOff (.bool false) .bF rfl rfl hd11)<|.cons (o_or rfl rfl)<|.cons (o_move rfl)<|.cons (o_guardG .bF rfl rfl (fun hb=>(.keep .nil)) (fun hb=>o_move rfl))<|.cons (o_guardG .bF rfl rfl (fun hb=>(.strip rfl hb .nil)) (fun hb=>o_callN (fun i=>bif Nat.beq i 100000 then 10001 else bif Nat.beq i 100001 then 10007 else i) 0 (CColl_Lost_a_c (of_gb h11 hb)) rfl (DLeL.refl _) (.cons rfl (.cons rfl .nil)) rfl (.cons rfl (.cons rfl .nil))))<|.cons (o_guardG .bF rfl rfl (fun hb=>.nil) (fun hb=>o_build rfl rfl rfl))<|.cons (o_guardOn .bF rfl rfl hd13 (.strip rfl hd13 .nil) (o_frz (t_build array_2_uint64.dv ([(arr 0 [2,2])] : List (Nat→Int)) rfl rfl rfl rfl rfl rfl rfl)))<|.cons (o_guardOn .bF rfl rfl hd13 (.strip rfl hd13 (.strip rfl hd13 .nil)) (o_call (w30_sameRuns_c h13) rfl (DLeL.refl _) rfl))<|.cons (o_guardOn .bF rfl rfl hd13 (.strip rfl hd13 .nil) (o_not rfl))<|.cons (o_or rfl rfl)<|.nil _) ?_
    refine a_cond _ rfl (fun h15=>?_) (fun h15=>?_)
    ·replace hM:=(of_if hM).1 h15
     refine a_seq (ar (.cons (o_assign rfl)<|.nil _) ?_)
     obtain rfl:=Option.some.inj hM
     exact a_ret (a_post (.r1 (.tmp rfl)) (DLe.refl _) PostOk.nil.spec)
    ·replace hM:=(of_if hM).2 h15
     refine a_skip (a_seq (a_imp (Imp.freeze (id:=10005) rfl) ?_))
     obtain ⟨v17,h16,hM⟩ := of_bind hM
     obtain ⟨v19,h18,hM⟩ := of_bind hM
     obtain ⟨v21,h20,hM⟩ := of_bind hM
     obtain ⟨v23,h22,hM⟩ := of_bind hM
     obtain ⟨v25,h24,hM⟩ := of_bind hM
     refine ar (.cons (o_move rfl)<|.cons (o_move rfl)<|.cons (o_callN (fun i=>bif Nat.beq i 50000 then 10008 else bif Nat.beq i 100000 then 10001 else bif Nat.beq i 100001 then 10007 else i) 3 (CColl_Add_a_c h16) rfl (DLeL.refl _) (.cons rfl (.cons rfl .nil)) rfl .nil)<|.cons (o_int rfl rfl rfl)<|.cons (o_move rfl)<|.cons (o_guardG .bT rfl rfl (fun hb=>(.keep .nil)) (fun hb=>o_move rfl))<|.cons (o_guardG .bT rfl rfl (fun hb=>(.strip rfl hb .nil)) (fun hb=>o_callN (fun i=>bif Nat.beq i 100000 then 10001 else bif Nat.beq i 100001 then 10008 else i) 0 (CColl_Missing_a_c (of_gb h18 hb)) rfl (DLeL.refl _) (.cons rfl (.cons rfl .nil)) rfl (.cons rfl (.cons rfl .nil))))<|.cons (o_guardG .bT rfl rfl (fun hb=>(.strip rfl hb .nil)) (fun hb=>t_len rfl))<|.cons (o_guardG .bT rfl rfl (fun hb=>(.strip rfl hb .nil)) (fun hb=>o_int rfl rfl rfl))<|.cons (o_and rfl rfl)<|.cons (o_move rfl)<|.cons (o_guardG .bT rfl rfl (fun hb=>(.keep .nil)) (fun hb=>o_move rfl))<|.cons (o_guardG .bT rfl rfl (fun hb=>(.strip rfl hb .nil)) (fun hb=>o_callN (fun i=>bif Nat.beq i 100000 then 10001 else bif Nat.beq i 100001 then 10008 else i) 0 (CColl_Lost_a_c (of_gb h20 hb)) rfl (DLeL.refl _) (.cons rfl (.cons rfl .nil)) rfl (.cons rfl (.cons rfl .nil))))<|.cons (o_guardG .bT rfl rfl (fun hb=>(.strip rfl hb .nil)) (fun hb=>t_len rfl))<|.cons (o_guardG .bT rfl rfl (fun hb=>(.strip rfl hb .nil)) (fun hb=>o_int rfl rfl rfl))<|.cons (o_and rfl rfl)<|.cons (o_move rfl)<|.cons (o_guardG .bT rfl rfl (fun hb=>(.keep .nil)) (fun hb=>o_move rfl))<|.cons (o_guardG .bT rfl rfl (fun hb=>(.strip rfl hb .nil)) (fun hb=>o_callN (fun i=>bif Nat.beq i 100000 then 10001 else bif Nat.beq i 100001 then 10008 else i) 0 (CColl_Records_a_c (of_gb h22 hb)) rfl (DLeL.refl _) (.cons rfl (.cons rfl .nil)) rfl (.cons rfl (.cons rfl .nil))))<|.cons (o_guardG .bT rfl rfl (fun hb=>(.strip rfl hb .nil)) (fun hb=>t_len rfl))<|.cons (o_guardG .bT rfl rfl (fun hb=>(.strip rfl hb .nil)) (fun hb=>o_int rfl rfl rfl))<|.cons (o_and rfl rfl)<|.cons (o_move rfl)<|.cons (o_guardG .bT rfl rfl (fun hb=>(.keep .nil)) (fun hb=>o_move rfl))<|.cons (o_guardG .bT rfl rfl (fun hb=>(.strip rfl hb .nil)) (fun hb=>o_callN (fun i=>bif Nat.beq i 100000 then 10001 else bif Nat.beq i 100001 then 10008 else i) 0 (CColl_Complete_a_c (of_gb h24 hb)) rfl (DLeL.refl _) (.cons rfl (.cons rfl .nil)) rfl (.cons rfl (.cons rfl .nil))))<|.cons (o_guardG .bT rfl rfl (fun hb=>(.strip rfl hb .nil)) (fun hb=>o_not rfl))<|.cons (o_and rfl rfl)<|.cons (o_assign rfl)<|.nil _) ?_
     obtain rfl:=Option.some.inj hM
     exact a_ret (a_post (.r1 (.tmp rfl)) (DLe.refl _) PostOk.nil.spec)
   ·replace hd13:=Bool.eq_false_iff.2 hd13
    replace hM:=(of_if hM).2 hd13
    refine a_imp (Imp.freeze (id:=10003) rfl) ?_
    refine ar (.cons (o_move rfl)<|.cons (o_int rfl rfl rfl)<|.cons (o_move rfl)<|.cons (o_guardOn .bF rfl rfl rfl (.keep .nil) (o_move rfl))<|.cons (o_guardOn .bF rfl rfl rfl (.keep .nil) (o_move rfl))<|.cons (o_guardOn .bF rfl rfl rfl (.strip rfl rfl (.strip rfl rfl .nil)) (o_callN (fun i=>bif Nat.beq i 50000 then 10007 else bif Nat.beq i 100000 then 10001 else bif Nat.beq i 100001 then 10002 else i) 3 (CColl_Add_a_c h7) rfl (DLeL.refl _) (.cons rfl (.cons rfl .nil)) rfl .nil))<|.cons (o_guardOn .bF rfl rfl rfl (.strip rfl rfl .nil) (o_int rfl rfl rfl))<|.cons (o_or rfl rfl)<|.cons (o_move rfl)<|.cons (o_guardG .bF rfl rfl (fun hb=>(.keep .nil)) (fun hb=>o_move rfl))<|.cons (o_guardG .bF rfl rfl (fun hb=>(.strip rfl hb .nil)) (fun hb=>o_callN (fun i=>bif Nat.beq i 100000 then 10001 else bif Nat.beq i 100001 then 10007 else i) 0 (CColl_Missing_a_c (of_gb h9 hb)) rfl (DLeL.refl _) (.cons rfl (.cons rfl .nil)) rfl (.cons rfl (.cons rfl .nil))))<|.cons (o_guardG .bF rfl rfl (fun hb=>.nil) (fun hb=>o_build rfl rfl rfl))<|.cons (o_guardOff (.nils) .bF rfl rfl hd11)<|.cons (o_guardOff (.bool false) .bF rfl rfl hd11)<|.cons (o_guardOff (.bool false) .bF rfl rfl hd11)<|.cons (o_or rfl rfl)<|.cons (o_move rfl)<|.cons (o_guardG .bF rfl rfl (fun hb=>(.keep .nil)) (fun hb=>o_move rfl))<|.cons (o_guardG .bF rfl rfl (fun hb=>(.strip rfl hb .nil)) (fun hb=>o_callN (fun i=>bif Nat.beq i 100000 then 10001 else bif Nat.beq i 100001 then 10007 else i) 0 (CColl_Lost_a_c (of_gb h11 hb)) rfl (DLeL.refl _) (.cons rfl (.cons rfl .nil)) rfl (.cons rfl (.cons rfl .nil))))<|.cons (o_guardG .bF rfl rfl (fun hb=>.nil) (fun hb=>o_build rfl rfl rfl))<|.cons (o_guardOff (.nils) .bF rfl rfl hd13)<|.cons (o_guardOff (.bool false) .bF rfl rfl hd13)<|.cons (o_guardOff (.bool false) .bF rfl rfl hd13)<|.cons (o_or rfl rfl)<|.nil _) ?_
    refine a_cond _ rfl (fun h13=>?_) (fun h13=>?_)
    ·replace hM:=(of_if hM).1 h13
     refine a_seq (ar (.cons (o_assign rfl)<|.nil _) ?_)
     obtain rfl:=Option.some.inj hM
     exact a_ret (a_post (.r1 (.tmp rfl)) (DLe.refl _) PostOk.nil.spec)
    ·replace hM:=(of_if hM).2 h13
     refine a_skip (a_seq (a_imp (Imp.freeze (id:=10005) rfl) ?_))
     obtain ⟨v15,h14,hM⟩ := of_bind hM
     obtain ⟨v17,h16,hM⟩ := of_bind hM
     obtain ⟨v19,h18,hM⟩ := of_bind hM
     obtain ⟨v21,h20,hM⟩ := of_bind hM
     obtain ⟨v23,h22,hM⟩ := of_bind hM
     refine ar (.cons (o_move rfl)<|.cons (o_move rfl)<|.cons (o_callN (fun i=>bif Nat.beq i 50000 then 10008 else bif Nat.beq i 100000 then 10001 else bif Nat.beq i 100001 then 10007 else i) 3 (CColl_Add_a_c h14) rfl (DLeL.refl _) (.cons rfl (.cons rfl .nil)) rfl .nil)<|.cons (o_int rfl rfl rfl)<|.cons (o_move rfl)<|.cons (o_guardG .bT rfl rfl (fun hb=>(.keep .nil)) (fun hb=>o_move rfl))<|.cons (o_guardG .bT rfl rfl (fun hb=>(.strip rfl hb .nil)) (fun hb=>o_callN (fun i=>bif Nat.beq i 100000 then 10001 else bif Nat.beq i 100001 then 10008 else i) 0 (CColl_Missing_a_c (of_gb h16 hb)) rfl (DLeL.refl _) (.cons rfl (.cons rfl .nil)) rfl (.cons rfl (.cons rfl .nil))))<|.cons (o_guardG .bT rfl rfl (fun hb=>(.strip rfl hb .nil)) (fun hb=>t_len rfl))<|.cons (o_guardG .bT rfl rfl (fun hb=>(.strip rfl hb .nil)) (fun hb=>o_int rfl rfl rfl))<|.cons (o_and rfl rfl)<|.cons (o_move rfl)<|.cons (o_guardG .bT rfl rfl (fun hb=>(.keep .nil)) (fun hb=>o_move rfl))<|.cons (o_guardG .bT rfl rfl (fun hb=>(.strip rfl hb .nil)) (fun hb=>o_callN (fun i=>bif Nat.beq i 100000 then 10001 else bif Nat.beq i 100001 then 10008 else i) 0 (CColl_Lost_a_c (of_gb h18 hb)) rfl (DLeL.refl _) (.cons rfl (.cons rfl .nil)) rfl (.cons rfl (.cons rfl .nil))))<|.cons (o_guardG .bT rfl rfl (fun hb=>(.strip rfl hb .nil)) (fun hb=>t_len rfl))<|.cons (o_guardG .bT rfl rfl (fun hb=>(.strip rfl hb .nil)) (fun hb=>o_int rfl rfl rfl))<|.cons (o_and rfl rfl)<|.cons (o_move rfl)<|.cons (o_guardG .bT rfl rfl (fun hb=>(.keep .nil)) (fun hb=>o_move rfl))<|.cons (o_guardG .bT rfl rfl (fun hb=>(.strip rfl hb .nil)) (fun hb=>o_callN (fun i=>bif Nat.beq i 100000 then 10001 else bif Nat.beq i 100001 then 10008 else i) 0 (CColl_Records_a_c (of_gb h20 hb)) rfl (DLeL.refl _) (.cons rfl (.cons rfl .nil)) rfl (.cons rfl (.cons rfl .nil))))<|.cons (o_guardG .bT rfl rfl (fun hb=>(.strip rfl hb .nil)) (fun hb=>t_len rfl))<|.cons (o_guardG .bT rfl rfl (fun hb=>(.strip rfl hb .nil)) (fun hb=>o_int rfl rfl rfl))<|.cons (o_and rfl rfl)<|.cons (o_move rfl)<|.cons (o_guardG .bT rfl rfl (fun hb=>(.keep .nil)) (fun hb=>o_move rfl))<|.cons (o_guardG .bT rfl rfl (fun hb=>(.strip rfl hb .nil)) (fun hb=>o_callN (fun i=>bif Nat.beq i 100000 then 10001 else bif Nat.beq i 100001 then 10008 else i) 0 (CColl_Complete_a_c (of_gb h22 hb)) rfl (DLeL.refl _) (.cons rfl (.cons rfl .nil)) rfl (.cons rfl (.cons rfl .nil))))<|.cons (o_guardG .bT rfl rfl (fun hb=>(.strip rfl hb .nil)) (fun hb=>o_not rfl))<|.cons (o_and rfl rfl)<|.cons (o_assign rfl)<|.nil _) ?_
     obtain rfl:=Option.some.inj hM
     exact a_ret (a_post (.r1 (.tmp rfl)) (DLe.refl _) PostOk.nil.spec)
 ·cases hM
def e30_New : Option e30_Known :=
 some (e30_Known.mk (arr 0 [0,0,0,0,0,0,0,0,0,0,0,0,0,0,0,0,0,0,0,0,0,0,0,0,0,0,0,0,0,0,0,0,0,0,0,0,0,0,0,0,0,0,0,0,0,0,0,0]) (arr false [false,false,false,false,false,false,false,false,false,false,false,false,false,false,false,false,false,false,false,false,false,false,false,false,false,false,false,false,false,false,false,false,false,false,false,false,false,false,false,false,false,false,false,false,false,false,false,false]) (-1))
theorem e30_New_c {r : e30_Known} (hM : e30_New = some r) : PCall Tryz.prog 55 [] (.agg (e30_Known.cs r)):=by
 unfold e30_New at hM
 refine PCall.body Tryz.func55 Tryz.ntmps55 rfl rfl rfl rfl ?_
 refine a_seq (ar (.cons (o_alloc rfl)<|.nil _) ?_)
 refine a_seq (ar (.cons (o_build rfl rfl rfl)<|.cons (o_store rfl rfl rfl rfl rfl rfl rfl)<|.nil _) ?_)
 obtain rfl:=Option.some.inj hM
 exact a_ret (a_post (.r1 (.cell rfl rfl (.row _ CRow.h (Nat.le_of_ble_eq_true rfl) rfl))) (DLe.refl _) PostOk.nil.spec)
def w30_begin_K1 (x0 : Int) (v3_0 : CColl) (a5 : List e30_Known) : Option (CColl × (List e30_Known) × Int) :=
 some (v3_0,a5,(IntKind.wrap .i64 (1 + (IntKind.wrap .i64 (x0 % 3)))))
def w30_begin_L2 (k6 : Nat) (a7 : List e30_Known) : Option (List e30_Known) :=
 (e30_New).bind fun v12=>
 chk (apOk 440 (List.length a7 + List.length [v12]))<|
 some (a7++[v12])
def w30_begin (x0 : Int) : Option (CColl × (List e30_Known) × Int) :=
 chk ((0 : Int)≤x0∧(0 : Int) < 3)<|
 (collect_New (IntKind.wrap .i64 (1 + (IntKind.wrap .i64 (x0 % 3))))).bind fun v3=>
 match v3 with
 | .inl v3_0=>
  (foldM' 9223372036854775807 (IntKind.wrap .i64 ((IntKind.wrap .i64 (1 + (IntKind.wrap .i64 (x0 % 3)))) + 1)) (fun k6 s=>w30_begin_L2 k6 s) ([] : List e30_Known)).bind fun s=>w30_begin_K1 x0 v3_0 s
 | .inr v3_1=>
  none
theorem w30_begin_c {x0 : Int} {r : CColl × (List e30_Known) × Int} (hM : w30_begin x0 = some r) : ACall Tryz.prog 14 ⟨[.int .u8 x0],[],.tup [.ref 50000 0,.row 50002,.int .i64 r.2.2],[(50000,some (.blk 134 [.row 50001])),(50001,some (.row 137 4 (List.map CPart.dv r.1.gparts))),(50002,some (.row 60 97 (List.map e30_Known.dv r.2.1)))],[50000,50001,50002]⟩ := by
 unfold w30_begin at hM
 refine ACall.body Tryz.func14 Tryz.ntmps14 rfl rfl rfl rfl ?_
 refine a_seq (ar (.cons (o_assign rfl)<|.cons (o_assign rfl)<|.cons (o_assign rfl)<|.nil _) ?_)
 refine a_seq ?_
 obtain ⟨h1,hM⟩ := of_chk hM
 refine ar (.cons (o_move rfl)<|.cons (o_rem rfl rfl h1)<|.cons (o_conv_w rfl)<|.cons (o_int rfl rfl rfl)<|.cons (o_assign rfl)<|.nil _) ?_
 refine a_seq ?_
 obtain ⟨v3,h2,hM⟩ := of_bind hM
 rcases v3 with v3_0 | v3_1
 ·refine ar (.cons (o_move rfl)<|.cons (o_callN (fun i=>bif Nat.beq i 50001 then 10002 else bif Nat.beq i 50000 then 10001 else i) 2 (collect_New_c0 h2) rfl (DLeL.refl _) .nil rfl .nil)<|.cons (o_move rfl)<|.cons (o_extract rfl rfl)<|.cons (o_extract rfl rfl)<|.cons (o_assign rfl)<|.cons (o_assign rfl)<|.nil _) ?_
  refine a_seq (a_seq (ar (.cons (o_move rfl)<|.cons (o_int rfl rfl rfl)<|.nil _) ?_))
  refine a_cond _ rfl (fun c=>by cases c) (fun _=>?_)
  refine a_skip (a_seq (ar (.cons (o_assign rfl)<|.nil _) ?_))
  refine a_cut (α:=(List e30_Known)) (fun s=>⟨[(5,.int .i64 (IntKind.wrap .i64 (1 + (IntKind.wrap .i64 (x0 % 3))))),(6,.ref 10001 0),(8,.row 10003)],[(10001,some (.blk 134 [.row 10004])),(10003,some (.row 60 97 (List.map e30_Known.dv s))),(10004,some (.row 137 4 (List.map CPart.dv v3_0.gparts)))],[10001,10003,10004]⟩) (fun s=>w30_begin_K1 x0 v3_0 s = some r) ?_ ?_
  ·refine a_seq (ar (.cons (o_move rfl)<|.cons (o_int rfl rfl rfl)<|.cons (o_move rfl)<|.nil _) ?_)
   obtain ⟨a7,hL8,hK8⟩ := of_bind hM
   refine a_block ?_
   refine a_fold (fun k6 (s : (List e30_Known))=>⟨[(5,.int .i64 (IntKind.wrap .i64 (1 + (IntKind.wrap .i64 (x0 % 3))))),(6,.ref 10001 0),(8,.row 10005),(21,.int .i64 (IntKind.wrap .i64 ((IntKind.wrap .i64 (1 + (IntKind.wrap .i64 (x0 % 3)))) + 1))),(22,.int .i64 (k6 : Int))],[(10001,some (.blk 134 [.row 10006])),(10005,some (.row 60 97 (List.map e30_Known.dv s))),(10006,some (.row 137 4 (List.map CPart.dv v3_0.gparts)))],[10001,10005,10006]⟩) _ hL8 ((Imp.nilRow (t:=8) (id:=10007) 60 97 rfl rfl).trans (Imp.sh (fun i=>bif Nat.beq i 10006 then 10002 else bif Nat.beq i 10005 then 10007 else i) rfl rfl rfl rfl rfl rfl)) ?_ ?_
   ·rintro k6 a7 t9 hk6 hx6 hM
    replace hM : w30_begin_L2 k6 a7 = some t9:=hM
    unfold w30_begin_L2 at hM
    refine a_seq (ar (.cons (o_int rfl rfl rfl)<|.nil _) ?_)
    refine a_seq ?_
    refine a_cond _ rfl (fun _=>?_) (fun c=>absurd hk6 (of_decide_eq_false c))
    refine a_skip (a_seq (a_block ?_))
    obtain ⟨v12,h11,hM⟩ := of_bind hM
    obtain ⟨h13,hM⟩ := of_chk hM
    refine ar (.cons (o_move rfl)<|.cons (o_call (e30_New_c h11) rfl (DLeL.refl _) rfl)<|.cons (t_build e30_Known.dv ([v12] : List e30_Known) rfl rfl rfl rfl rfl rfl rfl)<|.cons (t_append [v12] h13 rfl rfl rfl (Src.row rfl))<|.cons (o_assign rfl)<|.nil _) ?_
    refine ar (.cons (o_add rfl rfl (inR_i64 hk6 hx6))<|.cons (o_move rfl)<|.nil _) ?_
    obtain rfl:=Option.some.inj hM
    exact (Imp.of (fun i=>bif Nat.beq i 10005 then 27 else i) (.cons rfl (DLe.refl _) (.cons rfl (DLe.refl _) (.cons rfl (DLe.refl _) (.cons rfl (DLe.refl _) (.cons rfl (DLe.succ _ _) .nil))))) (.cons rfl (.refl _) (.cons rfl (.refl _) (.cons rfl (.refl _) .nil))) rfl rfl rfl)
   ·rintro k6 hk6 hx6
    refine a_seq (ar (.cons (o_int rfl rfl rfl)<|.nil _) ?_)
    refine a_seq ?_
    refine a_cond _ rfl (fun c=>absurd (of_decide_eq_true c) (Int.not_lt.2 hk6)) (fun _=>?_)
    refine a_exit ?_
    exact ⟨a7,hK8,(Imp.sh (fun i=>bif Nat.beq i 10004 then 10006 else bif Nat.beq i 10003 then 10005 else i) rfl rfl rfl rfl rfl rfl)⟩
  ·rintro a5 hM
   replace hM : w30_begin_K1 x0 v3_0 a5 = some r:=hM
   unfold w30_begin_K1 at hM
   refine a_seq (ar (.cons (o_move rfl)<|.cons (o_move rfl)<|.cons (o_move rfl)<|.cons (o_assign rfl)<|.cons (o_assign rfl)<|.cons (o_assign rfl)<|.nil _) ?_)
   obtain rfl:=Option.some.inj hM
   refine a_imp (σ' := ⟨[(2,.ref 50000 0),(3,.row 50002),(4,.int .i64 (IntKind.wrap .i64 (1 + (IntKind.wrap .i64 (x0 % 3)))))],[(50000,some (.blk 134 [.row 50001])),(50001,some (.row 137 4 (List.map CPart.dv v3_0.gparts))),(50002,some (.row 60 97 (List.map e30_Known.dv a5)))],[50000,50001,50002]⟩) (Imp.sh (fun i=>bif Nat.beq i 50002 then 10003 else bif Nat.beq i 50001 then 10004 else bif Nat.beq i 50000 then 10001 else i) rfl rfl rfl rfl rfl rfl) ?_
   exact a_ret (a_post (.r3 (.tmp rfl) (.tmp rfl) (.tmp rfl)) (DLe.refl _) (PostOk.spec (.cons rfl (.cons rfl (.cons rfl .nil)))))
 ·cases hM
def CColl_Total_a (x1 : Int) (o0 : CColl) : Option (Int × Bool) :=
 (CColl_part_a x1 o0).bind fun v2=>
 some (v2.gtotal,v2.gknown)
theorem CColl_Total_a_c {x1 : Int} {o0 : CColl} {r : Int × Bool} (hM : CColl_Total_a x1 o0 = some r) : ACall Tryz.prog 30 ⟨[.ref 100000 0,.int .i64 x1],[(100000,some (.blk 134 [.row 100001])),(100001,some (.row 137 4 (List.map CPart.dv o0.gparts)))],.tup [.int .u64 r.1,.bool r.2],[(100000,some (.blk 134 [.row 100001])),(100001,some (.row 137 4 (List.map CPart.dv o0.gparts)))],[]⟩ := by
 unfold CColl_Total_a at hM
 refine ACall.body Tryz.func30 Tryz.ntmps30 rfl rfl rfl rfl ?_
 refine a_seq (ar (.cons (o_assign rfl)<|.cons (o_assign rfl)<|.nil _) ?_)
 refine a_seq ?_
 obtain ⟨v2,h1,hM⟩ := of_bind hM
 refine ar (.cons (o_move rfl)<|.cons (o_move rfl)<|.cons (o_callN (fun i=>bif Nat.beq i 100000 then 100000 else bif Nat.beq i 100001 then 100001 else i) 0 (CColl_part_a_c h1) rfl (DLeL.refl _) (.cons rfl (.cons rfl .nil)) rfl (.cons rfl (.cons rfl .nil)))<|.cons (o_alloc rfl)<|.cons (o_store rfl rfl rfl rfl rfl rfl rfl)<|.nil _) ?_
 refine a_seq (ad mixed (.cons (o_fieldAddr rfl)<|.cons (o_load_s rfl rfl rfl)<|.cons (o_fieldAddr rfl)<|.cons (o_load_s rfl rfl rfl)<|.cons (o_assign rfl)<|.cons (o_assign rfl)<|.nil _) ?_)
 obtain rfl:=Option.some.inj hM
 refine a_imp (σ' := ⟨[(4,.int .u64 v2.gtotal),(5,.bool v2.gknown)],[(100000,some (.blk 134 [.row 100001])),(100001,some (.row 137 4 (List.map CPart.dv o0.gparts)))],[100000,100001]⟩) (Imp.sh (fun i=>i) rfl rfl rfl rfl rfl rfl) ?_
 exact a_ret (a_post (.r2 (.tmp rfl) (.tmp rfl)) (DLe.refl _) (PostOk.spec (.cons rfl (.cons rfl .nil))))
def e30_runs_K1 (a1 : List (Nat→Int)) : Option (List (Nat→Int)) :=
 some a1
def e30_runs_L2 (x0 : Nat→Bool) (k2 : Nat) (a3 : List (Nat→Int)) : Option (List (Nat→Int)) :=
 chk (inA 48 (k2 : Int))<|
 if (!(x0 (Int.toNat (k2 : Int)))) = true then
  some a3
 else
  chk ((decide (0 < (k2 : Int))) = true→inA 48 (IntKind.wrap .i64 ((k2 : Int) - 1)))<|
  if ((decide (0 < (k2 : Int))) && (x0 (Int.toNat (IntKind.wrap .i64 ((k2 : Int) - 1))))) = true then
   (idx a3 (IntKind.wrap .i64 ((List.length a3 : Int) - 1))).bind fun v12=>
   (idx a3 (IntKind.wrap .i64 ((List.length a3 : Int) - 1))).bind fun v14=>
   some (List.set a3 (Int.toNat (IntKind.wrap .i64 ((List.length a3 : Int) - 1))) (arr 0 [(v14 0),(IntKind.wrap .u64 ((v12 1) + 1))]))
  else
   chk (apOk 16 (List.length a3 + List.length [(arr 0 [(IntKind.wrap .u64 (k2 : Int)),1])]))<|
   some (a3++[(arr 0 [(IntKind.wrap .u64 (k2 : Int)),1])])
def e30_runs (x0 : Nat→Bool) : Option (List (Nat→Int)) :=
 (foldM' 9223372036854775807 48 (fun k2 s=>e30_runs_L2 x0 k2 s) ([] : List (Nat→Int))).bind fun s=>e30_runs_K1 s
theorem e30_runs_c {x0 : Nat→Bool} {r : (List (Nat→Int))} (hM : e30_runs x0 = some r) : PCall Tryz.prog 107 [.agg (array_48_bool.cs x0)] (.sl 2 (List.map array_2_uint64.dv r)):=by
 unfold e30_runs at hM
 refine PCall.body Tryz.func107 Tryz.ntmps107 rfl rfl rfl rfl ?_
 refine a_seq (ar (.cons (o_box rfl rfl)<|.cons (o_assign rfl)<|.nil _) ?_)
 refine a_seq (ar (.cons (o_assign rfl)<|.nil _) ?_)
 refine a_cut (α:=(List (Nat→Int))) (fun s=>⟨[(3,.sl 2 (List.map array_2_uint64.dv s))],[],[]⟩) (fun s=>e30_runs_K1 s = some r) ?_ ?_
 ·refine a_seq (ar (.cons (o_move rfl)<|.nil _) ?_)
  obtain ⟨a3,hL4,hK4⟩ := of_bind hM
  refine a_block ?_
  refine a_fold (fun k2 (s : (List (Nat→Int)))=>⟨[(1,.ref 1 0),(3,.row 10001),(5,.int .i64 (k2 : Int))],[(1,some (.blk 58 (array_48_bool.cs x0))),(10001,some (.row 80 2 (List.map array_2_uint64.dv s)))],[1,10001]⟩) _ hL4 ((Imp.nilRow (t:=3) (id:=10002) 80 2 rfl rfl).trans (Imp.sh (fun i=>bif Nat.beq i 10001 then 10002 else i) rfl rfl rfl rfl rfl rfl)) ?_ ?_
  ·rintro k2 a3 t5 hk2 hx2 hM
   replace hM : e30_runs_L2 x0 k2 a3 = some t5:=hM
   unfold e30_runs_L2 at hM
   refine a_seq (ar (.cons (o_int rfl rfl rfl)<|.nil _) ?_)
   refine a_seq ?_
   refine a_cond _ rfl (fun _=>?_) (fun c=>absurd hk2 (of_decide_eq_false c))
   refine a_skip (a_seq (a_block (a_seq (ar (.cons (o_move rfl)<|.cons (o_assign rfl)<|.nil _) ?_))))
   refine a_seq (a_seq ?_)
   obtain ⟨h7,hM⟩ := of_chk hM
   refine ar (.cons (o_move rfl)<|.cons (t_index_d h7 rfl rfl)<|.cons (o_load_s rfl rfl (arr_get1 DV.bool x0 h7 rfl))<|.cons (o_not rfl)<|.nil _) ?_
   refine a_cond _ rfl (fun h8=>?_) (fun h8=>?_)
   ·replace hM:=(of_if hM).1 h8
    refine a_exit (ar (.cons (o_add rfl rfl (inR_i64 hk2 hx2))<|.cons (o_move rfl)<|.nil _) ?_)
    obtain rfl:=Option.some.inj hM
    exact (Imp.of (fun i=>i) (.cons rfl (DLe.refl _) (.cons rfl (DLe.refl _) (.cons rfl (DLe.succ _ _) .nil))) (.cons rfl (.refl _) (.cons rfl (.refl _) .nil)) rfl rfl rfl)
   ·replace hM:=(of_if hM).2 h8
    refine a_skip (a_seq ?_)
    obtain ⟨h9,hM⟩ := of_chk hM
    refine ar (.cons (o_move rfl)<|.cons (o_int rfl rfl rfl)<|.cons (o_move rfl)<|.cons (o_guardG .bT rfl rfl (fun hb=>(.keep .nil)) (fun hb=>o_move rfl))<|.cons (o_guardG .bT rfl rfl (fun hb=>(.strip rfl hb .nil)) (fun hb=>o_int rfl rfl rfl))<|.cons (o_guardG .bT rfl rfl (fun hb=>(.keep (.strip rfl hb .nil))) (fun hb=>t_index_d (h9 hb) rfl rfl))<|.cons (o_guardG .bT rfl rfl (fun hb=>(.strip rfl hb .nil)) (fun hb=>o_load_s rfl rfl (arr_get1 DV.bool x0 (h9 hb) rfl)))<|.cons (o_and rfl rfl)<|.nil _) ?_
    refine a_cond _ rfl (fun h10=>?_) (fun h10=>?_)
    ·replace hM:=(of_if hM).1 h10
     obtain ⟨v12,h11,hM⟩ := of_bind hM
     obtain ⟨v14,h13,hM⟩ := of_bind hM
     refine ad mixed (.cons (o_move rfl)<|.cons (o_move rfl)<|.cons (t_len_r rfl rfl)<|.cons (o_int rfl rfl rfl)<|.cons (t_index_r h11 rfl rfl rfl)<|.cons (o_indexAddr_pa 1 rfl rfl rfl (by decide))<|.cons (t_load_ps h11 rfl rfl rfl rfl)<|.cons (o_int rfl rfl rfl)<|.cons (t_index_r h13 rfl rfl rfl)<|.cons (o_indexAddr_pa 1 rfl rfl rfl (by decide))<|.cons (t_store_p (arr 0 [(v14 0),(IntKind.wrap .u64 ((v12 1) + 1))]) h13 rfl rfl rfl rfl rfl rfl rfl rfl rfl rfl rfl)<|.nil _) ?_
     refine ar (.cons (o_add rfl rfl (inR_i64 hk2 hx2))<|.cons (o_move rfl)<|.nil _) ?_
     obtain rfl:=Option.some.inj hM
     exact (Imp.of (fun i=>i) (.cons rfl (DLe.refl _) (.cons rfl (DLe.refl _) (.cons rfl (DLe.succ _ _) .nil))) (.cons rfl (.refl _) (.cons rfl (.refl _) .nil)) rfl rfl rfl)
    ·replace hM:=(of_if hM).2 h10
     obtain ⟨h15,hM⟩ := of_chk hM
     refine ar (.cons (o_move rfl)<|.cons (o_move rfl)<|.cons (o_conv_w rfl)<|.cons (o_build rfl rfl rfl)<|.cons (t_build array_2_uint64.dv ([(arr 0 [(IntKind.wrap .u64 (k2 : Int)),1])] : List (Nat→Int)) rfl rfl rfl rfl rfl rfl rfl)<|.cons (t_append [(arr 0 [(IntKind.wrap .u64 (k2 : Int)),1])] h15 rfl rfl rfl (Src.row rfl))<|.cons (o_assign rfl)<|.nil _) ?_
     refine ar (.cons (o_add rfl rfl (inR_i64 hk2 hx2))<|.cons (o_move rfl)<|.nil _) ?_
     obtain rfl:=Option.some.inj hM
     exact (Imp.of (fun i=>bif Nat.beq i 10001 then 35 else i) (.cons rfl (DLe.refl _) (.cons rfl (DLe.refl _) (.cons rfl (DLe.succ _ _) .nil))) (.cons rfl (.refl _) (.cons rfl (.refl _) .nil)) rfl rfl rfl)
  ·rintro k2 hk2 hx2
   refine a_seq (ar (.cons (o_int rfl rfl rfl)<|.nil _) ?_)
   refine a_seq ?_
   refine a_cond _ rfl (fun c=>absurd (of_decide_eq_true c) (Int.not_lt.2 hk2)) (fun _=>?_)
   refine a_exit ?_
   exact ⟨a3,hK4,((Imp.freeze (id:=10001) rfl).trans (Imp.sh (fun i=>i) rfl rfl rfl rfl rfl rfl))⟩
 ·rintro a1 hM
  replace hM : e30_runs_K1 a1 = some r:=hM
  unfold e30_runs_K1 at hM
  refine a_seq (ar (.cons (o_move rfl)<|.cons (o_assign rfl)<|.nil _) ?_)
  obtain rfl:=Option.some.inj hM
  exact a_ret (a_post (.r1 (.tmp rfl)) (DLe.refl _) PostOk.nil.spec)
def e30_Lost_K1 (a1 : Nat→Bool) : Option (List (Nat→Int)) :=
 (e30_runs a1).bind fun v3=>
 some v3
def e30_Lost_L2 (x0 : e30_Known) (k4 : Nat) (a5 : Nat→Bool) : Option (Nat→Bool) :=
 chk (inA 48 (k4 : Int))<|
 chk ((a5 (Int.toNat (k4 : Int))) = true→inA 48 (k4 : Int))<|
 chk (inA 48 (k4 : Int))<|
 some (upd a5 (Int.toNat (k4 : Int)) ((a5 (Int.toNat (k4 : Int))) && ((x0.gIds (Int.toNat (k4 : Int))) == 0)))
def e30_Lost (x0 : e30_Known) : Option (List (Nat→Int)) :=
 (foldM' 9223372036854775807 48 (fun k4 s=>e30_Lost_L2 x0 k4 s) x0.gLost).bind fun s=>e30_Lost_K1 s
theorem e30_Lost_c {x0 : e30_Known} {r : (List (Nat→Int))} (hM : e30_Lost x0 = some r) : PCall Tryz.prog 57 [.agg (e30_Known.cs x0)] (.sl 2 (List.map array_2_uint64.dv r)):=by
 unfold e30_Lost at hM
 refine PCall.body Tryz.func57 Tryz.ntmps57 rfl rfl rfl rfl ?_
 refine a_seq (ar (.cons (o_box rfl rfl)<|.cons (o_assign rfl)<|.nil _) ?_)
 refine a_cut (α:=(Nat→Bool)) (fun s=>⟨[(1,.ref 1 0)],[(1,some (.blk 60 (e30_Known.cs (e30_Known.mk x0.gIds s x0.gTotal))))],[1]⟩) (fun s=>e30_Lost_K1 s = some r) ?_ ?_
 ·refine a_seq (ar (.cons (o_move rfl)<|.nil _) ?_)
  obtain ⟨a5,hL6,hK6⟩ := of_bind hM
  refine a_block ?_
  refine a_fold (fun k4 (s : (Nat→Bool))=>⟨[(1,.ref 1 0),(4,.int .i64 (k4 : Int))],[(1,some (.blk 60 (e30_Known.cs (e30_Known.mk x0.gIds s x0.gTotal))))],[1]⟩) _ hL6 (Imp.sh (fun i=>i) rfl rfl rfl rfl rfl rfl) ?_ ?_
  ·rintro k4 a5 t7 hk4 hx4 hM
   replace hM : e30_Lost_L2 x0 k4 a5 = some t7:=hM
   unfold e30_Lost_L2 at hM
   refine a_seq (ar (.cons (o_int rfl rfl rfl)<|.nil _) ?_)
   refine a_seq ?_
   refine a_cond _ rfl (fun _=>?_) (fun c=>absurd hk4 (of_decide_eq_false c))
   refine a_skip (a_seq (a_block (a_seq (ar (.cons (o_move rfl)<|.cons (o_assign rfl)<|.nil _) ?_))))
   obtain ⟨h9,hM⟩ := of_chk hM
   obtain ⟨h10,hM⟩ := of_chk hM
   obtain ⟨h11,hM⟩ := of_chk hM
   refine ar (.cons (o_move rfl)<|.cons (o_move rfl)<|.cons (o_fieldAddr rfl)<|.cons (t_index_d h9 rfl rfl)<|.cons (o_load_s rfl rfl (arr_get1 DV.bool a5 h9 rfl))<|.cons (o_move rfl)<|.cons (o_guardG .bT rfl rfl (fun hb=>(.keep .nil)) (fun hb=>o_move rfl))<|.cons (o_guardG .bT rfl rfl (fun hb=>(.keep .nil)) (fun hb=>o_fieldAddr rfl))<|.cons (o_guardG .bT rfl rfl (fun hb=>(.strip rfl hb (.strip rfl hb .nil))) (fun hb=>t_index_d (h10 hb) rfl rfl))<|.cons (o_guardG .bT rfl rfl (fun hb=>(.strip rfl hb .nil)) (fun hb=>o_load_s rfl rfl (arr_get1 (DV.int .i64) x0.gIds (h10 hb) rfl)))<|.cons (o_guardG .bT rfl rfl (fun hb=>(.strip rfl hb .nil)) (fun hb=>o_int rfl rfl rfl))<|.cons (o_and rfl rfl)<|.cons (o_fieldAddr rfl)<|.cons (t_index_d h11 rfl rfl)<|.cons (o_store rfl rfl rfl rfl rfl (arr_ble (fun x=>[DV.bool x]) a5 (fun _=>rfl) (by decide) h11 rfl 0 1 (by decide)) (arr_set (ds' := [.int .i64 (x0.gIds 0),.int .i64 (x0.gIds 1),.int .i64 (x0.gIds 2),.int .i64 (x0.gIds 3),.int .i64 (x0.gIds 4),.int .i64 (x0.gIds 5),.int .i64 (x0.gIds 6),.int .i64 (x0.gIds 7),.int .i64 (x0.gIds 8),.int .i64 (x0.gIds 9),.int .i64 (x0.gIds 10),.int .i64 (x0.gIds 11),.int .i64 (x0.gIds 12),.int .i64 (x0.gIds 13),.int .i64 (x0.gIds 14),.int .i64 (x0.gIds 15),.int .i64 (x0.gIds 16),.int .i64 (x0.gIds 17),.int .i64 (x0.gIds 18),.int .i64 (x0.gIds 19),.int .i64 (x0.gIds 20),.int .i64 (x0.gIds 21),.int .i64 (x0.gIds 22),.int .i64 (x0.gIds 23),.int .i64 (x0.gIds 24),.int .i64 (x0.gIds 25),.int .i64 (x0.gIds 26),.int .i64 (x0.gIds 27),.int .i64 (x0.gIds 28),.int .i64 (x0.gIds 29),.int .i64 (x0.gIds 30),.int .i64 (x0.gIds 31),.int .i64 (x0.gIds 32),.int .i64 (x0.gIds 33),.int .i64 (x0.gIds 34),.int .i64 (x0.gIds 35),.int .i64 (x0.gIds 36),.int .i64 (x0.gIds 37),.int .i64 (x0.gIds 38),.int .i64 (x0.gIds 39),.int .i64 (x0.gIds 40),.int .i64 (x0.gIds 41),.int .i64 (x0.gIds 42),.int .i64 (x0.gIds 43),.int .i64 (x0.gIds 44),.int .i64 (x0.gIds 45),.int .i64 (x0.gIds 46),.int .i64 (x0.gIds 47),.bool ((upd a5 (Int.toNat (k4 : Int)) ((a5 (Int.toNat (k4 : Int))) && ((x0.gIds (Int.toNat (k4 : Int))) == 0))) 0),.bool ((upd a5 (Int.toNat (k4 : Int)) ((a5 (Int.toNat (k4 : Int))) && ((x0.gIds (Int.toNat (k4 : Int))) == 0))) 1),.bool ((upd a5 (Int.toNat (k4 : Int)) ((a5 (Int.toNat (k4 : Int))) && ((x0.gIds (Int.toNat (k4 : Int))) == 0))) 2),.bool ((upd a5 (Int.toNat (k4 : Int)) ((a5 (Int.toNat (k4 : Int))) && ((x0.gIds (Int.toNat (k4 : Int))) == 0))) 3),.bool ((upd a5 (Int.toNat (k4 : Int)) ((a5 (Int.toNat (k4 : Int))) && ((x0.gIds (Int.toNat (k4 : Int))) == 0))) 4),.bool ((upd a5 (Int.toNat (k4 : Int)) ((a5 (Int.toNat (k4 : Int))) && ((x0.gIds (Int.toNat (k4 : Int))) == 0))) 5),.bool ((upd a5 (Int.toNat (k4 : Int)) ((a5 (Int.toNat (k4 : Int))) && ((x0.gIds (Int.toNat (k4 : Int))) == 0))) 6),.bool ((upd a5 (Int.toNat (k4 : Int)) ((a5 (Int.toNat (k4 : Int))) && ((x0.gIds (Int.toNat (k4 : Int))) == 0))) 7),.bool ((upd a5 (Int.toNat (k4 : Int)) ((a5 (Int.toNat (k4 : Int))) && ((x0.gIds (Int.toNat (k4 : Int))) == 0))) 8),.bool ((upd a5 (Int.toNat (k4 : Int)) ((a5 (Int.toNat (k4 : Int))) && ((x0.gIds (Int.toNat (k4 : Int))) == 0))) 9),.bool ((upd a5 (Int.toNat (k4 : Int)) ((a5 (Int.toNat (k4 : Int))) && ((x0.gIds (Int.toNat (k4 : Int))) == 0))) 10),.bool ((upd a5 (Int.toNat (k4 : Int)) ((a5 (Int.toNat (k4 : Int))) && ((x0.gIds (Int.toNat (k4 : Int))) == 0))) 11),.bool ((upd a5 (Int.toNat (k4 : Int)) ((a5 (Int.toNat (k4 : Int))) && ((x0.gIds (Int.toNat (k4 : Int))) == 0))) 12),.bool ((upd a5 (Int.toNat (k4 : Int)) ((a5 (Int.toNat (k4 : Int))) && ((x0.gIds (Int.toNat (k4 : Int))) == 0))) 13),.bool ((upd a5 (Int.toNat (k4 : Int)) ((a5 (Int.toNat (k4 : Int))) && ((x0.gIds (Int.toNat (k4 : Int))) == 0))) 14),.bool ((upd a5 (Int.toNat (k4 : Int)) ((a5 (Int.toNat (k4 : Int))) && ((x0.gIds (Int.toNat (k4 : Int))) == 0))) 15),.bool ((upd a5 (Int.toNat (k4 : Int)) ((a5 (Int.toNat (k4 : Int))) && ((x0.gIds (Int.toNat (k4 : Int))) == 0))) 16),.bool ((upd a5 (Int.toNat (k4 : Int)) ((a5 (Int.toNat (k4 : Int))) && ((x0.gIds (Int.toNat (k4 : Int))) == 0))) 17),.bool ((upd a5 (Int.toNat (k4 : Int)) ((a5 (Int.toNat (k4 : Int))) && ((x0.gIds (Int.toNat (k4 : Int))) == 0))) 18),.bool ((upd a5 (Int.toNat (k4 : Int)) ((a5 (Int.toNat (k4 : Int))) && ((x0.gIds (Int.toNat (k4 : Int))) == 0))) 19),.bool ((upd a5 (Int.toNat (k4 : Int)) ((a5 (Int.toNat (k4 : Int))) && ((x0.gIds (Int.toNat (k4 : Int))) == 0))) 20),.bool ((upd a5 (Int.toNat (k4 : Int)) ((a5 (Int.toNat (k4 : Int))) && ((x0.gIds (Int.toNat (k4 : Int))) == 0))) 21),.bool ((upd a5 (Int.toNat (k4 : Int)) ((a5 (Int.toNat (k4 : Int))) && ((x0.gIds (Int.toNat (k4 : Int))) == 0))) 22),.bool ((upd a5 (Int.toNat (k4 : Int)) ((a5 (Int.toNat (k4 : Int))) && ((x0.gIds (Int.toNat (k4 : Int))) == 0))) 23),.bool ((upd a5 (Int.toNat (k4 : Int)) ((a5 (Int.toNat (k4 : Int))) && ((x0.gIds (Int.toNat (k4 : Int))) == 0))) 24),.bool ((upd a5 (Int.toNat (k4 : Int)) ((a5 (Int.toNat (k4 : Int))) && ((x0.gIds (Int.toNat (k4 : Int))) == 0))) 25),.bool ((upd a5 (Int.toNat (k4 : Int)) ((a5 (Int.toNat (k4 : Int))) && ((x0.gIds (Int.toNat (k4 : Int))) == 0))) 26),.bool ((upd a5 (Int.toNat (k4 : Int)) ((a5 (Int.toNat (k4 : Int))) && ((x0.gIds (Int.toNat (k4 : Int))) == 0))) 27),.bool ((upd a5 (Int.toNat (k4 : Int)) ((a5 (Int.toNat (k4 : Int))) && ((x0.gIds (Int.toNat (k4 : Int))) == 0))) 28),.bool ((upd a5 (Int.toNat (k4 : Int)) ((a5 (Int.toNat (k4 : Int))) && ((x0.gIds (Int.toNat (k4 : Int))) == 0))) 29),.bool ((upd a5 (Int.toNat (k4 : Int)) ((a5 (Int.toNat (k4 : Int))) && ((x0.gIds (Int.toNat (k4 : Int))) == 0))) 30),.bool ((upd a5 (Int.toNat (k4 : Int)) ((a5 (Int.toNat (k4 : Int))) && ((x0.gIds (Int.toNat (k4 : Int))) == 0))) 31),.bool ((upd a5 (Int.toNat (k4 : Int)) ((a5 (Int.toNat (k4 : Int))) && ((x0.gIds (Int.toNat (k4 : Int))) == 0))) 32),.bool ((upd a5 (Int.toNat (k4 : Int)) ((a5 (Int.toNat (k4 : Int))) && ((x0.gIds (Int.toNat (k4 : Int))) == 0))) 33),.bool ((upd a5 (Int.toNat (k4 : Int)) ((a5 (Int.toNat (k4 : Int))) && ((x0.gIds (Int.toNat (k4 : Int))) == 0))) 34),.bool ((upd a5 (Int.toNat (k4 : Int)) ((a5 (Int.toNat (k4 : Int))) && ((x0.gIds (Int.toNat (k4 : Int))) == 0))) 35),.bool ((upd a5 (Int.toNat (k4 : Int)) ((a5 (Int.toNat (k4 : Int))) && ((x0.gIds (Int.toNat (k4 : Int))) == 0))) 36),.bool ((upd a5 (Int.toNat (k4 : Int)) ((a5 (Int.toNat (k4 : Int))) && ((x0.gIds (Int.toNat (k4 : Int))) == 0))) 37),.bool ((upd a5 (Int.toNat (k4 : Int)) ((a5 (Int.toNat (k4 : Int))) && ((x0.gIds (Int.toNat (k4 : Int))) == 0))) 38),.bool ((upd a5 (Int.toNat (k4 : Int)) ((a5 (Int.toNat (k4 : Int))) && ((x0.gIds (Int.toNat (k4 : Int))) == 0))) 39),.bool ((upd a5 (Int.toNat (k4 : Int)) ((a5 (Int.toNat (k4 : Int))) && ((x0.gIds (Int.toNat (k4 : Int))) == 0))) 40),.bool ((upd a5 (Int.toNat (k4 : Int)) ((a5 (Int.toNat (k4 : Int))) && ((x0.gIds (Int.toNat (k4 : Int))) == 0))) 41),.bool ((upd a5 (Int.toNat (k4 : Int)) ((a5 (Int.toNat (k4 : Int))) && ((x0.gIds (Int.toNat (k4 : Int))) == 0))) 42),.bool ((upd a5 (Int.toNat (k4 : Int)) ((a5 (Int.toNat (k4 : Int))) && ((x0.gIds (Int.toNat (k4 : Int))) == 0))) 43),.bool ((upd a5 (Int.toNat (k4 : Int)) ((a5 (Int.toNat (k4 : Int))) && ((x0.gIds (Int.toNat (k4 : Int))) == 0))) 44),.bool ((upd a5 (Int.toNat (k4 : Int)) ((a5 (Int.toNat (k4 : Int))) && ((x0.gIds (Int.toNat (k4 : Int))) == 0))) 45),.bool ((upd a5 (Int.toNat (k4 : Int)) ((a5 (Int.toNat (k4 : Int))) && ((x0.gIds (Int.toNat (k4 : Int))) == 0))) 46),.bool ((upd a5 (Int.toNat (k4 : Int)) ((a5 (Int.toNat (k4 : Int))) && ((x0.gIds (Int.toNat (k4 : Int))) == 0))) 47),.int .i64 x0.gTotal]) (fun x=>[DV.bool x]) a5 ((a5 (Int.toNat (k4 : Int))) && ((x0.gIds (Int.toNat (k4 : Int))) == 0)) (fun _=>rfl) (by decide) h11 rfl 0 (Nat.le_of_ble_eq_true rfl) rfl rfl rfl rfl))<|.nil _) ?_
   refine ar (.cons (o_add rfl rfl (inR_i64 hk4 hx4))<|.cons (o_move rfl)<|.nil _) ?_
   obtain rfl:=Option.some.inj hM
   exact (Imp.of (fun i=>i) (.cons rfl (DLe.refl _) (.cons rfl (DLe.succ _ _) .nil)) (.cons rfl (.refl _) .nil) rfl rfl rfl)
  ·rintro k4 hk4 hx4
   refine a_seq (ar (.cons (o_int rfl rfl rfl)<|.nil _) ?_)
   refine a_seq ?_
   refine a_cond _ rfl (fun c=>absurd (of_decide_eq_true c) (Int.not_lt.2 hk4)) (fun _=>?_)
   refine a_exit ?_
   exact ⟨a5,hK6,(Imp.sh (fun i=>i) rfl rfl rfl rfl rfl rfl)⟩
 ·rintro a1 hM
  replace hM : e30_Lost_K1 a1 = some r:=hM
  unfold e30_Lost_K1 at hM
  refine a_seq ?_
  obtain ⟨v3,h2,hM⟩ := of_bind hM
  refine ar (.cons (o_fieldAddr rfl)<|.cons (o_load_r rfl rfl rfl rfl)<|.cons (o_call (e30_runs_c h2) rfl (DLeL.refl _) rfl)<|.cons (o_assign rfl)<|.nil _) ?_
  obtain rfl:=Option.some.inj hM
  exact a_ret (a_post (.r1 (.tmp rfl)) (DLe.refl _) PostOk.nil.spec)
def e30_Missing_K2 (a2 : Nat→Bool) : Option (List (Nat→Int)) :=
 (e30_runs a2).bind fun v4=>
 some v4
def e30_Missing_L3 (x0 : e30_Known) (a1 : Int) (k5 : Nat) (a6 : Nat→Bool) : Option (Nat→Bool) :=
 chk ((decide ((k5 : Int) < a1)) = true→inA 48 (k5 : Int))<|
 chk (inA 48 (k5 : Int))<|
 some (upd a6 (Int.toNat (k5 : Int)) ((decide ((k5 : Int) < a1)) && ((x0.gIds (Int.toNat (k5 : Int))) == 0)))
def e30_Missing_K1 (x0 : e30_Known) (a1 : Int) : Option (List (Nat→Int)) :=
 (foldM' 9223372036854775807 48 (fun k5 s=>e30_Missing_L3 x0 a1 k5 s) (arr false [false,false,false,false,false,false,false,false,false,false,false,false,false,false,false,false,false,false,false,false,false,false,false,false,false,false,false,false,false,false,false,false,false,false,false,false,false,false,false,false,false,false,false,false,false,false,false,false])).bind fun s=>e30_Missing_K2 s
def e30_Missing_L4 (x0 : e30_Known) (k12 : Nat) (a13 : Int) : Option Int :=
 chk ((decide (x0.gTotal < 0)) = true→inA 48 (k12 : Int))<|
 chk (((decide (x0.gTotal < 0)) && !((x0.gIds (Int.toNat (k12 : Int))) != 0)) = true→inA 48 (k12 : Int))<|
 if ((decide (x0.gTotal < 0)) && (((x0.gIds (Int.toNat (k12 : Int))) != 0) || (x0.gLost (Int.toNat (k12 : Int))))) = true then
  some ((k12 : Int) + 1)
 else
  some a13
def e30_Missing (x0 : e30_Known) : Option (List (Nat→Int)) :=
 (foldM' 9223372036854775807 48 (fun k12 s=>e30_Missing_L4 x0 k12 s) x0.gTotal).bind fun s=>e30_Missing_K1 x0 s
theorem e30_Missing_c {x0 : e30_Known} {r : (List (Nat→Int))} (hM : e30_Missing x0 = some r) : PCall Tryz.prog 58 [.agg (e30_Known.cs x0)] (.sl 2 (List.map array_2_uint64.dv r)):=by
 unfold e30_Missing at hM
 refine PCall.body Tryz.func58 Tryz.ntmps58 rfl rfl rfl rfl ?_
 refine a_seq (ar (.cons (o_box rfl rfl)<|.cons (o_assign rfl)<|.nil _) ?_)
 refine a_seq (ar (.cons (o_fieldAddr rfl)<|.cons (o_load_s rfl rfl rfl)<|.cons (o_assign rfl)<|.nil _) ?_)
 refine a_cut (α:=Int) (fun s=>⟨[(1,.ref 1 0),(3,.int .i64 s)],[(1,some (.blk 60 (e30_Known.cs x0)))],[1]⟩) (fun s=>e30_Missing_K1 x0 s = some r) ?_ ?_
 ·refine a_seq (ar (.cons (o_move rfl)<|.nil _) ?_)
  obtain ⟨a13,hL14,hK14⟩ := of_bind hM
  refine a_block ?_
  refine a_fold (fun k12 (s : Int)=>⟨[(1,.ref 1 0),(3,.int .i64 s),(9,.int .i64 (k12 : Int))],[(1,some (.blk 60 (e30_Known.cs x0)))],[1]⟩) _ hL14 (Imp.sh (fun i=>i) rfl rfl rfl rfl rfl rfl) ?_ ?_
  ·rintro k12 a13 t15 hk12 hx12 hM
   replace hM : e30_Missing_L4 x0 k12 a13 = some t15:=hM
   unfold e30_Missing_L4 at hM
   refine a_seq (ar (.cons (o_int rfl rfl rfl)<|.nil _) ?_)
   refine a_seq ?_
   refine a_cond _ rfl (fun _=>?_) (fun c=>absurd hk12 (of_decide_eq_false c))
   refine a_skip (a_seq (a_block (a_seq (ar (.cons (o_move rfl)<|.cons (o_assign rfl)<|.nil _) ?_))))
   refine a_seq ?_
   obtain ⟨h17,hM⟩ := of_chk hM
   obtain ⟨h18,hM⟩ := of_chk hM
   refine ar (.cons (o_fieldAddr rfl)<|.cons (o_load_s rfl rfl rfl)<|.cons (o_int rfl rfl rfl)<|.cons (o_move rfl)<|.cons (o_guardG .bT rfl rfl (fun hb=>(.keep .nil)) (fun hb=>o_move rfl))<|.cons (o_guardG .bT rfl rfl (fun hb=>(.keep .nil)) (fun hb=>o_fieldAddr rfl))<|.cons (o_guardG .bT rfl rfl (fun hb=>(.strip rfl hb (.strip rfl hb .nil))) (fun hb=>t_index_d (h17 hb) rfl rfl))<|.cons (o_guardG .bT rfl rfl (fun hb=>(.strip rfl hb .nil)) (fun hb=>o_load_s rfl rfl (arr_get1 (DV.int .i64) x0.gIds (h17 hb) rfl)))<|.cons (o_guardG .bT rfl rfl (fun hb=>(.strip rfl hb .nil)) (fun hb=>o_int rfl rfl rfl))<|.cons (o_guardG .bT rfl rfl (fun hb=>(.strip rfl hb .nil)) (fun hb=>o_move rfl))<|.cons (o_guardG .iF rfl rfl (fun hb=>(.keep .nil)) (fun hb=>o_move rfl))<|.cons (o_guardG .iF rfl rfl (fun hb=>(.keep .nil)) (fun hb=>o_fieldAddr rfl))<|.cons (o_guardG .iF rfl rfl (fun hb=>(.strip rfl hb (.strip rfl hb .nil))) (fun hb=>t_index_d (h18 hb) rfl rfl))<|.cons (o_guardG .iF rfl rfl (fun hb=>(.strip rfl hb .nil)) (fun hb=>o_load_s rfl rfl (arr_get1 DV.bool x0.gLost (h18 hb) rfl)))<|.cons (o_guardG .bT rfl rfl (fun hb=>(.strip rfl hb (.half rfl hb .nil))) (fun hb=>o_or rfl rfl))<|.cons (o_and rfl rfl)<|.nil _) ?_
   refine a_cond _ rfl (fun h19=>?_) (fun h19=>?_)
   ·replace hM:=(of_if hM).1 h19
    refine ar (.cons (o_move rfl)<|.cons (o_add rfl rfl (inR_i64 hk12 hx12))<|.cons (o_assign rfl)<|.nil _) ?_
    refine ar (.cons (o_add rfl rfl (inR_i64 hk12 hx12))<|.cons (o_move rfl)<|.nil _) ?_
    obtain rfl:=Option.some.inj hM
    exact (Imp.of (fun i=>i) (.cons rfl (DLe.refl _) (.cons rfl (DLe.succ _ _) (.cons rfl (DLe.succ _ _) .nil))) (.cons rfl (.refl _) .nil) rfl rfl rfl)
   ·replace hM:=(of_if hM).2 h19
    refine a_skip (ar (.cons (o_add rfl rfl (inR_i64 hk12 hx12))<|.cons (o_move rfl)<|.nil _) ?_)
    obtain rfl:=Option.some.inj hM
    exact (Imp.of (fun i=>i) (.cons rfl (DLe.refl _) (.cons rfl (DLe.refl _) (.cons rfl (DLe.succ _ _) .nil))) (.cons rfl (.refl _) .nil) rfl rfl rfl)
  ·rintro k12 hk12 hx12
   refine a_seq (ar (.cons (o_int rfl rfl rfl)<|.nil _) ?_)
   refine a_seq ?_
   refine a_cond _ rfl (fun c=>absurd (of_decide_eq_true c) (Int.not_lt.2 hk12)) (fun _=>?_)
   refine a_exit ?_
   exact ⟨a13,hK14,(Imp.sh (fun i=>i) rfl rfl rfl rfl rfl rfl)⟩
 ·rintro a1 hM
  replace hM : e30_Missing_K1 x0 a1 = some r:=hM
  unfold e30_Missing_K1 at hM
  refine a_seq (ar (.cons (o_alloc rfl)<|.nil _) ?_)
  refine a_cut (α:=(Nat→Bool)) (fun s=>⟨[(5,.ref 5 0)],[(5,some (.blk 58 (array_48_bool.cs s)))],[5]⟩) (fun s=>e30_Missing_K2 s = some r) ?_ ?_
  ·refine a_seq (ar (.cons (o_move rfl)<|.nil _) ?_)
   obtain ⟨a6,hL7,hK7⟩ := of_bind hM
   refine a_block ?_
   refine a_fold (fun k5 (s : (Nat→Bool))=>⟨[(1,.ref 1 0),(3,.int .i64 a1),(5,.ref 5 0),(31,.int .i64 (k5 : Int))],[(1,some (.blk 60 (e30_Known.cs x0))),(5,some (.blk 58 (array_48_bool.cs s)))],[1,5]⟩) _ hL7 (Imp.sh (fun i=>i) rfl rfl rfl rfl rfl rfl) ?_ ?_
   ·rintro k5 a6 t8 hk5 hx5 hM
    replace hM : e30_Missing_L3 x0 a1 k5 a6 = some t8:=hM
    unfold e30_Missing_L3 at hM
    refine a_seq (ar (.cons (o_int rfl rfl rfl)<|.nil _) ?_)
    refine a_seq ?_
    refine a_cond _ rfl (fun _=>?_) (fun c=>absurd hk5 (of_decide_eq_false c))
    refine a_skip (a_seq (a_block (a_seq (ar (.cons (o_move rfl)<|.cons (o_assign rfl)<|.nil _) ?_))))
    obtain ⟨h10,hM⟩ := of_chk hM
    obtain ⟨h11,hM⟩ := of_chk hM
    refine ar (.cons (o_move rfl)<|.cons (o_move rfl)<|.cons (o_move rfl)<|.cons (o_int rfl rfl rfl)<|.cons (o_move rfl)<|.cons (o_guardG .bT rfl rfl (fun hb=>(.keep .nil)) (fun hb=>o_move rfl))<|.cons (o_guardG .bT rfl rfl (fun hb=>(.keep .nil)) (fun hb=>o_fieldAddr rfl))<|.cons (o_guardG .bT rfl rfl (fun hb=>(.strip rfl hb (.strip rfl hb .nil))) (fun hb=>t_index_d (h10 hb) rfl rfl))<|.cons (o_guardG .bT rfl rfl (fun hb=>(.strip rfl hb .nil)) (fun hb=>o_load_s rfl rfl (arr_get1 (DV.int .i64) x0.gIds (h10 hb) rfl)))<|.cons (o_guardG .bT rfl rfl (fun hb=>(.strip rfl hb .nil)) (fun hb=>o_int rfl rfl rfl))<|.cons (o_and rfl rfl)<|.cons (t_index_d h11 rfl rfl)<|.cons (o_store rfl rfl rfl rfl rfl (arr_ble (fun x=>[DV.bool x]) a6 (fun _=>rfl) (by decide) h11 rfl 0 1 (by decide)) (arr_set (ds' := [.bool ((upd a6 (Int.toNat (k5 : Int)) ((decide ((k5 : Int) < a1)) && ((x0.gIds (Int.toNat (k5 : Int))) == 0))) 0),.bool ((upd a6 (Int.toNat (k5 : Int)) ((decide ((k5 : Int) < a1)) && ((x0.gIds (Int.toNat (k5 : Int))) == 0))) 1),.bool ((upd a6 (Int.toNat (k5 : Int)) ((decide ((k5 : Int) < a1)) && ((x0.gIds (Int.toNat (k5 : Int))) == 0))) 2),.bool ((upd a6 (Int.toNat (k5 : Int)) ((decide ((k5 : Int) < a1)) && ((x0.gIds (Int.toNat (k5 : Int))) == 0))) 3),.bool ((upd a6 (Int.toNat (k5 : Int)) ((decide ((k5 : Int) < a1)) && ((x0.gIds (Int.toNat (k5 : Int))) == 0))) 4),.bool ((upd a6 (Int.toNat (k5 : Int)) ((decide ((k5 : Int) < a1)) && ((x0.gIds (Int.toNat (k5 : Int))) == 0))) 5),.bool ((upd a6 (Int.toNat (k5 : Int)) ((decide ((k5 : Int) < a1)) && ((x0.gIds (Int.toNat (k5 : Int))) == 0))) 6),.bool ((upd a6 (Int.toNat (k5 : Int)) ((decide ((k5 : Int) < a1)) && ((x0.gIds (Int.toNat (k5 : Int))) == 0))) 7),.bool ((upd a6 (Int.toNat (k5 : Int)) ((decide ((k5 : Int) < a1)) && ((x0.gIds (Int.toNat (k5 : Int))) == 0))) 8),.bool ((upd a6 (Int.toNat (k5 : Int)) ((decide ((k5 : Int) < a1)) && ((x0.gIds (Int.toNat (k5 : Int))) == 0))) 9),.bool ((upd a6 (Int.toNat (k5 : Int)) ((decide ((k5 : Int) < a1)) && ((x0.gIds (Int.toNat (k5 : Int))) == 0))) 10),.bool ((upd a6 (Int.toNat (k5 : Int)) ((decide ((k5 : Int) < a1)) && ((x0.gIds (Int.toNat (k5 : Int))) == 0))) 11),.bool ((upd a6 (Int.toNat (k5 : Int)) ((decide ((k5 : Int) < a1)) && ((x0.gIds (Int.toNat (k5 : Int))) == 0))) 12),.bool ((upd a6 (Int.toNat (k5 : Int)) ((decide ((k5 : Int) < a1)) && ((x0.gIds (Int.toNat (k5 : Int))) == 0))) 13),.bool ((upd a6 (Int.toNat (k5 : Int)) ((decide ((k5 : Int) < a1)) && ((x0.gIds (Int.toNat (k5 : Int))) == 0))) 14),.bool ((upd a6 (Int.toNat (k5 : Int)) ((decide ((k5 : Int) < a1)) && ((x0.gIds (Int.toNat (k5 : Int))) == 0))) 15),.bool ((upd a6 (Int.toNat (k5 : Int)) ((decide ((k5 : Int) < a1)) && ((x0.gIds (Int.toNat (k5 : Int))) == 0))) 16),.bool ((upd a6 (Int.toNat (k5 : Int)) ((decide ((k5 : Int) < a1)) && ((x0.gIds (Int.toNat (k5 : Int))) == 0))) 17),.bool ((upd a6 (Int.toNat (k5 : Int)) ((decide ((k5 : Int) < a1)) && ((x0.gIds (Int.toNat (k5 : Int))) == 0))) 18),.bool ((upd a6 (Int.toNat (k5 : Int)) ((decide ((k5 : Int) < a1)) && ((x0.gIds (Int.toNat (k5 : Int))) == 0))) 19),.bool ((upd a6 (Int.toNat (k5 : Int)) ((decide ((k5 : Int) < a1)) && ((x0.gIds (Int.toNat (k5 : Int))) == 0))) 20),.bool ((upd a6 (Int.toNat (k5 : Int)) ((decide ((k5 : Int) < a1)) && ((x0.gIds (Int.toNat (k5 : Int))) == 0))) 21),.bool ((upd a6 (Int.toNat (k5 : Int)) ((decide ((k5 : Int) < a1)) && ((x0.gIds (Int.toNat (k5 : Int))) == 0))) 22),.bool ((upd a6 (Int.toNat (k5 : Int)) ((decide ((k5 : Int) < a1)) && ((x0.gIds (Int.toNat (k5 : Int))) == 0))) 23),.bool ((upd a6 (Int.toNat (k5 : Int)) ((decide ((k5 : Int) < a1)) && ((x0.gIds (Int.toNat (k5 : Int))) == 0))) 24),.bool ((upd a6 (Int.toNat (k5 : Int)) ((decide ((k5 : Int) < a1)) && ((x0.gIds (Int.toNat (k5 : Int))) == 0))) 25),.bool ((upd a6 (Int.toNat (k5 : Int)) ((decide ((k5 : Int) < a1)) && ((x0.gIds (Int.toNat (k5 : Int))) == 0))) 26),.bool ((upd a6 (Int.toNat (k5 : Int)) ((decide ((k5 : Int) < a1)) && ((x0.gIds (Int.toNat (k5 : Int))) == 0))) 27),.bool ((upd a6 (Int.toNat (k5 : Int)) ((decide ((k5 : Int) < a1)) && ((x0.gIds (Int.toNat (k5 : Int))) == 0))) 28),.bool ((upd a6 (Int.toNat (k5 : Int)) ((decide ((k5 : Int) < a1)) && ((x0.gIds (Int.toNat (k5 : Int))) == 0))) 29),.bool ((upd a6 (Int.toNat (k5 : Int)) ((decide ((k5 : Int) < a1)) && ((x0.gIds (Int.toNat (k5 : Int))) == 0))) 30),.bool ((upd a6 (Int.toNat (k5 : Int)) ((decide ((k5 : Int) < a1)) && ((x0.gIds (Int.toNat (k5 : Int))) == 0))) 31),.bool ((upd a6 (Int.toNat (k5 : Int)) ((decide ((k5 : Int) < a1)) && ((x0.gIds (Int.toNat (k5 : Int))) == 0))) 32),.bool ((upd a6 (Int.toNat (k5 : Int)) ((decide ((k5 : Int) < a1)) && ((x0.gIds (Int.toNat (k5 : Int))) == 0))) 33),.bool ((upd a6 (Int.toNat (k5 : Int)) ((decide ((k5 : Int) < a1)) && ((x0.gIds (Int.toNat (k5 : Int))) == 0))) 34),.bool ((upd a6 (Int.toNat (k5 : Int)) ((decide ((k5 : Int) < a1)) && ((x0.gIds (Int.toNat (k5 : Int))) == 0))) 35),.bool ((upd a6 (Int.toNat (k5 : Int)) ((decide ((k5 : Int) < a1)) && ((x0.gIds (Int.toNat (k5 : Int))) == 0))) 36),.bool ((upd a6 (Int.toNat (k5 : Int)) ((decide ((k5 : Int) < a1)) && ((x0.gIds (Int.toNat (k5 : Int))) == 0))) 37),.bool ((upd a6 (Int.toNat (k5 : Int)) ((decide ((k5 : Int) < a1)) && ((x0.gIds (Int.toNat (k5 : Int))) == 0))) 38),.bool ((upd a6 (Int.toNat (k5 : Int)) ((decide ((k5 : Int) < a1)) && ((x0.gIds (Int.toNat (k5 : Int))) == 0))) 39),.bool ((upd a6 (Int.toNat (k5 : Int)) ((decide ((k5 : Int) < a1)) && ((x0.gIds (Int.toNat (k5 : Int))) == 0))) 40),.bool ((upd a6 (Int.toNat (k5 : Int)) ((decide ((k5 : Int) < a1)) && ((x0.gIds (Int.toNat (k5 : Int))) == 0))) 41),.bool ((upd a6 (Int.toNat (k5 : Int)) ((decide ((k5 : Int) < a1)) && ((x0.gIds (Int.toNat (k5 : Int))) == 0))) 42),.bool ((upd a6 (Int.toNat (k5 : Int)) ((decide ((k5 : Int) < a1)) && ((x0.gIds (Int.toNat (k5 : Int))) == 0))) 43),.bool ((upd a6 (Int.toNat (k5 : Int)) ((decide ((k5 : Int) < a1)) && ((x0.gIds (Int.toNat (k5 : Int))) == 0))) 44),.bool ((upd a6 (Int.toNat (k5 : Int)) ((decide ((k5 : Int) < a1)) && ((x0.gIds (Int.toNat (k5 : Int))) == 0))) 45),.bool ((upd a6 (Int.toNat (k5 : Int)) ((decide ((k5 : Int) < a1)) && ((x0.gIds (Int.toNat (k5 : Int))) == 0))) 46),.bool ((upd a6 (Int.toNat (k5 : Int)) ((decide ((k5 : Int) < a1)) && ((x0.gIds (Int.toNat (k5 : Int))) == 0))) 47)]) (fun x=>[DV.bool x]) a6 ((decide ((k5 : Int) < a1)) && ((x0.gIds (Int.toNat (k5 : Int))) == 0)) (fun _=>rfl) (by decide) h11 rfl 0 (Nat.le_of_ble_eq_true rfl) rfl rfl rfl rfl))<|.nil _) ?_
    refine ar (.cons (o_add rfl rfl (inR_i64 hk5 hx5))<|.cons (o_move rfl)<|.nil _) ?_
    obtain rfl:=Option.some.inj hM
    exact (Imp.of (fun i=>i) (.cons rfl (DLe.refl _) (.cons rfl (DLe.refl _) (.cons rfl (DLe.refl _) (.cons rfl (DLe.succ _ _) .nil)))) (.cons rfl (.refl _) (.cons rfl (.refl _) .nil)) rfl rfl rfl)
   ·rintro k5 hk5 hx5
    refine a_seq (ar (.cons (o_int rfl rfl rfl)<|.nil _) ?_)
    refine a_seq ?_
    refine a_cond _ rfl (fun c=>absurd (of_decide_eq_true c) (Int.not_lt.2 hk5)) (fun _=>?_)
    refine a_exit ?_
    exact ⟨a6,hK7,(Imp.sh (fun i=>i) rfl rfl rfl rfl rfl rfl)⟩
  ·rintro a2 hM
   replace hM : e30_Missing_K2 a2 = some r:=hM
   unfold e30_Missing_K2 at hM
   refine a_seq ?_
   obtain ⟨v4,h3,hM⟩ := of_bind hM
   refine ar (.cons (o_load_r rfl rfl rfl rfl)<|.cons (o_call (e30_runs_c h3) rfl (DLeL.refl _) rfl)<|.cons (o_assign rfl)<|.nil _) ?_
   obtain rfl:=Option.some.inj hM
   exact a_ret (a_post (.r1 (.tmp rfl)) (DLe.refl _) PostOk.nil.spec)
def e30_Complete (x0 : e30_Known) : Option Bool :=
 (gb (decide (0≤x0.gTotal)) ([]) (e30_Missing x0)).bind fun v2=>
 some ((decide (0≤x0.gTotal)) && ((List.length v2 : Int) == 0))
theorem e30_Complete_c {x0 : e30_Known} {r : Bool} (hM : e30_Complete x0 = some r) : PCall Tryz.prog 59 [.agg (e30_Known.cs x0)] (.bool r):=by
 unfold e30_Complete at hM
 refine PCall.body Tryz.func59 Tryz.ntmps59 rfl rfl rfl rfl ?_
 refine a_seq (ar (.cons (o_box rfl rfl)<|.cons (o_assign rfl)<|.nil _) ?_)
 refine a_seq ?_
 obtain ⟨v2,h1,hM⟩ := of_bind hM
 refine ar (.cons (o_fieldAddr rfl)<|.cons (o_load_s rfl rfl rfl)<|.cons (o_int rfl rfl rfl)<|.cons (o_move rfl)<|.cons (o_guardG .bT rfl rfl (fun hb=>(.keep .nil)) (fun hb=>o_load_r rfl rfl rfl rfl))<|.cons (o_guardG .bT rfl rfl (fun hb=>(.strip rfl hb .nil)) (fun hb=>o_call (e30_Missing_c (of_gb h1 hb)) rfl (DLeL.refl _) rfl))<|.cons (o_guardG .bT rfl rfl (fun hb=>(.strip rfl hb .nil)) (fun hb=>t_len rfl))<|.cons (o_guardG .bT rfl rfl (fun hb=>(.strip rfl hb .nil)) (fun hb=>o_int rfl rfl rfl))<|.cons (o_and rfl rfl)<|.cons (o_assign rfl)<|.nil _) ?_
 obtain rfl:=Option.some.inj hM
 exact a_ret (a_post (.r1 (.tmp rfl)) (DLe.refl _) PostOk.nil.spec)
def CColl_Components_a (o0 : CColl) : Option Int :=
 some (if (IntKind.wrap .i64 ((List.length o0.gparts : Int) - 1)) > 0 then (IntKind.wrap .i64 ((List.length o0.gparts : Int) - 1)) else 0)
theorem CColl_Components_a_c {o0 : CColl} {r : Int} (hM : CColl_Components_a o0 = some r) : ACall Tryz.prog 40 ⟨[.ref 100000 0],[(100000,some (.blk 134 [.row 100001])),(100001,some (.row 137 4 (List.map CPart.dv o0.gparts)))],.int .i64 r,[(100000,some (.blk 134 [.row 100001])),(100001,some (.row 137 4 (List.map CPart.dv o0.gparts)))],[]⟩ := by
 unfold CColl_Components_a at hM
 refine ACall.body Tryz.func40 Tryz.ntmps40 rfl rfl rfl rfl ?_
 refine a_seq (ar (.cons (o_assign rfl)<|.nil _) ?_)
 refine a_seq (a_seq (ar (.cons (o_move rfl)<|.cons (o_ptr_eq rfl)<|.nil _) ?_))
 refine a_cond _ rfl (fun c=>by cases c) (fun _=>?_)
 refine a_skip (a_seq (ar (.cons (o_move rfl)<|.cons (o_nilCheck rfl)<|.cons (o_fieldAddr rfl)<|.cons (o_load_s rfl rfl rfl)<|.cons (t_len_r rfl rfl)<|.cons (o_int rfl rfl rfl)<|.cons (o_max rfl rfl)<|.cons (o_assign rfl)<|.nil _) ?_))
 obtain rfl:=Option.some.inj hM
 refine a_imp (σ' := ⟨[(2,.int .i64 (if (IntKind.wrap .i64 ((List.length o0.gparts : Int) - 1)) > 0 then (IntKind.wrap .i64 ((List.length o0.gparts : Int) - 1)) else 0))],[(100000,some (.blk 134 [.row 100001])),(100001,some (.row 137 4 (List.map CPart.dv o0.gparts)))],[100000,100001]⟩) (Imp.sh (fun i=>i) rfl rfl rfl rfl rfl rfl) ?_
 exact a_ret (a_post (.r1 (.tmp rfl)) (DLe.refl _) (PostOk.spec (.cons rfl (.cons rfl .nil))))
def w30_agrees_a_K1 (o0 : CColl) (o2 : List e30_Known) (a1 : Bool) : Option Bool :=
 (CColl_Complete_a o0).bind fun v3=>
 (gb (v3 == a1) (0) (CColl_Components_a o0)).bind fun v5=>
 some ((v3 == a1) && (v5 == (IntKind.wrap .i64 ((List.length o2 : Int) - 1))))
def w30_agrees_a_K3 (a11 : Bool) : Option (Ctl Bool Bool) :=
 some (.next a11)
def w30_agrees_a_K4 (o0 : CColl) (k6 : Nat) (a7 : Bool) (v13 : e30_Known) (v15 : (List RRec)) (a16 : Int) : Option (Ctl Bool Bool) :=
 (CColl_Total_a (k6 : Int) o0).bind fun v18=>
 (gb (!((((a16 != (List.length v15 : Int)) || (v18.2 != (decide (0≤v13.gTotal)))) || (v18.2 && (v18.1 != (IntKind.wrap .u64 v13.gTotal)))) || ((!v18.2) && (v18.1 != 0)))) (([] : List (Nat→Int))) (CColl_Lost_a (k6 : Int) o0)).bind fun v20=>
 (gb (!((((a16 != (List.length v15 : Int)) || (v18.2 != (decide (0≤v13.gTotal)))) || (v18.2 && (v18.1 != (IntKind.wrap .u64 v13.gTotal)))) || ((!v18.2) && (v18.1 != 0)))) ([]) (e30_Lost v13)).bind fun v22=>
 (gb (!((((a16 != (List.length v15 : Int)) || (v18.2 != (decide (0≤v13.gTotal)))) || (v18.2 && (v18.1 != (IntKind.wrap .u64 v13.gTotal)))) || ((!v18.2) && (v18.1 != 0)))) (false) (w30_sameRuns v20 v22)).bind fun v24=>
 (gb (!(((((a16 != (List.length v15 : Int)) || (v18.2 != (decide (0≤v13.gTotal)))) || (v18.2 && (v18.1 != (IntKind.wrap .u64 v13.gTotal)))) || ((!v18.2) && (v18.1 != 0))) || (!v24))) (([] : List (Nat→Int))) (CColl_Missing_a (k6 : Int) o0)).bind fun v26=>
 (gb (!(((((a16 != (List.length v15 : Int)) || (v18.2 != (decide (0≤v13.gTotal)))) || (v18.2 && (v18.1 != (IntKind.wrap .u64 v13.gTotal)))) || ((!v18.2) && (v18.1 != 0))) || (!v24))) ([]) (e30_Missing v13)).bind fun v28=>
 (gb (!(((((a16 != (List.length v15 : Int)) || (v18.2 != (decide (0≤v13.gTotal)))) || (v18.2 && (v18.1 != (IntKind.wrap .u64 v13.gTotal)))) || ((!v18.2) && (v18.1 != 0))) || (!v24))) (false) (w30_sameRuns v26 v28)).bind fun v30=>
 if ((((((a16 != (List.length v15 : Int)) || (v18.2 != (decide (0≤v13.gTotal)))) || (v18.2 && (v18.1 != (IntKind.wrap .u64 v13.gTotal)))) || ((!v18.2) && (v18.1 != 0))) || (!v24)) || (!v30)) = true then
  some (.done false)
 else
  (gb a7 (false) (e30_Complete v13)).bind fun v33=>
  w30_agrees_a_K3 (a7 && v33)
def w30_agrees_a_L5 (k6 : Nat) (v13 : e30_Known) (v15 : (List RRec)) (k34 : Nat) (a35 : Int) : Option (Ctl Int Bool) :=
 chk (inA 48 (k34 : Int))<|
 if ((v13.gIds (Int.toNat (k34 : Int))) == 0) = true then
  some (.next a35)
 else
  (gb (!(decide ((List.length v15 : Int)≤a35))) (RRec.mk 0 0 (VClk.mk (arr 0 [])) 0 (AEv.mk 0 0 0 0 0 0 0 0 []) 0) (idx v15 a35)).bind fun v42=>
  (gb (!((decide ((List.length v15 : Int)≤a35)) || (v42.gSeq != (IntKind.wrap .u64 (k34 : Int))))) (RRec.mk 0 0 (VClk.mk (arr 0 [])) 0 (AEv.mk 0 0 0 0 0 0 0 0 []) 0) (idx v15 a35)).bind fun v44=>
  (gb (!(((decide ((List.length v15 : Int)≤a35)) || (v42.gSeq != (IntKind.wrap .u64 (k34 : Int)))) || (v44.gWhat != 1))) (RRec.mk 0 0 (VClk.mk (arr 0 [])) 0 (AEv.mk 0 0 0 0 0 0 0 0 []) 0) (idx v15 a35)).bind fun v46=>
  (gb (!((((decide ((List.length v15 : Int)≤a35)) || (v42.gSeq != (IntKind.wrap .u64 (k34 : Int)))) || (v44.gWhat != 1)) || (v46.gComponent != (k6 : Int)))) (RRec.mk 0 0 (VClk.mk (arr 0 [])) 0 (AEv.mk 0 0 0 0 0 0 0 0 []) 0) (idx v15 a35)).bind fun v48=>
  if (((((decide ((List.length v15 : Int)≤a35)) || (v42.gSeq != (IntKind.wrap .u64 (k34 : Int)))) || (v44.gWhat != 1)) || (v46.gComponent != (k6 : Int))) || (v48.gEvent.gN != (v13.gIds (Int.toNat (k34 : Int))))) = true then
   some (.done false)
  else
   some (.next (IntKind.wrap .i64 (a35 + 1)))
def w30_agrees_a_L2 (o0 : CColl) (o2 : List e30_Known) (k6 : Nat) (a7 : Bool) : Option (Ctl Bool Bool) :=
 (idx o2 (k6 : Int)).bind fun v13=>
 (CColl_Records_a (k6 : Int) o0).bind fun v15=>
 (forM' (E:=Bool) 9223372036854775807 48 (fun k34 s=>w30_agrees_a_L5 k6 v13 v15 k34 s) 0).bind fun
  | .next s=>w30_agrees_a_K4 o0 k6 a7 v13 v15 s
  | .done r=>some (.done r)
def w30_agrees_a (o0 : CColl) (o2 : List e30_Known) : Option Bool :=
 (forM' (E:=Bool) 9223372036854775807 (List.length o2 : Int) (fun k6 s=>w30_agrees_a_L2 o0 o2 k6 s) true).bind fun
  | .next s=>w30_agrees_a_K1 o0 o2 s
  | .done r=>some r
theorem w30_agrees_a_c {o0 : CColl} {o2 : List e30_Known} {r : Bool} (hM : w30_agrees_a o0 o2 = some r) : ACall Tryz.prog 16 ⟨[.ref 100000 0,.row 100002],[(100000,some (.blk 134 [.row 100001])),(100001,some (.row 137 4 (List.map CPart.dv o0.gparts))),(100002,some (.row 60 97 (List.map e30_Known.dv o2)))],.bool r,[(100000,some (.blk 134 [.row 100001])),(100001,some (.row 137 4 (List.map CPart.dv o0.gparts))),(100002,some (.row 60 97 (List.map e30_Known.dv o2)))],[]⟩ := by
 unfold w30_agrees_a at hM
 refine ACall.body Tryz.func16 Tryz.ntmps16 rfl rfl rfl rfl ?_
 refine a_seq (ar (.cons (o_assign rfl)<|.nil _) ?_)
 refine a_seq (ar (.cons (o_assign rfl)<|.nil _) ?_)
 refine a_cut (α:=Bool) (fun s=>⟨[(0,.ref 100000 0),(1,.row 100002),(5,.bool s)],[(100000,some (.blk 134 [.row 100001])),(100001,some (.row 137 4 (List.map CPart.dv o0.gparts))),(100002,some (.row 60 97 (List.map e30_Known.dv o2)))],[100000,100001,100002]⟩) (fun s=>w30_agrees_a_K1 o0 o2 s = some r) ?_ ?_
 ·refine a_seq (ar (.cons (o_move rfl)<|.cons (t_len_r rfl rfl)<|.cons (o_move rfl)<|.nil _) ?_)
  obtain ⟨t8,hL8,hK8⟩ := of_bind hM
  refine a_block ?_
  refine a_for (fun k6 (s : Bool)=>⟨[(0,.ref 100000 0),(1,.row 100002),(5,.bool s),(14,.row 100002),(15,.int .i64 (List.length o2 : Int)),(16,.int .i64 (k6 : Int))],[(100000,some (.blk 134 [.row 100001])),(100001,some (.row 137 4 (List.map CPart.dv o0.gparts))),(100002,some (.row 60 97 (List.map e30_Known.dv o2)))],[100000,100001,100002]⟩) _ hL8 (Imp.sh (fun i=>i) rfl rfl rfl rfl rfl rfl) ?_ ?_
  ·rintro k6 a7 t9 hk6 hx6 hM hE8
   replace hM : w30_agrees_a_L2 o0 o2 k6 a7 = some t9:=hM
   unfold w30_agrees_a_L2 at hM
   refine a_seq (ar (.cons (o_int rfl rfl rfl)<|.nil _) ?_)
   refine a_seq ?_
   refine a_cond _ rfl (fun _=>?_) (fun c=>absurd hk6 (of_decide_eq_false c))
   refine a_skip ?_
   refine a_cut (α:=Bool) (fun s=>⟨[(0,.ref 100000 0),(1,.row 100002),(5,.bool s),(14,.row 100002),(15,.int .i64 (List.length o2 : Int)),(16,.int .i64 (k6 : Int))],[(100000,some (.blk 134 [.row 100001])),(100001,some (.row 137 4 (List.map CPart.dv o0.gparts))),(100002,some (.row 60 97 (List.map e30_Known.dv o2)))],[100000,100001,100002]⟩) (fun s=>w30_agrees_a_K3 s = some t9) ?_ ?_
   ·refine a_block (a_seq ?_)
    obtain ⟨v13,h12,hM⟩ := of_bind hM
    refine ar (.cons (o_move rfl)<|.cons (t_index_r h12 rfl rfl rfl)<|.cons (t_load_pr h12 rfl rfl rfl rfl rfl)<|.cons (o_alloc rfl)<|.cons (o_assign rfl)<|.cons (o_store rfl rfl rfl rfl rfl rfl rfl)<|.nil _) ?_
    refine a_seq ?_
    obtain ⟨v15,h14,hM⟩ := of_bind hM
    refine ar (.cons (o_move rfl)<|.cons (o_move rfl)<|.cons (o_callN (fun i=>bif Nat.beq i 100000 then 100000 else bif Nat.beq i 100001 then 100001 else i) 0 (CColl_Records_a_c h14) rfl (DLeL.refl _) (.cons rfl (.cons rfl .nil)) rfl (.cons rfl (.cons rfl .nil)))<|.cons (o_assign rfl)<|.nil _) ?_
    refine a_seq (ar (.cons (o_assign rfl)<|.nil _) ?_)
    refine a_cut (α:=Int) (fun s=>⟨[(0,.ref 100000 0),(1,.row 100002),(5,.bool a7),(6,.int .i64 (k6 : Int)),(7,.ref 7 0),(8,.sl 29 (List.map RRec.dv v15)),(9,.int .i64 s),(14,.row 100002),(15,.int .i64 (List.length o2 : Int)),(16,.int .i64 (k6 : Int))],[(7,some (.blk 60 (e30_Known.cs v13))),(100000,some (.blk 134 [.row 100001])),(100001,some (.row 137 4 (List.map CPart.dv o0.gparts))),(100002,some (.row 60 97 (List.map e30_Known.dv o2)))],[7,100000,100001,100002]⟩) (fun s=>w30_agrees_a_K4 o0 k6 a7 v13 v15 s = some t9) ?_ ?_
    ·refine a_seq (ar (.cons (o_fieldAddr rfl)<|.cons (o_load_r rfl rfl rfl rfl)<|.cons (o_move rfl)<|.nil _) ?_)
     obtain ⟨t36,hL36,hK36⟩ := of_bind hM
     refine a_block ?_
     refine a_for (fun k34 (s : Int)=>⟨[(0,.ref 100000 0),(1,.row 100002),(5,.bool a7),(6,.int .i64 (k6 : Int)),(7,.ref 7 0),(8,.sl 29 (List.map RRec.dv v15)),(9,.int .i64 s),(14,.row 100002),(15,.int .i64 (List.length o2 : Int)),(16,.int .i64 (k6 : Int)),(25,.agg (array_48_int.cs v13.gIds)),(26,.int .i64 (k34 : Int))],[(7,some (.blk 60 (e30_Known.cs v13))),(100000,some (.blk 134 [.row 100001])),(100001,some (.row 137 4 (List.map CPart.dv o0.gparts))),(100002,some (.row 60 97 (List.map e30_Known.dv o2)))],[7,100000,100001,100002]⟩) _ hL36 (Imp.sh (fun i=>i) rfl rfl rfl rfl rfl rfl) ?_ ?_
     ·rintro k34 a35 t37 hk34 hx34 hM hE36
      replace hM : w30_agrees_a_L5 k6 v13 v15 k34 a35 = some t37:=hM
      unfold w30_agrees_a_L5 at hM
      refine a_seq (ar (.cons (o_int rfl rfl rfl)<|.nil _) ?_)
      refine a_seq ?_
      refine a_cond _ rfl (fun _=>?_) (fun c=>absurd hk34 (of_decide_eq_false c))
      refine a_skip (a_seq (a_block (a_seq ?_)))
      obtain ⟨h39,hM⟩ := of_chk hM
      refine ar (.cons (o_move rfl)<|.cons (t_idxA (fun j=>.int .i64 (v13.gIds j)) h39 rfl rfl rfl)<|.cons (o_assign rfl)<|.cons (o_assign rfl)<|.nil _) ?_
      refine a_seq (a_seq (ar (.cons (o_move rfl)<|.cons (o_int rfl rfl rfl)<|.nil _) ?_))
      refine a_cond _ rfl (fun h40=>?_) (fun h40=>?_)
      ·replace hM:=(of_if hM).1 h40
       refine a_exit (ar (.cons (o_add rfl rfl (inR_i64 hk34 hx34))<|.cons (o_move rfl)<|.nil _) ?_)
       obtain rfl:=Option.some.inj hM
       exact ⟨a35,rfl,(Imp.of (fun i=>i) (.cons rfl (DLe.refl _) (.cons rfl (DLe.refl _) (.cons rfl (DLe.refl _) (.cons rfl (DLe.refl _) (.cons rfl (DLe.refl _) (.cons rfl (DLe.refl _) (.cons rfl (DLe.refl _) (.cons rfl (DLe.refl _) (.cons rfl (DLe.refl _) (.cons rfl (DLe.refl _) (.cons rfl (DLe.refl _) (.cons rfl (DLe.succ _ _) .nil)))))))))))) (.cons rfl (.refl _) (.cons rfl (.refl _) (.cons rfl (.refl _) (.cons rfl (.refl _) .nil)))) rfl rfl rfl)⟩
      ·replace hM:=(of_if hM).2 h40
       refine a_skip (a_seq (a_seq ?_))
       obtain ⟨v42,h41,hM⟩ := of_bind hM
       obtain ⟨v44,h43,hM⟩ := of_bind hM
       obtain ⟨v46,h45,hM⟩ := of_bind hM
       obtain ⟨v48,h47,hM⟩ := of_bind hM
       refine ar (.cons (o_move rfl)<|.cons (o_move rfl)<|.cons (t_len rfl)<|.cons (o_int rfl rfl rfl)<|.cons (o_move rfl)<|.cons (o_guardG .bF rfl rfl (fun hb=>(.keep .nil)) (fun hb=>o_move rfl))<|.cons (o_guardG .bF rfl rfl (fun hb=>(.keep .nil)) (fun hb=>o_move rfl))<|.cons (o_guardG .bF rfl rfl (fun hb=>(.strip rfl hb (.strip rfl hb .nil))) (fun hb=>t_index (of_gb h41 hb) rfl rfl rfl))<|.cons (o_guardG .bF rfl rfl (fun hb=>(.strip rfl hb .nil)) (fun hb=>o_fieldAddr_e rfl rfl))<|.cons (o_guardG .bF rfl rfl (fun hb=>(.strip rfl hb .nil)) (fun hb=>o_load_es rfl rfl))<|.cons (o_guardG .bF rfl rfl (fun hb=>(.keep .nil)) (fun hb=>o_move rfl))<|.cons (o_guardG .bF rfl rfl (fun hb=>(.strip rfl hb .nil)) (fun hb=>o_conv_w rfl))<|.cons (o_guardG .bF rfl rfl (fun hb=>(.strip rfl hb (.strip rfl hb .nil))) (fun hb=>o_int rfl rfl rfl))<|.cons (o_or rfl rfl)<|.cons (o_move rfl)<|.cons (o_guardG .bF rfl rfl (fun hb=>(.keep .nil)) (fun hb=>o_move rfl))<|.cons (o_guardG .bF rfl rfl (fun hb=>(.keep .nil)) (fun hb=>o_move rfl))<|.cons (o_guardG .bF rfl rfl (fun hb=>(.strip rfl hb (.strip rfl hb .nil))) (fun hb=>t_index (of_gb h43 hb) rfl rfl rfl))<|.cons (o_guardG .bF rfl rfl (fun hb=>(.strip rfl hb .nil)) (fun hb=>o_fieldAddr_e rfl rfl))<|.cons (o_guardG .bF rfl rfl (fun hb=>(.strip rfl hb .nil)) (fun hb=>o_load_es rfl rfl))<|.cons (o_guardG .bF rfl rfl (fun hb=>(.strip rfl hb .nil)) (fun hb=>o_int rfl rfl rfl))<|.cons (o_or rfl rfl)<|.cons (o_move rfl)<|.cons (o_guardG .bF rfl rfl (fun hb=>(.keep .nil)) (fun hb=>o_move rfl))<|.cons (o_guardG .bF rfl rfl (fun hb=>(.keep .nil)) (fun hb=>o_move rfl))<|.cons (o_guardG .bF rfl rfl (fun hb=>(.strip rfl hb (.strip rfl hb .nil))) (fun hb=>t_index (of_gb h45 hb) rfl rfl rfl))<|.cons (o_guardG .bF rfl rfl (fun hb=>(.strip rfl hb .nil)) (fun hb=>o_fieldAddr_e rfl rfl))<|.cons (o_guardG .bF rfl rfl (fun hb=>(.strip rfl hb .nil)) (fun hb=>o_load_es rfl rfl))<|.cons (o_guardG .bF rfl rfl (fun hb=>(.keep .nil)) (fun hb=>o_move rfl))<|.cons (o_guardG .bF rfl rfl (fun hb=>(.strip rfl hb (.strip rfl hb .nil))) (fun hb=>o_int rfl rfl rfl))<|.cons (o_or rfl rfl)<|.cons (o_move rfl)<|.cons (o_guardG .bF rfl rfl (fun hb=>(.keep .nil)) (fun hb=>o_move rfl))<|.cons (o_guardG .bF rfl rfl (fun hb=>(.keep .nil)) (fun hb=>o_move rfl))<|.cons (o_guardG .bF rfl rfl (fun hb=>(.strip rfl hb (.strip rfl hb .nil))) (fun hb=>t_index (of_gb h47 hb) rfl rfl rfl))<|.cons (o_guardG .bF rfl rfl (fun hb=>(.strip rfl hb .nil)) (fun hb=>o_fieldAddr_e rfl rfl))<|.cons (o_guardG .bF rfl rfl (fun hb=>(.strip rfl hb .nil)) (fun hb=>o_fieldAddr_e rfl rfl))<|.cons (o_guardG .bF rfl rfl (fun hb=>(.strip rfl hb .nil)) (fun hb=>o_load_es rfl rfl))<|.cons (o_guardG .bF rfl rfl (fun hb=>(.keep .nil)) (fun hb=>o_move rfl))<|.cons (o_guardG .bF rfl rfl (fun hb=>(.strip rfl hb (.strip rfl hb .nil))) (fun hb=>o_int rfl rfl rfl))<|.cons (o_or rfl rfl)<|.nil _) ?_
       refine a_cond _ rfl (fun h49=>?_) (fun h49=>?_)
       ·replace hM:=(of_if hM).1 h49
        refine a_seq (ar (.cons (o_assign rfl)<|.nil _) ?_)
        obtain rfl:=Option.some.inj hM
        obtain rfl:=hE36 _ rfl
        obtain rfl:=Option.some.inj hK36
        obtain rfl:=hE8 _ rfl
        obtain rfl:=Option.some.inj hK8
        refine a_imp (σ' := ⟨[(4,.bool false)],[(100000,some (.blk 134 [.row 100001])),(100001,some (.row 137 4 (List.map CPart.dv o0.gparts))),(100002,some (.row 60 97 (List.map e30_Known.dv o2)))],[100000,100001,100002]⟩) (Imp.sh (fun i=>i) rfl rfl rfl rfl rfl rfl) ?_
        exact a_ret (a_post (.r1 (.tmp rfl)) (DLe.refl _) (PostOk.spec (.cons rfl (.cons rfl (.cons rfl .nil)))))
       ·replace hM:=(of_if hM).2 h49
        refine a_skip (ar (.cons (o_move rfl)<|.cons (o_int rfl rfl rfl)<|.cons (o_assign rfl)<|.nil _) ?_)
        refine ar (.cons (o_add rfl rfl (inR_i64 hk34 hx34))<|.cons (o_move rfl)<|.nil _) ?_
        obtain rfl:=Option.some.inj hM
        exact ⟨(IntKind.wrap .i64 (a35 + 1)),rfl,(Imp.of (fun i=>i) (.cons rfl (DLe.refl _) (.cons rfl (DLe.refl _) (.cons rfl (DLe.refl _) (.cons rfl (DLe.refl _) (.cons rfl (DLe.refl _) (.cons rfl (DLe.refl _) (.cons rfl (DLe.refl _) (.cons rfl (DLe.refl _) (.cons rfl (DLe.refl _) (.cons rfl (DLe.refl _) (.cons rfl (DLe.refl _) (.cons rfl (DLe.succ _ _) .nil)))))))))))) (.cons rfl (.refl _) (.cons rfl (.refl _) (.cons rfl (.refl _) (.cons rfl (.refl _) .nil)))) rfl rfl rfl)⟩
     ·rintro k34 a35 hk34 hx34 rfl
      refine a_seq (ar (.cons (o_int rfl rfl rfl)<|.nil _) ?_)
      refine a_seq ?_
      refine a_cond _ rfl (fun c=>absurd (of_decide_eq_true c) (Int.not_lt.2 hk34)) (fun _=>?_)
      refine a_exit ?_
      exact ⟨a35,hK36,(Imp.sh (fun i=>i) rfl rfl rfl rfl rfl rfl)⟩
    ·rintro a16 hM
     replace hM : w30_agrees_a_K4 o0 k6 a7 v13 v15 a16 = some t9:=hM
     unfold w30_agrees_a_K4 at hM
     refine a_seq ?_
     obtain ⟨v18,h17,hM⟩ := of_bind hM
     refine ar (.cons (o_move rfl)<|.cons (o_move rfl)<|.cons (o_callN (fun i=>bif Nat.beq i 100000 then 100000 else bif Nat.beq i 100001 then 100001 else i) 0 (CColl_Total_a_c h17) rfl (DLeL.refl _) (.cons rfl (.cons rfl .nil)) rfl (.cons rfl (.cons rfl .nil)))<|.cons (o_move rfl)<|.cons (o_extract rfl rfl)<|.cons (o_extract rfl rfl)<|.cons (o_assign rfl)<|.cons (o_assign rfl)<|.nil _) ?_
     refine a_seq (a_seq ?_)
     obtain ⟨v20,h19,hM⟩ := of_bind hM
     obtain ⟨v22,h21,hM⟩ := of_bind hM
     obtain ⟨v24,h23,hM⟩ := of_bind hM
     obtain ⟨v26,h25,hM⟩ := of_bind hM
     obtain ⟨v28,h27,hM⟩ := of_bind hM
     obtain ⟨v30,h29,hM⟩ := of_bind hM
     refine ad mixed (.cons (o_move rfl)<|.cons (o_move rfl)<|.cons (t_len rfl)<|.cons (o_int rfl rfl rfl)<|.cons (o_move rfl)<|.cons (o_guardG .bF rfl rfl (fun hb=>(.keep .nil)) (fun hb=>o_move rfl))<|.cons (o_guardG .bF rfl rfl (fun hb=>(.keep .nil)) (fun hb=>o_fieldAddr rfl))<|.cons (o_guardG .bF rfl rfl (fun hb=>(.strip rfl hb .nil)) (fun hb=>o_load_s rfl rfl rfl))<|.cons (o_guardG .bF rfl rfl (fun hb=>(.strip rfl hb .nil)) (fun hb=>o_int rfl rfl rfl))<|.cons (o_guardG .bF rfl rfl (fun hb=>(.strip rfl hb (.strip rfl hb .nil))) (fun hb=>o_boolne rfl rfl))<|.cons (o_or rfl rfl)<|.cons (o_move rfl)<|.cons (o_guardG .bF rfl rfl (fun hb=>(.keep .nil)) (fun hb=>o_move rfl))<|.cons (o_guardG .bF rfl rfl (fun hb=>(.strip rfl hb .nil)) (fun hb=>o_move rfl))<|.cons (o_guardG .iT rfl rfl (fun hb=>(.keep .nil)) (fun hb=>o_move rfl))<|.cons (o_guardG .iT rfl rfl (fun hb=>(.keep .nil)) (fun hb=>o_fieldAddr rfl))<|.cons (o_guardG .iT rfl rfl (fun hb=>(.strip rfl hb .nil)) (fun hb=>o_load_s rfl rfl rfl))<|.cons (o_guardG .iT rfl rfl (fun hb=>(.strip rfl hb .nil)) (fun hb=>o_conv_w rfl))<|.cons (o_guardG .iT rfl rfl (fun hb=>(.strip rfl hb (.strip rfl hb .nil))) (fun hb=>o_int rfl rfl rfl))<|.cons (o_guardG .bF rfl rfl (fun hb=>(.strip rfl hb (.half rfl hb .nil))) (fun hb=>o_and rfl rfl))<|.cons (o_or rfl rfl)<|.cons (o_move rfl)<|.cons (o_guardG .bF rfl rfl (fun hb=>(.keep .nil)) (fun hb=>o_move rfl))<|.cons (o_guardG .bF rfl rfl (fun hb=>(.strip rfl hb .nil)) (fun hb=>o_not rfl))<|.cons (o_guardG .bF rfl rfl (fun hb=>(.strip rfl hb .nil)) (fun hb=>o_move rfl))<|.cons (o_guardG .iT rfl rfl (fun hb=>(.keep .nil)) (fun hb=>o_move rfl))<|.cons (o_guardG .iT rfl rfl (fun hb=>(.strip rfl hb .nil)) (fun hb=>o_int rfl rfl rfl))<|.cons (o_guardG .bF rfl rfl (fun hb=>(.strip rfl hb (.half rfl hb .nil))) (fun hb=>o_and rfl rfl))<|.cons (o_or rfl rfl)<|.cons (o_move rfl)<|.cons (o_guardG .bF rfl rfl (fun hb=>(.keep .nil)) (fun hb=>o_move rfl))<|.cons (o_guardG .bF rfl rfl (fun hb=>(.keep .nil)) (fun hb=>o_move rfl))<|.cons (o_guardG .bF rfl rfl (fun hb=>(.strip rfl hb (.strip rfl hb .nil))) (fun hb=>o_callN (fun i=>bif Nat.beq i 100000 then 100000 else bif Nat.beq i 100001 then 100001 else i) 0 (CColl_Lost_a_c (of_gb h19 hb)) rfl (DLeL.refl _) (.cons rfl (.cons rfl .nil)) rfl (.cons rfl (.cons rfl .nil))))<|.cons (o_guardG .bF rfl rfl (fun hb=>(.keep .nil)) (fun hb=>o_load_r rfl rfl rfl rfl))<|.cons (o_guardG .bF rfl rfl (fun hb=>(.strip rfl hb .nil)) (fun hb=>o_call (e30_Lost_c (of_gb h21 hb)) rfl (DLeL.refl _) rfl))<|.cons (o_guardG .bF rfl rfl (fun hb=>(.strip rfl hb (.strip rfl hb .nil))) (fun hb=>o_call (w30_sameRuns_c (of_gb h23 hb)) rfl (DLeL.refl _) rfl))<|.cons (o_guardG .bF rfl rfl (fun hb=>(.strip rfl hb .nil)) (fun hb=>o_not rfl))<|.cons (o_or rfl rfl)<|.cons (o_move rfl)<|.cons (o_guardG .bF rfl rfl (fun hb=>(.keep .nil)) (fun hb=>o_move rfl))<|.cons (o_guardG .bF rfl rfl (fun hb=>(.keep .nil)) (fun hb=>o_move rfl))<|.cons (o_guardG .bF rfl rfl (fun hb=>(.strip rfl hb (.strip rfl hb .nil))) (fun hb=>o_callN (fun i=>bif Nat.beq i 100000 then 100000 else bif Nat.beq i 100001 then 100001 else i) 0 (CColl_Missing_a_c (of_gb h25 hb)) rfl (DLeL.refl _) (.cons rfl (.cons rfl .nil)) rfl (.cons rfl (.cons rfl .nil))))<|.cons (o_guardG .bF rfl rfl (fun hb=>(.keep .nil)) (fun hb=>o_load_r rfl rfl rfl rfl))<|.cons (o_guardG .bF rfl rfl (fun hb=>(.strip rfl hb .nil)) (fun hb=>o_call (e30_Missing_c (of_gb h27 hb)) rfl (DLeL.refl _) rfl))<|.cons (o_guardG .bF rfl rfl (fun hb=>(.strip rfl hb (.strip rfl hb .nil))) (fun hb=>o_call (w30_sameRuns_c (of_gb h29 hb)) rfl (DLeL.refl _) rfl))<|.cons (o_guardG .bF rfl rfl (fun hb=>(.strip rfl hb .nil)) (fun hb=>o_not rfl))<|.cons (o_or rfl rfl)<|.nil _) ?_
     refine a_cond _ rfl (fun h31=>?_) (fun h31=>?_)
     ·replace hM:=(of_if hM).1 h31
      refine a_seq (ar (.cons (o_assign rfl)<|.nil _) ?_)
      obtain rfl:=Option.some.inj hM
      obtain rfl:=hE8 _ rfl
      obtain rfl:=Option.some.inj hK8
      refine a_imp (σ' := ⟨[(4,.bool false)],[(100000,some (.blk 134 [.row 100001])),(100001,some (.row 137 4 (List.map CPart.dv o0.gparts))),(100002,some (.row 60 97 (List.map e30_Known.dv o2)))],[100000,100001,100002]⟩) (Imp.sh (fun i=>i) rfl rfl rfl rfl rfl rfl) ?_
      exact a_ret (a_post (.r1 (.tmp rfl)) (DLe.refl _) (PostOk.spec (.cons rfl (.cons rfl (.cons rfl .nil)))))
     ·replace hM:=(of_if hM).2 h31
      refine a_skip ?_
      obtain ⟨v33,h32,hM⟩ := of_bind hM
      refine ar (.cons (o_move rfl)<|.cons (o_move rfl)<|.cons (o_guardG .bT rfl rfl (fun hb=>(.keep .nil)) (fun hb=>o_load_r rfl rfl rfl rfl))<|.cons (o_guardG .bT rfl rfl (fun hb=>(.strip rfl hb .nil)) (fun hb=>o_call (e30_Complete_c (of_gb h32 hb)) rfl (DLeL.refl _) rfl))<|.cons (o_and rfl rfl)<|.cons (o_assign rfl)<|.nil _) ?_
      exact ⟨(a7 && v33),hM,(Imp.sh (fun i=>i) rfl rfl rfl rfl rfl rfl)⟩
   ·rintro a11 hM
    replace hM : w30_agrees_a_K3 a11 = some t9:=hM
    unfold w30_agrees_a_K3 at hM
    refine ar (.cons (o_add rfl rfl (inR_i64 hk6 hx6))<|.cons (o_move rfl)<|.nil _) ?_
    obtain rfl:=Option.some.inj hM
    exact ⟨a11,rfl,(Imp.of (fun i=>i) (.cons rfl (DLe.refl _) (.cons rfl (DLe.refl _) (.cons rfl (DLe.refl _) (.cons rfl (DLe.refl _) (.cons rfl (DLe.refl _) (.cons rfl (DLe.succ _ _) .nil)))))) (.cons rfl (.refl _) (.cons rfl (.refl _) (.cons rfl (.refl _) .nil))) rfl rfl rfl)⟩
  ·rintro k6 a7 hk6 hx6 rfl
   refine a_seq (ar (.cons (o_int rfl rfl rfl)<|.nil _) ?_)
   refine a_seq ?_
   refine a_cond _ rfl (fun c=>absurd (of_decide_eq_true c) (Int.not_lt.2 hk6)) (fun _=>?_)
   refine a_exit ?_
   exact ⟨a7,hK8,(Imp.sh (fun i=>i) rfl rfl rfl rfl rfl rfl)⟩
 ·rintro a1 hM
  replace hM : w30_agrees_a_K1 o0 o2 a1 = some r:=hM
  unfold w30_agrees_a_K1 at hM
  refine a_seq ?_
  obtain ⟨v3,h2,hM⟩ := of_bind hM
  obtain ⟨v5,h4,hM⟩ := of_bind hM
  refine ar (.cons (o_move rfl)<|.cons (o_callN (fun i=>bif Nat.beq i 100000 then 100000 else bif Nat.beq i 100001 then 100001 else i) 0 (CColl_Complete_a_c h2) rfl (DLeL.refl _) (.cons rfl (.cons rfl .nil)) rfl (.cons rfl (.cons rfl .nil)))<|.cons (o_move rfl)<|.cons (o_booleq rfl rfl)<|.cons (o_move rfl)<|.cons (o_guardG .bT rfl rfl (fun hb=>(.keep .nil)) (fun hb=>o_move rfl))<|.cons (o_guardG .bT rfl rfl (fun hb=>(.strip rfl hb .nil)) (fun hb=>o_callN (fun i=>bif Nat.beq i 100000 then 100000 else bif Nat.beq i 100001 then 100001 else i) 0 (CColl_Components_a_c (of_gb h4 hb)) rfl (DLeL.refl _) (.cons rfl (.cons rfl .nil)) rfl (.cons rfl (.cons rfl .nil))))<|.cons (o_guardG .bT rfl rfl (fun hb=>(.keep .nil)) (fun hb=>o_move rfl))<|.cons (o_guardG .bT rfl rfl (fun hb=>(.strip rfl hb .nil)) (fun hb=>t_len_r rfl rfl))<|.cons (o_guardG .bT rfl rfl (fun hb=>(.strip rfl hb .nil)) (fun hb=>o_int rfl rfl rfl))<|.cons (o_guardG .bT rfl rfl (fun hb=>(.strip rfl hb (.strip rfl hb .nil))) (fun hb=>o_int rfl rfl rfl))<|.cons (o_and rfl rfl)<|.cons (o_assign rfl)<|.nil _) ?_
  obtain rfl:=Option.some.inj hM
  refine a_imp (σ' := ⟨[(4,.bool ((v3 == a1) && (v5 == (IntKind.wrap .i64 ((List.length o2 : Int) - 1)))))],[(100000,some (.blk 134 [.row 100001])),(100001,some (.row 137 4 (List.map CPart.dv o0.gparts))),(100002,some (.row 60 97 (List.map e30_Known.dv o2)))],[100000,100001,100002]⟩) (Imp.sh (fun i=>i) rfl rfl rfl rfl rfl rfl) ?_
  exact a_ret (a_post (.r1 (.tmp rfl)) (DLe.refl _) (PostOk.spec (.cons rfl (.cons rfl (.cons rfl .nil)))))
def e30_with_K1 (a1 : Nat→Int) (a2 : Nat→Bool) (a3 : Int) : Option (e30_Known × Bool) :=
 some ((e30_Known.mk a1 a2 a3),true)
def e30_with_L2 (x0 : e30_Known) (x1 : e30_Record) (a10 : Int) (a11 : Nat→Bool) : Option (Ctl (Int × (Nat→Bool)) ((Nat→Int) × (Nat→Bool) × Int)) :=
 if (decide (a10 < (IntKind.wrap .i64 (x1.gSeq + x1.gCount)))) = true then
  chk (inA 48 a10)<|
  some (.next ((IntKind.wrap .i64 (a10 + 1)),(upd a11 (Int.toNat a10) true)))
 else
  some (.done (x0.gIds,a11,x0.gTotal))
def e30_with (x0 : e30_Known) (x1 : e30_Record) : Option (e30_Known × Bool) :=
 if (x1.gWhat == 1) = true then
  chk (inA 48 x1.gSeq)<|
  chk (((x0.gIds (Int.toNat x1.gSeq)) != 0) = true→inA 48 x1.gSeq)<|
  if (((x0.gIds (Int.toNat x1.gSeq)) != 0) && ((x0.gIds (Int.toNat x1.gSeq)) != x1.gId)) = true then
   some (x0,false)
  else
   chk (inA 48 x1.gSeq)<|
   e30_with_K1 (upd x0.gIds (Int.toNat x1.gSeq) x1.gId) x0.gLost x0.gTotal
 else
  if (x1.gWhat == 2) = true then
   (whileM (E:=(Nat→Int) × (Nat→Bool) × Int) (fun s=>e30_with_L2 x0 x1 s.1 s.2) (x1.gSeq,x0.gLost)).bind fun e=>e30_with_K1 e.1 e.2.1 e.2.2
  else
   if ((decide (0≤x0.gTotal)) && (x0.gTotal != x1.gSeq)) = true then
    some (x0,false)
   else
    e30_with_K1 x0.gIds x0.gLost x1.gSeq
theorem e30_with_c {x0 : e30_Known} {x1 : e30_Record} {r : e30_Known × Bool} (hM : e30_with x0 x1 = some r) : PCall Tryz.prog 67 [.agg (e30_Known.cs x0),.agg (e30_Record.cs x1)] (.tup [.agg (e30_Known.cs r.1),.bool r.2]):=by
 unfold e30_with at hM
 refine PCall.body Tryz.func67 Tryz.ntmps67 rfl rfl rfl rfl ?_
 refine a_seq (ar (.cons (o_box rfl rfl)<|.cons (o_box rfl rfl)<|.cons (o_alloc rfl)<|.cons (o_assign rfl)<|.nil _) ?_)
 refine a_cut (α:=(Nat→Int) × (Nat→Bool) × Int) (fun s=>⟨[(2,.ref 2 0),(4,.ref 4 0)],[(2,some (.blk 60 (e30_Known.cs (e30_Known.mk s.1 s.2.1 s.2.2)))),(4,some (.blk 60 (e30_Known.cs (e30_Known.mk (arr 0 [0,0,0,0,0,0,0,0,0,0,0,0,0,0,0,0,0,0,0,0,0,0,0,0,0,0,0,0,0,0,0,0,0,0,0,0,0,0,0,0,0,0,0,0,0,0,0,0]) (arr false [false,false,false,false,false,false,false,false,false,false,false,false,false,false,false,false,false,false,false,false,false,false,false,false,false,false,false,false,false,false,false,false,false,false,false,false,false,false,false,false,false,false,false,false,false,false,false,false]) 0))))],[2,4]⟩) (fun s=>e30_with_K1 s.1 s.2.1 s.2.2 = some r) ?_ ?_
 ·refine a_seq (ar (.cons (o_fieldAddr rfl)<|.cons (o_load_s rfl rfl rfl)<|.nil _) ?_)
  refine a_block (a_seq (ar (.cons (o_int rfl rfl rfl)<|.cons (o_assign rfl)<|.nil _) ?_))
  refine a_cond _ rfl (fun h4=>?_) (fun h4=>?_)
  ·replace hM:=(of_if hM).1 h4
   refine a_seq (a_seq ?_)
   obtain ⟨h5,hM⟩ := of_chk hM
   obtain ⟨h6,hM⟩ := of_chk hM
   refine ad mixed (.cons (o_fieldAddr rfl)<|.cons (o_load_s rfl rfl rfl)<|.cons (o_fieldAddr rfl)<|.cons (t_index_d h5 rfl rfl)<|.cons (o_load_s rfl rfl (arr_get1 (DV.int .i64) x0.gIds h5 rfl))<|.cons (o_int rfl rfl rfl)<|.cons (o_move rfl)<|.cons (o_guardG .bT rfl rfl (fun hb=>(.keep .nil)) (fun hb=>o_fieldAddr rfl))<|.cons (o_guardG .bT rfl rfl (fun hb=>(.strip rfl hb .nil)) (fun hb=>o_load_s rfl rfl rfl))<|.cons (o_guardG .bT rfl rfl (fun hb=>(.keep .nil)) (fun hb=>o_fieldAddr rfl))<|.cons (o_guardG .bT rfl rfl (fun hb=>(.strip rfl hb (.strip rfl hb .nil))) (fun hb=>t_index_d (h6 hb) rfl rfl))<|.cons (o_guardG .bT rfl rfl (fun hb=>(.strip rfl hb .nil)) (fun hb=>o_load_s rfl rfl (arr_get1 (DV.int .i64) x0.gIds (h6 hb) rfl)))<|.cons (o_guardG .bT rfl rfl (fun hb=>(.keep .nil)) (fun hb=>o_fieldAddr rfl))<|.cons (o_guardG .bT rfl rfl (fun hb=>(.strip rfl hb .nil)) (fun hb=>o_load_s rfl rfl rfl))<|.cons (o_guardG .bT rfl rfl (fun hb=>(.strip rfl hb (.strip rfl hb .nil))) (fun hb=>o_int rfl rfl rfl))<|.cons (o_and rfl rfl)<|.nil _) ?_
   refine a_cond _ rfl (fun h7=>?_) (fun h7=>?_)
   ·replace hM:=(of_if hM).1 h7
    refine a_seq (ar (.cons (o_load_r rfl rfl rfl rfl)<|.cons (o_store rfl rfl rfl rfl rfl rfl rfl)<|.cons (o_assign rfl)<|.nil _) ?_)
    obtain rfl:=Option.some.inj hM
    exact a_ret (a_post (.r2 (.cell rfl rfl (.row _ CRow.h (Nat.le_of_ble_eq_true rfl) rfl)) (.tmp rfl)) (DLe.refl _) PostOk.nil.spec)
   ·replace hM:=(of_if hM).2 h7
    refine a_skip ?_
    obtain ⟨h8,hM⟩ := of_chk hM
    refine ar (.cons (o_fieldAddr rfl)<|.cons (o_load_s rfl rfl rfl)<|.cons (o_fieldAddr rfl)<|.cons (o_load_s rfl rfl rfl)<|.cons (o_fieldAddr rfl)<|.cons (t_index_d h8 rfl rfl)<|.cons (o_store rfl rfl rfl rfl rfl (arr_ble (fun x=>[(DV.int .i64) x]) x0.gIds (fun _=>rfl) (by decide) h8 rfl 0 1 (by decide)) (arr_set (ds' := [.int .i64 ((upd x0.gIds (Int.toNat x1.gSeq) x1.gId) 0),.int .i64 ((upd x0.gIds (Int.toNat x1.gSeq) x1.gId) 1),.int .i64 ((upd x0.gIds (Int.toNat x1.gSeq) x1.gId) 2),.int .i64 ((upd x0.gIds (Int.toNat x1.gSeq) x1.gId) 3),.int .i64 ((upd x0.gIds (Int.toNat x1.gSeq) x1.gId) 4),.int .i64 ((upd x0.gIds (Int.toNat x1.gSeq) x1.gId) 5),.int .i64 ((upd x0.gIds (Int.toNat x1.gSeq) x1.gId) 6),.int .i64 ((upd x0.gIds (Int.toNat x1.gSeq) x1.gId) 7),.int .i64 ((upd x0.gIds (Int.toNat x1.gSeq) x1.gId) 8),.int .i64 ((upd x0.gIds (Int.toNat x1.gSeq) x1.gId) 9),.int .i64 ((upd x0.gIds (Int.toNat x1.gSeq) x1.gId) 10),.int .i64 ((upd x0.gIds (Int.toNat x1.gSeq) x1.gId) 11),.int .i64 ((upd x0.gIds (Int.toNat x1.gSeq) x1.gId) 12),.int .i64 ((upd x0.gIds (Int.toNat x1.gSeq) x1.gId) 13),.int .i64 ((upd x0.gIds (Int.toNat x1.gSeq) x1.gId) 14),.int .i64 ((upd x0.gIds (Int.toNat x1.gSeq) x1.gId) 15),.int .i64 ((upd x0.gIds (Int.toNat x1.gSeq) x1.gId) 16),.int .i64 ((upd x0.gIds (Int.toNat x1.gSeq) x1.gId) 17),.int .i64 ((upd x0.gIds (Int.toNat x1.gSeq) x1.gId) 18),.int .i64 ((upd x0.gIds (Int.toNat x1.gSeq) x1.gId) 19),.int .i64 ((upd x0.gIds (Int.toNat x1.gSeq) x1.gId) 20),.int .i64 ((upd x0.gIds (Int.toNat x1.gSeq) x1.gId) 21),.int .i64 ((upd x0.gIds (Int.toNat x1.gSeq) x1.gId) 22),.int .i64 ((upd x0.gIds (Int.toNat x1.gSeq) x1.gId) 23),.int .i64 ((upd x0.gIds (Int.toNat x1.gSeq) x1.gId) 24),.int .i64 ((upd x0.gIds (Int.toNat x1.gSeq) x1.gId) 25),.int .i64 ((upd x0.gIds (Int.toNat x1.gSeq) x1.gId) 26),.int .i64 ((upd x0.gIds (Int.toNat x1.gSeq) x1.gId) 27),.int .i64 ((upd x0.gIds (Int.toNat x1.gSeq) x1.gId) 28),.int .i64 ((upd x0.gIds (Int.toNat x1.gSeq) x1.gId) 29),.int .i64 ((upd x0.gIds (Int.toNat x1.gSeq) x1.gId) 30),.int .i64 ((upd x0.gIds (Int.toNat x1.gSeq) x1.gId) 31),.int .i64 ((upd x0.gIds (Int.toNat x1.gSeq) x1.gId) 32),.int .i64 ((upd x0.gIds (Int.toNat x1.gSeq) x1.gId) 33),.int .i64 ((upd x0.gIds (Int.toNat x1.gSeq) x1.gId) 34),.int .i64 ((upd x0.gIds (Int.toNat x1.gSeq) x1.gId) 35),.int .i64 ((upd x0.gIds (Int.toNat x1.gSeq) x1.gId) 36),.int .i64 ((upd x0.gIds (Int.toNat x1.gSeq) x1.gId) 37),.int .i64 ((upd x0.gIds (Int.toNat x1.gSeq) x1.gId) 38),.int .i64 ((upd x0.gIds (Int.toNat x1.gSeq) x1.gId) 39),.int .i64 ((upd x0.gIds (Int.toNat x1.gSeq) x1.gId) 40),.int .i64 ((upd x0.gIds (Int.toNat x1.gSeq) x1.gId) 41),.int .i64 ((upd x0.gIds (Int.toNat x1.gSeq) x1.gId) 42),.int .i64 ((upd x0.gIds (Int.toNat x1.gSeq) x1.gId) 43),.int .i64 ((upd x0.gIds (Int.toNat x1.gSeq) x1.gId) 44),.int .i64 ((upd x0.gIds (Int.toNat x1.gSeq) x1.gId) 45),.int .i64 ((upd x0.gIds (Int.toNat x1.gSeq) x1.gId) 46),.int .i64 ((upd x0.gIds (Int.toNat x1.gSeq) x1.gId) 47),.bool (x0.gLost 0),.bool (x0.gLost 1),.bool (x0.gLost 2),.bool (x0.gLost 3),.bool (x0.gLost 4),.bool (x0.gLost 5),.bool (x0.gLost 6),.bool (x0.gLost 7),.bool (x0.gLost 8),.bool (x0.gLost 9),.bool (x0.gLost 10),.bool (x0.gLost 11),.bool (x0.gLost 12),.bool (x0.gLost 13),.bool (x0.gLost 14),.bool (x0.gLost 15),.bool (x0.gLost 16),.bool (x0.gLost 17),.bool (x0.gLost 18),.bool (x0.gLost 19),.bool (x0.gLost 20),.bool (x0.gLost 21),.bool (x0.gLost 22),.bool (x0.gLost 23),.bool (x0.gLost 24),.bool (x0.gLost 25),.bool (x0.gLost 26),.bool (x0.gLost 27),.bool (x0.gLost 28),.bool (x0.gLost 29),.bool (x0.gLost 30),.bool (x0.gLost 31),.bool (x0.gLost 32),.bool (x0.gLost 33),.bool (x0.gLost 34),.bool (x0.gLost 35),.bool (x0.gLost 36),.bool (x0.gLost 37),.bool (x0.gLost 38),.bool (x0.gLost 39),.bool (x0.gLost 40),.bool (x0.gLost 41),.bool (x0.gLost 42),.bool (x0.gLost 43),.bool (x0.gLost 44),.bool (x0.gLost 45),.bool (x0.gLost 46),.bool (x0.gLost 47),.int .i64 x0.gTotal]) (fun x=>[(DV.int .i64) x]) x0.gIds x1.gId (fun _=>rfl) (by decide) h8 rfl 0 (Nat.le_of_ble_eq_true rfl) rfl rfl rfl rfl))<|.nil _) ?_
    exact ⟨((upd x0.gIds (Int.toNat x1.gSeq) x1.gId),x0.gLost,x0.gTotal),hM,(Imp.sh (fun i=>i) rfl rfl rfl rfl rfl rfl)⟩
  ·replace hM:=(of_if hM).2 h4
   refine a_seq (ar (.cons (o_int rfl rfl rfl)<|.cons (o_assign rfl)<|.nil _) ?_)
   refine a_cond _ rfl (fun h9=>?_) (fun h9=>?_)
   ·replace hM:=(of_if hM).1 h9
    refine a_seq (ar (.cons (o_fieldAddr rfl)<|.cons (o_load_s rfl rfl rfl)<|.cons (o_assign rfl)<|.nil _) ?_)
    obtain ⟨e12,hL12,hK12⟩ := of_bind hM
    refine a_block (a_while (fun s : Int × (Nat→Bool)=>⟨[(2,.ref 2 0),(3,.ref 3 0),(4,.ref 4 0),(6,.int .i64 s.1)],[(2,some (.blk 60 (e30_Known.cs (e30_Known.mk x0.gIds s.2 x0.gTotal)))),(3,some (.blk 56 (e30_Record.cs x1))),(4,some (.blk 60 (e30_Known.cs (e30_Known.mk (arr 0 [0,0,0,0,0,0,0,0,0,0,0,0,0,0,0,0,0,0,0,0,0,0,0,0,0,0,0,0,0,0,0,0,0,0,0,0,0,0,0,0,0,0,0,0,0,0,0,0]) (arr false [false,false,false,false,false,false,false,false,false,false,false,false,false,false,false,false,false,false,false,false,false,false,false,false,false,false,false,false,false,false,false,false,false,false,false,false,false,false,false,false,false,false,false,false,false,false,false,false]) 0))))],[2,3,4]⟩) _ hL12 (Imp.sh (fun i=>i) rfl rfl rfl rfl rfl rfl) ?_)
    rintro ⟨a10,a11⟩ t13 hM hE12
    replace hM : e30_with_L2 x0 x1 a10 a11 = some t13:=hM
    unfold e30_with_L2 at hM
    refine a_seq (a_seq (ar (.cons (o_move rfl)<|.cons (o_fieldAddr rfl)<|.cons (o_load_s rfl rfl rfl)<|.cons (o_fieldAddr rfl)<|.cons (o_load_s rfl rfl rfl)<|.cons (o_int rfl rfl rfl)<|.cons (o_int rfl rfl rfl)<|.nil _) ?_))
    refine a_cond _ rfl (fun h14=>?_) (fun h14=>?_)
    ·replace hM:=(of_if hM).1 h14
     refine a_skip (a_seq (a_block ?_))
     obtain ⟨h15,hM⟩ := of_chk hM
     refine ar (.cons (o_move rfl)<|.cons (o_fieldAddr rfl)<|.cons (t_index_d h15 rfl rfl)<|.cons (o_store rfl rfl rfl rfl rfl (arr_ble (fun x=>[DV.bool x]) a11 (fun _=>rfl) (by decide) h15 rfl 0 1 (by decide)) (arr_set (ds' := [.int .i64 (x0.gIds 0),.int .i64 (x0.gIds 1),.int .i64 (x0.gIds 2),.int .i64 (x0.gIds 3),.int .i64 (x0.gIds 4),.int .i64 (x0.gIds 5),.int .i64 (x0.gIds 6),.int .i64 (x0.gIds 7),.int .i64 (x0.gIds 8),.int .i64 (x0.gIds 9),.int .i64 (x0.gIds 10),.int .i64 (x0.gIds 11),.int .i64 (x0.gIds 12),.int .i64 (x0.gIds 13),.int .i64 (x0.gIds 14),.int .i64 (x0.gIds 15),.int .i64 (x0.gIds 16),.int .i64 (x0.gIds 17),.int .i64 (x0.gIds 18),.int .i64 (x0.gIds 19),.int .i64 (x0.gIds 20),.int .i64 (x0.gIds 21),.int .i64 (x0.gIds 22),.int .i64 (x0.gIds 23),.int .i64 (x0.gIds 24),.int .i64 (x0.gIds 25),.int .i64 (x0.gIds 26),.int .i64 (x0.gIds 27),.int .i64 (x0.gIds 28),.int .i64 (x0.gIds 29),.int .i64 (x0.gIds 30),.int .i64 (x0.gIds 31),.int .i64 (x0.gIds 32),.int .i64 (x0.gIds 33),.int .i64 (x0.gIds 34),.int .i64 (x0.gIds 35),.int .i64 (x0.gIds 36),.int .i64 (x0.gIds 37),.int .i64 (x0.gIds 38),.int .i64 (x0.gIds 39),.int .i64 (x0.gIds 40),.int .i64 (x0.gIds 41),.int .i64 (x0.gIds 42),.int .i64 (x0.gIds 43),.int .i64 (x0.gIds 44),.int .i64 (x0.gIds 45),.int .i64 (x0.gIds 46),.int .i64 (x0.gIds 47),.bool ((upd a11 (Int.toNat a10) true) 0),.bool ((upd a11 (Int.toNat a10) true) 1),.bool ((upd a11 (Int.toNat a10) true) 2),.bool ((upd a11 (Int.toNat a10) true) 3),.bool ((upd a11 (Int.toNat a10) true) 4),.bool ((upd a11 (Int.toNat a10) true) 5),.bool ((upd a11 (Int.toNat a10) true) 6),.bool ((upd a11 (Int.toNat a10) true) 7),.bool ((upd a11 (Int.toNat a10) true) 8),.bool ((upd a11 (Int.toNat a10) true) 9),.bool ((upd a11 (Int.toNat a10) true) 10),.bool ((upd a11 (Int.toNat a10) true) 11),.bool ((upd a11 (Int.toNat a10) true) 12),.bool ((upd a11 (Int.toNat a10) true) 13),.bool ((upd a11 (Int.toNat a10) true) 14),.bool ((upd a11 (Int.toNat a10) true) 15),.bool ((upd a11 (Int.toNat a10) true) 16),.bool ((upd a11 (Int.toNat a10) true) 17),.bool ((upd a11 (Int.toNat a10) true) 18),.bool ((upd a11 (Int.toNat a10) true) 19),.bool ((upd a11 (Int.toNat a10) true) 20),.bool ((upd a11 (Int.toNat a10) true) 21),.bool ((upd a11 (Int.toNat a10) true) 22),.bool ((upd a11 (Int.toNat a10) true) 23),.bool ((upd a11 (Int.toNat a10) true) 24),.bool ((upd a11 (Int.toNat a10) true) 25),.bool ((upd a11 (Int.toNat a10) true) 26),.bool ((upd a11 (Int.toNat a10) true) 27),.bool ((upd a11 (Int.toNat a10) true) 28),.bool ((upd a11 (Int.toNat a10) true) 29),.bool ((upd a11 (Int.toNat a10) true) 30),.bool ((upd a11 (Int.toNat a10) true) 31),.bool ((upd a11 (Int.toNat a10) true) 32),.bool ((upd a11 (Int.toNat a10) true) 33),.bool ((upd a11 (Int.toNat a10) true) 34),.bool ((upd a11 (Int.toNat a10) true) 35),.bool ((upd a11 (Int.toNat a10) true) 36),.bool ((upd a11 (Int.toNat a10) true) 37),.bool ((upd a11 (Int.toNat a10) true) 38),.bool ((upd a11 (Int.toNat a10) true) 39),.bool ((upd a11 (Int.toNat a10) true) 40),.bool ((upd a11 (Int.toNat a10) true) 41),.bool ((upd a11 (Int.toNat a10) true) 42),.bool ((upd a11 (Int.toNat a10) true) 43),.bool ((upd a11 (Int.toNat a10) true) 44),.bool ((upd a11 (Int.toNat a10) true) 45),.bool ((upd a11 (Int.toNat a10) true) 46),.bool ((upd a11 (Int.toNat a10) true) 47),.int .i64 x0.gTotal]) (fun x=>[DV.bool x]) a11 true (fun _=>rfl) (by decide) h15 rfl 0 (Nat.le_of_ble_eq_true rfl) rfl rfl rfl rfl))<|.nil _) ?_
     refine ar (.cons (o_move rfl)<|.cons (o_int rfl rfl rfl)<|.cons (o_assign rfl)<|.nil _) ?_
     obtain rfl:=Option.some.inj hM
     exact ⟨((IntKind.wrap .i64 (a10 + 1)),(upd a11 (Int.toNat a10) true)),rfl,(Imp.sh (fun i=>i) rfl rfl rfl rfl rfl rfl)⟩
    ·replace hM:=(of_if hM).2 h14
     refine a_exit ?_
     obtain rfl:=Option.some.inj hM
     obtain rfl:=hE12 _ rfl
     exact ⟨(x0.gIds,a11,x0.gTotal),hK12,(Imp.sh (fun i=>i) rfl rfl rfl rfl rfl rfl)⟩
   ·replace hM:=(of_if hM).2 h9
    refine a_seq (a_seq (ar (.cons (o_fieldAddr rfl)<|.cons (o_load_s rfl rfl rfl)<|.cons (o_int rfl rfl rfl)<|.cons (o_move rfl)<|.cons (o_guardG .bT rfl rfl (fun hb=>(.keep .nil)) (fun hb=>o_fieldAddr rfl))<|.cons (o_guardG .bT rfl rfl (fun hb=>(.strip rfl hb .nil)) (fun hb=>o_load_s rfl rfl rfl))<|.cons (o_guardG .bT rfl rfl (fun hb=>(.keep .nil)) (fun hb=>o_fieldAddr rfl))<|.cons (o_guardG .bT rfl rfl (fun hb=>(.strip rfl hb .nil)) (fun hb=>o_load_s rfl rfl rfl))<|.cons (o_guardG .bT rfl rfl (fun hb=>(.strip rfl hb (.strip rfl hb .nil))) (fun hb=>o_int rfl rfl rfl))<|.cons (o_and rfl rfl)<|.nil _) ?_))
    refine a_cond _ rfl (fun h16=>?_) (fun h16=>?_)
    ·replace hM:=(of_if hM).1 h16
     refine a_seq (ar (.cons (o_load_r rfl rfl rfl rfl)<|.cons (o_store rfl rfl rfl rfl rfl rfl rfl)<|.cons (o_assign rfl)<|.nil _) ?_)
     obtain rfl:=Option.some.inj hM
     exact a_ret (a_post (.r2 (.cell rfl rfl (.row _ CRow.h (Nat.le_of_ble_eq_true rfl) rfl)) (.tmp rfl)) (DLe.refl _) PostOk.nil.spec)
    ·replace hM:=(of_if hM).2 h16
     refine a_skip (ar (.cons (o_fieldAddr rfl)<|.cons (o_load_s rfl rfl rfl)<|.cons (o_fieldAddr rfl)<|.cons (o_store_s rfl rfl rfl rfl rfl)<|.nil _) ?_)
     exact ⟨(x0.gIds,x0.gLost,x1.gSeq),hM,(Imp.sh (fun i=>i) rfl rfl rfl rfl rfl rfl)⟩
 ·rintro ⟨a1,a2,a3⟩ hM
  replace hM : e30_with_K1 a1 a2 a3 = some r:=hM
  unfold e30_with_K1 at hM
  refine a_seq (ar (.cons (o_load_r rfl rfl rfl rfl)<|.cons (o_store rfl rfl rfl rfl rfl rfl rfl)<|.cons (o_assign rfl)<|.nil _) ?_)
  obtain rfl:=Option.some.inj hM
  exact a_ret (a_post (.r2 (.cell rfl rfl (.row _ CRow.h (Nat.le_of_ble_eq_true rfl) rfl)) (.tmp rfl)) (DLe.refl _) PostOk.nil.spec)
def e30_sound_K1 : Option Bool :=
 some true
def e30_sound_L2 (x0 : e30_Known) (k1 : Nat) : Option (Ctl Unit Bool) :=
 chk (((decide (0≤x0.gTotal)) && (decide (x0.gTotal≤(k1 : Int)))) = true→inA 48 (k1 : Int))<|
 chk ((((decide (0≤x0.gTotal)) && (decide (x0.gTotal≤(k1 : Int)))) && !((x0.gIds (Int.toNat (k1 : Int))) != 0)) = true→inA 48 (k1 : Int))<|
 if (((decide (0≤x0.gTotal)) && (decide (x0.gTotal≤(k1 : Int)))) && (((x0.gIds (Int.toNat (k1 : Int))) != 0) || (x0.gLost (Int.toNat (k1 : Int))))) = true then
  some (.done false)
 else
  some (.next ())
def e30_sound (x0 : e30_Known) : Option Bool :=
 (forM' (E:=Bool) 9223372036854775807 48 (fun k1 s=>e30_sound_L2 x0 k1) ()).bind fun
  | .next s=>e30_sound_K1
  | .done r=>some r
theorem e30_sound_c {x0 : e30_Known} {r : Bool} (hM : e30_sound x0 = some r) : PCall Tryz.prog 68 [.agg (e30_Known.cs x0)] (.bool r):=by
 unfold e30_sound at hM
 refine PCall.body Tryz.func68 Tryz.ntmps68 rfl rfl rfl rfl ?_
 refine a_seq (ar (.cons (o_box rfl rfl)<|.cons (o_assign rfl)<|.nil _) ?_)
 refine a_cut (α:=Unit) (fun s=>⟨[],[],[]⟩) (fun s=>e30_sound_K1 = some r) ?_ ?_
 ·refine a_seq (ar (.cons (o_move rfl)<|.nil _) ?_)
  obtain ⟨t2,hL2,hK2⟩ := of_bind hM
  refine a_block ?_
  refine a_for (fun k1 (s : Unit)=>⟨[(1,.ref 1 0),(4,.int .i64 (k1 : Int))],[(1,some (.blk 60 (e30_Known.cs x0)))],[1]⟩) _ hL2 (Imp.sh (fun i=>i) rfl rfl rfl rfl rfl rfl) ?_ ?_
  ·rintro k1 _ t3 hk1 hx1 hM hE2
   replace hM : e30_sound_L2 x0 k1 = some t3:=hM
   unfold e30_sound_L2 at hM
   refine a_seq (ar (.cons (o_int rfl rfl rfl)<|.nil _) ?_)
   refine a_seq ?_
   refine a_cond _ rfl (fun _=>?_) (fun c=>absurd hk1 (of_decide_eq_false c))
   refine a_skip (a_seq (a_block (a_seq (ar (.cons (o_move rfl)<|.cons (o_assign rfl)<|.nil _) ?_))))
   refine a_seq ?_
   obtain ⟨h5,hM⟩ := of_chk hM
   obtain ⟨h6,hM⟩ := of_chk hM
   refine ar (.cons (o_fieldAddr rfl)<|.cons (o_load_s rfl rfl rfl)<|.cons (o_int rfl rfl rfl)<|.cons (o_move rfl)<|.cons (o_guardG .bT rfl rfl (fun hb=>(.keep .nil)) (fun hb=>o_move rfl))<|.cons (o_guardG .bT rfl rfl (fun hb=>(.keep .nil)) (fun hb=>o_fieldAddr rfl))<|.cons (o_guardG .bT rfl rfl (fun hb=>(.strip rfl hb .nil)) (fun hb=>o_load_s rfl rfl rfl))<|.cons (o_guardG .bT rfl rfl (fun hb=>(.strip rfl hb (.strip rfl hb .nil))) (fun hb=>o_int rfl rfl rfl))<|.cons (o_and rfl rfl)<|.cons (o_move rfl)<|.cons (o_guardG .bT rfl rfl (fun hb=>(.keep .nil)) (fun hb=>o_move rfl))<|.cons (o_guardG .bT rfl rfl (fun hb=>(.keep .nil)) (fun hb=>o_fieldAddr rfl))<|.cons (o_guardG .bT rfl rfl (fun hb=>(.strip rfl hb (.strip rfl hb .nil))) (fun hb=>t_index_d (h5 hb) rfl rfl))<|.cons (o_guardG .bT rfl rfl (fun hb=>(.strip rfl hb .nil)) (fun hb=>o_load_s rfl rfl (arr_get1 (DV.int .i64) x0.gIds (h5 hb) rfl)))<|.cons (o_guardG .bT rfl rfl (fun hb=>(.strip rfl hb .nil)) (fun hb=>o_int rfl rfl rfl))<|.cons (o_guardG .bT rfl rfl (fun hb=>(.strip rfl hb .nil)) (fun hb=>o_move rfl))<|.cons (o_guardG .iF rfl rfl (fun hb=>(.keep .nil)) (fun hb=>o_move rfl))<|.cons (o_guardG .iF rfl rfl (fun hb=>(.keep .nil)) (fun hb=>o_fieldAddr rfl))<|.cons (o_guardG .iF rfl rfl (fun hb=>(.strip rfl hb (.strip rfl hb .nil))) (fun hb=>t_index_d (h6 hb) rfl rfl))<|.cons (o_guardG .iF rfl rfl (fun hb=>(.strip rfl hb .nil)) (fun hb=>o_load_s rfl rfl (arr_get1 DV.bool x0.gLost (h6 hb) rfl)))<|.cons (o_guardG .bT rfl rfl (fun hb=>(.strip rfl hb (.half rfl hb .nil))) (fun hb=>o_or rfl rfl))<|.cons (o_and rfl rfl)<|.nil _) ?_
   refine a_cond _ rfl (fun h7=>?_) (fun h7=>?_)
   ·replace hM:=(of_if hM).1 h7
    refine a_seq (ar (.cons (o_assign rfl)<|.nil _) ?_)
    obtain rfl:=Option.some.inj hM
    obtain rfl:=hE2 _ rfl
    obtain rfl:=Option.some.inj hK2
    exact a_ret (a_post (.r1 (.tmp rfl)) (DLe.refl _) PostOk.nil.spec)
   ·replace hM:=(of_if hM).2 h7
    refine a_skip (ar (.cons (o_add rfl rfl (inR_i64 hk1 hx1))<|.cons (o_move rfl)<|.nil _) ?_)
    obtain rfl:=Option.some.inj hM
    exact ⟨(),rfl,(Imp.of (fun i=>i) (.cons rfl (DLe.refl _) (.cons rfl (DLe.succ _ _) .nil)) (.cons rfl (.refl _) .nil) rfl rfl rfl)⟩
  ·rintro k1 _ hk1 hx1 rfl
   refine a_seq (ar (.cons (o_int rfl rfl rfl)<|.nil _) ?_)
   refine a_seq ?_
   refine a_cond _ rfl (fun c=>absurd (of_decide_eq_true c) (Int.not_lt.2 hk1)) (fun _=>?_)
   refine a_exit ?_
   exact ⟨(),hK2,(Imp.sh (fun i=>i) rfl rfl rfl rfl rfl rfl)⟩
 ·rintro _ hM
  replace hM : e30_sound_K1 = some r:=hM
  unfold e30_sound_K1 at hM
  refine a_seq (ar (.cons (o_assign rfl)<|.nil _) ?_)
  obtain rfl:=Option.some.inj hM
  exact a_ret (a_post (.r1 (.tmp rfl)) (DLe.refl _) PostOk.nil.spec)
def e30_Add_K1 (x0 : e30_Known) (a1 : Nat→Int) (a2 : Nat→Bool) (a3 : Int) : Option (e30_Known × Bool) :=
 (e30_sound (e30_Known.mk a1 a2 a3)).bind fun v5=>
 if (!v5) = true then
  some (x0,false)
 else
  some ((e30_Known.mk a1 a2 a3),true)
def e30_Add_L2 (x0 : e30_Known) (x1 : List e30_Record) (k7 : Nat) (a8 : Nat→Int) (a9 : Nat→Bool) (a10 : Int) : Option (Ctl ((Nat→Int) × (Nat→Bool) × Int) (e30_Known × Bool)) :=
 (idx x1 (k7 : Int)).bind fun v15=>
 (e30_with (e30_Known.mk a8 a9 a10) v15).bind fun v17=>
 if (!v17.2) = true then
  some (.done (x0,false))
 else
  some (.next (v17.1.gIds,v17.1.gLost,v17.1.gTotal))
def e30_Add (x0 : e30_Known) (x1 : List e30_Record) : Option (e30_Known × Bool) :=
 (forM' (E:=e30_Known × Bool) 9223372036854775807 (List.length x1 : Int) (fun k7 s=>e30_Add_L2 x0 x1 k7 s.1 s.2.1 s.2.2) (x0.gIds,x0.gLost,x0.gTotal)).bind fun
  | .next s=>e30_Add_K1 x0 s.1 s.2.1 s.2.2
  | .done r=>some r
theorem e30_Add_c {x0 : e30_Known} {x1 : List e30_Record} {r : e30_Known × Bool} (hM : e30_Add x0 x1 = some r) : PCall Tryz.prog 21 [.agg (e30_Known.cs x0),.sl 4 (List.map e30_Record.dv x1)] (.tup [.agg (e30_Known.cs r.1),.bool r.2]):=by
 unfold e30_Add at hM
 refine PCall.body Tryz.func21 Tryz.ntmps21 rfl rfl rfl rfl ?_
 refine a_seq (ar (.cons (o_box rfl rfl)<|.cons (o_alloc rfl)<|.cons (o_assign rfl)<|.nil _) ?_)
 refine a_seq (ar (.cons (o_load_r rfl rfl rfl rfl)<|.cons (o_alloc rfl)<|.cons (o_store rfl rfl rfl rfl rfl rfl rfl)<|.nil _) ?_)
 refine a_cut (α:=(Nat→Int) × (Nat→Bool) × Int) (fun s=>⟨[(2,.ref 2 0),(4,.ref 4 0),(6,.ref 6 0)],[(2,some (.blk 60 (e30_Known.cs x0))),(4,some (.blk 60 (e30_Known.cs (e30_Known.mk (arr 0 [0,0,0,0,0,0,0,0,0,0,0,0,0,0,0,0,0,0,0,0,0,0,0,0,0,0,0,0,0,0,0,0,0,0,0,0,0,0,0,0,0,0,0,0,0,0,0,0]) (arr false [false,false,false,false,false,false,false,false,false,false,false,false,false,false,false,false,false,false,false,false,false,false,false,false,false,false,false,false,false,false,false,false,false,false,false,false,false,false,false,false,false,false,false,false,false,false,false,false]) 0)))),(6,some (.blk 60 (e30_Known.cs (e30_Known.mk s.1 s.2.1 s.2.2))))],[2,4,6]⟩) (fun s=>e30_Add_K1 x0 s.1 s.2.1 s.2.2 = some r) ?_ ?_
 ·refine a_seq (ar (.cons (o_move rfl)<|.cons (t_len rfl)<|.cons (o_move rfl)<|.nil _) ?_)
  obtain ⟨t11,hL11,hK11⟩ := of_bind hM
  refine a_block ?_
  refine a_for (fun k7 (s : (Nat→Int) × (Nat→Bool) × Int)=>⟨[(2,.ref 2 0),(4,.ref 4 0),(6,.ref 6 0),(12,.sl 4 (List.map e30_Record.dv x1)),(13,.int .i64 (List.length x1 : Int)),(14,.int .i64 (k7 : Int))],[(2,some (.blk 60 (e30_Known.cs x0))),(4,some (.blk 60 (e30_Known.cs (e30_Known.mk (arr 0 [0,0,0,0,0,0,0,0,0,0,0,0,0,0,0,0,0,0,0,0,0,0,0,0,0,0,0,0,0,0,0,0,0,0,0,0,0,0,0,0,0,0,0,0,0,0,0,0]) (arr false [false,false,false,false,false,false,false,false,false,false,false,false,false,false,false,false,false,false,false,false,false,false,false,false,false,false,false,false,false,false,false,false,false,false,false,false,false,false,false,false,false,false,false,false,false,false,false,false]) 0)))),(6,some (.blk 60 (e30_Known.cs (e30_Known.mk s.1 s.2.1 s.2.2))))],[2,4,6]⟩) _ hL11 (Imp.sh (fun i=>i) rfl rfl rfl rfl rfl rfl) ?_ ?_
  ·rintro k7 ⟨a8,a9,a10⟩ t12 hk7 hx7 hM hE11
   replace hM : e30_Add_L2 x0 x1 k7 a8 a9 a10 = some t12:=hM
   unfold e30_Add_L2 at hM
   refine a_seq (ar (.cons (o_int rfl rfl rfl)<|.nil _) ?_)
   refine a_seq ?_
   refine a_cond _ rfl (fun _=>?_) (fun c=>absurd hk7 (of_decide_eq_false c))
   refine a_skip (a_seq (a_block (a_seq ?_)))
   obtain ⟨v15,h14,hM⟩ := of_bind hM
   refine ar (.cons (t_index h14 rfl rfl rfl)<|.cons (o_load_er rfl rfl rfl)<|.cons (o_alloc rfl)<|.cons (o_store rfl rfl rfl rfl rfl rfl rfl)<|.nil _) ?_
   refine a_seq ?_
   obtain ⟨v17,h16,hM⟩ := of_bind hM
   refine ar (.cons (o_load_r rfl rfl rfl rfl)<|.cons (o_load_r rfl rfl rfl rfl)<|.cons (o_call (e30_with_c h16) rfl (DLeL.refl _) rfl)<|.cons (o_move rfl)<|.cons (o_extract rfl rfl)<|.cons (o_extract rfl rfl)<|.cons (o_alloc rfl)<|.cons (o_store rfl rfl rfl rfl rfl rfl rfl)<|.cons (o_assign rfl)<|.nil _) ?_
   refine a_seq (a_seq (ar (.cons (o_move rfl)<|.cons (o_not rfl)<|.nil _) ?_))
   refine a_cond _ rfl (fun h18=>?_) (fun h18=>?_)
   ·replace hM:=(of_if hM).1 h18
    refine a_seq (ar (.cons (o_load_r rfl rfl rfl rfl)<|.cons (o_store rfl rfl rfl rfl rfl rfl rfl)<|.cons (o_assign rfl)<|.nil _) ?_)
    obtain rfl:=Option.some.inj hM
    obtain rfl:=hE11 _ rfl
    obtain rfl:=Option.some.inj hK11
    exact a_ret (a_post (.r2 (.cell rfl rfl (.row _ CRow.h (Nat.le_of_ble_eq_true rfl) rfl)) (.tmp rfl)) (DLe.refl _) PostOk.nil.spec)
   ·replace hM:=(of_if hM).2 h18
    refine a_skip (ar (.cons (o_load_r rfl rfl rfl rfl)<|.cons (o_store rfl rfl rfl rfl rfl rfl rfl)<|.nil _) ?_)
    refine ar (.cons (o_add rfl rfl (inR_i64 hk7 hx7))<|.cons (o_move rfl)<|.nil _) ?_
    obtain rfl:=Option.some.inj hM
    exact ⟨(v17.1.gIds,v17.1.gLost,v17.1.gTotal),rfl,(Imp.of (fun i=>i) (.cons rfl (DLe.refl _) (.cons rfl (DLe.refl _) (.cons rfl (DLe.refl _) (.cons rfl (DLe.refl _) (.cons rfl (DLe.refl _) (.cons rfl (DLe.succ _ _) .nil)))))) (.cons rfl (.refl _) (.cons rfl (.refl _) (.cons rfl (.refl _) .nil))) rfl rfl rfl)⟩
  ·rintro k7 ⟨a8,a9,a10⟩ hk7 hx7 rfl
   refine a_seq (ar (.cons (o_int rfl rfl rfl)<|.nil _) ?_)
   refine a_seq ?_
   refine a_cond _ rfl (fun c=>absurd (of_decide_eq_true c) (Int.not_lt.2 hk7)) (fun _=>?_)
   refine a_exit ?_
   exact ⟨(a8,a9,a10),hK11,(Imp.sh (fun i=>i) rfl rfl rfl rfl rfl rfl)⟩
 ·rintro ⟨a1,a2,a3⟩ hM
  replace hM : e30_Add_K1 x0 a1 a2 a3 = some r:=hM
  unfold e30_Add_K1 at hM
  refine a_seq (a_seq ?_)
  obtain ⟨v5,h4,hM⟩ := of_bind hM
  refine ar (.cons (o_load_r rfl rfl rfl rfl)<|.cons (o_call (e30_sound_c h4) rfl (DLeL.refl _) rfl)<|.cons (o_not rfl)<|.nil _) ?_
  refine a_cond _ rfl (fun h6=>?_) (fun h6=>?_)
  ·replace hM:=(of_if hM).1 h6
   refine a_seq (ar (.cons (o_load_r rfl rfl rfl rfl)<|.cons (o_store rfl rfl rfl rfl rfl rfl rfl)<|.cons (o_assign rfl)<|.nil _) ?_)
   obtain rfl:=Option.some.inj hM
   exact a_ret (a_post (.r2 (.cell rfl rfl (.row _ CRow.h (Nat.le_of_ble_eq_true rfl) rfl)) (.tmp rfl)) (DLe.refl _) PostOk.nil.spec)
  ·replace hM:=(of_if hM).2 h6
   refine a_skip (a_seq (ar (.cons (o_load_r rfl rfl rfl rfl)<|.cons (o_store rfl rfl rfl rfl rfl rfl rfl)<|.cons (o_assign rfl)<|.nil _) ?_))
   obtain rfl:=Option.some.inj hM
   exact a_ret (a_post (.r2 (.cell rfl rfl (.row _ CRow.h (Nat.le_of_ble_eq_true rfl) rfl)) (.tmp rfl)) (DLe.refl _) PostOk.nil.spec)
end Go.Proofs.YtepkcbalmjnhpaaGreat
namespace Go.Proofs.YtepkcbalmjnhpaaGreat
theorem foldGo_spec {S : Type} {body : Nat→S→Option S} (f : Nat→S) : ∀ (m k : Nat),(∀ j,k≤j→j < k + m→body j (f j) = some (f (j + 1)))→foldGo body m k (f k) = some (f (k + m))
 | 0,k,_=>rfl
 | m + 1,k,h=>by
  unfold foldGo
  rw [h k (Nat.le_refl _) (by omega),Option.bind_some,foldGo_spec f m (k + 1) (fun j h1 h2=>h j (by omega) (by omega)),show k + 1 + m = k + (m + 1) by omega]
theorem foldM_spec {S : Type} {mx n : Int} {body : Nat→S→Option S} {s0 : S} (N : Nat) (f : Nat→S) (h0 : f 0 = s0) (hn : n = (N : Int)) (hx : n≤mx) (h : ∀ j,j < N→body j (f j) = some (f (j + 1))) : foldM' mx n body s0 = some (f N):=by
 unfold foldM'
 rw [chk_pos hx,← h0,hn,Int.toNat_natCast,foldGo_spec f N 0 (fun j _ h2=>h j (by omega)),Nat.zero_add]
theorem forGo_next {S E : Type} {body : Nat→S→Option (Ctl S E)} (f : Nat→S) : ∀ (m k : Nat),(∀ j,k≤j→j < k + m→body j (f j) = some (.next (f (j + 1))))→forGo body m k (f k) = some (.next (f (k + m)))
 | 0,k,_=>rfl
 | m + 1,k,h=>by
  unfold forGo
  rw [h k (Nat.le_refl _) (by omega)]
  show forGo body m (k + 1) (f (k + 1)) = _
  rw [forGo_next f m (k + 1) (fun j h1 h2=>h j (by omega) (by omega)),show k + 1 + m = k + (m + 1) by omega]
theorem forM_next {S E : Type} {mx n : Int} {body : Nat→S→Option (Ctl S E)} {s0 : S} (N : Nat) (f : Nat→S) (h0 : f 0 = s0) (hn : n = (N : Int)) (hx : n≤mx) (h : ∀ j,j < N→body j (f j) = some (.next (f (j + 1)))) : forM' mx n body s0 = some (.next (f N)):=by
 unfold forM'
 rw [chk_pos hx,← h0,hn,Int.toNat_natCast,forGo_next f N 0 (fun j _ h2=>h j (by omega)),Nat.zero_add]
theorem forGo_done {S E : Type} {body : Nat→S→Option (Ctl S E)} (f : Nat→S) (e : E) : ∀ (i m k : Nat),i < m→(∀ j,k≤j→j < k + i→body j (f j) = some (.next (f (j + 1))))→body (k + i) (f (k + i)) = some (.done e)→forGo body m k (f k) = some (.done e)
 | i,0,k,hi,_,_=>by omega
 | 0,m + 1,k,_,_,he=>by
  unfold forGo
  rw [Nat.add_zero] at he
  rw [he]; rfl
 | i + 1,m + 1,k,hi,h,he=>by
  unfold forGo
  rw [h k (Nat.le_refl _) (by omega)]
  show forGo body m (k + 1) (f (k + 1)) = _
  exact forGo_done f e i m (k + 1) (by omega) (fun j h1 h2=>h j (by omega) (by omega)) (by rw [show k + 1 + i = k + (i + 1) by omega]; exact he)
theorem whileGo_spec {S E : Type} {step : S→Option (Ctl S E)} (f : Nat→S) (e : E) : ∀ (m k n : Nat),m < n→(∀ j,k≤j→j < k + m→step (f j) = some (.next (f (j + 1))))→step (f (k + m)) = some (.done e)→whileGo step n (f k) = some e
 | m,k,0,hn,_,_=>by omega
 | 0,k,n + 1,_,_,he=>by
  unfold whileGo
  rw [Nat.add_zero] at he
  rw [he]; rfl
 | m + 1,k,n + 1,hn,h,he=>by
  unfold whileGo
  rw [h k (Nat.le_refl _) (by omega)]
  show whileGo step n (f (k + 1)) = _
  exact whileGo_spec f e m (k + 1) n (by omega) (fun j h1 h2=>h j (by omega) (by omega)) (by rw [show k + 1 + m = k + (m + 1) by omega]; exact he)
theorem whileM_spec {S E : Type} {step : S→Option (Ctl S E)} {s0 : S} {e : E} (m : Nat) (f : Nat→S) (h0 : f 0 = s0) (hm : m < 1180591620717411303424) (h : ∀ j,j < m→step (f j) = some (.next (f (j + 1)))) (he : step (f m) = some (.done e)) : whileM step s0 = some e:=by
 unfold whileM
 rw [← h0]
 exact whileGo_spec f e m 0 _ hm (fun j _ h2=>h j (by omega)) (by rw [Nat.zero_add]; exact he)
theorem whileM_ind {S E : Type} {step : S→Option (Ctl S E)} {s0 : S} (I : S→Prop) (μ : S→Nat) (Q : E→Prop) (hI : I s0) (hb : μ s0 < 1180591620717411303424)
  (h : ∀ s,I s→(∃ s',step s = some (.next s')∧I s'∧μ s' < μ s)∨(∃ e,step s = some (.done e)∧Q e)) : ∃ e,whileM step s0 = some e∧Q e:=by
 unfold whileM
 have : ∀ n s,I s→μ s < n→∃ e,whileGo step n s = some e∧Q e:=by
  intro n
  induction n with
  | zero=>intro s _ h; omega
  | succ n ih=>
   intro s hs hm
   rcases h s hs with ⟨s',h1,h2,h3⟩ | ⟨e,h1,h2⟩
   ·obtain ⟨e,k1,k2⟩ := ih s' h2 (by omega)
    refine ⟨e,?_,k2⟩
    unfold whileGo
    rw [h1]; exact k1
   ·refine ⟨e,?_,h2⟩
    unfold whileGo
    rw [h1]; rfl
 exact this _ s0 hI hb
theorem forM_ind {S E : Type} {mx n : Int} {body : Nat→S→Option (Ctl S E)} {s0 : S} (I : Nat→S→Prop) (Q : Ctl S E→Prop) (hx : n≤mx) (hn : 0≤n) (hI : I 0 s0)
  (h : ∀ (k : Nat) s,(k : Int) < n→I k s→(∃ s',body k s = some (.next s')∧I (k + 1) s')∨(∃ e,body k s = some (.done e)∧Q (.done e))) (hq : ∀ s,I n.toNat s→Q (.next s)) : ∃ t,forM' mx n body s0 = some t∧Q t:=by
 unfold forM'
 rw [chk_pos hx]
 have : ∀ m k s,m + k = n.toNat→I k s→∃ t,forGo body m k s = some t∧Q t:=by
  intro m
  induction m with
  | zero=>intro k s hk hs; exact ⟨_,rfl,hq s (by rw [← hk,Nat.zero_add]; exact hs)⟩
  | succ m ih=>
   intro k s hk hs
   rcases h k s (by omega) hs with ⟨s',h1,h2⟩ | ⟨e,h1,h2⟩
   ·obtain ⟨t,k1,k2⟩ := ih (k + 1) s' (by omega) h2
    refine ⟨t,?_,k2⟩
    unfold forGo
    rw [h1]; exact k1
   ·refine ⟨_,?_,h2⟩
    unfold forGo
    rw [h1]; rfl
 exact this n.toNat 0 s0 (by omega) hI
theorem wrap_i64 {n : Int} (h1 : -9223372036854775808≤n) (h2 : n≤9223372036854775807) : IntKind.wrap .i64 n = n:=wrap_in (k:=.i64) ⟨h1,h2⟩
theorem wrap_u64 {n : Int} (h1 : 0≤n) (h2 : n≤18446744073709551615) : IntKind.wrap .u64 n = n:=wrap_in (k:=.u64) ⟨h1,h2⟩
end Go.Proofs.YtepkcbalmjnhpaaGreat
