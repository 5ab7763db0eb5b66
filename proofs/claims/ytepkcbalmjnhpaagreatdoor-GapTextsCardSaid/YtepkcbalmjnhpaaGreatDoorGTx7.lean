/-
  What the claim leans on, part 7.
-/
import Derived.Test.YtepkcbalmjnhpaaGreatDoorGTx6
import Derived.OrdersIn
import Derived.Sort.LoopGhostIn
import Derived.RangeFuncIn
set_option linter.unusedVariables false
set_option linter.unusedSimpArgs false
/-! ### part A -/
/-
 My engine,part A: abstract data,how values and worlds hold them,states,and how a world's step keeps them. Over any program.
-/
namespace Go.Proofs.YtepkcbalmjnhpaaGreatDoor
open Go.RowKit
inductive DV where
 | int (k : IntKind) (n : Int)
 | bool (b : Bool)
 | str (s : ByteArray)
 | val (v : Value)
 | nils
 | agg (ds : List DV)
 | tup (ds : List DV)
 | sl (sz : Nat) (els : List DV)
 | eptr (ds : List DV)
 | ref (id off : Nat)
 | row (id : Nat)
 | rp (id i sz o : Nat)
 | bsl (id off n : Nat)
 | ifb (b : Bool) (d : DV)
 | clo (f : FuncId) (ds : List DV)
abbrev FMap:=Nat→Option (Array Value)
abbrev Gam:=Nat→Option Value
def Gam.no : Gam:=fun _=>none
def SlOk (A : Option Addr) (n c : Nat) : Prop:=(A = none→n = 0∧c = 0)∧n≤c∧c≤9223372036854775807
mutual
def Rs (F : FMap) (γ : Gam) : DV→Value→Prop
 | .int k n,v=>v = .int k n
 | .bool b,v=>v = .bool b
 | .str s,v=>v = .string s
 | .val x,v=>v = x
 | .nils,v=>v = .slice none 0 0
 | .agg ds,v=>∃ cs,v = .agg cs∧RsL F γ ds cs.toList
 | .tup ds,v=>∃ cs,v = .tuple cs∧RsT F γ ds cs.toList
 | .sl sz els,v=>∃ A c,v = .slice A els.length c∧SlOk A els.length c ∧
   (els≠[]→∃ b o cs vs rest,A = some ⟨b,o,none⟩∧F b = some cs∧cs.toList.drop o = vs++rest∧RsE F sz els vs)
 | .eptr ds,v=>∃ b o cs vs rest,v = .pointer (some ⟨b,o,none⟩)∧F b = some cs∧cs.toList.drop o = vs++rest∧RsL F Gam.no ds vs
 | .ref id off,v=>∃ b,γ id = some (.pointer (some ⟨b,0,none⟩))∧v = .pointer (some ⟨b,off,none⟩)
 | .row id,v=>γ id = some v
 | .rp id i sz o,v=>∃ b n c,γ id = some (.slice (some ⟨b,0,none⟩) n c)∧v = .pointer (some ⟨b,i * sz + o,none⟩)
 | .bsl id off n,v=>∃ b c,γ id = some (.pointer (some ⟨b,0,none⟩))∧v = .slice (some ⟨b,off,none⟩) n c∧n≤c
 | .ifb g d,v=>(g = true→Rs F γ d v)∧(g = false→v = undef)
 | .clo f ds,v=>∃ cs,v = .func (.func f) #[] cs∧RsT F γ ds cs.toList
def RsL (F : FMap) (γ : Gam) : List DV→List Value→Prop
 | [],vs=>vs = []
 | d :: ds,vs=>∃ v rest,vs = v :: rest∧v.oneCell' = true∧Rs F γ d v∧RsL F γ ds rest
def RsT (F : FMap) (γ : Gam) : List DV→List Value→Prop
 | [],vs=>vs = []
 | d :: ds,vs=>∃ v rest,vs = v :: rest∧Rs F γ d v∧RsT F γ ds rest
def RsE (F : FMap) (sz : Nat) : List DV→List Value→Prop
 | [],vs=>vs = []
 | d :: ds,vs=>∃ v rest,vs = v.cells.toList++rest∧v.cells.size = sz∧(∀ u∈v.cells.toList,u.oneCell' = true)∧Rs F Gam.no d v∧RsE F sz ds rest
end
def FLe (F F' : FMap) : Prop := ∀ b cs,F b = some cs→F' b = some cs
def GLe (γ γ' : Gam) : Prop := ∀ i g,γ i = some g→γ' i = some g
theorem FLe.refl (F : FMap) : FLe F F:=fun _ _ h=>h
theorem FLe.trans {a b c : FMap} (h : FLe a b) (k : FLe b c) : FLe a c:=fun _ _ x=>k _ _ (h _ _ x)
theorem GLe.refl (γ : Gam) : GLe γ γ:=fun _ _ h=>h
theorem GLe.trans {a b c : Gam} (h : GLe a b) (k : GLe b c) : GLe a c:=fun _ _ x=>k _ _ (h _ _ x)
theorem GLe.no (γ : Gam) : GLe Gam.no γ:=fun _ _ h=>by cases h
mutual
theorem Rs.mono {F F' : FMap} {γ γ' : Gam} (hF : FLe F F') (hg : GLe γ γ') : ∀ (d : DV) (v : Value),Rs F γ d v→Rs F' γ' d v
 | .int k n,v,h=>by simp only [Rs] at h ⊢; exact h
 | .bool b,v,h=>by simp only [Rs] at h ⊢; exact h
 | .str s,v,h=>by simp only [Rs] at h ⊢; exact h
 | .val x,v,h=>by simp only [Rs] at h ⊢; exact h
 | .nils,v,h=>by simp only [Rs] at h ⊢; exact h
 | .agg ds,v,h=>by simp only [Rs] at h ⊢; obtain ⟨cs,rfl,h⟩ := h; exact ⟨cs,rfl,RsL.mono hF hg ds _ h⟩
 | .tup ds,v,h=>by simp only [Rs] at h ⊢; obtain ⟨cs,rfl,h⟩ := h; exact ⟨cs,rfl,RsT.mono hF hg ds _ h⟩
 | .sl sz els,v,h=>by
  simp only [Rs] at h ⊢
  obtain ⟨A,c,rfl,hs,h⟩ := h
  refine ⟨A,c,rfl,hs,fun hne=>?_⟩
  obtain ⟨b,o,cs,vs,rest,h1,h2,h3,h4⟩ := h hne
  exact ⟨b,o,cs,vs,rest,h1,hF _ _ h2,h3,RsE.mono hF els _ h4⟩
 | .eptr ds,v,h=>by
  simp only [Rs] at h ⊢
  obtain ⟨b,o,cs,vs,rest,h1,h2,h3,h4⟩ := h
  exact ⟨b,o,cs,vs,rest,h1,hF _ _ h2,h3,RsL.mono hF (GLe.refl _) ds _ h4⟩
 | .ref id off,v,h=>by simp only [Rs] at h ⊢; obtain ⟨b,h1,h2⟩ := h; exact ⟨b,hg _ _ h1,h2⟩
 | .row id,v,h=>by simp only [Rs] at h ⊢; exact hg _ _ h
 | .rp id i sz o,v,h=>by simp only [Rs] at h ⊢; obtain ⟨b,n,c,h1,h2⟩ := h; exact ⟨b,n,c,hg _ _ h1,h2⟩
 | .bsl id off n,v,h=>by simp only [Rs] at h ⊢; obtain ⟨b,c,h1,h2⟩ := h; exact ⟨b,c,hg _ _ h1,h2⟩
 | .ifb g d,v,h=>by simp only [Rs] at h ⊢; exact ⟨fun e=>Rs.mono hF hg d v (h.1 e),h.2⟩
 | .clo f ds,v,h=>by simp only [Rs] at h ⊢; obtain ⟨cs,rfl,h⟩ := h; exact ⟨cs,rfl,RsT.mono hF hg ds _ h⟩
theorem RsL.mono {F F' : FMap} {γ γ' : Gam} (hF : FLe F F') (hg : GLe γ γ') : ∀ (ds : List DV) (vs : List Value),RsL F γ ds vs→RsL F' γ' ds vs
 | [],vs,h=>by simp only [RsL] at h ⊢; exact h
 | d :: ds,vs,h=>by
  simp only [RsL] at h ⊢
  obtain ⟨v,rest,h1,h2,h3,h4⟩ := h
  exact ⟨v,rest,h1,h2,Rs.mono hF hg d v h3,RsL.mono hF hg ds _ h4⟩
theorem RsT.mono {F F' : FMap} {γ γ' : Gam} (hF : FLe F F') (hg : GLe γ γ') : ∀ (ds : List DV) (vs : List Value),RsT F γ ds vs→RsT F' γ' ds vs
 | [],vs,h=>by simp only [RsT] at h ⊢; exact h
 | d :: ds,vs,h=>by
  simp only [RsT] at h ⊢
  obtain ⟨v,rest,h1,h3,h4⟩ := h
  exact ⟨v,rest,h1,Rs.mono hF hg d v h3,RsT.mono hF hg ds _ h4⟩
theorem RsE.mono {F F' : FMap} (hF : FLe F F') {sz : Nat} : ∀ (ds : List DV) (vs : List Value),RsE F sz ds vs→RsE F' sz ds vs
 | [],vs,h=>by simp only [RsE] at h ⊢; exact h
 | d :: ds,vs,h=>by
  simp only [RsE] at h ⊢
  obtain ⟨v,rest,h1,h2,h3,h4,h5⟩ := h
  exact ⟨v,rest,h1,h2,h3,Rs.mono hF (GLe.refl _) d v h4,RsE.mono hF ds _ h5⟩
end
def DV.one : DV→Bool
 | .agg _ | .tup _ | .ifb _ _=>false
 | .val x=>x.oneCell'
 | _=>true
theorem Rs.one {F : FMap} {γ : Gam} {d : DV} {v : Value} (h : Rs F γ d v) (hw : ∀ id g,γ id = some g→g.oneCell' = true) (ho : d.one = true) : v.oneCell' = true:=by
 cases d <;> simp only [Rs,DV.one] at h ho <;> try (cases ho)
 ·rw [h]; rfl
 ·rw [h]; rfl
 ·rw [h]; rfl
 ·rw [h]; exact ho
 ·rw [h]; rfl
 ·obtain ⟨A,c,rfl,_⟩ := h; rfl
 ·obtain ⟨b,o,cs,vs,rest,rfl,_⟩ := h; rfl
 ·obtain ⟨b,_,rfl⟩ := h; rfl
 ·exact hw _ _ h
 ·obtain ⟨b,n,c,_,rfl⟩ := h; rfl
 ·obtain ⟨b,c,_,rfl,_⟩ := h; rfl
 ·obtain ⟨cs,rfl,_⟩ := h; rfl
def DV.cs : DV→List DV
 | .agg ds=>ds
 | d=>[d]
theorem oneCell_cells {v : Value} (h : v.oneCell' = true) : v.cells = #[v]:=by
 cases v <;> first | rfl | (simp [Value.oneCell'] at h)
theorem RsL.len {F : FMap} {γ : Gam} : ∀ {ds : List DV} {vs : List Value},RsL F γ ds vs→vs.length = ds.length
 | [],vs,h=>by simp only [RsL] at h; rw [h]; rfl
 | d :: ds,vs,h=>by
  simp only [RsL] at h
  obtain ⟨v,rest,rfl,_,_,h⟩ := h
  simp [RsL.len h]
theorem RsL.get {F : FMap} {γ : Gam} : ∀ {ds : List DV} {vs : List Value} {i : Nat} {d : DV},RsL F γ ds vs→ds[i]? = some d→∃ v,vs[i]? = some v∧v.oneCell' = true∧Rs F γ d v
 | [],vs,i,d,h,hi=>by simp at hi
 | d0 :: ds,vs,0,d,h,hi=>by
  simp only [RsL] at h
  obtain ⟨v,rest,rfl,h1,h2,h⟩ := h
  simp at hi; subst hi
  exact ⟨v,rfl,h1,h2⟩
 | d0 :: ds,vs,i + 1,d,h,hi=>by
  simp only [RsL] at h
  obtain ⟨v,rest,rfl,h1,h2,h⟩ := h
  simpa using RsL.get h (by simpa using hi)
theorem RsL.of_get {F : FMap} {γ : Gam} : ∀ {ds : List DV} {vs : List Value},vs.length = ds.length→(∀ (i : Nat) (d : DV),ds[i]? = some d→∃ v,vs[i]? = some v∧v.oneCell' = true∧Rs F γ d v)→RsL F γ ds vs
 | [],vs,hl,_=>by simp only [RsL]; exact List.eq_nil_of_length_eq_zero hl
 | d :: ds,[],hl,_=>by simp at hl
 | d :: ds,v :: vs,hl,h=>by
  simp only [RsL]
  obtain ⟨v',h1,h2,h3⟩ := h 0 d rfl
  simp at h1; subst h1
  exact ⟨v,vs,rfl,h2,h3,RsL.of_get (by simpa using hl) (fun i d hi=>by simpa using h (i + 1) d (by simpa using hi))⟩
theorem RsL.one {F : FMap} {γ : Gam} {ds : List DV} {vs : List Value} (h : RsL F γ ds vs) : ∀ u∈vs,u.oneCell' = true:=by
 intro u hu
 obtain ⟨i,hi⟩ := List.mem_iff_getElem?.1 hu
 have hlt : i < ds.length:=by
  rw [← h.len]
  rcases Nat.lt_or_ge i vs.length with h | h
  ·exact h
  ·rw [List.getElem?_eq_none h] at hi; cases hi
 obtain ⟨v,h1,h2,_⟩ := h.get (List.getElem?_eq_getElem hlt)
 rw [hi] at h1; injection h1 with h1; rw [h1]; exact h2
theorem RsL.take {F : FMap} {γ : Gam} {ds : List DV} {vs : List Value} (h : RsL F γ ds vs) (n : Nat) : RsL F γ (ds.take n) (vs.take n) :=
 RsL.of_get (by simp [h.len]) (fun i d hi=>by
  rw [List.getElem?_take] at hi ⊢
  split at hi
  ·rename_i hlt; simpa [hlt] using h.get hi
  ·cases hi)
theorem RsL.drop {F : FMap} {γ : Gam} {ds : List DV} {vs : List Value} (h : RsL F γ ds vs) (n : Nat) : RsL F γ (ds.drop n) (vs.drop n) :=
 RsL.of_get (by simp [h.len]) (fun i d hi=>by
  rw [List.getElem?_drop] at hi ⊢
  exact h.get hi)
theorem RsL.append {F : FMap} {γ : Gam} {ds es : List DV} {vs us : List Value} (h : RsL F γ ds vs) (k : RsL F γ es us) : RsL F γ (ds++es) (vs++us) :=
 RsL.of_get (by simp [h.len,k.len]) (fun i d hi=>by
  rw [List.getElem?_append] at hi ⊢
  rw [h.len]
  split at hi
  ·rename_i hlt; rw [if_pos hlt]; exact h.get hi
  ·rename_i hlt; rw [if_neg hlt]; exact k.get hi)
theorem RsL.single {F : FMap} {γ : Gam} {d : DV} {v : Value} (h : Rs F γ d v) (ho : v.oneCell' = true) : RsL F γ [d] [v]:=by
 simp only [RsL]; exact ⟨v,[],rfl,ho,h,rfl⟩
theorem DV.cs_one {d : DV} (h : d.one = true) : d.cs = [d]:=by cases d <;> first | rfl | (simp [DV.one] at h)
def GOne (γ : Gam) : Prop := ∀ id g,γ id = some g→g.oneCell' = true
theorem GOne.no : GOne Gam.no:=fun _ _ h=>by cases h
def DV.flat : DV→Bool
 | .agg _=>true
 | d=>d.one
theorem RsL.cs {F : FMap} {γ : Gam} {d : DV} {v : Value} (h : Rs F γ d v) (hw : GOne γ) (hd : d.flat = true) : RsL F γ d.cs v.cells.toList:=by
 by_cases ho : d.one = true
 ·have:=h.one hw ho
  rw [DV.cs_one ho,oneCell_cells this]
  exact RsL.single h this
 ·cases d with
  | agg ds=>
   simp only [Rs] at h
   obtain ⟨cs,rfl,h⟩ := h
   exact h
  | _=>exact absurd hd ho
theorem RsE.len {F : FMap} {sz : Nat} : ∀ {ds : List DV} {vs : List Value},RsE F sz ds vs→vs.length = ds.length * sz
 | [],vs,h=>by simp only [RsE] at h; rw [h]; simp
 | d :: ds,vs,h=>by
  simp only [RsE] at h
  obtain ⟨v,rest,rfl,h1,_,_,h⟩ := h
  rw [List.length_append,RsE.len h,List.length_cons,Array.length_toList,h1,Nat.succ_mul]; omega
theorem RsE.get {F : FMap} {sz : Nat} : ∀ {ds : List DV} {vs : List Value} {i : Nat} {d : DV},RsE F sz ds vs→ds[i]? = some d →
  ∃ v : Value,(vs.drop (i * sz)).take sz = v.cells.toList∧v.cells.size = sz∧(∀ u∈v.cells.toList,u.oneCell' = true)∧Rs F Gam.no d v
 | [],vs,i,d,h,hi=>by simp at hi
 | d0 :: ds,vs,0,d,h,hi=>by
  simp only [RsE] at h
  obtain ⟨v,rest,rfl,h1,h2,h3,h⟩ := h
  simp at hi; subst hi
  refine ⟨v,?_,h1,h2,h3⟩
  rw [Nat.zero_mul,List.drop_zero,List.take_append_of_le_length (by simp [h1]),List.take_of_length_le (by simp [h1])]
 | d0 :: ds,vs,i + 1,d,h,hi=>by
  simp only [RsE] at h
  obtain ⟨v,rest,rfl,h1,h2,h3,h⟩ := h
  obtain ⟨v',k1,k2⟩ := RsE.get h (i:=i) (d:=d) (by simpa using hi)
  refine ⟨v',?_,k2⟩
  have : (v.cells.toList++rest).drop ((i + 1) * sz) = rest.drop (i * sz):=by
   rw [List.drop_append,List.drop_of_length_le (by simp [h1,Nat.succ_mul])]
   simp [h1,Nat.succ_mul]
  rw [this]; exact k1
theorem RsE.append {F : FMap} {sz : Nat} : ∀ {ds es : List DV} {vs us : List Value},RsE F sz ds vs→RsE F sz es us→RsE F sz (ds++es) (vs++us)
 | [],es,vs,us,h,k=>by simp only [RsE] at h; rw [h]; exact k
 | d :: ds,es,vs,us,h,k=>by
  simp only [RsE] at h
  obtain ⟨v,rest,rfl,h1,h2,h3,h⟩ := h
  simp only [List.cons_append,RsE]
  exact ⟨v,rest++us,by simp,h1,h2,h3,RsE.append h k⟩
theorem RsE.single {F : FMap} {sz : Nat} {d : DV} {v : Value} (h1 : v.cells.size = sz) (h2 : ∀ u∈v.cells.toList,u.oneCell' = true) (h : Rs F Gam.no d v) : RsE F sz [d] v.cells.toList:=by
 simp only [RsE]; exact ⟨v,[],by simp,h1,h2,h,rfl⟩
theorem RsE.drop {F : FMap} {sz : Nat} : ∀ {ds : List DV} {vs : List Value} (n : Nat),RsE F sz ds vs→RsE F sz (ds.drop n) (vs.drop (n * sz))
 | ds,vs,0,h=>by simpa using h
 | [],vs,n + 1,h=>by simp only [RsE] at h; rw [h]; simp [RsE]
 | d :: ds,vs,n + 1,h=>by
  simp only [RsE] at h
  obtain ⟨v,rest,rfl,h1,h2,h3,h⟩ := h
  have : (v.cells.toList++rest).drop ((n + 1) * sz) = rest.drop (n * sz):=by
   rw [List.drop_append,List.drop_of_length_le (by simp [h1,Nat.succ_mul])]
   simp [h1,Nat.succ_mul]
  rw [this]; exact RsE.drop n h
theorem RsE.take {F : FMap} {sz : Nat} : ∀ {ds : List DV} {vs : List Value} (n : Nat),RsE F sz ds vs→RsE F sz (ds.take n) (vs.take (n * sz))
 | ds,vs,0,h=>by simp [RsE]
 | [],vs,n + 1,h=>by simp only [RsE] at h; rw [h]; simp [RsE]
 | d :: ds,vs,n + 1,h=>by
  simp only [RsE] at h
  obtain ⟨v,rest,rfl,h1,h2,h3,h⟩ := h
  have : (v.cells.toList++rest).take ((n + 1) * sz) = v.cells.toList++rest.take (n * sz):=by
   rw [List.take_append,List.take_of_length_le (by simp [h1,Nat.succ_mul])]
   simp [h1,Nat.succ_mul]
  rw [this]; simp only [List.take_succ_cons,RsE]
  exact ⟨v,_,rfl,h1,h2,h3,RsE.take n h⟩
theorem RsE.one {F : FMap} {sz : Nat} : ∀ {ds : List DV} {vs : List Value},RsE F sz ds vs→∀ u∈vs,u.oneCell' = true
 | [],vs,h=>by simp only [RsE] at h; rw [h]; simp
 | d :: ds,vs,h=>by
  simp only [RsE] at h
  obtain ⟨v,rest,rfl,h1,h2,h3,h⟩ := h
  intro u hu
  rcases List.mem_append.1 hu with hu | hu
  ·exact h2 u hu
  ·exact RsE.one h u hu
theorem RsE.set {F : FMap} {sz : Nat} {ds : List DV} {vs : List Value} (h : RsE F sz ds vs) {i : Nat} (hi : i < ds.length) {d : DV} {v : Value} (h1 : v.cells.size = sz) (h2 : ∀ u∈v.cells.toList,u.oneCell' = true) (hd : Rs F Gam.no d v) :
  RsE F sz (ds.set i d) (vs.take (i * sz)++v.cells.toList++vs.drop ((i + 1) * sz)):=by
 have e : ds.set i d = ds.take i++[d]++ds.drop (i + 1):=by
  rw [List.set_eq_take_append_cons_drop,if_pos hi]; simp
 rw [e]
 exact ((h.take i).append (RsE.single h1 h2 hd)).append (h.drop (i + 1))
end Go.Proofs.YtepkcbalmjnhpaaGreatDoor
/-! ### part B -/
/-
 My engine,part B: states,what a world must hold for them,and how the steps of a world keep them.
-/
namespace Go.Proofs.YtepkcbalmjnhpaaGreatDoor
open Go.RowKit
inductive HE where
 | blk (T : TypeId) (ds : List DV)
 | row (E : TypeId) (sz : Nat) (els : List DV)
 | obj (o : Obj)
def Value.pblk : Value→Option Nat
 | .pointer (some a)=>some a.block
 | .slice (some a) _ _=>some a.block
 | _=>none
def Ent (F : FMap) (γ : Gam) (w : World) : HE→Value→Prop
 | .blk T ds,g=>∃ b cs,g = .pointer (some ⟨b,0,none⟩)∧w.heap[b]? = some (.cells cs T (0,0))∧RsL F γ ds cs.toList
 | .row E sz els,g=>∃ vs,w.ownsRow 0 E sz g els.length vs∧RsE F sz els vs
 | .obj o,g=>∃ b,g = .pointer (some ⟨b,0,none⟩)∧w.heap[b]? = some o
theorem Ent.mono {F F' : FMap} {γ γ' : Gam} {w : World} {e : HE} {g : Value} (hF : FLe F F') (hg : GLe γ γ') (h : Ent F γ w e g) : Ent F' γ' w e g:=by
 cases e with
 | blk T ds=>obtain ⟨b,cs,h1,h2,h3⟩ := h; exact ⟨b,cs,h1,h2,h3.mono hF hg⟩
 | row E sz els=>obtain ⟨vs,h1,h2⟩ := h; exact ⟨vs,h1,h2.mono hF⟩
 | obj o=>exact h
theorem pblk_row {w : World} {base : Nat} {E : TypeId} {sz : Nat} {g : Value} {n : Nat} {vs : List Value} (h : w.ownsRow base E sz g n vs) : Value.pblk g = g.ownBlock:=by
 rcases h.2 with ⟨rfl,_⟩ | ⟨b,cap,cur,rfl,_⟩ <;> rfl
theorem Ent.lt {F : FMap} {γ : Gam} {w : World} {e : HE} {g : Value} (h : Ent F γ w e g) : ∀ b,Value.pblk g = some b→b < w.heap.size:=by
 intro b hb
 cases e with
 | blk T ds=>
  obtain ⟨b',cs,rfl,h2,h3⟩ := h
  simp [Value.pblk] at hb; subst hb
  exact (Array.getElem?_eq_some_iff.1 h2).1
 | row E sz els=>
  obtain ⟨vs,h1,h2⟩ := h
  rw [pblk_row h1] at hb
  exact (h1.lt b hb).2
 | obj o=>
  obtain ⟨b',rfl,h2⟩ := h
  simp [Value.pblk] at hb; subst hb
  exact (Array.getElem?_eq_some_iff.1 h2).1
theorem Ent.one {F : FMap} {γ : Gam} {w : World} {e : HE} {g : Value} (h : Ent F γ w e g) : g.oneCell' = true:=by
 cases e with
 | blk T ds=>obtain ⟨b',cs,rfl,h2,h3⟩ := h; rfl
 | row E sz els=>
  obtain ⟨vs,h1,h2⟩ := h
  rcases h1.2 with ⟨rfl,_⟩ | ⟨b,cap,cur,rfl,_⟩ <;> rfl
 | obj o=>obtain ⟨b',rfl,h2⟩ := h; rfl
theorem Ent.kept {F : FMap} {γ : Gam} {w w' : World} {e : HE} {g : Value} (h : Ent F γ w e g) (hk : ∀ b,Value.pblk g = some b→w'.heap[b]? = w.heap[b]?) : Ent F γ w' e g:=by
 cases e with
 | blk T ds=>
  obtain ⟨b',cs,rfl,h2,h3⟩ := h
  exact ⟨b',cs,rfl,(hk b' rfl).trans h2,h3⟩
 | row E sz els=>
  obtain ⟨vs,h1,h2⟩ := h
  refine ⟨vs,⟨h1.1,?_⟩,h2⟩
  rcases h1.2 with h | ⟨b,cap,cur,rfl,r1,r2,r3⟩
  ·exact .inl h
  ·exact .inr ⟨b,cap,cur,rfl,r1,(hk b rfl).trans r2,r3⟩
 | obj o=>
  obtain ⟨b',rfl,h2⟩ := h
  exact ⟨b',rfl,(hk b' rfl).trans h2⟩
def look {α : Type} : List (Nat × α)→Nat→Option α
 | [],_=>none
 | (k,x) :: r,n=>match Nat.beq k n with
  | true=>some x
  | false=>look r n
abbrev Heap:=List (Nat × Option HE)
def hget (h : Heap) (id : Nat) : Option HE:=match look h id with
 | some (some e)=>some e
 | _=>none
theorem look_cons {α : Type} (k : Nat) (x : α) (r : List (Nat × α)) (n : Nat) : look ((k,x) :: r) n = if k = n then some x else look r n:=by
 by_cases h : k = n
 ·subst h; simp [look]
 ·have : Nat.beq k n = false:=by rw [Bool.eq_false_iff]; intro e; exact h (Nat.eq_of_beq_eq_true e)
  rw [look,if_neg h,this]
theorem hget_cons (k : Nat) (x : Option HE) (r : Heap) (n : Nat) : hget ((k,x) :: r) n = if k = n then x else hget r n:=by
 unfold hget
 rw [look_cons]
 by_cases h : k = n
 ·simp [h]; cases x <;> rfl
 ·simp [h]
structure Ctx where
 w0 : World
 T : Nat→Prop
 F0 : FMap
 n : Nat
 G0 : Gam
 ro : Option Nat
 defs : List Deferred
def FW (r : Option Nat) : Fence:={ Fence.wide with round:=r }
theorem callsFW {P : Program} {r : Option Nat} {n : Nat} {f : FuncId} {args : Array Value} {w : World} {R : Ending→World→Prop} (h : Calls P f args w R) : CallsIn (FW r) n P f args w R:=by
 cases r with
 | none=>exact callsIn_wide.2 h
 | some l=>exact (callsIn_wide (n:=n)).2 h
theorem wpIn_of_enter {P : Program} {r : Option Nat} {o : Oper} {a : Act} {w w' : World} {K : Act→World→Prop} {Q : Exit→Act→World→Prop} {f : FuncId} {args : Array Value} (hd : ∀ c,o.op≠.defer c) (h : (execOp a.eval o).run P w = .ok (.enter f args) w')
  (k : Calls P f args w' fun e w''=>∃ v,e = .returned v∧K (a.put o.dst v) w'') : o.wpIn (FW r) 0 P a w K Q:=by
 refine ⟨fun _ _=>trivial,?_⟩
 rw [Oper.semAt_eq _ _ _ hd,h]
 refine ⟨fun h=>by simp [FW,Fence.wide] at h,callsFW (k.mono ?_)⟩
 rintro e w'' ⟨v,rfl,hk⟩
 exact hk
theorem wpIn_of_val {P : Program} {r : Option Nat} {o : Oper} {a : Act} {w w' : World} {K : Act→World→Prop} {Q : Exit→Act→World→Prop} {v : Value} (h : (execOp a.eval o).run P w = .ok (.value v) w')
  (k : K (a.put o.dst v) w') : o.wpIn (FW r) 0 P a w K Q:=by
 refine ⟨fun _ _=>trivial,?_⟩
 by_cases hd : ∃ c,o.op = .defer c
 ·obtain ⟨c,hc⟩ := hd
  simp only [execOp,hc] at h
  cases hr : (resolve a.eval c o.type).run P w with
  | ok d w1=>simp [Sem.run_bind,hr,Result.andThen] at h
  | halt x w1=>simp [Sem.run_bind,hr,Result.andThen] at h
 ·rw [Oper.semAt_eq _ _ _ (fun c hc=>hd ⟨c,hc⟩),h]
  exact k
theorem wpIn_of_skip {P : Program} {r : Option Nat} {o : Oper} {a : Act} {w w' : World} {K : Act→World→Prop} {Q : Exit→Act→World→Prop} (h : (execOp a.eval o).run P w = .ok .skip w')
  (k : K (a.put o.dst undef) w') : o.wpIn (FW r) 0 P a w K Q:=by
 refine ⟨fun _ _=>trivial,?_⟩
 by_cases hd : ∃ c,o.op = .defer c
 ·obtain ⟨c,hc⟩ := hd
  simp only [execOp,hc] at h
  cases hr : (resolve a.eval c o.type).run P w with
  | ok d w1=>simp [Sem.run_bind,hr,Result.andThen] at h
  | halt x w1=>simp [Sem.run_bind,hr,Result.andThen] at h
 ·rw [Oper.semAt_eq _ _ _ (fun c hc=>hd ⟨c,hc⟩),h]
  exact k
structure WS (C : Ctx) (F : FMap) (γ : Gam) (h : Heap) (used : List Nat) (w : World) : Prop where
 ent : ∀ id e,hget h id = some e→∃ g,γ id = some g∧Ent F γ w e g
 own : ∀ id e g b,hget h id = some e→γ id = some g→Value.pblk g = some b→F b = none∧(C.T b∨C.w0.heap.size≤b)
 apart : ∀ id id' e e' g g' b,hget h id = some e→hget h id' = some e'→γ id = some g→γ id' = some g'→Value.pblk g = some b→Value.pblk g' = some b→id = id'
 fs : ∀ b cs,F b = some cs→∃ t fz,w.heap[b]? = some (.cells cs t fz)
 f0 : FLe C.F0 F
 fnew : ∀ b cs,F b = some cs→C.F0 b = some cs∨C.T b∨C.w0.heap.size≤b
 os : w.os = C.w0.os
 tape : w.tape = C.w0.tape
 output : w.output = C.w0.output
 size : C.w0.heap.size≤w.heap.size
 keep : ∀ b,b < C.w0.heap.size→¬ C.T b→w.heap[b]? = C.w0.heap[b]?
 us : ∀ id g,γ id = some g→id∈used
 gone : GOne γ
 g0 : GLe C.G0 γ
 gk : ∀ id g,C.G0 id = some g→100000≤id
structure Stp (w w' : World) (t : Option Nat) : Prop where
 os : w'.os = w.os
 tape : w'.tape = w.tape
 output : w'.output = w.output
 size : w.heap.size≤w'.heap.size
 block : ∀ k,k < w.heap.size→some k≠t→w'.heap[k]? = w.heap[k]?
theorem Stp.of_grown {w w' : World} {t : Option Nat} (h : w.grownBy w' t) : Stp w w' t := ⟨h.os,h.tape,h.output,h.size,h.block⟩
theorem Stp.refl (w : World) : Stp w w none := ⟨rfl,rfl,rfl,Nat.le_refl _,fun _ _ _=>rfl⟩
theorem Stp.drew (w : World) : Stp w w.drew none := ⟨rfl,rfl,rfl,Nat.le_refl _,fun _ _ _=>rfl⟩
theorem Stp.alloc (w : World) (o : Obj) : Stp w (w.alloc o) none := ⟨rfl,rfl,rfl,by simp,fun k hk _=>Below.heap_alloc _ _ _ hk⟩
section
variable {C : Ctx} {F : FMap} {γ : Gam} {h : Heap} {used : List Nat} {w w' : World}
theorem WS.flt (H : WS C F γ h used w) {b : Nat} {cs : Array Value} (hb : F b = some cs) : b < w.heap.size:=by
 obtain ⟨t,fz,h1⟩ := H.fs b cs hb
 exact (Array.getElem?_eq_some_iff.1 h1).1
theorem WS.quiet (H : WS C F γ h used w) (S : Stp w w' none) : WS C F γ h used w' where
 ent:=fun id e hi=>by
  obtain ⟨g,h1,h2⟩ := H.ent id e hi
  exact ⟨g,h1,h2.kept fun b hb=>S.block b (h2.lt b hb) (by simp)⟩
 own:=H.own
 apart:=H.apart
 fs:=fun b cs hb=>by
  obtain ⟨t,fz,h1⟩ := H.fs b cs hb
  exact ⟨t,fz,(S.block b (H.flt hb) (by simp)).trans h1⟩
 f0:=H.f0
 fnew:=H.fnew
 os:=S.os.trans H.os
 tape:=S.tape.trans H.tape
 output:=S.output.trans H.output
 size:=Nat.le_trans H.size S.size
 keep:=fun b hb ht=>(S.block b (Nat.lt_of_lt_of_le hb H.size) (by simp)).trans (H.keep b hb ht)
 us:=H.us
 gone:=H.gone
 g0:=H.g0
 gk:=H.gk
theorem WS.forget (H : WS C F γ h used w) (id0 : Nat) : WS C F γ ((id0,none) :: h) used w where
 ent:=fun id e hi=>by
  rw [hget_cons] at hi
  split at hi
  ·cases hi
  ·exact H.ent id e hi
 own:=fun id e g b hi=>by
  rw [hget_cons] at hi
  split at hi
  ·cases hi
  ·exact H.own id e g b hi
 apart:=fun id id' e e' g g' b hi hi'=>by
  rw [hget_cons] at hi hi'
  split at hi
  ·cases hi
  ·split at hi'
   ·cases hi'
   ·exact H.apart id id' e e' g g' b hi hi'
 fs:=H.fs
 f0:=H.f0
 fnew:=H.fnew
 os:=H.os
 tape:=H.tape
 output:=H.output
 size:=H.size
 keep:=H.keep
 us:=H.us
 gone:=H.gone
 g0:=H.g0
 gk:=H.gk
theorem WS.turn (H : WS C F γ h used w) {id0 : Nat} {e0 : HE} {g0 : Value} (h0 : hget h id0 = some e0) (hg : γ id0 = some g0) (S : Stp w w' (Value.pblk g0)) : WS C F γ ((id0,none) :: h) used w' where
 ent:=fun id e hi=>by
  rw [hget_cons] at hi
  split at hi
  ·cases hi
  ·rename_i hne
   obtain ⟨g,h1,h2⟩ := H.ent id e hi
   refine ⟨g,h1,h2.kept fun b hb=>S.block b (h2.lt b hb) (fun hs=>hne ?_)⟩
   exact H.apart id0 id e0 e g0 g b h0 hi hg h1 hs.symm hb
 own:=(H.forget id0).own
 apart:=(H.forget id0).apart
 fs:=fun b cs hb=>by
  obtain ⟨t,fz,h1⟩ := H.fs b cs hb
  refine ⟨t,fz,(S.block b (H.flt hb) (fun hs=>?_)).trans h1⟩
  have:=(H.own id0 e0 g0 b h0 hg hs.symm).1
  rw [this] at hb; cases hb
 f0:=H.f0
 fnew:=H.fnew
 os:=S.os.trans H.os
 tape:=S.tape.trans H.tape
 output:=S.output.trans H.output
 size:=Nat.le_trans H.size S.size
 keep:=fun b hb ht=>by
  refine (S.block b (Nat.lt_of_lt_of_le hb H.size) (fun hs=>?_)).trans (H.keep b hb ht)
  rcases (H.own id0 e0 g0 b h0 hg hs.symm).2 with h | h
  ·exact ht h
  ·omega
 us:=H.us
 gone:=H.gone
 g0:=H.g0
 gk:=H.gk
theorem WS.put (H : WS C F γ h used w) {id0 : Nat} {e0 : HE} {g0 : Value} (hg : γ id0 = some g0) (he : Ent F γ w e0 g0)
  (hb : ∀ b,Value.pblk g0 = some b→F b = none∧(C.T b∨C.w0.heap.size≤b)∧∀ id e g,id≠id0→hget h id = some e→γ id = some g→Value.pblk g≠some b) : WS C F γ ((id0,some e0) :: h) used w where
 ent:=fun id e hi=>by
  rw [hget_cons] at hi
  split at hi
  ·rename_i e1; subst e1; injection hi with hi; subst hi; exact ⟨g0,hg,he⟩
  ·exact H.ent id e hi
 own:=fun id e g b hi hg' hb'=>by
  rw [hget_cons] at hi
  split at hi
  ·rename_i e1; subst e1
   rw [hg] at hg'; injection hg' with hg'; subst hg'
   exact ⟨(hb b hb').1,(hb b hb').2.1⟩
  ·exact H.own id e g b hi hg' hb'
 apart:=fun id id' e e' g g' b hi hi' k k' kb kb'=>by
  rw [hget_cons] at hi hi'
  split at hi
  ·rename_i e1; subst e1
   split at hi'
   ·assumption
   ·rename_i hne
    rw [hg] at k; injection k with k; subst k
    exact absurd kb' ((hb b kb).2.2 id' e' g' (fun e=>hne e.symm) hi' k')
  ·rename_i hne
   split at hi'
   ·rename_i e1; subst e1
    rw [hg] at k'; injection k' with k'; subst k'
    exact absurd kb ((hb b kb').2.2 id e g (fun e=>hne e.symm) hi k)
   ·exact H.apart id id' e e' g g' b hi hi' k k' kb kb'
 fs:=H.fs
 f0:=H.f0
 fnew:=H.fnew
 os:=H.os
 tape:=H.tape
 output:=H.output
 size:=H.size
 keep:=H.keep
 us:=H.us
 gone:=H.gone
 g0:=H.g0
 gk:=H.gk
def Gam.up (γ : Gam) (id : Nat) (g : Value) : Gam:=fun i=>if i = id then some g else γ i
theorem Gam.up_le {γ : Gam} {id : Nat} (g : Value) (h : γ id = none) : GLe γ (γ.up id g):=fun i g' hi=>by
 unfold Gam.up
 split
 ·rename_i e; subst e; rw [h] at hi; cases hi
 ·exact hi
theorem WS.fresh (H : WS C F γ h used w) {id : Nat} (hi : id ∉ used) : γ id = none:=by
 cases hg : γ id with
 | none=>rfl
 | some g=>exact absurd (H.us id g hg) hi
theorem WS.name (H : WS C F γ h used w) {id : Nat} (hi : id ∉ used) (g : Value) (ho : g.oneCell' = true) : WS C F (γ.up id g) h (id :: used) w:=by
 have hf:=H.fresh hi
 have hle:=Gam.up_le g hf
 have back : ∀ i e g',hget h i = some e→(γ.up id g) i = some g'→γ i = some g' := fun i e g' hh hg'=>by
  obtain ⟨g1,h1,_⟩ := H.ent i e hh
  have:=hle _ _ h1
  rw [this] at hg'; rw [h1]; exact hg'
 exact {
  ent:=fun i e hh=>by obtain ⟨g1,h1,h2⟩ := H.ent i e hh; exact ⟨g1,hle _ _ h1,h2.mono (FLe.refl _) hle⟩
  own:=fun i e g' b hh hg' hb=>H.own i e g' b hh (back i e g' hh hg') hb
  apart:=fun i i' e e' g1 g2 b h1 h2 k1 k2=>H.apart i i' e e' g1 g2 b h1 h2 (back _ _ _ h1 k1) (back _ _ _ h2 k2)
  fs:=H.fs,f0:=H.f0,fnew:=H.fnew,os:=H.os,tape:=H.tape,output:=H.output,size:=H.size,keep:=H.keep
  us:=fun i g' hi=>by
   unfold Gam.up at hi
   split at hi
   ·rename_i e; subst e; simp
   ·exact List.mem_cons_of_mem _ (H.us i g' hi)
  gone:=fun i g' hi=>by
   unfold Gam.up at hi
   split at hi
   ·injection hi with hi; subst hi; exact ho
   ·exact H.gone i g' hi
  g0:=H.g0.trans hle
  gk:=H.gk }
theorem Gam.up_same (γ : Gam) (id : Nat) (g : Value) : γ.up id g id = some g:=by simp [Gam.up]
theorem WS.add (H : WS C F γ h used w) {id : Nat} (hi : id ∉ used) {e0 : HE} {g : Value} (he : Ent F γ w e0 g)
  (hb : ∀ b,Value.pblk g = some b→F b = none∧(C.T b∨C.w0.heap.size≤b)∧∀ id' e' g',hget h id' = some e'→γ id' = some g'→Value.pblk g'≠some b) :
  WS C F (γ.up id g) ((id,some e0) :: h) (id :: used) w:=by
 have hf:=H.fresh hi
 have hle:=Gam.up_le g hf
 refine (H.name hi g he.one).put (Gam.up_same γ id g) (he.mono (FLe.refl _) hle) (fun b hb'=>⟨(hb b hb').1,(hb b hb').2.1,fun id' e' g' hne hh hg'=>?_⟩)
 refine (hb b hb').2.2 id' e' g' hh ?_
 unfold Gam.up at hg'
 rw [if_neg hne] at hg'; exact hg'
theorem WS.addNew (H : WS C F γ h used w) {id : Nat} (hi : id ∉ used) (o : Obj) {e0 : HE} {g : Value} (hg : ∀ b,Value.pblk g = some b→b = w.heap.size) (he : Ent F γ (w.alloc o) e0 g) :
  WS C F (γ.up id g) ((id,some e0) :: h) (id :: used) (w.alloc o):=by
 have H' := H.quiet (Stp.alloc w o)
 refine H'.add hi he (fun b hb=>?_)
 obtain rfl:=hg b hb
 refine ⟨?_,.inr H.size,fun id' e' g' hh hg' hb'=>?_⟩
 ·cases hF : F w.heap.size with
  | none=>rfl
  | some cs=>exact absurd (H.flt hF) (Nat.lt_irrefl _)
 ·obtain ⟨g1,h1,h2⟩ := H.ent id' e' hh
  rw [hg'] at h1; injection h1 with h1; subst h1
  exact absurd (h2.lt _ hb') (Nat.lt_irrefl _)
def FMap.up (F : FMap) (b : Nat) (cs : Array Value) : FMap:=fun i=>if i = b then some cs else F i
theorem FMap.up_le {F : FMap} {b : Nat} (cs : Array Value) (h : F b = none) : FLe F (F.up b cs):=fun i g' hi=>by
 unfold FMap.up
 split
 ·rename_i e; subst e; rw [h] at hi; cases hi
 ·exact hi
theorem WS.data (H : WS C F γ h used w) {b : Nat} {cs : Array Value} {t : TypeId} {fz : Nat × Nat} (hb : w.heap[b]? = some (.cells cs t fz)) (hF : F b = none) (hT : C.T b∨C.w0.heap.size≤b)
  (hn : ∀ id e g,hget h id = some e→γ id = some g→Value.pblk g≠some b) : WS C (F.up b cs) γ h used w:=by
 have hle:=FMap.up_le cs hF
 exact {
  ent:=fun i e hh=>by obtain ⟨g1,h1,h2⟩ := H.ent i e hh; exact ⟨g1,h1,h2.mono hle (GLe.refl _)⟩
  own:=fun i e g' b' hh hg' hb'=>by
   refine ⟨?_,(H.own i e g' b' hh hg' hb').2⟩
   unfold FMap.up
   split
   ·rename_i e1; subst e1; exact absurd hb' (hn i e g' hh hg')
   ·exact (H.own i e g' b' hh hg' hb').1
  apart:=H.apart
  fs:=fun b' cs' h'=>by
   unfold FMap.up at h'
   split at h'
   ·rename_i e1; subst e1; injection h' with h'; subst h'; exact ⟨t,fz,hb⟩
   ·exact H.fs b' cs' h'
  f0:=H.f0.trans hle
  fnew:=fun b' cs' h'=>by
   unfold FMap.up at h'
   split at h'
   ·rename_i e1; subst e1; exact .inr hT
   ·exact H.fnew b' cs' h'
  os:=H.os,tape:=H.tape,output:=H.output,size:=H.size,keep:=H.keep,us:=H.us,gone:=H.gone,g0:=H.g0,gk:=H.gk }
theorem WS.freeze (H : WS C F γ h used w) {id : Nat} {E : TypeId} {sz : Nat} {els : List DV} {g : Value} (hi : hget h id = some (.row E sz els)) (hg : γ id = some g) :
  ∃ F',FLe F F'∧WS C F' γ ((id,none) :: h) used w∧Rs F' γ (.sl sz els) g:=by
 obtain ⟨g',hg',vs,ho,hE⟩ := H.ent id _ hi
 rw [hg] at hg'; injection hg' with hg'; subst hg'
 have hnil : els.length = 0→els = []:=List.eq_nil_of_length_eq_zero
 rcases ho.2 with ⟨rfl,hx⟩ | ⟨b,cap,cur,rfl,_,hh,hnc,r⟩
 ·refine ⟨F,FLe.refl _,H.forget id,?_⟩
  have : els = []:=hnil hx
  subst this
  simp only [Rs]
  exact ⟨none,0,rfl,⟨fun _=>⟨rfl,rfl⟩,Nat.le_refl _,by decide⟩,fun h=>absurd rfl h⟩
 ·have ho' := H.own id _ _ b hi hg rfl
  refine ⟨F.up b cur,FMap.up_le _ ho'.1,?_,?_⟩
  ·refine (H.forget id).data hh ho'.1 ho'.2 (fun id' e' g' hh' hg' hb'=>?_)
   rw [hget_cons] at hh'
   split at hh'
   ·cases hh'
   ·rename_i hne; exact hne (H.apart id id' _ e' _ g' b hi hh' hg hg' rfl hb')
  ·simp only [Rs]
   refine ⟨some ⟨b,0,none⟩,cap,rfl,⟨(fun h=>by cases h),hnc,by have:=r.1; unfold maxLen at this; exact this⟩,fun _=>⟨b,0,cur,vs,cur.toList.drop (els.length * sz),rfl,by simp [FMap.up],?_,hE.mono (FMap.up_le _ ho'.1)⟩⟩
   rw [List.drop_zero,← r.2.2,List.take_append_drop]
end
end Go.Proofs.YtepkcbalmjnhpaaGreatDoor
/-! ### part C -/
/-
 My engine,part C: states with their slots,the rule of one operation,regions in whatever order,code.
-/
namespace Go.Proofs.YtepkcbalmjnhpaaGreatDoor
open Go.RowKit
structure AS where
 env : List (Nat × DV)
 heap : Heap
 used : List Nat
structure Eff where
 env : List (Nat × DV)
 heap : Heap
 new : List Nat
def AS.app (σ : AS) (E : Eff) : AS := ⟨E.env++σ.env,E.heap++σ.heap,E.new++σ.used⟩
structure Sat (C : Ctx) (F : FMap) (γ : Gam) (σ : AS) (a : Act) (w : World) : Prop where
 env : ∀ t d,look σ.env t = some d→t < C.n∧Rs F γ d (a.tmps.getD t undef)
 ws : WS C F γ σ.heap σ.used w
 size : a.tmps.size = C.n
 defers : a.defers = C.defs
theorem look_append {α : Type} : ∀ (l r : List (Nat × α)) (n : Nat),look (l++r) n = (look l n).or (look r n)
 | [],r,n=>by simp [look]
 | (k,x) :: l,r,n=>by
  rw [List.cons_append,look_cons,look_cons]
  by_cases h : k = n
  ·simp [h]
  ·simp [h,look_append l r n]
theorem WS.congr {C : Ctx} {F : FMap} {γ : Gam} {h h' : Heap} {u u' : List Nat} {w : World} (H : WS C F γ h u w) (hh : ∀ id e,hget h' id = some e→hget h id = some e) (hu : ∀ x∈u,x∈u') : WS C F γ h' u' w where
 ent:=fun id e hi=>H.ent id e (hh id e hi)
 own:=fun id e g b hi=>H.own id e g b (hh id e hi)
 apart:=fun id id' e e' g g' b hi hi'=>H.apart id id' e e' g g' b (hh _ _ hi) (hh _ _ hi')
 fs:=H.fs
 f0:=H.f0
 fnew:=H.fnew
 os:=H.os
 tape:=H.tape
 output:=H.output
 size:=H.size
 keep:=H.keep
 us:=fun id g hi=>hu _ (H.us id g hi)
 gone:=H.gone
 g0:=H.g0
 gk:=H.gk
theorem Sat.congr {C : Ctx} {F : FMap} {γ : Gam} {σ σ' : AS} {a : Act} {w : World} (H : Sat C F γ σ a w) (he : ∀ t d,look σ'.env t = some d→look σ.env t = some d) (hh : ∀ id e,hget σ'.heap id = some e→hget σ.heap id = some e) (hu : ∀ x∈σ.used,x∈σ'.used) : Sat C F γ σ' a w :=
 ⟨fun t d ht=>H.env t d (he t d ht),H.ws.congr hh hu,H.size,H.defers⟩
def constDV : Value→DV
 | .int k n=>.int k n
 | .bool b=>.bool b
 | .string s=>.str s
 | .slice none 0 0=>.nils
 | v=>.val v
theorem constDV_rs (F : FMap) (γ : Gam) (v : Value) : Rs F γ (constDV v) v:=by
 unfold constDV
 split <;> simp only [Rs]
def ev (e : List (Nat × DV)) : Operand→Option DV
 | .tmp t=>look e t
 | .const v=>some (constDV v)
 | .func f=>some (.val (.func (.func f) #[] #[]))
 | .global _=>none
def tm : Operand→List Nat
 | .tmp t=>[t]
 | _=>[]
theorem Sat.ev {C : Ctx} {F : FMap} {γ : Gam} {σ : AS} {a : Act} {w : World} (H : Sat C F γ σ a w) {x : Operand} {d : DV} (h : ev σ.env x = some d) : Rs F γ d (a.eval x):=by
 cases x with
 | tmp t=>exact (H.env t d h).2
 | const v=>simp only [Proofs.YtepkcbalmjnhpaaGreatDoor.ev] at h; injection h with h; subst h; exact constDV_rs _ _ _
 | func f=>simp only [Proofs.YtepkcbalmjnhpaaGreatDoor.ev] at h; injection h with h; subst h; simp only [Rs]; rfl
 | global g=>cases h
def OpG (P : Program) (ops : Array Oper) (o : Oper) (rt rh : List Nat) (σ : AS) (E : Eff) : Prop :=
 ∀ (C : Ctx) (F : FMap) (γ : Gam) (σ' : AS) (a : Act) (w : World),(∀ t∈rt,look σ'.env t = look σ.env t)→(∀ id∈rh,hget σ'.heap id = hget σ.heap id)→(∀ id∈E.new,id ∉ σ'.used) →
  (∀ d,o.dst = some d→d < C.n)→Sat C F γ σ' a w →
  ∀ (K : Act→World→Prop) (Q : Exit→Act→World→Prop),(∀ F' γ' a' w',FLe F F'→Sat C F' γ' (σ'.app E) a' w'→K a' w') →
   if Region.wanted o (yielded ops a.tmps) then o.wpIn (FW C.ro) 0 P a w K Q else K (a.put o.dst undef) w
structure Keys where
 rt : List Nat
 rh : List Nat
 wt : List Nat
 wh : List Nat
inductive Trace (P : Program) (ops : Array Oper) : List Oper→AS→AS→List (Keys × Eff)→Prop
 | nil (σ : AS) : Trace P ops [] σ σ []
 | cons {o : Oper} {rest : List Oper} {σ σ' : AS} {rt rh : List Nat} {E : Eff} {ks : List (Keys × Eff)} (h : OpG P ops o rt rh σ E) (t : Trace P ops rest (σ.app E) σ' ks) : Trace P ops (o :: rest) σ σ' ((⟨rt,rh,E.env.map (·.1),E.heap.map (·.1)⟩,E) :: ks)
theorem tn {P : Program} {ops : Array Oper} {σ : AS} : Trace P ops [] σ σ []:=.nil σ
theorem tc {P : Program} {ops : Array Oper} {o : Oper} {rest : List Oper} {σ σ' : AS} {rt rh : List Nat} {E : Eff} {ks : List (Keys × Eff)} (h : OpG P ops o rt rh σ E) (t : Trace P ops rest (σ.app E) σ' ks) : Trace P ops (o :: rest) σ σ' ((⟨rt,rh,E.env.map (·.1),E.heap.map (·.1)⟩,E) :: ks):=.cons h t
theorem Trace.seq {P : Program} {ops : Array Oper} {C : Ctx} {Q : Exit→Act→World→Prop} : ∀ (l : List Oper) (i : Nat) (σ σ' : AS) (ks : List (Keys × Eff)),Trace P ops l σ σ' ks→(∀ j o,l[j]? = some o→ops[i + j]? = some o) →
  (∀ o∈l,∀ d,o.dst = some d→d < C.n)→(∀ k∈ks,∀ id∈k.2.new,id ∉ σ.used)→(ks.Pairwise fun a b=>∀ id∈b.2.new,id ∉ a.2.new) →
  ∀ (F : FMap) (γ : Gam) (a : Act) (w : World),Sat C F γ σ a w→(∀ F' γ' a' w',Sat C F' γ' σ' a' w'→Q .normal a' w')→wpOpsIn (FW C.ro) 0 P ops Q ((List.range l.length).map (i + ·)) a w:=by
 intro l
 induction l with
 | nil=>
  intro i σ σ' ks ht _ _ _ _ F γ a w hs hq
  cases ht
  exact hq F γ a w hs
 | cons o rest ih=>
  intro i σ σ' ks ht hops hn hnew hpw F γ a w hs hq
  cases ht with
  | cons h t=>
   rename_i rt rh E ks
   have e : (List.range (o :: rest).length).map (i + ·) = i :: (List.range rest.length).map (i + 1 + ·):=by
    rw [List.length_cons,List.range_succ_eq_map,List.map_cons,List.map_map]
    congr 1
    apply List.map_congr_left
    intro x _; simp only [Function.comp]; omega
   rw [e,wpOpsIn_cons]
   unfold wpOpIn
   have ho : ops[i]? = some o:=by simpa using hops 0 o rfl
   rw [ho]
   have hE : ∀ id∈E.new,id ∉ σ.used:=hnew _ (List.mem_cons_self ..)
   have hpw' := List.pairwise_cons.1 hpw
   have key:=h C F γ σ a w (fun _ _=>rfl) (fun _ _=>rfl) hE (fun d hd=>hn o (List.mem_cons_self ..) d hd) hs (wpOpsIn (FW C.ro) 0 P ops Q ((List.range rest.length).map (i + 1 + ·))) Q (fun F' γ' a' w' _ hs'=>?_)
   ·simp only
    split
    ·rename_i hw; rw [if_pos hw] at key; exact key
    ·rename_i hw; rw [if_neg hw] at key; exact ⟨fun _ _=>trivial,key⟩
   ·refine ih (i + 1) (σ.app E) σ' ks t (fun j o' hj=>?_) (fun o' ho'=>hn o' (List.mem_cons_of_mem _ ho')) (fun k hk id hid hm=>?_) hpw'.2 F' γ' a' w' hs' hq
    ·have:=hops (j + 1) o' (by simpa using hj)
     rw [← this]; congr 1; omega
    ·rcases List.mem_append.1 hm with hm | hm
     ·exact hpw'.1 k hk id hid hm
     ·exact hnew k (List.mem_cons_of_mem _ hk) id hid hm
end Go.Proofs.YtepkcbalmjnhpaaGreatDoor
/-! ### part D -/
/-
 My engine,part D: a region that draws its order ends in the state that the text's order gives.
-/
namespace Go.Proofs.YtepkcbalmjnhpaaGreatDoor
open Go.RowKit
def overL {α : Type} : List (Nat × α)→List (List (Nat × α))→(Nat→Bool)→Nat→List (Nat × α)
 | b,[],_,_=>b
 | b,e :: es,D,i=>overL (if D i = true then e++b else b) es D (i + 1)
theorem look_none {α : Type} : ∀ {l : List (Nat × α)} {t : Nat},t ∉ l.map (·.1)→look l t = none
 | [],_,_=>rfl
 | (k,x) :: l,t,h=>by
  simp only [List.map_cons,List.mem_cons,not_or] at h
  rw [look_cons,if_neg (fun e=>h.1 e.symm)]
  exact look_none h.2
theorem look_some {α : Type} : ∀ {l : List (Nat × α)} {t : Nat},t∈l.map (·.1)→∃ x,look l t = some x
 | [],_,h=>by cases h
 | (k,x) :: l,t,h=>by
  rw [look_cons]
  by_cases e : k = t
  ·exact ⟨x,by rw [if_pos e]⟩
  ·simp only [List.map_cons,List.mem_cons] at h
   rcases h with h | h
   ·exact absurd h.symm e
   ·rw [if_neg e]; exact look_some h
theorem overL_same {α : Type} (t : Nat) : ∀ (es : List (List (Nat × α))) (b b' : List (Nat × α)) (D D' : Nat→Bool) (i : Nat),look b t = look b' t →
  (∀ j e,es[j]? = some e→t∈e.map (·.1)→D (i + j) = D' (i + j))→look (overL b es D i) t = look (overL b' es D' i) t
 | [],b,b',D,D',i,hb,_=>hb
 | e :: es,b,b',D,D',i,hb,h=>by
  unfold overL
  refine overL_same t es _ _ D D' (i + 1) ?_ (fun j e' hj ht=>?_)
  ·by_cases ht : t∈e.map (·.1)
   ·have:=h 0 e rfl ht
    simp only [Nat.add_zero] at this
    rw [this]
    split
    ·rw [look_append,look_append,hb]
    ·exact hb
   ·have hn:=look_none ht
    split <;> split <;> simp [look_append,hn,hb]
  ·have:=h (j + 1) e' (by simpa using hj) ht
   rwa [Nat.add_right_comm,Nat.add_assoc] at *
theorem overL_last {α : Type} (t : Nat) : ∀ (es : List (List (Nat × α))) (b : List (Nat × α)) (D : Nat→Bool) (i k : Nat) (e : List (Nat × α)),es[k]? = some e→t∈e.map (·.1)→D (i + k) = true →
  (∀ j e',k < j→es[j]? = some e'→t∈e'.map (·.1)→D (i + j) = false)→look (overL b es D i) t = look e t
 | [],b,D,i,k,e,hk,_,_,_=>by simp at hk
 | e0 :: es,b,D,i,0,e,hk,ht,hd,h=>by
  simp only [List.getElem?_cons_zero,Option.some.injEq] at hk
  subst hk
  obtain ⟨x,hx⟩ := look_some ht
  unfold overL
  simp only [Nat.add_zero] at hd
  rw [if_pos hd]
  have : look (overL (e0++b) es D (i + 1)) t = look (overL (e0++b) es (fun _=>false) (i + 1)) t:=by
   refine overL_same t es _ _ _ _ _ rfl (fun j e' hj ht'=>?_)
   have:=h (j + 1) e' (by omega) (by simpa using hj) ht'
   rwa [show i + (j + 1) = i + 1 + j by omega] at this
  rw [this]
  have hno : ∀ (es : List (List (Nat × α))) (b : List (Nat × α)) (i : Nat),overL b es (fun _=>false) i = b:=by
   intro es
   induction es with
   | nil=>intros; rfl
   | cons e es ih=>intro b i; unfold overL; simp [ih]
  rw [hno,look_append,hx]; rfl
 | e0 :: es,b,D,i,k + 1,e,hk,ht,hd,h=>by
  unfold overL
  refine overL_last t es _ D (i + 1) k e (by simpa using hk) ht (by rwa [show i + 1 + k = i + (k + 1) by omega]) (fun j e' hj he ht'=>?_)
  have:=h (j + 1) e' (by omega) (by simpa using he) ht'
  rwa [show i + (j + 1) = i + 1 + j by omega] at this
def over (σ : AS) (es : List Eff) (D : Nat→Bool) : AS where
 env:=overL σ.env (es.map (·.env)) D 0
 heap:=overL σ.heap (es.map (·.heap)) D 0
 used:=σ.used++((List.range es.length).filter D).flatMap (fun i=>((es[i]?).map (·.new)).getD [])
theorem mem_used {σ : AS} {es : List Eff} {D : Nat→Bool} {x : Nat} : x∈(over σ es D).used↔x∈σ.used∨∃ i E,D i = true∧es[i]? = some E∧x∈E.new:=by
 simp only [over,List.mem_append,List.mem_flatMap,List.mem_filter,List.mem_range]
 constructor
 ·rintro (h | ⟨i,⟨hi,hd⟩,hx⟩)
  ·exact .inl h
  ·rw [List.getElem?_eq_getElem hi] at hx
   exact .inr ⟨i,es[i],hd,List.getElem?_eq_getElem hi,by simpa using hx⟩
 ·rintro (h | ⟨i,E,hd,he,hx⟩)
  ·exact .inl h
  ·have hi : i < es.length:=by
    rcases Nat.lt_or_ge i es.length with h | h
    ·exact h
    ·rw [List.getElem?_eq_none h] at he; cases he
   exact .inr ⟨i,⟨hi,hd⟩,by rw [he]; exact hx⟩
theorem Trace.at {P : Program} {ops : Array Oper} : ∀ {l : List Oper} {σ σ' : AS} {ks : List (Keys × Eff)},Trace P ops l σ σ' ks→ks.length = l.length ∧
  (∀ i o,l[i]? = some o→∃ K E σi,ks[i]? = some (K,E)∧K.wt = E.env.map (·.1)∧K.wh = E.heap.map (·.1)∧OpG P ops o K.rt K.rh σi E ∧
   (∀ t,look σi.env t = look (overL σ.env (ks.map (·.2.env)) (fun j=>decide (j < i)) 0) t)∧(∀ t,look σi.heap t = look (overL σ.heap (ks.map (·.2.heap)) (fun j=>decide (j < i)) 0) t)) ∧
  (∀ t,look σ'.env t = look (overL σ.env (ks.map (·.2.env)) (fun _=>true) 0) t)∧(∀ t,look σ'.heap t = look (overL σ.heap (ks.map (·.2.heap)) (fun _=>true) 0) t) ∧
  (∀ x,x∈σ'.used↔x∈σ.used∨∃ k∈ks,x∈k.2.new):=by
 intro l
 induction l with
 | nil=>
  intro σ σ' ks h
  cases h
  exact ⟨rfl,fun i o h=>by simp at h,fun _=>rfl,fun _=>rfl,by simp⟩
 | cons o rest ih=>
  intro σ σ' ks h
  cases h with
  | cons h t=>
   rename_i rt rh E ks
   obtain ⟨h1,h2,h3,h4,h5⟩ := ih t
   have shift : ∀ {α : Type} (es : List (List (Nat × α))) (b : List (Nat × α)) (D D' : Nat→Bool) (i : Nat),(∀ j,D (i + 1 + j) = D' (i + j))→overL b es D (i + 1) = overL b es D' i:=by
    intro α es
    induction es with
    | nil=>intros; rfl
    | cons e es ih=>
     intro b D D' i hd
     unfold overL
     have:=hd 0
     simp only [Nat.add_zero] at this
     rw [this]
     exact ih _ _ _ _ (fun j=>by have:=hd (j + 1); rwa [show i + 1 + (j + 1) = i + 1 + 1 + j by omega,show i + (j + 1) = i + 1 + j by omega] at this)
   have none : ∀ {α : Type} (es : List (List (Nat × α))) (b : List (Nat × α)) (D : Nat→Bool) (i : Nat),(∀ j,D (i + j) = false)→overL b es D i = b:=by
    intro α es
    induction es with
    | nil=>intros; rfl
    | cons e es ih=>
     intro b D i hd
     unfold overL
     have:=hd 0
     simp only [Nat.add_zero] at this
     rw [this]
     simp only [Bool.false_eq_true,if_false]
     exact ih _ _ _ (fun j=>by have:=hd (j + 1); rwa [show i + (j + 1) = i + 1 + j by omega] at this)
   refine ⟨by simp [h1],fun i o' hi=>?_,?_,?_,?_⟩
   ·cases i with
    | zero=>
     simp only [List.getElem?_cons_zero,Option.some.injEq] at hi
     subst hi
     refine ⟨_,_,σ,rfl,rfl,rfl,h,fun t=>?_,fun t=>?_⟩
     ·rw [none _ _ _ _ (fun j=>by simp)]
     ·rw [none _ _ _ _ (fun j=>by simp)]
    | succ i=>
     obtain ⟨K,E',σi,k1,k2,k3,k4,k5,k6⟩ := h2 i o' (by simpa using hi)
     refine ⟨K,E',σi,by simpa using k1,k2,k3,k4,fun t=>?_,fun t=>?_⟩
     ·rw [k5 t,List.map_cons]
      conv=>rhs; unfold overL
      rw [if_pos (by simp),shift _ _ _ (fun j=>decide (j < i)) 0 (fun j=>by simp; omega)]
      rfl
     ·rw [k6 t,List.map_cons]
      conv=>rhs; unfold overL
      rw [if_pos (by simp),shift _ _ _ (fun j=>decide (j < i)) 0 (fun j=>by simp; omega)]
      rfl
   ·intro t
    rw [h3 t,List.map_cons]
    conv=>rhs; unfold overL
    rw [if_pos rfl,shift _ _ _ (fun _=>true) 0 (fun j=>rfl)]
    rfl
   ·intro t
    rw [h4 t,List.map_cons]
    conv=>rhs; unfold overL
    rw [if_pos rfl,shift _ _ _ (fun _=>true) 0 (fun j=>rfl)]
    rfl
   ·intro x
    rw [h5 x]
    simp only [AS.app,List.mem_append,List.mem_cons]
    constructor
    ·rintro ((h | h) | ⟨k,hk,hx⟩)
     ·exact .inr ⟨_,.inl rfl,h⟩
     ·exact .inl h
     ·exact .inr ⟨k,.inr hk,hx⟩
    ·rintro (h | ⟨k,rfl | hk,hx⟩)
     ·exact .inl (.inr h)
     ·exact .inl (.inl hx)
     ·exact .inr ⟨k,hk,hx⟩
end Go.Proofs.YtepkcbalmjnhpaaGreatDoor
/-! ### part E -/
/-
 My engine,part E: the region that draws its order; code.
-/
namespace Go.Proofs.YtepkcbalmjnhpaaGreatDoor
open Go.RowKit
def befs (ops : Array Oper) : Nat→List Nat
 | 0=>[]
 | n + 1=>let r:=befs ops n
  r++[((ops[n]?).map fun o=>o.after.toList.foldl (fun s e=>bif Region.binds .any e then s ||| 2 ^ e.on ||| (r[e.on]?).getD 0 else s) 0).getD 0]
theorem befs_len (ops : Array Oper) (n : Nat) : (befs ops n).length = n:=by
 induction n with
 | zero=>rfl
 | succ n ih=>simp [befs,ih]
theorem fold_bits {D : Nat→Bool} (f : Nat→Nat) : ∀ (l : List Edge) (s : Nat),(∀ i,s.testBit i = true→D i = true)→(∀ e∈l,Region.binds .any e = true→D e.on = true∧∀ i,(f e.on).testBit i = true→D i = true) →
  ∀ i,(l.foldl (fun s e=>bif Region.binds .any e then s ||| 2 ^ e.on ||| f e.on else s) s).testBit i = true→D i = true
 | [],s,hs,_,i,h=>hs i h
 | e :: l,s,hs,hl,i,h=>by
  refine fold_bits f l _ (fun j hj=>?_) (fun e' he'=>hl e' (List.mem_cons_of_mem _ he')) i h
  dsimp only at hj
  cases hb : Region.binds .any e
  ·rw [hb] at hj; exact hs j hj
  ·rw [hb] at hj
   simp only [cond_true,Nat.testBit_or,Bool.or_eq_true] at hj
   obtain ⟨k1,k2⟩ := hl e (List.mem_cons_self ..) hb
   rcases hj with (hj | hj) | hj
   ·exact hs j hj
   ·rw [Nat.testBit_two_pow] at hj; simp at hj; subst hj; exact k1
   ·exact k2 j hj
def Shut (ops : Array Oper) (D : Nat→Bool) : Prop := ∀ i o,D i = true→ops[i]? = some o→∀ e∈o.after,Region.binds .any e = true→D e.on = true
theorem befs_shut {ops : Array Oper} {D : Nat→Bool} (h : Shut ops D) : ∀ (n j : Nat),D j = true→∀ i,(((befs ops n)[j]?).getD 0).testBit i = true→D i = true:=by
 intro n
 induction n with
 | zero=>intro j _ i hi; simp [befs] at hi
 | succ n ih=>
  intro j hj i hi
  simp only [befs] at hi
  by_cases hlt : j < n
  ·rw [List.getElem?_append_left (by rw [befs_len]; exact hlt)] at hi
   exact ih j hj i hi
  ·by_cases he : j = n
   ·subst he
    rw [List.getElem?_append_right (by rw [befs_len]; exact Nat.le_refl _),befs_len,Nat.sub_self] at hi
    simp only [List.getElem?_cons_zero,Option.getD_some] at hi
    cases ho : ops[j]? with
    | none=>rw [ho] at hi; simp at hi
    | some o=>
     rw [ho] at hi
     simp only [Option.map_some,Option.getD_some] at hi
     exact fold_bits (D:=D) (fun k=>((befs ops j)[k]?).getD 0) o.after.toList 0 (by simp) (fun e hm hb=>by
      have:=h j o hj ho e (by simpa using hm) hb
      exact ⟨this,ih e.on this⟩) i hi
   ·rw [List.getElem?_eq_none (by simp [befs_len]; omega)] at hi
    simp at hi
def meets (a b : List Nat) : Bool:=a.any fun x=>b.any fun y=>Nat.beq x y
theorem meets_of {a b : List Nat} {x : Nat} (ha : x∈a) (hb : x∈b) : meets a b = true:=by
 unfold meets
 rw [List.any_eq_true]
 exact ⟨x,ha,List.any_eq_true.2 ⟨x,hb,by simp⟩⟩
def clash (a b : Keys) : Bool:=meets a.wt (b.rt++b.wt) || meets a.rt b.wt || meets a.wh (b.rh++b.wh) || meets a.rh b.wh
def pairsOk (bs : List Nat) : List Keys→Nat→Bool
 | [],_=>true
 | k :: ks,i=>(ks.zipIdx (i + 1)).all (fun (k',j)=>!clash k k' || ((bs[j]?).getD 0).testBit i) && pairsOk bs ks (i + 1)
theorem pairsOk_spec (bs : List Nat) : ∀ (ks : List Keys) (i0 : Nat),pairsOk bs ks i0 = true→∀ i j k k',i < j→ks[i]? = some k→ks[j]? = some k'→clash k k' = true→((bs[i0 + j]?).getD 0).testBit (i0 + i) = true
 | [],i0,h,i,j,k,k',hij,hk,hk',hc=>by simp at hk
 | k0 :: ks,i0,h,0,j,k,k',hij,hk,hk',hc=>by
  simp only [pairsOk,Bool.and_eq_true,List.all_eq_true] at h
  simp only [List.getElem?_cons_zero,Option.some.injEq] at hk
  subst hk
  obtain ⟨j,rfl⟩ : ∃ j',j = j' + 1 := ⟨j - 1,by omega⟩
  have hm : (k',i0 + 1 + j)∈ks.zipIdx (i0 + 1):=by
   rw [List.mk_mem_zipIdx_iff_le_and_getElem?_sub]
   exact ⟨by omega,by simpa [Nat.add_sub_cancel_left] using hk'⟩
  have:=h.1 _ hm
  simp only [hc,Bool.not_true,Bool.false_or] at this
  rw [Nat.add_zero,show i0 + (j + 1) = i0 + 1 + j by omega]; exact this
 | k0 :: ks,i0,h,i + 1,j,k,k',hij,hk,hk',hc=>by
  simp only [pairsOk,Bool.and_eq_true] at h
  obtain ⟨j,rfl⟩ : ∃ j',j = j' + 1 := ⟨j - 1,by omega⟩
  have:=pairsOk_spec bs ks (i0 + 1) h.2 i j k k' (by omega) (by simpa using hk) (by simpa using hk') hc
  rw [show i0 + (j + 1) = i0 + 1 + j by omega,show i0 + (i + 1) = i0 + 1 + i by omega]; exact this
def edgesOk (ops : Array Oper) : Bool:=ops.toList.zipIdx.all fun (o,i)=>o.after.toList.all fun e=>!Region.binds .any e || Nat.blt e.on i
def newsOk (used : List Nat) : List (List Nat)→Bool
 | []=>true
 | n :: ns=>n.all (fun x=>!(used.any fun y=>Nat.beq x y)) && newsOk (n++used) ns
theorem newsOk_spec : ∀ (ns : List (List Nat)) (used : List Nat),newsOk used ns = true→(∀ n∈ns,∀ x∈n,x ∉ used)∧ns.Pairwise fun a b=>∀ x∈b,x ∉ a
 | [],used,h=>by simp
 | n :: ns,used,h=>by
  simp only [newsOk,Bool.and_eq_true,List.all_eq_true] at h
  obtain ⟨h1,h2⟩ := newsOk_spec ns (n++used) h.2
  have h0 : ∀ x∈n,x ∉ used:=fun x hx hm=>by
   have:=h.1 x hx
   simp only [Bool.not_eq_true',Bool.eq_false_iff] at this
   exact this (List.any_eq_true.2 ⟨x,hm,by simp⟩)
  refine ⟨fun m hm x hx=>?_,List.pairwise_cons.2 ⟨fun m hm x hx hn=>h1 m hm x hx (List.mem_append_left _ hn),h2⟩⟩
  rcases List.mem_cons.1 hm with rfl | hm
  ·exact h0 x hx
  ·exact fun hu=>h1 m hm x hx (List.mem_append_right _ hu)
def drawOk (ops : Array Oper) (ks : List Keys) : Bool:=edgesOk ops && pairsOk (befs ops ops.size) ks 0
section
variable {P : Program} {ops : Array Oper} {C : Ctx} {σ σ' : AS} {ks : List (Keys × Eff)}
theorem draw_any (ht : Trace P ops ops.toList σ σ' ks) (hd : drawOk ops (ks.map (·.1)) = true) (hnew : newsOk σ.used (ks.map (·.2.new)) = true) (hn : ∀ o∈ops.toList,∀ d,o.dst = some d→d < C.n)
  {Q : Exit→Act→World→Prop} (hq : ∀ F' γ' a' w',Sat C F' γ' σ' a' w'→Q .normal a' w') :
  ∀ (fuel : Nat) (L : Array Bool) (F : FMap) (γ : Gam) (a : Act) (w : World),L.size = ops.size→Shut ops (fun i=>L.getD i false)→(List.range ops.size).countP (fun i=>!L.getD i false)≤fuel →
   Sat C F γ (over σ (ks.map (·.2)) (fun i=>L.getD i false)) a w→wpAnyIn (FW C.ro) 0 P .any ops Q fuel L a w:=by
 obtain ⟨t1,t2,t3,t4,t5⟩ := ht.at
 obtain ⟨n1,n2⟩ := newsOk_spec _ _ hnew
 simp only [drawOk,Bool.and_eq_true] at hd
 have hp:=pairsOk_spec _ _ _ hd.2
 have hedge : ∀ i o,ops[i]? = some o→∀ e∈o.after,Region.binds .any e = true→e.on < i:=by
  intro i o ho e he hb
  have h:=hd.1
  simp only [edgesOk,List.all_eq_true] at h
  have hm : (o,i)∈ops.toList.zipIdx:=by
   rw [List.mem_zipIdx_iff_getElem?]; simpa using ho
  have:=h _ hm e (by simpa using he)
  simp only [hb,Bool.not_true,Bool.false_or] at this
  exact Nat.blt_eq ▸ this
 -- all listed: the end
 have fin : ∀ (L : Array Bool) (F : FMap) (γ : Gam) (a : Act) (w : World),L.size = ops.size→Region.ready .any ops L = []→Shut ops (fun i=>L.getD i false)→Sat C F γ (over σ (ks.map (·.2)) (fun i=>L.getD i false)) a w→Q .normal a w:=by
  intro L F γ a w hL hr hsh hs
  have all : ∀ i,i < ops.size→L.getD i false = true:=by
   intro i
   induction i using Nat.strongRecOn with
   | _ i ih=>
    intro hi
    rcases hb : L.getD i false with _ | _
    ·exfalso
     have hm : i∈Region.ready .any ops L:=by
      rw [mem_ready]
      refine ⟨?_,ops[i],Array.getElem?_eq_getElem hi,fun e he hbd=>?_⟩
      ·have hiL : i < L.size:=by omega
       simpa [Array.getD,hiL] using hb
      ·exact ih e.on (hedge i _ (Array.getElem?_eq_getElem hi) e he hbd) (Nat.lt_trans (hedge i _ (Array.getElem?_eq_getElem hi) e he hbd) hi)
     rw [hr] at hm; cases hm
    ·rfl
  refine hq F γ a w (hs.congr (fun t d h=>?_) (fun id e h=>?_) (fun x hx=>?_))
  ·rw [t3 t] at h
   rw [← h]
   simp only [over,List.map_map]
   refine overL_same t _ _ _ _ _ 0 rfl (fun j e hj _=>?_)
   have hjl : j < ks.length:=by
    rcases Nat.lt_or_ge j ks.length with h | h
    ·exact h
    ·rw [List.getElem?_eq_none (by simpa using h)] at hj; cases hj
   rw [Nat.zero_add]; exact all j (by rw [t1] at hjl; simpa using hjl)
  ·unfold hget at h ⊢
   rw [t4 id] at h
   have : look (over σ (ks.map (·.2)) (fun i=>L.getD i false)).heap id = look (overL σ.heap (ks.map (·.2.heap)) (fun _=>true) 0) id:=by
    simp only [over,List.map_map]
    refine overL_same id _ _ _ _ _ 0 rfl (fun j e hj _=>?_)
    have hjl : j < ks.length:=by
     rcases Nat.lt_or_ge j ks.length with h | h
     ·exact h
     ·rw [List.getElem?_eq_none (by simpa using h)] at hj; cases hj
    rw [Nat.zero_add]; exact all j (by rw [t1] at hjl; simpa using hjl)
   rw [this]; exact h
  ·rw [t5 x]
   rcases mem_used.1 hx with h | ⟨i,E,_,he,hx⟩
   ·exact .inl h
   ·rw [List.getElem?_map] at he
    cases hk : ks[i]? with
    | none=>rw [hk] at he; cases he
    | some k=>rw [hk] at he; injection he with he; subst he; exact .inr ⟨k,List.mem_of_getElem? hk,hx⟩
 intro fuel
 induction fuel with
 | zero=>
  intro L F γ a w hL hsh hc hs
  have hr : Region.ready .any ops L = []:=by
   rw [List.eq_nil_iff_forall_not_mem]
   intro i hi
   rw [mem_ready] at hi
   obtain ⟨h1,o,ho,_⟩ := hi
   have hlt : i < ops.size:=(Array.getElem?_eq_some_iff.1 ho).1
   have hz : (List.range ops.size).countP (fun i=>!L.getD i false) = 0:=by omega
   rw [List.countP_eq_zero] at hz
   have:=hz i (List.mem_range.2 hlt)
   have hiL : i < L.size:=by omega
   simp [Array.getD,hiL] at this h1
   rw [this] at h1; cases h1
  exact ⟨hr,fin L F γ a w hL hr hsh hs⟩
 | succ fuel ih=>
  intro L F γ a w hL hsh hc hs
  refine ⟨fun hr=>fin L F γ a w hL hr hsh hs,fun i hi=>?_⟩
  rw [mem_ready] at hi
  obtain ⟨hun,o,ho,hbef⟩ := hi
  have hlt : i < ops.size:=(Array.getElem?_eq_some_iff.1 ho).1
  have hiL : i < L.size:=by omega
  have hDi : L.getD i false = false:=by simpa [Array.getD,hiL] using hun
  have hol : ops.toList[i]? = some o:=by simpa using ho
  obtain ⟨K,E,σi,k1,k2,k3,k4,k5,k6⟩ := t2 i o hol
  have hkeys : (ks.map (·.1))[i]? = some K:=by simp [List.getElem?_map,k1]
  have keyAt : ∀ {j : Nat} {X : Keys × Eff},ks[j]? = some X→∃ K' E',X = (K',E')∧K'.wt = E'.env.map (·.1)∧K'.wh = E'.heap.map (·.1):=by
   intro j X hX
   have hjl : j < ops.toList.length:=by
    rw [← t1]
    rcases Nat.lt_or_ge j ks.length with h | h
    ·exact h
    ·rw [List.getElem?_eq_none h] at hX; cases hX
   obtain ⟨K',E',_,q1,q2,q3,_⟩ := t2 j _ (List.getElem?_eq_getElem hjl)
   rw [hX] at q1; injection q1 with q1
   exact ⟨K',E',q1,q2,q3⟩
  -- whoever clashes with i: earlier ones are done,later ones are not
  have early : ∀ j X,j < i→ks[j]? = some X→clash X.1 K = true→L.getD j false = true:=by
   intro j X hj hX hcl
   have:=hp j i X.1 K hj (by simp [List.getElem?_map,hX]) hkeys hcl
   simp only [Nat.zero_add] at this
   have hsh' : Shut ops (fun x=>L.getD x false || decide (x = i)):=by
    intro x o' hx ho' e he hb
    simp only [Bool.or_eq_true,decide_eq_true_eq] at hx ⊢
    rcases hx with hx | rfl
    ·exact .inl (hsh x o' hx ho' e he hb)
    ·rw [ho] at ho'; injection ho' with ho'; subst ho'
     exact .inl (hbef e he hb)
   have:=befs_shut hsh' ops.size i (by simp) j this
   simp only [Bool.or_eq_true,decide_eq_true_eq] at this
   rcases this with h | h
   ·exact h
   ·omega
  have late : ∀ j X,i < j→ks[j]? = some X→clash K X.1 = true→L.getD j false = false:=by
   intro j X hj hX hcl
   have:=hp i j K X.1 hj hkeys (by simp [List.getElem?_map,hX]) hcl
   simp only [Nat.zero_add] at this
   rcases hb : L.getD j false with _ | _
   ·rfl
   ·have:=befs_shut hsh ops.size j hb i this
    rw [hDi] at this; cases this
  have agreeT : ∀ t,t∈K.rt∨t∈K.wt→∀ j e,(ks.map (·.2.env))[j]? = some e→t∈e.map (·.1)→L.getD j false = decide (j < i):=by
   intro t ht j e hj he
   rw [List.getElem?_map] at hj
   cases hX : ks[j]? with
   | none=>rw [hX] at hj; cases hj
   | some X=>
    rw [hX] at hj; injection hj with hj; subst hj
    obtain ⟨K',E',rfl,q2,q3⟩ := keyAt hX
    rcases Nat.lt_trichotomy j i with hlt' | rfl | hgt
    ·rw [decide_eq_true hlt']
     refine early j _ hlt' hX ?_
     unfold clash
     rw [q2]
     have : meets (E'.env.map (·.1)) (K.rt++K.wt) = true:=meets_of he (List.mem_append.2 ht)
     simp [this]
    ·rw [hDi]; simp
    ·have hnd : decide (j < i) = false:=by simp; omega
     rw [hnd]
     refine late j _ hgt hX ?_
     unfold clash
     rw [q2]
     rcases ht with ht | ht
     ·have : meets K.rt (E'.env.map (·.1)) = true:=meets_of ht he
      simp [this]
     ·have : meets K.wt (K'.rt++E'.env.map (·.1)) = true:=meets_of ht (List.mem_append_right _ he)
      simp [this]
  have agreeH : ∀ t,t∈K.rh∨t∈K.wh→∀ j e,(ks.map (·.2.heap))[j]? = some e→t∈e.map (·.1)→L.getD j false = decide (j < i):=by
   intro t ht j e hj he
   rw [List.getElem?_map] at hj
   cases hX : ks[j]? with
   | none=>rw [hX] at hj; cases hj
   | some X=>
    rw [hX] at hj; injection hj with hj; subst hj
    obtain ⟨K',E',rfl,q2,q3⟩ := keyAt hX
    rcases Nat.lt_trichotomy j i with hlt' | rfl | hgt
    ·rw [decide_eq_true hlt']
     refine early j _ hlt' hX ?_
     unfold clash
     rw [q3]
     have : meets (E'.heap.map (·.1)) (K.rh++K.wh) = true:=meets_of he (List.mem_append.2 ht)
     simp [this]
    ·rw [hDi]; simp
    ·have hnd : decide (j < i) = false:=by simp; omega
     rw [hnd]
     refine late j _ hgt hX ?_
     unfold clash
     rw [q3]
     rcases ht with ht | ht
     ·have : meets K.rh (E'.heap.map (·.1)) = true:=meets_of ht he
      simp [this]
     ·have : meets K.wh (K'.rh++E'.heap.map (·.1)) = true:=meets_of ht (List.mem_append_right _ he)
      simp [this]
  have envA : ∀ t,t∈K.rt∨t∈K.wt→look (over σ (ks.map (·.2)) (fun i=>L.getD i false)).env t = look σi.env t:=by
   intro t ht
   rw [k5 t]
   simp only [over,List.map_map]
   exact overL_same t _ _ _ _ _ 0 rfl (fun j e hj he=>by simpa using agreeT t ht j e hj he)
  have heapA : ∀ t,t∈K.rh∨t∈K.wh→look (over σ (ks.map (·.2)) (fun i=>L.getD i false)).heap t = look σi.heap t:=by
   intro t ht
   rw [k6 t]
   simp only [over,List.map_map]
   exact overL_same t _ _ _ _ _ 0 rfl (fun j e hj he=>by simpa using agreeH t ht j e hj he)
  have hEn : ∀ id∈E.new,id ∉ (over σ (ks.map (·.2)) (fun i=>L.getD i false)).used:=by
   intro id hid hm
   rcases mem_used.1 hm with h | ⟨j,E',hj,he,hx⟩
   ·exact n1 E.new (List.mem_map.2 ⟨(K,E),List.mem_of_getElem? k1,rfl⟩) id hid h
   ·have hne : j≠i:=by rintro rfl; rw [hDi] at hj; cases hj
    rw [List.getElem?_map] at he
    cases hX : ks[j]? with
    | none=>rw [hX] at he; cases he
    | some X=>
     rw [hX] at he; injection he with he; subst he
     have g1 : (ks.map (·.2.new))[j]? = some X.2.new:=by simp [List.getElem?_map,hX]
     have g2 : (ks.map (·.2.new))[i]? = some E.new:=by simp [List.getElem?_map,k1]
     have pw:=List.pairwise_iff_getElem.1 n2
     obtain ⟨l1,e1⟩ := List.getElem?_eq_some_iff.1 g1
     obtain ⟨l2,e2⟩ := List.getElem?_eq_some_iff.1 g2
     rcases Nat.lt_or_gt_of_ne hne with h | h
     ·have:=pw j i l1 l2 h
      rw [e1,e2] at this
      exact this id hid hx
     ·have:=pw i j l2 l1 h
      rw [e1,e2] at this
      exact this id hx hid
  have key:=k4 C F γ (over σ (ks.map (·.2)) (fun i=>L.getD i false)) a w (fun t ht=>envA t (.inl ht)) (fun id hid=>by unfold hget; rw [heapA id (.inl hid)]) hEn (fun d hd=>hn o (by simpa using Array.mem_of_getElem? ho) d hd) hs
   (wpAnyIn (FW C.ro) 0 P .any ops Q fuel (L.setIfInBounds i true)) Q (fun F' γ' a' w' _ hs'=>?_)
  ·unfold wpOpIn
   rw [ho]
   simp only
   split
   ·rename_i hw; rw [if_pos hw] at key; exact key
   ·rename_i hw; rw [if_neg hw] at key; exact ⟨fun _ _=>trivial,key⟩
  ·have getD_set : ∀ j,(L.setIfInBounds i true).getD j false = if j = i then true else L.getD j false:=by
    intro j
    by_cases h : j = i
    ·subst h; simp [Array.getD,hiL]
    ·have h' : i≠j:=fun e=>h e.symm
     by_cases hj : j < L.size
     ·simp [Array.getD,hj,h,Array.getElem_setIfInBounds,h']
     ·simp [Array.getD,hj,h]
   have hf : (fun j=>(L.setIfInBounds i true).getD j false) = fun j=>if j = i then true else L.getD j false:=funext getD_set
   refine ih _ F' γ' a' w' (by simpa using hL) ?_ ?_ (hs'.congr (fun t d h=>?_) (fun id e h=>?_) (fun x hx=>?_))
   ·rw [hf]
    intro x o' hx ho' e he hb
    simp only at hx ⊢
    by_cases hxi : x = i
    ·subst hxi
     rw [ho] at ho'; injection ho' with ho'; subst ho'
     split
     ·rfl
     ·exact hbef e he hb
    ·rw [if_neg hxi] at hx
     split
     ·rfl
     ·exact hsh x o' hx ho' e he hb
   ·have e1 : (List.range ops.size).countP (fun j=>!(L.setIfInBounds i true).getD j false) + 1≤(List.range ops.size).countP (fun j=>!L.getD j false):=by
     have gen : ∀ (l : List Nat),l.Nodup→i∈l→l.countP (fun j=>!(L.setIfInBounds i true).getD j false) + 1≤l.countP (fun j=>!L.getD j false):=by
      intro l
      induction l with
      | nil=>intro _ h; cases h
      | cons x l ihl=>
       intro hnd hm
       have hnd' := List.nodup_cons.1 hnd
       rw [List.countP_cons,List.countP_cons]
       by_cases hx : x = i
       ·subst hx
        have same : l.countP (fun j=>!(L.setIfInBounds x true).getD j false) = l.countP (fun j=>!L.getD j false):=by
         apply List.countP_congr
         intro j hj
         have : j≠x:=fun e=>hnd'.1 (e ▸ hj)
         rw [getD_set,if_neg this]
        rw [same,getD_set,if_pos rfl,hDi]; simp
       ·have hm' : i∈l:=by
         rcases List.mem_cons.1 hm with h | h
         ·exact absurd h.symm hx
         ·exact h
        have:=ihl hnd'.2 hm'
        rw [getD_set,if_neg hx]; omega
     exact gen _ List.nodup_range (List.mem_range.2 hlt)
    omega
   · -- slots
    rw [hf] at h
    simp only [AS.app]
    rw [← h]
    simp only [over,List.map_map]
    rw [look_append]
    by_cases ht : t∈E.env.map (·.1)
    ·obtain ⟨x,hx⟩ := look_some ht
     have:=overL_last t (ks.map (·.2.env)) σ.env (fun j=>if j = i then true else L.getD j false) 0 i E.env (by simp [List.getElem?_map,k1]) ht (by simp) (fun j e' hj he hte=>by
      have:=agreeT t (.inr (k2 ▸ ht)) j e' he hte
      rw [Nat.zero_add,if_neg (by omega),this]; simp; omega)
     rw [hx]
     exact Eq.trans rfl (this.trans hx).symm
    ·rw [look_none ht]
     refine overL_same t _ _ _ _ _ 0 rfl (fun j e' he hte=>?_)
     have hne : j≠i:=by
      rintro rfl
      rw [List.getElem?_map,k1] at he
      injection he with he; subst he
      exact ht hte
     rw [Nat.zero_add,if_neg hne]
   ·unfold hget at h ⊢
    rw [hf] at h
    have : look (E.heap++(over σ (ks.map (·.2)) (fun i=>L.getD i false)).heap) id = look (over σ (ks.map (·.2)) (fun j=>if j = i then true else L.getD j false)).heap id:=by
     simp only [over,List.map_map]
     rw [look_append]
     by_cases ht : id∈E.heap.map (·.1)
     ·obtain ⟨x,hx⟩ := look_some ht
      have:=overL_last id (ks.map (·.2.heap)) σ.heap (fun j=>if j = i then true else L.getD j false) 0 i E.heap (by simp [List.getElem?_map,k1]) ht (by simp) (fun j e' hj he hte=>by
       have:=agreeH id (.inr (k3 ▸ ht)) j e' he hte
       rw [Nat.zero_add,if_neg (by omega),this]; simp; omega)
      rw [hx]
      exact Eq.trans rfl (this.trans hx).symm
     ·rw [look_none ht]
      refine overL_same id _ _ _ _ _ 0 rfl (fun j e' he hte=>?_)
      have hne : j≠i:=by
       rintro rfl
       rw [List.getElem?_map,k1] at he
       injection he with he; subst he
       exact ht hte
      rw [Nat.zero_add,if_neg hne]
    simp only [AS.app]
    rw [this]; exact h
   ·rw [hf,mem_used]
    rcases List.mem_append.1 hx with hx | hx
    ·exact .inr ⟨i,E,by simp,by simp [List.getElem?_map,k1],hx⟩
    ·rcases mem_used.1 hx with h | ⟨j,E',hj,he,hx⟩
     ·exact .inl h
     ·exact .inr ⟨j,E',by by_cases hji : j = i <;> simp [hji,hj],he,hx⟩
end
end Go.Proofs.YtepkcbalmjnhpaaGreatDoor
/-! ### part F -/
/-
 My engine,part F: code,calls,names.
-/
namespace Go.Proofs.YtepkcbalmjnhpaaGreatDoor
open Go.RowKit
def awp (P : Program) (n : Nat) (c : Code) (Q : Exit→AS→Prop) (σ : AS) : Prop :=
 ∀ (C : Ctx) (F : FMap) (γ : Gam) (a : Act) (w : World),C.n = n→Sat C F γ σ a w→c.wpIn (FW C.ro) 0 P (fun e a' w'=>∃ F' γ' σ',Sat C F' γ' σ' a' w'∧Q e σ') a w
def Imp (σ σ' : AS) : Prop := ∀ (C : Ctx) (F : FMap) (γ : Gam) (a : Act) (w : World),Sat C F γ σ a w→∃ F' γ',Sat C F' γ' σ' a w
theorem Imp.refl (σ : AS) : Imp σ σ:=fun C F γ a w h=>⟨F,γ,h⟩
theorem Imp.trans {a b c : AS} (h : Imp a b) (k : Imp b c) : Imp a c:=fun C F γ x w s=>by
 obtain ⟨F1,γ1,h1⟩ := h C F γ x w s
 exact k C F1 γ1 x w h1
section
variable {P : Program} {n : Nat} {Q : Exit→AS→Prop} {σ : AS}
theorem a_mono {c : Code} {Q' : Exit→AS→Prop} (h : awp P n c Q σ) (hq : ∀ e σ,Q e σ→Q' e σ) : awp P n c Q' σ:=fun C F γ a w hn hs=>
 wpIn_mono (h C F γ a w hn hs) fun e a' w' ⟨F',γ',σ',h1,h2⟩=>⟨F',γ',σ',h1,hq e σ' h2⟩
theorem a_imp {c : Code} {σ' : AS} (hi : Imp σ σ') (h : awp P n c Q σ') : awp P n c Q σ:=fun C F γ a w hn hs=>by
 obtain ⟨F1,γ1,h1⟩ := hi C F γ a w hs
 exact h C F1 γ1 a w hn h1
theorem a_skip (h : Q .normal σ) : awp P n .skip Q σ:=fun C F γ a w hn hs=>wpIn_skip ⟨F,γ,σ,hs,h⟩
theorem a_ret (h : Q .ret σ) : awp P n .ret Q σ:=fun C F γ a w hn hs=>wpIn_ret ⟨F,γ,σ,hs,h⟩
theorem a_exit {id : Nat} (h : Q (.exit id) σ) : awp P n (.exit id) Q σ:=fun C F γ a w hn hs=>wpIn_exit ⟨F,γ,σ,hs,h⟩
def QThen (P : Program) (n : Nat) (y : Code) (Q : Exit→AS→Prop) : Exit→AS→Prop
 | .normal,σ=>awp P n y Q σ
 | e,σ=>Q e σ
theorem a_seq {x y : Code} (h : awp P n x (QThen P n y Q) σ) : awp P n (.seq x y) Q σ:=fun C F γ a w hn hs=>
 wpIn_seq (wpIn_mono (h C F γ a w hn hs) fun e a' w' ⟨F',γ',σ',h1,h2⟩=>by
  cases e with
  | normal=>exact h2 C F' γ' a' w' hn h1
  | exit id=>exact ⟨F',γ',σ',h1,h2⟩
  | goto l=>exact ⟨F',γ',σ',h1,h2⟩
  | ret=>exact ⟨F',γ',σ',h1,h2⟩
  | panic c=>exact ⟨F',γ',σ',h1,h2⟩
  | outgrown=>exact ⟨F',γ',σ',h1,h2⟩)
theorem a_cond {c : Operand} {x y : Code} (b : Bool) (hc : ev σ.env c = some (.bool b)) (ht : b = true→awp P n x Q σ) (hf : b = false→awp P n y Q σ) : awp P n (.cond c x y) Q σ:=fun C F γ a w hn hs=>by
 have:=hs.ev hc
 simp only [Rs] at this
 exact wpIn_cond_split this (fun e=>ht e C F γ a w hn hs) (fun e=>hf e C F γ a w hn hs)
def QBlk (id : Nat) (Q : Exit→AS→Prop) : Exit→AS→Prop
 | .exit id',σ=>bif Nat.beq id' id then Q .normal σ else Q (.exit id') σ
 | e,σ=>Q e σ
theorem a_block {id : Nat} {c : Code} (h : awp P n c (QBlk id Q) σ) : awp P n (.block id c) Q σ:=fun C F γ a w hn hs=>
 wpIn_block (wpIn_mono (h C F γ a w hn hs) fun e a' w' ⟨F',γ',σ',h1,h2⟩=>by
  cases e with
  | exit id'=>
   simp only [QBlk] at h2
   simp only [Exit.inBlock]
   by_cases hid : id' = id
   ·subst hid; simp at h2; rw [if_pos rfl]; exact ⟨F',γ',σ',h1,h2⟩
   ·have : Nat.beq id' id = false:=by rw [Bool.eq_false_iff]; intro e; exact hid (Nat.eq_of_beq_eq_true e)
    rw [this] at h2; rw [if_neg hid]; exact ⟨F',γ',σ',h1,h2⟩
  | normal=>exact ⟨F',γ',σ',h1,h2⟩
  | goto l=>exact ⟨F',γ',σ',h1,h2⟩
  | ret=>exact ⟨F',γ',σ',h1,h2⟩
  | panic c=>exact ⟨F',γ',σ',h1,h2⟩
  | outgrown=>exact ⟨F',γ',σ',h1,h2⟩)
def QLoop {α : Type} (S : α→AS) (I : α→Prop) (μ : α→Nat) (x : α) (Q : Exit→AS→Prop) : Exit→AS→Prop
 | .normal,σ=>∃ x',I x'∧μ x' < μ x∧Imp σ (S x')
 | e,σ=>Q e σ
theorem QLoop.next {α : Type} {S : α→AS} {I : α→Prop} {μ : α→Nat} {x : α} (x' : α) (hI : I x') (hm : μ x' < μ x) (hi : Imp σ (S x')) : QLoop S I μ x Q .normal σ := ⟨x',hI,hm,hi⟩
theorem a_loop {c : Code} {α : Type} (S : α→AS) (I : α→Prop) (μ : α→Nat) (x0 : α) (h0 : Imp σ (S x0)) (hI : I x0) (round : ∀ x,I x→awp P n c (QLoop S I μ x Q) (S x)) : awp P n (.loop c) Q σ:=fun C F γ a w hn hs=>by
 obtain ⟨F1,γ1,h1⟩ := h0 C F γ a w hs
 refine wpIn_loop_ghost (fun k a w=>∃ x F γ,I x∧μ x = k∧Sat C F γ (S x) a w) (μ x0) ⟨x0,F1,γ1,hI,rfl,h1⟩ ?_
 rintro k a w ⟨x,F,γ,hx,rfl,hs⟩
 refine wpIn_mono (round x hx C F γ a w hn hs) fun e a' w' ⟨F',γ',σ',h1,h2⟩=>?_
 cases e with
 | normal=>
  obtain ⟨x',i1,i2,i3⟩ := h2
  obtain ⟨F2,γ2,h3⟩ := i3 C F' γ' a' w' h1
  exact ⟨μ x',i2,x',F2,γ2,i1,rfl,h3⟩
 | exit id=>exact ⟨F',γ',σ',h1,h2⟩
 | goto l=>exact ⟨F',γ',σ',h1,h2⟩
 | ret=>exact ⟨F',γ',σ',h1,h2⟩
 | panic c=>exact ⟨F',γ',σ',h1,h2⟩
 | outgrown=>exact ⟨F',γ',σ',h1,h2⟩
def QCut {α : Type} (S : α→AS) (I : α→Prop) (Q : Exit→AS→Prop) : Exit→AS→Prop
 | .normal,σ=>∃ x',I x'∧Imp σ (S x')
 | e,σ=>Q e σ
theorem a_cut {c d : Code} {α : Type} (S : α→AS) (I : α→Prop) (h : awp P n c (QCut S I Q) σ) (k : ∀ x,I x→awp P n d Q (S x)) : awp P n (.seq c d) Q σ :=
 a_seq (a_mono h fun e σ' hq=>by
  cases e with
  | normal=>obtain ⟨x',i1,i2⟩ := hq; exact a_imp i2 (k x' i1)
  | exit id=>exact hq
  | goto l=>exact hq
  | ret=>exact hq
  | panic c=>exact hq
  | outgrown=>exact hq)
def dstOk (n : Nat) (ops : Array Oper) : Bool:=ops.toList.all fun o=>match o.dst with
 | some d=>Nat.blt d n
 | none=>true
theorem a_region {id : Nat} {ops : Array Oper} {σ' : AS} {ks : List (Keys × Eff)} (ht : Trace P ops ops.toList σ σ' ks) (hd : dstOk n ops = true) (hnew : newsOk σ.used (ks.map (·.2.new)) = true) (hq : Q .normal σ') : awp P n (.region id ops false) Q σ:=fun C F γ a w hn hs=>by
 refine wpIn_region ?_
 obtain ⟨n1,n2⟩ := newsOk_spec _ _ hnew
 have:=Trace.seq (Q:=fun e a' w'=>∃ F' γ' σ',Sat C F' γ' σ' a' w'∧Q e σ') (C:=C) ops.toList 0 σ σ' ks ht (fun j o hj=>by simpa using hj) (fun o ho d hd'=>?_) (fun k hk=>n1 _ (List.mem_map.2 ⟨k,hk,rfl⟩)) (List.pairwise_map.1 n2) F γ a w hs (fun F' γ' a' w' h=>⟨F',γ',σ',h,hq⟩)
 ·simpa using this
 ·simp only [dstOk,List.all_eq_true] at hd
  have:=hd o ho
  rw [hd'] at this
  rw [hn]; exact Nat.blt_eq ▸ this
theorem a_draw {id : Nat} {ops : Array Oper} {σ' : AS} {ks : List (Keys × Eff)} (hm : P.follows .mixedOrders = true) (ht : Trace P ops ops.toList σ σ' ks) (hk : drawOk ops (ks.map (·.1)) = true) (hd : dstOk n ops = true) (hnew : newsOk σ.used (ks.map (·.2.new)) = true) (hq : Q .normal σ') : awp P n (.region id ops true) Q σ:=fun C F γ a w hn hs=>by
 refine wpIn_region_any hm (draw_any ht hk hnew (fun o ho d hd'=>?_) (fun F' γ' a' w' h=>⟨F',γ',σ',h,hq⟩) ops.size _ F γ a _ (by simp) ?_ ?_ ?_)
 ·simp only [dstOk,List.all_eq_true] at hd
  have:=hd o ho
  rw [hd'] at this
  rw [hn]; exact Nat.blt_eq ▸ this
 ·intro i o hi
  exfalso
  by_cases h : i < ops.size <;> simp [Array.getD,h] at hi
 ·have:=List.countP_le_length (p:=fun i=>!(Array.replicate ops.size false).getD i false) (l:=List.range ops.size)
  simpa using this
 ·have hF : ∀ i,(Array.replicate ops.size false).getD i false = false:=fun i=>by
   by_cases h : i < ops.size <;> simp [Array.getD,h]
  have hs' : Sat C F γ σ a { w with drawn:=w.drawn + 1 } := ⟨hs.env,hs.ws.quiet (Stp.drew w),hs.size,hs.defers⟩
  have none : ∀ {α : Type} (es : List (List (Nat × α))) (b : List (Nat × α)) (i : Nat),overL b es (fun i=>(Array.replicate ops.size false).getD i false) i = b:=by
   intro α es
   induction es with
   | nil=>intros; rfl
   | cons e es ih=>
    intro b i
    unfold overL
    show overL (if (Array.replicate ops.size false).getD i false = true then e++b else b) es _ (i + 1) = b
    rw [hF i]
    simp only [Bool.false_eq_true,if_false]
    exact ih _ _
  refine hs'.congr (fun t d h=>?_) (fun id e h=>?_) (fun x hx=>mem_used.2 (.inl hx))
  ·simp only [over] at h; rw [none] at h; exact h
  ·simp only [over] at h; rw [none] at h; exact h
end
end Go.Proofs.YtepkcbalmjnhpaaGreatDoor
/-! ### part G -/
/-
 My engine,part G: names in data,calls.
-/
namespace Go.Proofs.YtepkcbalmjnhpaaGreatDoor
open Go.RowKit
mutual
def DV.ids : DV→List Nat
 | .agg ds=>idsL ds
 | .tup ds=>idsL ds
 | .ref id _=>[id]
 | .row id=>[id]
 | .rp id _ _ _=>[id]
 | .bsl id _ _=>[id]
 | .ifb _ d=>d.ids
 | .clo _ ds=>idsL ds
 | .int _ _ | .bool _ | .str _ | .val _ | .nils | .sl _ _ | .eptr _=>[]
def idsL : List DV→List Nat
 | []=>[]
 | d :: ds=>d.ids++idsL ds
end
mutual
def DV.ren (f : Nat→Nat) : DV→DV
 | .agg ds=>.agg (renL f ds)
 | .tup ds=>.tup (renL f ds)
 | .ref id o=>.ref (f id) o
 | .row id=>.row (f id)
 | .rp id i sz o=>.rp (f id) i sz o
 | .bsl id o n=>.bsl (f id) o n
 | .ifb b d=>.ifb b (d.ren f)
 | .clo g ds=>.clo g (renL f ds)
 | .int k n=>.int k n
 | .bool b=>.bool b
 | .str s=>.str s
 | .val v=>.val v
 | .nils=>.nils
 | .sl sz els=>.sl sz els
 | .eptr ds=>.eptr ds
def renL (f : Nat→Nat) : List DV→List DV
 | []=>[]
 | d :: ds=>d.ren f :: renL f ds
end
mutual
theorem Rs_ids {F : FMap} {γ γ' : Gam} : ∀ (d : DV) (v : Value),(∀ i∈d.ids,γ i = γ' i)→Rs F γ d v→Rs F γ' d v
 | .int k n,v,_,h=>by simp only [Rs] at h ⊢; exact h
 | .bool b,v,_,h=>by simp only [Rs] at h ⊢; exact h
 | .str s,v,_,h=>by simp only [Rs] at h ⊢; exact h
 | .val x,v,_,h=>by simp only [Rs] at h ⊢; exact h
 | .nils,v,_,h=>by simp only [Rs] at h ⊢; exact h
 | .agg ds,v,hi,h=>by simp only [Rs] at h ⊢; obtain ⟨cs,rfl,h⟩ := h; exact ⟨cs,rfl,RsL_ids ds _ (by simpa only [DV.ids] using hi) h⟩
 | .tup ds,v,hi,h=>by simp only [Rs] at h ⊢; obtain ⟨cs,rfl,h⟩ := h; exact ⟨cs,rfl,RsT_ids ds _ (by simpa only [DV.ids] using hi) h⟩
 | .sl sz els,v,_,h=>by simp only [Rs] at h ⊢; exact h
 | .eptr ds,v,_,h=>by simp only [Rs] at h ⊢; exact h
 | .ref id off,v,hi,h=>by simp only [Rs] at h ⊢; rw [← hi id (by simp [DV.ids])]; exact h
 | .row id,v,hi,h=>by simp only [Rs] at h ⊢; rw [← hi id (by simp [DV.ids])]; exact h
 | .rp id i sz o,v,hi,h=>by simp only [Rs] at h ⊢; rw [← hi id (by simp [DV.ids])]; exact h
 | .bsl id off n,v,hi,h=>by simp only [Rs] at h ⊢; rw [← hi id (by simp [DV.ids])]; exact h
 | .ifb g d,v,hi,h=>by simp only [Rs] at h ⊢; exact ⟨fun e=>Rs_ids d v (by simpa only [DV.ids] using hi) (h.1 e),h.2⟩
 | .clo f ds,v,hi,h=>by simp only [Rs] at h ⊢; obtain ⟨cs,rfl,h⟩ := h; exact ⟨cs,rfl,RsT_ids ds _ (by simpa only [DV.ids] using hi) h⟩
theorem RsL_ids {F : FMap} {γ γ' : Gam} : ∀ (ds : List DV) (vs : List Value),(∀ i∈idsL ds,γ i = γ' i)→RsL F γ ds vs→RsL F γ' ds vs
 | [],vs,_,h=>by simp only [RsL] at h ⊢; exact h
 | d :: ds,vs,hi,h=>by
  simp only [RsL] at h ⊢
  simp only [idsL,List.mem_append] at hi
  obtain ⟨v,rest,h1,h2,h3,h4⟩ := h
  exact ⟨v,rest,h1,h2,Rs_ids d v (fun i h=>hi i (.inl h)) h3,RsL_ids ds _ (fun i h=>hi i (.inr h)) h4⟩
theorem RsT_ids {F : FMap} {γ γ' : Gam} : ∀ (ds : List DV) (vs : List Value),(∀ i∈idsL ds,γ i = γ' i)→RsT F γ ds vs→RsT F γ' ds vs
 | [],vs,_,h=>by simp only [RsT] at h ⊢; exact h
 | d :: ds,vs,hi,h=>by
  simp only [RsT] at h ⊢
  simp only [idsL,List.mem_append] at hi
  obtain ⟨v,rest,h1,h3,h4⟩ := h
  exact ⟨v,rest,h1,Rs_ids d v (fun i h=>hi i (.inl h)) h3,RsT_ids ds _ (fun i h=>hi i (.inr h)) h4⟩
end
mutual
theorem Rs_ren {F : FMap} {γ γ' : Gam} (f : Nat→Nat) : ∀ (d : DV) (v : Value),(∀ i∈d.ids,γ (f i) = γ' i)→(Rs F γ (d.ren f) v↔Rs F γ' d v)
 | .int k n,v,_=>by simp only [DV.ren,Rs]
 | .bool b,v,_=>by simp only [DV.ren,Rs]
 | .str s,v,_=>by simp only [DV.ren,Rs]
 | .val x,v,_=>by simp only [DV.ren,Rs]
 | .nils,v,_=>by simp only [DV.ren,Rs]
 | .agg ds,v,hi=>by
  simp only [DV.ren,Rs]
  have:=fun vs=>RsL_ren (F:=F) (γ:=γ) (γ' := γ') f ds vs (by simpa only [DV.ids] using hi)
  simp only [this]
 | .tup ds,v,hi=>by
  simp only [DV.ren,Rs]
  have:=fun vs=>RsT_ren (F:=F) (γ:=γ) (γ' := γ') f ds vs (by simpa only [DV.ids] using hi)
  simp only [this]
 | .sl sz els,v,_=>by simp only [DV.ren,Rs]
 | .eptr ds,v,_=>by simp only [DV.ren,Rs]
 | .ref id off,v,hi=>by simp only [DV.ren,Rs]; rw [hi id (by simp [DV.ids])]
 | .row id,v,hi=>by simp only [DV.ren,Rs]; rw [hi id (by simp [DV.ids])]
 | .rp id i sz o,v,hi=>by simp only [DV.ren,Rs]; rw [hi id (by simp [DV.ids])]
 | .bsl id off n,v,hi=>by simp only [DV.ren,Rs]; rw [hi id (by simp [DV.ids])]
 | .ifb g d,v,hi=>by simp only [DV.ren,Rs]; rw [Rs_ren f d v (by simpa only [DV.ids] using hi)]
 | .clo g ds,v,hi=>by
  simp only [DV.ren,Rs]
  have:=fun vs=>RsT_ren (F:=F) (γ:=γ) (γ' := γ') f ds vs (by simpa only [DV.ids] using hi)
  simp only [this]
theorem RsL_ren {F : FMap} {γ γ' : Gam} (f : Nat→Nat) : ∀ (ds : List DV) (vs : List Value),(∀ i∈idsL ds,γ (f i) = γ' i)→(RsL F γ (renL f ds) vs↔RsL F γ' ds vs)
 | [],vs,_=>by simp only [renL,RsL]
 | d :: ds,vs,hi=>by
  simp only [idsL,List.mem_append] at hi
  have h1:=fun v=>Rs_ren (F:=F) (γ:=γ) (γ' := γ') f d v (fun i h=>hi i (.inl h))
  have h2:=fun vs=>RsL_ren (F:=F) (γ:=γ) (γ' := γ') f ds vs (fun i h=>hi i (.inr h))
  simp only [renL,RsL,h1,h2]
theorem RsT_ren {F : FMap} {γ γ' : Gam} (f : Nat→Nat) : ∀ (ds : List DV) (vs : List Value),(∀ i∈idsL ds,γ (f i) = γ' i)→(RsT F γ (renL f ds) vs↔RsT F γ' ds vs)
 | [],vs,_=>by simp only [renL,RsT]
 | d :: ds,vs,hi=>by
  simp only [idsL,List.mem_append] at hi
  have h1:=fun v=>Rs_ren (F:=F) (γ:=γ) (γ' := γ') f d v (fun i h=>hi i (.inl h))
  have h2:=fun vs=>RsT_ren (F:=F) (γ:=γ) (γ' := γ') f ds vs (fun i h=>hi i (.inr h))
  simp only [renL,RsT,h1,h2]
end
def HE.ids : HE→List Nat
 | .blk _ ds=>idsL ds
 | .row _ _ _=>[]
 | .obj _=>[]
def HE.ren (f : Nat→Nat) : HE→HE
 | .blk T ds=>.blk T (renL f ds)
 | .row E sz els=>.row E sz els
 | .obj o=>.obj o
theorem Ent_ren {F : FMap} {γ γ' : Gam} {w : World} (f : Nat→Nat) {e : HE} {g : Value} (h : ∀ i∈e.ids,γ (f i) = γ' i) : Ent F γ w (e.ren f) g↔Ent F γ' w e g:=by
 cases e with
 | blk T ds=>
  have:=fun vs=>RsL_ren (F:=F) (γ:=γ) (γ' := γ') f ds vs h
  simp only [HE.ren,Ent,this]
 | row E sz els=>simp only [HE.ren,Ent]
 | obj o=>simp only [HE.ren,Ent]
def renH (f : Nat→Nat) (h : Heap) : Heap:=h.map fun p=>(f p.1,p.2.map (HE.ren f))
theorem look_ren {f : Nat→Nat} : ∀ {h : Heap} {j : Nat} {x : Option HE},look (renH f h) j = some x→(∀ p∈h,∀ q∈h,f p.1 = f q.1→p.1 = q.1)→∃ i y,f i = j∧look h i = some y∧x = y.map (HE.ren f)∧i∈h.map (·.1)
 | [],j,x,hl,_=>by simp [renH,look] at hl
 | (k,y) :: h,j,x,hl,hi=>by
  rw [renH,List.map_cons,look_cons] at hl
  by_cases e : f k = j
  ·rw [if_pos e] at hl
   injection hl with hl
   exact ⟨k,y,e,by rw [look_cons,if_pos rfl],hl.symm,by simp⟩
  ·rw [if_neg e] at hl
   obtain ⟨i,y',h1,h2,h3,h4⟩ := look_ren (h:=h) hl (fun p hp q hq=>hi p (List.mem_cons_of_mem _ hp) q (List.mem_cons_of_mem _ hq))
   refine ⟨i,y',h1,?_,h3,List.mem_cons_of_mem _ h4⟩
   rw [look_cons,if_neg]
   ·exact h2
   ·rintro rfl; exact e h1
theorem look_ren_none {f : Nat→Nat} {h : Heap} {j : Nat} (hn : look (renH f h) j = none) : ∀ i∈h.map (·.1),f i≠j:=by
 intro i hi he
 have : j∈(renH f h).map (·.1):=by
  obtain ⟨p,hp,rfl⟩ := List.mem_map.1 hi
  exact List.mem_map.2 ⟨(f p.1,p.2.map (HE.ren f)),List.mem_map.2 ⟨p,hp,rfl⟩,he⟩
 obtain ⟨x,hx⟩ := look_some this
 rw [hx] at hn; cases hn
def inner (w : World) (F : FMap) (n : Nat) (γ : Gam) (f : Nat→Nat) (pre : List Nat) : Ctx where
 w0:=w
 T:=fun b=>∃ i∈pre,∃ g,γ (f i) = some g∧Value.pblk g = some b
 F0:=F
 n:=n
 G0:=fun i=>if i∈pre then γ (f i) else none
 ro:=none
 defs:=[]
def innerG (γ : Gam) (f : Nat→Nat) (pre : List Nat) : Gam:=fun i=>if i∈pre then γ (f i) else none
section
variable {C : Ctx} {F F' : FMap} {γ γ' : Gam} {heap : Heap} {used : List Nat} {w w' : World}
theorem WS.enter (H : WS C F γ heap used w) (n : Nat) (f : Nat→Nat) (pre : Heap) (hp : ∀ i e,hget pre i = some e→hget heap (f i) = some (e.ren f)) (hk : ∀ i∈pre.map (·.1),∃ e,hget pre i = some e)
  (hgk : ∀ i∈pre.map (·.1),100000≤i) (hi : ∀ i∈pre.map (·.1),∀ j∈pre.map (·.1),f i = f j→i = j) (hids : ∀ i e,hget pre i = some e→∀ x∈e.ids,x∈pre.map (·.1)) :
  WS (inner w F n γ f (pre.map (·.1))) F (innerG γ f (pre.map (·.1))) pre (pre.map (·.1)) w:=by
 have mem : ∀ {i e},hget pre i = some e→i∈pre.map (·.1):=by
  intro i e h
  rcases hl : look pre i with _ | x
  ·simp [hget,hl] at h
  ·rcases Classical.em (i∈pre.map (·.1)) with h' | h'
   ·exact h'
   ·rw [look_none h'] at hl; cases hl
 have gam : ∀ {i},i∈pre.map (·.1)→innerG γ f (pre.map (·.1)) i = γ (f i):=fun h=>if_pos h
 exact {
  ent:=fun i e h=>by
   obtain ⟨g,h1,h2⟩ := H.ent _ _ (hp i e h)
   exact ⟨g,by rw [gam (mem h)]; exact h1,(Ent_ren f (fun x hx=>(gam (hids i e h x hx)).symm)).1 h2⟩
  own:=fun i e g b h hg hb=>by
   rw [gam (mem h)] at hg
   exact ⟨(H.own _ _ g b (hp i e h) hg hb).1,.inl ⟨i,mem h,g,hg,hb⟩⟩
  apart:=fun i j e e' g g' b h h' hg hg' hb hb'=>by
   rw [gam (mem h)] at hg
   rw [gam (mem h')] at hg'
   exact hi i (mem h) j (mem h') (H.apart _ _ _ _ g g' b (hp i e h) (hp j e' h') hg hg' hb hb')
  fs:=H.fs
  f0:=FLe.refl _
  fnew:=fun b cs h=>.inl h
  os:=rfl,tape:=rfl,output:=rfl
  size:=Nat.le_refl _
  keep:=fun b _ _=>rfl
  us:=fun i g h=>by
   unfold innerG at h
   split at h
   ·assumption
   ·cases h
  gone:=fun i g h=>by
   unfold innerG at h
   split at h
   ·exact H.gone _ _ h
   ·cases h
  g0:=GLe.refl _
  gk:=fun i g h=>by
   simp only [inner] at h
   split at h
   ·rename_i hm; exact hgk i hm
   ·cases h }
def outerG (γ γ' : Gam) (f : Nat→Nat) (new : List Nat) : Gam:=fun j=>match γ j with
 | some g=>some g
 | none=>(new.find? fun i=>Nat.beq (f i) j).bind γ'
theorem WS.join (H : WS C F γ heap used w) {n : Nat} {f : Nat→Nat} {pre new : List Nat} {h' : Heap} {used' : List Nat} (K : WS (inner w F n γ f pre) F' γ' h' used' w') (post : Heap)
  (hpre : ∀ i∈pre,∃ e,hget heap (f i) = some e) (hnew : ∀ i∈new,f i ∉ used) (hi : ∀ i∈pre++new,∀ j∈pre++new,f i = f j→i = j)
  (hpost : ∀ i e,hget post i = some e→hget h' i = some e) (hk : ∀ i∈pre,i∈post.map (·.1)) (hk' : ∀ i∈post.map (·.1),i∈pre++new) (hids : ∀ i e,hget post i = some e→∀ x∈e.ids,x∈pre++new) :
  GLe γ (outerG γ γ' f new)∧(∀ i∈pre++new,outerG γ γ' f new (f i) = γ' i)∧WS C F' (outerG γ γ' f new) (renH f post++heap) (new.map f++used) w' := by
 have le : GLe γ (outerG γ γ' f new):=fun i g h=>by simp [outerG,h]
 have gam : ∀ i∈pre++new,outerG γ γ' f new (f i) = γ' i:=by
  intro i him
  rcases List.mem_append.1 him with h | h
  ·obtain ⟨e,he⟩ := hpre i h
   obtain ⟨g,hg,_⟩ := H.ent _ _ he
   have : γ' i = some g:=K.g0 i g (by simp [inner,h,hg])
   rw [this]; simp [outerG,hg]
  ·have hn : γ (f i) = none:=H.fresh (hnew i h)
   simp only [outerG,hn]
   have hf : new.find? (fun x=>Nat.beq (f x) (f i)) = some i:=by
    have hs : (new.find? (fun x=>Nat.beq (f x) (f i))).isSome:=by
     rw [List.find?_isSome]; exact ⟨i,h,by simp⟩
    obtain ⟨x,hx⟩ := Option.isSome_iff_exists.1 hs
    have h1:=List.find?_some hx
    have h2:=List.mem_of_find?_eq_some hx
    have:=hi x (List.mem_append_right _ h2) i him (Nat.eq_of_beq_eq_true h1)
    rw [hx,this]
   rw [hf]; rfl
 have injp : ∀ p∈post,∀ q∈post,f p.1 = f q.1→p.1 = q.1:=fun p hp q hq e=>hi _ (hk' _ (List.mem_map.2 ⟨p,hp,rfl⟩)) _ (hk' _ (List.mem_map.2 ⟨q,hq,rfl⟩)) e
 -- an entry is a renamed one of the call's,or an old one that the call had nothing of
 have cases2 : ∀ {j e},hget (renH f post++heap) j = some e→(∃ i e',f i = j∧e = e'.ren f∧hget post i = some e'∧i∈pre++new)∨(hget heap j = some e∧∀ i∈pre,f i≠j):=by
  intro j e he
  unfold hget at he
  rw [look_append] at he
  cases hl : look (renH f post) j with
  | none=>
   rw [hl] at he
   refine .inr ⟨?_,fun i hip=>look_ren_none hl i (hk i hip)⟩
   unfold hget; exact he
  | some x=>
   rw [hl] at he
   obtain ⟨i,y,h1,h2,h3,h4⟩ := look_ren hl injp
   cases y with
   | none=>subst h3; simp at he
   | some e'=>
    subst h3
    simp at he
    exact .inl ⟨i,e',h1,he.symm,by simp [hget,h2],hk' i h4⟩
 have T_own : ∀ b,(∃ i∈pre,∃ g,γ (f i) = some g∧Value.pblk g = some b)→C.T b∨C.w0.heap.size≤b:=by
  rintro b ⟨i,hip,g,hg,hb⟩
  obtain ⟨e,he⟩ := hpre i hip
  exact (H.own _ _ g b he hg hb).2
 -- the blocks of old entries that the call had nothing of
 have other : ∀ {j e g b},hget heap j = some e→(∀ i∈pre,f i≠j)→γ j = some g→Value.pblk g = some b→b < w.heap.size∧¬ (∃ i∈pre,∃ g,γ (f i) = some g∧Value.pblk g = some b):=by
  intro j e g b he hne hg hb
  obtain ⟨g1,h1,h2⟩ := H.ent j e he
  rw [hg] at h1; injection h1 with h1; subst h1
  refine ⟨h2.lt b hb,?_⟩
  rintro ⟨i,hip,g',hg',hb'⟩
  obtain ⟨e',he'⟩ := hpre i hip
  exact hne i hip (H.apart _ _ e' e g' g b he' he hg' hg hb' hb)
 have oldG : ∀ {j e g},hget heap j = some e→outerG γ γ' f new j = some g→γ j = some g:=by
  intro j e g he hg
  obtain ⟨g1,h1,_⟩ := H.ent j e he
  rw [le _ _ h1] at hg; rw [h1]; exact hg
 refine ⟨le,gam,?_⟩
 exact {
  ent:=fun j e he=>by
   rcases cases2 he with ⟨i,e',rfl,rfl,h1,h2⟩ | ⟨h1,h2⟩
   ·obtain ⟨g,k1,k2⟩ := K.ent i e' (hpost i e' h1)
    exact ⟨g,(gam i h2).trans k1,(Ent_ren f (fun x hx=>gam x (hids i e' h1 x hx))).2 k2⟩
   ·obtain ⟨g,k1,k2⟩ := H.ent j e h1
    refine ⟨g,le _ _ k1,(k2.kept fun b hb=>?_).mono K.f0 le⟩
    obtain ⟨o1,o2⟩ := other h1 h2 k1 hb
    exact K.keep b o1 o2
  own:=fun j e g b he hg hb=>by
   rcases cases2 he with ⟨i,e',rfl,rfl,h1,h2⟩ | ⟨h1,h2⟩
   ·rw [gam i h2] at hg
    obtain ⟨k1,k2⟩ := K.own i e' g b (hpost i e' h1) hg hb
    refine ⟨k1,?_⟩
    rcases k2 with k2 | k2
    ·exact T_own b k2
    ·exact .inr (Nat.le_trans H.size k2)
   ·have hg' := oldG h1 hg
    obtain ⟨k1,k2⟩ := H.own j e g b h1 hg' hb
    obtain ⟨o1,o2⟩ := other h1 h2 hg' hb
    refine ⟨?_,k2⟩
    cases hF : F' b with
    | none=>rfl
    | some cs=>
     rcases K.fnew b cs hF with h | h | h
     ·simp only [inner] at h; rw [k1] at h; cases h
     ·exact absurd h o2
     ·simp only [inner] at h; omega
  apart:=fun j j' e e' g g' b he he' hg hg' hb hb'=>by
   rcases cases2 he with ⟨i,e1,rfl,rfl,h1,h2⟩ | ⟨h1,h2⟩
   ·rw [gam i h2] at hg
    rcases cases2 he' with ⟨i',e1',rfl,rfl,h1',h2'⟩ | ⟨h1',h2'⟩
    ·rw [gam i' h2'] at hg'
     rw [K.apart i i' e1 e1' g g' b (hpost _ _ h1) (hpost _ _ h1') hg hg' hb hb']
    ·obtain ⟨o1,o2⟩ := other h1' h2' (oldG h1' hg') hb'
     rcases (K.own i e1 g b (hpost _ _ h1) hg hb).2 with k | k
     ·exact absurd k o2
     ·simp only [inner] at k; omega
   ·rcases cases2 he' with ⟨i',e1',rfl,rfl,h1',h2'⟩ | ⟨h1',h2'⟩
    ·rw [gam i' h2'] at hg'
     obtain ⟨o1,o2⟩ := other h1 h2 (oldG h1 hg) hb
     rcases (K.own i' e1' g' b (hpost _ _ h1') hg' hb').2 with k | k
     ·exact absurd k o2
     ·simp only [inner] at k; omega
    ·exact H.apart j j' e e' g g' b h1 h1' (oldG h1 hg) (oldG h1' hg') hb hb'
  fs:=K.fs
  f0:=H.f0.trans K.f0
  fnew:=fun b cs h=>by
   rcases K.fnew b cs h with h | h | h
   ·exact H.fnew b cs h
   ·exact .inr (T_own b h)
   ·exact .inr (.inr (Nat.le_trans H.size h))
  os:=K.os.trans H.os
  tape:=K.tape.trans H.tape
  output:=K.output.trans H.output
  size:=Nat.le_trans H.size K.size
  keep:=fun b hb ht=>by
   refine (K.keep b (Nat.lt_of_lt_of_le hb H.size) (fun hT=>?_)).trans (H.keep b hb ht)
   rcases T_own b hT with h | h
   ·exact ht h
   ·omega
  us:=fun j g h=>by
   unfold outerG at h
   split at h
   ·rename_i g' hg; exact List.mem_append_right _ (H.us j g' hg)
   ·cases hf : new.find? (fun i=>Nat.beq (f i) j) with
    | none=>rw [hf] at h; cases h
    | some i=>
     have h1:=List.find?_some hf
     have h2:=List.mem_of_find?_eq_some hf
     exact List.mem_append_left _ (List.mem_map.2 ⟨i,h2,Nat.eq_of_beq_eq_true h1⟩)
  gone:=fun j g h=>by
   unfold outerG at h
   split at h
   ·rename_i g' hg; injection h with h; subst h; exact H.gone _ _ hg
   ·cases hf : new.find? (fun i=>Nat.beq (f i) j) with
    | none=>rw [hf] at h; cases h
    | some i=>rw [hf] at h; exact K.gone _ _ h
  g0:=H.g0.trans le
  gk:=H.gk }
end
end Go.Proofs.YtepkcbalmjnhpaaGreatDoor
/-! ### part H -/
/-
 My engine,part H: contracts,how a function's body gives one,results.
-/
namespace Go.Proofs.YtepkcbalmjnhpaaGreatDoor
open Go.RowKit
structure Con where
 args : List DV
 pre : Heap
 res : DV
 post : Heap
 new : List Nat
def ACall (P : Program) (fn : FuncId) (K : Con) : Prop :=
 ∀ (C : Ctx) (F : FMap) (γ : Gam) (heap : Heap) (used : List Nat) (w : World) (vs : List Value) (f : Nat→Nat),
  (∀ i e,hget K.pre i = some e→hget heap (f i) = some (e.ren f))→(∀ i∈K.new,f i ∉ used)→(∀ i∈K.pre.map (·.1)++K.new,∀ j∈K.pre.map (·.1)++K.new,f i = f j→i = j) →
  WS C F γ heap used w→RsT F γ (renL f K.args) vs →
  Calls P fn vs.toArray w (fun e w'=>∃ v F' γ',e = .returned v∧FLe F F'∧GLe γ γ'∧WS C F' γ' (renH f K.post++heap) (K.new.map f++used) w'∧Rs F' γ' (K.res.ren f) v)
def PCall (P : Program) (fn : FuncId) (args : List DV) (r : DV) : Prop :=
 ∀ (C : Ctx) (F : FMap) (γ : Gam) (heap : Heap) (used : List Nat) (w : World) (vs : List Value),WS C F γ heap used w→RsT F Gam.no args vs →
  Calls P fn vs.toArray w (fun e w'=>∃ v F',e = .returned v∧FLe F F'∧WS C F' γ heap used w'∧Rs F' Gam.no r v)
def TRow (P : Program) (t : TypeId) (n : Nat) : Prop := ∃ d,P.underlying t = some d∧d.isRow = true∧(P.info? t).map (·.size) = some n
def TSc (P : Program) (t : TypeId) : Prop := ∃ d,P.underlying t = some d∧d.isRow = false∧(P.info? t).map (·.size) = some 1
def LoadD (P : Program) (t : TypeId) (ds : List DV) (d : DV) : Prop:=(∃ n,TRow P t n∧n≤ds.length∧d = .agg (ds.take n))∨(TSc P t∧ds.head? = some d)
theorem LoadD.row {P : Program} {t : TypeId} {ds : List DV} {d : DV} (n : Nat) (h : TRow P t n) (hn : n≤ds.length) (hd : d = .agg (ds.take n)) : LoadD P t ds d:=.inl ⟨n,h,hn,hd⟩
theorem LoadD.sc {P : Program} {t : TypeId} {ds : List DV} {d : DV} (h : TSc P t) (hd : ds.head? = some d) : LoadD P t ds d:=.inr ⟨h,hd⟩
theorem load_rs {P : Program} {t : TypeId} {ds : List DV} {d : DV} {F : FMap} {γ : Gam} {w : World} {b o : Nat} {vs : List Value} (hd : LoadD P t ds d) (hr : w.rangeAt b o vs) (hl : RsL F γ ds vs) :
  ∃ v,(loadVar t ⟨b,o,none⟩).run P w = .ok v w∧Rs F γ d v∧(∀ u∈v.cells.toList,u.oneCell' = true):=by
 rcases hd with ⟨n,⟨dd,hu,hrow,hi⟩,hn,rfl⟩ | ⟨⟨dd,hu,hrow,hi⟩,hh⟩
 ·have ht:=hl.take n
  have hlen:=ht.len
  refine ⟨.agg (vs.take n).toArray,?_,?_,?_⟩
  ·refine run_loadVar_mid (P:=P) w b o t (vs.take n) dd (rangeAt.take hr n) hu hrow ?_
   rw [hi,hlen,List.length_take,Nat.min_eq_left hn]
  ·simp only [Rs]; exact ⟨_,rfl,by simpa using ht⟩
  ·simpa [Value.cells] using ht.one
 ·cases ds with
  | nil=>cases hh
  | cons d0 ds=>
   simp only [List.head?_cons,Option.some.injEq] at hh
   subst hh
   simp only [RsL] at hl
   obtain ⟨v,rest,rfl,h1,h2,_⟩ := hl
   have hc : w.cell? ⟨b,o,none⟩ = some v:=by simpa using hr 0 v rfl
   have hagg : (isAgg t).run P w = .ok false w:=by
    unfold isAgg
    rw [Sem.run_bind,run_underlying hu w]
    cases dd <;> simp_all
   refine ⟨v,?_,h2,?_⟩
   ·simp [loadVar,Sem.run_bind,hagg,load,Sem.run,hc]
   ·rw [oneCell_cells h1]; simpa using h1
def ResOk (P : Program) (σ : AS) : ResultVar→DV→Prop
 | .tmp t,d=>look σ.env t = some d
 | .cell t ty,d=>∃ id off T ds,look σ.env t = some (.ref id off)∧hget σ.heap id = some (.blk T ds)∧LoadD P ty (ds.drop off) d
theorem ResOk.tmp {P : Program} {σ : AS} {t : Nat} {d : DV} (h : look σ.env t = some d) : ResOk P σ (.tmp t) d:=h
theorem ResOk.cell {P : Program} {σ : AS} {t ty : Nat} {d : DV} {id off T : Nat} {ds : List DV} (h : look σ.env t = some (.ref id off)) (h2 : hget σ.heap id = some (.blk T ds)) (h3 : LoadD P ty (ds.drop off) d) : ResOk P σ (.cell t ty) d := ⟨id,off,T,ds,h,h2,h3⟩
def resRun (tmps : Array Value) : ResultVar→Sem Value
 | .tmp t=>pure (tmps.getD t undef)
 | .cell a t=>do loadVar t (← asAddr (tmps.getD a undef))
theorem blk_range {w : World} {b : Nat} {cs : Array Value} {T : TypeId} {fz : Nat × Nat} (h : w.heap[b]? = some (.cells cs T fz)) (o : Nat) : w.rangeAt b o (cs.toList.drop o):=fun j v hv=>by
 rw [List.getElem?_drop] at hv
 rw [cell_of_row w b (o + j) cs T fz h]
 simpa using hv
theorem ResOk.run {P : Program} {σ : AS} {C : Ctx} {F : FMap} {γ : Gam} {a : Act} {w : World} (hs : Sat C F γ σ a w) {r : ResultVar} {d : DV} (h : ResOk P σ r d) : ∃ v,(resRun a.tmps r).run P w = .ok v w∧Rs F γ d v:=by
 cases r with
 | tmp t=>exact ⟨_,rfl,(hs.env t d h).2⟩
 | cell t ty=>
  obtain ⟨id,off,T,ds,h1,h2,h3⟩ := h
  obtain ⟨g,hg,b,cs,rfl,hb,hl⟩ := hs.ws.ent id _ h2
  have h4:=(hs.env t _ h1).2
  simp only [Rs] at h4
  obtain ⟨b',hb',h5⟩ := h4
  rw [hg] at hb'; injection hb' with hb'; injection hb' with hb'; injection hb' with hb'; injection hb' with hb' _ _
  subst hb'
  obtain ⟨v,k1,k2,_⟩ := load_rs h3 (blk_range hb off) (hl.drop off)
  refine ⟨v,?_,k2⟩
  simp only [resRun,Sem.run_bind,h5,asAddr,Sem.run_pure,Result.andThen_ok,k1]
theorem results_eq (fn : Func) (tmps : Array Value) : results fn tmps = (do let vs ← fn.results.mapM (resRun tmps); pure (if h : vs.size = 1 then vs[0] else .tuple vs)):=by
 have : resRun tmps = (fun | .tmp t=>pure (tmps.getD t undef) | .cell a t=>do loadVar t (← asAddr (tmps.getD a undef))):=by
  funext r; cases r <;> rfl
 rw [this]; rfl
theorem results0 {P : Program} {fn : Func} {tmps : Array Value} {w : World} (h : fn.results = #[]) : (results fn tmps).run P w = .ok (.tuple #[]) w:=by
 simp [results,h]
theorem results1 {P : Program} {fn : Func} {tmps : Array Value} {w : World} {r : ResultVar} {v : Value} (h : fn.results = #[r]) (h1 : (resRun tmps r).run P w = .ok v w) : (results fn tmps).run P w = .ok v w:=by
 simp [results_eq,h,h1]
theorem results2 {P : Program} {fn : Func} {tmps : Array Value} {w : World} {r r' : ResultVar} {v v' : Value} (h : fn.results = #[r,r']) (h1 : (resRun tmps r).run P w = .ok v w) (h2 : (resRun tmps r').run P w = .ok v' w) : (results fn tmps).run P w = .ok (.tuple #[v,v']) w:=by
 simp [results_eq,h,h1,h2]
theorem results3 {P : Program} {fn : Func} {tmps : Array Value} {w : World} {r r' r'' : ResultVar} {v v' v'' : Value} (h : fn.results = #[r,r',r'']) (h1 : (resRun tmps r).run P w = .ok v w) (h2 : (resRun tmps r').run P w = .ok v' w) (h3 : (resRun tmps r'').run P w = .ok v'' w) : (results fn tmps).run P w = .ok (.tuple #[v,v',v'']) w:=by
 simp [results_eq,h,h1,h2,h3]
def DLe (d d' : DV) : Prop := ∀ F γ v,Rs F γ d v→Rs F γ d' v
theorem DLe.refl (d : DV) : DLe d d:=fun _ _ _ h=>h
theorem DLe.nils (sz : Nat) : DLe .nils (.sl sz []):=fun F γ v h=>by
 simp only [Rs] at h ⊢
 exact ⟨none,0,h,⟨fun _=>⟨rfl,rfl⟩,Nat.le_refl _,by decide⟩,fun h=>absurd rfl h⟩
inductive DLeL : List DV→List DV→Prop
 | nil : DLeL [] []
 | cons {d d' : DV} {ds ds' : List DV} (h : DLe d d') (t : DLeL ds ds') : DLeL (d :: ds) (d' :: ds')
theorem DLeL.refl : ∀ ds,DLeL ds ds
 | []=>.nil
 | _ :: ds=>.cons (DLe.refl _) (DLeL.refl ds)
theorem DLeL.of_eq {ds ds' : List DV} (h : ds = ds') : DLeL ds ds' := h ▸ DLeL.refl ds
theorem DLeL.rsL {F : FMap} {γ : Gam} {ds ds' : List DV} (h : DLeL ds ds') : ∀ {vs : List Value},RsL F γ ds vs→RsL F γ ds' vs:=by
 induction h with
 | nil=>exact fun h=>h
 | cons h t ih=>
  intro vs hl
  simp only [RsL] at hl ⊢
  obtain ⟨v,rest,h1,h2,h3,h4⟩ := hl
  exact ⟨v,rest,h1,h2,h _ _ _ h3,ih h4⟩
theorem DLeL.rsT {F : FMap} {γ : Gam} {ds ds' : List DV} (h : DLeL ds ds') : ∀ {vs : List Value},RsT F γ ds vs→RsT F γ ds' vs:=by
 induction h with
 | nil=>exact fun h=>h
 | cons h t ih=>
  intro vs hl
  simp only [RsT] at hl ⊢
  obtain ⟨v,rest,h1,h3,h4⟩ := hl
  exact ⟨v,rest,h1,h _ _ _ h3,ih h4⟩
theorem DLe.agg {ds ds' : List DV} (h : DLeL ds ds') : DLe (.agg ds) (.agg ds'):=fun F γ v hv=>by
 simp only [Rs] at hv ⊢
 obtain ⟨cs,h1,h2⟩ := hv
 exact ⟨cs,h1,h.rsL h2⟩
theorem DLe.tup {ds ds' : List DV} (h : DLeL ds ds') : DLe (.tup ds) (.tup ds'):=fun F γ v hv=>by
 simp only [Rs] at hv ⊢
 obtain ⟨cs,h1,h2⟩ := hv
 exact ⟨cs,h1,h.rsT h2⟩
def ResV (P : Program) (σ : AS) (rs : Array ResultVar) (d : DV) : Prop :=
 (rs = #[]∧d = .tup [])∨(∃ r,rs = #[r]∧ResOk P σ r d)∨(∃ r r' x x',rs = #[r,r']∧d = .tup [x,x']∧ResOk P σ r x∧ResOk P σ r' x') ∨
 (∃ r r' r'' x x' x'',rs = #[r,r',r'']∧d = .tup [x,x',x'']∧ResOk P σ r x∧ResOk P σ r' x'∧ResOk P σ r'' x'')
theorem ResV.r0 {P : Program} {σ : AS} : ResV P σ #[] (.tup []):=.inl ⟨rfl,rfl⟩
theorem ResV.r1 {P : Program} {σ : AS} {r : ResultVar} {d : DV} (h : ResOk P σ r d) : ResV P σ #[r] d:=.inr (.inl ⟨r,rfl,h⟩)
theorem ResV.r2 {P : Program} {σ : AS} {r r' : ResultVar} {x x' : DV} (h : ResOk P σ r x) (h' : ResOk P σ r' x') : ResV P σ #[r,r'] (.tup [x,x']):=.inr (.inr (.inl ⟨r,r',x,x',rfl,rfl,h,h'⟩))
theorem ResV.r3 {P : Program} {σ : AS} {r r' r'' : ResultVar} {x x' x'' : DV} (h : ResOk P σ r x) (h' : ResOk P σ r' x') (h'' : ResOk P σ r'' x'') : ResV P σ #[r,r',r''] (.tup [x,x',x'']):=.inr (.inr (.inr ⟨r,r',r'',x,x',x'',rfl,rfl,h,h',h''⟩))
theorem ResV.run {P : Program} {σ : AS} {C : Ctx} {F : FMap} {γ : Gam} {a : Act} {w : World} (hs : Sat C F γ σ a w) {fn : Func} {d : DV} (h : ResV P σ fn.results d) : ∃ v,(results fn a.tmps).run P w = .ok v w∧Rs F γ d v:=by
 rcases h with ⟨h,rfl⟩ | ⟨r,h,h1⟩ | ⟨r,r',x,x',h,rfl,h1,h2⟩ | ⟨r,r',r'',x,x',x'',h,rfl,h1,h2,h3⟩
 ·exact ⟨_,results0 h,by simp only [Rs,RsT]; exact ⟨#[],rfl,rfl⟩⟩
 ·obtain ⟨v,k1,k2⟩ := h1.run hs
  exact ⟨v,results1 h k1,k2⟩
 ·obtain ⟨v,k1,k2⟩ := h1.run hs
  obtain ⟨v',k1',k2'⟩ := h2.run hs
  exact ⟨_,results2 h k1 k1',by simp only [Rs,RsT]; exact ⟨_,rfl,v,_,rfl,k2,v',_,rfl,k2',rfl⟩⟩
 ·obtain ⟨v,k1,k2⟩ := h1.run hs
  obtain ⟨v',k1',k2'⟩ := h2.run hs
  obtain ⟨v'',k1'',k2''⟩ := h3.run hs
  exact ⟨_,results3 h k1 k1' k1'',by simp only [Rs,RsT]; exact ⟨_,rfl,v,_,rfl,k2,v',_,rfl,k2',v'',_,rfl,k2'',rfl⟩⟩
def params : Nat→List DV→List (Nat × DV)
 | _,[]=>[]
 | i,d :: ds=>(i,d) :: params (i + 1) ds
theorem look_params : ∀ (ds : List DV) (i t : Nat) (d : DV),look (params i ds) t = some d→∃ j,t = i + j∧ds[j]? = some d
 | [],i,t,d,h=>by simp [params,look] at h
 | d0 :: ds,i,t,d,h=>by
  rw [params,look_cons] at h
  by_cases e : i = t
  ·rw [if_pos e] at h; exact ⟨0,by omega,by simpa using h⟩
  ·rw [if_neg e] at h
   obtain ⟨j,h1,h2⟩ := look_params ds (i + 1) t d h
   exact ⟨j + 1,by omega,by simpa using h2⟩
theorem RsT.len {F : FMap} {γ : Gam} : ∀ {ds : List DV} {vs : List Value},RsT F γ ds vs→vs.length = ds.length
 | [],vs,h=>by simp only [RsT] at h; rw [h]; rfl
 | d :: ds,vs,h=>by
  simp only [RsT] at h
  obtain ⟨v,rest,rfl,_,h⟩ := h
  simp [RsT.len h]
theorem RsT.get {F : FMap} {γ : Gam} : ∀ {ds : List DV} {vs : List Value} {i : Nat} {d : DV},RsT F γ ds vs→ds[i]? = some d→∃ v,vs[i]? = some v∧Rs F γ d v
 | [],vs,i,d,h,hi=>by simp at hi
 | d0 :: ds,vs,0,d,h,hi=>by
  simp only [RsT] at h
  obtain ⟨v,rest,rfl,h2,h⟩ := h
  simp at hi; subst hi
  exact ⟨v,rfl,h2⟩
 | d0 :: ds,vs,i + 1,d,h,hi=>by
  simp only [RsT] at h
  obtain ⟨v,rest,rfl,h2,h⟩ := h
  simpa using RsT.get h (by simpa using hi)
theorem params_sat {F : FMap} {γ : Gam} {args : List DV} {vs : List Value} (h : RsT F γ args vs) {n : Nat} (hn : args.length≤n) :
  ∀ t d,look (params 0 args) t = some d→t < n∧Rs F γ d ((vs.toArray++Array.replicate (n - vs.toArray.size) undef).getD t undef):=by
 intro t d ht
 obtain ⟨j,rfl,hj⟩ := look_params args 0 t d ht
 obtain ⟨v,k1,k2⟩ := h.get hj
 rw [Nat.zero_add]
 have hlt : j < args.length:=by
  rcases Nat.lt_or_ge j args.length with h | h
  ·exact h
  ·rw [List.getElem?_eq_none h] at hj; cases hj
 refine ⟨by omega,?_⟩
 have hv : j < vs.length:=by rw [h.len]; exact hlt
 have : (vs.toArray++Array.replicate (n - vs.toArray.size) undef).getD j undef = v:=by
  rw [Array.getD_eq_getD_getElem?,Array.getElem?_append_left (by simpa using hv)]
  simp [k1]
 rw [this]; exact k2
def BPost (P : Program) (rs : Array ResultVar) (res : DV) (post : Heap) : Exit→AS→Prop
 | .ret,σ | .normal,σ=>∃ d,ResV P σ rs d∧DLe d res∧∀ i e,hget post i = some e→hget σ.heap i = some e
 | _,_=>False
theorem PCall.of {P : Program} {fn : FuncId} {func : Func} {c : Code} {args : List DV} {r : DV} (hf : P.funcs[fn]? = some func) (hb : func.body = some c) {n : Nat} (hn : func.ntmps = n) {rs : Array ResultVar} (hrs : func.results = rs) (ha : args.length≤n) (hr : r.ids = [])
  (h : awp P n c (BPost P rs r []) ⟨params 0 args,[],[]⟩) : PCall P fn args r:=by
 subst hn hrs
 intro C F γ heap used w vs H hv
 have HE:=H.enter func.ntmps id [] (fun i e h=>by simp [hget,look] at h) (by simp) (by simp) (by simp) (fun i e h=>by simp [hget,look] at h)
 have hG : innerG γ id (List.map (·.1) ([] : Heap)) = Gam.no:=by funext i; simp [innerG,Gam.no]
 rw [hG] at HE
 refine (callsIn_wide (n:=0)).1 (callsIn_of_wp hf hb trivial ?_)
 have hs : Sat (inner w F func.ntmps γ id []) F Gam.no ⟨params 0 args,[],[]⟩ { tmps:=vs.toArray++Array.replicate (func.ntmps - vs.toArray.size) undef,defers:=[] } w :=
  ⟨params_sat hv ha,HE,by
   have:=hv.len
   simp [inner]; omega,rfl⟩
 refine wpIn_mono (h (inner w F func.ntmps γ id []) F Gam.no _ w rfl hs) ?_
 rintro e a' w' ⟨F',γ',σ',hs',hq⟩
 have main : (∃ d,ResV P σ' func.results d∧DLe d r∧∀ i e,hget [] i = some e→hget σ'.heap i = some e)→a'.defers = []∧∃ v,(results func a'.tmps).run P w' = .ok v w'∧(∃ v' F',Ending.returned v = .returned v'∧FLe F F'∧WS C F' γ heap used w'∧Rs F' Gam.no r v'):=by
  rintro ⟨d,h1,h2,_⟩
  obtain ⟨v,k1,k2⟩ := h1.run hs'
  obtain ⟨_,_,j⟩ := H.join (f:=id) (pre:=[]) (new:=[]) hs'.ws [] (by simp) (by simp) (by simp) (fun i e h=>by simp [hget,look] at h) (by simp) (by simp) (fun i e h=>by simp [hget,look] at h)
  refine ⟨hs'.defers,v,k1,v,F',rfl,hs'.ws.f0,?_,Rs_ids r v (by rw [hr]; simp) (h2 _ _ _ k2)⟩
  have hg : outerG γ γ' id [] = γ:=by funext i; unfold outerG; cases γ i <;> rfl
  rw [hg] at j
  simpa [renH] using j
 cases e with
 | ret=>exact main hq
 | normal=>exact main hq
 | exit id=>exact hq.elim
 | goto l=>exact hq.elim
 | panic c=>exact hq.elim
 | outgrown=>exact hq.elim
def conOk (K : Con) : Bool :=
 K.pre.all (fun p=>p.2.isSome && Nat.ble 100000 p.1) && (K.pre.map (·.1)).all (fun i=>(K.post.map (·.1)).any (Nat.beq i)) && (K.post.map (·.1)).all (fun i=>(K.pre.map (·.1)++K.new).any (Nat.beq i)) &&
 K.pre.all (fun p=>match p.2 with
  | some e=>e.ids.all fun x=>(K.pre.map (·.1)).any (Nat.beq x)
  | none=>true) &&
 K.post.all (fun p=>match p.2 with
  | some e=>e.ids.all fun x=>(K.pre.map (·.1)++K.new).any (Nat.beq x)
  | none=>true) && (idsL K.args).all (fun x=>(K.pre.map (·.1)).any (Nat.beq x)) && K.res.ids.all (fun x=>(K.pre.map (·.1)++K.new).any (Nat.beq x))
theorem any_beq {l : List Nat} {x : Nat} (h : l.any (Nat.beq x) = true) : x∈l:=by
 obtain ⟨y,hy,he⟩ := List.any_eq_true.1 h
 rw [Nat.eq_of_beq_eq_true he]; exact hy
theorem look_mem {α : Type} : ∀ {l : List (Nat × α)} {i : Nat} {x : α},look l i = some x→(i,x)∈l
 | [],i,x,h=>by simp [look] at h
 | (k,y) :: l,i,x,h=>by
  rw [look_cons] at h
  by_cases e : k = i
  ·rw [if_pos e] at h; injection h with h; subst h; subst e; simp
  ·rw [if_neg e] at h; exact List.mem_cons_of_mem _ (look_mem h)
theorem hget_mem {h : Heap} {i : Nat} {e : HE} (hh : hget h i = some e) : (i,some e)∈h:=by
 unfold hget at hh
 split at hh
 ·rename_i x hx; injection hh with hh; subst hh; exact look_mem hx
 ·cases hh
theorem ACall.of {P : Program} {fn : FuncId} {func : Func} {c : Code} {K : Con} (hf : P.funcs[fn]? = some func) (hb : func.body = some c) {n : Nat} (hn : func.ntmps = n) {rs : Array ResultVar} (hrs : func.results = rs) (ha : K.args.length≤n) (hok : conOk K = true)
  (h : awp P n c (BPost P rs K.res K.post) ⟨params 0 K.args,K.pre,K.pre.map (·.1)⟩) : ACall P fn K:=by
 subst hn hrs
 simp only [conOk,Bool.and_eq_true,List.all_eq_true] at hok
 obtain ⟨⟨⟨⟨⟨⟨o1,o2⟩,o3⟩,o4⟩,o5⟩,o6⟩,o7⟩ := hok
 intro C F γ heap used w vs f hpre hnew hinj H hv
 have keyE : ∀ i∈K.pre.map (·.1),∃ e,hget K.pre i = some e:=by
  intro i hi
  obtain ⟨x,hx⟩ := look_some hi
  have:=o1 _ (look_mem hx)
  simp only [Bool.and_eq_true] at this
  have:=this.1
  obtain ⟨e,he⟩ := Option.isSome_iff_exists.1 this
  exact ⟨e,by simp [hget,hx,he]⟩
 have HE:=H.enter func.ntmps f K.pre hpre keyE (fun i hi=>by
  obtain ⟨x,hx⟩ := look_some hi
  have:=o1 _ (look_mem hx)
  simp only [Bool.and_eq_true] at this
  exact Nat.le_of_ble_eq_true this.2) (fun i hi j hj=>hinj i (List.mem_append_left _ hi) j (List.mem_append_left _ hj)) (fun i e he x hx=>by
  have:=o4 _ (hget_mem he)
  simp only [List.all_eq_true] at this
  exact any_beq (this x hx))
 have hv' : RsT F (innerG γ f (K.pre.map (·.1))) K.args vs:=(RsT_ren f K.args vs (fun i hi=>(if_pos (any_beq (o6 i hi)) : innerG γ f (K.pre.map (·.1)) i = γ (f i)).symm)).1 hv
 refine (callsIn_wide (n:=0)).1 (callsIn_of_wp hf hb trivial ?_)
 have hs : Sat (inner w F func.ntmps γ f (K.pre.map (·.1))) F (innerG γ f (K.pre.map (·.1))) ⟨params 0 K.args,K.pre,K.pre.map (·.1)⟩ { tmps:=vs.toArray++Array.replicate (func.ntmps - vs.toArray.size) undef,defers:=[] } w :=
  ⟨params_sat hv' ha,HE,by
   have:=hv'.len
   simp [inner]; omega,rfl⟩
 refine wpIn_mono (h _ F _ _ w rfl hs) ?_
 rintro e a' w' ⟨F',γ',σ',hs',hq⟩
 have main : (∃ d,ResV P σ' func.results d∧DLe d K.res∧∀ i e,hget K.post i = some e→hget σ'.heap i = some e)→a'.defers = []∧∃ v,(results func a'.tmps).run P w' = .ok v w' ∧
   (∃ v' F' γ',Ending.returned v = .returned v'∧FLe F F'∧GLe γ γ'∧WS C F' γ' (renH f K.post++heap) (K.new.map f++used) w'∧Rs F' γ' (K.res.ren f) v'):=by
  rintro ⟨d,h1,h2,h3⟩
  obtain ⟨v,k1,k2⟩ := h1.run hs'
  obtain ⟨j1,j2,j3⟩ := H.join (f:=f) (new:=K.new) hs'.ws K.post (fun i hi=>by
    obtain ⟨e,he⟩ := keyE i hi
    exact ⟨_,hpre i e he⟩) hnew hinj h3 (fun i hi=>any_beq (o2 i hi)) (fun i hi=>any_beq (o3 i hi)) (fun i e he x hx=>by
    have:=o5 _ (hget_mem he)
    simp only [List.all_eq_true] at this
    exact any_beq (this x hx))
  exact ⟨hs'.defers,v,k1,v,F',_,rfl,hs'.ws.f0,j1,j3,(Rs_ren f K.res v (fun i hi=>j2 i (any_beq (o7 i hi)))).2 (h2 _ _ _ k2)⟩
 cases e with
 | ret=>exact main hq
 | normal=>exact main hq
 | exit id=>exact hq.elim
 | goto l=>exact hq.elim
 | panic c=>exact hq.elim
 | outgrown=>exact hq.elim
theorem ACall.body {P : Program} {fn : FuncId} {func : Func} {c : Code} {args : List DV} {pre post : Heap} {res : DV} {new : List Nat} (hf : P.funcs[fn]? = some func) {n : Nat} (hn : func.ntmps = n) (hb : func.body = some c) {rs : Array ResultVar} (hrs : func.results = rs) (ha : Nat.ble args.length n = true) (hok : conOk ⟨args,pre,res,post,new⟩ = true)
  (h : awp P n c (BPost P rs res post) ⟨params 0 args,pre,pre.map (·.1)⟩) : ACall P fn ⟨args,pre,res,post,new⟩ := ACall.of hf hb hn hrs (Nat.le_of_ble_eq_true ha) hok h
theorem PCall.body {P : Program} {fn : FuncId} {func : Func} {c : Code} {args : List DV} {r : DV} (hf : P.funcs[fn]? = some func) {n : Nat} (hn : func.ntmps = n) (hb : func.body = some c) {rs : Array ResultVar} (hrs : func.results = rs) (ha : Nat.ble args.length n = true) (hr : r.ids = [])
  (h : awp P n c (BPost P rs r []) ⟨params 0 args,[],[]⟩) : PCall P fn args r:=PCall.of hf hb hn hrs (Nat.le_of_ble_eq_true ha) hr h
theorem a_post {P : Program} {rs : Array ResultVar} {res d : DV} {post : Heap} {σ : AS} (h : ResV P σ rs d) (hle : DLe d res) (hp : ∀ i e,hget post i = some e→hget σ.heap i = some e) : BPost P rs res post .ret σ := ⟨d,h,hle,hp⟩
inductive PostOk (h : Heap) : Heap→Prop
 | nil : PostOk h []
 | cons {i : Nat} {e : HE} {r : Heap} (he : hget h i = some e) (k : PostOk h r) : PostOk h ((i,some e) :: r)
 | gone {i : Nat} {r : Heap} (k : PostOk h r) : PostOk h ((i,none) :: r)
theorem PostOk.consE {h : Heap} {i : Nat} {e e' : HE} {r : Heap} (he : hget h i = some e') (heq : e' = e) (k : PostOk h r) : PostOk h ((i,some e) :: r):=.cons (heq ▸ he) k
theorem DLe.of_eq {d d' : DV} (h : d = d') : DLe d d' := h ▸ DLe.refl d
theorem PostOk.spec {h p : Heap} (k : PostOk h p) : ∀ i e,hget p i = some e→hget h i = some e:=by
 induction k with
 | nil=>intro i e he; simp [hget,look] at he
 | cons he k ih=>
  intro i e hi
  rw [hget_cons] at hi
  split at hi
  ·rename_i e1; subst e1; injection hi with hi; subst hi; exact he
  ·exact ih i e hi
 | gone k ih=>
  intro i e hi
  rw [hget_cons] at hi
  split at hi
  ·cases hi
  ·exact ih i e hi
end Go.Proofs.YtepkcbalmjnhpaaGreatDoor
/-! ### part I -/
/-
 My engine,part I: the rules of the operations on numbers,structs,variables.
-/
namespace Go.Proofs.YtepkcbalmjnhpaaGreatDoor
open Go.RowKit
theorem Sat.put {C : Ctx} {F : FMap} {γ : Gam} {σ : AS} {a : Act} {w : World} (H : Sat C F γ σ a w) {t : Nat} (ht : t < C.n) {d : DV} {v : Value} (hd : Rs F γ d v) : Sat C F γ ⟨(t,d) :: σ.env,σ.heap,σ.used⟩ (a.put (some t) v) w where
 env:=fun t' d' h=>by
  simp only at h
  rw [look_cons] at h
  by_cases e : t = t'
  ·rw [if_pos e] at h; injection h with h; subst h; subst e
   have : t < a.tmps.size:=by rw [H.size]; exact ht
   refine ⟨ht,?_⟩
   simpa [Act.put,this] using hd
  ·rw [if_neg e] at h
   refine ⟨(H.env t' d' h).1,?_⟩
   have:=(H.env t' d' h).2
   simpa [Act.put,Array.getElem?_setIfInBounds_ne e] using this
 ws:=H.ws
 size:=by simpa [Act.put] using H.size
 defers:=H.defers
theorem Sat.mono {C : Ctx} {F F' : FMap} {γ γ' : Gam} {σ : AS} {a : Act} {w w' : World} (H : Sat C F γ σ a w) (hF : FLe F F') (hg : GLe γ γ') {heap : Heap} {used : List Nat} (hw : WS C F' γ' heap used w') : Sat C F' γ' ⟨σ.env,heap,used⟩ a w' :=
 ⟨fun t d h=>⟨(H.env t d h).1,(H.env t d h).2.mono hF hg⟩,hw,H.size,H.defers⟩
theorem ev_agree {rt : List Nat} {e e' : List (Nat × DV)} (h : ∀ t∈rt,look e' t = look e t) {x : Operand} (hx : ∀ t∈tm x,t∈rt) : ev e' x = ev e x:=by
 cases x with
 | tmp t=>exact h t (hx t (by simp [tm]))
 | const v=>rfl
 | func f=>rfl
 | global g=>rfl
section
variable {P : Program} {ops : Array Oper} {σ : AS}
theorem OpG.gen {o : Oper} {rt rh : List Nat} {t : Nat} {d : DV} {hp : Heap} {nw : List Nat} (hg : o.guard = none) (hdst : o.dst = some t)
  (h : ∀ (C : Ctx) (F : FMap) (γ : Gam) (σ' : AS) (a : Act) (w : World),(∀ t∈rt,look σ'.env t = look σ.env t)→(∀ id∈rh,hget σ'.heap id = hget σ.heap id)→(∀ id∈nw,id ∉ σ'.used)→Sat C F γ σ' a w →
   ∃ v w' F' γ',(execOp a.eval o).run P w = .ok (.value v) w'∧FLe F F'∧GLe γ γ'∧WS C F' γ' (hp++σ'.heap) (nw++σ'.used) w'∧Rs F' γ' d v) : OpG P ops o rt rh σ ⟨[(t,d)],hp,nw⟩ := by
 intro C F γ σ' a w h1 h2 h3 h4 hs K Q hK
 have hw : Region.wanted o (yielded ops a.tmps) = true:=by simp [Region.wanted,hg]
 rw [if_pos hw]
 obtain ⟨v,w',F',γ',k1,k2,k3,k4,k5⟩ := h C F γ σ' a w h1 h2 h3 hs
 refine wpIn_of_val k1 ?_
 rw [hdst]
 exact hK F' γ' _ _ k2 ((hs.mono k2 k3 k4).put (h4 t hdst) k5)
theorem OpG.val {o : Oper} {rt rh : List Nat} {t : Nat} {d : DV} (hg : o.guard = none) (hdst : o.dst = some t)
  (h : ∀ (C : Ctx) (F : FMap) (γ : Gam) (σ' : AS) (a : Act) (w : World),(∀ t∈rt,look σ'.env t = look σ.env t)→(∀ id∈rh,hget σ'.heap id = hget σ.heap id)→Sat C F γ σ' a w →
   ∃ v,(execOp a.eval o).run P w = .ok (.value v) w∧Rs F γ d v) : OpG P ops o rt rh σ ⟨[(t,d)],[],[]⟩ :=
 OpG.gen hg hdst fun C F γ σ' a w h1 h2 _ hs=>by
  obtain ⟨v,k1,k2⟩ := h C F γ σ' a w h1 h2 hs
  exact ⟨v,w,F,γ,k1,FLe.refl _,GLe.refl _,hs.ws,k2⟩
theorem OpG.skip {o : Oper} {rt rh : List Nat} {hp : Heap} (hg : o.guard = none) (hdst : o.dst = none)
  (h : ∀ (C : Ctx) (F : FMap) (γ : Gam) (σ' : AS) (a : Act) (w : World),(∀ t∈rt,look σ'.env t = look σ.env t)→(∀ id∈rh,hget σ'.heap id = hget σ.heap id)→Sat C F γ σ' a w →
   ∃ w',(execOp a.eval o).run P w = .ok .skip w'∧WS C F γ (hp++σ'.heap) σ'.used w') : OpG P ops o rt rh σ ⟨[],hp,[]⟩ := by
 intro C F γ σ' a w h1 h2 h3 h4 hs K Q hK
 have hw : Region.wanted o (yielded ops a.tmps) = true:=by simp [Region.wanted,hg]
 rw [if_pos hw]
 obtain ⟨w',k1,k2⟩ := h C F γ σ' a w h1 h2 hs
 refine wpIn_of_skip k1 ?_
 simp only [hdst,Act.put]
 exact hK F γ _ _ (FLe.refl _) (hs.mono (FLe.refl _) (GLe.refl _) k2)
variable {t : Nat} {ty : TypeId} {pos : String} {af : Array Edge}
theorem o_move {x : Operand} {d : DV} (hx : ev σ.env x = some d) : OpG P ops ⟨some t,.move x,ty,pos,af,none⟩ (tm x) [] σ ⟨[(t,d)],[],[]⟩ :=
 OpG.val rfl rfl fun C F γ σ' a w h1 _ hs=>⟨_,rfl,hs.ev ((ev_agree h1 (fun _ h=>h)).trans hx)⟩
theorem o_assign {x : Operand} {d : DV} (hx : ev σ.env x = some d) : OpG P ops ⟨some t,.assign x,ty,pos,af,none⟩ (tm x) [] σ ⟨[(t,d)],[],[]⟩ :=
 OpG.val rfl rfl fun C F γ σ' a w h1 _ hs=>⟨_,rfl,hs.ev ((ev_agree h1 (fun _ h=>h)).trans hx)⟩
theorem ev2 {C : Ctx} {F : FMap} {γ : Gam} {σ' : AS} {a : Act} {w : World} {x y : Operand} {d e : DV} (hs : Sat C F γ σ' a w) (h1 : ∀ t∈tm x++tm y,look σ'.env t = look σ.env t) (hx : ev σ.env x = some d) (hy : ev σ.env y = some e) : Rs F γ d (a.eval x)∧Rs F γ e (a.eval y) :=
 ⟨hs.ev ((ev_agree h1 (fun _ h=>List.mem_append_left _ h)).trans hx),hs.ev ((ev_agree h1 (fun _ h=>List.mem_append_right _ h)).trans hy)⟩
def bitI (op : BinOp) (k : IntKind) (x y : Int) : Int :=
 let a:=BitVec.ofInt k.bits x
 let b:=BitVec.ofInt k.bits y
 match op with
 | .and=>k.wrap (a &&& b).toNat
 | .or=>k.wrap (a ||| b).toNat
 | .xor=>k.wrap (a ^^^ b).toNat
 | _=>k.wrap (a &&& ~~~b).toNat
def intOp (op : BinOp) (k : IntKind) (a b : Int) : Option DV:=match op with
 | .add=>some (.int k (k.wrap (a + b)))
 | .sub=>some (.int k (k.wrap (a - b)))
 | .mul=>some (.int k (k.wrap (a * b)))
 | .and=>some (.int k (bitI .and k a b))
 | .or=>some (.int k (bitI .or k a b))
 | .xor=>some (.int k (bitI .xor k a b))
 | .andNot=>some (.int k (bitI .andNot k a b))
 | .eql=>some (.bool (a == b))
 | .neq=>some (.bool (a != b))
 | .lss=>some (.bool (decide (a < b)))
 | .leq=>some (.bool (decide (a≤b)))
 | .gtr=>some (.bool (decide (b < a)))
 | .geq=>some (.bool (decide (b≤a)))
 | _=>none
def DV.scal : DV→Value
 | .int k n=>.int k n
 | .bool b=>.bool b
 | _=>undef
theorem run_intOp {op : BinOp} {k : IntKind} {a b : Int} {d : DV} (h : intOp op k a b = some d) (T : TypeId) (x y : Operand) (w : World) :
  (do eqGuard op T x y (.int k a) (.int k b); binOp op T (.int k a) (.int k b) : Sem Value).run P w = .ok d.scal w:=by
 cases op <;> simp only [intOp,Option.some.injEq,reduceCtorEq] at h <;> subst h <;> cases k <;> rfl
theorem rs_intOp {op : BinOp} {k : IntKind} {a b : Int} {d : DV} (h : intOp op k a b = some d) (F : FMap) (γ : Gam) : Rs F γ d d.scal:=by
 cases op <;> simp only [intOp,Option.some.injEq,reduceCtorEq] at h <;> subst h <;> simp only [Rs,DV.scal]
theorem o_int {op : BinOp} {T T' : TypeId} {x y : Operand} {k : IntKind} {a b : Int} {d : DV} (hx : ev σ.env x = some (.int k a)) (hy : ev σ.env y = some (.int k b)) (hd : intOp op k a b = some d) :
  OpG P ops ⟨some t,.binOp op T x y T',ty,pos,af,none⟩ (tm x++tm y) [] σ ⟨[(t,d)],[],[]⟩ :=
 OpG.val rfl rfl fun C F γ σ' ac w h1 _ hs=>by
  obtain ⟨k1,k2⟩ := ev2 hs h1 hx hy
  simp only [Rs] at k1 k2
  have r1:=run_intOp (P:=P) hd T x y w
  refine ⟨d.scal,?_,rs_intOp hd F γ⟩
  simp only [execOp,k1,k2,Sem.run_bind] at r1 ⊢
  rw [r1]; rfl
@[reducible] def InR (k : IntKind) (n : Int) : Prop:=match k with
 | .i8=>-128≤n∧n≤127
 | .i16=>-32768≤n∧n≤32767
 | .i32=>-2147483648≤n∧n≤2147483647
 | .i64=>-9223372036854775808≤n∧n≤9223372036854775807
 | .u8=>0≤n∧n≤255
 | .u16=>0≤n∧n≤65535
 | .u32=>0≤n∧n≤4294967295
 | .u64=>0≤n∧n≤18446744073709551615
theorem wrap_in {k : IntKind} {n : Int} (h : InR k n) : k.wrap n = n:=by
 cases k <;> simp only [InR] at h <;> simp [IntKind.wrap,IntKind.signed,IntKind.bits] <;> omega
theorem o_add {T T' : TypeId} {x y : Operand} {k : IntKind} {a b : Int} (hx : ev σ.env x = some (.int k a)) (hy : ev σ.env y = some (.int k b)) (hr : InR k (a + b)) :
  OpG P ops ⟨some t,.binOp .add T x y T',ty,pos,af,none⟩ (tm x++tm y) [] σ ⟨[(t,.int k (a + b))],[],[]⟩ := o_int hx hy (by rw [intOp,wrap_in hr])
theorem o_sub {T T' : TypeId} {x y : Operand} {k : IntKind} {a b : Int} (hx : ev σ.env x = some (.int k a)) (hy : ev σ.env y = some (.int k b)) (hr : InR k (a - b)) :
  OpG P ops ⟨some t,.binOp .sub T x y T',ty,pos,af,none⟩ (tm x++tm y) [] σ ⟨[(t,.int k (a - b))],[],[]⟩ := o_int hx hy (by rw [intOp,wrap_in hr])
theorem o_mul {T T' : TypeId} {x y : Operand} {k : IntKind} {a b : Int} (hx : ev σ.env x = some (.int k a)) (hy : ev σ.env y = some (.int k b)) (hr : InR k (a * b)) :
  OpG P ops ⟨some t,.binOp .mul T x y T',ty,pos,af,none⟩ (tm x++tm y) [] σ ⟨[(t,.int k (a * b))],[],[]⟩ := o_int hx hy (by rw [intOp,wrap_in hr])
theorem o_shr {T T' : TypeId} {x y : Operand} {k k' : IntKind} {a b : Int} (hx : ev σ.env x = some (.int k a)) (hy : ev σ.env y = some (.int k' b)) (hr : 0≤b) :
  OpG P ops ⟨some t,.binOp .shr T x y T',ty,pos,af,none⟩ (tm x++tm y) [] σ ⟨[(t,.int k (a.fdiv (2 ^ min b.toNat k.bits)))],[],[]⟩ :=
 OpG.val rfl rfl fun C F γ σ' ac w h1 _ hs=>by
  obtain ⟨k1,k2⟩ := ev2 hs h1 hx hy
  simp only [Rs] at k1 k2
  have hb : ¬ b < 0:=by omega
  exact ⟨.int k (a.fdiv (2 ^ min b.toNat k.bits)),by simp [execOp,k1,k2,eqGuard,binOp,Op.shift,hb],by simp only [Rs]⟩
theorem o_shl {T T' : TypeId} {x y : Operand} {k k' : IntKind} {a b : Int} (hx : ev σ.env x = some (.int k a)) (hy : ev σ.env y = some (.int k' b)) (hr : 0≤b) :
  OpG P ops ⟨some t,.binOp .shl T x y T',ty,pos,af,none⟩ (tm x++tm y) [] σ ⟨[(t,.int k (k.wrap (a * 2 ^ min b.toNat k.bits)))],[],[]⟩ :=
 OpG.val rfl rfl fun C F γ σ' ac w h1 _ hs=>by
  obtain ⟨k1,k2⟩ := ev2 hs h1 hx hy
  simp only [Rs] at k1 k2
  have hb : ¬ b < 0:=by omega
  exact ⟨.int k (k.wrap (a * 2 ^ min b.toNat k.bits)),by simp [execOp,k1,k2,eqGuard,binOp,Op.shift,hb],by simp only [Rs]⟩
theorem o_not {T : TypeId} {x : Operand} {b : Bool} (hx : ev σ.env x = some (.bool b)) : OpG P ops ⟨some t,.unOp .not T x,ty,pos,af,none⟩ (tm x) [] σ ⟨[(t,.bool (!b))],[],[]⟩ :=
 OpG.val rfl rfl fun C F γ σ' ac w h1 _ hs=>by
  have k1:=hs.ev ((ev_agree h1 (fun _ h=>h)).trans hx)
  simp only [Rs] at k1
  exact ⟨.bool (!b),by simp [execOp,k1,Op.unary],by simp only [Rs]⟩
theorem o_xor {T : TypeId} {x : Operand} {k : IntKind} {n : Int} (hx : ev σ.env x = some (.int k n)) : OpG P ops ⟨some t,.unOp .xor T x,ty,pos,af,none⟩ (tm x) [] σ ⟨[(t,.int k (bitI .xor k (if k.signed then -1 else k.max) n))],[],[]⟩ :=
 OpG.val rfl rfl fun C F γ σ' ac w h1 _ hs=>by
  have k1:=hs.ev ((ev_agree h1 (fun _ h=>h)).trans hx)
  simp only [Rs] at k1
  exact ⟨_,by simp [execOp,k1,Op.unary,Op.intBits]; rfl,by simp only [Rs]; rfl⟩
class TInt (P : Program) (t : TypeId) (k : outParam IntKind) : Prop where
 h : P.underlying t = some (.int k)
theorem o_conv_w {S T : TypeId} {x : Operand} {k k' k0 : IntKind} {n : Int} [TInt P S k0] [hT : TInt P T k'] (hx : ev σ.env x = some (.int k n)) : OpG P ops ⟨some t,.convert S T x,ty,pos,af,none⟩ (tm x) [] σ ⟨[(t,.int k' (k'.wrap n))],[],[]⟩ :=
 OpG.val rfl rfl fun C F γ σ' ac w h1 _ hs=>by
  have k1:=hs.ev ((ev_agree h1 (fun _ h=>h)).trans hx)
  simp only [Rs] at k1
  exact ⟨_,by simp [execOp,k1,convert,run_underlying (TInt.h (P:=P) (t:=S)),run_underlying (TInt.h (P:=P) (t:=T)),Conv.intToInt]; rfl,by simp only [Rs]⟩
theorem o_conv {S T : TypeId} {x : Operand} {k k' k0 : IntKind} {n : Int} [TInt P S k0] [hT : TInt P T k'] (hx : ev σ.env x = some (.int k n)) (hr : InR k' n) : OpG P ops ⟨some t,.convert S T x,ty,pos,af,none⟩ (tm x) [] σ ⟨[(t,.int k' n)],[],[]⟩ := by
 have:=o_conv_w (P:=P) (ops:=ops) (σ:=σ) (t:=t) (ty:=ty) (pos:=pos) (af:=af) (S:=S) (T:=T) hx
 rw [wrap_in hr] at this; exact this
theorem o_extract {x : Operand} {i : Nat} {ds : List DV} {d : DV} (hx : ev σ.env x = some (.tup ds)) (hd : ds[i]? = some d) : OpG P ops ⟨some t,.extract x i,ty,pos,af,none⟩ (tm x) [] σ ⟨[(t,d)],[],[]⟩ :=
 OpG.val rfl rfl fun C F γ σ' ac w h1 _ hs=>by
  have k1:=hs.ev ((ev_agree h1 (fun _ h=>h)).trans hx)
  simp only [Rs] at k1
  obtain ⟨cs,e,hl⟩ := k1
  obtain ⟨v,hv,hr⟩ := hl.get hd
  refine ⟨v,?_,hr⟩
  have : cs[i]? = some v:=by simpa using hv
  simp [execOp,e,Instr.extract,this]
theorem o_or {c x : Operand} {b d : Bool} (hc : ev σ.env c = some (.bool b)) (hx : ev σ.env x = some (.ifb (!b) (.bool d))) : OpG P ops ⟨some t,.pick c (.const (.bool true)) x,ty,pos,af,none⟩ (tm c++tm x) [] σ ⟨[(t,.bool (b || d))],[],[]⟩ :=
 OpG.val rfl rfl fun C F γ σ' ac w h1 _ hs=>by
  obtain ⟨k1,k2⟩ := ev2 hs h1 hc hx
  simp only [Rs] at k1 k2
  cases b
  ·have:=k2.1 rfl
   exact ⟨.bool (false || d),by simp [execOp,k1,this,asBool],by simp only [Rs]⟩
  ·exact ⟨.bool (true || d),by simp [execOp,k1,asBool,show ac.eval (.const (.bool true)) = .bool true from rfl],by simp only [Rs]⟩
theorem o_and {c x : Operand} {b d : Bool} (hc : ev σ.env c = some (.bool b)) (hx : ev σ.env x = some (.ifb b (.bool d))) : OpG P ops ⟨some t,.pick c x (.const (.bool false)),ty,pos,af,none⟩ (tm c++tm x) [] σ ⟨[(t,.bool (b && d))],[],[]⟩ :=
 OpG.val rfl rfl fun C F γ σ' ac w h1 _ hs=>by
  obtain ⟨k1,k2⟩ := ev2 hs h1 hc hx
  simp only [Rs] at k1 k2
  cases b
  ·exact ⟨.bool (false && d),by simp [execOp,k1,asBool,show ac.eval (.const (.bool false)) = .bool false from rfl],by simp only [Rs]⟩
  ·have:=k2.1 rfl
   exact ⟨.bool (true && d),by simp [execOp,k1,this,asBool],by simp only [Rs]⟩
end
end Go.Proofs.YtepkcbalmjnhpaaGreatDoor
/-! ### part J -/
/-
 My engine,part J: the rules of the operations on memory,guards,calls.
-/
namespace Go.Proofs.YtepkcbalmjnhpaaGreatDoor
open Go.RowKit
class CSc (P : Program) (t : TypeId) : Prop where
 h : TSc P t
class CRow (P : Program) (t : TypeId) (n : outParam Nat) : Prop where
 h : TRow P t n
class CSize (P : Program) (t : TypeId) (n : outParam Nat) : Prop where
 h : (P.info? t).map (·.size) = some n
class CZero (P : Program) (t : TypeId) (zs : outParam (List DV)) : Prop where
 h : ((P.info? t).bind (·.zero)).map (fun z=>z.cells.toList.map constDV) = some zs
class CFld (P : Program) (t : TypeId) (i : Nat) (off n : outParam Nat) (ft : outParam TypeId) : Prop where
 h : ∃ fs f,P.underlying t = some (.struct fs)∧fs[i]? = some f∧f.type = ft∧f.offset = off
 s : (P.info? ft).map (·.size) = some n
 p : 0 < n
theorem constDV_rsL (F : FMap) (γ : Gam) : ∀ (l : List Value),(∀ u∈l,u.oneCell' = true)→RsL F γ (l.map constDV) l
 | [],_=>by simp [RsL]
 | v :: l,h=>by
  simp only [List.map_cons,RsL]
  exact ⟨v,l,rfl,h v (by simp),constDV_rs _ _ _,constDV_rsL F γ l (fun u hu=>h u (by simp [hu]))⟩
theorem head_drop {α : Type} (l : List α) (n : Nat) : (l.drop n).head? = l[n]? := by
 rw [List.head?_eq_getElem?,List.getElem?_drop,Nat.add_zero]
section
variable {P : Program} {ops : Array Oper} {σ : AS} {t : Nat} {ty : TypeId} {pos : String} {af : Array Edge}
theorem o_box {T : TypeId} {x : Operand} {d : DV} (hx : ev σ.env x = some d) (hf : d.flat = true) : OpG P ops ⟨some t,.box T x,ty,pos,af,none⟩ (tm x) [] σ ⟨[(t,.ref t 0)],[(t,some (.blk T d.cs))],[t]⟩ :=
 OpG.gen rfl rfl fun C F γ σ' a w h1 _ h3 hs=>by
  have k1:=hs.ev ((ev_agree h1 (fun _ h=>h)).trans hx)
  have hn : t ∉ σ'.used:=h3 t (by simp)
  refine ⟨.pointer (some ⟨w.heap.size,0,none⟩),w.alloc (.cells (a.eval x).cells T),F,γ.up t (.pointer (some ⟨w.heap.size,0,none⟩)),?_,FLe.refl _,Gam.up_le _ (hs.ws.fresh hn),?_,?_⟩
  ·simp [execOp,Instr.box,newVar,newRow]
  ·refine hs.ws.addNew hn _ (fun b hb=>by simp [Value.pblk] at hb; exact hb.symm) ?_
   exact ⟨w.heap.size,_,rfl,heap_alloc_new w _,RsL.cs k1 hs.ws.gone hf⟩
  ·simp only [Rs]; exact ⟨w.heap.size,by simp [Gam.up],rfl⟩
theorem o_alloc {T : TypeId} {zs : List DV} [hz : CZero P T zs] (ho : (zs.all DV.one) = true) : OpG P ops ⟨some t,.alloc T,ty,pos,af,none⟩ [] [] σ ⟨[(t,.ref t 0)],[(t,some (.blk T zs))],[t]⟩ :=
 OpG.gen rfl rfl fun C F γ σ' a w h1 _ h3 hs=>by
  have hn : t ∉ σ'.used:=h3 t (by simp)
  have hz' := hz.h
  cases hq : P.info? T with
  | none=>simp [hq] at hz'
  | some i=>
   cases hz2 : i.zero with
   | none=>simp [hq,hz2] at hz'
   | some z=>
    simp only [hq,hz2,Option.bind_some,Option.map_some,Option.some.injEq] at hz'
    have hone : ∀ u∈z.cells.toList,u.oneCell' = true:=by
     intro u hu
     have:=List.all_eq_true.1 ho (constDV u) (by rw [← hz']; exact List.mem_map.2 ⟨u,hu,rfl⟩)
     exact (constDV_rs F γ u).one hs.ws.gone this
    refine ⟨.pointer (some ⟨w.heap.size,0,none⟩),w.alloc (.cells z.cells T),F,γ.up t (.pointer (some ⟨w.heap.size,0,none⟩)),?_,FLe.refl _,Gam.up_le _ (hs.ws.fresh hn),?_,?_⟩
    ·simp [execOp,Instr.alloc,zeroValue,typeInfo,hq,hz2,newVar,newRow]
    ·refine hs.ws.addNew hn _ (fun b hb=>by simp [Value.pblk] at hb; exact hb.symm) ?_
     exact ⟨w.heap.size,_,rfl,heap_alloc_new w _,by rw [← hz']; exact constDV_rsL F γ _ hone⟩
    ·simp only [Rs]; exact ⟨w.heap.size,by simp [Gam.up],rfl⟩
theorem rs_ref {C : Ctx} {F : FMap} {γ : Gam} {σ' : AS} {a : Act} {w : World} (hs : Sat C F γ σ' a w) {id off T : Nat} {ds : List DV} {v : Value} (hv : Rs F γ (.ref id off) v) (hh : hget σ'.heap id = some (.blk T ds)) :
  ∃ b cs,v = .pointer (some ⟨b,off,none⟩)∧γ id = some (.pointer (some ⟨b,0,none⟩))∧w.heap[b]? = some (.cells cs T (0,0))∧RsL F γ ds cs.toList:=by
 obtain ⟨g,hg,b,cs,rfl,hb,hl⟩ := hs.ws.ent id _ hh
 simp only [Rs] at hv
 obtain ⟨b',hb',h5⟩ := hv
 rw [hg] at hb'; injection hb' with hb'; injection hb' with hb'; injection hb' with hb'; injection hb' with hb' _ _
 subst hb'
 exact ⟨b,cs,h5,hg,hb,hl⟩
theorem o_load_ref {T' : TypeId} {x : Operand} {id off T : Nat} {ds : List DV} {d : DV} (hx : ev σ.env x = some (.ref id off)) (hh : hget σ.heap id = some (.blk T ds)) (hd : LoadD P T' (ds.drop off) d) :
  OpG P ops ⟨some t,.load T' x,ty,pos,af,none⟩ (tm x) [id] σ ⟨[(t,d)],[],[]⟩ :=
 OpG.val rfl rfl fun C F γ σ' a w h1 h2 hs=>by
  have k1:=hs.ev ((ev_agree h1 (fun _ h=>h)).trans hx)
  obtain ⟨b,cs,e,hg,hb,hl⟩ := rs_ref hs k1 ((h2 id (by simp)).trans hh)
  obtain ⟨v,r1,r2,_⟩ := load_rs hd (blk_range hb off) (hl.drop off)
  exact ⟨v,by simp [execOp,e,Instr.loadAt,Instr.sureAddr,r1],r2⟩
theorem o_load_s {T' : TypeId} {x : Operand} {id off T : Nat} {ds : List DV} {d : DV} [hT : CSc P T'] (hx : ev σ.env x = some (.ref id off)) (hh : hget σ.heap id = some (.blk T ds)) (hd : ds[off]? = some d) :
  OpG P ops ⟨some t,.load T' x,ty,pos,af,none⟩ (tm x) [id] σ ⟨[(t,d)],[],[]⟩ := o_load_ref hx hh (.sc hT.h (by rw [head_drop]; exact hd))
theorem o_load_r {T' : TypeId} {x : Operand} {id off T n : Nat} {ds ds' : List DV} [hT : CRow P T' n] (hx : ev σ.env x = some (.ref id off)) (hh : hget σ.heap id = some (.blk T ds)) (hn : Nat.ble n (ds.drop off).length = true) (hd : (ds.drop off).take n = ds') :
  OpG P ops ⟨some t,.load T' x,ty,pos,af,none⟩ (tm x) [id] σ ⟨[(t,.agg ds')],[],[]⟩ := o_load_ref hx hh (.row n hT.h (Nat.le_of_ble_eq_true hn) (by rw [hd]))
theorem rs_eptr {C : Ctx} {F : FMap} {γ : Gam} {σ' : AS} {a : Act} {w : World} (hs : Sat C F γ σ' a w) {ds : List DV} {v : Value} (hv : Rs F γ (.eptr ds) v) :
  ∃ b o vs,v = .pointer (some ⟨b,o,none⟩)∧w.rangeAt b o vs∧RsL F γ ds vs:=by
 simp only [Rs] at hv
 obtain ⟨b,o,cs,vs,rest,rfl,hb,hd,hl⟩ := hv
 obtain ⟨t,fz,h1⟩ := hs.ws.fs b cs hb
 refine ⟨b,o,vs,rfl,fun j v hv=>?_,hl.mono (FLe.refl _) (GLe.no _)⟩
 have:=blk_range h1 o
 rw [hd] at this
 exact this j v (by rw [List.getElem?_append_left]; exact hv; exact (List.getElem?_eq_some_iff.1 hv).1)
theorem o_load_e {T' : TypeId} {x : Operand} {ds : List DV} {d : DV} (hx : ev σ.env x = some (.eptr ds)) (hd : LoadD P T' ds d) :
  OpG P ops ⟨some t,.load T' x,ty,pos,af,none⟩ (tm x) [] σ ⟨[(t,d)],[],[]⟩ :=
 OpG.val rfl rfl fun C F γ σ' a w h1 h2 hs=>by
  have k1:=hs.ev ((ev_agree h1 (fun _ h=>h)).trans hx)
  obtain ⟨b,o,vs,e,hr,hl⟩ := rs_eptr hs k1
  obtain ⟨v,r1,r2,_⟩ := load_rs hd hr hl
  exact ⟨v,by simp [execOp,e,Instr.loadAt,Instr.sureAddr,r1],r2⟩
theorem o_load_es {T' : TypeId} {x : Operand} {ds : List DV} {d : DV} [hT : CSc P T'] (hx : ev σ.env x = some (.eptr ds)) (hd : ds.head? = some d) :
  OpG P ops ⟨some t,.load T' x,ty,pos,af,none⟩ (tm x) [] σ ⟨[(t,d)],[],[]⟩ := o_load_e hx (.sc hT.h hd)
theorem o_load_er {T' : TypeId} {x : Operand} {n : Nat} {ds ds' : List DV} [hT : CRow P T' n] (hx : ev σ.env x = some (.eptr ds)) (hn : Nat.ble n ds.length = true) (hd : ds.take n = ds') :
  OpG P ops ⟨some t,.load T' x,ty,pos,af,none⟩ (tm x) [] σ ⟨[(t,.agg ds')],[],[]⟩ := o_load_e hx (.row n hT.h (Nat.le_of_ble_eq_true hn) (by rw [hd]))
theorem part_rs {T' : TypeId} {ds : List DV} {off : Nat} {d : DV} {F : FMap} {γ : Gam} {cs : Array Value} (hd : LoadD P T' (ds.drop off) d) (hl : RsL F γ ds cs.toList) (w : World) : ∃ v,(part T' cs off).run P w = .ok v w∧Rs F γ d v:=by
 have hl' := hl.drop off
 rcases hd with ⟨n,⟨dd,hu,hrow,hi⟩,hn,rfl⟩ | ⟨⟨dd,hu,hrow,hi⟩,hh⟩
 ·have hagg : (isAgg T').run P w = .ok true w:=by
   unfold isAgg
   rw [Sem.run_bind,run_underlying hu w]
   cases dd <;> simp_all
  cases hq : P.info? T' with
  | none=>simp [hq] at hi
  | some i=>
   have hs : i.size = n:=by simpa [hq] using hi
   refine ⟨.agg (cs.extract off (off + n)),?_,?_⟩
   ·simp [part,Sem.run_bind,hagg,sizeOf,typeInfo,hq,hs]
   ·simp only [Rs]
    refine ⟨_,rfl,?_⟩
    have:=hl'.take n
    have e : (cs.extract off (off + n)).toList = (cs.toList.drop off).take n:=by simp
    rw [e]; exact this
 ·have hagg : (isAgg T').run P w = .ok false w:=by
   unfold isAgg
   rw [Sem.run_bind,run_underlying hu w]
   cases dd <;> simp_all
  rw [head_drop] at hh
  obtain ⟨v,h1,h2,h3⟩ := hl.get hh
  have : cs[off]? = some v:=by simpa using h1
  exact ⟨v,by simp [part,Sem.run_bind,hagg,this],h3⟩
theorem o_field {T : TypeId} {i off n : Nat} {ft : TypeId} [hF : CFld P T i off n ft] {x : Operand} {ds : List DV} {d : DV} (hx : ev σ.env x = some (.agg ds)) (hd : LoadD P ft (ds.drop off) d) :
  OpG P ops ⟨some t,.field T x i,ty,pos,af,none⟩ (tm x) [] σ ⟨[(t,d)],[],[]⟩ :=
 OpG.val rfl rfl fun C F γ σ' a w h1 h2 hs=>by
  have k1:=hs.ev ((ev_agree h1 (fun _ h=>h)).trans hx)
  simp only [Rs] at k1
  obtain ⟨cs,e,hl⟩ := k1
  obtain ⟨fs,f,hu,hf,rfl,rfl⟩ := hF.h
  obtain ⟨v,r1,r2⟩ := part_rs hd hl w
  exact ⟨v,by simp [execOp,e,Instr.field,run_underlying hu,hf,asAgg,r1],r2⟩
theorem o_field_s {T : TypeId} {i off n : Nat} {ft : TypeId} [hF : CFld P T i off n ft] [hT : CSc P ft] {x : Operand} {ds : List DV} {d : DV} (hx : ev σ.env x = some (.agg ds)) (hd : ds[off]? = some d) :
  OpG P ops ⟨some t,.field T x i,ty,pos,af,none⟩ (tm x) [] σ ⟨[(t,d)],[],[]⟩ := o_field hx (.sc hT.h (by rw [head_drop]; exact hd))
theorem run_fieldAt {T : TypeId} {i off n : Nat} {ft : TypeId} [hF : CFld P T i off n ft] (b o : Nat) (w : World) : (Instr.fieldAt T (.pointer (some ⟨b,o,none⟩)) i).run P w = .ok (.pointer (some ⟨b,o + off,none⟩)) w:=by
 obtain ⟨fs,f,hu,hf,rfl,rfl⟩ := hF.h
 have hs:=hF.s
 have hp:=hF.p
 cases hq : P.info? f.type with
 | none=>simp [hq] at hs
 | some i'=>
  have e : i'.size = n:=by simpa [hq] using hs
  have hne : ¬ n = 0:=by omega
  by_cases h0 : f.offset = 0
  ·simp [Instr.fieldAt,run_underlying hu,hf,Instr.sureAddr,fieldPlace,sizeOf,typeInfo,hq,e,hne,Addr.add,h0]
  ·simp [Instr.fieldAt,run_underlying hu,hf,Instr.sureAddr,fieldPlace,sizeOf,typeInfo,hq,e,hne,Addr.add,h0]
theorem o_fieldAddr {T : TypeId} {i fo n : Nat} {ft : TypeId} [hF : CFld P T i fo n ft] {x : Operand} {id off : Nat} (hx : ev σ.env x = some (.ref id off)) : OpG P ops ⟨some t,.fieldAddr T x i,ty,pos,af,none⟩ (tm x) [] σ ⟨[(t,.ref id (off + fo))],[],[]⟩ :=
 OpG.val rfl rfl fun C F γ σ' a w h1 h2 hs=>by
  have k1:=hs.ev ((ev_agree h1 (fun _ h=>h)).trans hx)
  simp only [Rs] at k1
  obtain ⟨b,hg,e⟩ := k1
  refine ⟨_,by simp [execOp,e,run_fieldAt]; rfl,?_⟩
  simp only [Rs]; exact ⟨b,hg,rfl⟩
theorem o_fieldAddr_e {T : TypeId} {i fo n : Nat} {ft : TypeId} [hF : CFld P T i fo n ft] {x : Operand} {ds ds' : List DV} (hx : ev σ.env x = some (.eptr ds)) (hd : ds.drop fo = ds') : OpG P ops ⟨some t,.fieldAddr T x i,ty,pos,af,none⟩ (tm x) [] σ ⟨[(t,.eptr ds')],[],[]⟩ :=
 OpG.val rfl rfl fun C F γ σ' a w h1 h2 hs=>by
  have k1:=hs.ev ((ev_agree h1 (fun _ h=>h)).trans hx)
  simp only [Rs] at k1
  obtain ⟨b,o,cs,vs,rest,e,hb,h3,hl⟩ := k1
  refine ⟨_,by simp [execOp,e,run_fieldAt]; rfl,?_⟩
  simp only [Rs]
  have h5:=hl.drop fo
  rw [hd] at h5
  by_cases hle : fo≤vs.length
  ·refine ⟨b,o + fo,cs,vs.drop fo,rest,rfl,hb,?_,h5⟩
   rw [← List.drop_drop,h3,List.drop_append_of_le_length hle]
  ·refine ⟨b,o + fo,cs,[],cs.toList.drop (o + fo),rfl,hb,by simp,?_⟩
   rw [List.drop_of_length_le (by omega)] at h5; exact h5
theorem o_fieldAddr_p {T : TypeId} {i fo n : Nat} {ft : TypeId} [hF : CFld P T i fo n ft] {x : Operand} {id j sz o : Nat} (hx : ev σ.env x = some (.rp id j sz o)) : OpG P ops ⟨some t,.fieldAddr T x i,ty,pos,af,none⟩ (tm x) [] σ ⟨[(t,.rp id j sz (o + fo))],[],[]⟩ :=
 OpG.val rfl rfl fun C F γ σ' a w h1 h2 hs=>by
  have k1:=hs.ev ((ev_agree h1 (fun _ h=>h)).trans hx)
  simp only [Rs] at k1
  obtain ⟨b,n,c,hg,e⟩ := k1
  refine ⟨_,by simp [execOp,e,run_fieldAt]; rfl,?_⟩
  simp only [Rs]; exact ⟨b,n,c,hg,by rw [Nat.add_assoc]⟩
theorem o_nilCheck {x : Operand} {id off : Nat} (hx : ev σ.env x = some (.ref id off)) : OpG P ops ⟨some t,.nilCheck x,ty,pos,af,none⟩ (tm x) [] σ ⟨[(t,.ref id off)],[],[]⟩ :=
 OpG.val rfl rfl fun C F γ σ' a w h1 h2 hs=>by
  have k1:=hs.ev ((ev_agree h1 (fun _ h=>h)).trans hx)
  have k2:=k1
  simp only [Rs] at k1
  obtain ⟨b,hg,e⟩ := k1
  exact ⟨.pointer (some ⟨b,off,none⟩),by simp [execOp,e],by rw [e] at k2; exact k2⟩
theorem run_store_any {w : World} {g o : Nat} {T : TypeId} {cur : Array Value} (T' : TypeId) (v : Value) (hB : w.heap[g]? = some (.cells cur T (0,0))) (hi : (P.info? T').map (·.size) = some v.cells.size) (hfit : o + v.cells.size≤cur.size)
  (h1 : ∀ u∈v.cells.toList,u.oneCell' = true) : (storeVar T' ⟨g,o,none⟩ v).run P w = .ok () (w.setRow g (lay cur o v.cells.toList)):=by
 have hst:=run_storeCells_at P g o T v.cells.toList 0 cur w hB (by simpa using hfit) h1
 cases hq : P.info? T' with
 | none=>simp [hq] at hi
 | some i=>
  have hs : v.cells.size = i.size:=by simp [hq] at hi; omega
  simp only [Nat.add_zero] at hst
  simp [storeVar,sizeOf,typeInfo,hq,hs,hst,lay]
def layD (ds : List DV) (o : Nat) (cs : List DV) : List DV:=ds.take o++cs++ds.drop (o + cs.length)
theorem lay_list (cur : Array Value) (o : Nat) (cs : List Value) : (lay cur o cs).toList = cur.toList.take o++cs++cur.toList.drop (o + cs.length):=by
 unfold lay; simp
theorem Stp.setRow {w : World} {g : Nat} (cs : Array Value) {cur : Array Value} {T : TypeId} {fz : Nat × Nat} (h : w.heap[g]? = some (.cells cur T fz)) : Stp w (w.setRow g cs) (some g)∧(w.setRow g cs).heap[g]? = some (.cells cs T fz) :=
 ⟨⟨rfl,rfl,rfl,by simp,fun k _ hk=>setRow_other w g k _ (fun e=>hk (by rw [e]))⟩,setRow_heap w g cur _ T _ h⟩
theorem over_same (id : Nat) (e : Option HE) (h : Heap) (i : Nat) (e' : HE) (hi : hget ([(id,e)]++h) i = some e') : hget ((id,e) :: (id,none) :: h) i = some e' := by
 rw [List.singleton_append,hget_cons] at hi
 rw [hget_cons]
 by_cases hid : id = i
 ·rw [if_pos hid] at hi ⊢; exact hi
 ·rw [if_neg hid] at hi ⊢; rw [hget_cons,if_neg hid]; exact hi
theorem o_store {T' : TypeId} {x y : Operand} {id off T n : Nat} {ds ds' : List DV} {d : DV} [hT : CSize P T' n] (hx : ev σ.env x = some (.ref id off)) (hy : ev σ.env y = some d) (hh : hget σ.heap id = some (.blk T ds)) (hf : d.flat = true) (hn : Nat.beq n d.cs.length = true) (hl : Nat.ble (off + n) ds.length = true) (hd : layD ds off d.cs = ds') :
  OpG P ops ⟨none,.store T' x y,ty,pos,af,none⟩ (tm x++tm y) [id] σ ⟨[],[(id,some (.blk T ds'))],[]⟩ :=
 OpG.skip rfl rfl fun C F γ σ' a w h1 h2 hs=>by
  obtain ⟨k1,k2⟩ := ev2 hs h1 hx hy
  have hh' := (h2 id (by simp)).trans hh
  obtain ⟨b,cs,e,hg,hb,hrl⟩ := rs_ref hs k1 hh'
  have kc:=RsL.cs k2 hs.ws.gone hf
  have hn' : n = d.cs.length:=Nat.eq_of_beq_eq_true hn
  have hlen:=kc.len
  have hcl:=hrl.len
  have hle:=Nat.le_of_ble_eq_true hl
  have hrun:=run_store_any (P:=P) (o:=off) T' (a.eval y) hb (by rw [hT.h,hn',← hlen]; simp) (by simp at hlen hcl; omega) kc.one
  obtain ⟨s1,s2⟩ := Stp.setRow (lay cs off (a.eval y).cells.toList) hb
  refine ⟨_,by simp [execOp,e,Instr.storeAt,Instr.sureAddr,hrun]; rfl,?_⟩
  have W:=hs.ws.turn hh' hg (by simpa [Value.pblk] using s1)
  have W2:=W.put (id0:=id) (e0:=.blk T ds') hg ⟨b,_,rfl,s2,?_⟩ (fun b' hb'=>?_)
  ·exact W2.congr (fun i e hi=>over_same id _ _ i e hi) (fun _ h=>h)
  ·rw [lay_list,← hd,layD]
   rw [← hlen]
   exact ((hrl.take off).append kc).append (hrl.drop _)
  ·have ho:=hs.ws.own id _ _ b' hh' hg hb'
   refine ⟨ho.1,ho.2,fun i e g hne hi hgi hbi=>?_⟩
   rw [hget_cons] at hi
   split at hi
   ·cases hi
   ·exact hne (hs.ws.apart i id e _ g _ b' hi hh' hgi hg hbi hb')
end
end Go.Proofs.YtepkcbalmjnhpaaGreatDoor
/-! ### part K -/
/-
 My engine,part K: guards,calls,states that hold others.
-/
namespace Go.Proofs.YtepkcbalmjnhpaaGreatDoor
open Go.RowKit
inductive Strips : List (Nat × DV)→List Nat→List (Nat × DV)→Prop
 | nil {e : List (Nat × DV)} : Strips e [] e
 | keep {e e' : List (Nat × DV)} {t : Nat} {L : List Nat} (h : Strips e L e') : Strips e (t :: L) e'
 | strip {e e' : List (Nat × DV)} {t : Nat} {L : List Nat} {c : Bool} {d : DV} (h : look e t = some (.ifb c d)) (hc : c = true) (k : Strips e L e') : Strips e (t :: L) ((t,d) :: e')
def tmsOf (o : Op) : List Nat:=o.operands.toList.flatMap tm
theorem Strips.spec {e : List (Nat × DV)} {L : List Nat} {e' : List (Nat × DV)} (h : Strips e L e') : ∀ t,look e' t = look e t∨(t∈L∧∃ c d,c = true∧look e t = some (.ifb c d)∧look e' t = some d):=by
 induction h with
 | nil=>intro t; exact .inl rfl
 | keep h ih=>
  intro t
  rcases ih t with h | ⟨h1,h2⟩
  ·exact .inl h
  ·exact .inr ⟨List.mem_cons_of_mem _ h1,h2⟩
 | @strip e' t0 L c d h hc k ih=>
  intro t
  rw [look_cons]
  by_cases ht : t0 = t
  ·subst ht; rw [if_pos rfl]; exact .inr ⟨List.mem_cons_self ..,c,d,hc,h,rfl⟩
  ·rw [if_neg ht]
   rcases ih t with h | ⟨h1,h2⟩
   ·exact .inl h
   ·exact .inr ⟨List.mem_cons_of_mem _ h1,h2⟩
theorem look_pick (env : List (Nat × DV)) : ∀ (L : List Nat) (x : Nat),look (L.filterMap fun y=>(look env y).map (y,·)) x = if x∈L then look env x else none
 | [],x=>by simp [look]
 | y :: L,x=>by
  have ih:=look_pick env L x
  rw [List.filterMap_cons]
  cases hl : look env y with
  | none=>
   simp only [Option.map_none]
   rw [ih]
   by_cases hm : x∈L
   ·simp [hm]
   ·by_cases e : x = y
    ·subst e; simp [hl]
    ·simp [hm,e]
  | some d=>
   simp only [Option.map_some]
   rw [look_cons,ih]
   by_cases e : y = x
   ·subst e; simp [hl]
   ·have e' : ¬ x = y:=fun h=>e h.symm
    simp [e,e']
section
variable {P : Program} {ops : Array Oper} {σ : AS} {t : Nat} {ty : TypeId} {pos : String} {af : Array Edge}
theorem o_guard {op : Op} {g gt : Nat} {want b : Bool} {rt rh : List Nat} {d : DV} {env' : List (Nat × DV)} (hgo : (ops[g]?).bind (·.dst) = some gt) (hb : look σ.env gt = some (.bool b)) (hS : b = want→Strips σ.env (tmsOf op) env')
  (h : b = want→OpG P ops ⟨some t,op,ty,pos,af,none⟩ rt rh ⟨env',σ.heap,σ.used⟩ ⟨[(t,d)],[],[]⟩) : OpG P ops ⟨some t,op,ty,pos,af,some (g,want)⟩ (gt :: tmsOf op++rt) rh σ ⟨[(t,.ifb (b == want) d)],[],[]⟩ := by
 intro C F γ σ' a w h1 h2 h3 h4 hs K Q hK
 have hb' : look σ'.env gt = some (.bool b):=(h1 gt (by simp)).trans hb
 have hsl:=(hs.env gt _ hb').2
 have hlt:=(hs.env gt _ hb').1
 simp only [Rs] at hsl
 have hy : yielded ops a.tmps g = some b:=by
  unfold yielded
  rw [hgo]
  have hsz : gt < a.tmps.size:=by rw [hs.size]; exact hlt
  simp only [Option.bind_some]
  rw [Array.getElem?_eq_getElem hsz]
  have : a.tmps[gt] = .bool b:=by simpa [Array.getD,hsz] using hsl
  rw [this]
 have hwant : Region.wanted ⟨some t,op,ty,pos,af,some (g,want)⟩ (yielded ops a.tmps) = (b == want):=by
  simp only [Region.wanted,hy]; cases b <;> cases want <;> rfl
 rw [hwant]
 have ht : t < C.n:=h4 t rfl
 by_cases hbw : b = want
 ·have hT : (b == want) = true:=by simp [hbw]
  rw [hT]
  simp only [if_true]
  have hst:=(hS hbw).spec
  obtain ⟨L,hL⟩ : ∃ L : List (Nat × DV),∀ x,look L x = if x∈tmsOf op then look env' x else none := ⟨_,look_pick env' (tmsOf op)⟩
  have hs2 : Sat C F γ ⟨L++σ'.env,σ'.heap,σ'.used⟩ a w:=by
   refine ⟨fun x dx hx=>?_,hs.ws,hs.size,hs.defers⟩
   simp only at hx
   rw [look_append,hL] at hx
   by_cases hm : x∈tmsOf op
   ·rw [if_pos hm] at hx
    have agree : look σ'.env x = look σ.env x:=h1 x (by simp [hm])
    rcases hst x with h | ⟨_,c,d',hc,k1,k2⟩
    ·rw [h,agree] at hx
     refine hs.env x dx (agree.trans ?_)
     cases hl : look σ.env x <;> simp_all
    ·rw [k2] at hx; simp at hx; subst hx
     have:=hs.env x _ (agree.trans k1)
     refine ⟨this.1,?_⟩
     have h5:=this.2
     simp only [Rs] at h5
     exact h5.1 hc
   ·rw [if_neg hm] at hx; exact hs.env x dx (by simpa using hx)
  have key:=h hbw C F γ ⟨L++σ'.env,σ'.heap,σ'.used⟩ a w (fun x hx=>?_) h2 (by simp) h4 hs2 K Q (fun F' γ' a' w' hF hs'=>hK F' γ' a' w' hF ?_)
  ·have hw : Region.wanted ⟨some t,op,ty,pos,af,none⟩ (yielded ops a.tmps) = true:=rfl
   rw [if_pos hw] at key
   exact key
  · -- what is read agrees
   simp only
   rw [look_append,hL]
   by_cases hm : x∈tmsOf op
   ·rw [if_pos hm]
    have agree : look σ'.env x = look σ.env x:=h1 x (by simp [hm])
    rcases hst x with h | ⟨_,c,d',hc,k1,k2⟩
    ·rw [agree,← h]; cases look env' x <;> rfl
    ·rw [k2]; rfl
   ·rw [if_neg hm]
    rcases hst x with h | ⟨hx',_⟩
    ·rw [h,← h1 x (by simp [hx])]; rfl
    ·exact absurd hx' hm
  · -- back to the state as it was
   refine ⟨fun x dx hx=>?_,hs'.ws.congr (fun _ _ h=>h) (fun _ h=>h),hs'.size,hs'.defers⟩
   simp only [AS.app,List.singleton_append] at hx
   rw [look_cons] at hx
   by_cases hxt : t = x
   ·rw [if_pos hxt] at hx; injection hx with hx; subst hx; subst hxt
    have:=hs'.env t d (by simp only [AS.app,List.singleton_append]; rw [look_cons,if_pos rfl])
    refine ⟨this.1,?_⟩
    simp only [Rs]
    exact ⟨fun _=>this.2,fun h=>by rw [hT] at h; cases h⟩
   ·rw [if_neg hxt] at hx
    have get : ∀ d1,(look L x).or (look σ'.env x) = some d1→x < C.n∧Rs F' γ' d1 (a'.tmps.getD x undef):=fun d1 h=>hs'.env x d1 (by simp only [AS.app,List.singleton_append]; rw [look_cons,if_neg hxt,look_append]; exact h)
    rw [hL] at get
    by_cases hm : x∈tmsOf op
    ·rw [if_pos hm] at get
     have agree : look σ'.env x = look σ.env x:=h1 x (by simp [hm])
     rcases hst x with h | ⟨_,c,d',hc,k1,k2⟩
     ·refine get dx ?_
      rw [h,← agree,hx]; rfl
     ·rw [agree,k1] at hx; injection hx with hx; subst hx
      have:=get d' (by rw [k2]; rfl)
      refine ⟨this.1,?_⟩
      simp only [Rs]
      exact ⟨fun _=>this.2,fun h=>by rw [hc] at h; cases h⟩
    ·rw [if_neg hm] at get
     exact get dx (by simpa using hx)
 ·have hT : (b == want) = false:=by simp [hbw]
  rw [hT]
  simp only [Bool.false_eq_true,if_false]
  refine hK F γ _ _ (FLe.refl _) (hs.put ht ?_)
  simp only [Rs]
  exact ⟨fun h=>(by rw [hT] at h; cases h),fun _=>trivial⟩
theorem o_guardT {op : Op} {g gt : Nat} {b : Bool} {rt rh : List Nat} {d : DV} {env' : List (Nat × DV)} (hgo : (ops[g]?).bind (·.dst) = some gt) (hb : look σ.env gt = some (.bool b)) (hS : b = true→Strips σ.env (tmsOf op) env')
  (h : b = true→OpG P ops ⟨some t,op,ty,pos,af,none⟩ rt rh ⟨env',σ.heap,σ.used⟩ ⟨[(t,d)],[],[]⟩) : OpG P ops ⟨some t,op,ty,pos,af,some (g,true)⟩ (gt :: tmsOf op++rt) rh σ ⟨[(t,.ifb b d)],[],[]⟩ := by
 have:=o_guard hgo hb hS h
 rwa [show (b == true) = b by cases b <;> rfl] at this
theorem o_guardF {op : Op} {g gt : Nat} {b : Bool} {rt rh : List Nat} {d : DV} {env' : List (Nat × DV)} (hgo : (ops[g]?).bind (·.dst) = some gt) (hb : look σ.env gt = some (.bool b)) (hS : b = false→Strips σ.env (tmsOf op) env')
  (h : b = false→OpG P ops ⟨some t,op,ty,pos,af,none⟩ rt rh ⟨env',σ.heap,σ.used⟩ ⟨[(t,d)],[],[]⟩) : OpG P ops ⟨some t,op,ty,pos,af,some (g,false)⟩ (gt :: tmsOf op++rt) rh σ ⟨[(t,.ifb (!b) d)],[],[]⟩ := by
 have:=o_guard hgo hb hS h
 rwa [show (b == false) = (!b) by cases b <;> rfl] at this
theorem nt {b : Bool} (h : b = false) : (!b) = true:=by rw [h]; rfl
def evL (e : List (Nat × DV)) : List Operand→Option (List DV)
 | []=>some []
 | x :: xs=>match ev e x,evL e xs with
  | some d,some ds=>some (d :: ds)
  | _,_=>none
theorem evL_agree {rt : List Nat} {e e' : List (Nat × DV)} (h : ∀ t∈rt,look e' t = look e t) : ∀ {xs : List Operand},(∀ t∈xs.flatMap tm,t∈rt)→evL e' xs = evL e xs
 | [],_=>rfl
 | x :: xs,hx=>by
  simp only [List.flatMap_cons,List.mem_append] at hx
  rw [evL,evL,ev_agree h (fun t ht=>hx t (.inl ht)),evL_agree h (fun t ht=>hx t (.inr ht))]
theorem Sat.evs {C : Ctx} {F : FMap} {γ : Gam} {σ : AS} {a : Act} {w : World} (H : Sat C F γ σ a w) : ∀ {xs : List Operand} {ds : List DV},evL σ.env xs = some ds→RsT F γ ds (xs.map a.eval)
 | [],ds,h=>by simp only [evL] at h; injection h with h; subst h; simp [RsT]
 | x :: xs,ds,h=>by
  simp only [evL] at h
  cases h1 : Proofs.YtepkcbalmjnhpaaGreatDoor.ev σ.env x with
  | none=>rw [h1] at h; cases h
  | some d=>
   cases h2 : evL σ.env xs with
   | none=>rw [h1,h2] at h; cases h
   | some ds'=>
    rw [h1,h2] at h; injection h with h; subst h
    simp only [List.map_cons,RsT]
    exact ⟨_,_,rfl,H.ev h1,H.evs h2⟩
class CFn (P : Program) (f : FuncId) : Prop where
 h : (P.funcs[f]?).map (fun fn=>(fn.name == "runtime.NumGoroutine",fn.body.isSome)) = some (false,true)
theorem run_callFunc {f : FuncId} [hf : CFn P f] (vs : Array Value) (w : World) : (callFunc f vs).run P w = .ok (.enter f vs) w:=by
 have:=hf.h
 cases hq : P.funcs[f]? with
 | none=>simp [hq] at this
 | some fn=>
  simp only [hq,Option.map_some,Option.some.injEq,Prod.mk.injEq] at this
  obtain ⟨h1,h2⟩ := this
  have h3 : ¬ fn.body = none:=by rintro e; rw [e] at h2; cases h2
  have h4 : ¬ fn.name = "runtime.NumGoroutine" := by simpa using h1
  simp [callFunc,program,Sem.run,hq,h3,h4]
theorem run_call {f : FuncId} [hf : CFn P f] (o : Oper) (xs : Array Operand) (ats : Array TypeId) (ho : o.op = .call ⟨.value (.func f),xs,ats⟩) (a : Act) (w : World) : (execOp a.eval o).run P w = .ok (.enter f (xs.map a.eval)) w:=by
 have : a.eval (.func f) = .func (.func f) #[] #[]:=rfl
 simp [execOp,ho,resolve,this,Deferred.ofValue,invoke,run_callFunc]
theorem o_call {f : FuncId} [hf : CFn P f] {xs : Array Operand} {ats : Array TypeId} {ds args : List DV} {r : DV} (hc : PCall P f args r) (ha : evL σ.env xs.toList = some ds) (hle : DLeL ds args) (hp : idsL args = []) :
  OpG P ops ⟨some t,.call ⟨.value (.func f),xs,ats⟩,ty,pos,af,none⟩ (xs.toList.flatMap tm) [] σ ⟨[(t,r)],[],[]⟩ := by
 intro C F γ σ' a w h1 h2 h3 h4 hs K Q hK
 simp only [Region.wanted,↓reduceIte]
 refine wpIn_of_enter (fun c hc=>by cases hc) (run_call _ xs ats rfl a w) ?_
 have hv:=hle.rsT (hs.evs ((evL_agree h1 (fun _ h=>h)).trans ha))
 have hv' : RsT F Gam.no args (xs.toList.map a.eval):=RsT_ids args _ (by rw [hp]; simp) hv
 have e : (xs.toList.map a.eval).toArray = xs.map a.eval:=by rw [← Array.toList_map]
 have:=hc C F γ σ'.heap σ'.used w _ hs.ws hv'
 rw [e] at this
 refine this.mono ?_
 rintro e w' ⟨v,F',rfl,k1,k2,k3⟩
 exact ⟨v,rfl,hK F' γ _ _ k1 ((hs.mono k1 (GLe.refl _) k2).put (h4 t rfl) (k3.mono (FLe.refl _) (GLe.no _)))⟩
inductive PreOk (f : Nat→Nat) (heap : Heap) : Heap→Prop
 | nil : PreOk f heap []
 | cons {i : Nat} {e : HE} {h : Heap} (he : hget heap (f i) = some (e.ren f)) (k : PreOk f heap h) : PreOk f heap ((i,some e) :: h)
theorem PreOk.spec {f : Nat→Nat} {heap h : Heap} (k : PreOk f heap h) : ∀ i e,hget h i = some e→hget heap (f i) = some (e.ren f):=by
 induction k with
 | nil=>intro i e he; simp [hget,look] at he
 | cons he k ih=>
  intro i e hi
  rw [hget_cons] at hi
  split at hi
  ·rename_i e1; subst e1; injection hi with hi; subst hi; exact he
  ·exact ih i e hi
def injOk (f : Nat→Nat) (l : List Nat) : Bool:=l.all fun i=>l.all fun j=>!Nat.beq (f i) (f j) || Nat.beq i j
theorem injOk_spec {f : Nat→Nat} {l : List Nat} (h : injOk f l = true) : ∀ i∈l,∀ j∈l,f i = f j→i = j:=by
 intro i hi j hj e
 have:=List.all_eq_true.1 (List.all_eq_true.1 h i hi) j hj
 rw [e] at this
 simp at this
 exact this
theorem o_callA {fn : FuncId} [hf : CFn P fn] {xs : Array Operand} {ats : Array TypeId} {K : Con} (f : Nat→Nat) (hc : ACall P fn K) {ds : List DV} (ha : evL σ.env xs.toList = some ds) (hle : DLeL ds (renL f K.args)) (hpre : PreOk f σ.heap K.pre) (hi : injOk f (K.pre.map (·.1)++K.new) = true) :
  OpG P ops ⟨some t,.call ⟨.value (.func fn),xs,ats⟩,ty,pos,af,none⟩ (xs.toList.flatMap tm) (K.pre.map (fun p=>f p.1)) σ ⟨[(t,K.res.ren f)],renH f K.post,K.new.map f⟩ := by
 intro C F γ σ' a w h1 h2 h3 h4 hs K' Q hK
 simp only [Region.wanted,↓reduceIte]
 refine wpIn_of_enter (fun c hc=>by cases hc) (run_call _ xs ats rfl a w) ?_
 have hv:=hle.rsT (hs.evs ((evL_agree h1 (fun _ h=>h)).trans ha))
 have e : (xs.toList.map a.eval).toArray = xs.map a.eval:=by rw [← Array.toList_map]
 have:=hc C F γ σ'.heap σ'.used w _ f (fun i e he=>by
  rw [h2 (f i) (List.mem_map.2 ⟨_,hget_mem he,rfl⟩)]; exact hpre.spec i e he) (fun i hin=>h3 (f i) (List.mem_map.2 ⟨i,hin,rfl⟩)) (injOk_spec hi) hs.ws hv
 rw [e] at this
 refine this.mono ?_
 rintro e w' ⟨v,F',γ',rfl,k1,k2,k3,k4⟩
 exact ⟨v,rfl,hK F' γ' _ _ k1 ((hs.mono k1 k2 k3).put (h4 t rfl) k4)⟩
end
end Go.Proofs.YtepkcbalmjnhpaaGreatDoor
/-! ### part L -/
/-
 My engine,part L: slices.
-/
namespace Go.Proofs.YtepkcbalmjnhpaaGreatDoor
open Go.RowKit
def zeroDV (z : Value) : DV:=match z with
 | .agg cs=>.agg (cs.toList.map constDV)
 | v=>constDV v
class CSl (P : Program) (t : TypeId) (e : outParam TypeId) (sz bytes : outParam Nat) (zd : outParam DV) : Prop where
 h : ∃ z,El P t e z sz bytes∧zeroDV z = zd
theorem CSl.und {P : Program} {t e : TypeId} {sz bytes : Nat} {zd : DV} (h : CSl P t e sz bytes zd) : P.underlying t = some (.slice e):=by obtain ⟨z,h,_⟩ := h.h; exact h.under
theorem CSl.size {P : Program} {t e : TypeId} {sz bytes : Nat} {zd : DV} (h : CSl P t e sz bytes zd) (w : World) : (sizeOf e).run P w = .ok sz w:=by
 obtain ⟨z,h,_⟩ := h.h
 obtain ⟨i,hi,_,hs,_⟩ := h.info
 simp [sizeOf,typeInfo,hi,hs]
section
variable {P : Program} {ops : Array Oper} {σ : AS} {t : Nat} {ty : TypeId} {pos : String} {af : Array Edge}
theorem run_len {T : TypeId} {e : TypeId} (hu : P.underlying T = some (.slice e)) (o : Oper) (x : Operand) (ho : o.op = .call ⟨.builtin .len,#[x],#[T]⟩) (a : Act) (w : World) {A : Option Addr} {n c : Nat} (hx : a.eval x = .slice A n c) : (execOp a.eval o).run P w = .ok (.value (.int .i64 n)) w:=by
 simp [execOp,ho,resolve,invoke,builtin,Builtin.len_,run_underlying hu,hx,goInt]
theorem o_len {T e : TypeId} {sz0 by0 : Nat} {zd : DV} [hT : CSl P T e sz0 by0 zd] {x : Operand} {sz : Nat} {els : List DV} (hx : ev σ.env x = some (.sl sz els)) : OpG P ops ⟨some t,.call ⟨.builtin .len,#[x],#[T]⟩,ty,pos,af,none⟩ (tm x) [] σ ⟨[(t,.int .i64 els.length)],[],[]⟩ :=
 OpG.val rfl rfl fun C F γ σ' a w h1 _ hs=>by
  have k1:=hs.ev ((ev_agree h1 (fun _ h=>h)).trans hx)
  simp only [Rs] at k1
  obtain ⟨A,c,e,_⟩ := k1
  exact ⟨.int .i64 els.length,run_len hT.und _ x rfl a w e,by simp only [Rs]⟩
theorem o_len_n {T e : TypeId} {sz0 by0 : Nat} {zd : DV} [hT : CSl P T e sz0 by0 zd] {x : Operand} (hx : ev σ.env x = some .nils) : OpG P ops ⟨some t,.call ⟨.builtin .len,#[x],#[T]⟩,ty,pos,af,none⟩ (tm x) [] σ ⟨[(t,.int .i64 0)],[],[]⟩ :=
 OpG.val rfl rfl fun C F γ σ' a w h1 _ hs=>by
  have k1:=hs.ev ((ev_agree h1 (fun _ h=>h)).trans hx)
  simp only [Rs] at k1
  exact ⟨.int .i64 0,run_len hT.und _ x rfl a w k1,by simp only [Rs]⟩
theorem rs_row {C : Ctx} {F : FMap} {γ : Gam} {σ' : AS} {a : Act} {w : World} (hs : Sat C F γ σ' a w) {id E sz : Nat} {els : List DV} {v : Value} (hv : Rs F γ (.row id) v) (hh : hget σ'.heap id = some (.row E sz els)) :
  ∃ A c vs,v = .slice A els.length c∧γ id = some v∧w.ownsRow 0 E sz v els.length vs∧RsE F sz els vs:=by
 obtain ⟨g,hg,vs,ho,hE⟩ := hs.ws.ent id _ hh
 simp only [Rs] at hv
 rw [hg] at hv; injection hv with hv; subst hv
 obtain ⟨A,c,e⟩ := own_form ho
 exact ⟨A,c,vs,e,hg,ho,hE⟩
theorem o_len_r {T e : TypeId} {sz0 by0 : Nat} {zd : DV} [hT : CSl P T e sz0 by0 zd] {x : Operand} {id E sz : Nat} {els : List DV} (hx : ev σ.env x = some (.row id)) (hh : hget σ.heap id = some (.row E sz els)) : OpG P ops ⟨some t,.call ⟨.builtin .len,#[x],#[T]⟩,ty,pos,af,none⟩ (tm x) [id] σ ⟨[(t,.int .i64 els.length)],[],[]⟩ :=
 OpG.val rfl rfl fun C F γ σ' a w h1 h2 hs=>by
  have k1:=hs.ev ((ev_agree h1 (fun _ h=>h)).trans hx)
  obtain ⟨A,c,vs,e,_⟩ := rs_row hs k1 ((h2 id (by simp)).trans hh)
  exact ⟨.int .i64 els.length,run_len hT.und _ x rfl a w e,by simp only [Rs]⟩
def Bd (σ : AS) (x : Option Operand) (dflt n : Nat) : Prop:=match x with
 | none=>n = dflt
 | some y=>∃ k,ev σ.env y = some (.int k (n : Int))
theorem Bd.no {σ : AS} {d : Nat} : Bd σ none d d:=rfl
theorem Bd.at {σ : AS} {y : Operand} {d n : Nat} {k : IntKind} {m : Int} (h : ev σ.env y = some (.int k m)) (hm : m = (n : Int)) : Bd σ (some y) d n := ⟨k,by rw [h,hm]⟩
def tmO : Option Operand→List Nat
 | none=>[]
 | some x=>tm x
theorem run_bound {k : IntKind} {n y : Nat} (h : n≤y) (cd : BoundsCode) (w : World) : (Instr.sliceBound (.int k (n : Int)) y cd).run P w = .ok n w:=by
 simp [Instr.sliceBound,asIntOf,h]
theorem run_bounds {C : Ctx} {F : FMap} {γ : Gam} {σ' : AS} {a : Act} {w : World} (hs : Sat C F γ σ' a w) {lo hi : Option Operand} {l h len cap : Nat} (hl : Bd σ' lo 0 l) (hh : Bd σ' hi len h) (h1 : l≤h) (h2 : h≤cap) :
  (Instr.sliceBounds true len cap (lo.map a.eval) (hi.map a.eval) none).run P w = .ok (l,h,cap) w:=by
 have e1 : ∀ x k n,ev σ'.env x = some (.int k n)→a.eval x = .int k n:=fun x k n hx=>by have:=hs.ev hx; simpa only [Rs] using this
 cases lo with
 | none=>
  cases hi with
  | none=>simp only [Bd] at hl hh; subst hl; subst hh; simp [Instr.sliceBounds]
  | some y=>
   obtain ⟨k,hk⟩ := hh
   simp only [Bd] at hl; subst hl
   simp [Instr.sliceBounds,e1 _ _ _ hk,run_bound h2]
 | some x=>
  obtain ⟨k',hk'⟩ := hl
  cases hi with
  | none=>simp only [Bd] at hh; subst hh; simp [Instr.sliceBounds,e1 _ _ _ hk',run_bound h1]
  | some y=>
   obtain ⟨k,hk⟩ := hh
   simp [Instr.sliceBounds,e1 _ _ _ hk,e1 _ _ _ hk',run_bound h2,run_bound h1]
theorem Bd.agree {rt : List Nat} {σ' : AS} (h : ∀ t∈rt,look σ'.env t = look σ.env t) {x : Option Operand} (hx : ∀ t∈tmO x,t∈rt) {d n : Nat} (hb : Bd σ x d n) : Bd σ' x d n:=by
 cases x with
 | none=>exact hb
 | some y=>obtain ⟨k,hk⟩ := hb; exact ⟨k,by rw [ev_agree h hx]; exact hk⟩
theorem o_slice {T e : TypeId} {sz by0 : Nat} {zd : DV} [hT : CSl P T e sz by0 zd] {x : Operand} {lo hi : Option Operand} {els : List DV} (l h : Nat) (hx : ev σ.env x = some (.sl sz els)) (hl : Bd σ lo 0 l) (hh : Bd σ hi els.length h) (h1 : l≤h) (h2 : h≤els.length) :
  OpG P ops ⟨some t,.slice T x lo hi none,ty,pos,af,none⟩ (tm x++tmO lo++tmO hi) [] σ ⟨[(t,.sl sz ((els.take h).drop l))],[],[]⟩ :=
 OpG.val rfl rfl fun C F γ σ' a w hag _ hs=>by
  have k1:=hs.ev ((ev_agree hag (fun _ h=>by simp [h])).trans hx)
  simp only [Rs] at k1
  obtain ⟨A,c,e,hok,hd⟩ := k1
  have hb:=run_bounds (P:=P) hs (hl.agree hag (fun _ h=>by simp [h])) (hh.agree hag (fun _ h=>by simp [h])) h1 (Nat.le_trans h2 hok.2.1)
  refine ⟨.slice (if c = l then A else A.map (·.add (l * sz))) (h - l) (c - l),?_,?_⟩
  ·simp [execOp,Instr.sliceAt,Instr.slice,run_underlying hT.und,e,hb,hT.size]
  ·simp only [Rs]
   have hlen : ((els.take h).drop l).length = h - l:=by simp; omega
   refine ⟨_,c - l,by rw [hlen],⟨fun hn=>?_,by have:=hok.2.1; rw [hlen]; omega,by have:=hok.2.2; omega⟩,fun hne=>?_⟩
   ·have hA : A = none:=by
     split at hn
     ·exact hn
     ·cases A <;> simp_all
    have:=hok.1 hA
    omega
   ·have hlt : l < h:=by
     rcases Nat.lt_or_ge l h with h | h
     ·exact h
     ·exact absurd (List.eq_nil_of_length_eq_zero (by omega)) hne
    have hne' : els≠[]:=by rintro rfl; simp at h2; omega
    obtain ⟨b,o,cs,vs,rest,rfl,hF,hcs,hE⟩ := hd hne'
    have hcl : ¬ c = l:=by have:=hok.2.1; omega
    have hvl:=hE.len
    have hmul : h * sz≤vs.length:=by rw [hvl]; exact Nat.mul_le_mul_right _ h2
    have hmul2 : l * sz≤h * sz:=Nat.mul_le_mul_right _ h1
    refine ⟨b,o + l * sz,cs,(vs.take (h * sz)).drop (l * sz),vs.drop (h * sz)++rest,?_,hF,?_,(hE.take h).drop l⟩
    ·simp only [hcl,if_false,Option.map_some,Addr.add]
     by_cases h0 : l * sz = 0 <;> simp [h0]
    ·rw [← List.drop_drop,hcs,List.drop_append_of_le_length (by omega)]
     rw [← List.append_assoc]
     congr 1
     rw [List.drop_take]
     have : vs.drop (l * sz) = (vs.drop (l * sz)).take (h * sz - l * sz)++(vs.drop (l * sz)).drop (h * sz - l * sz):=(List.take_append_drop _ _).symm
     rw [List.drop_drop,show l * sz + (h * sz - l * sz) = h * sz by omega] at this
     exact this
theorem o_indexAddr {T e : TypeId} {sz by0 : Nat} {zd : DV} [hT : CSl P T e sz by0 zd] {x y : Operand} {els : List DV} {k : IntKind} {n : Int} {d : DV} (i : Nat) (hx : ev σ.env x = some (.sl sz els)) (hy : ev σ.env y = some (.int k n)) (hn : n = (i : Int)) (hd : els[i]? = some d) (hf : d.flat = true) :
  OpG P ops ⟨some t,.indexAddr T x y,ty,pos,af,none⟩ (tm x++tm y) [] σ ⟨[(t,.eptr d.cs)],[],[]⟩ :=
 OpG.val rfl rfl fun C F γ σ' a w hag _ hs=>by
  obtain ⟨k1,k2⟩ := ev2 hs hag hx hy
  simp only [Rs] at k1 k2
  obtain ⟨A,c,e,hok,hdd⟩ := k1
  have hlt : i < els.length:=by
   rcases Nat.lt_or_ge i els.length with h | h
   ·exact h
   ·rw [List.getElem?_eq_none h] at hd; cases hd
  obtain ⟨b,o,cs,vs,rest,rfl,hF,hcs,hE⟩ := hdd (by rintro rfl; simp at hlt)
  subst hn
  obtain ⟨v,q1,q2,q3,q4⟩ := hE.get hd
  refine ⟨.pointer (some ⟨b,o + i * sz,none⟩),?_,?_⟩
  ·by_cases h0 : i * sz = 0
   ·simp [execOp,Instr.indexAt,e,k2,asIntOf,run_underlying hT.und,hlt,hT.size,Addr.add,h0]
   ·simp [execOp,Instr.indexAt,e,k2,asIntOf,run_underlying hT.und,hlt,hT.size,Addr.add,h0]
  ·simp only [Rs]
   have hvl:=hE.len
   have hm : (i + 1) * sz≤els.length * sz:=Nat.mul_le_mul_right _ hlt
   rw [Nat.succ_mul] at hm
   refine ⟨b,o + i * sz,cs,v.cells.toList,vs.drop (i * sz + sz)++rest,rfl,hF,?_,RsL.cs q4 GOne.no hf⟩
   rw [← List.drop_drop,hcs,List.drop_append_of_le_length (by omega),← q1,← List.append_assoc]
   congr 1
   rw [← List.drop_drop,List.take_append_drop]
theorem o_indexAddr_r {T e : TypeId} {sz by0 : Nat} {zd : DV} [hT : CSl P T e sz by0 zd] {x y : Operand} {id E : Nat} {els : List DV} {k : IntKind} {n : Int} (i : Nat) (hx : ev σ.env x = some (.row id)) (hh : hget σ.heap id = some (.row E sz els)) (hy : ev σ.env y = some (.int k n)) (hn : n = (i : Int)) (hi : i < els.length) :
  OpG P ops ⟨some t,.indexAddr T x y,ty,pos,af,none⟩ (tm x++tm y) [id] σ ⟨[(t,.rp id i sz 0)],[],[]⟩ :=
 OpG.val rfl rfl fun C F γ σ' a w hag h2 hs=>by
  obtain ⟨k1,k2⟩ := ev2 hs hag hx hy
  obtain ⟨A,c,vs,e,hg,ho,hE⟩ := rs_row hs k1 ((h2 id (by simp)).trans hh)
  simp only [Rs] at k2
  subst hn
  rcases ho.2 with ⟨h1,h0⟩ | ⟨b,cap,cur,h1,_,hb,r⟩
  ·omega
  ·rw [h1] at e hg
   injection e with e1 e2 e3; subst e1
   refine ⟨.pointer (some ⟨b,i * sz,none⟩),?_,?_⟩
   ·by_cases h0 : i * sz = 0
    ·simp [execOp,Instr.indexAt,h1,k2,asIntOf,run_underlying hT.und,hi,hT.size,Addr.add,h0]
    ·simp [execOp,Instr.indexAt,h1,k2,asIntOf,run_underlying hT.und,hi,hT.size,Addr.add,h0]
   ·simp only [Rs]; exact ⟨b,_,_,hg,by simp⟩
inductive Src (σ : AS) (sz : Nat) : DV→List DV→List Nat→Prop
 | sl {els : List DV} : Src σ sz (.sl sz els) els []
 | nils : Src σ sz .nils [] []
 | row {id E : Nat} {els : List DV} (h : hget σ.heap id = some (.row E sz els)) : Src σ sz (.row id) els [id]
theorem Src.read {C : Ctx} {F : FMap} {γ : Gam} {σ' : AS} {a : Act} {w : World} (hs : Sat C F γ σ' a w) {sz : Nat} {d : DV} {els : List DV} {rh : List Nat} (h : Src σ sz d els rh) (h2 : ∀ id∈rh,hget σ'.heap id = hget σ.heap id) {v : Value} (hv : Rs F γ d v) :
  ∃ A c vs,v = .slice A els.length c∧At w A vs∧RsE F sz els vs:=by
 cases h with
 | sl=>
  simp only [Rs] at hv
  obtain ⟨A,c,e,hok,hd⟩ := hv
  by_cases hne : els = []
  ·subst hne; exact ⟨A,c,[],e,At.nil _ _,by simp [RsE]⟩
  ·obtain ⟨b,o,cs,vs,rest,rfl,hF,hcs,hE⟩ := hd hne
   obtain ⟨t,fz,h1⟩ := hs.ws.fs b cs hF
   refine ⟨_,c,vs,e,At.mk (fun _=>⟨b,o,rfl,fun j v hv=>?_⟩),hE⟩
   have:=blk_range h1 o
   rw [hcs] at this
   exact this j v (by rw [List.getElem?_append_left]; exact hv; exact (List.getElem?_eq_some_iff.1 hv).1)
 | nils=>simp only [Rs] at hv; exact ⟨none,0,[],hv,At.nil _ _,by simp [RsE]⟩
 | row h=>
  obtain ⟨A,c,vs,e,_,ho,hE⟩ := rs_row hs hv ((h2 _ (by simp)).trans h)
  rw [e] at ho
  exact ⟨A,c,vs,e,At.of_own ho,hE⟩
theorem run_append {T : TypeId} (o : Oper) (x y : Operand) (ho : o.op = .call ⟨.builtin .append,#[x,y],#[T,T]⟩) (a : Act) (w : World) {vx vy v : Value} {w' : World} (hx : a.eval x = vx) (hy : a.eval y = vy) (hr : (Builtin.append_ #[T,T] o.type #[vx,vy]).run P w = .ok v w') : (execOp a.eval o).run P w = .ok (.value v) w' := by
 simp [execOp,ho,resolve,invoke,builtin,hx,hy,hr]
theorem o_append_n {T e : TypeId} {sz bytes : Nat} {zd : DV} [hT : CSl P T e sz bytes zd] {x y : Operand} {dy : DV} {ys : List DV} {rh : List Nat} (hx : ev σ.env x = some .nils) (hy : ev σ.env y = some dy) (hS : Src σ sz dy ys rh) (hb : ys.length * bytes≤140737488355328∧ys.length≤140737488355328) :
  OpG P ops ⟨some t,.call ⟨.builtin .append,#[x,y],#[T,T]⟩,ty,pos,af,none⟩ (tm x++tm y) rh σ ⟨[(t,.row t)],[(t,some (.row e sz ys))],[t]⟩ :=
 OpG.gen rfl rfl fun C F γ σ' a w hag h2 h3 hs=>by
  obtain ⟨k1,k2⟩ := ev2 hs hag hx hy
  simp only [Rs] at k1
  have hn : t ∉ σ'.used:=h3 t (by simp)
  obtain ⟨A,c,vs,ey,hat,hE⟩ := hS.read hs h2 k2
  obtain ⟨z,hEl,_⟩ := hT.h
  obtain ⟨A',c',w',hrun,ho,hg,hob⟩ := run_app (P:=P) w hEl ty 0 (.slice none 0 0) 0 [] (own_nil _ _ _ _) A ys.length c vs hE.len hat hE.one (by rw [Nat.zero_add]; exact hb.1) (by rw [Nat.zero_add]; exact hb.2) (Nat.zero_le _)
  rw [Nat.zero_add,List.nil_append] at ho
  have S : Stp w w' none:=Stp.of_grown (by simpa [Value.ownBlock] using hg)
  refine ⟨.slice A' (0 + ys.length) c',w',F,γ.up t (.slice A' ys.length c'),run_append _ x y rfl a w k1 ey hrun,FLe.refl _,Gam.up_le _ (hs.ws.fresh hn),?_,?_⟩
  ·refine (hs.ws.quiet S).add hn ⟨vs,ho,hE⟩ (fun b hb'=>?_)
   rw [pblk_row ho] at hb'
   have hbs : b = w.heap.size:=by
    rcases hob with h | h
    ·simp only [Value.ownBlock,Nat.zero_add] at h hb'; rw [hb'] at h; cases h
    ·simp only [Nat.zero_add] at h; rw [hb'] at h; injection h
   subst hbs
   refine ⟨?_,.inr hs.ws.size,fun id' e' g' hh hg' hb''=>?_⟩
   ·cases hF : F w.heap.size with
    | none=>rfl
    | some cs=>exact absurd (hs.ws.flt hF) (Nat.lt_irrefl _)
   ·obtain ⟨g1,q1,q2⟩ := hs.ws.ent id' e' hh
    rw [hg'] at q1; injection q1 with q1; subst q1
    exact absurd (q2.lt _ hb'') (Nat.lt_irrefl _)
  ·simp only [Rs,Nat.zero_add]; exact Gam.up_same _ _ _
theorem o_append {T e : TypeId} {sz bytes : Nat} {zd : DV} [hT : CSl P T e sz bytes zd] {x y : Operand} {id : Nat} {xs : List DV} {dy : DV} {ys : List DV} {rh : List Nat} (hx : ev σ.env x = some (.row id)) (hh : hget σ.heap id = some (.row e sz xs)) (hy : ev σ.env y = some dy) (hS : Src σ sz dy ys rh)
  (hb : (xs.length + ys.length) * bytes≤140737488355328∧xs.length + ys.length≤140737488355328) :
  OpG P ops ⟨some t,.call ⟨.builtin .append,#[x,y],#[T,T]⟩,ty,pos,af,none⟩ (tm x++tm y) (id :: rh) σ ⟨[(t,.row t)],[(t,some (.row e sz (xs++ys))),(id,none)],[t]⟩ :=
 OpG.gen rfl rfl fun C F γ σ' a w hag h2 h3 hs=>by
  obtain ⟨k1,k2⟩ := ev2 hs hag hx hy
  have hn : t ∉ σ'.used:=h3 t (by simp)
  have hh' := (h2 id (by simp)).trans hh
  obtain ⟨A0,c0,vs0,e0,hg0,ho0,hE0⟩ := rs_row hs k1 hh'
  obtain ⟨A,c,vs,ey,hat,hE⟩ := hS.read hs (fun i hi=>h2 i (by simp [hi])) k2
  obtain ⟨z,hEl,_⟩ := hT.h
  obtain ⟨A',c',w',hrun,ho,hg,hob⟩ := run_app (P:=P) w hEl ty 0 _ xs.length vs0 ho0 A ys.length c vs hE.len hat hE.one hb.1 hb.2 (Nat.zero_le _)
  have S : Stp w w' (Value.pblk (a.eval x)):=by rw [pblk_row ho0]; exact Stp.of_grown hg
  refine ⟨.slice A' (xs.length + ys.length) c',w',F,γ.up t (.slice A' (xs.length + ys.length) c'),run_append _ x y rfl a w rfl ey hrun,FLe.refl _,Gam.up_le _ (hs.ws.fresh hn),?_,?_⟩
  ·have W:=hs.ws.turn hh' hg0 S
   refine W.add hn ⟨vs0++vs,by rw [List.length_append]; exact ho,hE0.append hE⟩ (fun b hb'=>?_)
   rw [pblk_row ho] at hb'
   rcases hob with h | h
   ·rw [hb',← pblk_row ho0] at h
    have q:=hs.ws.own id _ _ b hh' hg0 h.symm
    refine ⟨q.1,q.2,fun id' e' g' hh2 hg' hb''=>?_⟩
    rw [hget_cons] at hh2
    split at hh2
    ·cases hh2
    ·rename_i hne; exact hne (hs.ws.apart id id' _ e' _ g' b hh' hh2 hg0 hg' h.symm hb'')
   ·rw [hb'] at h; injection h with h; subst h
    refine ⟨?_,.inr hs.ws.size,fun id' e' g' hh2 hg' hb''=>?_⟩
    ·cases hF : F w.heap.size with
     | none=>rfl
     | some cs=>exact absurd (hs.ws.flt hF) (Nat.lt_irrefl _)
    ·rw [hget_cons] at hh2
     split at hh2
     ·cases hh2
     ·obtain ⟨g1,q1,q2⟩ := hs.ws.ent id' e' hh2
      rw [hg'] at q1; injection q1 with q1; subst q1
      exact absurd (q2.lt _ hb'') (Nat.lt_irrefl _)
  ·simp only [Rs]; exact Gam.up_same _ _ _
theorem o_frz {o : Oper} {rt rh : List Nat} {hp : Heap} {nw : List Nat} {E sz : Nat} {els : List DV} (h : OpG P ops o rt rh σ ⟨[(t,.row t)],(t,some (.row E sz els)) :: hp,nw⟩) : OpG P ops o rt rh σ ⟨[(t,.sl sz els)],(t,none) :: hp,nw⟩ := by
 intro C F γ σ' a w h1 h2 h3 h4 hs K Q hK
 refine h C F γ σ' a w h1 h2 h3 h4 hs K Q (fun F' γ' a' w' hF hs'=>?_)
 have hh : hget (((t,some (.row E sz els)) :: hp)++σ'.heap) t = some (.row E sz els):=by rw [List.cons_append,hget_cons,if_pos rfl]
 have hr:=(hs'.env t (.row t) (by simp only [AS.app,List.singleton_append]; rw [look_cons,if_pos rfl]))
 have hr2:=hr.2
 simp only [Rs] at hr2
 obtain ⟨F2,f1,f2,f3⟩ := hs'.ws.freeze hh hr2
 refine hK F2 γ' a' w' (hF.trans f1) ⟨fun x dx hx=>?_,f2.congr (fun i e hi=>?_) (fun _ h=>h),hs'.size,hs'.defers⟩
 ·simp only [AS.app,List.singleton_append] at hx
  rw [look_cons] at hx
  by_cases hxt : t = x
  ·rw [if_pos hxt] at hx; injection hx with hx; subst hx; subst hxt
   exact ⟨hr.1,f3⟩
  ·rw [if_neg hxt] at hx
   have:=hs'.env x dx (by simp only [AS.app,List.singleton_append]; rw [look_cons,if_neg hxt]; exact hx)
   exact ⟨this.1,this.2.mono f1 (GLe.refl _)⟩
 ·simp only [AS.app,List.cons_append] at hi ⊢
  rw [hget_cons] at hi ⊢
  by_cases hit : t = i
  ·rw [if_pos hit] at hi; cases hi
  ·rw [if_neg hit] at hi ⊢; rw [hget_cons,if_neg hit]; exact hi
theorem zeroDV_rs {z : Value} {zd : DV} (h : zeroDV z = zd) (ho : ∀ u∈z.cells.toList,u.oneCell' = true) (F : FMap) : Rs F Gam.no zd z:=by
 subst h
 unfold zeroDV
 split
 ·rename_i cs
  simp only [Rs]
  exact ⟨cs,rfl,constDV_rsL F _ _ ho⟩
 ·exact constDV_rs _ _ _
theorem RsE.replicate {F : FMap} {sz : Nat} {d : DV} {v : Value} (h1 : v.cells.size = sz) (h2 : ∀ u∈v.cells.toList,u.oneCell' = true) (h : Rs F Gam.no d v) : ∀ n,RsE F sz (List.replicate n d) (List.replicate n v.cells.toList).flatten
 | 0=>by simp [RsE]
 | n + 1=>by
  simp only [List.replicate_succ,List.flatten_cons,RsE]
  exact ⟨v,_,rfl,h1,h2,h,RsE.replicate h1 h2 h n⟩
end
end Go.Proofs.YtepkcbalmjnhpaaGreatDoor
/-! ### part M -/
/-
 My engine,part M: make,literals,min and max; states that hold others.
-/
namespace Go.Proofs.YtepkcbalmjnhpaaGreatDoor
open Go.RowKit
theorem madeCells_flat (z : Array Value) (hz : 0 < z.size) (n : Nat) : (madeCells z (n * z.size)).toList = (List.replicate n z.toList).flatten:=by
 apply List.ext_getElem?
 intro j
 have hfl : ∀ n j,(List.replicate n z.toList).flatten[j]? = if j < n * z.size then z.toList[j % z.size]? else none:=by
  intro n
  induction n with
  | zero=>intro j; simp
  | succ n ih=>
   intro j
   rw [List.replicate_succ,List.flatten_cons,List.getElem?_append]
   by_cases hj : j < z.toList.length
   ·rw [if_pos hj]
    have hj' : j < z.size:=by simpa using hj
    have : j < (n + 1) * z.size:=by rw [Nat.succ_mul]; omega
    rw [if_pos this,Nat.mod_eq_of_lt hj']
   ·rw [if_neg hj,ih]
    have hj' : z.size≤j:=by simpa using hj
    have e : (j - z.toList.length) % z.size = j % z.size:=by
     rw [Array.length_toList]
     conv=>rhs; rw [← Nat.sub_add_cancel hj']
     rw [Nat.add_mod_right]
    rw [e,Array.length_toList]
    by_cases h : j - z.size < n * z.size
    ·rw [if_pos h,if_pos (by rw [Nat.succ_mul]; omega)]
    ·rw [if_neg h,if_neg (by rw [Nat.succ_mul]; omega)]
 rw [hfl]
 by_cases hj : j < n * z.size
 ·have hm : j % z.size < z.size:=Nat.mod_lt _ hz
  rw [if_pos hj]
  simp [madeCells,hj,hm]
 ·rw [if_neg hj]
  rw [List.getElem?_eq_none (by rw [Array.length_toList,size_madeCells]; omega)]
section
variable {P : Program} {ops : Array Oper} {σ : AS} {t : Nat} {ty : TypeId} {pos : String} {af : Array Edge}
theorem zero_one {T : TypeId} {zd : DV} {z : Value} (h : zeroDV z = zd) (hz : (zd.cs.all DV.one) = true) : ∀ u∈z.cells.toList,u.oneCell' = true:=by
 subst h
 intro u hu
 have e : (zeroDV z).cs = z.cells.toList.map constDV:=by
  unfold zeroDV
  cases z <;> simp only [Value.cells,DV.cs] <;> try (simp [constDV,DV.cs]; done)
  ·rename_i a n c; cases a <;> (try simp [constDV,DV.cs]) <;> (cases n <;> cases c <;> simp [constDV,DV.cs])
 rw [e] at hz
 exact (constDV_rs (fun _=>none) Gam.no u).one GOne.no (List.all_eq_true.1 hz _ (List.mem_map.2 ⟨u,hu,rfl⟩))
theorem o_make {T e : TypeId} {sz bytes : Nat} {zd : DV} [hT : CSl P T e sz bytes zd] {x y : Operand} {k k' : IntKind} {l c : Int} (n m : Nat) (hx : ev σ.env x = some (.int k l)) (hy : ev σ.env y = some (.int k' c)) (hl : l = (n : Int)) (hc : c = (m : Int)) (hnm : n≤m) (hb : bytes * m≤281474976710656∧m≤281474976710656) (hz : (zd.cs.all DV.one) = true) :
  OpG P ops ⟨some t,.makeSlice T x y,ty,pos,af,none⟩ (tm x++tm y) [] σ ⟨[(t,.row t)],[(t,some (.row e sz (List.replicate n zd)))],[t]⟩ :=
 OpG.gen rfl rfl fun C F γ σ' a w hag h2 h3 hs=>by
  obtain ⟨k1,k2⟩ := ev2 hs hag hx hy
  simp only [Rs] at k1 k2
  have hn : t ∉ σ'.used:=h3 t (by simp)
  obtain ⟨z,hEl,hzd⟩ := hT.h
  obtain ⟨i,hi,hiz,hisz,hiby⟩ := hEl.info
  have ho:=zero_one (T:=T) hzd hz
  subst hl hc
  have hrun:=run_make (P:=P) w T e i z hEl.under hi hiz k k' (n : Int) (m : Int) (by omega) (by omega) (by rw [hiby]; have:=hb.1; rw [← Int.natCast_mul]; omega) (by omega)
  simp only [Int.toNat_natCast] at hrun
  refine ⟨.slice (some ⟨w.heap.size,0,none⟩) n m,_,F,γ.up t (.slice (some ⟨w.heap.size,0,none⟩) n m),by simp [execOp,k1,k2,hrun]; rfl,FLe.refl _,Gam.up_le _ (hs.ws.fresh hn),?_,?_⟩
  ·refine hs.ws.addNew hn _ (fun b hb=>by simp [Value.pblk] at hb; exact hb.symm) ?_
   have hzs : z.cells.size = sz:=hEl.zsize
   refine ⟨(List.replicate n z.cells.toList).flatten,⟨by simp [hzs],.inr ⟨w.heap.size,m,_,by simp,Nat.zero_le _,heap_alloc_new w _,by simp; exact hnm,by unfold maxLen; omega,by rw [size_madeCells,hisz],?_⟩⟩,RsE.replicate hzs ho (zeroDV_rs hzd ho F) n⟩
   rw [List.length_replicate,hisz,← hzs,madeCells_flat _ (by rw [hzs]; exact hEl.pos)]
   have : ∀ (n m : Nat) (l : List Value),n≤m→((List.replicate m l).flatten).take (n * l.length) = (List.replicate n l).flatten:=by
    intro n
    induction n with
    | zero=>intro m l _; simp
    | succ n ih=>
     intro m l hm
     obtain ⟨m,rfl⟩ : ∃ m',m = m' + 1 := ⟨m - 1,by omega⟩
     rw [List.replicate_succ,List.replicate_succ,List.flatten_cons,List.flatten_cons,Nat.succ_mul,Nat.add_comm,List.take_append,List.take_of_length_le (by omega),Nat.add_sub_cancel_left,ih m l (by omega)]
   have:=this n m z.cells.toList hnm
   rwa [Array.length_toList] at this
  ·simp only [Rs]; exact Gam.up_same _ _ _
theorem o_min {T1 T2 : TypeId} {x y : Operand} {k : IntKind} {a b : Int} (hx : ev σ.env x = some (.int k a)) (hy : ev σ.env y = some (.int k b)) : OpG P ops ⟨some t,.call ⟨.builtin .min,#[x,y],#[T1,T2]⟩,ty,pos,af,none⟩ (tm x++tm y) [] σ ⟨[(t,.int k (if b < a then b else a))],[],[]⟩ :=
 OpG.val rfl rfl fun C F γ σ' ac w hag _ hs=>by
  obtain ⟨k1,k2⟩ := ev2 hs hag hx hy
  simp only [Rs] at k1 k2
  exact ⟨.int k (if b < a then b else a),by simp [execOp,resolve,invoke,builtin,Builtin.min_,k1,k2,Builtin.min2],by simp only [Rs]⟩
theorem o_max {T1 T2 : TypeId} {x y : Operand} {k : IntKind} {a b : Int} (hx : ev σ.env x = some (.int k a)) (hy : ev σ.env y = some (.int k b)) : OpG P ops ⟨some t,.call ⟨.builtin .max,#[x,y],#[T1,T2]⟩,ty,pos,af,none⟩ (tm x++tm y) [] σ ⟨[(t,.int k (if b > a then b else a))],[],[]⟩ :=
 OpG.val rfl rfl fun C F γ σ' ac w hag _ hs=>by
  obtain ⟨k1,k2⟩ := ev2 hs hag hx hy
  simp only [Rs] at k1 k2
  exact ⟨.int k (if b > a then b else a),by simp [execOp,resolve,invoke,builtin,Builtin.max_,k1,k2,Builtin.max2],by simp only [Rs]⟩
class CPl (P : Program) (t : TypeId) (zs : outParam (List DV)) (pl : outParam (List (Nat × Nat))) : Prop where
 z : CZero P t zs
 p : (∃ fs,P.underlying t = some (.struct fs)∧(∀ f∈fs.toList,(P.info? f.type).isSome)∧fs.toList.map (fun f=>(f.offset,P.cellsOf f.type)) = pl)∨(∃ n e s,P.underlying t = some (.array n e)∧(P.info? e).map (·.size) = some s∧pl = (List.range n).map fun i=>(i * s,s))
def fillD (pl : List (Nat × Nat)) : List DV→List (Nat × DV)→Option (List DV)
 | cs,[]=>some cs
 | cs,(i,d) :: rest=>match pl[i]? with
  | none=>none
  | some (off,size)=>bif Nat.beq d.cs.length size && Nat.ble (off + size) cs.length && d.flat then fillD pl (layD cs off d.cs) rest else none
def evP (e : List (Nat × DV)) : List (Nat × Operand)→Option (List (Nat × DV))
 | []=>some []
 | (i,x) :: xs=>match ev e x,evP e xs with
  | some d,some ds=>some ((i,d) :: ds)
  | _,_=>none
theorem fold_lay (vs : List Value) : ∀ (j off : Nat) (cells : Array Value),off + j + vs.length≤cells.size→((vs.zipIdx j).foldl (fun cs (x : Value × Nat)=>cs.setIfInBounds (off + x.2) x.1) cells) = lay cells (off + j) vs:=by
 induction vs with
 | nil=>intro j off cells _; apply Array.toList_inj.1; rw [lay_list]; simp
 | cons v vs ih=>
  intro j off cells h
  simp only [List.length_cons] at h
  rw [List.zipIdx_cons,List.foldl_cons,ih (j + 1) off _ (by simp; omega)]
  apply Array.toList_inj.1
  rw [lay_list,lay_list]
  have hlt : off + j < cells.toList.length:=by simp; omega
  rw [Array.toList_setIfInBounds,List.length_cons]
  rw [List.set_eq_take_append_cons_drop,if_pos hlt]
  have e1 : (cells.toList.take (off + j)++v :: cells.toList.drop (off + j + 1)).take (off + (j + 1)) = cells.toList.take (off + j)++[v]:=by
   rw [List.take_append,List.take_of_length_le (by simp; omega)]
   have : off + (j + 1) - (List.take (off + j) cells.toList).length = 1:=by simp; omega
   rw [this]; rfl
  have e2 : (cells.toList.take (off + j)++v :: cells.toList.drop (off + j + 1)).drop (off + (j + 1) + vs.length) = cells.toList.drop (off + j + (vs.length + 1)):=by
   rw [List.drop_append,List.drop_of_length_le (by simp; omega),List.nil_append]
   have : off + (j + 1) + vs.length - (List.take (off + j) cells.toList).length = vs.length + 1:=by simp; omega
   rw [this,List.drop_succ_cons,List.drop_drop]; congr 1; omega
  rw [e1,e2]; simp
theorem fill_rs {F : FMap} {γ : Gam} (hg : GOne γ) (place : Nat→Option (Nat × Nat)) (pl : List (Nat × Nat)) : ∀ (dps : List (Nat × DV)) (vps : List (Nat × Value)) (zs ds : List DV) (cells : Array Value),
  (dps.map (·.1) = vps.map (·.1))→RsT F γ (dps.map (·.2)) (vps.map (·.2))→(∀ i∈dps.map (·.1),∀ q,pl[i]? = some q→place i = some q)→RsL F γ zs cells.toList→fillD pl zs dps = some ds→∃ cs,Instr.fill place cells vps = some cs∧RsL F γ ds cs.toList
 | [],[],zs,ds,cells,_,_,_,hz,hf=>by
  simp only [fillD] at hf; injection hf with hf; subst hf; exact ⟨cells,rfl,hz⟩
 | [],_ :: _,zs,ds,cells,h,_,_,_,_=>by simp at h
 | _ :: _,[],zs,ds,cells,h,_,_,_,_=>by simp at h
 | (i,d) :: dps,(i',v) :: vps,zs,ds,cells,hk,hv,hp,hz,hf=>by
  simp only [List.map_cons,List.cons.injEq] at hk
  obtain ⟨rfl,hk⟩ := hk
  simp only [List.map_cons,RsT,List.cons.injEq] at hv
  obtain ⟨v',rest,⟨rfl,rfl⟩,hd,hv⟩ := hv
  simp only [fillD] at hf
  cases hq : pl[i]? with
  | none=>rw [hq] at hf; cases hf
  | some q=>
   obtain ⟨off,size⟩ := q
   rw [hq] at hf
   simp only at hf
   cases hc : (Nat.beq d.cs.length size && Nat.ble (off + size) zs.length && d.flat) with
   | false=>rw [hc] at hf; cases hf
   | true=>
    rw [hc] at hf
    simp only [cond_true] at hf
    simp only [Bool.and_eq_true] at hc
    have c1 : d.cs.length = size:=Nat.eq_of_beq_eq_true hc.1.1
    have c2:=Nat.le_of_ble_eq_true hc.1.2
    have kc:=RsL.cs hd hg hc.2
    have hl1:=kc.len
    have hl2:=hz.len
    have hvs : v.cells.size = size:=by simpa [c1] using hl1
    have hcs : cells.size = zs.length:=by simpa using hl2
    have hz' : RsL F γ (layD zs off d.cs) (lay cells off v.cells.toList).toList:=by
     rw [lay_list,layD,← hl1]
     exact ((hz.take off).append kc).append (hz.drop _)
    obtain ⟨cs,r1,r2⟩ := fill_rs hg place pl dps vps _ ds _ hk hv (fun j hj=>hp j (by simp [hj])) hz' hf
    refine ⟨cs,?_,r2⟩
    have hpl:=hp i (by simp) _ hq
    simp only [Instr.fill,hpl]
    have hno : ¬ (decide (v.cells.size≠size) || decide (off + v.cells.size > cells.size)) = true:=by simp; omega
    rw [if_neg hno]
    have hfold:=fold_lay v.cells.toList 0 off cells (by simp; omega)
    rw [Nat.add_zero] at hfold
    have : (v.cells.zipIdx.foldl (fun cs (x : Value × Nat)=>cs.setIfInBounds (off + x.2) x.1) cells) = lay cells off v.cells.toList:=by
     rw [← hfold,← Array.foldl_toList,Array.toList_zipIdx]
    rw [← r1,← this]
theorem evP_agree {rt : List Nat} {e e' : List (Nat × DV)} (h : ∀ t∈rt,look e' t = look e t) : ∀ {xs : List (Nat × Operand)},(∀ t∈xs.flatMap (fun p=>tm p.2),t∈rt)→evP e' xs = evP e xs
 | [],_=>rfl
 | (i,x) :: xs,hx=>by
  simp only [List.flatMap_cons,List.mem_append] at hx
  rw [evP,evP,ev_agree h (fun t ht=>hx t (.inl ht)),evP_agree h (fun t ht=>hx t (.inr ht))]
theorem Sat.evp {C : Ctx} {F : FMap} {γ : Gam} {σ : AS} {a : Act} {w : World} (H : Sat C F γ σ a w) : ∀ {xs : List (Nat × Operand)} {ds : List (Nat × DV)},evP σ.env xs = some ds→ds.map (·.1) = xs.map (·.1)∧RsT F γ (ds.map (·.2)) (xs.map (fun p=>a.eval p.2))
 | [],ds,h=>by simp only [evP] at h; injection h with h; subst h; simp [RsT]
 | (i,x) :: xs,ds,h=>by
  simp only [evP] at h
  cases h1 : Proofs.YtepkcbalmjnhpaaGreatDoor.ev σ.env x with
  | none=>rw [h1] at h; cases h
  | some d=>
   cases h2 : evP σ.env xs with
   | none=>rw [h1,h2] at h; cases h
   | some ds'=>
    rw [h1,h2] at h; injection h with h; subst h
    obtain ⟨k1,k2⟩ := H.evp h2
    simp only [List.map_cons,RsT]
    exact ⟨by rw [k1],_,_,rfl,H.ev h1,k2⟩
theorem run_mapM {α β : Type} {f : α→Sem β} {g : α→β} {w : World} : ∀ {l : List α},(∀ x∈l,(f x).run P w = .ok (g x) w)→(l.mapM f).run P w = .ok (l.map g) w
 | [],_=>by simp
 | x :: l,h=>by
  have h1:=h x (by simp)
  have h2:=run_mapM (l:=l) (fun y hy=>h y (by simp [hy]))
  rw [List.mapM_cons,Sem.run_bind,h1,Result.andThen_ok,Sem.run_bind,h2]; rfl
theorem run_places {fs : Array Field} (hi : ∀ f∈fs.toList,(P.info? f.type).isSome) (w : World) : (fs.mapM fun f=>do pure (f.offset,← sizeOf f.type) : Sem (Array (Nat × Nat))).run P w = .ok (fs.toList.map fun f=>(f.offset,P.cellsOf f.type)).toArray w:=by
 rw [Array.mapM_eq_mapM_toList]
 have:=run_mapM (P:=P) (w:=w) (f:=fun f : Field=>(do pure (f.offset,← sizeOf f.type) : Sem (Nat × Nat))) (g:=fun f=>(f.offset,P.cellsOf f.type)) (l:=fs.toList) (fun f hf=>by
  obtain ⟨i,hq⟩ := Option.isSome_iff_exists.1 (hi f hf)
  simp [sizeOf,typeInfo,hq,Program.cellsOf])
 show Sem.run P ((fs.toList.mapM _) >>= fun x=>pure x.toArray) w = _
 rw [Sem.run_bind,this]; rfl
theorem o_build {T : TypeId} {zs : List DV} {pl : List (Nat × Nat)} [hP : CPl P T zs pl] {ps : Array (Nat × Operand)} {dps : List (Nat × DV)} {ds : List DV} (hz : (zs.all DV.one) = true) (he : evP σ.env ps.toList = some dps) (hf : fillD pl zs dps = some ds) :
  OpG P ops ⟨some t,.build T ps,ty,pos,af,none⟩ (ps.toList.flatMap fun p=>tm p.2) [] σ ⟨[(t,.agg ds)],[],[]⟩ :=
 OpG.val rfl rfl fun C F γ σ' a w hag _ hs=>by
  obtain ⟨k1,k2⟩ := hs.evp ((evP_agree hag (fun _ h=>h)).trans he)
  have hz' := hP.z.h
  cases hq : P.info? T with
  | none=>simp [hq] at hz'
  | some i=>
   cases hz2 : i.zero with
   | none=>simp [hq,hz2] at hz'
   | some z=>
    simp only [hq,hz2,Option.bind_some,Option.map_some,Option.some.injEq] at hz'
    have hone : ∀ u∈z.cells.toList,u.oneCell' = true:=by
     intro u hu
     have:=List.all_eq_true.1 hz (constDV u) (by rw [← hz']; exact List.mem_map.2 ⟨u,hu,rfl⟩)
     exact (constDV_rs F γ u).one hs.ws.gone this
    have hzs : RsL F γ zs z.cells.toList:=by rw [← hz']; exact constDV_rsL F γ _ hone
    have hzv : (zeroValue T).run P w = .ok z w:=by simp [zeroValue,typeInfo,hq,hz2]
    have hmap : (ps.map fun (p : Nat × Operand)=>(p.1,a.eval p.2)).toList = ps.toList.map fun p=>(p.1,a.eval p.2):=by simp
    rcases hP.p with ⟨fs,hu,hin,hpl⟩ | ⟨n,e,s,hu,hsz,hpl⟩
    ·have hpr:=run_places (P:=P) hin w
     rw [hpl] at hpr
     obtain ⟨cs,r1,r2⟩ := fill_rs hs.ws.gone (fun i=>pl[i]?) pl dps (ps.toList.map fun p=>(p.1,a.eval p.2)) zs ds z.cells (by rw [k1]; simp) (by rw [List.map_map]; exact k2) (fun i _ q h=>h) hzs hf
     refine ⟨.agg cs,?_,by simp only [Rs]; exact ⟨cs,rfl,r2⟩⟩
     simp only [execOp,Instr.build,Sem.run_bind,hzv,Result.andThen_ok,run_underlying hu w,hpr,Sem.run_pure]
     simp only [hmap] at *
     simp [r1]
    ·cases hqe : P.info? e with
     | none=>simp [hqe] at hsz
     | some ie=>
      have hse : (sizeOf e).run P w = .ok s w:=by
       have : ie.size = s:=by simpa [hqe] using hsz
       simp [sizeOf,typeInfo,hqe,this]
      obtain ⟨cs,r1,r2⟩ := fill_rs hs.ws.gone (fun i=>some (i * s,s)) pl dps (ps.toList.map fun p=>(p.1,a.eval p.2)) zs ds z.cells (by rw [k1]; simp) (by rw [List.map_map]; exact k2) (fun i _ q h=>by
       rw [hpl,List.getElem?_map] at h
       cases hr : (List.range n)[i]? with
       | none=>rw [hr] at h; cases h
       | some j=>
        rw [hr] at h
        have : j = i:=by
         obtain ⟨_,e⟩ := List.getElem?_eq_some_iff.1 hr
         simpa using e.symm
        subst this; exact h) hzs hf
      refine ⟨.agg cs,?_,by simp only [Rs]; exact ⟨cs,rfl,r2⟩⟩
      simp only [execOp,Instr.build,Sem.run_bind,hzv,Result.andThen_ok,run_underlying hu w,hse,Sem.run_pure]
      simp only [hmap] at *
      simp [r1]
end
end Go.Proofs.YtepkcbalmjnhpaaGreatDoor
/-! ### part N -/
/-
 My engine,part N: slice literals,elements of rows; states that hold others.
-/
namespace Go.Proofs.YtepkcbalmjnhpaaGreatDoor
open Go.RowKit
theorem RsL.split {F : FMap} {γ : Gam} {ds es : List DV} {vs : List Value} (h : RsL F γ (ds++es) vs) : RsL F γ ds (vs.take ds.length)∧RsL F γ es (vs.drop ds.length):=by
 have h1:=h.take ds.length
 have h2:=h.drop ds.length
 rw [List.take_left'] at h1
 ·rw [List.drop_left'] at h2
  ·exact ⟨h1,h2⟩
  ·rfl
 ·rfl
def elOk (sz : Nat) (d : DV) : Bool:=Nat.beq d.cs.length sz && d.flat && d.ids.isEmpty
theorem Rs_of_cs {F : FMap} {γ : Gam} {d : DV} {vs : List Value} (hf : d.flat = true) (h : RsL F γ d.cs vs) : ∃ v : Value,v.cells.toList = vs∧Rs F γ d v:=by
 by_cases ho : d.one = true
 ·rw [DV.cs_one ho] at h
  simp only [RsL] at h
  obtain ⟨v,rest,rfl,h1,h2,rfl⟩ := h
  exact ⟨v,by rw [oneCell_cells h1],h2⟩
 ·cases d with
  | agg ds=>exact ⟨.agg vs.toArray,rfl,by simp only [Rs]; exact ⟨vs.toArray,rfl,by simpa [DV.cs] using h⟩⟩
  | _=>exact absurd hf ho
theorem RsE.of_cells {F : FMap} {γ : Gam} {sz : Nat} : ∀ {els : List DV} {vs : List Value},(els.all (elOk sz)) = true→RsL F γ (els.flatMap DV.cs) vs→RsE F sz els vs
 | [],vs,_,h=>by simp only [List.flatMap_nil,RsL] at h; subst h; simp [RsE]
 | d :: els,vs,hk,h=>by
  simp only [List.all_cons,Bool.and_eq_true] at hk
  obtain ⟨hk1,hk2⟩ := hk
  simp only [elOk,Bool.and_eq_true] at hk1
  have hlen : d.cs.length = sz:=Nat.eq_of_beq_eq_true hk1.1.1
  have hids : d.ids = []:=by simpa using hk1.2
  rw [List.flatMap_cons] at h
  obtain ⟨h1,h2⟩ := h.split
  obtain ⟨v,e1,e2⟩ := Rs_of_cs hk1.1.2 h1
  simp only [RsE]
  refine ⟨v,vs.drop d.cs.length,by rw [e1,List.take_append_drop],?_,?_,Rs_ids d v (by rw [hids]; simp) e2,RsE.of_cells hk2 h2⟩
  ·have:=h1.len
   rw [← e1,Array.length_toList] at this
   rw [this,hlen]
  ·rw [e1]; exact h1.one
theorem splice_list {α : Type} (A Y : List α) {o n sz p L : Nat} (hY : Y.length = n) (h1 : o + n≤sz) (h2 : p + sz≤L) (h3 : L≤A.length) :
  (A.take (p + o)++Y++A.drop (p + o + n)).take L = (A.take L).take p++((((A.take L).drop p).take sz).take o++Y++(((A.take L).drop p).take sz).drop (o + n))++(A.take L).drop (p + sz):=by
 have e1 : (A.take L).take p = A.take p:=by rw [List.take_take,Nat.min_eq_left (by omega)]
 have e2 : ((A.take L).drop p).take sz = (A.drop p).take sz:=by rw [List.drop_take,List.take_take,Nat.min_eq_left (by omega)]
 have e3 : ((A.drop p).take sz).take o = (A.drop p).take o:=by rw [List.take_take,Nat.min_eq_left (by omega)]
 have e4 : ((A.drop p).take sz).drop (o + n) = (A.drop (p + o + n)).take (sz - (o + n)):=by rw [List.drop_take,List.drop_drop,Nat.add_assoc]
 have e5 : (A.take L).drop (p + sz) = (A.drop (p + sz)).take (L - (p + sz)):=by rw [List.drop_take]
 have e6 : (A.drop (p + o + n)).take (L - (p + o + n)) = (A.drop (p + o + n)).take (sz - (o + n))++(A.drop (p + sz)).take (L - (p + sz)):=by
  have : L - (p + o + n) = (sz - (o + n)) + (L - (p + sz)):=by omega
  rw [this,List.take_add,List.drop_drop,show p + o + n + (sz - (o + n)) = p + sz by omega]
 have e7 : A.take (p + o) = A.take p++(A.drop p).take o:=List.take_add
 have l1 : (A.take (p + o)).length = p + o:=by rw [List.length_take]; omega
 rw [e1,e2,e3,e4,e5,List.take_append,List.take_of_length_le (by rw [List.length_append,l1,hY]; omega),List.length_append,l1,hY,e6,e7]
 simp
section
variable {P : Program} {ops : Array Oper} {σ : AS} {t : Nat} {ty : TypeId} {pos : String} {af : Array Edge}
theorem o_buildSlice {T e : TypeId} {sz bytes : Nat} {zd : DV} [hT : CSl P T e sz bytes zd] {n : Nat} {ps : Array (Nat × Operand)} {dps : List (Nat × DV)} (hz : (zd.cs.all DV.one) = true) (hn : Nat.ble (n * sz) 16777216 = true) (he : evP σ.env ps.toList = some dps) (hk : Nat.beq dps.length n = true)
  (hf : fillD ((List.range n).map fun i=>(i * sz,sz)) (List.replicate n zd.cs).flatten dps = some ((dps.map (·.2)).flatMap DV.cs)) (hok : (dps.map (·.2)).all (elOk sz) = true) :
  OpG P ops ⟨some t,.buildSlice T n ps,ty,pos,af,none⟩ (ps.toList.flatMap fun p=>tm p.2) [] σ ⟨[(t,.row t)],[(t,some (.row e sz (dps.map (·.2))))],[t]⟩ :=
 OpG.gen rfl rfl fun C F γ σ' a w hag h2 h3 hs=>by
  obtain ⟨k1,k2⟩ := hs.evp ((evP_agree hag (fun _ h=>h)).trans he)
  have htn : t ∉ σ'.used:=h3 t (by simp)
  obtain ⟨z,hEl,hzd⟩ := hT.h
  obtain ⟨i,hi,hiz,hisz,hiby⟩ := hEl.info
  have ho:=zero_one (T:=T) hzd hz
  have hzs : z.cells.size = sz:=hEl.zsize
  have hdl : dps.length = n:=Nat.eq_of_beq_eq_true hk
  have hle:=Nat.le_of_ble_eq_true hn
  have hmap : (ps.map fun (p : Nat × Operand)=>(p.1,a.eval p.2)).toList = ps.toList.map fun p=>(p.1,a.eval p.2):=by simp
  have hcell : RsL F γ zd.cs z.cells.toList:=by
   have:=zeroDV_rs hzd ho F
   have hfl : zd.flat = true:=by
    rw [← hzd] at hz ⊢
    unfold zeroDV at hz ⊢
    split
    ·rfl
    ·rename_i h'
     by_cases h1 : (constDV z).one = true
     ·cases hc : constDV z <;> simp_all [DV.flat,DV.one]
     ·cases hc : constDV z <;> simp_all [DV.flat,DV.one,DV.cs,constDV]
   exact (RsL.cs this GOne.no hfl).mono (FLe.refl _) (GLe.no _)
  have hinit : RsL F γ (List.replicate n zd.cs).flatten (madeCells z.cells (n * z.cells.size)).toList:=by
   rw [madeCells_flat _ (by rw [hzs]; exact hEl.pos)]
   clear hn hle hf hk hdl
   induction n with
   | zero=>simp [RsL]
   | succ n ih=>rw [List.replicate_succ,List.replicate_succ,List.flatten_cons,List.flatten_cons]; exact hcell.append ih
  obtain ⟨cs,r1,r2⟩ := fill_rs hs.ws.gone (fun i=>some (i * sz,sz)) ((List.range n).map fun i=>(i * sz,sz)) dps (ps.toList.map fun p=>(p.1,a.eval p.2)) _ _ _ (by rw [k1]; simp) (by rw [List.map_map]; exact k2) (fun i _ q h=>by
   rw [List.getElem?_map] at h
   cases hr : (List.range n)[i]? with
   | none=>rw [hr] at h; cases h
   | some j=>
    rw [hr] at h
    have : j = i:=by
     obtain ⟨_,e⟩ := List.getElem?_eq_some_iff.1 hr
     simpa using e.symm
    subst this; exact h) hinit hf
  have hE:=RsE.of_cells (F:=F) (γ:=γ) hok r2
  have hcl:=hE.len
  rw [List.length_map,hdl,Array.length_toList] at hcl
  have hrun : (execOp a.eval ⟨some t,.buildSlice T n ps,ty,pos,af,none⟩).run P w = .ok (.value (.slice (some ⟨w.heap.size,0,none⟩) n n)) (w.alloc (.cells cs e)):=by
   have hno : ¬ 2 ^ 24 < n * sz:=by
    have : (2 : Nat) ^ 24 = 16777216:=rfl
    omega
   have hr1 : Instr.fill (fun i=>some (i * sz,sz)) (madeCells z.cells (n * sz)) (ps.toList.map fun p=>(p.1,a.eval p.2)) = some cs:=by rw [← hzs] at r1 ⊢; exact r1
   by_cases h0 : n * sz = 0
   ·have hz0 : madeCells z.cells (n * sz) = #[]:=by rw [h0]; simp [madeCells]
    rw [hz0] at hr1
    simp only [execOp,Instr.buildSlice,Sem.run_bind,run_underlying hEl.under w,Result.andThen_ok,hT.size,Sem.run_pure,h0]
    simp [hmap,hr1,newRow,show (Array.map (fun _=>(default : Value)) (Array.range 0)) = #[] from Array.eq_empty_of_size_eq_zero (by simp)]
   ·have hzv : (zeroValue e).run P w = .ok z w:=by simp [zeroValue,typeInfo,hi,hiz]
    simp only [execOp,Instr.buildSlice,Sem.run_bind,run_underlying hEl.under w,Result.andThen_ok,hT.size,Sem.run_pure]
    simp only [madeCells] at hr1
    simp [hno,h0,hzv,hmap,hr1,newRow]
  refine ⟨_,_,F,γ.up t (.slice (some ⟨w.heap.size,0,none⟩) n n),hrun,FLe.refl _,Gam.up_le _ (hs.ws.fresh htn),?_,?_⟩
  ·refine hs.ws.addNew htn _ (fun b hb=>by simp [Value.pblk] at hb; exact hb.symm) ?_
   refine ⟨cs.toList,⟨by rw [Array.length_toList,hcl,List.length_map,hdl],.inr ⟨w.heap.size,n,cs,by rw [List.length_map,hdl],Nat.zero_le _,heap_alloc_new w _,by rw [List.length_map,hdl]; exact Nat.le_refl _,?_,hcl,?_⟩⟩,hE⟩
   ·have hp:=hEl.pos
    have : n≤n * sz:=Nat.le_mul_of_pos_right n hp
    unfold maxLen; omega
   ·rw [List.length_map,hdl,← hcl]; exact List.take_of_length_le (by rw [Array.length_toList]; exact Nat.le_refl _)
  ·simp only [Rs]; exact Gam.up_same _ _ _
theorem rs_rp {C : Ctx} {F : FMap} {γ : Gam} {σ' : AS} {a : Act} {w : World} (hs : Sat C F γ σ' a w) {id i sz o E : Nat} {els : List DV} {d : DV} {v : Value} (hv : Rs F γ (.rp id i sz o) v) (hh : hget σ'.heap id = some (.row E sz els)) (hd : els[i]? = some d) :
  ∃ b n c cur vs vd,v = .pointer (some ⟨b,i * sz + o,none⟩)∧γ id = some (.slice (some ⟨b,0,none⟩) n c)∧w.heap[b]? = some (.cells cur E (0,0))∧n = els.length∧n≤c∧c≤maxLen∧cur.size = c * sz∧cur.toList.take (n * sz) = vs∧RsE F sz els vs ∧
   (vs.drop (i * sz)).take sz = vd.cells.toList∧vd.cells.size = sz∧(∀ u∈vd.cells.toList,u.oneCell' = true)∧Rs F Gam.no d vd:=by
 obtain ⟨g,hg,vs,ho,hE⟩ := hs.ws.ent id _ hh
 simp only [Rs] at hv
 obtain ⟨b,n,c,hgb,e⟩ := hv
 rw [hg] at hgb; injection hgb with hgb; subst hgb
 have hlt : i < els.length:=by
  rcases Nat.lt_or_ge i els.length with h | h
  ·exact h
  ·rw [List.getElem?_eq_none h] at hd; cases hd
 rcases ho.2 with ⟨h1,h0⟩ | ⟨b',cap,cur,h1,_,hb,r1,r2,r3,r4⟩
 ·cases h1
 ·injection h1 with q1 q2 q3
  injection q1 with q1; injection q1 with q1 _ _
  subst q1; subst q2; subst q3
  obtain ⟨vd,p1,p2,p3,p4⟩ := hE.get hd
  exact ⟨b,_,_,cur,vs,vd,e,hg,hb,rfl,r1,r2,r3,r4,hE,p1,p2,p3,p4⟩
theorem o_load_p {T' : TypeId} {x : Operand} {id i sz o E : Nat} {els : List DV} {d r : DV} (hx : ev σ.env x = some (.rp id i sz o)) (hh : hget σ.heap id = some (.row E sz els)) (hd : els[i]? = some d) (hf : d.flat = true) (hl : LoadD P T' (d.cs.drop o) r) :
  OpG P ops ⟨some t,.load T' x,ty,pos,af,none⟩ (tm x) [id] σ ⟨[(t,r)],[],[]⟩ :=
 OpG.val rfl rfl fun C F γ σ' a w h1 h2 hs=>by
  have k1:=hs.ev ((ev_agree h1 (fun _ h=>h)).trans hx)
  obtain ⟨b,n,c,cur,vs,vd,e,hg,hb,rfl,r1,r2,r3,r4,hE,p1,p2,p3,p4⟩ := rs_rp hs k1 ((h2 id (by simp)).trans hh) hd
  have hlt : i < els.length:=by
   rcases Nat.lt_or_ge i els.length with h | h
   ·exact h
   ·rw [List.getElem?_eq_none h] at hd; cases hd
  have hcs:=RsL.cs p4 GOne.no hf
  have hr : w.rangeAt b (i * sz + o) (vd.cells.toList.drop o):=by
   intro j v hv
   rw [List.getElem?_drop] at hv
   have hj : o + j < sz:=by
    have:=(List.getElem?_eq_some_iff.1 hv).1
    rw [Array.length_toList,p2] at this; exact this
   rw [← p1,List.getElem?_take,if_pos hj,List.getElem?_drop] at hv
   rw [← r4,List.getElem?_take] at hv
   have hm : (i + 1) * sz≤els.length * sz:=Nat.mul_le_mul_right _ hlt
   rw [Nat.succ_mul] at hm
   rw [if_pos (by omega)] at hv
   rw [cell_of_row w b _ cur E (0,0) hb]
   rw [Nat.add_assoc]; simpa using hv
  obtain ⟨v,q1,q2,_⟩ := load_rs hl hr (hcs.drop o)
  exact ⟨v,by simp [execOp,e,Instr.loadAt,Instr.sureAddr,q1],q2.mono (FLe.refl _) (GLe.no _)⟩
theorem o_load_ps {T' : TypeId} {x : Operand} {id i sz o E : Nat} {els : List DV} {d r : DV} [hT : CSc P T'] (hx : ev σ.env x = some (.rp id i sz o)) (hh : hget σ.heap id = some (.row E sz els)) (hd : els[i]? = some d) (hf : d.flat = true) (hl : d.cs[o]? = some r) :
  OpG P ops ⟨some t,.load T' x,ty,pos,af,none⟩ (tm x) [id] σ ⟨[(t,r)],[],[]⟩ := o_load_p hx hh hd hf (.sc hT.h (by rw [head_drop]; exact hl))
theorem o_load_pr {T' : TypeId} {x : Operand} {id i sz o E n : Nat} {els ds' : List DV} {d : DV} [hT : CRow P T' n] (hx : ev σ.env x = some (.rp id i sz o)) (hh : hget σ.heap id = some (.row E sz els)) (hd : els[i]? = some d) (hf : d.flat = true) (hn : Nat.ble n (d.cs.drop o).length = true) (hl : (d.cs.drop o).take n = ds') :
  OpG P ops ⟨some t,.load T' x,ty,pos,af,none⟩ (tm x) [id] σ ⟨[(t,.agg ds')],[],[]⟩ := o_load_p hx hh hd hf (.row n hT.h (Nat.le_of_ble_eq_true hn) (by rw [hl]))
theorem o_store_p {T' : TypeId} {x y : Operand} {id i sz o E n : Nat} {els : List DV} {d dn e' : DV} [hT : CSize P T' n] (hx : ev σ.env x = some (.rp id i sz o)) (hy : ev σ.env y = some dn) (hh : hget σ.heap id = some (.row E sz els)) (hd : els[i]? = some d) (hf : d.flat = true) (hfn : dn.flat = true) (hn : Nat.beq n dn.cs.length = true)
  (hids : dn.ids = []) (hl : Nat.ble (o + n) sz = true) (he : e'.flat = true) (hlay : layD d.cs o dn.cs = e'.cs) (hsz : 0 < n) :
  OpG P ops ⟨none,.store T' x y,ty,pos,af,none⟩ (tm x++tm y) [id] σ ⟨[],[(id,some (.row E sz (els.set i e')))],[]⟩ :=
 OpG.skip rfl rfl fun C F γ σ' a w h1 h2 hs=>by
  obtain ⟨k1,k2⟩ := ev2 hs h1 hx hy
  have hh' := (h2 id (by simp)).trans hh
  obtain ⟨b,m,c,cur,vs,vd,e,hg,hb,rfl,r1,r2,r3,r4,hE,p1,p2,p3,p4⟩ := rs_rp hs k1 hh' hd
  have hlt : i < els.length:=by
   rcases Nat.lt_or_ge i els.length with h | h
   ·exact h
   ·rw [List.getElem?_eq_none h] at hd; cases hd
  have kc:=RsL.cs k2 hs.ws.gone hfn
  have hn' : n = dn.cs.length:=Nat.eq_of_beq_eq_true hn
  have hlen:=kc.len
  have hle:=Nat.le_of_ble_eq_true hl
  have hm : (i + 1) * sz≤els.length * sz:=Nat.mul_le_mul_right _ hlt
  rw [Nat.succ_mul] at hm
  have hmc : els.length * sz≤c * sz:=Nat.mul_le_mul_right _ r1
  have hvsz : (a.eval y).cells.size = n:=by rw [hn',← hlen]; simp
  have hrun:=run_store_any (P:=P) (o:=i * sz + o) T' (a.eval y) hb (by rw [hT.h,hvsz]) (by rw [hvsz,r3]; omega) kc.one
  obtain ⟨s1,s2⟩ := Stp.setRow (lay cur (i * sz + o) (a.eval y).cells.toList) hb
  refine ⟨_,by simp [execOp,e,Instr.storeAt,Instr.sureAddr,hrun]; rfl,?_⟩
  have W:=hs.ws.turn hh' hg (by simpa [Value.pblk] using s1)
  -- the element's new value
  have hdl : vd.cells.toList.length = sz:=by rw [Array.length_toList,p2]
  have hnew : RsL F Gam.no (layD d.cs o dn.cs) (vd.cells.toList.take o++(a.eval y).cells.toList++vd.cells.toList.drop (o + n)):=by
   have hcs:=RsL.cs p4 GOne.no hf
   rw [layD,← hn']
   exact ((hcs.take o).append (RsL_ids _ _ (by
    intro x hx
    have : idsL dn.cs = dn.ids:=by
     cases dn <;> simp [DV.cs,DV.ids,idsL]
    rw [this,hids] at hx; cases hx) kc)).append (hcs.drop _)
  rw [hlay] at hnew
  obtain ⟨ve,ve1,ve2⟩ := Rs_of_cs he hnew
  have hvl:=hE.len
  have hyl : (a.eval y).cells.toList.length = n:=by rw [Array.length_toList,hvsz]
  have hvel : ve.cells.size = sz:=by
   have : ve.cells.toList.length = sz:=by rw [ve1]; simp [hyl,hdl]; omega
   simpa using this
  have hset:=hE.set hlt hvel (by rw [ve1]; exact hnew.one) ve2
  have W2:=W.put (id0:=id) (e0:=.row E sz (els.set i e')) hg ⟨_,⟨?_,.inr ⟨b,c,_,by simp,Nat.zero_le _,s2,by simpa using r1,r2,?_,?_⟩⟩,hset⟩ (fun b' hb'=>?_)
  ·exact W2.congr (fun i e hi=>over_same id _ _ i e hi) (fun _ h=>h)
  ·have:=hset.len; simpa using this
  ·rw [lay_size (by rw [hyl,r3]; omega)]; exact r3
  · -- the cells
   have hcl : cur.toList.length = c * sz:=by rw [← r3]; simp
   rw [List.length_set,lay_list,ve1,hyl,← p1,← r4,Nat.succ_mul]
   exact splice_list cur.toList _ hyl hle (by omega) (by omega)
  ·have ho:=hs.ws.own id _ _ b' hh' hg hb'
   refine ⟨ho.1,ho.2,fun i e g hne hi hgi hbi=>?_⟩
   rw [hget_cons] at hi
   split at hi
   ·cases hi
   ·exact hne (hs.ws.apart i id e _ g _ b' hi hh' hgi hg hbi hb')
end
end Go.Proofs.YtepkcbalmjnhpaaGreatDoor
/-! ### part O -/
/-
 My engine,part O: states that hold others.
-/
namespace Go.Proofs.YtepkcbalmjnhpaaGreatDoor
open Go.RowKit
inductive EnvOk (f : Nat→Nat) (e : List (Nat × DV)) : List (Nat × DV)→Prop
 | nil : EnvOk f e []
 | cons {t : Nat} {d d' : DV} {r : List (Nat × DV)} (h : look e t = some d) (hle : DLe d (d'.ren f)) (k : EnvOk f e r) : EnvOk f e ((t,d') :: r)
inductive HLe : HE→HE→Prop
 | refl (e : HE) : HLe e e
 | blk {T : TypeId} {ds ds' : List DV} (h : DLeL ds ds') : HLe (.blk T ds) (.blk T ds')
theorem HLe.ent {F : FMap} {γ : Gam} {w : World} {e e' : HE} (h : HLe e e') {g : Value} (k : Ent F γ w e g) : Ent F γ w e' g:=by
 cases h with
 | refl=>exact k
 | blk h=>obtain ⟨b,cs,k1,k2,k3⟩ := k; exact ⟨b,cs,k1,k2,h.rsL k3⟩
inductive HeapOk (f : Nat→Nat) (h : Heap) : Heap→Prop
 | nil : HeapOk f h []
 | cons {i : Nat} {e e' : HE} {r : Heap} (he : hget h (f i) = some e) (hle : HLe e (e'.ren f)) (k : HeapOk f h r) : HeapOk f h ((i,some e') :: r)
theorem EnvOk.spec {f : Nat→Nat} {e e' : List (Nat × DV)} (h : EnvOk f e e') : ∀ t d',look e' t = some d'→∃ d,look e t = some d∧DLe d (d'.ren f):=by
 induction h with
 | nil=>intro t d' h; simp [look] at h
 | cons h hle k ih=>
  intro t d' hd
  rw [look_cons] at hd
  split at hd
  ·rename_i e1; subst e1; injection hd with hd; subst hd; exact ⟨_,h,hle⟩
  ·exact ih t d' hd
theorem HeapOk.spec {f : Nat→Nat} {h h' : Heap} (k : HeapOk f h h') : ∀ i e',hget h' i = some e'→∃ e,hget h (f i) = some e∧HLe e (e'.ren f):=by
 induction k with
 | nil=>intro i e he; simp [hget,look] at he
 | cons he hle k ih=>
  intro i e hi
  rw [hget_cons] at hi
  split at hi
  ·rename_i e1; subst e1; injection hi with hi; subst hi; exact ⟨_,he,hle⟩
  ·exact ih i e hi
def memB (x : Nat) (l : List Nat) : Bool:=l.any (Nat.beq x)
def usedOk (f : Nat→Nat) (u u' : List Nat) : Bool:=u.all fun i=>Nat.blt i 100000 || (Nat.beq (f i) i && memB i u')
def idsOk (σ : AS) : Bool:=(σ.env.all fun p=>p.2.ids.all fun i=>memB i σ.used) && (σ.heap.all fun p=>memB p.1 σ.used && match p.2 with
 | some e=>e.ids.all fun i=>memB i σ.used
 | none=>true)
theorem Imp.of {σ σ' : AS} (f : Nat→Nat) (he : EnvOk f σ.env σ'.env) (hh : HeapOk f σ.heap σ'.heap) (hu : usedOk f σ.used σ'.used = true) (hi : injOk f (σ'.heap.map (·.1)) = true) (hc : idsOk σ' = true) : Imp σ σ' := by
 intro C F γ a w hs
 simp only [idsOk,Bool.and_eq_true,List.all_eq_true] at hc
 let γ' : Gam:=fun i=>if i∈σ'.used then γ (f i) else none
 have gam : ∀ {i},i∈σ'.used→γ (f i) = γ' i:=fun h=>(if_pos h : γ' _ = γ (f _)).symm
 have mem : ∀ {i e},hget σ'.heap i = some e→i∈σ'.used:=fun h=>any_beq (hc.2 _ (hget_mem h)).1
 have memk : ∀ {i e},hget σ'.heap i = some e→i∈σ'.heap.map (·.1):=fun h=>List.mem_map.2 ⟨_,hget_mem h,rfl⟩
 have idsE : ∀ {i e},hget σ'.heap i = some e→∀ x∈e.ids,γ (f x) = γ' x:=fun h x hx=>gam (any_beq (by
  have:=(hc.2 _ (hget_mem h)).2
  simp only [List.all_eq_true] at this
  exact this x hx))
 have inj:=injOk_spec hi
 refine ⟨F,γ',fun t d hd=>?_,?_,hs.size,hs.defers⟩
 ·obtain ⟨d0,h1,h2⟩ := he.spec t d hd
  have:=hs.env t d0 h1
  refine ⟨this.1,(Rs_ren f d _ (fun x hx=>gam (any_beq (hc.1 _ (look_mem hd) x hx)))).1 (h2 _ _ _ this.2)⟩
 ·exact {
   ent:=fun i e h=>by
    obtain ⟨e0,h1,h2⟩ := hh.spec i e h
    obtain ⟨g,k1,k2⟩ := hs.ws.ent _ _ h1
    exact ⟨g,(gam (mem h)).symm.trans k1,(Ent_ren f (idsE h)).1 (h2.ent k2)⟩
   own:=fun i e g b h hg hb=>by
    obtain ⟨e0,h1,h2⟩ := hh.spec i e h
    exact hs.ws.own _ e0 g b h1 ((gam (mem h)).trans hg) hb
   apart:=fun i j e e' g g' b h h' hg hg' hb hb'=>by
    obtain ⟨e0,h1,_⟩ := hh.spec i e h
    obtain ⟨e1,h1',_⟩ := hh.spec j e' h'
    exact inj i (memk h) j (memk h') (hs.ws.apart _ _ e0 e1 g g' b h1 h1' ((gam (mem h)).trans hg) ((gam (mem h')).trans hg') hb hb')
   fs:=hs.ws.fs,f0:=hs.ws.f0,fnew:=hs.ws.fnew,os:=hs.ws.os,tape:=hs.ws.tape,output:=hs.ws.output,size:=hs.ws.size,keep:=hs.ws.keep
   us:=fun i g h=>by
    simp only [γ'] at h
    split at h
    ·assumption
    ·cases h
   gone:=fun i g h=>by
    simp only [γ'] at h
    split at h
    ·exact hs.ws.gone _ _ h
    ·cases h
   g0:=fun i g h=>by
    have h1:=hs.ws.g0 i g h
    have h2:=hs.ws.gk i g h
    have h3:=List.all_eq_true.1 hu i (hs.ws.us i g h1)
    simp only [Bool.or_eq_true,Bool.and_eq_true,Nat.blt_eq] at h3
    rcases h3 with h3 | ⟨h3,h4⟩
    ·omega
    ·have e : f i = i:=Nat.eq_of_beq_eq_true h3
     show γ' i = some g
     rw [← gam (any_beq h4),e]; exact h1
   gk:=hs.ws.gk }
inductive EnvLe (e : List (Nat × DV)) : List (Nat × DV)→Prop
 | nil : EnvLe e []
 | cons {t : Nat} {d d' : DV} {r : List (Nat × DV)} (h : look e t = some d) (hle : DLe d d') (k : EnvLe e r) : EnvLe e ((t,d') :: r)
theorem EnvLe.spec {e e' : List (Nat × DV)} (h : EnvLe e e') : ∀ t d',look e' t = some d'→∃ d,look e t = some d∧DLe d d' := by
 induction h with
 | nil=>intro t d' h; simp [look] at h
 | cons h hle k ih=>
  intro t d' hd
  rw [look_cons] at hd
  split at hd
  ·rename_i e1; subst e1; injection hd with hd; subst hd; exact ⟨_,h,hle⟩
  ·exact ih t d' hd
theorem Imp.le {σ : AS} {env' : List (Nat × DV)} (he : EnvLe σ.env env') : Imp σ ⟨env',σ.heap,σ.used⟩ := fun C F γ a w hs=>
 ⟨F,γ,fun t d hd=>by
  obtain ⟨d0,h1,h2⟩ := he.spec t d hd
  have:=hs.env t d0 h1
  exact ⟨this.1,h2 _ _ _ this.2⟩,hs.ws,hs.size,hs.defers⟩
theorem Imp.nilRow {σ : AS} {t id : Nat} (E sz : Nat) (ht : look σ.env t = some .nils) (hi : memB id σ.used = false) : Imp σ ⟨(t,.row id) :: σ.env,(id,some (.row E sz [])) :: σ.heap,id :: σ.used⟩ := fun C F γ a w hs=>by
 have hn : id ∉ σ.used:=fun h=>by
  have : memB id σ.used = true:=List.any_eq_true.2 ⟨id,h,by simp⟩
  rw [hi] at this; cases this
 have hle:=Gam.up_le (.slice none 0 0) (hs.ws.fresh hn)
 have W:=hs.ws.add hn (e0:=.row E sz []) (g:=.slice none 0 0) ⟨[],own_nil _ _ _ _,by simp [RsE]⟩ (fun b hb=>by simp [Value.pblk] at hb)
 refine ⟨F,_,fun t' d hd=>?_,W,hs.size,hs.defers⟩
 simp only at hd
 rw [look_cons] at hd
 have h0:=hs.env t _ ht
 split at hd
 ·rename_i e1; subst e1; injection hd with hd; subst hd
  refine ⟨h0.1,?_⟩
  have:=h0.2
  simp only [Rs] at this ⊢
  rw [this]; exact Gam.up_same _ _ _
 ·exact ⟨(hs.env t' d hd).1,(hs.env t' d hd).2.mono (FLe.refl _) hle⟩
mutual
def DV.frz (id sz : Nat) (els : List DV) : DV→DV
 | .row i=>bif Nat.beq i id then .sl sz els else .row i
 | .agg ds=>.agg (frzL id sz els ds)
 | .tup ds=>.tup (frzL id sz els ds)
 | .ifb b d=>.ifb b (d.frz id sz els)
 | .clo f ds=>.clo f (frzL id sz els ds)
 | .int k n=>.int k n
 | .bool b=>.bool b
 | .str s=>.str s
 | .val v=>.val v
 | .nils=>.nils
 | .sl s e=>.sl s e
 | .eptr ds=>.eptr ds
 | .ref i o=>.ref i o
 | .rp i j s o=>.rp i j s o
 | .bsl i o n=>.bsl i o n
def frzL (id sz : Nat) (els : List DV) : List DV→List DV
 | []=>[]
 | d :: ds=>d.frz id sz els :: frzL id sz els ds
end
mutual
theorem Rs_frz {F F' : FMap} {γ : Gam} {id sz : Nat} {els : List DV} (hF : FLe F F') (h : ∀ v,γ id = some v→Rs F' γ (.sl sz els) v) : ∀ (d : DV) (v : Value),Rs F γ d v→Rs F' γ (d.frz id sz els) v
 | .row i,v,hd=>by
  simp only [Rs] at hd
  simp only [DV.frz]
  by_cases e : i = id
  ·subst e
   have : Nat.beq i i = true:=by simp
   rw [this]; exact h v hd
  ·have : Nat.beq i id = false:=by rw [Bool.eq_false_iff]; intro e'; exact e (Nat.eq_of_beq_eq_true e')
   rw [this]; simp only [cond_false,Rs]; exact hd
 | .agg ds,v,hd=>by simp only [Rs,DV.frz] at hd ⊢; obtain ⟨cs,rfl,hd⟩ := hd; exact ⟨cs,rfl,RsL_frz hF h ds _ hd⟩
 | .tup ds,v,hd=>by simp only [Rs,DV.frz] at hd ⊢; obtain ⟨cs,rfl,hd⟩ := hd; exact ⟨cs,rfl,RsT_frz hF h ds _ hd⟩
 | .ifb b d,v,hd=>by simp only [Rs,DV.frz] at hd ⊢; exact ⟨fun e=>Rs_frz hF h d v (hd.1 e),hd.2⟩
 | .clo f ds,v,hd=>by simp only [Rs,DV.frz] at hd ⊢; obtain ⟨cs,rfl,hd⟩ := hd; exact ⟨cs,rfl,RsT_frz hF h ds _ hd⟩
 | .int k n,v,hd=>hd.mono hF (GLe.refl _)
 | .bool b,v,hd=>hd.mono hF (GLe.refl _)
 | .str s,v,hd=>hd.mono hF (GLe.refl _)
 | .val x,v,hd=>hd.mono hF (GLe.refl _)
 | .nils,v,hd=>hd.mono hF (GLe.refl _)
 | .sl s e,v,hd=>hd.mono hF (GLe.refl _)
 | .eptr ds,v,hd=>hd.mono hF (GLe.refl _)
 | .ref i o,v,hd=>hd.mono hF (GLe.refl _)
 | .rp i j s o,v,hd=>hd.mono hF (GLe.refl _)
 | .bsl i o n,v,hd=>hd.mono hF (GLe.refl _)
theorem RsL_frz {F F' : FMap} {γ : Gam} {id sz : Nat} {els : List DV} (hF : FLe F F') (h : ∀ v,γ id = some v→Rs F' γ (.sl sz els) v) : ∀ (ds : List DV) (vs : List Value),RsL F γ ds vs→RsL F' γ (frzL id sz els ds) vs
 | [],vs,hd=>by simp only [RsL,frzL] at hd ⊢; exact hd
 | d :: ds,vs,hd=>by
  simp only [RsL,frzL] at hd ⊢
  obtain ⟨v,rest,h1,h2,h3,h4⟩ := hd
  exact ⟨v,rest,h1,h2,Rs_frz hF h d v h3,RsL_frz hF h ds _ h4⟩
theorem RsT_frz {F F' : FMap} {γ : Gam} {id sz : Nat} {els : List DV} (hF : FLe F F') (h : ∀ v,γ id = some v→Rs F' γ (.sl sz els) v) : ∀ (ds : List DV) (vs : List Value),RsT F γ ds vs→RsT F' γ (frzL id sz els ds) vs
 | [],vs,hd=>by simp only [RsT,frzL] at hd ⊢; exact hd
 | d :: ds,vs,hd=>by
  simp only [RsT,frzL] at hd ⊢
  obtain ⟨v,rest,h1,h3,h4⟩ := hd
  exact ⟨v,rest,h1,Rs_frz hF h d v h3,RsT_frz hF h ds _ h4⟩
end
def HE.frz (id sz : Nat) (els : List DV) : HE→HE
 | .blk T ds=>.blk T (frzL id sz els ds)
 | .row E s e=>.row E s e
 | .obj o=>.obj o
def frzE (id sz : Nat) (els : List DV) (e : List (Nat × DV)) : List (Nat × DV):=e.map fun p=>(p.1,p.2.frz id sz els)
def frzH (id sz : Nat) (els : List DV) (h : Heap) : Heap:=h.map fun p=>(p.1,p.2.map (HE.frz id sz els))
theorem look_map {α β : Type} (g : α→β) : ∀ (l : List (Nat × α)) (t : Nat),look (l.map fun p=>(p.1,g p.2)) t = (look l t).map g
 | [],t=>rfl
 | (k,x) :: l,t=>by
  rw [List.map_cons,look_cons,look_cons,look_map g l t]
  split <;> rfl
theorem Imp.freeze {σ : AS} {id E sz : Nat} {els : List DV} (hh : hget σ.heap id = some (.row E sz els)) : Imp σ ⟨frzE id sz els σ.env,(id,none) :: frzH id sz els σ.heap,σ.used⟩ := fun C F γ a w hs=>by
 obtain ⟨g,hg,_⟩ := hs.ws.ent id _ hh
 obtain ⟨F',f1,f2,f3⟩ := hs.ws.freeze hh hg
 have h : ∀ v,γ id = some v→Rs F' γ (.sl sz els) v:=fun v hv=>by rw [hg] at hv; injection hv with hv; subst hv; exact f3
 refine ⟨F',γ,fun t d hd=>?_,?_,hs.size,hs.defers⟩
 ·simp only [frzE] at hd
  rw [look_map (fun d=>DV.frz id sz els d)] at hd
  cases hl : look σ.env t with
  | none=>rw [hl] at hd; cases hd
  | some d0=>
   rw [hl] at hd; injection hd with hd; subst hd
   exact ⟨(hs.env t d0 hl).1,Rs_frz f1 h d0 _ (hs.env t d0 hl).2⟩
 ·have key : ∀ i e,hget ((id,none) :: frzH id sz els σ.heap) i = some e→∃ e0,hget ((id,none) :: σ.heap) i = some e0∧e = e0.frz id sz els:=by
   intro i e hi
   rw [hget_cons] at hi ⊢
   split at hi
   ·cases hi
   ·unfold hget at hi ⊢
    simp only [frzH] at hi
    rw [look_map (fun x=>Option.map (HE.frz id sz els) x)] at hi
    cases hl : look σ.heap i with
    | none=>rw [hl] at hi; simp at hi
    | some x=>
     rw [hl] at hi
     cases x with
     | none=>simp at hi
     | some e0=>
      simp at hi
      rename_i hne
      exact ⟨e0,by rw [if_neg hne],hi.symm⟩
  exact {
   ent:=fun i e hi=>by
    obtain ⟨e0,k1,rfl⟩ := key i e hi
    have k0 : hget σ.heap i = some e0:=by
     rw [hget_cons] at k1
     split at k1
     ·cases k1
     ·exact k1
    obtain ⟨g',q1,q2⟩ := hs.ws.ent i e0 k0
    refine ⟨g',q1,?_⟩
    cases e0 with
    | blk T ds=>obtain ⟨b,cs,r1,r2,r3⟩ := q2; exact ⟨b,cs,r1,r2,RsL_frz f1 h ds _ r3⟩
    | row E' s e'=>obtain ⟨vs,r1,r2⟩ := q2; exact ⟨vs,r1,r2.mono f1⟩
    | obj o=>exact q2
   own:=fun i e g' b hi=>by obtain ⟨e0,k1,_⟩ := key i e hi; exact f2.own i e0 g' b k1
   apart:=fun i j e e' g1 g2 b hi hj=>by
    obtain ⟨e0,k1,_⟩ := key i e hi
    obtain ⟨e1,k2,_⟩ := key j e' hj
    exact f2.apart i j e0 e1 g1 g2 b k1 k2
   fs:=f2.fs,f0:=f2.f0,fnew:=f2.fnew,os:=f2.os,tape:=f2.tape,output:=f2.output,size:=f2.size,keep:=f2.keep,us:=f2.us,gone:=f2.gone,g0:=f2.g0,gk:=f2.gk }
end Go.Proofs.YtepkcbalmjnhpaaGreatDoor
/-! ### part P -/
/-
 My engine,part P: pointers against nil.
-/
namespace Go.Proofs.YtepkcbalmjnhpaaGreatDoor
open Go.RowKit
class TPtr (P : Program) (t : TypeId) : Prop where
 h : ∃ e,P.underlying t = some (.pointer e)
section
variable {P : Program} {ops : Array Oper} {σ : AS} {t : Nat} {ty : TypeId} {pos : String} {af : Array Edge}
theorem run_eq_ptr {T : TypeId} [hT : TPtr P T] (a : Option Addr) (w : World) : (Op.equal T (.pointer a) (.pointer none)).run P w = .ok a.isNone w:=by
 obtain ⟨e,he⟩ := hT.h
 have : ∀ n,(Op.equalIn (n + 1) T (.pointer a) (.pointer none)).run P w = .ok a.isNone w:=fun n=>by cases a <;> simp [Op.equalIn,run_underlying he]
 exact this 9999
theorem run_ptr_eql {T T' : TypeId} [hT : TPtr P T] {a : Act} {x : Operand} {A : Option Addr} (hx : a.eval x = .pointer A) (w : World) : (execOp a.eval ⟨some t,.binOp .eql T x (.const (.pointer none)) T',ty,pos,af,none⟩).run P w = .ok (.value (.bool A.isNone)) w:=by
 have e0 : a.eval (.const (.pointer none)) = .pointer none:=rfl
 have e : binOp .eql T (.pointer A) (.pointer none) = (do pure (.bool (← Op.equal T (.pointer A) (.pointer none)))):=by cases A <;> rfl
 have e2 : eqGuard .eql T x (.const (.pointer none)) (.pointer A) (.pointer none) = pure ():=rfl
 simp only [execOp,hx,e0,e,e2,Sem.run_bind,Sem.run_pure,Result.andThen_ok,run_eq_ptr]
theorem run_ptr_neq {T T' : TypeId} [hT : TPtr P T] {a : Act} {x : Operand} {A : Option Addr} (hx : a.eval x = .pointer A) (w : World) : (execOp a.eval ⟨some t,.binOp .neq T x (.const (.pointer none)) T',ty,pos,af,none⟩).run P w = .ok (.value (.bool (!A.isNone))) w:=by
 have e0 : a.eval (.const (.pointer none)) = .pointer none:=rfl
 have e : binOp .neq T (.pointer A) (.pointer none) = (do pure (.bool (!(← Op.equal T (.pointer A) (.pointer none))))):=by cases A <;> rfl
 have e2 : eqGuard .neq T x (.const (.pointer none)) (.pointer A) (.pointer none) = pure ():=rfl
 simp only [execOp,hx,e0,e,e2,Sem.run_bind,Sem.run_pure,Result.andThen_ok,run_eq_ptr]
theorem o_ptr_eq {T T' : TypeId} [hT : TPtr P T] {x : Operand} {id off : Nat} (hx : ev σ.env x = some (.ref id off)) : OpG P ops ⟨some t,.binOp .eql T x (.const (.pointer none)) T',ty,pos,af,none⟩ (tm x) [] σ ⟨[(t,.bool false)],[],[]⟩ :=
 OpG.val rfl rfl fun C F γ σ' a w h1 h2 hs=>by
  have k1:=hs.ev ((ev_agree h1 (fun _ h=>h)).trans hx)
  simp only [Rs] at k1
  obtain ⟨b,hg,e⟩ := k1
  exact ⟨_,run_ptr_eql e w,by simp only [Rs]; rfl⟩
theorem o_ptr_ne {T T' : TypeId} [hT : TPtr P T] {x : Operand} {id off : Nat} (hx : ev σ.env x = some (.ref id off)) : OpG P ops ⟨some t,.binOp .neq T x (.const (.pointer none)) T',ty,pos,af,none⟩ (tm x) [] σ ⟨[(t,.bool true)],[],[]⟩ :=
 OpG.val rfl rfl fun C F γ σ' a w h1 h2 hs=>by
  have k1:=hs.ev ((ev_agree h1 (fun _ h=>h)).trans hx)
  simp only [Rs] at k1
  obtain ⟨b,hg,e⟩ := k1
  exact ⟨_,run_ptr_neq e w,by simp only [Rs]; rfl⟩
theorem o_nil_eq {T T' : TypeId} [hT : TPtr P T] {x : Operand} (hx : ev σ.env x = some (.val (.pointer none))) : OpG P ops ⟨some t,.binOp .eql T x (.const (.pointer none)) T',ty,pos,af,none⟩ (tm x) [] σ ⟨[(t,.bool true)],[],[]⟩ :=
 OpG.val rfl rfl fun C F γ σ' a w h1 h2 hs=>by
  have k1:=hs.ev ((ev_agree h1 (fun _ h=>h)).trans hx)
  simp only [Rs] at k1
  exact ⟨_,run_ptr_eql k1 w,by simp only [Rs]; rfl⟩
theorem o_nil_ne {T T' : TypeId} [hT : TPtr P T] {x : Operand} (hx : ev σ.env x = some (.val (.pointer none))) : OpG P ops ⟨some t,.binOp .neq T x (.const (.pointer none)) T',ty,pos,af,none⟩ (tm x) [] σ ⟨[(t,.bool false)],[],[]⟩ :=
 OpG.val rfl rfl fun C F γ σ' a w h1 h2 hs=>by
  have k1:=hs.ev ((ev_agree h1 (fun _ h=>h)).trans hx)
  simp only [Rs] at k1
  exact ⟨_,run_ptr_neq k1 w,by simp only [Rs]; rfl⟩
theorem o_makeFunc {f : FuncId} {xs : Array Operand} {ds : List DV} (hx : evL σ.env xs.toList = some ds) : OpG P ops ⟨some t,.makeFunc (.func f) #[] xs,ty,pos,af,none⟩ (xs.toList.flatMap tm) [] σ ⟨[(t,.clo f ds)],[],[]⟩ :=
 OpG.val rfl rfl fun C F γ σ' a w h1 h2 hs=>by
  have k1:=hs.evs ((evL_agree h1 (fun _ h=>h)).trans hx)
  refine ⟨.func (.func f) #[] (xs.map a.eval),by simp [execOp,Instr.makeFunc],?_⟩
  simp only [Rs]
  exact ⟨_,rfl,by rw [Array.toList_map]; exact k1⟩
inductive RoOk (pre : Heap) : Heap→Prop
 | nil : RoOk pre []
 | cons {i : Nat} {e : HE} {r : Heap} (h : hget pre i = some e) (k : RoOk pre r) : RoOk pre ((i,some e) :: r)
theorem RoOk.spec {pre r : Heap} (k : RoOk pre r) : ∀ p∈r,∃ e,p.2 = some e∧hget pre p.1 = some e:=by
 induction k with
 | nil=>intro p hp; cases hp
 | cons h k ih=>
  intro p hp
  rcases List.mem_cons.1 hp with rfl | hp
  ·exact ⟨_,rfl,h⟩
  ·exact ih p hp
theorem hget_append (a b : Heap) (i : Nat) : hget (a++b) i = match look a i with
  | some x=>x
  | none=>hget b i:=by
 unfold hget
 rw [look_append]
 cases look a i with
 | none=>rfl
 | some x=>cases x <;> rfl
theorem o_callV {fn : FuncId} [hf : CFn P fn] {x : Operand} {caps : List DV} {xs : Array Operand} {ats : Array TypeId} {K : Con} (f : Nat→Nat) (n : Nat) (hc : ACall P fn K) {ds : List DV} (hx : ev σ.env x = some (.clo fn caps)) (ha : evL σ.env xs.toList = some ds) (hle : DLeL (ds++caps) (renL f K.args)) (hpre : PreOk f σ.heap K.pre) (hi : injOk f (K.pre.map (·.1)++K.new) = true) (hro : RoOk K.pre (K.post.drop n)) :
  OpG P ops ⟨some t,.call ⟨.value x,xs,ats⟩,ty,pos,af,none⟩ (tm x++xs.toList.flatMap tm) (K.pre.map (fun p=>f p.1)) σ ⟨[(t,K.res.ren f)],renH f (K.post.take n),K.new.map f⟩ := by
 intro C F γ σ' a w h1 h2 h3 h4 hs K' Q hK
 simp only [Region.wanted,↓reduceIte]
 have kx:=hs.ev ((ev_agree h1 (fun _ h=>List.mem_append_left _ h)).trans hx)
 simp only [Rs] at kx
 obtain ⟨cs,ex,hcs⟩ := kx
 have ka:=hs.evs ((evL_agree h1 (fun _ h=>List.mem_append_right _ h)).trans ha)
 have hrun : (execOp a.eval ⟨some t,.call ⟨.value x,xs,ats⟩,ty,pos,af,none⟩).run P w = .ok (.enter fn (xs.map a.eval++cs)) w:=by
  simp [execOp,resolve,ex,Deferred.ofValue,invoke,run_callFunc]
 refine wpIn_of_enter (fun c hc=>by cases hc) hrun ?_
 have hv : RsT F γ (ds++caps) (xs.toList.map a.eval++cs.toList):=by
  have gen : ∀ {d1 d2 : List DV} {v1 v2 : List Value},RsT F γ d1 v1→RsT F γ d2 v2→RsT F γ (d1++d2) (v1++v2):=by
   intro d1
   induction d1 with
   | nil=>intro d2 v1 v2 q1 q2; simp only [RsT] at q1; rw [q1]; exact q2
   | cons d d1 ih=>
    intro d2 v1 v2 q1 q2
    simp only [RsT] at q1
    obtain ⟨v,rest,rfl,q3,q4⟩ := q1
    simp only [List.cons_append,RsT]
    exact ⟨v,rest++v2,rfl,q3,ih q4 q2⟩
  exact gen ka hcs
 have e : (xs.toList.map a.eval++cs.toList).toArray = xs.map a.eval++cs:=by rw [← Array.toList_map,← Array.toList_append]
 have hpre' : ∀ i e,hget K.pre i = some e→hget σ'.heap (f i) = some (e.ren f):=fun i e he=>by
  rw [h2 (f i) (List.mem_map.2 ⟨_,hget_mem he,rfl⟩)]; exact hpre.spec i e he
 have:=hc C F γ σ'.heap σ'.used w _ f hpre' (fun i hin=>h3 (f i) (List.mem_map.2 ⟨i,hin,rfl⟩)) (injOk_spec hi) hs.ws (hle.rsT hv)
 rw [e] at this
 refine this.mono ?_
 rintro e w' ⟨v,F',γ',rfl,k1,k2,k3,k4⟩
 refine ⟨v,rfl,hK F' γ' _ _ k1 ((hs.mono k1 k2 (k3.congr (fun i e he=>?_) (fun _ h=>h))).put (h4 t rfl) k4)⟩
 have hsplit : renH f K.post = renH f (K.post.take n)++renH f (K.post.drop n):=by
  unfold renH; rw [← List.map_append,List.take_append_drop]
 rw [hsplit,List.append_assoc,hget_append]
 rw [hget_append] at he
 cases hl : look (renH f (K.post.take n)) i with
 | some y=>rw [hl] at he; exact he
 | none=>
  rw [hl] at he
  simp only at he ⊢
  rw [hget_append]
  cases hl2 : look (renH f (K.post.drop n)) i with
  | none=>exact he
  | some y=>
   simp only
   have hm:=look_mem hl2
   unfold renH at hm
   obtain ⟨p,hp1,hp2⟩ := List.mem_map.1 hm
   obtain ⟨e0,q1,q2⟩ := hro.spec p hp1
   injection hp2 with r1 r2
   rw [q1] at r2
   have:=hpre' p.1 e0 q2
   rw [r1,he] at this
   rw [← r2,Option.map_some]; exact this.symm
theorem o_callN {fn : FuncId} [hf : CFn P fn] {xs : Array Operand} {ats : Array TypeId} {K : Con} (f : Nat→Nat) (n : Nat) (hc : ACall P fn K) {ds : List DV} (ha : evL σ.env xs.toList = some ds) (hle : DLeL ds (renL f K.args)) (hpre : PreOk f σ.heap K.pre) (hi : injOk f (K.pre.map (·.1)++K.new) = true) (hro : RoOk K.pre (K.post.drop n)) :
  OpG P ops ⟨some t,.call ⟨.value (.func fn),xs,ats⟩,ty,pos,af,none⟩ (xs.toList.flatMap tm) (K.pre.map (fun p=>f p.1)) σ ⟨[(t,K.res.ren f)],renH f (K.post.take n),K.new.map f⟩ := by
 intro C F γ σ' a w h1 h2 h3 h4 hs K' Q hK
 have:=o_callA (ops:=ops) (σ:=σ) (t:=t) (ty:=ty) (pos:=pos) (af:=af) (xs:=xs) (ats:=ats) f hc ha hle hpre hi C F γ σ' a w h1 h2 h3 h4 hs K' Q (fun F' γ' a' w' hF hs'=>hK F' γ' a' w' hF ?_)
 ·exact this
 ·refine hs'.congr (fun t d h=>h) (fun i e he=>?_) (fun _ h=>h)
  have hpre' : ∀ i e,hget K.pre i = some e→hget σ'.heap (f i) = some (e.ren f):=fun i e he=>by
   rw [h2 (f i) (List.mem_map.2 ⟨_,hget_mem he,rfl⟩)]; exact hpre.spec i e he
  simp only [AS.app] at he ⊢
  have hsplit : renH f K.post = renH f (K.post.take n)++renH f (K.post.drop n):=by
   unfold renH; rw [← List.map_append,List.take_append_drop]
  rw [hsplit,List.append_assoc,hget_append]
  rw [hget_append] at he
  cases hl : look (renH f (K.post.take n)) i with
  | some y=>rw [hl] at he; exact he
  | none=>
   rw [hl] at he
   simp only at he ⊢
   rw [hget_append]
   cases hl2 : look (renH f (K.post.drop n)) i with
   | none=>exact he
   | some y=>
    simp only
    have hm:=look_mem hl2
    unfold renH at hm
    obtain ⟨p,hp1,hp2⟩ := List.mem_map.1 hm
    obtain ⟨e0,q1,q2⟩ := hro.spec p hp1
    injection hp2 with r1 r2
    rw [q1] at r2
    have:=hpre' p.1 e0 q2
    rw [r1,he] at this
    rw [← r2,Option.map_some]; exact this.symm
class CArr (P : Program) (t : TypeId) (n : outParam Nat) (e : outParam TypeId) (sz : outParam Nat) : Prop where
 u : P.underlying t = some (.array n e)
 s : (P.info? e).map (·.size) = some sz
theorem CArr.size {t n e sz : Nat} (h : CArr P t n e sz) (w : World) : (sizeOf e).run P w = .ok sz w:=by
 have:=h.s
 cases hq : P.info? e with
 | none=>simp [hq] at this
 | some i=>
  have hs : i.size = sz:=by simpa [hq] using this
  simp [sizeOf,typeInfo,hq,hs]
theorem o_indexAddr_a {T n e sz : Nat} [hT : CArr P T n e sz] {x y : Operand} {id off : Nat} {k : IntKind} {m : Int} (i : Nat) (hx : ev σ.env x = some (.ref id off)) (hy : ev σ.env y = some (.int k m)) (hm : m = (i : Int)) (hi : i < n) :
  OpG P ops ⟨some t,.indexAddr T x y,ty,pos,af,none⟩ (tm x++tm y) [] σ ⟨[(t,.ref id (off + i * sz))],[],[]⟩ :=
 OpG.val rfl rfl fun C F γ σ' a w hag _ hs=>by
  obtain ⟨k1,k2⟩ := ev2 hs hag hx hy
  simp only [Rs] at k1 k2
  obtain ⟨b,hg,e⟩ := k1
  subst hm
  refine ⟨.pointer (some ⟨b,off + i * sz,none⟩),?_,by simp only [Rs]; exact ⟨b,hg,rfl⟩⟩
  by_cases h0 : i * sz = 0
  ·simp [execOp,Instr.indexAt,e,k2,asIntOf,run_underlying hT.u,Instr.sureAddr,hi,hT.size,Addr.add,h0]
  ·simp [execOp,Instr.indexAt,e,k2,asIntOf,run_underlying hT.u,Instr.sureAddr,hi,hT.size,Addr.add,h0]
theorem o_store_at {T' : TypeId} {x y : Operand} {id off T : Nat} {ds ds' : List DV} {d : DV} [hT : CSize P T' 1] (hx : ev σ.env x = some (.ref id off)) (hy : ev σ.env y = some d) (hh : hget σ.heap id = some (.blk T ds)) (ho : d.one = true) (hl : off < ds.length) (hd : ds.set off d = ds') :
  OpG P ops ⟨none,.store T' x y,ty,pos,af,none⟩ (tm x++tm y) [id] σ ⟨[],[(id,some (.blk T ds'))],[]⟩ := by
 refine o_store (n:=1) hx hy hh ?_ ?_ ?_ ?_
 ·cases d <;> first | rfl | exact ho | (simp [DV.one] at ho)
 ·rw [DV.cs_one ho]; rfl
 ·rw [Nat.ble_eq]; omega
 ·rw [← hd,layD,DV.cs_one ho,List.set_eq_take_append_cons_drop,if_pos hl]; simp
theorem o_store_s {T' : TypeId} {x y : Operand} {id off T : Nat} {ds : List DV} {d : DV} [hT : CSize P T' 1] (hx : ev σ.env x = some (.ref id off)) (hy : ev σ.env y = some d) (hh : hget σ.heap id = some (.blk T ds)) (ho : d.one = true) (hl : Nat.blt off ds.length = true) :
  OpG P ops ⟨none,.store T' x y,ty,pos,af,none⟩ (tm x++tm y) [id] σ ⟨[],[(id,some (.blk T (ds.set off d)))],[]⟩ := o_store_at hx hy hh ho (Nat.blt_eq ▸ hl) rfl
end
set_option maxRecDepth 100000
theorem TRow.of {P : Program} {t n : Nat} (h : (P.underlying t).map (·.isRow) = some true) (hi : (P.info? t).map (·.size) = some n) : TRow P t n:=by
 cases hu : P.underlying t with
 | none=>simp [hu] at h
 | some d=>exact ⟨d,hu,by simpa [hu] using h,hi⟩
theorem TSc.of {P : Program} {t : Nat} (h : (P.underlying t).map (·.isRow) = some false) (hi : (P.info? t).map (·.size) = some 1) : TSc P t:=by
 cases hu : P.underlying t with
 | none=>simp [hu] at h
 | some d=>exact ⟨d,hu,by simpa [hu] using h,hi⟩
def fldOf (P : Program) (t i : Nat) : Option (TypeId × Nat):=match P.underlying t with
 | some (.struct fs)=>(fs[i]?).map fun f=>(f.type,f.offset)
 | _=>none
theorem CFld.of {P : Program} {t i off n : Nat} {ft : TypeId} (h : fldOf P t i = some (ft,off)) (hs : (P.info? ft).map (·.size) = some n) (hp : 0 < n) : CFld P t i off n ft:=by
 refine ⟨?_,hs,hp⟩
 unfold fldOf at h
 split at h
 ·rename_i fs hu
  cases hf : fs[i]? with
  | none=>rw [hf] at h; cases h
  | some f=>rw [hf] at h; injection h with h; injection h with h1 h2; exact ⟨fs,f,hu,hf,h1,h2⟩
 ·cases h
theorem CSl.of {P : Program} {t e sz bytes : Nat} {zd : DV} (hu : P.underlying t = some (.slice e)) (hi : (P.info? e).map (fun i=>(i.zero.map (fun z=>(zeroDV z,z.cells.size)),i.size,i.bytes)) = some (some (zd,sz),sz,bytes)) (hp : 0 < sz) : CSl P t e sz bytes zd:=by
 cases hq : P.info? e with
 | none=>simp [hq] at hi
 | some i=>
  simp only [hq,Option.map_some,Option.some.injEq,Prod.mk.injEq] at hi
  obtain ⟨h1,h2,h3⟩ := hi
  cases hz : i.zero with
  | none=>simp [hz] at h1
  | some z=>
   simp only [hz,Option.map_some,Option.some.injEq,Prod.mk.injEq] at h1
   exact ⟨z,⟨hu,⟨i,hq,hz,h2,h3⟩,h1.2,hp⟩,h1.1⟩
def plOf (P : Program) (t : Nat) : Option (List (Nat × Nat) × Bool):=match P.underlying t with
 | some (.struct fs)=>some (fs.toList.map (fun f=>(f.offset,P.cellsOf f.type)),fs.toList.all fun f=>(P.info? f.type).isSome)
 | _=>none
theorem CPl.ofS {P : Program} {t : Nat} {zs : List DV} {pl : List (Nat × Nat)} (hz : CZero P t zs) (h : plOf P t = some (pl,true)) : CPl P t zs pl:=by
 refine ⟨hz,.inl ?_⟩
 unfold plOf at h
 split at h
 ·rename_i fs hu
  injection h with h; injection h with h1 h2
  exact ⟨fs,hu,fun f hf=>List.all_eq_true.1 h2 f hf,h1⟩
 ·cases h
theorem CPl.ofA {P : Program} {t n e s : Nat} {zs : List DV} (hz : CZero P t zs) (h : P.underlying t = some (.array n e)) (hs : (P.info? e).map (·.size) = some s) : CPl P t zs ((List.range n).map fun i=>(i * s,s)) := ⟨hz,.inr ⟨n,e,s,h,hs,rfl⟩⟩
instance sz2 : CSize Tryz.prog 2 1 := ⟨by kernel_rfl⟩
instance ti2 : TInt Tryz.prog 2 .i64 := ⟨by kernel_rfl⟩
instance sz3 : CSize Tryz.prog 3 1 := ⟨by kernel_rfl⟩
instance ze3 : CZero Tryz.prog 3 ([.int .i64 0]) := ⟨by kernel_rfl⟩
instance ti3 : TInt Tryz.prog 3 .i64 := ⟨by kernel_rfl⟩
instance sc3 : CSc Tryz.prog 3 := ⟨TSc.of (by kernel_rfl) (by kernel_rfl)⟩
instance sz4 : CSize Tryz.prog 4 1 := ⟨by kernel_rfl⟩
instance sc4 : CSc Tryz.prog 4 := ⟨TSc.of (by kernel_rfl) (by kernel_rfl)⟩
instance ti5 : TInt Tryz.prog 5 .u8 := ⟨by kernel_rfl⟩
instance sc5 : CSc Tryz.prog 5 := ⟨TSc.of (by kernel_rfl) (by kernel_rfl)⟩
instance sz25 : CSize Tryz.prog 25 1 := ⟨by kernel_rfl⟩
instance ze25 : CZero Tryz.prog 25 ([.nils]) := ⟨by kernel_rfl⟩
instance sc25 : CSc Tryz.prog 25 := ⟨TSc.of (by kernel_rfl) (by kernel_rfl)⟩
instance sl25 : CSl Tryz.prog 25 51 29 248 (.agg ([.int .i64 0,.int .u64 0,.int .u64 0,.int .u64 0,.int .u64 0,.int .u64 0,.int .u64 0,.int .u64 0,.int .u64 0,.int .u64 0,.int .u64 0,.int .u64 0,.int .u64 0,.int .u64 0,.int .u64 0,.int .u64 0,.int .u64 0,.int .u64 0,.int .u8 0,.int .i64 0,.int .i64 0,.int .u8 0,.int .i64 0,.int .i64 0,.int .i64 0,.int .i64 0,.int .i64 0,.nils,.int .u64 0])):=.of (by kernel_rfl) (by kernel_rfl) (by decide)
instance sz26 : CSize Tryz.prog 26 1 := ⟨by kernel_rfl⟩
instance sc26 : CSc Tryz.prog 26 := ⟨TSc.of (by kernel_rfl) (by kernel_rfl)⟩
instance sz34 : CSize Tryz.prog 34 2 := ⟨by kernel_rfl⟩
instance ze34 : CZero Tryz.prog 34 ([.int .i64 0,.int .i64 0]) := ⟨by kernel_rfl⟩
instance ro34 : CRow Tryz.prog 34 2 := ⟨TRow.of (by kernel_rfl) (by kernel_rfl)⟩
instance ar34 : CArr Tryz.prog 34 2 3 1 := ⟨by kernel_rfl,by kernel_rfl⟩
instance pl34 : CPl Tryz.prog 34 ([.int .i64 0,.int .i64 0]) ((List.range 2).map fun i=>(i * 1,1)):=.ofA (e:=3) inferInstance (by kernel_rfl) (by kernel_rfl)
instance sz37 : CSize Tryz.prog 37 1 := ⟨by kernel_rfl⟩
instance ze37 : CZero Tryz.prog 37 ([.nils]) := ⟨by kernel_rfl⟩
instance sc37 : CSc Tryz.prog 37 := ⟨TSc.of (by kernel_rfl) (by kernel_rfl)⟩
instance sl37 : CSl Tryz.prog 37 5 1 1 (.int .u8 0):=.of (by kernel_rfl) (by kernel_rfl) (by decide)
instance sz41 : CSize Tryz.prog 41 1 := ⟨by kernel_rfl⟩
instance ti41 : TInt Tryz.prog 41 .u64 := ⟨by kernel_rfl⟩
instance sc41 : CSc Tryz.prog 41 := ⟨TSc.of (by kernel_rfl) (by kernel_rfl)⟩
instance ar42 : CArr Tryz.prog 42 16 41 1 := ⟨by kernel_rfl,by kernel_rfl⟩
instance sz44 : CSize Tryz.prog 44 16 := ⟨by kernel_rfl⟩
instance ze44 : CZero Tryz.prog 44 ([.int .u64 0,.int .u64 0,.int .u64 0,.int .u64 0,.int .u64 0,.int .u64 0,.int .u64 0,.int .u64 0,.int .u64 0,.int .u64 0,.int .u64 0,.int .u64 0,.int .u64 0,.int .u64 0,.int .u64 0,.int .u64 0]) := ⟨by kernel_rfl⟩
instance ro44 : CRow Tryz.prog 44 16 := ⟨TRow.of (by kernel_rfl) (by kernel_rfl)⟩
instance fl44_0 : CFld Tryz.prog 44 0 0 16 42:=.of (by kernel_rfl) (by kernel_rfl) (by decide)
instance pl44 : CPl Tryz.prog 44 ([.int .u64 0,.int .u64 0,.int .u64 0,.int .u64 0,.int .u64 0,.int .u64 0,.int .u64 0,.int .u64 0,.int .u64 0,.int .u64 0,.int .u64 0,.int .u64 0,.int .u64 0,.int .u64 0,.int .u64 0,.int .u64 0]) [(0,16)]:=.ofS inferInstance (by kernel_rfl)
instance sc45 : CSc Tryz.prog 45 := ⟨TSc.of (by kernel_rfl) (by kernel_rfl)⟩
instance ti46 : TInt Tryz.prog 46 .u8 := ⟨by kernel_rfl⟩
instance sz47 : CSize Tryz.prog 47 1 := ⟨by kernel_rfl⟩
instance sc47 : CSc Tryz.prog 47 := ⟨TSc.of (by kernel_rfl) (by kernel_rfl)⟩
instance sl47 : CSl Tryz.prog 47 2 1 8 (.int .i64 0):=.of (by kernel_rfl) (by kernel_rfl) (by decide)
instance sz49 : CSize Tryz.prog 49 9 := ⟨by kernel_rfl⟩
instance ze49 : CZero Tryz.prog 49 ([.int .i64 0,.int .i64 0,.int .u8 0,.int .i64 0,.int .i64 0,.int .i64 0,.int .i64 0,.int .i64 0,.nils]) := ⟨by kernel_rfl⟩
instance ro49 : CRow Tryz.prog 49 9 := ⟨TRow.of (by kernel_rfl) (by kernel_rfl)⟩
instance fl49_0 : CFld Tryz.prog 49 0 0 1 3:=.of (by kernel_rfl) (by kernel_rfl) (by decide)
instance fl49_3 : CFld Tryz.prog 49 3 3 1 3:=.of (by kernel_rfl) (by kernel_rfl) (by decide)
instance fl49_4 : CFld Tryz.prog 49 4 4 1 3:=.of (by kernel_rfl) (by kernel_rfl) (by decide)
instance fl49_5 : CFld Tryz.prog 49 5 5 1 3:=.of (by kernel_rfl) (by kernel_rfl) (by decide)
instance fl49_6 : CFld Tryz.prog 49 6 6 1 3:=.of (by kernel_rfl) (by kernel_rfl) (by decide)
instance fl49_7 : CFld Tryz.prog 49 7 7 1 2:=.of (by kernel_rfl) (by kernel_rfl) (by decide)
instance fl49_8 : CFld Tryz.prog 49 8 8 1 47:=.of (by kernel_rfl) (by kernel_rfl) (by decide)
instance pl49 : CPl Tryz.prog 49 ([.int .i64 0,.int .i64 0,.int .u8 0,.int .i64 0,.int .i64 0,.int .i64 0,.int .i64 0,.int .i64 0,.nils]) [(0,1),(1,1),(2,1),(3,1),(4,1),(5,1),(6,1),(7,1),(8,1)]:=.ofS inferInstance (by kernel_rfl)
instance sz51 : CSize Tryz.prog 51 29 := ⟨by kernel_rfl⟩
instance ze51 : CZero Tryz.prog 51 ([.int .i64 0,.int .u64 0,.int .u64 0,.int .u64 0,.int .u64 0,.int .u64 0,.int .u64 0,.int .u64 0,.int .u64 0,.int .u64 0,.int .u64 0,.int .u64 0,.int .u64 0,.int .u64 0,.int .u64 0,.int .u64 0,.int .u64 0,.int .u64 0,.int .u8 0,.int .i64 0,.int .i64 0,.int .u8 0,.int .i64 0,.int .i64 0,.int .i64 0,.int .i64 0,.int .i64 0,.nils,.int .u64 0]) := ⟨by kernel_rfl⟩
instance ro51 : CRow Tryz.prog 51 29 := ⟨TRow.of (by kernel_rfl) (by kernel_rfl)⟩
instance fl51_0 : CFld Tryz.prog 51 0 0 1 3:=.of (by kernel_rfl) (by kernel_rfl) (by decide)
instance fl51_1 : CFld Tryz.prog 51 1 1 1 41:=.of (by kernel_rfl) (by kernel_rfl) (by decide)
instance fl51_2 : CFld Tryz.prog 51 2 2 16 44:=.of (by kernel_rfl) (by kernel_rfl) (by decide)
instance fl51_3 : CFld Tryz.prog 51 3 18 1 45:=.of (by kernel_rfl) (by kernel_rfl) (by decide)
instance fl51_4 : CFld Tryz.prog 51 4 19 9 49:=.of (by kernel_rfl) (by kernel_rfl) (by decide)
instance fl51_5 : CFld Tryz.prog 51 5 28 1 41:=.of (by kernel_rfl) (by kernel_rfl) (by decide)
instance pl51 : CPl Tryz.prog 51 ([.int .i64 0,.int .u64 0,.int .u64 0,.int .u64 0,.int .u64 0,.int .u64 0,.int .u64 0,.int .u64 0,.int .u64 0,.int .u64 0,.int .u64 0,.int .u64 0,.int .u64 0,.int .u64 0,.int .u64 0,.int .u64 0,.int .u64 0,.int .u64 0,.int .u8 0,.int .i64 0,.int .i64 0,.int .u8 0,.int .i64 0,.int .i64 0,.int .i64 0,.int .i64 0,.int .i64 0,.nils,.int .u64 0]) [(0,1),(1,1),(2,16),(18,1),(19,9),(28,1)]:=.ofS inferInstance (by kernel_rfl)
instance sz57 : CSize Tryz.prog 57 6 := ⟨by kernel_rfl⟩
instance ze57 : CZero Tryz.prog 57 ([.int .i64 0,.int .u64 0,.int .u64 0,.bool false,.int .i64 0,.int .i64 0]) := ⟨by kernel_rfl⟩
instance ro57 : CRow Tryz.prog 57 6 := ⟨TRow.of (by kernel_rfl) (by kernel_rfl)⟩
instance fl57_0 : CFld Tryz.prog 57 0 0 1 3:=.of (by kernel_rfl) (by kernel_rfl) (by decide)
instance fl57_1 : CFld Tryz.prog 57 1 1 1 41:=.of (by kernel_rfl) (by kernel_rfl) (by decide)
instance fl57_4 : CFld Tryz.prog 57 4 4 1 3:=.of (by kernel_rfl) (by kernel_rfl) (by decide)
instance fl57_5 : CFld Tryz.prog 57 5 5 1 3:=.of (by kernel_rfl) (by kernel_rfl) (by decide)
instance pl57 : CPl Tryz.prog 57 ([.int .i64 0,.int .u64 0,.int .u64 0,.bool false,.int .i64 0,.int .i64 0]) [(0,1),(1,1),(2,1),(3,1),(4,1),(5,1)]:=.ofS inferInstance (by kernel_rfl)
instance ti92 : TInt Tryz.prog 92 .u64 := ⟨by kernel_rfl⟩
instance ti93 : TInt Tryz.prog 93 .u32 := ⟨by kernel_rfl⟩
instance tp99 : TPtr Tryz.prog 99 := ⟨⟨154,by kernel_rfl⟩⟩
instance sl102 : CSl Tryz.prog 102 34 2 16 (.agg ([.int .i64 0,.int .i64 0])):=.of (by kernel_rfl) (by kernel_rfl) (by decide)
instance sl104 : CSl Tryz.prog 104 57 6 48 (.agg ([.int .i64 0,.int .u64 0,.int .u64 0,.bool false,.int .i64 0,.int .i64 0])):=.of (by kernel_rfl) (by kernel_rfl) (by decide)
instance sz123 : CSize Tryz.prog 123 4 := ⟨by kernel_rfl⟩
instance ze123 : CZero Tryz.prog 123 ([.int .i64 0,.int .i64 0,.nils,.bool false]) := ⟨by kernel_rfl⟩
instance fl123_1 : CFld Tryz.prog 123 1 1 1 3:=.of (by kernel_rfl) (by kernel_rfl) (by decide)
instance fl123_2 : CFld Tryz.prog 123 2 2 1 37:=.of (by kernel_rfl) (by kernel_rfl) (by decide)
instance fl123_3 : CFld Tryz.prog 123 3 3 1 4:=.of (by kernel_rfl) (by kernel_rfl) (by decide)
instance pl123 : CPl Tryz.prog 123 ([.int .i64 0,.int .i64 0,.nils,.bool false]) [(0,1),(1,1),(2,1),(3,1)]:=.ofS inferInstance (by kernel_rfl)
instance sc152 : CSc Tryz.prog 152 := ⟨TSc.of (by kernel_rfl) (by kernel_rfl)⟩
instance sl152 : CSl Tryz.prog 152 157 4 64 (.agg ([.nils,.nils,.bool false,.int .u64 0])):=.of (by kernel_rfl) (by kernel_rfl) (by decide)
instance ze154 : CZero Tryz.prog 154 ([.nils]) := ⟨by kernel_rfl⟩
instance fl154_0 : CFld Tryz.prog 154 0 0 1 152:=.of (by kernel_rfl) (by kernel_rfl) (by decide)
instance pl154 : CPl Tryz.prog 154 ([.nils]) [(0,1)]:=.ofS inferInstance (by kernel_rfl)
instance sz155 : CSize Tryz.prog 155 1 := ⟨by kernel_rfl⟩
instance sc155 : CSc Tryz.prog 155 := ⟨TSc.of (by kernel_rfl) (by kernel_rfl)⟩
instance sl155 : CSl Tryz.prog 155 190 2 16 (.agg ([.int .u64 0,.int .u64 0])):=.of (by kernel_rfl) (by kernel_rfl) (by decide)
instance sz157 : CSize Tryz.prog 157 4 := ⟨by kernel_rfl⟩
instance ze157 : CZero Tryz.prog 157 ([.nils,.nils,.bool false,.int .u64 0]) := ⟨by kernel_rfl⟩
instance ro157 : CRow Tryz.prog 157 4 := ⟨TRow.of (by kernel_rfl) (by kernel_rfl)⟩
instance fl157_0 : CFld Tryz.prog 157 0 0 1 25:=.of (by kernel_rfl) (by kernel_rfl) (by decide)
instance fl157_1 : CFld Tryz.prog 157 1 1 1 155:=.of (by kernel_rfl) (by kernel_rfl) (by decide)
instance fl157_2 : CFld Tryz.prog 157 2 2 1 4:=.of (by kernel_rfl) (by kernel_rfl) (by decide)
instance fl157_3 : CFld Tryz.prog 157 3 3 1 41:=.of (by kernel_rfl) (by kernel_rfl) (by decide)
instance pl157 : CPl Tryz.prog 157 ([.nils,.nils,.bool false,.int .u64 0]) [(0,1),(1,1),(2,1),(3,1)]:=.ofS inferInstance (by kernel_rfl)
instance sl162 : CSl Tryz.prog 162 164 2 16 (.agg ([.int .u64 0,.int .u64 0])):=.of (by kernel_rfl) (by kernel_rfl) (by decide)
instance sz164 : CSize Tryz.prog 164 2 := ⟨by kernel_rfl⟩
instance ze164 : CZero Tryz.prog 164 ([.int .u64 0,.int .u64 0]) := ⟨by kernel_rfl⟩
instance ro164 : CRow Tryz.prog 164 2 := ⟨TRow.of (by kernel_rfl) (by kernel_rfl)⟩
instance ar164 : CArr Tryz.prog 164 2 41 1 := ⟨by kernel_rfl,by kernel_rfl⟩
instance pl164 : CPl Tryz.prog 164 ([.int .u64 0,.int .u64 0]) ((List.range 2).map fun i=>(i * 1,1)):=.ofA (e:=41) inferInstance (by kernel_rfl) (by kernel_rfl)
instance tp178 : TPtr Tryz.prog 178 := ⟨⟨211,by kernel_rfl⟩⟩
instance sc178 : CSc Tryz.prog 178 := ⟨TSc.of (by kernel_rfl) (by kernel_rfl)⟩
instance sz190 : CSize Tryz.prog 190 2 := ⟨by kernel_rfl⟩
instance ze190 : CZero Tryz.prog 190 ([.int .u64 0,.int .u64 0]) := ⟨by kernel_rfl⟩
instance ro190 : CRow Tryz.prog 190 2 := ⟨TRow.of (by kernel_rfl) (by kernel_rfl)⟩
instance fl190_0 : CFld Tryz.prog 190 0 0 1 41:=.of (by kernel_rfl) (by kernel_rfl) (by decide)
instance fl190_1 : CFld Tryz.prog 190 1 1 1 41:=.of (by kernel_rfl) (by kernel_rfl) (by decide)
instance pl190 : CPl Tryz.prog 190 ([.int .u64 0,.int .u64 0]) [(0,1),(1,1)]:=.ofS inferInstance (by kernel_rfl)
instance ze211 : CZero Tryz.prog 211 ([.nils,.int .i64 0]) := ⟨by kernel_rfl⟩
instance fl211_0 : CFld Tryz.prog 211 0 0 1 37:=.of (by kernel_rfl) (by kernel_rfl) (by decide)
instance fl211_1 : CFld Tryz.prog 211 1 1 1 26:=.of (by kernel_rfl) (by kernel_rfl) (by decide)
instance pl211 : CPl Tryz.prog 211 ([.nils,.int .i64 0]) [(0,1),(1,1)]:=.ofS inferInstance (by kernel_rfl)
instance sl239 : CSl Tryz.prog 239 25 1 24 (.nils):=.of (by kernel_rfl) (by kernel_rfl) (by decide)
instance sl241 : CSl Tryz.prog 241 155 1 24 (.nils):=.of (by kernel_rfl) (by kernel_rfl) (by decide)
instance fn13 : CFn Tryz.prog 13 := ⟨by kernel_rfl⟩
instance fn14 : CFn Tryz.prog 14 := ⟨by kernel_rfl⟩
instance fn21 : CFn Tryz.prog 21 := ⟨by kernel_rfl⟩
instance fn22 : CFn Tryz.prog 22 := ⟨by kernel_rfl⟩
instance fn36 : CFn Tryz.prog 36 := ⟨by kernel_rfl⟩
instance fn40 : CFn Tryz.prog 40 := ⟨by kernel_rfl⟩
instance fn41 : CFn Tryz.prog 41 := ⟨by kernel_rfl⟩
instance fn42 : CFn Tryz.prog 42 := ⟨by kernel_rfl⟩
instance fn43 : CFn Tryz.prog 43 := ⟨by kernel_rfl⟩
instance fn50 : CFn Tryz.prog 50 := ⟨by kernel_rfl⟩
instance fn52 : CFn Tryz.prog 52 := ⟨by kernel_rfl⟩
instance fn53 : CFn Tryz.prog 53 := ⟨by kernel_rfl⟩
instance fn70 : CFn Tryz.prog 70 := ⟨by kernel_rfl⟩
instance fn73 : CFn Tryz.prog 73 := ⟨by kernel_rfl⟩
instance fn74 : CFn Tryz.prog 74 := ⟨by kernel_rfl⟩
instance fn75 : CFn Tryz.prog 75 := ⟨by kernel_rfl⟩
instance fn76 : CFn Tryz.prog 76 := ⟨by kernel_rfl⟩
instance fn77 : CFn Tryz.prog 77 := ⟨by kernel_rfl⟩
instance fn78 : CFn Tryz.prog 78 := ⟨by kernel_rfl⟩
instance fn79 : CFn Tryz.prog 79 := ⟨by kernel_rfl⟩
instance fn85 : CFn Tryz.prog 85 := ⟨by kernel_rfl⟩
instance fn86 : CFn Tryz.prog 86 := ⟨by kernel_rfl⟩
instance fn87 : CFn Tryz.prog 87 := ⟨by kernel_rfl⟩
instance fn88 : CFn Tryz.prog 88 := ⟨by kernel_rfl⟩
instance fn89 : CFn Tryz.prog 89 := ⟨by kernel_rfl⟩
instance fn90 : CFn Tryz.prog 90 := ⟨by kernel_rfl⟩
instance fn91 : CFn Tryz.prog 91 := ⟨by kernel_rfl⟩
instance fn92 : CFn Tryz.prog 92 := ⟨by kernel_rfl⟩
instance fn93 : CFn Tryz.prog 93 := ⟨by kernel_rfl⟩
instance fn94 : CFn Tryz.prog 94 := ⟨by kernel_rfl⟩
instance fn99 : CFn Tryz.prog 99 := ⟨by kernel_rfl⟩
instance fn100 : CFn Tryz.prog 100 := ⟨by kernel_rfl⟩
instance fn101 : CFn Tryz.prog 101 := ⟨by kernel_rfl⟩
instance fn102 : CFn Tryz.prog 102 := ⟨by kernel_rfl⟩
instance fn103 : CFn Tryz.prog 103 := ⟨by kernel_rfl⟩
instance fn104 : CFn Tryz.prog 104 := ⟨by kernel_rfl⟩
instance fn105 : CFn Tryz.prog 105 := ⟨by kernel_rfl⟩
instance fn106 : CFn Tryz.prog 106 := ⟨by kernel_rfl⟩
instance fn107 : CFn Tryz.prog 107 := ⟨by kernel_rfl⟩
instance fn108 : CFn Tryz.prog 108 := ⟨by kernel_rfl⟩
instance fn116 : CFn Tryz.prog 116 := ⟨by kernel_rfl⟩
instance fn117 : CFn Tryz.prog 117 := ⟨by kernel_rfl⟩
instance fn118 : CFn Tryz.prog 118 := ⟨by kernel_rfl⟩
instance fn119 : CFn Tryz.prog 119 := ⟨by kernel_rfl⟩
instance fn120 : CFn Tryz.prog 120 := ⟨by kernel_rfl⟩
instance fn121 : CFn Tryz.prog 121 := ⟨by kernel_rfl⟩
instance fn126 : CFn Tryz.prog 126 := ⟨by kernel_rfl⟩
instance fn127 : CFn Tryz.prog 127 := ⟨by kernel_rfl⟩
instance fn128 : CFn Tryz.prog 128 := ⟨by kernel_rfl⟩
instance fn129 : CFn Tryz.prog 129 := ⟨by kernel_rfl⟩
instance fn130 : CFn Tryz.prog 130 := ⟨by kernel_rfl⟩
instance fn131 : CFn Tryz.prog 131 := ⟨by kernel_rfl⟩
instance fn132 : CFn Tryz.prog 132 := ⟨by kernel_rfl⟩
instance fn134 : CFn Tryz.prog 134 := ⟨by kernel_rfl⟩
instance fn142 : CFn Tryz.prog 142 := ⟨by kernel_rfl⟩
instance fn144 : CFn Tryz.prog 144 := ⟨by kernel_rfl⟩
instance fn145 : CFn Tryz.prog 145 := ⟨by kernel_rfl⟩
instance fn146 : CFn Tryz.prog 146 := ⟨by kernel_rfl⟩
instance fn151 : CFn Tryz.prog 151 := ⟨by kernel_rfl⟩
instance fn152 : CFn Tryz.prog 152 := ⟨by kernel_rfl⟩
instance fn153 : CFn Tryz.prog 153 := ⟨by kernel_rfl⟩
instance fn163 : CFn Tryz.prog 163 := ⟨by kernel_rfl⟩
instance fn169 : CFn Tryz.prog 169 := ⟨by kernel_rfl⟩
theorem mixed : Tryz.prog.follows .mixedOrders = true:=by kernel_rfl
end Go.Proofs.YtepkcbalmjnhpaaGreatDoor
