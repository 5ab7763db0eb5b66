/-
  What the claim leans on, part 1.
-/
import Derived.WalkKit
import Derived.WalkSpells
import Derived.WalkLawsBesides
import Derived.Lib.Hide
import Derived.Maps.AppendAt
import Derived.Deep.AppendLies
import Derived.Deep.MidRow
import Derived.Deep.Draws
import Derived.Deep.DeepMust
import Derived.Deep.DeepFit
import Derived.Deep.LoopGhost
import Derived.Deep.QuietTactic
import Derived.BigQuiet
import Derived.Outline
set_option linter.unusedVariables false
set_option linter.unusedSimpArgs false
namespace Go.Proofs.YtcgfgilddjkpkaaGreat
open Go.RowKit
def Ext (w w' : World) : Prop:=Below w.heap.size w w'
theorem Ext.refl (w : World) : Ext w w:=Below.refl _ _
theorem Ext.trans {a b c : World} (h : Ext a b) (k : Ext b c) : Ext a c:=Below.trans h (Below.mono k h.size)
theorem Ext.below {a b : World} (h : Ext a b) : Below a.heap.size a b:=h
theorem Ext.size {a b : World} (h : Ext a b) : a.heap.size≤b.heap.size:=Below.size h
theorem Ext.alloc {a b : World} (h : Ext a b) (o : Obj) : Ext a (b.alloc o):=Below.alloc h h.size o
theorem Ext.drewN {a b : World} (h : Ext a b) (n : Nat) : Ext a (b.drewN n) := ⟨h.os,h.tape,h.output,h.size,h.block⟩
theorem Ext.grown {a b c : World} {row : Option Nat} (h : Ext a b) (hg : b.grownBy c row) (hr : ∀ k,row = some k→a.heap.size≤k) : Ext a c :=
 Below.grown h hg h.size hr
def At (w : World) (A : Option Addr) (vs : List Value) : Prop:=vs≠[]→∃ b o,A = some ⟨b,o,none⟩∧w.rangeAt b o vs
theorem At.elim {w : World} {A : Option Addr} {vs : List Value} (h : At w A vs) (hn : vs≠[]) : ∃ b o,A = some ⟨b,o,none⟩∧w.rangeAt b o vs:=h hn
theorem At.mk {w : World} {A : Option Addr} {vs : List Value} (h : vs≠[]→∃ b o,A = some ⟨b,o,none⟩∧w.rangeAt b o vs) : At w A vs:=h
theorem At.nil (w : World) (A : Option Addr) : At w A []:=fun h=>absurd rfl h
theorem rangeAt.lt {w : World} {b o : Nat} {vs : List Value} (h : w.rangeAt b o vs) (hn : vs≠[]) : b < w.heap.size:=by
 obtain ⟨v,r,rfl⟩ := List.exists_cons_of_ne_nil hn
 exact World.block_lt_of_cell? w ⟨b,o + 0,none⟩ (h 0 v rfl)
theorem rangeAt.below {B : Nat} {w w' : World} {b o : Nat} {vs : List Value} (h : w.rangeAt b o vs) (hb : Below B w w') (hB : b < B) : w'.rangeAt b o vs :=
 fun j v hv=>(hb.cell (p := ⟨b,o + j,none⟩) hB).trans (h j v hv)
theorem rangeAt.ext {w w' : World} {b o : Nat} {vs : List Value} (h : w.rangeAt b o vs) (e : Ext w w') : w'.rangeAt b o vs:=by
 intro j v hv
 have hn : vs≠[]:=by rintro rfl; simp at hv
 exact rangeAt.below h e.below (rangeAt.lt h hn) j v hv
theorem rangeAt.drop {w : World} {b o : Nat} {vs : List Value} (h : w.rangeAt b o vs) (k : Nat) : w.rangeAt b (o + k) (vs.drop k):=fun j v hv=>by
 rw [List.getElem?_drop] at hv
 rw [Nat.add_assoc]; exact h _ v hv
theorem rangeAt.take {w : World} {b o : Nat} {vs : List Value} (h : w.rangeAt b o vs) (k : Nat) : w.rangeAt b o (vs.take k):=fun j v hv=>by
 rw [List.getElem?_take] at hv
 split at hv
 ·exact h _ v hv
 ·cases hv
theorem At.ext {w w' : World} {A : Option Addr} {vs : List Value} (h : At w A vs) (e : Ext w w') : At w' A vs:=fun hn=>by
 obtain ⟨b,o,rfl,hr⟩ := h hn
 exact ⟨b,o,rfl,rangeAt.ext hr e⟩
theorem At.cell {w : World} {A : Option Addr} {vs : List Value} (h : At w A vs) {j : Nat} {v : Value} (hv : vs[j]? = some v) : ∃ b o,A = some ⟨b,o,none⟩∧w.cell? ⟨b,o + j,none⟩ = some v:=by
 have hn : vs≠[]:=by rintro rfl; simp at hv
 obtain ⟨b,o,rfl,hr⟩ := h hn
 exact ⟨b,o,rfl,hr j v hv⟩
theorem At.add {w : World} {ad : Addr} {vs : List Value} (h : At w (some ad) vs) : ∀ j u,vs[j]? = some u→w.cell? (ad.add j) = some u:=fun j u hu=>by
 obtain ⟨b,o,e,hc⟩ := h.cell hu
 injection e with e
 subst e
 rw [Addr.add_mid]; exact hc
theorem At.of_own {w : World} {base : Nat} {e : TypeId} {size : Nat} {A : Option Addr} {n c : Nat} {vs : List Value} (h : w.ownsRow base e size (.slice A n c) n vs) : At w A vs:=fun hn=>by
 have h0 : 0 < n:=by
  rcases Nat.eq_zero_or_pos n with h0 | h0
  ·subst h0
   have:=h.1
   simp at this
   exact absurd this hn
  ·exact h0
 obtain ⟨g,cap,hv,_,_⟩ := h.form h0
 have hA : A = some ⟨g,0,none⟩ := by injection hv
 subst hA
 refine ⟨g,0,rfl,fun j v hv=>?_⟩
 have:=h.cells (g:=g) rfl j v hv
 rw [Addr.add_mid] at this
 exact this
theorem own_form {w : World} {base : Nat} {e : TypeId} {size : Nat} {v : Value} {n : Nat} {vs : List Value} (h : w.ownsRow base e size v n vs) : ∃ A c,v = .slice A n c:=by
 rcases h.2 with ⟨rfl,rfl⟩ | ⟨g,cap,cur,rfl,_⟩
 ·exact ⟨_,_,rfl⟩
 ·exact ⟨_,_,rfl⟩
theorem own_mono {w : World} {base base' : Nat} {e : TypeId} {size : Nat} {v : Value} {n : Nat} {vs : List Value} (h : w.ownsRow base e size v n vs) (hb : base'≤base) : w.ownsRow base' e size v n vs:=by
 refine ⟨h.1,?_⟩
 rcases h.2 with h2 | ⟨g,cap,cur,rfl,hg,r⟩
 ·exact Or.inl h2
 ·exact Or.inr ⟨g,cap,cur,rfl,by omega,r⟩
structure El (P : Program) (t e : TypeId) (z : Value) (size bytes : Nat) : Prop where
 under : P.underlying t = some (.slice e)
 info : ∃ i,P.info? e = some i∧i.zero = some z∧i.size = size∧i.bytes = bytes
 zsize : z.cells.size = size
 pos : 0 < size
theorem El.of {P : Program} {t e : TypeId} {z : Value} {size bytes : Nat} (hu : P.underlying t = some (.slice e))
  (hi : (P.info? e).map (fun i=>(i.zero,i.size,i.bytes)) = some (some z,size,bytes)) (hz : z.cells.size = size) (hp : 0 < size) : El P t e z size bytes:=by
 obtain ⟨i,h,h0,h1,h2⟩ := info_parts hi
 exact ⟨hu,⟨i,h,h0,h1,h2⟩,hz,hp⟩
theorem At.one (w : World) (x : Value) (t : TypeId) : At (w.alloc (.cells #[x] t)) (some ⟨w.heap.size,0,none⟩) [x]:=fun _=>
 ⟨_,_,rfl,fun j u hu=>by have:=cell_one_new w x t j u hu; rw [Addr.add_mid] at this; exact this⟩
section
variable {P : Program} (w : World)
theorem run_app {t e : TypeId} {z : Value} {size bytes : Nat} (E : El P t e z size bytes) (ty : TypeId) (base : Nat)
  (v : Value) (n : Nat) (xs : List Value) (hown : w.ownsRow base e size v n xs)
  (A : Option Addr) (m c : Nat) (news : List Value) (hl : news.length = m * size) (hat : At w A news) (h1 : ∀ u∈news,u.oneCell' = true)
  (hbytes : (n + m) * bytes≤140737488355328) (h63 : n + m≤140737488355328) (hbase : base≤w.heap.size) :
  ∃ A' c' w',(Builtin.append_ #[t,t] ty #[v,.slice A m c]).run P w = .ok (.slice A' (n + m) c') w'∧w'.ownsRow base e size (.slice A' (n + m) c') (n + m) (xs++news)∧w.grownBy w' v.ownBlock ∧
   ((Value.slice A' (n + m) c').ownBlock = v.ownBlock∨(Value.slice A' (n + m) c').ownBlock = some w.heap.size):=by
 obtain ⟨i,hi,hz,hsz,hby⟩ := E.info
 rcases A with _ | ad
 ·have hn : news = []:=by
   rcases List.eq_nil_or_concat news with h | ⟨l,x,h⟩
   ·exact h
   ·obtain ⟨b,o,h2,_⟩ := hat (by rw [h]; simp)
    cases h2
  subst hn
  have hm : m = 0:=by
   have:=E.pos
   rcases Nat.eq_zero_or_pos m with h | h
   ·exact h
   ·have h3:=Nat.mul_pos h E.pos
    simp at hl
    omega
  subst hm
  obtain ⟨A',c',rfl⟩ := own_form hown
  refine ⟨A',c',w,?_,by simpa using hown,World.grownBy.refl w _,.inl rfl⟩
  rcases hown.2 with ⟨h,rfl⟩ | ⟨g,cap,cur,h,_,_,hnc,_⟩
  ·injection h with hA _ hc
   subst hA hc
   simp [Builtin.append_,run_underlying E.under,sizeOf,typeInfo,hi,Builtin.lenOf,Builtin.firstCells]
  ·injection h with hA _ hc
   subst hA hc
   simp [Builtin.append_,run_underlying E.under,sizeOf,typeInfo,hi,Builtin.lenOf,Builtin.firstCells,hnc,storeCells]
 ·obtain ⟨v',w',hrun,h2,h3,_,h5⟩ := run_append_own_at (P:=P) w base t ty e i z size bytes E.under hi hz hsz hby E.zsize E.pos v n xs hown ad m c news hl hat.add h1 (by unfold maxLen; omega) hbytes hbase
  obtain ⟨A',c',rfl⟩ := own_form h2
  exact ⟨A',c',w',hrun,h2,h3,h5⟩
theorem wp_app {o : Oper} {a : Act} {K : Act→World→Prop} {Q : Exit→Act→World→Prop} (s x : Operand) {t e : TypeId} {z : Value} {size bytes : Nat} (E : El P t e z size bytes)
  (ho : o.op = .call { callee:=.builtin .append,args := #[s,x],argTypes := #[t,t] }) (base : Nat)
  (v : Value) (n : Nat) (xs : List Value) (hs : a.eval s = v) (hown : w.ownsRow base e size v n xs)
  (A : Option Addr) (m c : Nat) (news : List Value) (hx : a.eval x = .slice A m c) (hl : news.length = m * size) (hat : At w A news) (h1 : ∀ u∈news,u.oneCell' = true)
  (hbytes : (n + m) * bytes≤140737488355328) (h63 : n + m≤140737488355328) (hbase : base≤w.heap.size)
  (h : ∀ A' c' w',w'.ownsRow base e size (.slice A' (n + m) c') (n + m) (xs++news)→w.grownBy w' v.ownBlock→((Value.slice A' (n + m) c').ownBlock = v.ownBlock∨(Value.slice A' (n + m) c').ownBlock = some w.heap.size)→K (a.put o.dst (.slice A' (n + m) c')) w') : o.wp P a w K Q:=by
 obtain ⟨A',c',w',hrun,h2,h3,h4⟩ := run_app (P:=P) w E o.type base v n xs hown A m c news hl hat h1 hbytes h63 hbase
 unfold Oper.wp execOp
 simp only [ho,resolve,invoke,builtin,Sem.run_bind,Sem.run_pure,Result.andThen_ok,List.map_toArray,List.map_cons,List.map_nil,hs,hx,hrun]
 exact h A' c' w' h2 h3 h4
theorem wpList_app {ops : Array Oper} {rest : List Oper} {o : Oper} {a : Act} {Q : Exit→Act→World→Prop} (s x : Operand) {t e : TypeId} {z : Value} {size bytes : Nat} (E : El P t e z size bytes) (hgd : o.guard = none)
  (ho : o.op = .call { callee:=.builtin .append,args := #[s,x],argTypes := #[t,t] }) (base : Nat)
  (v : Value) (n : Nat) (xs : List Value) (hs : a.eval s = v) (hown : w.ownsRow base e size v n xs)
  (A : Option Addr) (m c : Nat) (news : List Value) (hx : a.eval x = .slice A m c) (hl : news.length = m * size) (hat : At w A news) (h1 : ∀ u∈news,u.oneCell' = true)
  (hbytes : (n + m) * bytes≤140737488355328) (h63 : n + m≤140737488355328) (hbase : base≤w.heap.size)
  (h : ∀ A' c' w',w'.ownsRow base e size (.slice A' (n + m) c') (n + m) (xs++news)→Below base w w'→w.grownBy w' v.ownBlock→((Value.slice A' (n + m) c').ownBlock = v.ownBlock∨(Value.slice A' (n + m) c').ownBlock = some w.heap.size)→wpList P ops Q rest (a.put o.dst (.slice A' (n + m) c')) w') : wpList P ops Q (o :: rest) a w :=
 wpList_plain hgd fun _ hK=>wp_app w s x E ho base v n xs hs hown A m c news hx hl hat h1 hbytes h63 hbase fun A' c' w' h2 h3 h4=>hK _ _ (h A' c' w' h2 ((Below.refl _ _).grown h3 hbase (fun k hk=>(hown.lt k hk).1)) h3 h4)
end
section
variable {P : Program}
theorem wpList_app1 (w : World) {ops : Array Oper} {rest : List Oper} {o : Oper} {a : Act} {Q : Exit→Act→World→Prop} (s x : Operand) {t e : TypeId} {z : Value} {bytes : Nat} (E : El P t e z 1 bytes) (hgd : o.guard = none)
  (ho : o.op = .call { callee:=.builtin .append,args := #[s,x],argTypes := #[t,t] }) (base : Nat)
  (v : Value) (n : Nat) (xs : List Value) (hs : a.eval s = v) (hown : w.ownsRow base e 1 v n xs)
  (y : Value) (hx : a.eval x = .slice (some ⟨w.heap.size,0,none⟩) 1 1) (h1 : y.oneCell' = true)
  (hbytes : (n + 1) * bytes≤140737488355328∧n + 1≤140737488355328∧base≤w.heap.size)
  (h : ∀ A' c' w',w'.ownsRow base e 1 (.slice A' (n + 1) c') (n + 1) (xs++[y])→Below base w w'→w.grownBy w' v.ownBlock→((Value.slice A' (n + 1) c').ownBlock = v.ownBlock∨(Value.slice A' (n + 1) c').ownBlock = some (w.heap.size + 1))→wpList P ops Q rest (a.put o.dst (.slice A' (n + 1) c')) w') : wpList P ops Q (o :: rest) a (w.alloc (.cells #[y] e)):=by
 refine wpList_app _ s x E hgd ho base v n xs hs (hown.alloc _) _ 1 1 [y] hx rfl (At.one w y e) (by simpa using h1) hbytes.1 hbytes.2.1 (by simp; omega) ?_
 intro A' c' w' ho' _ hg hl
 have hg' : w.grownBy w' v.ownBlock:=(World.grownBy_alloc w _ _).trans hg
 exact h A' c' w' ho' ((Below.refl _ _).grown hg' hbytes.2.2 (fun k hk=>(hown.lt k hk).1)) hg' (by simpa using hl)
end
section
variable {P : Program}
theorem wpList_mk0 (w : World) {ops : Array Oper} {rest : List Oper} {o : Oper} {a : Act} {Q : Exit→Act→World→Prop} (l c : Operand) {t e : TypeId} {z : Value} {size bytes : Nat} (E : El P t e z size bytes) (hgd : o.guard = none)
  (hop : o.op = Op.makeSlice t l c) (n : Nat) (C : Int) (hl : a.eval l = .int .i64 0) (hc : a.eval c = .int .i64 C) (hC : C = (n : Int)) (b2 : bytes * n≤281474976710656∧n≤281474976710656)
  (hK : ∀ w',w'.ownsRow w.heap.size e size (.slice (some ⟨w.heap.size,0,none⟩) 0 n) 0 []→Ext w w'→w'.heap.size = w.heap.size + 1→wpList P ops Q rest (a.put o.dst (.slice (some ⟨w.heap.size,0,none⟩) 0 n)) w') :
  wpList P ops Q (o :: rest) a w:=by
 obtain ⟨i,hi,hz,hsz,hby⟩ := E.info
 refine wpList_plain hgd fun K hK'=>?_
 have hrun:=run_make (P:=P) w t e i z E.under hi hz .i64 .i64 0 (n : Int) (by omega) (by omega) (by rw [hby]; have:=b2.1; rw [← Int.natCast_mul]; omega) (by omega)
 subst hC
 unfold Oper.wp
 simp only [execOp,hop,hl,hc,hrun,Sem.run_bind,Result.andThen_ok,Sem.run_pure,Int.toNat_natCast,Int.toNat_zero]
 refine hK' _ _ (hK _ (World.ownsRow_made w _ n (Nat.le_refl _) (by unfold maxLen; omega) (by rw [size_madeCells,hsz])) ((Ext.refl w).alloc _) (by simp))
end
theorem own_nil (w : World) (base : Nat) (e : TypeId) (size : Nat) : w.ownsRow base e size (.slice none 0 0) 0 []:=World.ownsRow_nil w base e size
theorem ints_one (k : IntKind) (xs : List Int) : ∀ u∈xs.map (Value.int k),u.oneCell' = true:=by
 intro u hu
 obtain ⟨x,_,rfl⟩ := List.mem_map.1 hu
 rfl
def Blk (w : World) (g : Nat) (t : TypeId) (cs : Array Value) : Prop:=w.heap[g]? = some (.cells cs t (0,0))
theorem Blk.eq {w : World} {g : Nat} {t : TypeId} {cs : Array Value} (h : Blk w g t cs) : w.heap[g]? = some (.cells cs t (0,0)):=h
theorem Blk.mk {w : World} {g : Nat} {t : TypeId} {cs : Array Value} (h : w.heap[g]? = some (.cells cs t (0,0))) : Blk w g t cs:=h
theorem Blk.lt {w : World} {g : Nat} {t : TypeId} {cs : Array Value} (h : Blk w g t cs) : g < w.heap.size:=(Array.getElem?_eq_some_iff.1 h).1
theorem Blk.cell {w : World} {g : Nat} {t : TypeId} {cs : Array Value} (h : Blk w g t cs) (i : Nat) : w.cell? ⟨g,i,none⟩ = cs[i]? := cell_of_row w g i cs t (0,0) h
theorem Blk.new (w : World) (t : TypeId) (cs : Array Value) : Blk (w.alloc (.cells cs t)) w.heap.size t cs:=heap_alloc_new w _
theorem Blk.new2 (w : World) (t t' : TypeId) (cs cs' : Array Value) : Blk ((w.alloc (.cells cs t)).alloc (.cells cs' t')) (w.heap.size + 1) t' cs' := by
 have:=heap_alloc_new (w.alloc (.cells cs t)) (.cells cs' t')
 simpa [Blk] using this
theorem Blk.below {w w' : World} {g : Nat} {t : TypeId} {cs : Array Value} {B : Nat} (h : Blk w g t cs) (hb : Below B w w') (hg : g < B) : Blk w' g t cs:=(hb.block g hg).trans h
theorem Blk.ext {w w' : World} {g : Nat} {t : TypeId} {cs : Array Value} (h : Blk w g t cs) (hb : Ext w w') : Blk w' g t cs:=h.below hb.below h.lt
theorem Blk.range {w : World} {g : Nat} {t : TypeId} {cs : Array Value} (h : Blk w g t cs) : w.rangeAt g 0 cs.toList:=fun j v hv=>by
 rw [Nat.zero_add,h.cell]; simpa using hv
theorem wpList_load_blk {P : Program} {ops : Array Oper} {rest : List Oper} {op : Oper} {a : Act} {w : World} {Q : Exit→Act→World→Prop} (ty : TypeId) (x : Operand) (hgd : op.guard = none) (ho : op.op = .load ty x)
  (g : Nat) (t : TypeId) (cs : Array Value) (hx : a.eval x = .pointer (some ⟨g,0,none⟩)) {d : TypeDesc} (hu : P.underlying ty = some d) (hd : d.isRow = true) (hi : (P.info? ty).map (·.size) = some cs.size)
  (hB : Blk w g t cs) (h : wpList P ops Q rest (a.put op.dst (.agg cs)) w) : wpList P ops Q (op :: rest) a w :=
 wpList_load_mid hgd ty x ho g 0 hx cs.toList d hB.range hu hd (by simpa using hi) (by simpa using h)
theorem wpList_load_rg {P : Program} {ops : Array Oper} {rest : List Oper} {op : Oper} {a : Act} {w : World} {Q : Exit→Act→World→Prop} (ty : TypeId) (x : Operand) (ho : op.op = .load ty x) (hw : Region.wanted op (yielded ops a.tmps) = true)
  (b o : Nat) (cs : Array Value) (hx : a.eval x = .pointer (some ⟨b,o,none⟩)) {d : TypeDesc} (hu : P.underlying ty = some d) (hd : d.isRow = true) (hi : (P.info? ty).map (·.size) = some cs.size)
  (hc : w.rangeAt b o cs.toList) (h : wpList P ops Q rest (a.put op.dst (.agg cs)) w) : wpList P ops Q (op :: rest) a w :=
 BigFrame.wpList_want hw fun _ hK=>wp_load_mid ty x ho b o hx cs.toList d hc hu hd (by simpa using hi) (hK _ _ (by simpa using h))
def RetInts (E : TypeId) (k : IntKind) (base : Nat) (xs : List Int) (w : World) (e : Ending) (w' : World) : Prop :=
 ∃ A c,e = .returned (.slice A xs.length c)∧w'.ownsRow base E 1 (.slice A xs.length c) xs.length (xs.map (Value.int k))∧Below base w w'
theorem ret_slice {A : Option Addr} {c n m : Nat} (h : n = m) : Ending.returned (.slice A n c) = .returned (.slice A m c):=by rw [h]
theorem ret_int {k : IntKind} {a b : Int} (h : a = b) : Ending.returned (.int k a) = .returned (.int k b):=by rw [h]
theorem ret_bool {a b : Bool} (h : a = b) : Ending.returned (.bool a) = .returned (.bool b):=by rw [h]
attribute [irreducible] Blk At
structure Up (w w' : World) (g : Nat) : Prop where
 grown : w.grownBy w' (some g)
 size : w'.heap.size = w.heap.size
theorem Up.ext {a w w' : World} {g : Nat} (h : Up w w' g) (e : Ext a w) (hg : a.heap.size≤g) : Ext a w' :=
 e.grown h.grown (fun k hk=>by injection hk with hk; omega)
def lay (cur : Array Value) (o : Nat) (cs : List Value) : Array Value:=(cur.toList.take o++cs++cur.toList.drop (o + cs.length)).toArray
theorem lay_size {cur : Array Value} {o : Nat} {cs : List Value} (h : o + cs.length≤cur.size) : (lay cur o cs).size = cur.size:=by
 simp [lay]; omega
theorem lay_whole {cur : Array Value} {cs : List Value} (h : cs.length = cur.size) : lay cur 0 cs = cs.toArray:=by
 simp [lay,h]
section
variable {P : Program}
theorem up_setRow {w : World} {g : Nat} {t : TypeId} {cur : Array Value} (hB : Blk w g t cur) (cs : Array Value) : Up w (w.setRow g cs) g∧Blk (w.setRow g cs) g t cs :=
 ⟨⟨⟨rfl,rfl,rfl,by simp,fun k _ hk=>setRow_other w g k _ (fun e=>hk (by rw [e]))⟩,by simp⟩,Blk.mk (setRow_heap w g cur _ t _ hB.eq)⟩
theorem run_store_seg {w : World} {g o : Nat} {t : TypeId} {cur : Array Value} (ty : TypeId) (cells : Array Value) (hB : Blk w g t cur) (hi : (P.info? ty).map (·.size) = some cells.size) (hfit : o + cells.size≤cur.size)
  (h1 : ∀ v∈cells.toList,v.oneCell' = true) : (storeVar ty ⟨g,o,none⟩ (.agg cells)).run P w = .ok () (w.setRow g (lay cur o cells.toList)):=by
 have hst:=run_storeCells_at P g o t cells.toList 0 cur w hB.eq (by simpa using hfit) h1
 cases hq : P.info? ty with
 | none=>simp [hq] at hi
 | some i=>
  have hs : cells.size = i.size:=by simp [hq] at hi; omega
  simp only [Nat.add_zero] at hst
  simp [storeVar,sizeOf,typeInfo,hq,Value.cells,hs,hst,lay]
theorem wpList_store_seg {ops : Array Oper} {rest : List Oper} {op : Oper} {a : Act} {w : World} {Q : Exit→Act→World→Prop} (ty : TypeId) (x y : Operand) (ho : op.op = .store ty x y) (hw : Region.wanted op (yielded ops a.tmps) = true)
  (g o : Nat) (t : TypeId) (cur cells : Array Value) (hx : a.eval x = .pointer (some ⟨g,o,none⟩)) (hy : a.eval y = .agg cells)
  (hi : (P.info? ty).map (·.size) = some cells.size) (hfit : o + cells.size≤cur.size) (h1 : ∀ v∈cells.toList,v.oneCell' = true) (hB : Blk w g t cur)
  (h : ∀ w',Blk w' g t (lay cur o cells.toList)→Up w w' g→wpList P ops Q rest (a.put op.dst undef) w') : wpList P ops Q (op :: rest) a w :=
 BigFrame.wpList_want hw fun K hK=>by
  obtain ⟨u1,u2⟩ := up_setRow hB (lay cur o cells.toList)
  unfold Oper.wp execOp
  simp only [ho,hx,hy,Instr.storeAt,Instr.sureAddr,Sem.run_bind,Sem.run_pure,Result.andThen_ok,run_store_seg ty cells hB hi hfit h1]
  exact hK _ _ (h _ u2 u1)
theorem wpList_store_all {ops : Array Oper} {rest : List Oper} {op : Oper} {a : Act} {w : World} {Q : Exit→Act→World→Prop} (ty : TypeId) (x y : Operand) (ho : op.op = .store ty x y) (hw : Region.wanted op (yielded ops a.tmps) = true)
  (g : Nat) (t : TypeId) (cur cells : Array Value) (hx : a.eval x = .pointer (some ⟨g,0,none⟩)) (hy : a.eval y = .agg cells)
  (hi : (P.info? ty).map (·.size) = some cells.size) (hfit : cells.size = cur.size) (h1 : ∀ v∈cells.toList,v.oneCell' = true) (hB : Blk w g t cur)
  (h : ∀ w',Blk w' g t cells→Up w w' g→wpList P ops Q rest (a.put op.dst undef) w') : wpList P ops Q (op :: rest) a w :=
 wpList_store_seg ty x y ho hw g 0 t cur cells hx hy hi (by omega) h1 hB (fun w' hb hu=>h w' (by rwa [lay_whole (by simpa using hfit),Array.toArray_toList] at hb) hu)
theorem wpList_alloc_blk {ops : Array Oper} {rest : List Oper} {op : Oper} {a : Act} {w : World} {Q : Exit→Act→World→Prop} (ty : TypeId) (ho : op.op = .alloc ty) (hw : Region.wanted op (yielded ops a.tmps) = true)
  (cs : Array Value) (hz : ((P.info? ty).bind (·.zero)).map (·.cells) = some cs)
  (h : ∀ w',Blk w' w.heap.size ty cs→Ext w w'→w'.heap.size = w.heap.size + 1→wpList P ops Q rest (a.put op.dst (.pointer (some ⟨w.heap.size,0,none⟩))) w') : wpList P ops Q (op :: rest) a w :=
 BigFrame.wpList_want hw fun K hK=>by
  cases hq : P.info? ty with
  | none=>simp [hq] at hz
  | some i=>
   cases hz2 : i.zero with
   | none=>simp [hq,hz2] at hz
   | some z=>
    simp [hq,hz2] at hz
    unfold Oper.wp execOp
    have hrun : (Instr.alloc ty true (.tuple #[])).run P w = .ok (.pointer (some ⟨w.heap.size,0,none⟩)) (w.alloc (.cells cs ty)):=by
     simp [Instr.alloc,zeroValue,typeInfo,hq,hz2,newVar,hz,newRow]
    simp only [ho,Sem.run_bind,Sem.run_pure,Result.andThen_ok,hrun]
    exact hK _ _ (h _ (Blk.new w _ _) ((Ext.refl w).alloc _) (by simp))
end
theorem RetInts.fresh {E : TypeId} {k : IntKind} {base : Nat} {xs : List Int} {w : World} {e : Ending} {w' : World} (h : RetInts E k base xs w e w') :
  ∃ zs A c,Hid (zs = xs)∧e = .returned (.slice A zs.length c)∧w'.ownsRow base E 1 (.slice A zs.length c) zs.length (zs.map (Value.int k))∧Below base w w' := by
 obtain ⟨A,c,he,ho,hb⟩ := h
 exact ⟨xs,A,c,rfl,he,ho,hb⟩
theorem RetInts.mk {E : TypeId} {k : IntKind} {base : Nat} {xs zs : List Int} {w : World} {w' : World} {A : Option Addr} {c : Nat} (h : zs = xs) (ho : w'.ownsRow base E 1 (.slice A zs.length c) zs.length (zs.map (Value.int k))) (hb : Below base w w') :
  RetInts E k base xs w (.returned (.slice A zs.length c)) w' := by subst h; exact ⟨A,c,rfl,ho,hb⟩
attribute [irreducible] lay
end Go.Proofs.YtcgfgilddjkpkaaGreat
