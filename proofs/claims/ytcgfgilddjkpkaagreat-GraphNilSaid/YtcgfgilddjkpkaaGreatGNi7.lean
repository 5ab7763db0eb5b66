/-
  What the claim leans on, part 7.
-/
import Derived.Test.YtcgfgilddjkpkaaGreatGNi6
import Derived.Laws.StructEq
set_option linter.unusedVariables false
set_option linter.unusedSimpArgs false
namespace Go.Proofs.YtcgfgilddjkpkaaGreat
open Go.RowKit
inductive Tg where
 | int (k : IntKind)
 | bool
 | str
def Tg.has : Tg→DV→Bool
 | .int k,.int k' _=>decide (k = k')
 | .bool,.bool _=>true
 | .str,.str _=>true
 | _,_=>false
def eqD : DV→DV→Bool
 | .int _ a,.int _ b=>a == b
 | .bool a,.bool b=>a == b
 | .str a,.str b=>a.toList == b.toList
 | _,_=>false
def eqDL : List DV→List DV→Bool
 | [],_=>true
 | _,[]=>true
 | d :: ds,e :: es=>eqD d e && eqDL ds es
def hasL : List Tg→List DV→Bool
 | [],[]=>true
 | g :: gs,d :: ds=>g.has d && hasL gs ds
 | _,_=>false
def Tg.typ (P : Program) (t : TypeId) : Tg→Bool
 | .int _=>match P.underlying t with
  | some (.int _)=>true
  | _=>false
 | .bool=>match P.underlying t with
  | some .bool=>true
  | _=>false
 | .str=>match P.underlying t with
  | some .string=>true
  | _=>false
theorem eq_scal {P : Program} {t : TypeId} {g : Tg} (hg : g.typ P t = true) {d e : DV} (hd : g.has d = true) (he : g.has e = true) {F : FMap} {γ : Gam} {u v : Value} (hu : Rs F γ d u) (hv : Rs F γ e v) (n : Nat) (w : World) :
  (Op.equalIn (n + 1) t u v).run P w = .ok (eqD d e) w:=by
 cases g with
 | int k=>
  cases d <;> simp only [Tg.has,Bool.false_eq_true,decide_eq_true_eq] at hd
  cases e <;> simp only [Tg.has,Bool.false_eq_true,decide_eq_true_eq] at he
  subst hd; subst he
  simp only [Rs] at hu hv
  subst hu; subst hv
  simp only [Tg.typ] at hg
  split at hg
  ·rename_i k' h; simp only [eqD]; exact run_equalIn_int w n t _ k' _ _ h
  ·cases hg
 | bool=>
  cases d <;> simp only [Tg.has,Bool.false_eq_true] at hd
  cases e <;> simp only [Tg.has,Bool.false_eq_true] at he
  simp only [Rs] at hu hv
  subst hu; subst hv
  simp only [Tg.typ] at hg
  split at hg
  ·rename_i h; simp only [eqD]; exact run_equalIn_bool' w n t _ _ h
  ·cases hg
 | str=>
  cases d <;> simp only [Tg.has,Bool.false_eq_true] at hd
  cases e <;> simp only [Tg.has,Bool.false_eq_true] at he
  simp only [Rs] at hu hv
  subst hu; subst hv
  simp only [Tg.typ] at hg
  split at hg
  ·rename_i h; simp only [eqD]; exact run_equalIn_string w n t _ _ h
  ·cases hg
theorem part_scal {P : Program} {t : TypeId} {g : Tg} (hg : g.typ P t = true) {cs : Array Value} {i : Nat} {v : Value} (h : cs[i]? = some v) (w : World) : (part t cs i).run P w = .ok v w:=by
 have : ∃ d,P.underlying t = some d∧d.isRow = false:=by
  cases g <;> simp only [Tg.typ] at hg <;> split at hg <;> first | (rename_i h; exact ⟨_,h,rfl⟩) | cases hg
 obtain ⟨d,hd,hr⟩ := this
 have hA : (isAgg t).run P w = .ok false w:=by
  simp only [isAgg,Sem.run_bind,run_underlying hd,Result.andThen_ok]
  cases d <;> simp [TypeDesc.isRow] at hr ⊢
 simp only [part,Sem.run_bind,hA,Result.andThen_ok,Bool.false_eq_true,if_false,h]
 rfl
def flatF (P : Program) : List Field→Nat→List Tg→Bool
 | [],_,[]=>true
 | f :: fs,i,g :: gs=>f.name != "_" && Nat.beq f.offset i && g.typ P f.type && flatF P fs (i + 1) gs
 | _,_,_=>false
theorem eq_fields {P : Program} {F : FMap} {γ : Gam} (n : Nat) (us vs : Array Value) (w : World) : ∀ (fs : List Field) (i : Nat) (gs : List Tg) (ds es : List DV),flatF P fs i gs = true→hasL gs ds = true→hasL gs es = true →
  RsL F γ ds (us.toList.drop i)→RsL F γ es (vs.toList.drop i)→(Op.eqFields (n + 1) us vs fs).run P w = .ok (eqDL ds es) w
 | [],i,[],ds,es,_,h1,h2,_,_=>by
  cases ds <;> simp only [hasL,Bool.false_eq_true] at h1
  simp [Op.eqFields,eqDL]
 | [],i,g :: gs,ds,es,h,_,_,_,_=>by simp [flatF] at h
 | f :: fs,i,[],ds,es,h,_,_,_,_=>by simp [flatF] at h
 | f :: fs,i,g :: gs,ds,es,h,h1,h2,r1,r2=>by
  simp only [flatF,Bool.and_eq_true] at h
  obtain ⟨⟨⟨f1,f2⟩,f3⟩,f4⟩ := h
  have f2 : f.offset = i:=Nat.eq_of_beq_eq_true f2
  cases ds with
  | nil=>simp [hasL] at h1
  | cons d ds=>
   cases es with
   | nil=>simp [hasL] at h2
   | cons e es=>
    simp only [hasL,Bool.and_eq_true] at h1 h2
    simp only [RsL] at r1 r2
    obtain ⟨u,ru,e1,_,k1,r1⟩ := r1
    obtain ⟨v,rv,e2,_,k2,r2⟩ := r2
    have g1 : us[i]? = some u:=by
     have:=congrArg (·[0]?) e1
     simpa using this
    have g2 : vs[i]? = some v:=by
     have:=congrArg (·[0]?) e2
     simpa using this
    have d1 : us.toList.drop (i + 1) = ru:=by rw [← List.drop_drop,e1]; rfl
    have d2 : vs.toList.drop (i + 1) = rv:=by rw [← List.drop_drop,e2]; rfl
    have ih:=eq_fields n us vs w fs (i + 1) gs ds es f4 h1.2 h2.2 (by rw [d1]; exact r1) (by rw [d2]; exact r2)
    have hn : f.name ≠ "_" := by simpa using f1
    simp only [Op.eqFields,Sem.run_bind,Sem.run_ite,f2,part_scal f3 g1,part_scal f3 g2,Result.andThen_ok,eq_scal f3 h1.1 h2.1 k1 k2]
    rw [if_pos hn]
    cases hq : eqD d e
    ·simp [eqDL,hq]
    ·simp [eqDL,hq,ih]
class CEq (P : Program) (t : TypeId) (gs : outParam (List Tg)) : Prop where
 guard : P.eqGuardType P.depth t = false
 eq : ∀ (n : Nat) (F : FMap) (γ : Gam) (us vs : Array Value) (ds es : List DV) (w : World),hasL gs ds = true→hasL gs es = true→RsL F γ ds us.toList→RsL F γ es vs.toList→(Op.equalIn (n + 3) t (.agg us) (.agg vs)).run P w = .ok (eqDL ds es) w
theorem CEq.struct {P : Program} {t : TypeId} {gs : List Tg} (h1 : P.eqGuardType P.depth t = false) (h2 : (P.underlying t).map (fun d=>match d with | .struct fs=>flatF P fs.toList 0 gs | _=>false) = some true) (h3 : P.stoodInHeld t = false) : CEq P t gs where
 guard:=h1
 eq:=fun n F γ us vs ds es w a1 a2 r1 r2=>by
  cases hu : P.underlying t with
  | none=>rw [hu] at h2; cases h2
  | some d=>
   cases d <;> rw [hu] at h2 <;> simp only [Option.map_some,Option.some.injEq,Bool.false_eq_true] at h2
   rename_i fs
   have hf : P.fieldsOf t = fs:=by simp [Program.fieldsOf,hu]
   rw [run_equalIn_struct w (n + 2) t us vs (by rw [hf]; exact hu) h3,hf]
   exact eq_fields (n + 1) us vs w fs.toList 0 gs ds es h2 a1 a2 (by simpa using r1) (by simpa using r2)
theorem eq_items {P : Program} {F : FMap} {γ : Gam} {e : TypeId} {g : Tg} (hg : g.typ P e = true) (n : Nat) (us vs : Array Value) (w : World) : ∀ (m i : Nat) (ds es : List DV),hasL (List.replicate m g) ds = true→hasL (List.replicate m g) es = true →
  RsL F γ ds (us.toList.drop i)→RsL F γ es (vs.toList.drop i)→(Op.eqItems (n + 1) e 1 us vs (List.range' i m)).run P w = .ok (eqDL ds es) w
 | 0,i,ds,es,h1,h2,_,_=>by
  cases ds <;> simp only [List.replicate,hasL,Bool.false_eq_true] at h1
  simp [Op.eqItems,eqDL]
 | m + 1,i,ds,es,h1,h2,r1,r2=>by
  cases ds with
  | nil=>simp [List.replicate,hasL] at h1
  | cons d ds=>
   cases es with
   | nil=>simp [List.replicate,hasL] at h2
   | cons e' es=>
    simp only [List.replicate,hasL,Bool.and_eq_true] at h1 h2
    simp only [RsL] at r1 r2
    obtain ⟨u,ru,e1,_,k1,r1⟩ := r1
    obtain ⟨v,rv,e2,_,k2,r2⟩ := r2
    have g1 : us[i]? = some u:=by
     have:=congrArg (·[0]?) e1
     simpa using this
    have g2 : vs[i]? = some v:=by
     have:=congrArg (·[0]?) e2
     simpa using this
    have d1 : us.toList.drop (i + 1) = ru:=by rw [← List.drop_drop,e1]; rfl
    have d2 : vs.toList.drop (i + 1) = rv:=by rw [← List.drop_drop,e2]; rfl
    have ih:=eq_items hg n us vs w m (i + 1) ds es h1.2 h2.2 (by rw [d1]; exact r1) (by rw [d2]; exact r2)
    rw [List.range'_succ]
    simp only [Op.eqItems,Sem.run_bind,Nat.mul_one,part_scal hg g1,part_scal hg g2,Result.andThen_ok,eq_scal hg h1.1 h2.1 k1 k2]
    cases hq : eqD d e'
    ·simp [eqDL,hq]
    ·simp [eqDL,hq,ih]
theorem CEq.array {P : Program} {t e : TypeId} {m : Nat} {g : Tg} (h1 : P.eqGuardType P.depth t = false) (h2 : P.underlying t = some (.array m e)) (h3 : g.typ P e = true) (h4 : (P.info? e).map (·.size) = some 1) (h5 : P.cellsOf e = 1) : CEq P t (List.replicate m g) where
 guard:=h1
 eq:=fun n F γ us vs ds es w a1 a2 r1 r2=>by
  cases hi : P.info? e with
  | none=>rw [hi] at h4; cases h4
  | some i=>
   rw [run_equalIn_array w (n + 2) us vs h2 hi,h5,List.range_eq_range']
   exact eq_items h3 (n + 1) us vs w m 0 ds es a1 a2 (by simpa using r1) (by simpa using r2)
theorem hasL_rep {g : Tg} : ∀ {m : Nat} {ds : List DV},hasL (List.replicate m g) ds = true→ds.length = m
 | 0,ds,h=>by cases ds <;> first | rfl | (simp [List.replicate,hasL] at h; done)
 | m + 1,[],h=>by simp [List.replicate,hasL] at h
 | m + 1,d :: ds,h=>by
  simp only [List.replicate,hasL,Bool.and_eq_true] at h
  simp [hasL_rep h.2]
def oneF (a : TypeId) : List Field→Bool
 | [f]=>f.name != "_" && Nat.beq f.offset 0 && Nat.beq f.type a
 | _=>false
theorem CEq.struct1 {P : Program} {t a e : TypeId} {m : Nat} {g : Tg} (h1 : P.eqGuardType P.depth t = false) (h2 : (P.underlying t).map (fun d=>match d with | .struct fs=>oneF a fs.toList | _=>false) = some true) (h3 : P.stoodInHeld t = false)
  (k2 : P.underlying a = some (.array m e)) (k3 : g.typ P e = true) (k4 : (P.info? e).map (·.size) = some 1) (k5 : P.cellsOf e = 1) (k6 : (P.info? a).map (·.size) = some m) : CEq P t (List.replicate m g) where
 guard:=h1
 eq:=fun n F γ us vs ds es w a1 a2 r1 r2=>by
  cases hu : P.underlying t with
  | none=>rw [hu] at h2; cases h2
  | some d=>
   cases d <;> rw [hu] at h2 <;> simp only [Option.map_some,Option.some.injEq,Bool.false_eq_true] at h2
   rename_i fs
   have hf : P.fieldsOf t = fs:=by simp [Program.fieldsOf,hu]
   rw [run_equalIn_struct w (n + 2) t us vs (by rw [hf]; exact hu) h3,hf]
   cases hfs : fs.toList with
   | nil=>rw [hfs] at h2; cases h2
   | cons f r=>
    cases r with
    | cons _ _=>rw [hfs] at h2; cases h2
    | nil=>
     rw [hfs] at h2
     simp only [oneF,Bool.and_eq_true] at h2
     obtain ⟨⟨f1,f2⟩,f3⟩ := h2
     have f2 : f.offset = 0:=Nat.eq_of_beq_eq_true f2
     have f3 : f.type = a:=Nat.eq_of_beq_eq_true f3
     have hn : f.name ≠ "_" := by simpa using f1
     have hA : (isAgg a).run P w = .ok true w:=by simp [isAgg,run_underlying k2]
     cases hi : P.info? a with
     | none=>rw [hi] at k6; cases k6
     | some i=>
      rw [hi] at k6; simp only [Option.map_some,Option.some.injEq] at k6
      have hp : ∀ (cs : Array Value),cs.size = m→(part a cs 0).run P w = .ok (.agg cs) w:=fun cs hc=>by
       have hz : (Go.sizeOf a).run P w = .ok m w:=by simp [Go.sizeOf,typeInfo,hi,k6]
       simp only [part,Sem.run_bind,hA,Result.andThen_ok,if_true,hz,Nat.zero_add,← hc]
       simp
      have su : us.size = m:=by have:=r1.len; rw [hasL_rep a1] at this; simpa using this
      have sv : vs.size = m:=by have:=r2.len; rw [hasL_rep a2] at this; simpa using this
      cases hj : P.info? e with
      | none=>rw [hj] at k4; cases k4
      | some j=>
       have hq : (Op.equalIn (n + 2) a (.agg us) (.agg vs)).run P w = .ok (eqDL ds es) w:=by
        rw [run_equalIn_array w (n + 1) us vs k2 hj,k5,List.range_eq_range']
        exact eq_items k3 n us vs w m 0 ds es a1 a2 (by simpa using r1) (by simpa using r2)
       simp only [Op.eqFields,Sem.run_bind,Sem.run_ite,f2,f3,hp us su,hp vs sv,Result.andThen_ok,hq]
       rw [if_pos hn]
       cases eqDL ds es <;> simp
section
variable {P : Program} {ops : Array Oper} {σ : AS} {t : Nat} {ty : TypeId} {pos : String} {af : Array Edge}
theorem o_eqS {T T' : TypeId} {gs : List Tg} [hT : CEq P T gs] {x y : Operand} {ds es : List DV} {b : Bool} (hx : ev σ.env x = some (.agg ds)) (hy : ev σ.env y = some (.agg es)) (h1 : hasL gs ds = true) (h2 : hasL gs es = true) (hb : eqDL ds es = b) :
  OpG P ops ⟨some t,.binOp .eql T x y T',ty,pos,af,none⟩ (tm x++tm y) [] σ ⟨[(t,.bool b)],[],[]⟩ :=
 hb ▸ OpG.val rfl rfl fun C F γ σ' a w hag _ hs=>by
  obtain ⟨k1,k2⟩ := ev2 hs hag hx hy
  simp only [Rs] at k1 k2
  obtain ⟨us,e1,r1⟩ := k1
  obtain ⟨vs,e2,r2⟩ := k2
  refine ⟨.bool (eqDL ds es),?_,by simp only [Rs]⟩
  have:=hT.eq 9997 F γ us vs ds es w h1 h2 r1 r2
  simp only [execOp,e1,e2,Sem.run_bind,run_eqGuard_agg w _ T x y us vs hT.guard,Result.andThen_ok,run_eql_struct,this]
  simp [this]
theorem o_neS {T T' : TypeId} {gs : List Tg} [hT : CEq P T gs] {x y : Operand} {ds es : List DV} {b : Bool} (hx : ev σ.env x = some (.agg ds)) (hy : ev σ.env y = some (.agg es)) (h1 : hasL gs ds = true) (h2 : hasL gs es = true) (hb : eqDL ds es = b) :
  OpG P ops ⟨some t,.binOp .neq T x y T',ty,pos,af,none⟩ (tm x++tm y) [] σ ⟨[(t,.bool (!b))],[],[]⟩ :=
 hb ▸ OpG.val rfl rfl fun C F γ σ' a w hag _ hs=>by
  obtain ⟨k1,k2⟩ := ev2 hs hag hx hy
  simp only [Rs] at k1 k2
  obtain ⟨us,e1,r1⟩ := k1
  obtain ⟨vs,e2,r2⟩ := k2
  refine ⟨.bool (!eqDL ds es),?_,by simp only [Rs]⟩
  have:=hT.eq 9997 F γ us vs ds es w h1 h2 r1 r2
  simp only [execOp,e1,e2,Sem.run_bind,run_eqGuard_agg w _ T x y us vs hT.guard,Result.andThen_ok,run_neq_struct,this]
  simp [this]
end
set_option maxRecDepth 100000
instance : CEq Tryz.prog 24 [.int .i64,.int .u64]:=CEq.struct (by kernel_rfl) (by kernel_rfl) (by kernel_rfl)
instance : CEq Tryz.prog 50 [.int .i64,.int .i64]:=CEq.struct (by kernel_rfl) (by kernel_rfl) (by kernel_rfl)
instance : CEq Tryz.prog 59 [.int .u64,.int .u64,.int .u64,.int .u64,.int .u64,.int .u64,.int .u64,.int .u64,.int .u64,.int .u64,.int .u64,.int .u64,.int .u64,.int .u64,.int .u64,.int .u64]:=CEq.array (e:=22) (m:=16) (g:=.int .u64) (by kernel_rfl) (by kernel_rfl) (by kernel_rfl) (by kernel_rfl) (by kernel_rfl)
instance : CEq Tryz.prog 61 [.int .u64,.int .u64,.int .u64,.int .u64,.int .u64,.int .u64,.int .u64,.int .u64,.int .u64,.int .u64,.int .u64,.int .u64,.int .u64,.int .u64,.int .u64,.int .u64]:=CEq.struct1 (a:=59) (e:=22) (m:=16) (g:=.int .u64) (by kernel_rfl) (by kernel_rfl) (by kernel_rfl) (by kernel_rfl) (by kernel_rfl) (by kernel_rfl) (by kernel_rfl) (by kernel_rfl)
instance : CEq Tryz.prog 66 [.int .i64,.int .i64,.int .i64]:=CEq.struct (by kernel_rfl) (by kernel_rfl) (by kernel_rfl)
instance : CEq Tryz.prog 136 [.int .i64,.int .i64,.int .i64,.int .i64,.int .i64,.int .i64]:=CEq.array (e:=3) (m:=6) (g:=.int .i64) (by kernel_rfl) (by kernel_rfl) (by kernel_rfl) (by kernel_rfl) (by kernel_rfl)
instance : CEq Tryz.prog 147 [.int .u64,.int .u64]:=CEq.struct (by kernel_rfl) (by kernel_rfl) (by kernel_rfl)
instance : CEq Tryz.prog 172 [.int .u8,.int .u8,.int .u8,.int .u8,.int .u8]:=CEq.array (e:=170) (m:=5) (g:=.int .u8) (by kernel_rfl) (by kernel_rfl) (by kernel_rfl) (by kernel_rfl) (by kernel_rfl)
end Go.Proofs.YtcgfgilddjkpkaaGreat
