/-
  What the claim leans on, part 6.
-/
import Derived.Test.YtcgfgilddjkpkaaGreatGNi5
import Derived.Deep.Slices
set_option maxHeartbeats 1000000
set_option maxRecDepth 100000
set_option linter.unusedVariables false
set_option linter.unusedSimpArgs false
namespace Go.Proofs.YtcgfgilddjkpkaaGreat
open Go.ChangeShapes Go.WideShapes Go.ChangeAt Go.RowKit
theorem wf_in {k : IntKind} {n : Int} (h : (Lit.int k n).wf = true) : InR k n:=by
 cases k <;> simpa [Lit.wf,IntKind.min,IntKind.max,IntKind.signed,IntKind.bits,InR] using h
theorem RsL.join {F : FMap} {γ : Gam} {ds es : List DV} {cs : List Value} {off n : Nat} (hn : off + n≤cs.length) (h1 : RsL F γ ds ((cs.drop off).take n)) (h2 : RsL F γ es (cs.drop (off + n))) : RsL F γ (ds++es) (cs.drop off):=by
 have : cs.drop off = (cs.drop off).take n++cs.drop (off + n):=by
  rw [← List.drop_drop,List.take_append_drop]
 rw [this]; exact h1.append h2
theorem RsL.done {F : FMap} {γ : Gam} {cs : List Value} {n : Nat} (h : cs.length = n) : RsL F γ [] (cs.drop n):=by
 simp only [RsL]; rw [← h,List.drop_length]
theorem rs_one {F : FMap} {γ : Gam} {d : DV} {v : Value} (h : RsL F γ [d] [v]) : Rs F γ d v:=by
 simp only [RsL] at h
 obtain ⟨u,rest,h1,_,h2,_⟩ := h
 injection h1 with h1 _; subst h1; exact h2
theorem rs_cells {F : FMap} {γ : Gam} {ds : List DV} {cs : Array Value} (h : RsL F γ ds cs.toList) : Rs F γ (.agg ds) (.agg cs):=by
 simp only [Rs]; exact ⟨cs,rfl,h⟩
section
variable {H : Type} {enc : TypeId × Value→H} {P : Program} {w : World} {fuel : Nat}
theorem op_int {t : TypeId} {k : IntKind} {cs : List Value} {y : DataW H × List MemPlace} (ht : P.underlying t = some (.int k)) (h : DataW.trod enc P w 0 (fun _=>true) true fuel t cs = some y) : ∃ x : Int,RsL (allF w) Gam.no [.int k x] cs∧InR k x:=by
 obtain ⟨n,rfl,_,hw⟩ := DataW.trod_int ht h
 exact ⟨n,RsL.single (by simp only [Rs]) rfl,wf_in hw⟩
end
end Go.Proofs.YtcgfgilddjkpkaaGreat
namespace Go.Proofs.YtcgfgilddjkpkaaGreat
open Go.RowKit
section
variable {P : Program} {ops : Array Oper} {σ : AS} {t : Nat} {ty : TypeId} {pos : String} {af : Array Edge}
theorem o_guardOn {op : Op} {g gt : Nat} {want on : Bool} {gd : DV} {rt rh : List Nat} {d : DV} {hp : Heap} {nw : List Nat} {env' : List (Nat × DV)} (hG : GOn gd want on) (hgo : (ops[g]?).bind (·.dst) = some gt) (hb : look σ.env gt = some gd) (hbw : on = true) (hS : Strip2 σ.env (tmsOf op) env')
  (h : OpG P ops ⟨some t,op,ty,pos,af,none⟩ rt rh ⟨env',σ.heap,σ.used⟩ ⟨[(t,d)],hp,nw⟩) : OpG P ops ⟨some t,op,ty,pos,af,some (g,want)⟩ (gt :: tmsOf op++rt) rh σ ⟨[(t,.ifb on d)],hp,nw⟩ := by
 intro C F γ σ' a w h1 h2 h3 h4 hs K Q hK
 have hb' : look σ'.env gt = some gd:=(h1 gt (by simp)).trans hb
 rw [GOn.wanted hs hG hgo hb']
 have ht : t < C.n:=h4 t rfl
 rw [if_pos hbw]
 have hst:=hS.spec
 obtain ⟨L,hL⟩ : ∃ L : List (Nat × DV),∀ x,look L x = if x∈tmsOf op then look env' x else none := ⟨_,look_pick env' (tmsOf op)⟩
 have hs2 : Sat C F γ ⟨L++σ'.env,σ'.heap,σ'.used⟩ a w:=by
  refine ⟨fun x dx hx=>?_,hs.ws,hs.size,hs.defers⟩
  simp only at hx
  rw [look_append,hL] at hx
  by_cases hm : x∈tmsOf op
  ·rw [if_pos hm] at hx
   have agree : look σ'.env x = look σ.env x:=h1 x (by simp [hm])
   rcases hst x with h | ⟨_,d0,d',k1,k2,k3⟩
   ·rw [h,agree] at hx
    refine hs.env x dx (agree.trans ?_)
    cases hl : look σ.env x <;> simp_all
   ·rw [k2] at hx; simp at hx; subst hx
    have:=hs.env x _ (agree.trans k1)
    exact ⟨this.1,(k3 _ _ _).1 this.2⟩
  ·rw [if_neg hm] at hx; exact hs.env x dx (by simpa using hx)
 have key:=h C F γ ⟨L++σ'.env,σ'.heap,σ'.used⟩ a w (fun x hx=>?_) h2 h3 h4 hs2 K Q (fun F' γ' a' w' hF hs'=>hK F' γ' a' w' hF ?_)
 ·have hw : Region.wanted ⟨some t,op,ty,pos,af,none⟩ (yielded ops a.tmps) = true:=rfl
  rw [if_pos hw] at key
  exact key
 ·simp only
  rw [look_append,hL]
  by_cases hm : x∈tmsOf op
  ·rw [if_pos hm]
   have agree : look σ'.env x = look σ.env x:=h1 x (by simp [hm])
   rcases hst x with h | ⟨_,d0,d',k1,k2,k3⟩
   ·rw [agree,← h]; cases look env' x <;> rfl
   ·rw [k2]; rfl
  ·rw [if_neg hm]
   rcases hst x with h | ⟨hx',_⟩
   ·rw [h,← h1 x (by simp [hx])]; rfl
   ·exact absurd hx' hm
 ·refine ⟨fun x dx hx=>?_,hs'.ws.congr (fun _ _ h=>h) (fun _ h=>h),hs'.size,hs'.defers⟩
  simp only [AS.app,List.singleton_append] at hx
  rw [look_cons] at hx
  by_cases hxt : t = x
  ·rw [if_pos hxt] at hx; injection hx with hx; subst hx; subst hxt
   have:=hs'.env t d (by simp only [AS.app,List.singleton_append]; rw [look_cons,if_pos rfl])
   refine ⟨this.1,?_⟩
   simp only [Rs]
   exact ⟨fun _=>this.2,fun h=>by rw [hbw] at h; cases h⟩
  ·rw [if_neg hxt] at hx
   have get : ∀ d1,(look L x).or (look σ'.env x) = some d1→x < C.n∧Rs F' γ' d1 (a'.tmps.getD x undef):=fun d1 h=>hs'.env x d1 (by simp only [AS.app,List.singleton_append]; rw [look_cons,if_neg hxt,look_append]; exact h)
   rw [hL] at get
   by_cases hm : x∈tmsOf op
   ·rw [if_pos hm] at get
    have agree : look σ'.env x = look σ.env x:=h1 x (by simp [hm])
    rcases hst x with h | ⟨_,d0,d',k1,k2,k3⟩
    ·refine get dx ?_
     rw [h,← agree,hx]; rfl
    ·rw [agree,k1] at hx; injection hx with hx; subst hx
     have:=get d' (by rw [k2]; rfl)
     exact ⟨this.1,(k3 _ _ _).2 this.2⟩
   ·rw [if_neg hm] at get
    exact get dx (by simpa using hx)
theorem o_guardOff {op : Op} {g gt : Nat} {want on : Bool} {gd : DV} (d : DV) (hG : GOn gd want on) (hgo : (ops[g]?).bind (·.dst) = some gt) (hb : look σ.env gt = some gd) (hbw : on = false) :
  OpG P ops ⟨some t,op,ty,pos,af,some (g,want)⟩ [gt] [] σ ⟨[(t,.ifb on d)],[],[]⟩ := by
 intro C F γ σ' a w h1 h2 h3 h4 hs K Q hK
 have hb' : look σ'.env gt = some gd:=(h1 gt (by simp)).trans hb
 rw [GOn.wanted hs hG hgo hb']
 have ht : t < C.n:=h4 t rfl
 subst hbw
 rw [if_neg (by decide)]
 refine hK F γ _ _ (FLe.refl _) (hs.put ht ?_)
 simp only [Rs]
 exact ⟨fun h=>(by cases h),fun _=>trivial⟩
end
/-! arrays at an index that is not known -/
theorem flat_split {β : Type} (g : Nat→List β) : ∀ (n i : Nat),i < n→∃ R,(List.range n).flatMap g = (List.range i).flatMap g++(g i++R)∧R = (List.range (n - (i + 1))).flatMap fun j=>g (i + 1 + j)
 | n,i,h=>by
  refine ⟨_,?_,rfl⟩
  obtain ⟨m,rfl⟩ : ∃ m,n = i + 1 + m := ⟨n - (i + 1),by omega⟩
  rw [Nat.add_sub_cancel_left,List.range_add,List.flatMap_append,List.range_succ,List.flatMap_append,List.flatMap_map]
  simp
theorem flat_len' {β : Type} (g : Nat→List β) {sz : Nat} (hl : ∀ j,(g j).length = sz) : ∀ n,((List.range n).flatMap g).length = n * sz
 | 0=>by simp
 | n + 1=>by rw [List.range_succ,List.flatMap_append,List.length_append,flat_len' g hl n]; simp [hl,Nat.succ_mul]
section
variable {α : Type} {ds ds' : List DV} {off n sz : Nat} {m : Int}
theorem arr_parts (g : Nat→List DV) (hl : ∀ j,(g j).length = sz) (h : inA n m) (hc : (ds.drop off).take (n * sz) = (List.range n).flatMap g) :
  ∃ R B,ds = ds.take off++((List.range m.toNat).flatMap g++(g m.toNat++R)++B)∧R = ((List.range (n - (m.toNat + 1))).flatMap fun j=>g (m.toNat + 1 + j))∧B = ds.drop (off + n * sz):=by
 unfold inA at h
 obtain ⟨R,h1,h2⟩ := flat_split g n m.toNat (by omega)
 refine ⟨R,_,?_,h2,rfl⟩
 rw [← h1,← hc,← List.drop_drop,List.take_append_drop,List.take_append_drop]
theorem arr_off (g : Nat→List DV) (hl : ∀ j,(g j).length = sz) (hz : 0 < sz) (h : inA n m) (hc : (ds.drop off).take (n * sz) = (List.range n).flatMap g) : off≤ds.length∧off + m.toNat * sz + sz≤ds.length:=by
 have h' := h
 unfold inA at h'
 have hlen:=congrArg List.length hc
 rw [List.length_take,List.length_drop,flat_len' g hl] at hlen
 have h1 : (m.toNat + 1) * sz≤n * sz:=Nat.mul_le_mul_right _ (by omega)
 rw [Nat.succ_mul] at h1
 omega
theorem arr_get (encs : α→List DV) (F : Nat→α) (hl : ∀ x,(encs x).length = sz) (hz : 0 < sz) (h : inA n m) (hc : (ds.drop off).take (n * sz) = (List.range n).flatMap fun j=>encs (F j)) : (ds.drop (off + m.toNat * sz)).take sz = encs (F m.toNat):=by
 have ho:=arr_off (fun j=>encs (F j)) (fun j=>hl _) hz h hc
 obtain ⟨R,B,e1,_,_⟩ := arr_parts (fun j=>encs (F j)) (fun j=>hl _) h hc
 have hM:=flat_len' (fun j=>encs (F j)) (fun j=>hl _) m.toNat
 have hAM : (ds.take off++(List.range m.toNat).flatMap fun j=>encs (F j)).length = off + m.toNat * sz:=by rw [List.length_append,hM,List.length_take]; omega
 have e1' : ds = (ds.take off++(List.range m.toNat).flatMap fun j=>encs (F j))++(encs (F m.toNat)++(R++B)):=by
  conv=>lhs; rw [e1]
  simp
 calc (ds.drop (off + m.toNat * sz)).take sz = (((ds.take off++(List.range m.toNat).flatMap fun j=>encs (F j))++(encs (F m.toNat)++(R++B))).drop (off + m.toNat * sz)).take sz:=by rw [← e1']
  _ = encs (F m.toNat):=by rw [List.drop_left' hAM,List.take_left' (hl _)]
theorem arr_len (encs : α→List DV) (F : Nat→α) (hl : ∀ x,(encs x).length = sz) (hz : 0 < sz) (h : inA n m) (hc : (ds.drop off).take (n * sz) = (List.range n).flatMap fun j=>encs (F j)) : Nat.ble sz (ds.drop (off + m.toNat * sz)).length = true:=by
 have ho:=arr_off (fun j=>encs (F j)) (fun j=>hl _) hz h hc
 rw [Nat.ble_eq,List.length_drop]; omega
theorem arr_getf (encs : α→List DV) (F : Nat→α) (hl : ∀ x,(encs x).length = sz) (hz : 0 < sz) (h : inA n m) (hc : (ds.drop off).take (n * sz) = (List.range n).flatMap fun j=>encs (F j)) (fo : Nat) {d : DV} (hf : fo < sz) (hd : (encs (F m.toNat))[fo]? = some d) : ds[off + m.toNat * sz + fo]? = some d:=by
 have:=arr_get encs F hl hz h hc
 rw [← this,List.getElem?_take,if_pos hf,List.getElem?_drop] at hd
 exact hd
theorem arr_get1 (enc : α→DV) (F : Nat→α) (h : inA n m) (hc : (ds.drop off).take (n * 1) = (List.range n).flatMap fun j=>[enc (F j)]) : ds[off + m.toNat * 1]? = some (enc (F m.toNat)):=by
 have:=arr_getf (sz:=1) (fun x=>[enc x]) F (fun _=>rfl) (by omega) h hc 0 (d:=enc (F m.toNat)) (by omega) rfl
 simpa using this
theorem arr_ble (encs : α→List DV) (F : Nat→α) (hl : ∀ x,(encs x).length = sz) (hz : 0 < sz) (h : inA n m) (hc : (ds.drop off).take (n * sz) = (List.range n).flatMap fun j=>encs (F j)) (fo k : Nat) (hk : fo + k≤sz) : Nat.ble (off + m.toNat * sz + fo + k) ds.length = true:=by
 have ho:=arr_off (fun j=>encs (F j)) (fun j=>hl _) hz h hc
 rw [Nat.ble_eq]; omega
theorem layD_mid (A M B cs : List DV) (o : Nat) (h : o + cs.length≤M.length) : layD (A++(M++B)) (A.length + o) cs = A++(layD M o cs++B):=by
 unfold layD
 rw [List.take_append,List.take_of_length_le (by omega),Nat.add_sub_cancel_left,List.take_append_of_le_length (by omega),Nat.add_assoc,List.drop_append,List.drop_of_length_le (by omega),Nat.add_sub_cancel_left,List.drop_append_of_le_length (by omega)]
 simp
theorem arr_set (encs : α→List DV) (F : Nat→α) (v : α) (hl : ∀ x,(encs x).length = sz) (hz : 0 < sz) (h : inA n m) (hc : (ds.drop off).take (n * sz) = (List.range n).flatMap fun j=>encs (F j)) (fo : Nat) {cs : List DV} (hk : fo + cs.length≤sz) (hv : layD (encs (F m.toNat)) fo cs = encs v)
  (h1 : ds'.take off = ds.take off) (h2 : (ds'.drop off).take (n * sz) = (List.range n).flatMap fun j=>encs (upd F m.toNat v j)) (h3 : ds'.drop (off + n * sz) = ds.drop (off + n * sz)) : layD ds (off + m.toNat * sz + fo) cs = ds' := by
 have ho:=arr_off (fun j=>encs (F j)) (fun j=>hl _) hz h hc
 obtain ⟨R,B,e1,e2,e3⟩ := arr_parts (fun j=>encs (F j)) (fun j=>hl _) h hc
 obtain ⟨R',B',f1,f2,f3⟩ := arr_parts (fun j=>encs (upd F m.toNat v j)) (fun j=>hl _) h h2
 have hM:=flat_len' (fun j=>encs (F j)) (fun j=>hl _) m.toNat
 have hR : R' = R:=by
  rw [e2,f2]
  congr 1
  funext j
  unfold upd
  rw [if_neg (by omega)]
 have hP : ((List.range m.toNat).flatMap fun j=>encs (upd F m.toNat v j)) = (List.range m.toNat).flatMap fun j=>encs (F j):=by
  rw [List.flatMap_def,List.flatMap_def]
  congr 1
  apply List.map_congr_left
  intro j hj
  have:=List.mem_range.1 hj
  unfold upd
  rw [if_neg (by omega)]
 have hv' : encs (upd F m.toNat v m.toNat) = encs v:=by unfold upd; rw [if_pos rfl]
 rw [f1,h1,f3,h3,hR,hP,hv',← hv]
 have hA : (ds.take off).length = off:=by rw [List.length_take]; omega
 have key:=layD_mid (ds.take off++(List.range m.toNat).flatMap fun j=>encs (F j)) (encs (F m.toNat)) (R++B) cs fo (by rw [hl]; exact hk)
 rw [List.length_append,hA,hM] at key
 have e1' : ds = (ds.take off++(List.range m.toNat).flatMap fun j=>encs (F j))++(encs (F m.toNat)++(R++B)):=by
  conv=>lhs; rw [e1]
  simp
 rw [← e1'] at key
 rw [key,e3]
 simp
end
section
variable {P : Program} {ops : Array Oper} {σ : AS} {t : Nat} {ty : TypeId} {pos : String} {af : Array Edge}
theorem t_index_d {T n e sz : Nat} [hT : CArr P T n e sz] {x y : Operand} {id off : Nat} {k : IntKind} {m : Int} (h : inA n m) (hx : ev σ.env x = some (.ref id off)) (hy : ev σ.env y = some (.int k m)) :
  OpG P ops ⟨some t,.indexAddr T x y,ty,pos,af,none⟩ (tm x++tm y) [] σ ⟨[(t,.ref id (off + m.toNat * sz))],[],[]⟩ := by
 unfold inA at h
 exact o_indexAddr_a m.toNat hx hy (by omega) (by omega)
end
end Go.Proofs.YtcgfgilddjkpkaaGreat
