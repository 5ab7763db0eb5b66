/-
  What the claim leans on, part 12.
-/
import Derived.Test.YtepkcbalmjnhpaaGreatCRe11
import Derived.Laws.BytesArg
set_option linter.unusedVariables false
set_option linter.unusedSimpArgs false
namespace Go.Proofs.YtepkcbalmjnhpaaGreat
open Go.RowKit
class TStr (P : Program) (t : TypeId) : Prop where
 h : P.underlying t = some .string
section
variable {P : Program} {ops : Array Oper} {σ : AS} {t ty : Nat} {pos : String} {af : Array Edge}
theorem rsE_u8 {F : FMap} : ∀ (xs : List Int) (vs : List Value),RsE F 1 (xs.map (DV.int .u8)) vs→vs = xs.map (Value.int .u8)
 | [],vs,h=>by simp only [List.map_nil,RsE] at h; rw [h]; rfl
 | x :: xs,vs,h=>by
  simp only [List.map_cons,RsE] at h
  obtain ⟨v,rest,h1,h2,h3,h4,h5⟩ := h
  simp only [Rs] at h4
  subst h4
  rw [h1,rsE_u8 xs rest h5]
  rfl
theorem o_b2s {S T e : TypeId} {bytes : Nat} {zd : DV} [hS : CSl P S e 1 bytes zd] [hE : TInt P e .u8] [hT : TStr P T] {x : Operand} {d : DV} {rh : List Nat} (xs : List Int) (hx : ev σ.env x = some d) (hR : Src σ 1 d (xs.map (DV.int .u8)) rh) :
  OpG P ops ⟨some t,.convert S T x,ty,pos,af,none⟩ (tm x) rh σ ⟨[(t,.str (strOfNums xs))],[],[]⟩ :=
 OpG.val rfl rfl fun C F γ σ' a w h1 h2 hs=>by
  have k1:=hs.ev ((ev_agree h1 (fun _ h=>h)).trans hx)
  obtain ⟨A,c,vs,ee,hat,hEl⟩ := hR.read hs h2 k1
  have hv:=rsE_u8 xs vs hEl
  subst hv
  rw [List.length_map] at ee
  refine ⟨.string (strOfNums xs),?_,by simp only [Rs]⟩
  have key : (convert S T (.slice A xs.length c)).run P w = .ok (.string (strOfNums xs)) w:=by
   by_cases hne : xs = []
   ·subst hne
    cases A with
    | none=>exact run_convert_bytes_nil w S e hS.und hE.h _ _ T hT.h
    | some p=>
     have hl : (loadCells p 0).run P w = .ok ((([] : List Int)).map (Value.int .u8)).toArray w:=run_loadCells_list (P:=P) w p [] (fun j v hj=>by simp at hj)
     simp only [List.length_nil]
     rw [run_convert_bytes_string w S T e _ 0 c hS.und hE.h hT.h,run_bytesToString w _ 0 c [] hl,foldl_push_bytes]
     rfl
   ·obtain ⟨b,o,rfl,hr⟩ := hat.elim (by simp [hne])
    exact run_convert_bytes_arg w S e hS.und hE.h b o xs.length c xs rfl (fun i hi=>by
     have:=hr i (.int .u8 (xs.getD i 0)) (by simp [List.getD,List.getElem?_eq_getElem hi])
     exact this) T hT.h
  simp only [execOp,ee,key,Sem.run_bind,Sem.run_pure,Result.andThen_ok]
theorem o_streq {T T' : TypeId} {x y : Operand} {a b : ByteArray} (hx : ev σ.env x = some (.str a)) (hy : ev σ.env y = some (.str b)) :
  OpG P ops ⟨some t,.binOp .eql T x y T',ty,pos,af,none⟩ (tm x++tm y) [] σ ⟨[(t,.bool (a.toList == b.toList))],[],[]⟩ :=
 OpG.val rfl rfl fun C F γ σ' ac w h1 _ hs=>by
  obtain ⟨k1,k2⟩ := ev2 hs h1 hx hy
  simp only [Rs] at k1 k2
  have e2 : eqGuard .eql T x y (.string a) (.string b) = pure ():=rfl
  exact ⟨.bool (a.toList == b.toList),by simp only [execOp,k1,k2,binOp_string_eql,e2,Sem.run_bind,Sem.run_pure,Result.andThen_ok],by simp only [Rs]⟩
end
set_option maxRecDepth 100000
instance : TStr Tryz.prog 9 := ⟨by kernel_rfl⟩
instance : TStr Tryz.prog 10 := ⟨by kernel_rfl⟩
instance : TStr Tryz.prog 11 := ⟨by kernel_rfl⟩
set_option maxHeartbeats 4000000
structure num_Reader where
 gp : List Int
 gerr : Int
def num_Reader.cs (x : num_Reader) : List DV:=[.sl 1 (List.map (DV.int .u8) x.gp),.int .i64 x.gerr]
def num_NewReader (x0 : List Int) : Option num_Reader :=
 chk (apOk 1 (List.length ([] : List Int) + List.length x0))<|
 some (num_Reader.mk (([] : List Int)++x0) 0)
theorem num_NewReader_c {x0 : List Int} {r : num_Reader} (hM : num_NewReader x0 = some r) : ACall Tryz.prog 84 ⟨[.sl 1 (List.map (DV.int .u8) x0)],[],.ref 50000 0,[(50000,some (.blk 221 (num_Reader.cs r)))],[50000]⟩ := by
 unfold num_NewReader at hM
 refine ACall.body Tryz.func84 Tryz.ntmps84 rfl rfl rfl rfl ?_
 refine a_seq (ar (.cons (o_assign rfl)<|.nil _) ?_)
 refine a_seq ?_
 obtain ⟨h1,hM⟩ := of_chk hM
 refine ar (.cons (t_build (DV.int .u8) ([] : List Int) rfl rfl rfl rfl rfl rfl rfl)<|.cons (o_move rfl)<|.cons (t_append x0 h1 rfl rfl rfl Src.sl)<|.cons (o_build rfl rfl rfl)<|.cons (o_box rfl rfl)<|.cons (o_assign rfl)<|.nil _) ?_
 obtain rfl:=Option.some.inj hM
 refine a_imp (Imp.freeze (id:=5) rfl) ?_
 refine a_imp (σ' := ⟨[(2,.ref 50000 0)],[(50000,some (.blk 221 [.sl 1 (List.map (DV.int .u8) ((num_Reader.mk (([] : List Int)++x0) 0).gp)),.int .i64 ((num_Reader.mk (([] : List Int)++x0) 0).gerr)]))],[50000]⟩) (Imp.sh (fun i=>bif Nat.beq i 50000 then 7 else i) rfl rfl rfl rfl rfl rfl) ?_
 exact a_ret (a_post (.r1 (.tmp rfl)) (DLe.refl _) (PostOk.spec (.cons rfl .nil)))
def num_Reader_open_a (o0 : num_Reader) : Option Bool :=
 some (o0.gerr == 0)
theorem num_Reader_open_a_c {o0 : num_Reader} {r : Bool} (hM : num_Reader_open_a o0 = some r) : ACall Tryz.prog 129 ⟨[.ref 100000 0],[(100000,some (.blk 221 (num_Reader.cs o0)))],.bool r,[(100000,some (.blk 221 (num_Reader.cs o0)))],[]⟩ := by
 unfold num_Reader_open_a at hM
 refine ACall.body Tryz.func129 Tryz.ntmps129 rfl rfl rfl rfl ?_
 refine a_seq (ar (.cons (o_assign rfl)<|.nil _) ?_)
 refine a_seq (ar (.cons (o_move rfl)<|.cons (o_ptr_ne rfl)<|.cons (o_move rfl)<|.cons (o_guardOn .bT rfl rfl rfl (.keep .nil) (o_move rfl))<|.cons (o_guardOn .bT rfl rfl rfl (.strip rfl rfl .nil) (o_nilCheck rfl))<|.cons (o_guardOn .bT rfl rfl rfl (.strip rfl rfl .nil) (o_fieldAddr rfl))<|.cons (o_guardOn .bT rfl rfl rfl (.strip rfl rfl .nil) (o_load_s rfl rfl rfl))<|.cons (o_guardOn .bT rfl rfl rfl (.strip rfl rfl .nil) (o_int rfl rfl rfl))<|.cons (o_and rfl rfl)<|.cons (o_assign rfl)<|.nil _) ?_)
 obtain rfl:=Option.some.inj hM
 refine a_imp (σ' := ⟨[(2,.bool (o0.gerr == 0))],[(100000,some (.blk 221 (num_Reader.cs o0)))],[100000]⟩) (Imp.sh (fun i=>i) rfl rfl rfl rfl rfl rfl) ?_
 exact a_ret (a_post (.r1 (.tmp rfl)) (DLe.refl _) (PostOk.spec (.cons rfl .nil)))
def num_Uint_K1 : Option (Int × Int × Int) :=
 some (0,0,6)
def num_Uint_L2 (x0 : List Int) (k1 : Nat) (a2 : Int) : Option (Ctl Int (Int × Int × Int)) :=
 (idx x0 (k1 : Int)).bind fun v7=>
 if (((k1 : Int) == 9) && (decide (1 < v7))) = true then
  some (.done (0,0,6))
 else
  chk ((0 : Int)≤(IntKind.wrap .i64 (7 * (k1 : Int))))<|
  if ((Int.fdiv v7 (2 ^ min (Int.toNat 7) (IntKind.bits .u8))) == 0) = true then
   if ((v7 == 0) && (decide (0 < (k1 : Int)))) = true then
    some (.done (0,0,6))
   else
    some (.done ((bitI .or .u64 a2 (IntKind.wrap .u64 ((IntKind.wrap .u64 (bitI .and .u8 v7 127)) * 2 ^ min (Int.toNat (IntKind.wrap .i64 (7 * (k1 : Int)))) (IntKind.bits .u64)))),((k1 : Int) + 1),0))
  else
   some (.next (bitI .or .u64 a2 (IntKind.wrap .u64 ((IntKind.wrap .u64 (bitI .and .u8 v7 127)) * 2 ^ min (Int.toNat (IntKind.wrap .i64 (7 * (k1 : Int)))) (IntKind.bits .u64)))))
def num_Uint (x0 : List Int) : Option (Int × Int × Int) :=
 (forM' (E:=Int × Int × Int) 9223372036854775807 (List.length x0 : Int) (fun k1 s=>num_Uint_L2 x0 k1 s) 0).bind fun
  | .next s=>num_Uint_K1
  | .done r=>some r
theorem num_Uint_c {x0 : List Int} {r : Int × Int × Int} (hM : num_Uint x0 = some r) : PCall Tryz.prog 130 [.sl 1 (List.map (DV.int .u8) x0)] (.tup [.int .u64 r.1,.int .i64 r.2.1,.int .i64 r.2.2]):=by
 unfold num_Uint at hM
 refine PCall.body Tryz.func130 Tryz.ntmps130 rfl rfl rfl rfl ?_
 refine a_seq (ar (.cons (o_assign rfl)<|.cons (o_assign rfl)<|.cons (o_assign rfl)<|.nil _) ?_)
 refine a_cut (α:=Unit) (fun s=>⟨[],[],[]⟩) (fun s=>num_Uint_K1 = some r) ?_ ?_
 ·refine a_seq (ar (.cons (o_move rfl)<|.cons (t_len rfl)<|.cons (o_move rfl)<|.nil _) ?_)
  obtain ⟨t3,hL3,hK3⟩ := of_bind hM
  refine a_block ?_
  refine a_for (fun k1 (s : Int)=>⟨[(2,.int .u64 s),(7,.sl 1 (List.map (DV.int .u8) x0)),(8,.int .i64 (List.length x0 : Int)),(9,.int .i64 (k1 : Int))],[],[]⟩) _ hL3 (Imp.sh (fun i=>i) rfl rfl rfl rfl rfl rfl) ?_ ?_
  ·rintro k1 a2 t4 hk1 hx1 hM hE3
   replace hM : num_Uint_L2 x0 k1 a2 = some t4:=hM
   unfold num_Uint_L2 at hM
   refine a_seq (ar (.cons (o_int rfl rfl rfl)<|.nil _) ?_)
   refine a_seq ?_
   refine a_cond _ rfl (fun _=>?_) (fun c=>absurd hk1 (of_decide_eq_false c))
   refine a_skip (a_seq (a_block (a_seq ?_)))
   obtain ⟨v7,h6,hM⟩ := of_bind hM
   refine ar (.cons (o_move rfl)<|.cons (t_index h6 rfl rfl rfl)<|.cons (o_load_es rfl rfl)<|.cons (o_assign rfl)<|.cons (o_assign rfl)<|.nil _) ?_
   refine a_seq (a_seq (ar (.cons (o_move rfl)<|.cons (o_int rfl rfl rfl)<|.cons (o_move rfl)<|.cons (o_guardG .bT rfl rfl (fun hb=>(.keep .nil)) (fun hb=>o_move rfl))<|.cons (o_guardG .bT rfl rfl (fun hb=>(.strip rfl hb .nil)) (fun hb=>o_int rfl rfl rfl))<|.cons (o_and rfl rfl)<|.nil _) ?_))
   refine a_cond _ rfl (fun h8=>?_) (fun h8=>?_)
   ·replace hM:=(of_if hM).1 h8
    refine a_seq (ar (.cons (o_assign rfl)<|.cons (o_assign rfl)<|.cons (o_assign rfl)<|.nil _) ?_)
    obtain rfl:=Option.some.inj hM
    obtain rfl:=hE3 _ rfl
    obtain rfl:=Option.some.inj hK3
    exact a_ret (a_post (.r3 (.tmp rfl) (.tmp rfl) (.tmp rfl)) (DLe.refl _) PostOk.nil.spec)
   ·replace hM:=(of_if hM).2 h8
    refine a_skip (a_seq ?_)
    obtain ⟨h9,hM⟩ := of_chk hM
    refine ar (.cons (o_move rfl)<|.cons (o_move rfl)<|.cons (o_int rfl rfl rfl)<|.cons (o_conv_w rfl)<|.cons (o_move rfl)<|.cons (o_int rfl rfl rfl)<|.cons (o_shl rfl rfl h9)<|.cons (o_int rfl rfl rfl)<|.cons (o_assign rfl)<|.nil _) ?_
    refine a_seq (ar (.cons (o_move rfl)<|.cons (o_shr rfl rfl (by decide))<|.cons (o_int rfl rfl rfl)<|.nil _) ?_)
    refine a_cond _ rfl (fun h10=>?_) (fun h10=>?_)
    ·replace hM:=(of_if hM).1 h10
     refine a_seq (a_seq (ar (.cons (o_move rfl)<|.cons (o_int rfl rfl rfl)<|.cons (o_move rfl)<|.cons (o_guardG .bT rfl rfl (fun hb=>(.keep .nil)) (fun hb=>o_move rfl))<|.cons (o_guardG .bT rfl rfl (fun hb=>(.strip rfl hb .nil)) (fun hb=>o_int rfl rfl rfl))<|.cons (o_and rfl rfl)<|.nil _) ?_))
     refine a_cond _ rfl (fun h11=>?_) (fun h11=>?_)
     ·replace hM:=(of_if hM).1 h11
      refine a_seq (ar (.cons (o_assign rfl)<|.cons (o_assign rfl)<|.cons (o_assign rfl)<|.nil _) ?_)
      obtain rfl:=Option.some.inj hM
      obtain rfl:=hE3 _ rfl
      obtain rfl:=Option.some.inj hK3
      exact a_ret (a_post (.r3 (.tmp rfl) (.tmp rfl) (.tmp rfl)) (DLe.refl _) PostOk.nil.spec)
     ·replace hM:=(of_if hM).2 h11
      refine a_skip (a_seq (ar (.cons (o_move rfl)<|.cons (o_move rfl)<|.cons (o_add rfl rfl (inR_i64 hk1 hx1))<|.cons (o_assign rfl)<|.cons (o_assign rfl)<|.cons (o_assign rfl)<|.nil _) ?_))
      obtain rfl:=Option.some.inj hM
      obtain rfl:=hE3 _ rfl
      obtain rfl:=Option.some.inj hK3
      exact a_ret (a_post (.r3 (.tmp rfl) (.tmp rfl) (.tmp rfl)) (DLe.refl _) PostOk.nil.spec)
    ·replace hM:=(of_if hM).2 h10
     refine a_skip (ar (.cons (o_add rfl rfl (inR_i64 hk1 hx1))<|.cons (o_move rfl)<|.nil _) ?_)
     obtain rfl:=Option.some.inj hM
     exact ⟨(bitI .or .u64 a2 (IntKind.wrap .u64 ((IntKind.wrap .u64 (bitI .and .u8 v7 127)) * 2 ^ min (Int.toNat (IntKind.wrap .i64 (7 * (k1 : Int)))) (IntKind.bits .u64)))),rfl,(Imp.of (fun i=>i) (.cons rfl (DLe.refl _) (.cons rfl (DLe.refl _) (.cons rfl (DLe.refl _) (.cons rfl (DLe.succ _ _) .nil)))) .nil rfl rfl rfl)⟩
  ·rintro k1 a2 hk1 hx1 rfl
   refine a_seq (ar (.cons (o_int rfl rfl rfl)<|.nil _) ?_)
   refine a_seq ?_
   refine a_cond _ rfl (fun c=>absurd (of_decide_eq_true c) (Int.not_lt.2 hk1)) (fun _=>?_)
   refine a_exit ?_
   exact ⟨(),hK3,(Imp.sh (fun i=>i) rfl rfl rfl rfl rfl rfl)⟩
 ·rintro _ hM
  replace hM : num_Uint_K1 = some r:=hM
  unfold num_Uint_K1 at hM
  refine a_seq (ar (.cons (o_assign rfl)<|.cons (o_assign rfl)<|.cons (o_assign rfl)<|.nil _) ?_)
  obtain rfl:=Option.some.inj hM
  exact a_ret (a_post (.r3 (.tmp rfl) (.tmp rfl) (.tmp rfl)) (DLe.refl _) PostOk.nil.spec)
def num_Reader_take_a (x1 : Int) (x2 : Int) (o0 : num_Reader) : Option (Bool × num_Reader) :=
 if (x2 != 0) = true then
  some (false,(num_Reader.mk o0.gp x2))
 else
  chk (slOk (List.length o0.gp) x1 (List.length o0.gp))<|
  some (true,(num_Reader.mk (List.drop (Int.toNat x1) o0.gp) o0.gerr))
theorem num_Reader_take_a_c {x1 : Int} {x2 : Int} {o0 : num_Reader} {r : Bool × num_Reader} (hM : num_Reader_take_a x1 x2 o0 = some r) : ACall Tryz.prog 131 ⟨[.ref 100000 0,.int .i64 x1,.int .i64 x2],[(100000,some (.blk 221 (num_Reader.cs o0)))],.bool r.1,[(100000,some (.blk 221 (num_Reader.cs r.2)))],[]⟩ := by
 unfold num_Reader_take_a at hM
 refine ACall.body Tryz.func131 Tryz.ntmps131 rfl rfl rfl rfl ?_
 refine a_seq (ar (.cons (o_assign rfl)<|.nil _) ?_)
 refine a_seq (a_seq (ar (.cons (o_move rfl)<|.cons (o_int rfl rfl rfl)<|.nil _) ?_))
 refine a_cond _ rfl (fun h1=>?_) (fun h1=>?_)
 ·replace hM:=(of_if hM).1 h1
  refine a_seq (ar (.cons (o_move rfl)<|.cons (o_move rfl)<|.cons (o_nilCheck rfl)<|.cons (o_fieldAddr rfl)<|.cons (o_store_s rfl rfl rfl rfl rfl)<|.nil _) ?_)
  refine a_seq (ar (.cons (o_assign rfl)<|.nil _) ?_)
  obtain rfl:=Option.some.inj hM
  refine a_imp (σ' := ⟨[(6,.bool false)],[(100000,some (.blk 221 [.sl 1 (List.map (DV.int .u8) ((num_Reader.mk o0.gp x2).gp)),.int .i64 ((num_Reader.mk o0.gp x2).gerr)]))],[100000]⟩) (Imp.sh (fun i=>i) rfl rfl rfl rfl rfl rfl) ?_
  exact a_ret (a_post (.r1 (.tmp rfl)) (DLe.refl _) (PostOk.spec (.cons rfl .nil)))
 ·replace hM:=(of_if hM).2 h1
  refine a_skip (a_seq ?_)
  obtain ⟨h2,hM⟩ := of_chk hM
  refine ar (.cons (o_move rfl)<|.cons (o_move rfl)<|.cons (o_nilCheck rfl)<|.cons (o_fieldAddr rfl)<|.cons (o_load_s rfl rfl rfl)<|.cons (o_move rfl)<|.cons (t_slice_l h2 rfl rfl)<|.cons (o_nilCheck rfl)<|.cons (o_fieldAddr rfl)<|.cons (o_store_s rfl rfl rfl rfl rfl)<|.nil _) ?_
  refine a_seq (ar (.cons (o_assign rfl)<|.nil _) ?_)
  obtain rfl:=Option.some.inj hM
  refine a_imp (σ' := ⟨[(6,.bool true)],[(100000,some (.blk 221 [.sl 1 (List.map (DV.int .u8) ((num_Reader.mk (List.drop (Int.toNat x1) o0.gp) o0.gerr).gp)),.int .i64 ((num_Reader.mk (List.drop (Int.toNat x1) o0.gp) o0.gerr).gerr)]))],[100000]⟩) (Imp.sh (fun i=>i) rfl rfl rfl rfl rfl rfl) ?_
  exact a_ret (a_post (.r1 (.tmp rfl)) (DLe.refl _) (PostOk.spec (.cons rfl .nil)))
def num_Reader_Uint_a_K1 (o0 : num_Reader) (v5 : Int × Int × Int) (a6 : Int) : Option (Int × num_Reader) :=
 (num_Reader_take_a v5.2.1 a6 o0).bind fun v8=>
 if (!v8.1) = true then
  some (0,v8.2)
 else
  some (v5.1,v8.2)
def num_Reader_Uint_a (x1 : Int) (o0 : num_Reader) : Option (Int × num_Reader) :=
 (num_Reader_open_a o0).bind fun v2=>
 if (!v2) = true then
  some (0,o0)
 else
  (num_Uint o0.gp).bind fun v5=>
  if ((v5.2.2 == 0) && (decide (x1 < v5.1))) = true then
   num_Reader_Uint_a_K1 o0 v5 2
  else
   num_Reader_Uint_a_K1 o0 v5 v5.2.2
theorem num_Reader_Uint_a_c {x1 : Int} {o0 : num_Reader} {r : Int × num_Reader} (hM : num_Reader_Uint_a x1 o0 = some r) : ACall Tryz.prog 85 ⟨[.ref 100000 0,.int .u64 x1],[(100000,some (.blk 221 (num_Reader.cs o0)))],.int .u64 r.1,[(100000,some (.blk 221 (num_Reader.cs r.2)))],[]⟩ := by
 unfold num_Reader_Uint_a at hM
 refine ACall.body Tryz.func85 Tryz.ntmps85 rfl rfl rfl rfl ?_
 refine a_seq (ar (.cons (o_assign rfl)<|.nil _) ?_)
 refine a_seq (a_seq ?_)
 obtain ⟨v2,h1,hM⟩ := of_bind hM
 refine ar (.cons (o_move rfl)<|.cons (o_callN (fun i=>bif Nat.beq i 100000 then 100000 else i) 0 (num_Reader_open_a_c h1) rfl (DLeL.refl _) (.cons rfl .nil) rfl (.cons rfl .nil))<|.cons (o_not rfl)<|.nil _) ?_
 refine a_cond _ rfl (fun h3=>?_) (fun h3=>?_)
 ·replace hM:=(of_if hM).1 h3
  refine a_seq (ar (.cons (o_assign rfl)<|.nil _) ?_)
  obtain rfl:=Option.some.inj hM
  refine a_imp (σ' := ⟨[(4,.int .u64 0)],[(100000,some (.blk 221 (num_Reader.cs o0)))],[100000]⟩) (Imp.sh (fun i=>i) rfl rfl rfl rfl rfl rfl) ?_
  exact a_ret (a_post (.r1 (.tmp rfl)) (DLe.refl _) (PostOk.spec (.cons rfl .nil)))
 ·replace hM:=(of_if hM).2 h3
  refine a_skip (a_seq ?_)
  obtain ⟨v5,h4,hM⟩ := of_bind hM
  refine ar (.cons (o_move rfl)<|.cons (o_nilCheck rfl)<|.cons (o_fieldAddr rfl)<|.cons (o_load_s rfl rfl rfl)<|.cons (o_call (num_Uint_c h4) rfl (DLeL.refl _) rfl)<|.cons (o_move rfl)<|.cons (o_extract rfl rfl)<|.cons (o_extract rfl rfl)<|.cons (o_extract rfl rfl)<|.cons (o_assign rfl)<|.cons (o_assign rfl)<|.cons (o_assign rfl)<|.nil _) ?_
  refine a_cut (α:=Int) (fun s=>⟨[(0,.ref 100000 0),(5,.int .u64 v5.1),(6,.int .i64 v5.2.1),(7,.int .i64 s)],[(100000,some (.blk 221 (num_Reader.cs o0)))],[100000]⟩) (fun s=>num_Reader_Uint_a_K1 o0 v5 s = some r) ?_ ?_
  ·refine a_seq (ar (.cons (o_move rfl)<|.cons (o_int rfl rfl rfl)<|.cons (o_move rfl)<|.cons (o_guardG .bT rfl rfl (fun hb=>(.keep .nil)) (fun hb=>o_move rfl))<|.cons (o_guardG .bT rfl rfl (fun hb=>(.keep .nil)) (fun hb=>o_move rfl))<|.cons (o_guardG .bT rfl rfl (fun hb=>(.strip rfl hb (.strip rfl hb .nil))) (fun hb=>o_int rfl rfl rfl))<|.cons (o_and rfl rfl)<|.nil _) ?_)
   refine a_cond _ rfl (fun h10=>?_) (fun h10=>?_)
   ·replace hM:=(of_if hM).1 h10
    refine ar (.cons (o_assign rfl)<|.nil _) ?_
    exact ⟨2,hM,(Imp.sh (fun i=>i) rfl rfl rfl rfl rfl rfl)⟩
   ·replace hM:=(of_if hM).2 h10
    refine a_skip ?_
    exact ⟨v5.2.2,hM,(Imp.sh (fun i=>i) rfl rfl rfl rfl rfl rfl)⟩
  ·rintro a6 hM
   replace hM : num_Reader_Uint_a_K1 o0 v5 a6 = some r:=hM
   unfold num_Reader_Uint_a_K1 at hM
   refine a_seq (a_seq ?_)
   obtain ⟨v8,h7,hM⟩ := of_bind hM
   refine ar (.cons (o_move rfl)<|.cons (o_move rfl)<|.cons (o_move rfl)<|.cons (o_callN (fun i=>bif Nat.beq i 100000 then 100000 else i) 1 (num_Reader_take_a_c h7) rfl (DLeL.refl _) (.cons rfl .nil) rfl .nil)<|.cons (o_not rfl)<|.nil _) ?_
   refine a_cond _ rfl (fun h9=>?_) (fun h9=>?_)
   ·replace hM:=(of_if hM).1 h9
    refine a_seq (ar (.cons (o_assign rfl)<|.nil _) ?_)
    obtain rfl:=Option.some.inj hM
    refine a_imp (σ' := ⟨[(4,.int .u64 0)],[(100000,some (.blk 221 (num_Reader.cs v8.2)))],[100000]⟩) (Imp.sh (fun i=>i) rfl rfl rfl rfl rfl rfl) ?_
    exact a_ret (a_post (.r1 (.tmp rfl)) (DLe.refl _) (PostOk.spec (.cons rfl .nil)))
   ·replace hM:=(of_if hM).2 h9
    refine a_skip (a_seq (ar (.cons (o_move rfl)<|.cons (o_assign rfl)<|.nil _) ?_))
    obtain rfl:=Option.some.inj hM
    refine a_imp (σ' := ⟨[(4,.int .u64 v5.1)],[(100000,some (.blk 221 (num_Reader.cs v8.2)))],[100000]⟩) (Imp.sh (fun i=>i) rfl rfl rfl rfl rfl rfl) ?_
    exact a_ret (a_post (.r1 (.tmp rfl)) (DLe.refl _) (PostOk.spec (.cons rfl .nil)))
def num_Reader_Err_a (o0 : num_Reader) : Option Int :=
 some o0.gerr
theorem num_Reader_Err_a_c {o0 : num_Reader} {r : Int} (hM : num_Reader_Err_a o0 = some r) : ACall Tryz.prog 116 ⟨[.ref 100000 0],[(100000,some (.blk 221 (num_Reader.cs o0)))],.int .i64 r,[(100000,some (.blk 221 (num_Reader.cs o0)))],[]⟩ := by
 unfold num_Reader_Err_a at hM
 refine ACall.body Tryz.func116 Tryz.ntmps116 rfl rfl rfl rfl ?_
 refine a_seq (ar (.cons (o_assign rfl)<|.nil _) ?_)
 refine a_seq (a_seq (ar (.cons (o_move rfl)<|.cons (o_ptr_eq rfl)<|.nil _) ?_))
 refine a_cond _ rfl (fun c=>by cases c) (fun _=>?_)
 refine a_skip (a_seq (ar (.cons (o_move rfl)<|.cons (o_nilCheck rfl)<|.cons (o_fieldAddr rfl)<|.cons (o_load_s rfl rfl rfl)<|.cons (o_assign rfl)<|.nil _) ?_))
 obtain rfl:=Option.some.inj hM
 refine a_imp (σ' := ⟨[(2,.int .i64 o0.gerr)],[(100000,some (.blk 221 (num_Reader.cs o0)))],[100000]⟩) (Imp.sh (fun i=>i) rfl rfl rfl rfl rfl rfl) ?_
 exact a_ret (a_post (.r1 (.tmp rfl)) (DLe.refl _) (PostOk.spec (.cons rfl .nil)))
def num_Reader_Left_a (o0 : num_Reader) : Option Int :=
 some (List.length o0.gp : Int)
theorem num_Reader_Left_a_c {o0 : num_Reader} {r : Int} (hM : num_Reader_Left_a o0 = some r) : ACall Tryz.prog 117 ⟨[.ref 100000 0],[(100000,some (.blk 221 (num_Reader.cs o0)))],.int .i64 r,[(100000,some (.blk 221 (num_Reader.cs o0)))],[]⟩ := by
 unfold num_Reader_Left_a at hM
 refine ACall.body Tryz.func117 Tryz.ntmps117 rfl rfl rfl rfl ?_
 refine a_seq (ar (.cons (o_assign rfl)<|.nil _) ?_)
 refine a_seq (a_seq (ar (.cons (o_move rfl)<|.cons (o_ptr_eq rfl)<|.nil _) ?_))
 refine a_cond _ rfl (fun c=>by cases c) (fun _=>?_)
 refine a_skip (a_seq (ar (.cons (o_move rfl)<|.cons (o_nilCheck rfl)<|.cons (o_fieldAddr rfl)<|.cons (o_load_s rfl rfl rfl)<|.cons (t_len rfl)<|.cons (o_assign rfl)<|.nil _) ?_))
 obtain rfl:=Option.some.inj hM
 refine a_imp (σ' := ⟨[(2,.int .i64 (List.length o0.gp : Int))],[(100000,some (.blk 221 (num_Reader.cs o0)))],[100000]⟩) (Imp.sh (fun i=>i) rfl rfl rfl rfl rfl rfl) ?_
 exact a_ret (a_post (.r1 (.tmp rfl)) (DLe.refl _) (PostOk.spec (.cons rfl .nil)))
def num_Bytes (x0 : List Int) (x1 : Int) : Option ((List Int) × Int × Int) :=
 if (decide (x1 < 0)) = true then
  some (([] : List Int),0,1)
 else
  (num_Uint x0).bind fun v3=>
  if (v3.2.2 != 0) = true then
   some (([] : List Int),0,v3.2.2)
  else
   if (decide ((IntKind.wrap .u64 x1) < v3.1)) = true then
    some (([] : List Int),0,3)
   else
    if (decide ((IntKind.wrap .u64 (IntKind.wrap .i64 ((List.length x0 : Int) - v3.2.1))) < v3.1)) = true then
     some (([] : List Int),0,6)
    else
     chk (slOk (List.length x0) v3.2.1 (IntKind.wrap .i64 (v3.2.1 + (IntKind.wrap .i64 v3.1))))<|
     chk (apOk 1 (List.length ([] : List Int) + List.length (slc x0 v3.2.1 (IntKind.wrap .i64 (v3.2.1 + (IntKind.wrap .i64 v3.1))))))<|
     some ((([] : List Int)++(slc x0 v3.2.1 (IntKind.wrap .i64 (v3.2.1 + (IntKind.wrap .i64 v3.1))))),(IntKind.wrap .i64 (v3.2.1 + (IntKind.wrap .i64 v3.1))),0)
theorem num_Bytes_c {x0 : List Int} {x1 : Int} {r : (List Int) × Int × Int} (hM : num_Bytes x0 x1 = some r) : PCall Tryz.prog 163 [.sl 1 (List.map (DV.int .u8) x0),.int .i64 x1] (.tup [.sl 1 (List.map (DV.int .u8) r.1),.int .i64 r.2.1,.int .i64 r.2.2]):=by
 unfold num_Bytes at hM
 refine PCall.body Tryz.func163 Tryz.ntmps163 rfl rfl rfl rfl ?_
 refine a_seq (ar (.cons (o_assign rfl)<|.cons (o_assign rfl)<|.cons (o_assign rfl)<|.nil _) ?_)
 refine a_seq (a_seq (ar (.cons (o_move rfl)<|.cons (o_int rfl rfl rfl)<|.nil _) ?_))
 refine a_cond _ rfl (fun h1=>?_) (fun h1=>?_)
 ·replace hM:=(of_if hM).1 h1
  refine a_seq (ar (.cons (o_assign rfl)<|.cons (o_assign rfl)<|.cons (o_assign rfl)<|.nil _) ?_)
  obtain rfl:=Option.some.inj hM
  exact a_ret (a_post (.r3 (.tmp rfl) (.tmp rfl) (.tmp rfl)) (DLe.tup (.cons (DLe.nils _) (.cons (DLe.refl _) (.cons (DLe.refl _) .nil)))) PostOk.nil.spec)
 ·replace hM:=(of_if hM).2 h1
  refine a_skip (a_seq ?_)
  obtain ⟨v3,h2,hM⟩ := of_bind hM
  refine ar (.cons (o_move rfl)<|.cons (o_call (num_Uint_c h2) rfl (DLeL.refl _) rfl)<|.cons (o_move rfl)<|.cons (o_extract rfl rfl)<|.cons (o_extract rfl rfl)<|.cons (o_extract rfl rfl)<|.cons (o_assign rfl)<|.cons (o_assign rfl)<|.cons (o_assign rfl)<|.nil _) ?_
  refine a_seq (a_block (a_seq (ar (.cons (o_move rfl)<|.cons (o_int rfl rfl rfl)<|.cons (o_assign rfl)<|.nil _) ?_)))
  refine a_cond _ rfl (fun h4=>?_) (fun h4=>?_)
  ·replace hM:=(of_if hM).1 h4
   refine a_seq (ar (.cons (o_move rfl)<|.cons (o_assign rfl)<|.cons (o_assign rfl)<|.cons (o_assign rfl)<|.nil _) ?_)
   obtain rfl:=Option.some.inj hM
   exact a_ret (a_post (.r3 (.tmp rfl) (.tmp rfl) (.tmp rfl)) (DLe.tup (.cons (DLe.nils _) (.cons (DLe.refl _) (.cons (DLe.refl _) .nil)))) PostOk.nil.spec)
  ·replace hM:=(of_if hM).2 h4
   refine a_seq (ar (.cons (o_move rfl)<|.cons (o_move rfl)<|.cons (o_conv_w rfl)<|.cons (o_int rfl rfl rfl)<|.cons (o_assign rfl)<|.nil _) ?_)
   refine a_cond _ rfl (fun h5=>?_) (fun h5=>?_)
   ·replace hM:=(of_if hM).1 h5
    refine a_seq (ar (.cons (o_assign rfl)<|.cons (o_assign rfl)<|.cons (o_assign rfl)<|.nil _) ?_)
    obtain rfl:=Option.some.inj hM
    exact a_ret (a_post (.r3 (.tmp rfl) (.tmp rfl) (.tmp rfl)) (DLe.tup (.cons (DLe.nils _) (.cons (DLe.refl _) (.cons (DLe.refl _) .nil)))) PostOk.nil.spec)
   ·replace hM:=(of_if hM).2 h5
    refine a_seq (ar (.cons (o_move rfl)<|.cons (o_move rfl)<|.cons (t_len rfl)<|.cons (o_move rfl)<|.cons (o_int rfl rfl rfl)<|.cons (o_conv_w rfl)<|.cons (o_int rfl rfl rfl)<|.cons (o_assign rfl)<|.nil _) ?_)
    refine a_cond _ rfl (fun h6=>?_) (fun h6=>?_)
    ·replace hM:=(of_if hM).1 h6
     refine a_seq (ar (.cons (o_assign rfl)<|.cons (o_assign rfl)<|.cons (o_assign rfl)<|.nil _) ?_)
     obtain rfl:=Option.some.inj hM
     exact a_ret (a_post (.r3 (.tmp rfl) (.tmp rfl) (.tmp rfl)) (DLe.tup (.cons (DLe.nils _) (.cons (DLe.refl _) (.cons (DLe.refl _) .nil)))) PostOk.nil.spec)
    ·replace hM:=(of_if hM).2 h6
     refine a_skip (a_seq (ar (.cons (o_move rfl)<|.cons (o_move rfl)<|.cons (o_conv_w rfl)<|.cons (o_int rfl rfl rfl)<|.cons (o_assign rfl)<|.nil _) ?_))
     refine a_seq ?_
     obtain ⟨h7,hM⟩ := of_chk hM
     obtain ⟨h8,hM⟩ := of_chk hM
     refine ar (.cons (t_build (DV.int .u8) ([] : List Int) rfl rfl rfl rfl rfl rfl rfl)<|.cons (o_move rfl)<|.cons (o_move rfl)<|.cons (o_move rfl)<|.cons (t_slice h7 rfl rfl rfl)<|.cons (t_append (slc x0 v3.2.1 (IntKind.wrap .i64 (v3.2.1 + (IntKind.wrap .i64 v3.1)))) h8 rfl rfl rfl Src.sl)<|.cons (o_move rfl)<|.cons (o_assign rfl)<|.cons (o_assign rfl)<|.cons (o_assign rfl)<|.nil _) ?_
     obtain rfl:=Option.some.inj hM
     refine a_imp (Imp.freeze (id:=43) rfl) ?_
     exact a_ret (a_post (.r3 (.tmp rfl) (.tmp rfl) (.tmp rfl)) (DLe.refl _) PostOk.nil.spec)
def num_Reader_Bytes_a (x1 : Int) (o0 : num_Reader) : Option ((List Int) × num_Reader) :=
 (num_Reader_open_a o0).bind fun v2=>
 if (!v2) = true then
  some (([] : List Int),o0)
 else
  (num_Bytes o0.gp x1).bind fun v5=>
  (num_Reader_take_a v5.2.1 v5.2.2 o0).bind fun v7=>
  if (!v7.1) = true then
   some (([] : List Int),v7.2)
  else
   some (v5.1,v7.2)
theorem num_Reader_Bytes_a_c {x1 : Int} {o0 : num_Reader} {r : (List Int) × num_Reader} (hM : num_Reader_Bytes_a x1 o0 = some r) : ACall Tryz.prog 132 ⟨[.ref 100000 0,.int .i64 x1],[(100000,some (.blk 221 (num_Reader.cs o0)))],.sl 1 (List.map (DV.int .u8) r.1),[(100000,some (.blk 221 (num_Reader.cs r.2)))],[]⟩ := by
 unfold num_Reader_Bytes_a at hM
 refine ACall.body Tryz.func132 Tryz.ntmps132 rfl rfl rfl rfl ?_
 refine a_seq (ar (.cons (o_assign rfl)<|.nil _) ?_)
 refine a_seq (a_seq ?_)
 obtain ⟨v2,h1,hM⟩ := of_bind hM
 refine ar (.cons (o_move rfl)<|.cons (o_callN (fun i=>bif Nat.beq i 100000 then 100000 else i) 0 (num_Reader_open_a_c h1) rfl (DLeL.refl _) (.cons rfl .nil) rfl (.cons rfl .nil))<|.cons (o_not rfl)<|.nil _) ?_
 refine a_cond _ rfl (fun h3=>?_) (fun h3=>?_)
 ·replace hM:=(of_if hM).1 h3
  refine a_seq (ar (.cons (o_assign rfl)<|.nil _) ?_)
  obtain rfl:=Option.some.inj hM
  refine a_imp (σ' := ⟨[(4,.nils)],[(100000,some (.blk 221 (num_Reader.cs o0)))],[100000]⟩) (Imp.sh (fun i=>i) rfl rfl rfl rfl rfl rfl) ?_
  exact a_ret (a_post (.r1 (.tmp rfl)) (DLe.nils _) (PostOk.spec (.cons rfl .nil)))
 ·replace hM:=(of_if hM).2 h3
  refine a_skip (a_seq ?_)
  obtain ⟨v5,h4,hM⟩ := of_bind hM
  refine ar (.cons (o_move rfl)<|.cons (o_nilCheck rfl)<|.cons (o_fieldAddr rfl)<|.cons (o_load_s rfl rfl rfl)<|.cons (o_move rfl)<|.cons (o_call (num_Bytes_c h4) rfl (DLeL.refl _) rfl)<|.cons (o_move rfl)<|.cons (o_extract rfl rfl)<|.cons (o_extract rfl rfl)<|.cons (o_extract rfl rfl)<|.cons (o_assign rfl)<|.cons (o_assign rfl)<|.cons (o_assign rfl)<|.nil _) ?_
  refine a_seq (a_seq ?_)
  obtain ⟨v7,h6,hM⟩ := of_bind hM
  refine ar (.cons (o_move rfl)<|.cons (o_move rfl)<|.cons (o_move rfl)<|.cons (o_callN (fun i=>bif Nat.beq i 100000 then 100000 else i) 1 (num_Reader_take_a_c h6) rfl (DLeL.refl _) (.cons rfl .nil) rfl .nil)<|.cons (o_not rfl)<|.nil _) ?_
  refine a_cond _ rfl (fun h8=>?_) (fun h8=>?_)
  ·replace hM:=(of_if hM).1 h8
   refine a_seq (ar (.cons (o_assign rfl)<|.nil _) ?_)
   obtain rfl:=Option.some.inj hM
   refine a_imp (σ' := ⟨[(4,.nils)],[(100000,some (.blk 221 (num_Reader.cs v7.2)))],[100000]⟩) (Imp.sh (fun i=>i) rfl rfl rfl rfl rfl rfl) ?_
   exact a_ret (a_post (.r1 (.tmp rfl)) (DLe.nils _) (PostOk.spec (.cons rfl .nil)))
  ·replace hM:=(of_if hM).2 h8
   refine a_skip (a_seq (ar (.cons (o_move rfl)<|.cons (o_assign rfl)<|.nil _) ?_))
   obtain rfl:=Option.some.inj hM
   refine a_imp (σ' := ⟨[(4,.sl 1 (List.map (DV.int .u8) v5.1))],[(100000,some (.blk 221 (num_Reader.cs v7.2)))],[100000]⟩) (Imp.sh (fun i=>i) rfl rfl rfl rfl rfl rfl) ?_
   exact a_ret (a_post (.r1 (.tmp rfl)) (DLe.refl _) (PostOk.spec (.cons rfl .nil)))
def collect_readPart_a_K1 (x1 : Int) (a1 : List RRec) (a2 : List Int) (a3 : Int) : Option (CPart × Bool × num_Reader) :=
 (CPartOf a1 x1).bind fun v5=>
 (gb (!(!v5.2)) (0) (num_Reader_Err_a (num_Reader.mk a2 a3))).bind fun v7=>
 if ((!v5.2) || (v7 != 0)) = true then
  some ((CPart.mk [] [] false 0),false,(num_Reader.mk a2 a3))
 else
  (CPart_merge (CPart.mk [] [] false 0) v5.1).bind fun v10=>
  some (v10.1,v10.2,(num_Reader.mk a2 a3))
def collect_readPart_a_L2 (a13 : List RRec) (a14 : Int) (a15 : List Int) (a16 : Int) : Option (Ctl ((List RRec) × Int × (List Int) × Int) (((List RRec) × (List Int) × Int) ⊕ (CPart × Bool × num_Reader))) :=
 (gb (decide (0 < a14)) (0) (num_Reader_Err_a (num_Reader.mk a15 a16))).bind fun v20=>
 if ((decide (0 < a14)) && (v20 == 0)) = true then
  (num_Reader_Left_a (num_Reader.mk a15 a16)).bind fun v23=>
  (num_Reader_Bytes_a v23 (num_Reader.mk a15 a16)).bind fun v25=>
  (record_Read v25.1).bind fun v27=>
  if (v27.2 != 0) = true then
   some (.done (.inr ((CPart.mk [] [] false 0),false,v25.2)))
  else
   chk (apOk 248 (List.length a13 + List.length [v27.1]))<|
   some (.next ((a13++[v27.1]),(IntKind.wrap .u64 (a14 - 1)),v25.2.gp,v25.2.gerr))
 else
  some (.done (.inl (a13,a15,a16)))
def collect_readPart_a (x1 : Int) (o0 : num_Reader) : Option (CPart × Bool × num_Reader) :=
 (num_Reader_Uint_a 18446744073709551615 o0).bind fun v12=>
 (whileM (E:=((List RRec) × (List Int) × Int) ⊕ (CPart × Bool × num_Reader)) (fun s=>collect_readPart_a_L2 s.1 s.2.1 s.2.2.1 s.2.2.2) (([] : List RRec),v12.1,v12.2.gp,v12.2.gerr)).bind fun
  | .inl e=>collect_readPart_a_K1 x1 e.1 e.2.1 e.2.2
  | .inr r=>some r
theorem collect_readPart_a_c {x1 : Int} {o0 : num_Reader} {r : CPart × Bool × num_Reader} (hM : collect_readPart_a x1 o0 = some r) : ACall Tryz.prog 86 ⟨[.ref 100000 0,.int .i64 x1],[(100000,some (.blk 221 (num_Reader.cs o0)))],.tup [.agg (CPart.cs r.1),.bool r.2.1],[(100000,some (.blk 221 (num_Reader.cs r.2.2)))],[]⟩ := by
 unfold collect_readPart_a at hM
 refine ACall.body Tryz.func86 Tryz.ntmps86 rfl rfl rfl rfl ?_
 refine a_seq (ar (.cons (o_alloc rfl)<|.cons (o_assign rfl)<|.nil _) ?_)
 refine a_seq (ar (.cons (o_assign rfl)<|.nil _) ?_)
 refine a_cut (α:=(List RRec) × (List Int) × Int) (fun s=>⟨[(0,.ref 100000 0),(1,.int .i64 x1),(4,.ref 4 0),(6,.sl 29 (List.map RRec.dv s.1))],[(4,some (.blk 137 [.nils,.nils,.bool false,.int .u64 0])),(100000,some (.blk 221 [.sl 1 (List.map (DV.int .u8) s.2.1),.int .i64 s.2.2]))],[4,100000]⟩) (fun s=>collect_readPart_a_K1 x1 s.1 s.2.1 s.2.2 = some r) ?_ ?_
 ·refine a_seq ?_
  obtain ⟨v12,h11,hM⟩ := of_bind hM
  refine ar (.cons (o_move rfl)<|.cons (o_callN (fun i=>bif Nat.beq i 100000 then 100000 else i) 1 (num_Reader_Uint_a_c h11) rfl (DLeL.refl _) (.cons rfl .nil) rfl .nil)<|.cons (o_assign rfl)<|.nil _) ?_
  obtain ⟨e17,hL17,hK17⟩ := of_bind hM
  refine a_block (a_while (fun s : (List RRec) × Int × (List Int) × Int=>⟨[(0,.ref 100000 0),(1,.int .i64 x1),(4,.ref 4 0),(6,.row 10001),(7,.int .u64 s.2.1)],[(4,some (.blk 137 [.nils,.nils,.bool false,.int .u64 0])),(10001,some (.row 52 29 (List.map RRec.dv s.1))),(100000,some (.blk 221 [.sl 1 (List.map (DV.int .u8) s.2.2.1),.int .i64 s.2.2.2]))],[4,10001,100000]⟩) _ hL17 ((Imp.nilRow (t:=6) (id:=10002) 52 29 rfl rfl).trans (Imp.sh (fun i=>bif Nat.beq i 10001 then 10002 else i) rfl rfl rfl rfl rfl rfl)) ?_)
  rintro ⟨a13,a14,a15,a16⟩ t18 hM hE17
  replace hM : collect_readPart_a_L2 a13 a14 a15 a16 = some t18:=hM
  unfold collect_readPart_a_L2 at hM
  refine a_seq (a_seq ?_)
  obtain ⟨v20,h19,hM⟩ := of_bind hM
  refine ar (.cons (o_move rfl)<|.cons (o_int rfl rfl rfl)<|.cons (o_move rfl)<|.cons (o_guardG .bT rfl rfl (fun hb=>(.keep .nil)) (fun hb=>o_move rfl))<|.cons (o_guardG .bT rfl rfl (fun hb=>(.strip rfl hb .nil)) (fun hb=>o_callN (fun i=>bif Nat.beq i 100000 then 100000 else i) 0 (num_Reader_Err_a_c (of_gb h19 hb)) rfl (DLeL.refl _) (.cons rfl .nil) rfl (.cons rfl .nil)))<|.cons (o_guardG .bT rfl rfl (fun hb=>(.strip rfl hb .nil)) (fun hb=>o_int rfl rfl rfl))<|.cons (o_and rfl rfl)<|.nil _) ?_
  refine a_cond _ rfl (fun h21=>?_) (fun h21=>?_)
  ·replace hM:=(of_if hM).1 h21
   refine a_skip (a_seq (a_block (a_seq ?_)))
   obtain ⟨v23,h22,hM⟩ := of_bind hM
   obtain ⟨v25,h24,hM⟩ := of_bind hM
   obtain ⟨v27,h26,hM⟩ := of_bind hM
   refine ar (.cons (o_move rfl)<|.cons (o_move rfl)<|.cons (o_callN (fun i=>bif Nat.beq i 100000 then 100000 else i) 0 (num_Reader_Left_a_c h22) rfl (DLeL.refl _) (.cons rfl .nil) rfl (.cons rfl .nil))<|.cons (o_callN (fun i=>bif Nat.beq i 100000 then 100000 else i) 1 (num_Reader_Bytes_a_c h24) rfl (DLeL.refl _) (.cons rfl .nil) rfl .nil)<|.cons (o_call (record_Read_c h26) rfl (DLeL.refl _) rfl)<|.cons (o_move rfl)<|.cons (o_extract rfl rfl)<|.cons (o_extract rfl rfl)<|.cons (o_alloc rfl)<|.cons (o_store rfl rfl rfl rfl rfl rfl rfl)<|.cons (o_assign rfl)<|.nil _) ?_
   refine a_seq (a_seq (ar (.cons (o_move rfl)<|.cons (o_int rfl rfl rfl)<|.nil _) ?_))
   refine a_cond _ rfl (fun h28=>?_) (fun h28=>?_)
   ·replace hM:=(of_if hM).1 h28
    refine a_seq (ar (.cons (o_build rfl rfl rfl)<|.cons (o_store rfl rfl rfl rfl rfl rfl rfl)<|.cons (o_assign rfl)<|.nil _) ?_)
    obtain rfl:=Option.some.inj hM
    obtain rfl:=hE17 _ rfl
    obtain rfl:=Option.some.inj hK17
    refine a_imp (σ' := ⟨[(4,.ref 4 0),(5,.bool false)],[(4,some (.blk 137 [.nils,.nils,.bool false,.int .u64 0])),(100000,some (.blk 221 (num_Reader.cs v25.2)))],[4,100000]⟩) (Imp.sh (fun i=>i) rfl rfl rfl rfl rfl rfl) ?_
    exact a_ret (a_post (.r2 (.cell rfl rfl (.row _ CRow.h (Nat.le_of_ble_eq_true rfl) rfl)) (.tmp rfl)) (DLe.tup (.cons (DLe.agg (.cons (DLe.nils _) (.cons (DLe.nils _) (.cons (DLe.refl _) (.cons (DLe.refl _) .nil))))) (.cons (DLe.refl _) .nil))) (PostOk.spec (.cons rfl .nil)))
   ·replace hM:=(of_if hM).2 h28
    refine a_skip ?_
    obtain ⟨h29,hM⟩ := of_chk hM
    refine ar (.cons (o_move rfl)<|.cons (o_load_r rfl rfl rfl rfl)<|.cons (t_build RRec.dv ([v27.1] : List RRec) rfl rfl rfl rfl rfl rfl rfl)<|.cons (t_append [v27.1] h29 rfl rfl rfl (Src.row rfl))<|.cons (o_assign rfl)<|.nil _) ?_
    refine ar (.cons (o_move rfl)<|.cons (o_int rfl rfl rfl)<|.cons (o_assign rfl)<|.nil _) ?_
    obtain rfl:=Option.some.inj hM
    exact ⟨((a13++[v27.1]),(IntKind.wrap .u64 (a14 - 1)),v25.2.gp,v25.2.gerr),rfl,(Imp.sh (fun i=>bif Nat.beq i 10001 then 37 else i) rfl rfl rfl rfl rfl rfl)⟩
  ·replace hM:=(of_if hM).2 h21
   refine a_exit ?_
   obtain rfl:=Option.some.inj hM
   obtain rfl:=hE17 _ rfl
   exact ⟨(a13,a15,a16),hK17,((Imp.freeze (id:=10001) rfl).trans (Imp.sh (fun i=>i) rfl rfl rfl rfl rfl rfl))⟩
 ·rintro ⟨a1,a2,a3⟩ hM
  replace hM : collect_readPart_a_K1 x1 a1 a2 a3 = some r:=hM
  unfold collect_readPart_a_K1 at hM
  refine a_seq ?_
  obtain ⟨v5,h4,hM⟩ := of_bind hM
  refine ar (.cons (o_move rfl)<|.cons (o_move rfl)<|.cons (o_call (CPartOf_c h4) rfl (DLeL.refl _) rfl)<|.cons (o_move rfl)<|.cons (o_extract rfl rfl)<|.cons (o_extract rfl rfl)<|.cons (o_alloc rfl)<|.cons (o_store rfl rfl rfl rfl rfl rfl rfl)<|.cons (o_assign rfl)<|.nil _) ?_
  refine a_seq (a_seq ?_)
  obtain ⟨v7,h6,hM⟩ := of_bind hM
  refine ar (.cons (o_move rfl)<|.cons (o_not rfl)<|.cons (o_move rfl)<|.cons (o_guardG .bF rfl rfl (fun hb=>(.keep .nil)) (fun hb=>o_move rfl))<|.cons (o_guardG .bF rfl rfl (fun hb=>(.strip rfl hb .nil)) (fun hb=>o_callN (fun i=>bif Nat.beq i 100000 then 100000 else i) 0 (num_Reader_Err_a_c (of_gb h6 hb)) rfl (DLeL.refl _) (.cons rfl .nil) rfl (.cons rfl .nil)))<|.cons (o_guardG .bF rfl rfl (fun hb=>(.strip rfl hb .nil)) (fun hb=>o_int rfl rfl rfl))<|.cons (o_or rfl rfl)<|.nil _) ?_
  refine a_cond _ rfl (fun h8=>?_) (fun h8=>?_)
  ·replace hM:=(of_if hM).1 h8
   refine a_seq (ar (.cons (o_build rfl rfl rfl)<|.cons (o_store rfl rfl rfl rfl rfl rfl rfl)<|.cons (o_assign rfl)<|.nil _) ?_)
   obtain rfl:=Option.some.inj hM
   refine a_imp (σ' := ⟨[(4,.ref 4 0),(5,.bool false)],[(4,some (.blk 137 [.nils,.nils,.bool false,.int .u64 0])),(100000,some (.blk 221 [.sl 1 (List.map (DV.int .u8) ((num_Reader.mk a2 a3).gp)),.int .i64 ((num_Reader.mk a2 a3).gerr)]))],[4,100000]⟩) (Imp.sh (fun i=>i) rfl rfl rfl rfl rfl rfl) ?_
   exact a_ret (a_post (.r2 (.cell rfl rfl (.row _ CRow.h (Nat.le_of_ble_eq_true rfl) rfl)) (.tmp rfl)) (DLe.tup (.cons (DLe.agg (.cons (DLe.nils _) (.cons (DLe.nils _) (.cons (DLe.refl _) (.cons (DLe.refl _) .nil))))) (.cons (DLe.refl _) .nil))) (PostOk.spec (.cons rfl .nil)))
  ·replace hM:=(of_if hM).2 h8
   refine a_skip (a_seq ?_)
   obtain ⟨v10,h9,hM⟩ := of_bind hM
   refine ar (.cons (o_build rfl rfl rfl)<|.cons (o_load_r rfl rfl rfl rfl)<|.cons (o_call (CPart_merge_c h9) rfl (.cons (DLe.agg (.cons (DLe.nils _) (.cons (DLe.nils _) (.cons (DLe.refl _) (.cons (DLe.refl _) .nil))))) (.cons (DLe.refl _) .nil)) rfl)<|.cons (o_extract rfl rfl)<|.cons (o_extract rfl rfl)<|.cons (o_store rfl rfl rfl rfl rfl rfl rfl)<|.cons (o_assign rfl)<|.nil _) ?_
   obtain rfl:=Option.some.inj hM
   refine a_imp (σ' := ⟨[(4,.ref 4 0),(5,.bool v10.2)],[(4,some (.blk 137 (CPart.cs v10.1))),(100000,some (.blk 221 [.sl 1 (List.map (DV.int .u8) ((num_Reader.mk a2 a3).gp)),.int .i64 ((num_Reader.mk a2 a3).gerr)]))],[4,100000]⟩) (Imp.sh (fun i=>i) rfl rfl rfl rfl rfl rfl) ?_
   exact a_ret (a_post (.r2 (.cell rfl rfl (.row _ CRow.h (Nat.le_of_ble_eq_true rfl) rfl)) (.tmp rfl)) (DLe.refl _) (PostOk.spec (.cons rfl .nil)))
def num_Reader_End_a (o0 : num_Reader) : Option Int :=
 (num_Reader_Err_a o0).bind fun v2=>
 if ((v2 != 0) || ((List.length o0.gp : Int) == 0)) = true then
  some v2
 else
  some 6
theorem num_Reader_End_a_c {o0 : num_Reader} {r : Int} (hM : num_Reader_End_a o0 = some r) : ACall Tryz.prog 87 ⟨[.ref 100000 0],[(100000,some (.blk 221 (num_Reader.cs o0)))],.int .i64 r,[(100000,some (.blk 221 (num_Reader.cs o0)))],[]⟩ := by
 unfold num_Reader_End_a at hM
 refine ACall.body Tryz.func87 Tryz.ntmps87 rfl rfl rfl rfl ?_
 refine a_seq (ar (.cons (o_assign rfl)<|.nil _) ?_)
 refine a_seq (a_seq ?_)
 obtain ⟨v2,h1,hM⟩ := of_bind hM
 refine ar (.cons (o_move rfl)<|.cons (o_callN (fun i=>bif Nat.beq i 100000 then 100000 else i) 0 (num_Reader_Err_a_c h1) rfl (DLeL.refl _) (.cons rfl .nil) rfl (.cons rfl .nil))<|.cons (o_assign rfl)<|.nil _) ?_
 refine a_seq (ar (.cons (o_move rfl)<|.cons (o_int rfl rfl rfl)<|.cons (o_move rfl)<|.cons (o_guardG .bF rfl rfl (fun hb=>(.keep .nil)) (fun hb=>o_move rfl))<|.cons (o_guardG .bF rfl rfl (fun hb=>(.strip rfl hb .nil)) (fun hb=>o_nilCheck rfl))<|.cons (o_guardG .bF rfl rfl (fun hb=>(.strip rfl hb .nil)) (fun hb=>o_fieldAddr rfl))<|.cons (o_guardG .bF rfl rfl (fun hb=>(.strip rfl hb .nil)) (fun hb=>o_load_s rfl rfl rfl))<|.cons (o_guardG .bF rfl rfl (fun hb=>(.strip rfl hb .nil)) (fun hb=>t_len rfl))<|.cons (o_guardG .bF rfl rfl (fun hb=>(.strip rfl hb .nil)) (fun hb=>o_int rfl rfl rfl))<|.cons (o_or rfl rfl)<|.nil _) ?_)
 refine a_cond _ rfl (fun h3=>?_) (fun h3=>?_)
 ·replace hM:=(of_if hM).1 h3
  refine a_seq (ar (.cons (o_move rfl)<|.cons (o_assign rfl)<|.nil _) ?_)
  obtain rfl:=Option.some.inj hM
  refine a_imp (σ' := ⟨[(2,.int .i64 v2)],[(100000,some (.blk 221 (num_Reader.cs o0)))],[100000]⟩) (Imp.sh (fun i=>i) rfl rfl rfl rfl rfl rfl) ?_
  exact a_ret (a_post (.r1 (.tmp rfl)) (DLe.refl _) (PostOk.spec (.cons rfl .nil)))
 ·replace hM:=(of_if hM).2 h3
  refine a_skip (a_seq (ar (.cons (o_assign rfl)<|.nil _) ?_))
  obtain rfl:=Option.some.inj hM
  refine a_imp (σ' := ⟨[(2,.int .i64 6)],[(100000,some (.blk 221 (num_Reader.cs o0)))],[100000]⟩) (Imp.sh (fun i=>i) rfl rfl rfl rfl rfl rfl) ?_
  exact a_ret (a_post (.r1 (.tmp rfl)) (DLe.refl _) (PostOk.spec (.cons rfl .nil)))
def num_put_a_K1 (a1 : List Int) (a2 : Int) : Option (List Int) :=
 chk (apOk 1 (List.length a1 + List.length [(IntKind.wrap .u8 a2)]))<|
 some (a1++[(IntKind.wrap .u8 a2)])
def num_put_a_L2 (a4 : List Int) (a5 : Int) : Option (Ctl ((List Int) × Int) ((List Int) × Int)) :=
 if (decide (128≤a5)) = true then
  chk (apOk 1 (List.length a4 + List.length [(bitI .or .u8 (IntKind.wrap .u8 a5) 128)]))<|
  some (.next ((a4++[(bitI .or .u8 (IntKind.wrap .u8 a5) 128)]),(Int.fdiv a5 (2 ^ min (Int.toNat 7) (IntKind.bits .u64)))))
 else
  some (.done (a4,a5))
def num_put_a (x1 : Int) (o0 : List Int) : Option (List Int) :=
 (whileM (E:=(List Int) × Int) (fun s=>num_put_a_L2 s.1 s.2) (o0,x1)).bind fun e=>num_put_a_K1 e.1 e.2
theorem num_put_a_c {x1 : Int} {o0 : List Int} {r : (List Int)} (hM : num_put_a x1 o0 = some r) : ACall Tryz.prog 128 ⟨[.row 100000,.int .u64 x1],[(100000,some (.row 5 1 (List.map (DV.int .u8) o0)))],.row 50000,[(50000,some (.row 5 1 (List.map (DV.int .u8) r))),(100000,none)],[50000]⟩ := by
 unfold num_put_a at hM
 refine ACall.body Tryz.func128 Tryz.ntmps128 rfl rfl rfl rfl ?_
 refine a_seq (ar (.cons (o_assign rfl)<|.nil _) ?_)
 refine a_cut (α:=(List Int) × Int) (fun s=>⟨[(0,.row 10001),(1,.int .u64 s.2)],[(10001,some (.row 5 1 (List.map (DV.int .u8) s.1)))],[10001,100000]⟩) (fun s=>num_put_a_K1 s.1 s.2 = some r) ?_ ?_
 ·obtain ⟨e6,hL6,hK6⟩ := of_bind hM
  refine a_block (a_while (fun s : (List Int) × Int=>⟨[(0,.row 10002),(1,.int .u64 s.2)],[(10002,some (.row 5 1 (List.map (DV.int .u8) s.1)))],[10002,100000]⟩) _ hL6 (Imp.sh (fun i=>bif Nat.beq i 10002 then 100000 else i) rfl rfl rfl rfl rfl rfl) ?_)
  rintro ⟨a4,a5⟩ t7 hM hE6
  replace hM : num_put_a_L2 a4 a5 = some t7:=hM
  unfold num_put_a_L2 at hM
  refine a_seq (a_seq (ar (.cons (o_move rfl)<|.cons (o_int rfl rfl rfl)<|.nil _) ?_))
  refine a_cond _ rfl (fun h8=>?_) (fun h8=>?_)
  ·replace hM:=(of_if hM).1 h8
   refine a_skip (a_block (a_seq ?_))
   obtain ⟨h9,hM⟩ := of_chk hM
   refine ar (.cons (o_move rfl)<|.cons (o_move rfl)<|.cons (o_conv_w rfl)<|.cons (o_int rfl rfl rfl)<|.cons (t_build (DV.int .u8) ([(bitI .or .u8 (IntKind.wrap .u8 a5) 128)] : List Int) rfl rfl rfl rfl rfl rfl rfl)<|.cons (t_append [(bitI .or .u8 (IntKind.wrap .u8 a5) 128)] h9 rfl rfl rfl (Src.row rfl))<|.cons (o_assign rfl)<|.nil _) ?_
   refine ar (.cons (o_move rfl)<|.cons (o_shr rfl rfl (by decide))<|.cons (o_assign rfl)<|.nil _) ?_
   obtain rfl:=Option.some.inj hM
   exact ⟨((a4++[(bitI .or .u8 (IntKind.wrap .u8 a5) 128)]),(Int.fdiv a5 (2 ^ min (Int.toNat 7) (IntKind.bits .u64)))),rfl,(Imp.sh (fun i=>bif Nat.beq i 10002 then 12 else i) rfl rfl rfl rfl rfl rfl)⟩
  ·replace hM:=(of_if hM).2 h8
   refine a_exit ?_
   obtain rfl:=Option.some.inj hM
   obtain rfl:=hE6 _ rfl
   exact ⟨(a4,a5),hK6,(Imp.sh (fun i=>bif Nat.beq i 10001 then 10002 else i) rfl rfl rfl rfl rfl rfl)⟩
 ·rintro ⟨a1,a2⟩ hM
  replace hM : num_put_a_K1 a1 a2 = some r:=hM
  unfold num_put_a_K1 at hM
  refine a_seq ?_
  obtain ⟨h3,hM⟩ := of_chk hM
  refine ar (.cons (o_move rfl)<|.cons (o_move rfl)<|.cons (o_conv_w rfl)<|.cons (t_build (DV.int .u8) ([(IntKind.wrap .u8 a2)] : List Int) rfl rfl rfl rfl rfl rfl rfl)<|.cons (t_append [(IntKind.wrap .u8 a2)] h3 rfl rfl rfl (Src.row rfl))<|.cons (o_assign rfl)<|.nil _) ?_
  obtain rfl:=Option.some.inj hM
  refine a_imp (σ' := ⟨[(4,.row 50000)],[(50000,some (.row 5 1 (List.map (DV.int .u8) (a1++[(IntKind.wrap .u8 a2)]))))],[50000,100000]⟩) (Imp.sh (fun i=>bif Nat.beq i 50000 then 19 else i) rfl rfl rfl rfl rfl rfl) ?_
  exact a_ret (a_post (.r1 (.tmp rfl)) (DLe.refl _) (PostOk.spec (.cons rfl (.gone .nil))))
def num_PutUint (x0 : List Int) (x1 : Int) : Option (List Int) :=
 chk (mkOk 1 0 (IntKind.wrap .i64 ((List.length x0 : Int) + 10)))<|
 chk (apOk 1 (List.length ([] : List Int) + List.length x0))<|
 (num_put_a x1 (([] : List Int)++x0)).bind fun v4=>
 some v4
theorem num_PutUint_c {x0 : List Int} {x1 : Int} {r : (List Int)} (hM : num_PutUint x0 x1 = some r) : ACall Tryz.prog 82 ⟨[.sl 1 (List.map (DV.int .u8) x0),.int .u64 x1],[],.row 50000,[(50000,some (.row 5 1 (List.map (DV.int .u8) r)))],[50000]⟩ := by
 unfold num_PutUint at hM
 refine ACall.body Tryz.func82 Tryz.ntmps82 rfl rfl rfl rfl ?_
 refine a_seq (ar (.cons (o_assign rfl)<|.nil _) ?_)
 refine a_seq ?_
 obtain ⟨h1,hM⟩ := of_chk hM
 refine ar (.cons (o_move rfl)<|.cons (t_len rfl)<|.cons (o_int rfl rfl rfl)<|.cons (t_make (DV.int .u8) 0 h1 rfl rfl rfl rfl)<|.cons (o_assign rfl)<|.nil _) ?_
 refine a_seq ?_
 obtain ⟨h2,hM⟩ := of_chk hM
 obtain ⟨v4,h3,hM⟩ := of_bind hM
 refine ar (.cons (o_move rfl)<|.cons (o_move rfl)<|.cons (t_append x0 h2 rfl rfl rfl Src.sl)<|.cons (o_move rfl)<|.cons (o_callN (fun i=>bif Nat.beq i 50000 then 10001 else bif Nat.beq i 100000 then 12 else i) 2 (num_put_a_c h3) rfl (DLeL.refl _) (.cons rfl .nil) rfl .nil)<|.cons (o_assign rfl)<|.nil _) ?_
 obtain rfl:=Option.some.inj hM
 refine a_imp (σ' := ⟨[(4,.row 50000)],[(50000,some (.row 5 1 (List.map (DV.int .u8) v4)))],[50000]⟩) (Imp.sh (fun i=>bif Nat.beq i 50000 then 10001 else i) rfl rfl rfl rfl rfl rfl) ?_
 exact a_ret (a_post (.r1 (.tmp rfl)) (DLe.refl _) (PostOk.spec (.cons rfl .nil)))
def num_PutBytes (x0 : List Int) (x1 : List Int) : Option (List Int) :=
 chk (mkOk 1 0 (IntKind.wrap .i64 ((IntKind.wrap .i64 ((List.length x0 : Int) + 10)) + (List.length x1 : Int))))<|
 chk (apOk 1 (List.length ([] : List Int) + List.length x0))<|
 (num_put_a (IntKind.wrap .u64 (List.length x1 : Int)) (([] : List Int)++x0)).bind fun v4=>
 chk (apOk 1 (List.length v4 + List.length x1))<|
 some (v4++x1)
theorem num_PutBytes_c {x0 : List Int} {x1 : List Int} {r : (List Int)} (hM : num_PutBytes x0 x1 = some r) : ACall Tryz.prog 83 ⟨[.sl 1 (List.map (DV.int .u8) x0),.sl 1 (List.map (DV.int .u8) x1)],[],.row 50000,[(50000,some (.row 5 1 (List.map (DV.int .u8) r)))],[50000]⟩ := by
 unfold num_PutBytes at hM
 refine ACall.body Tryz.func83 Tryz.ntmps83 rfl rfl rfl rfl ?_
 refine a_seq (ar (.cons (o_assign rfl)<|.nil _) ?_)
 refine a_seq ?_
 obtain ⟨h1,hM⟩ := of_chk hM
 refine ar (.cons (o_move rfl)<|.cons (t_len rfl)<|.cons (o_int rfl rfl rfl)<|.cons (o_move rfl)<|.cons (t_len rfl)<|.cons (o_int rfl rfl rfl)<|.cons (t_make (DV.int .u8) 0 h1 rfl rfl rfl rfl)<|.cons (o_assign rfl)<|.nil _) ?_
 refine a_seq ?_
 obtain ⟨h2,hM⟩ := of_chk hM
 obtain ⟨v4,h3,hM⟩ := of_bind hM
 refine ar (.cons (o_move rfl)<|.cons (o_move rfl)<|.cons (t_append x0 h2 rfl rfl rfl Src.sl)<|.cons (o_move rfl)<|.cons (t_len rfl)<|.cons (o_conv_w rfl)<|.cons (o_callN (fun i=>bif Nat.beq i 50000 then 10001 else bif Nat.beq i 100000 then 15 else i) 2 (num_put_a_c h3) rfl (DLeL.refl _) (.cons rfl .nil) rfl .nil)<|.cons (o_assign rfl)<|.nil _) ?_
 refine a_seq ?_
 obtain ⟨h5,hM⟩ := of_chk hM
 refine ar (.cons (o_move rfl)<|.cons (o_move rfl)<|.cons (t_append x1 h5 rfl rfl rfl Src.sl)<|.cons (o_assign rfl)<|.nil _) ?_
 obtain rfl:=Option.some.inj hM
 refine a_imp (σ' := ⟨[(4,.row 50000)],[(50000,some (.row 5 1 (List.map (DV.int .u8) (v4++x1))))],[50000]⟩) (Imp.sh (fun i=>bif Nat.beq i 50000 then 22 else i) rfl rfl rfl rfl rfl rfl) ?_
 exact a_ret (a_post (.r1 (.tmp rfl)) (DLe.refl _) (PostOk.spec (.cons rfl .nil)))
def CColl_Bytes_a_K1 (a6 : List Int) : Option (List Int) :=
 some a6
def CColl_Bytes_a_K3 (a12 : List Int) : Option (List Int) :=
 some a12
def CColl_Bytes_a_L6 (a17 : List RRec) (k20 : Nat) (a21 : List Int) : Option (List Int) :=
 (idx a17 (k20 : Int)).bind fun v26=>
 (RRec_Bytes v26).bind fun v28=>
 (num_PutBytes a21 v28).bind fun v30=>
 some v30
def CColl_Bytes_a_K5 (a8 : List Int) (a17 : List RRec) : Option (List Int) :=
 (num_PutUint a8 (IntKind.wrap .u64 (List.length a17 : Int))).bind fun v19=>
 (foldM' 9223372036854775807 (List.length a17 : Int) (fun k20 s=>CColl_Bytes_a_L6 a17 k20 s) v19).bind fun s=>CColl_Bytes_a_K3 s
def CColl_Bytes_a_K4 (k7 : Nat) (a8 : List Int) (v14 : CPart) (a16 : List RRec) : Option (List Int) :=
 if v14.gknown = true then
  chk (apOk 248 (List.length a16 + List.length [(RRec.mk (k7 : Int) v14.gtotal (VClk.mk (arr 0 [0,0,0,0,0,0,0,0,0,0,0,0,0,0,0,0])) 3 (AEv.mk 0 0 0 0 0 0 0 0 []) 0)]))<|
  CColl_Bytes_a_K5 a8 (a16++[(RRec.mk (k7 : Int) v14.gtotal (VClk.mk (arr 0 [0,0,0,0,0,0,0,0,0,0,0,0,0,0,0,0])) 3 (AEv.mk 0 0 0 0 0 0 0 0 []) 0)])
 else
  CColl_Bytes_a_K5 a8 a16
def CColl_Bytes_a_L7 (k7 : Nat) (v14 : CPart) (k33 : Nat) (a34 : List RRec) : Option (List RRec) :=
 (idx v14.glost (k33 : Int)).bind fun v39=>
 chk (apOk 248 (List.length a34 + List.length [(RRec.mk (k7 : Int) v39.gfrom (VClk.mk (arr 0 [0,0,0,0,0,0,0,0,0,0,0,0,0,0,0,0])) 2 (AEv.mk 0 0 0 0 0 0 0 0 []) (IntKind.wrap .u64 (v39.gto - v39.gfrom)))]))<|
 some (a34++[(RRec.mk (k7 : Int) v39.gfrom (VClk.mk (arr 0 [0,0,0,0,0,0,0,0,0,0,0,0,0,0,0,0])) 2 (AEv.mk 0 0 0 0 0 0 0 0 []) (IntKind.wrap .u64 (v39.gto - v39.gfrom)))])
def CColl_Bytes_a_L2 (o0 : CColl) (k7 : Nat) (a8 : List Int) : Option (List Int) :=
 (idx o0.gparts (k7 : Int)).bind fun v14=>
 chk (apOk 248 (List.length v14.gentries))<|
 (foldM' 9223372036854775807 (List.length v14.glost : Int) (fun k33 s=>CColl_Bytes_a_L7 k7 v14 k33 s) v14.gentries).bind fun s=>CColl_Bytes_a_K4 k7 a8 v14 s
def CColl_Bytes_a (o0 : CColl) : Option (List Int) :=
 (CColl_Components_a o0).bind fun v3=>
 (num_PutUint ([] : List Int) (IntKind.wrap .u64 v3)).bind fun v5=>
 (foldM' 9223372036854775807 (List.length o0.gparts : Int) (fun k7 s=>CColl_Bytes_a_L2 o0 k7 s) v5).bind fun s=>CColl_Bytes_a_K1 s
theorem CColl_Bytes_a_c {o0 : CColl} {r : (List Int)} (hM : CColl_Bytes_a o0 = some r) : ACall Tryz.prog 43 ⟨[.ref 100000 0],[(100000,some (.blk 134 [.row 100001])),(100001,some (.row 137 4 (List.map CPart.dv o0.gparts)))],.row 50000,[(50000,some (.row 5 1 (List.map (DV.int .u8) r))),(100000,some (.blk 134 [.row 100001])),(100001,some (.row 137 4 (List.map CPart.dv o0.gparts)))],[50000]⟩ := by
 unfold CColl_Bytes_a at hM
 refine ACall.body Tryz.func43 Tryz.ntmps43 rfl rfl rfl rfl ?_
 refine a_seq (ar (.cons (o_assign rfl)<|.nil _) ?_)
 refine a_seq (a_seq (ar (.cons (o_move rfl)<|.cons (o_ptr_eq rfl)<|.nil _) ?_))
 refine a_cond _ rfl (fun c=>by cases c) (fun _=>?_)
 refine a_skip (a_seq ?_)
 obtain ⟨v3,h2,hM⟩ := of_bind hM
 obtain ⟨v5,h4,hM⟩ := of_bind hM
 refine ar (.cons (o_move rfl)<|.cons (o_callN (fun i=>bif Nat.beq i 100000 then 100000 else bif Nat.beq i 100001 then 100001 else i) 0 (CColl_Components_a_c h2) rfl (DLeL.refl _) (.cons rfl (.cons rfl .nil)) rfl (.cons rfl (.cons rfl .nil)))<|.cons (o_conv_w rfl)<|.cons (o_callN (fun i=>bif Nat.beq i 50000 then 16 else i) 1 (num_PutUint_c h4) rfl (.cons (DLe.nils _) (.cons (DLe.refl _) .nil)) .nil rfl .nil)<|.cons (o_assign rfl)<|.nil _) ?_
 refine a_cut (α:=(List Int)) (fun s=>⟨[(3,.row 10001)],[(10001,some (.row 5 1 (List.map (DV.int .u8) s))),(100000,some (.blk 134 [.row 100001])),(100001,some (.row 137 4 (List.map CPart.dv o0.gparts)))],[10001,100000,100001]⟩) (fun s=>CColl_Bytes_a_K1 s = some r) ?_ ?_
 ·refine a_seq (ar (.cons (o_move rfl)<|.cons (o_nilCheck rfl)<|.cons (o_fieldAddr rfl)<|.cons (o_load_s rfl rfl rfl)<|.cons (t_len_r rfl rfl)<|.cons (o_move rfl)<|.nil _) ?_)
  obtain ⟨a8,hL9,hK9⟩ := of_bind hM
  refine a_block ?_
  refine a_fold (fun k7 (s : (List Int))=>⟨[(3,.row 10002),(20,.row 100001),(21,.int .i64 (List.length o0.gparts : Int)),(22,.int .i64 (k7 : Int))],[(10002,some (.row 5 1 (List.map (DV.int .u8) s))),(100000,some (.blk 134 [.row 100001])),(100001,some (.row 137 4 (List.map CPart.dv o0.gparts)))],[10002,100000,100001]⟩) _ hL9 (Imp.sh (fun i=>bif Nat.beq i 10002 then 16 else i) rfl rfl rfl rfl rfl rfl) ?_ ?_
  ·rintro k7 a8 t10 hk7 hx7 hM
   replace hM : CColl_Bytes_a_L2 o0 k7 a8 = some t10:=hM
   unfold CColl_Bytes_a_L2 at hM
   refine a_seq (ar (.cons (o_int rfl rfl rfl)<|.nil _) ?_)
   refine a_seq ?_
   refine a_cond _ rfl (fun _=>?_) (fun c=>absurd hk7 (of_decide_eq_false c))
   refine a_skip ?_
   refine a_cut (α:=(List Int)) (fun s=>⟨[(3,.row 10003),(20,.row 100001),(21,.int .i64 (List.length o0.gparts : Int)),(22,.int .i64 (k7 : Int))],[(10003,some (.row 5 1 (List.map (DV.int .u8) s))),(100000,some (.blk 134 [.row 100001])),(100001,some (.row 137 4 (List.map CPart.dv o0.gparts)))],[10003,100000,100001]⟩) (fun s=>CColl_Bytes_a_K3 s = some t10) ?_ ?_
   ·refine a_block (a_seq ?_)
    obtain ⟨v14,h13,hM⟩ := of_bind hM
    refine ar (.cons (o_move rfl)<|.cons (t_index_r h13 rfl rfl rfl)<|.cons (t_load_pr h13 rfl rfl rfl rfl rfl)<|.cons (o_alloc rfl)<|.cons (o_assign rfl)<|.cons (o_store rfl rfl rfl rfl rfl rfl rfl)<|.nil _) ?_
    refine a_seq (ar (.cons (o_assign rfl)<|.nil _) ?_)
    refine a_seq ?_
    obtain ⟨h15,hM⟩ := of_chk hM
    refine ar (.cons (o_move rfl)<|.cons (o_fieldAddr rfl)<|.cons (o_load_s rfl rfl rfl)<|.cons (t_append_n RRec.dv v14.gentries h15 rfl rfl Src.sl)<|.cons (o_assign rfl)<|.nil _) ?_
    refine a_cut (α:=(List RRec)) (fun s=>⟨[(3,.sl 1 (List.map (DV.int .u8) a8)),(4,.int .i64 (k7 : Int)),(5,.ref 5 0),(6,.row 10004),(20,.row 100001),(21,.int .i64 (List.length o0.gparts : Int)),(22,.int .i64 (k7 : Int))],[(5,some (.blk 137 (CPart.cs v14))),(10004,some (.row 52 29 (List.map RRec.dv s))),(100000,some (.blk 134 [.row 100001])),(100001,some (.row 137 4 (List.map CPart.dv o0.gparts)))],[5,10004,100000,100001]⟩) (fun s=>CColl_Bytes_a_K4 k7 a8 v14 s = some t10) ?_ ?_
    ·refine a_seq (ar (.cons (o_fieldAddr rfl)<|.cons (o_load_s rfl rfl rfl)<|.cons (t_len rfl)<|.cons (o_move rfl)<|.nil _) ?_)
     obtain ⟨a34,hL35,hK35⟩ := of_bind hM
     refine a_block ?_
     refine a_fold (fun k33 (s : (List RRec))=>⟨[(3,.sl 1 (List.map (DV.int .u8) a8)),(4,.int .i64 (k7 : Int)),(5,.ref 5 0),(6,.row 10006),(20,.row 100001),(21,.int .i64 (List.length o0.gparts : Int)),(22,.int .i64 (k7 : Int)),(32,.sl 2 (List.map CSpan.dv v14.glost)),(33,.int .i64 (List.length v14.glost : Int)),(34,.int .i64 (k33 : Int))],[(5,some (.blk 137 (CPart.cs v14))),(10006,some (.row 52 29 (List.map RRec.dv s))),(100000,some (.blk 134 [.row 100001])),(100001,some (.row 137 4 (List.map CPart.dv o0.gparts)))],[5,10006,100000,100001]⟩) _ hL35 ((Imp.freeze (id:=10002) rfl).trans (Imp.sh (fun i=>bif Nat.beq i 10006 then 30 else i) rfl rfl rfl rfl rfl rfl)) ?_ ?_
     ·rintro k33 a34 t36 hk33 hx33 hM
      replace hM : CColl_Bytes_a_L7 k7 v14 k33 a34 = some t36:=hM
      unfold CColl_Bytes_a_L7 at hM
      refine a_seq (ar (.cons (o_int rfl rfl rfl)<|.nil _) ?_)
      refine a_seq ?_
      refine a_cond _ rfl (fun _=>?_) (fun c=>absurd hk33 (of_decide_eq_false c))
      refine a_skip (a_seq (a_block (a_seq ?_)))
      obtain ⟨v39,h38,hM⟩ := of_bind hM
      refine ar (.cons (t_index h38 rfl rfl rfl)<|.cons (o_load_er rfl rfl rfl)<|.cons (o_alloc rfl)<|.cons (o_store rfl rfl rfl rfl rfl rfl rfl)<|.nil _) ?_
      obtain ⟨h40,hM⟩ := of_chk hM
      refine ar (.cons (o_move rfl)<|.cons (o_move rfl)<|.cons (o_fieldAddr rfl)<|.cons (o_load_s rfl rfl rfl)<|.cons (o_fieldAddr rfl)<|.cons (o_load_s rfl rfl rfl)<|.cons (o_fieldAddr rfl)<|.cons (o_load_s rfl rfl rfl)<|.cons (o_int rfl rfl rfl)<|.cons (o_build rfl rfl rfl)<|.cons (t_buildW RRec.dv ([(RRec.mk (k7 : Int) v39.gfrom (VClk.mk (arr 0 [0,0,0,0,0,0,0,0,0,0,0,0,0,0,0,0])) 2 (AEv.mk 0 0 0 0 0 0 0 0 []) (IntKind.wrap .u64 (v39.gto - v39.gfrom)))] : List RRec) rfl rfl rfl rfl rfl rfl (.cons (DLe.agg (.cons (DLe.refl _) (.cons (DLe.refl _) (.cons (DLe.refl _) (.cons (DLe.refl _) (.cons (DLe.refl _) (.cons (DLe.refl _) (.cons (DLe.refl _) (.cons (DLe.refl _) (.cons (DLe.refl _) (.cons (DLe.refl _) (.cons (DLe.refl _) (.cons (DLe.refl _) (.cons (DLe.refl _) (.cons (DLe.refl _) (.cons (DLe.refl _) (.cons (DLe.refl _) (.cons (DLe.refl _) (.cons (DLe.refl _) (.cons (DLe.refl _) (.cons (DLe.refl _) (.cons (DLe.refl _) (.cons (DLe.refl _) (.cons (DLe.refl _) (.cons (DLe.refl _) (.cons (DLe.refl _) (.cons (DLe.refl _) (.cons (DLe.refl _) (.cons (DLe.nils _) (.cons (DLe.refl _) .nil)))))))))))))))))))))))))))))) .nil))<|.cons (t_append [(RRec.mk (k7 : Int) v39.gfrom (VClk.mk (arr 0 [0,0,0,0,0,0,0,0,0,0,0,0,0,0,0,0])) 2 (AEv.mk 0 0 0 0 0 0 0 0 []) (IntKind.wrap .u64 (v39.gto - v39.gfrom)))] h40 rfl rfl rfl (Src.row rfl))<|.cons (o_assign rfl)<|.nil _) ?_
      refine ar (.cons (o_add rfl rfl (inR_i64 hk33 hx33))<|.cons (o_move rfl)<|.nil _) ?_
      obtain rfl:=Option.some.inj hM
      exact (Imp.of (fun i=>bif Nat.beq i 10006 then 49 else i) (.cons rfl (DLe.refl _) (.cons rfl (DLe.refl _) (.cons rfl (DLe.refl _) (.cons rfl (DLe.refl _) (.cons rfl (DLe.refl _) (.cons rfl (DLe.refl _) (.cons rfl (DLe.refl _) (.cons rfl (DLe.refl _) (.cons rfl (DLe.refl _) (.cons rfl (DLe.succ _ _) .nil)))))))))) (.cons rfl (.refl _) (.cons rfl (.refl _) (.cons rfl (.refl _) (.cons rfl (.refl _) .nil)))) rfl rfl rfl)
     ·rintro k33 hk33 hx33
      refine a_seq (ar (.cons (o_int rfl rfl rfl)<|.nil _) ?_)
      refine a_seq ?_
      refine a_cond _ rfl (fun c=>absurd (of_decide_eq_true c) (Int.not_lt.2 hk33)) (fun _=>?_)
      refine a_exit ?_
      exact ⟨a34,hK35,(Imp.sh (fun i=>bif Nat.beq i 10004 then 10006 else i) rfl rfl rfl rfl rfl rfl)⟩
    ·rintro a16 hM
     replace hM : CColl_Bytes_a_K4 k7 a8 v14 a16 = some t10:=hM
     unfold CColl_Bytes_a_K4 at hM
     refine a_cut (α:=(List RRec)) (fun s=>⟨[(3,.sl 1 (List.map (DV.int .u8) a8)),(6,.sl 29 (List.map RRec.dv s)),(20,.row 100001),(21,.int .i64 (List.length o0.gparts : Int)),(22,.int .i64 (k7 : Int))],[(100000,some (.blk 134 [.row 100001])),(100001,some (.row 137 4 (List.map CPart.dv o0.gparts)))],[100000,100001]⟩) (fun s=>CColl_Bytes_a_K5 a8 s = some t10) ?_ ?_
     ·refine a_seq (ar (.cons (o_fieldAddr rfl)<|.cons (o_load_s rfl rfl rfl)<|.nil _) ?_)
      refine a_cond _ rfl (fun h31=>?_) (fun h31=>?_)
      ·replace hM:=(of_if hM).1 h31
       obtain ⟨h32,hM⟩ := of_chk hM
       refine ar (.cons (o_move rfl)<|.cons (o_move rfl)<|.cons (o_fieldAddr rfl)<|.cons (o_load_s rfl rfl rfl)<|.cons (o_build rfl rfl rfl)<|.cons (t_buildW RRec.dv ([(RRec.mk (k7 : Int) v14.gtotal (VClk.mk (arr 0 [0,0,0,0,0,0,0,0,0,0,0,0,0,0,0,0])) 3 (AEv.mk 0 0 0 0 0 0 0 0 []) 0)] : List RRec) rfl rfl rfl rfl rfl rfl (.cons (DLe.agg (.cons (DLe.refl _) (.cons (DLe.refl _) (.cons (DLe.refl _) (.cons (DLe.refl _) (.cons (DLe.refl _) (.cons (DLe.refl _) (.cons (DLe.refl _) (.cons (DLe.refl _) (.cons (DLe.refl _) (.cons (DLe.refl _) (.cons (DLe.refl _) (.cons (DLe.refl _) (.cons (DLe.refl _) (.cons (DLe.refl _) (.cons (DLe.refl _) (.cons (DLe.refl _) (.cons (DLe.refl _) (.cons (DLe.refl _) (.cons (DLe.refl _) (.cons (DLe.refl _) (.cons (DLe.refl _) (.cons (DLe.refl _) (.cons (DLe.refl _) (.cons (DLe.refl _) (.cons (DLe.refl _) (.cons (DLe.refl _) (.cons (DLe.refl _) (.cons (DLe.nils _) (.cons (DLe.refl _) .nil)))))))))))))))))))))))))))))) .nil))<|.cons (t_append [(RRec.mk (k7 : Int) v14.gtotal (VClk.mk (arr 0 [0,0,0,0,0,0,0,0,0,0,0,0,0,0,0,0])) 3 (AEv.mk 0 0 0 0 0 0 0 0 []) 0)] h32 rfl rfl rfl (Src.row rfl))<|.cons (o_assign rfl)<|.nil _) ?_
       exact ⟨(a16++[(RRec.mk (k7 : Int) v14.gtotal (VClk.mk (arr 0 [0,0,0,0,0,0,0,0,0,0,0,0,0,0,0,0])) 3 (AEv.mk 0 0 0 0 0 0 0 0 []) 0)]),hM,((Imp.freeze (id:=59) rfl).trans (Imp.sh (fun i=>i) rfl rfl rfl rfl rfl rfl))⟩
      ·replace hM:=(of_if hM).2 h31
       refine a_skip ?_
       exact ⟨a16,hM,((Imp.freeze (id:=10004) rfl).trans (Imp.sh (fun i=>i) rfl rfl rfl rfl rfl rfl))⟩
     ·rintro a17 hM
      replace hM : CColl_Bytes_a_K5 a8 a17 = some t10:=hM
      unfold CColl_Bytes_a_K5 at hM
      refine a_seq ?_
      obtain ⟨v19,h18,hM⟩ := of_bind hM
      refine ar (.cons (o_move rfl)<|.cons (o_move rfl)<|.cons (t_len rfl)<|.cons (o_conv_w rfl)<|.cons (o_callN (fun i=>bif Nat.beq i 50000 then 64 else i) 1 (num_PutUint_c h18) rfl (DLeL.refl _) .nil rfl .nil)<|.cons (o_assign rfl)<|.nil _) ?_
      refine a_seq (ar (.cons (o_move rfl)<|.cons (t_len rfl)<|.cons (o_move rfl)<|.nil _) ?_)
      obtain ⟨a21,hL22,hK22⟩ := of_bind hM
      refine a_block ?_
      refine a_fold (fun k20 (s : (List Int))=>⟨[(3,.row 10005),(20,.row 100001),(21,.int .i64 (List.length o0.gparts : Int)),(22,.int .i64 (k7 : Int)),(65,.sl 29 (List.map RRec.dv a17)),(66,.int .i64 (List.length a17 : Int)),(67,.int .i64 (k20 : Int))],[(10005,some (.row 5 1 (List.map (DV.int .u8) s))),(100000,some (.blk 134 [.row 100001])),(100001,some (.row 137 4 (List.map CPart.dv o0.gparts)))],[10005,100000,100001]⟩) _ hL22 (Imp.sh (fun i=>bif Nat.beq i 10005 then 64 else i) rfl rfl rfl rfl rfl rfl) ?_ ?_
      ·rintro k20 a21 t23 hk20 hx20 hM
       replace hM : CColl_Bytes_a_L6 a17 k20 a21 = some t23:=hM
       unfold CColl_Bytes_a_L6 at hM
       refine a_seq (ar (.cons (o_int rfl rfl rfl)<|.nil _) ?_)
       refine a_seq ?_
       refine a_cond _ rfl (fun _=>?_) (fun c=>absurd hk20 (of_decide_eq_false c))
       refine a_skip (a_seq (a_block (a_seq ?_)))
       obtain ⟨v26,h25,hM⟩ := of_bind hM
       refine ar (.cons (t_index h25 rfl rfl rfl)<|.cons (o_load_er rfl rfl rfl)<|.cons (o_alloc rfl)<|.cons (o_store rfl rfl rfl rfl rfl rfl rfl)<|.nil _) ?_
       refine a_imp (Imp.freeze (id:=10005) rfl) ?_
       obtain ⟨v28,h27,hM⟩ := of_bind hM
       obtain ⟨v30,h29,hM⟩ := of_bind hM
       refine ar (.cons (o_move rfl)<|.cons (o_load_r rfl rfl rfl rfl)<|.cons (o_call (RRec_Bytes_c h27) rfl (DLeL.refl _) rfl)<|.cons (o_callN (fun i=>bif Nat.beq i 50000 then 74 else i) 1 (num_PutBytes_c h29) rfl (DLeL.refl _) .nil rfl .nil)<|.cons (o_assign rfl)<|.nil _) ?_
       refine ar (.cons (o_add rfl rfl (inR_i64 hk20 hx20))<|.cons (o_move rfl)<|.nil _) ?_
       obtain rfl:=Option.some.inj hM
       exact (Imp.of (fun i=>bif Nat.beq i 10005 then 74 else i) (.cons rfl (DLe.refl _) (.cons rfl (DLe.refl _) (.cons rfl (DLe.refl _) (.cons rfl (DLe.refl _) (.cons rfl (DLe.refl _) (.cons rfl (DLe.refl _) (.cons rfl (DLe.succ _ _) .nil))))))) (.cons rfl (.refl _) (.cons rfl (.refl _) (.cons rfl (.refl _) .nil))) rfl rfl rfl)
      ·rintro k20 hk20 hx20
       refine a_seq (ar (.cons (o_int rfl rfl rfl)<|.nil _) ?_)
       refine a_seq ?_
       refine a_cond _ rfl (fun c=>absurd (of_decide_eq_true c) (Int.not_lt.2 hk20)) (fun _=>?_)
       refine a_exit ?_
       exact ⟨a21,hK22,(Imp.sh (fun i=>bif Nat.beq i 10003 then 10005 else i) rfl rfl rfl rfl rfl rfl)⟩
   ·rintro a12 hM
    replace hM : CColl_Bytes_a_K3 a12 = some t10:=hM
    unfold CColl_Bytes_a_K3 at hM
    refine ar (.cons (o_add rfl rfl (inR_i64 hk7 hx7))<|.cons (o_move rfl)<|.nil _) ?_
    obtain rfl:=Option.some.inj hM
    exact (Imp.of (fun i=>bif Nat.beq i 10002 then 10003 else i) (.cons rfl (DLe.refl _) (.cons rfl (DLe.refl _) (.cons rfl (DLe.refl _) (.cons rfl (DLe.succ _ _) .nil)))) (.cons rfl (.refl _) (.cons rfl (.refl _) (.cons rfl (.refl _) .nil))) rfl rfl rfl)
  ·rintro k7 hk7 hx7
   refine a_seq (ar (.cons (o_int rfl rfl rfl)<|.nil _) ?_)
   refine a_seq ?_
   refine a_cond _ rfl (fun c=>absurd (of_decide_eq_true c) (Int.not_lt.2 hk7)) (fun _=>?_)
   refine a_exit ?_
   exact ⟨a8,hK9,(Imp.sh (fun i=>bif Nat.beq i 10001 then 10002 else i) rfl rfl rfl rfl rfl rfl)⟩
 ·rintro a6 hM
  replace hM : CColl_Bytes_a_K1 a6 = some r:=hM
  unfold CColl_Bytes_a_K1 at hM
  refine a_seq (ar (.cons (o_move rfl)<|.cons (o_assign rfl)<|.nil _) ?_)
  obtain rfl:=Option.some.inj hM
  refine a_imp (σ' := ⟨[(2,.row 50000)],[(50000,some (.row 5 1 (List.map (DV.int .u8) a6))),(100000,some (.blk 134 [.row 100001])),(100001,some (.row 137 4 (List.map CPart.dv o0.gparts)))],[50000,100000,100001]⟩) (Imp.sh (fun i=>bif Nat.beq i 50000 then 10001 else i) rfl rfl rfl rfl rfl rfl) ?_
  exact a_ret (a_post (.r1 (.tmp rfl)) (DLe.refl _) (PostOk.spec (.cons rfl (.cons rfl (.cons rfl .nil)))))
def bytes_Equal (x0 : List Int) (x1 : List Int) : Option Bool :=
 some ((strOfNums x0).toList == (strOfNums x1).toList)
theorem bytes_Equal_c {x0 : List Int} {x1 : List Int} {r : Bool} (hM : bytes_Equal x0 x1 = some r) : PCall Tryz.prog 88 [.sl 1 (List.map (DV.int .u8) x0),.sl 1 (List.map (DV.int .u8) x1)] (.bool r):=by
 unfold bytes_Equal at hM
 refine PCall.body Tryz.func88 Tryz.ntmps88 rfl rfl rfl rfl ?_
 refine a_seq (ar (.cons (o_assign rfl)<|.nil _) ?_)
 refine a_seq (ar (.cons (o_move rfl)<|.cons (o_b2s x0 rfl Src.sl)<|.cons (o_move rfl)<|.cons (o_b2s x1 rfl Src.sl)<|.cons (o_streq rfl rfl)<|.cons (o_assign rfl)<|.nil _) ?_)
 obtain rfl:=Option.some.inj hM
 exact a_ret (a_post (.r1 (.tmp rfl)) (DLe.refl _) PostOk.nil.spec)
def collect_Read_K1 (x0 : List Int) (a8 : List Int) (a9 : Int) (a10 : List CPart) : Option ((CColl) ⊕ (Unit)) :=
 (num_Reader_End_a (num_Reader.mk a8 a9)).bind fun v12=>
 if (!(v12 != 0)) = true then
  (CColl_Bytes_a (CColl.mk a10)).bind fun v14=>
  (bytes_Equal v14 x0).bind fun v16=>
  if ((v12 != 0) || (!v16)) = true then
   some (.inr ())
  else
   some (.inl (CColl.mk a10))
 else
  if ((v12 != 0) || false) = true then
   some (.inr ())
  else
   some (.inl (CColl.mk a10))
def collect_Read_L2 (k18 : Nat) (a19 : List Int) (a20 : Int) (a21 : List CPart) : Option (Ctl ((List Int) × Int × (List CPart)) ((CColl) ⊕ (Unit))) :=
 (collect_readPart_a (k18 : Int) (num_Reader.mk a19 a20)).bind fun v26=>
 (idx a21 (k18 : Int)).bind fun v28=>
 if (!v26.2.1) = true then
  some (.done (.inr ()))
 else
  some (.next (v26.2.2.gp,v26.2.2.gerr,(List.set a21 (Int.toNat (k18 : Int)) v26.1)))
def collect_Read (x0 : List Int) : Option ((CColl) ⊕ (Unit)) :=
 (num_NewReader x0).bind fun v2=>
 (num_Reader_Uint_a 8 v2).bind fun v4=>
 (collect_New (IntKind.wrap .i64 v4.1)).bind fun v6=>
 match v6 with
 | .inl v6_0=>
  (forM' (E:=(CColl) ⊕ (Unit)) 9223372036854775807 (List.length v6_0.gparts : Int) (fun k18 s=>collect_Read_L2 k18 s.1 s.2.1 s.2.2) (v4.2.gp,v4.2.gerr,v6_0.gparts)).bind fun
   | .next s=>collect_Read_K1 x0 s.1 s.2.1 s.2.2
   | .done r=>some r
 | .inr v6_1=>
  some (.inr ())
theorem collect_Read_c0 {x0 : List Int} {r : CColl} (hM : collect_Read x0 = some (.inl r)) : ACall Tryz.prog 44 ⟨[.sl 1 (List.map (DV.int .u8) x0)],[],.tup [.ref 50000 0,.int .i64 0],[(50000,some (.blk 134 [.row 50001])),(50001,some (.row 137 4 (List.map CPart.dv r.gparts)))],[50000,50001]⟩ := by
 unfold collect_Read at hM
 refine ACall.body Tryz.func44 Tryz.ntmps44 rfl rfl rfl rfl ?_
 refine a_seq (ar (.cons (o_assign rfl)<|.cons (o_assign rfl)<|.nil _) ?_)
 refine a_seq ?_
 obtain ⟨v2,h1,hM⟩ := of_bind hM
 refine ar (.cons (o_move rfl)<|.cons (o_callN (fun i=>bif Nat.beq i 50000 then 10001 else i) 1 (num_NewReader_c h1) rfl (DLeL.refl _) .nil rfl .nil)<|.cons (o_assign rfl)<|.nil _) ?_
 refine a_seq ?_
 obtain ⟨v4,h3,hM⟩ := of_bind hM
 obtain ⟨v6,h5,hM⟩ := of_bind hM
 rcases v6 with v6_0 | v6_1
 ·refine ar (.cons (o_move rfl)<|.cons (o_callN (fun i=>bif Nat.beq i 100000 then 10001 else i) 1 (num_Reader_Uint_a_c h3) rfl (DLeL.refl _) (.cons rfl .nil) rfl .nil)<|.cons (o_conv_w rfl)<|.cons (o_callN (fun i=>bif Nat.beq i 50001 then 10003 else bif Nat.beq i 50000 then 10002 else i) 2 (collect_New_c0 h5) rfl (DLeL.refl _) .nil rfl .nil)<|.cons (o_move rfl)<|.cons (o_extract rfl rfl)<|.cons (o_extract rfl rfl)<|.cons (o_assign rfl)<|.cons (o_assign rfl)<|.nil _) ?_
  refine a_seq (a_seq (ar (.cons (o_move rfl)<|.cons (o_int rfl rfl rfl)<|.nil _) ?_))
  refine a_cond _ rfl (fun c=>by cases c) (fun _=>?_)
  refine a_skip ?_
  refine a_cut (α:=(List Int) × Int × (List CPart)) (fun s=>⟨[(0,.sl 1 (List.map (DV.int .u8) x0)),(4,.ref 10001 0),(5,.ref 10002 0)],[(10001,some (.blk 221 [.sl 1 (List.map (DV.int .u8) s.1),.int .i64 s.2.1])),(10002,some (.blk 134 [.row 10004])),(10004,some (.row 137 4 (List.map CPart.dv s.2.2)))],[10001,10002,10004]⟩) (fun s=>collect_Read_K1 x0 s.1 s.2.1 s.2.2 = some (.inl r)) ?_ ?_
  ·refine a_seq (ar (.cons (o_move rfl)<|.cons (o_nilCheck rfl)<|.cons (o_fieldAddr rfl)<|.cons (o_load_s rfl rfl rfl)<|.cons (t_len_r rfl rfl)<|.cons (o_move rfl)<|.nil _) ?_)
   obtain ⟨t22,hL22,hK22⟩ := of_bind hM
   refine a_block ?_
   refine a_for (fun k18 (s : (List Int) × Int × (List CPart))=>⟨[(0,.sl 1 (List.map (DV.int .u8) x0)),(4,.ref 10001 0),(5,.ref 10002 0),(24,.int .i64 (List.length v6_0.gparts : Int)),(25,.int .i64 (k18 : Int))],[(10001,some (.blk 221 [.sl 1 (List.map (DV.int .u8) s.1),.int .i64 s.2.1])),(10002,some (.blk 134 [.row 10005])),(10005,some (.row 137 4 (List.map CPart.dv s.2.2)))],[10001,10002,10005]⟩) _ hL22 (Imp.sh (fun i=>bif Nat.beq i 10005 then 10003 else i) rfl rfl rfl rfl rfl rfl) ?_ ?_
   ·rintro k18 ⟨a19,a20,a21⟩ t23 hk18 hx18 hM hE22
    replace hM : collect_Read_L2 k18 a19 a20 a21 = some t23:=hM
    unfold collect_Read_L2 at hM
    refine a_seq (ar (.cons (o_int rfl rfl rfl)<|.nil _) ?_)
    refine a_seq ?_
    refine a_cond _ rfl (fun _=>?_) (fun c=>absurd hk18 (of_decide_eq_false c))
    refine a_skip (a_seq (a_block (a_seq (ar (.cons (o_move rfl)<|.cons (o_assign rfl)<|.nil _) ?_))))
    refine a_seq (ar (.cons (o_assign rfl)<|.nil _) ?_)
    refine a_seq ?_
    obtain ⟨v26,h25,hM⟩ := of_bind hM
    obtain ⟨v28,h27,hM⟩ := of_bind hM
    refine ad mixed (.cons (o_move rfl)<|.cons (o_nilCheck rfl)<|.cons (o_fieldAddr rfl)<|.cons (o_load_s rfl rfl rfl)<|.cons (o_move rfl)<|.cons (o_move rfl)<|.cons (o_move rfl)<|.cons (o_callN (fun i=>bif Nat.beq i 100000 then 10001 else i) 1 (collect_readPart_a_c h25) rfl (DLeL.refl _) (.cons rfl .nil) rfl .nil)<|.cons (o_move rfl)<|.cons (o_extract rfl rfl)<|.cons (o_extract rfl rfl)<|.cons (t_index_r h27 rfl rfl rfl)<|.cons (t_store_p v26.1 h27 rfl rfl rfl rfl rfl rfl rfl rfl rfl rfl rfl)<|.cons (o_assign rfl)<|.nil _) ?_
    refine a_seq (ar (.cons (o_move rfl)<|.cons (o_not rfl)<|.nil _) ?_)
    refine a_cond _ rfl (fun h29=>?_) (fun h29=>?_)
    ·replace hM:=(of_if hM).1 h29
     refine a_seq (ar (.cons (o_assign rfl)<|.cons (o_assign rfl)<|.nil _) ?_)
     obtain rfl:=Option.some.inj hM
     obtain rfl:=hE22 _ rfl
     cases hK22
    ·replace hM:=(of_if hM).2 h29
     refine a_skip (ar (.cons (o_add rfl rfl (inR_i64 hk18 hx18))<|.cons (o_move rfl)<|.nil _) ?_)
     obtain rfl:=Option.some.inj hM
     exact ⟨(v26.2.2.gp,v26.2.2.gerr,(List.set a21 (Int.toNat (k18 : Int)) v26.1)),rfl,(Imp.of (fun i=>i) (.cons rfl (DLe.refl _) (.cons rfl (DLe.refl _) (.cons rfl (DLe.refl _) (.cons rfl (DLe.refl _) (.cons rfl (DLe.succ _ _) .nil))))) (.cons rfl (.refl _) (.cons rfl (.refl _) (.cons rfl (.refl _) .nil))) rfl rfl rfl)⟩
   ·rintro k18 ⟨a19,a20,a21⟩ hk18 hx18 rfl
    refine a_seq (ar (.cons (o_int rfl rfl rfl)<|.nil _) ?_)
    refine a_seq ?_
    refine a_cond _ rfl (fun c=>absurd (of_decide_eq_true c) (Int.not_lt.2 hk18)) (fun _=>?_)
    refine a_exit ?_
    exact ⟨(a19,a20,a21),hK22,(Imp.sh (fun i=>bif Nat.beq i 10004 then 10005 else i) rfl rfl rfl rfl rfl rfl)⟩
  ·rintro ⟨a8,a9,a10⟩ hM
   replace hM : collect_Read_K1 x0 a8 a9 a10 = some (.inl r):=hM
   unfold collect_Read_K1 at hM
   refine a_seq (a_seq ?_)
   obtain ⟨v12,h11,hM⟩ := of_bind hM
   by_cases hd13 : (!(v12 != 0)) = true
   ·replace hM:=(of_if hM).1 hd13
    obtain ⟨v14,h13,hM⟩ := of_bind hM
    obtain ⟨v16,h15,hM⟩ := of_bind hM
    refine ar (.cons (o_move rfl)<|.cons (o_callN (fun i=>bif Nat.beq i 100000 then 10001 else i) 0 (num_Reader_End_a_c h11) rfl (DLeL.refl _) (.cons rfl .nil) rfl (.cons rfl .nil))<|.cons (o_int rfl rfl rfl)<|.cons (o_move rfl)<|.cons (o_guardG .bF rfl rfl (fun hb=>(.keep .nil)) (fun hb=>o_move rfl))<|.cons (o_guardOn .bF rfl rfl hd13 (.strip rfl hd13 .nil) (o_frz (o_callN (fun i=>bif Nat.beq i 50000 then 48 else bif Nat.beq i 100000 then 10002 else bif Nat.beq i 100001 then 10004 else i) 1 (CColl_Bytes_a_c h13) rfl (DLeL.refl _) (.cons rfl (.cons rfl .nil)) rfl (.cons rfl (.cons rfl .nil)))))<|.cons (o_guardOn .bF rfl rfl hd13 (.keep .nil) (o_move rfl))<|.cons (o_guardOn .bF rfl rfl hd13 (.strip rfl hd13 (.strip rfl hd13 .nil)) (o_call (bytes_Equal_c h15) rfl (DLeL.refl _) rfl))<|.cons (o_guardOn .bF rfl rfl hd13 (.strip rfl hd13 .nil) (o_not rfl))<|.cons (o_or rfl rfl)<|.nil _) ?_
    refine a_cond _ rfl (fun h17=>?_) (fun h17=>?_)
    ·replace hM:=(of_if hM).1 h17
     refine a_seq (ar (.cons (o_assign rfl)<|.cons (o_assign rfl)<|.nil _) ?_)
     cases hM
    ·replace hM:=(of_if hM).2 h17
     refine a_skip (a_seq (ar (.cons (o_move rfl)<|.cons (o_assign rfl)<|.cons (o_assign rfl)<|.nil _) ?_))
     obtain rfl:=Sum.inl.inj (Option.some.inj hM)
     refine a_imp (σ' := ⟨[(2,.ref 50000 0),(3,.int .i64 0)],[(50000,some (.blk 134 [.row 50001])),(50001,some (.row 137 4 (List.map CPart.dv ((CColl.mk a10).gparts))))],[50000,50001]⟩) (Imp.sh (fun i=>bif Nat.beq i 50001 then 10004 else bif Nat.beq i 50000 then 10002 else i) rfl rfl rfl rfl rfl rfl) ?_
     exact a_ret (a_post (.r2 (.tmp rfl) (.tmp rfl)) (DLe.refl _) (PostOk.spec (.cons rfl (.cons rfl .nil))))
   ·replace hd13:=Bool.eq_false_iff.2 hd13
    replace hM:=(of_if hM).2 hd13
    refine ar (.cons (o_move rfl)<|.cons (o_callN (fun i=>bif Nat.beq i 100000 then 10001 else i) 0 (num_Reader_End_a_c h11) rfl (DLeL.refl _) (.cons rfl .nil) rfl (.cons rfl .nil))<|.cons (o_int rfl rfl rfl)<|.cons (o_move rfl)<|.cons (o_guardG .bF rfl rfl (fun hb=>(.keep .nil)) (fun hb=>o_move rfl))<|.cons (o_guardOff (.nils) .bF rfl rfl hd13)<|.cons (o_guardOff (.nils) .bF rfl rfl hd13)<|.cons (o_guardOff (.bool false) .bF rfl rfl hd13)<|.cons (o_guardOff (.bool false) .bF rfl rfl hd13)<|.cons (o_or rfl rfl)<|.nil _) ?_
    refine a_cond _ rfl (fun h13=>?_) (fun h13=>?_)
    ·replace hM:=(of_if hM).1 h13
     refine a_seq (ar (.cons (o_assign rfl)<|.cons (o_assign rfl)<|.nil _) ?_)
     cases hM
    ·replace hM:=(of_if hM).2 h13
     refine a_skip (a_seq (ar (.cons (o_move rfl)<|.cons (o_assign rfl)<|.cons (o_assign rfl)<|.nil _) ?_))
     obtain rfl:=Sum.inl.inj (Option.some.inj hM)
     refine a_imp (σ' := ⟨[(2,.ref 50000 0),(3,.int .i64 0)],[(50000,some (.blk 134 [.row 50001])),(50001,some (.row 137 4 (List.map CPart.dv ((CColl.mk a10).gparts))))],[50000,50001]⟩) (Imp.sh (fun i=>bif Nat.beq i 50001 then 10004 else bif Nat.beq i 50000 then 10002 else i) rfl rfl rfl rfl rfl rfl) ?_
     exact a_ret (a_post (.r2 (.tmp rfl) (.tmp rfl)) (DLe.refl _) (PostOk.spec (.cons rfl (.cons rfl .nil))))
 ·refine ar (.cons (o_move rfl)<|.cons (o_callN (fun i=>bif Nat.beq i 100000 then 10001 else i) 1 (num_Reader_Uint_a_c h3) rfl (DLeL.refl _) (.cons rfl .nil) rfl .nil)<|.cons (o_conv_w rfl)<|.cons (o_callN (fun i=>i) 0 (collect_New_c1 h5) rfl (DLeL.refl _) .nil rfl .nil)<|.cons (o_move rfl)<|.cons (o_extract rfl rfl)<|.cons (o_extract rfl rfl)<|.cons (o_assign rfl)<|.cons (o_assign rfl)<|.nil _) ?_
  refine a_seq (a_seq (ar (.cons (o_move rfl)<|.cons (o_int rfl rfl rfl)<|.nil _) ?_))
  refine a_cond _ rfl (fun _=>?_) (fun c=>by cases c)
  refine a_seq (ar (.cons (o_assign rfl)<|.cons (o_assign rfl)<|.nil _) ?_)
  cases hM
theorem collect_Read_c1 {x0 : List Int} {r : Unit} (hM : collect_Read x0 = some (.inr r)) : ACall Tryz.prog 44 ⟨[.sl 1 (List.map (DV.int .u8) x0)],[],.tup [.val (.pointer none),.int .i64 6],[],[]⟩ := by
 unfold collect_Read at hM
 refine ACall.body Tryz.func44 Tryz.ntmps44 rfl rfl rfl rfl ?_
 refine a_seq (ar (.cons (o_assign rfl)<|.cons (o_assign rfl)<|.nil _) ?_)
 refine a_seq ?_
 obtain ⟨v2,h1,hM⟩ := of_bind hM
 refine ar (.cons (o_move rfl)<|.cons (o_callN (fun i=>bif Nat.beq i 50000 then 10001 else i) 1 (num_NewReader_c h1) rfl (DLeL.refl _) .nil rfl .nil)<|.cons (o_assign rfl)<|.nil _) ?_
 refine a_seq ?_
 obtain ⟨v4,h3,hM⟩ := of_bind hM
 obtain ⟨v6,h5,hM⟩ := of_bind hM
 rcases v6 with v6_0 | v6_1
 ·refine ar (.cons (o_move rfl)<|.cons (o_callN (fun i=>bif Nat.beq i 100000 then 10001 else i) 1 (num_Reader_Uint_a_c h3) rfl (DLeL.refl _) (.cons rfl .nil) rfl .nil)<|.cons (o_conv_w rfl)<|.cons (o_callN (fun i=>bif Nat.beq i 50001 then 10003 else bif Nat.beq i 50000 then 10002 else i) 2 (collect_New_c0 h5) rfl (DLeL.refl _) .nil rfl .nil)<|.cons (o_move rfl)<|.cons (o_extract rfl rfl)<|.cons (o_extract rfl rfl)<|.cons (o_assign rfl)<|.cons (o_assign rfl)<|.nil _) ?_
  refine a_seq (a_seq (ar (.cons (o_move rfl)<|.cons (o_int rfl rfl rfl)<|.nil _) ?_))
  refine a_cond _ rfl (fun c=>by cases c) (fun _=>?_)
  refine a_skip ?_
  refine a_cut (α:=(List Int) × Int × (List CPart)) (fun s=>⟨[(0,.sl 1 (List.map (DV.int .u8) x0)),(4,.ref 10001 0),(5,.ref 10002 0)],[(10001,some (.blk 221 [.sl 1 (List.map (DV.int .u8) s.1),.int .i64 s.2.1])),(10002,some (.blk 134 [.row 10004])),(10004,some (.row 137 4 (List.map CPart.dv s.2.2)))],[10001,10002,10004]⟩) (fun s=>collect_Read_K1 x0 s.1 s.2.1 s.2.2 = some (.inr r)) ?_ ?_
  ·refine a_seq (ar (.cons (o_move rfl)<|.cons (o_nilCheck rfl)<|.cons (o_fieldAddr rfl)<|.cons (o_load_s rfl rfl rfl)<|.cons (t_len_r rfl rfl)<|.cons (o_move rfl)<|.nil _) ?_)
   obtain ⟨t22,hL22,hK22⟩ := of_bind hM
   refine a_block ?_
   refine a_for (fun k18 (s : (List Int) × Int × (List CPart))=>⟨[(0,.sl 1 (List.map (DV.int .u8) x0)),(4,.ref 10001 0),(5,.ref 10002 0),(24,.int .i64 (List.length v6_0.gparts : Int)),(25,.int .i64 (k18 : Int))],[(10001,some (.blk 221 [.sl 1 (List.map (DV.int .u8) s.1),.int .i64 s.2.1])),(10002,some (.blk 134 [.row 10005])),(10005,some (.row 137 4 (List.map CPart.dv s.2.2)))],[10001,10002,10005]⟩) _ hL22 (Imp.sh (fun i=>bif Nat.beq i 10005 then 10003 else i) rfl rfl rfl rfl rfl rfl) ?_ ?_
   ·rintro k18 ⟨a19,a20,a21⟩ t23 hk18 hx18 hM hE22
    replace hM : collect_Read_L2 k18 a19 a20 a21 = some t23:=hM
    unfold collect_Read_L2 at hM
    refine a_seq (ar (.cons (o_int rfl rfl rfl)<|.nil _) ?_)
    refine a_seq ?_
    refine a_cond _ rfl (fun _=>?_) (fun c=>absurd hk18 (of_decide_eq_false c))
    refine a_skip (a_seq (a_block (a_seq (ar (.cons (o_move rfl)<|.cons (o_assign rfl)<|.nil _) ?_))))
    refine a_seq (ar (.cons (o_assign rfl)<|.nil _) ?_)
    refine a_seq ?_
    obtain ⟨v26,h25,hM⟩ := of_bind hM
    obtain ⟨v28,h27,hM⟩ := of_bind hM
    refine ad mixed (.cons (o_move rfl)<|.cons (o_nilCheck rfl)<|.cons (o_fieldAddr rfl)<|.cons (o_load_s rfl rfl rfl)<|.cons (o_move rfl)<|.cons (o_move rfl)<|.cons (o_move rfl)<|.cons (o_callN (fun i=>bif Nat.beq i 100000 then 10001 else i) 1 (collect_readPart_a_c h25) rfl (DLeL.refl _) (.cons rfl .nil) rfl .nil)<|.cons (o_move rfl)<|.cons (o_extract rfl rfl)<|.cons (o_extract rfl rfl)<|.cons (t_index_r h27 rfl rfl rfl)<|.cons (t_store_p v26.1 h27 rfl rfl rfl rfl rfl rfl rfl rfl rfl rfl rfl)<|.cons (o_assign rfl)<|.nil _) ?_
    refine a_seq (ar (.cons (o_move rfl)<|.cons (o_not rfl)<|.nil _) ?_)
    refine a_cond _ rfl (fun h29=>?_) (fun h29=>?_)
    ·replace hM:=(of_if hM).1 h29
     refine a_seq (ar (.cons (o_assign rfl)<|.cons (o_assign rfl)<|.nil _) ?_)
     obtain rfl:=Option.some.inj hM
     obtain rfl:=hE22 _ rfl
     obtain rfl:=Sum.inr.inj (Option.some.inj hK22)
     refine a_imp (σ' := ⟨[(2,.val (.pointer none)),(3,.int .i64 6)],[],[]⟩) (Imp.sh (fun i=>i) rfl rfl rfl rfl rfl rfl) ?_
     exact a_ret (a_post (.r2 (.tmp rfl) (.tmp rfl)) (DLe.refl _) (PostOk.spec .nil))
    ·replace hM:=(of_if hM).2 h29
     refine a_skip (ar (.cons (o_add rfl rfl (inR_i64 hk18 hx18))<|.cons (o_move rfl)<|.nil _) ?_)
     obtain rfl:=Option.some.inj hM
     exact ⟨(v26.2.2.gp,v26.2.2.gerr,(List.set a21 (Int.toNat (k18 : Int)) v26.1)),rfl,(Imp.of (fun i=>i) (.cons rfl (DLe.refl _) (.cons rfl (DLe.refl _) (.cons rfl (DLe.refl _) (.cons rfl (DLe.refl _) (.cons rfl (DLe.succ _ _) .nil))))) (.cons rfl (.refl _) (.cons rfl (.refl _) (.cons rfl (.refl _) .nil))) rfl rfl rfl)⟩
   ·rintro k18 ⟨a19,a20,a21⟩ hk18 hx18 rfl
    refine a_seq (ar (.cons (o_int rfl rfl rfl)<|.nil _) ?_)
    refine a_seq ?_
    refine a_cond _ rfl (fun c=>absurd (of_decide_eq_true c) (Int.not_lt.2 hk18)) (fun _=>?_)
    refine a_exit ?_
    exact ⟨(a19,a20,a21),hK22,(Imp.sh (fun i=>bif Nat.beq i 10004 then 10005 else i) rfl rfl rfl rfl rfl rfl)⟩
  ·rintro ⟨a8,a9,a10⟩ hM
   replace hM : collect_Read_K1 x0 a8 a9 a10 = some (.inr r):=hM
   unfold collect_Read_K1 at hM
   refine a_seq (a_seq ?_)
   obtain ⟨v12,h11,hM⟩ := of_bind hM
   by_cases hd13 : (!(v12 != 0)) = true
   ·replace hM:=(of_if hM).1 hd13
    obtain ⟨v14,h13,hM⟩ := of_bind hM
    obtain ⟨v16,h15,hM⟩ := of_bind hM
    refine ar (.cons (o_move rfl)<|.cons (o_callN (fun i=>bif Nat.beq i 100000 then 10001 else i) 0 (num_Reader_End_a_c h11) rfl (DLeL.refl _) (.cons rfl .nil) rfl (.cons rfl .nil))<|.cons (o_int rfl rfl rfl)<|.cons (o_move rfl)<|.cons (o_guardG .bF rfl rfl (fun hb=>(.keep .nil)) (fun hb=>o_move rfl))<|.cons (o_guardOn .bF rfl rfl hd13 (.strip rfl hd13 .nil) (o_frz (o_callN (fun i=>bif Nat.beq i 50000 then 48 else bif Nat.beq i 100000 then 10002 else bif Nat.beq i 100001 then 10004 else i) 1 (CColl_Bytes_a_c h13) rfl (DLeL.refl _) (.cons rfl (.cons rfl .nil)) rfl (.cons rfl (.cons rfl .nil)))))<|.cons (o_guardOn .bF rfl rfl hd13 (.keep .nil) (o_move rfl))<|.cons (o_guardOn .bF rfl rfl hd13 (.strip rfl hd13 (.strip rfl hd13 .nil)) (o_call (bytes_Equal_c h15) rfl (DLeL.refl _) rfl))<|.cons (o_guardOn .bF rfl rfl hd13 (.strip rfl hd13 .nil) (o_not rfl))<|.cons (o_or rfl rfl)<|.nil _) ?_
    refine a_cond _ rfl (fun h17=>?_) (fun h17=>?_)
    ·replace hM:=(of_if hM).1 h17
     refine a_seq (ar (.cons (o_assign rfl)<|.cons (o_assign rfl)<|.nil _) ?_)
     obtain rfl:=Sum.inr.inj (Option.some.inj hM)
     refine a_imp (σ' := ⟨[(2,.val (.pointer none)),(3,.int .i64 6)],[],[]⟩) (Imp.sh (fun i=>i) rfl rfl rfl rfl rfl rfl) ?_
     exact a_ret (a_post (.r2 (.tmp rfl) (.tmp rfl)) (DLe.refl _) (PostOk.spec .nil))
    ·replace hM:=(of_if hM).2 h17
     refine a_skip (a_seq (ar (.cons (o_move rfl)<|.cons (o_assign rfl)<|.cons (o_assign rfl)<|.nil _) ?_))
     cases hM
   ·replace hd13:=Bool.eq_false_iff.2 hd13
    replace hM:=(of_if hM).2 hd13
    refine ar (.cons (o_move rfl)<|.cons (o_callN (fun i=>bif Nat.beq i 100000 then 10001 else i) 0 (num_Reader_End_a_c h11) rfl (DLeL.refl _) (.cons rfl .nil) rfl (.cons rfl .nil))<|.cons (o_int rfl rfl rfl)<|.cons (o_move rfl)<|.cons (o_guardG .bF rfl rfl (fun hb=>(.keep .nil)) (fun hb=>o_move rfl))<|.cons (o_guardOff (.nils) .bF rfl rfl hd13)<|.cons (o_guardOff (.nils) .bF rfl rfl hd13)<|.cons (o_guardOff (.bool false) .bF rfl rfl hd13)<|.cons (o_guardOff (.bool false) .bF rfl rfl hd13)<|.cons (o_or rfl rfl)<|.nil _) ?_
    refine a_cond _ rfl (fun h13=>?_) (fun h13=>?_)
    ·replace hM:=(of_if hM).1 h13
     refine a_seq (ar (.cons (o_assign rfl)<|.cons (o_assign rfl)<|.nil _) ?_)
     obtain rfl:=Sum.inr.inj (Option.some.inj hM)
     refine a_imp (σ' := ⟨[(2,.val (.pointer none)),(3,.int .i64 6)],[],[]⟩) (Imp.sh (fun i=>i) rfl rfl rfl rfl rfl rfl) ?_
     exact a_ret (a_post (.r2 (.tmp rfl) (.tmp rfl)) (DLe.refl _) (PostOk.spec .nil))
    ·replace hM:=(of_if hM).2 h13
     refine a_skip (a_seq (ar (.cons (o_move rfl)<|.cons (o_assign rfl)<|.cons (o_assign rfl)<|.nil _) ?_))
     cases hM
 ·refine ar (.cons (o_move rfl)<|.cons (o_callN (fun i=>bif Nat.beq i 100000 then 10001 else i) 1 (num_Reader_Uint_a_c h3) rfl (DLeL.refl _) (.cons rfl .nil) rfl .nil)<|.cons (o_conv_w rfl)<|.cons (o_callN (fun i=>i) 0 (collect_New_c1 h5) rfl (DLeL.refl _) .nil rfl .nil)<|.cons (o_move rfl)<|.cons (o_extract rfl rfl)<|.cons (o_extract rfl rfl)<|.cons (o_assign rfl)<|.cons (o_assign rfl)<|.nil _) ?_
  refine a_seq (a_seq (ar (.cons (o_move rfl)<|.cons (o_int rfl rfl rfl)<|.nil _) ?_))
  refine a_cond _ rfl (fun _=>?_) (fun c=>by cases c)
  refine a_seq (ar (.cons (o_assign rfl)<|.cons (o_assign rfl)<|.nil _) ?_)
  obtain rfl:=Sum.inr.inj (Option.some.inj hM)
  refine a_imp (σ' := ⟨[(2,.val (.pointer none)),(3,.int .i64 6)],[],[]⟩) (Imp.sh (fun i=>i) rfl rfl rfl rfl rfl rfl) ?_
  exact a_ret (a_post (.r2 (.tmp rfl) (.tmp rfl)) (DLe.refl _) (PostOk.spec .nil))
set_option maxHeartbeats 1000000
theorem pow128 {k : Nat} (h : k≤9) : (0 : Int) < 128 ^ k∧(128 : Int) ^ k≤9223372036854775808:=by
 have : k = 0∨k = 1∨k = 2∨k = 3∨k = 4∨k = 5∨k = 6∨k = 7∨k = 8∨k = 9:=by omega
 rcases this with rfl | rfl | rfl | rfl | rfl | rfl | rfl | rfl | rfl | rfl <;> decide
theorem Uint_eq (xs : List Int) (hx : ∀ b∈xs,Byt b) (hl : xs.length≤9223372036854775807) : num_Uint xs = some (uintD xs):=by
 have hInd:=forM_ind (S:=Int) (E:=Int × Int × Int) (mx:=9223372036854775807) (n:=(List.length xs : Int)) (body:=fun k1 s=>num_Uint_L2 xs k1 s) (s0:=0)
  (fun k acc=>k≤9∧0≤acc∧acc < 128 ^ k∧decU 0 0 xs = decU k acc (xs.drop k))
  (fun t=>match t with
   | .next s=>decU 0 0 xs = none
   | .done r=>r = uintD xs)
  (by omega) (by omega) ⟨by omega,by omega,by decide,rfl⟩ ?_ ?_
 ·obtain ⟨t,h1,h2⟩ := hInd
  unfold num_Uint
  rw [h1,Option.bind_some]
  cases t with
  | next s=>
   dsimp only at h2 ⊢
   unfold num_Uint_K1 uintD
   rw [h2]
  | done r=>
   dsimp only at h2 ⊢
   rw [h2]
 ·rintro k acc hk ⟨h9,h0,hlt,hd⟩
  have hk' : k < xs.length:=by omega
  have hb:=hx _ (List.getElem_mem hk')
  rw [List.drop_eq_getElem_cons hk'] at hd
  dsimp only
  unfold num_Uint_L2
  rw [idx_lt hk',Option.bind_some]
  generalize xs[k] = b at hd hb ⊢
  rw [decU.eq_2] at hd
  have hp:=pow128 h9
  by_cases c1 : k = 9∧1 < b
  ·refine .inr ⟨(0,0,6),?_,?_⟩
   ·rw [if_pos (by simp [c1.1,c1.2])]
   ·rw [if_pos c1] at hd
    (try dsimp only); unfold uintD; rw [hd]
  ·rw [if_neg c1] at hd
   have w7 : IntKind.wrap .i64 (7 * (k : Int)) = 7 * (k : Int):=wrap_i64 (by omega) (by omega)
   rw [if_neg (by simp; omega),w7,chk_pos (by omega),shr_7,and_127 hb]
   have hb0:=hb.1
   have hb1:=hb.2
   have wc : IntKind.wrap .u64 (b % 128) = b % 128:=wrap_u64 (by omega) (by omega)
   have hsum : acc + b % 128 * 128 ^ k < 18446744073709551616∧acc + b % 128 * 128 ^ k < 128 ^ (k + 1):=by
    have e1 : b % 128 * 128 ^ k≤127 * 128 ^ k:=Int.mul_le_mul_of_nonneg_right (by omega) (by omega)
    refine ⟨?_,by rw [Int.pow_succ]; omega⟩
    by_cases e9 : k = 9
    ·subst e9
     have : b % 128 * 128 ^ 9≤1 * 128 ^ 9:=Int.mul_le_mul_of_nonneg_right (by omega) (by decide)
     omega
    ·have:=(pow128 (k:=k + 1) (by omega)).2
     rw [Int.pow_succ] at this
     omega
   have hm : 0≤b % 128 * 128 ^ k:=Int.mul_nonneg (by omega) (by omega)
   rw [wc,shl_7 h9 (by omega) (by omega),or_add h0 hlt (by omega) hsum.1]
   by_cases c2 : b < 128
   ·rw [if_pos c2] at hd
    have : (b / 128 == 0) = true:=by rw [beq_iff_eq]; omega
    rw [if_pos this]
    by_cases c3 : b = 0∧0 < k
    ·refine .inr ⟨(0,0,6),?_,?_⟩
     ·rw [if_pos (by simp [c3.1]; omega)]
     ·rw [if_pos c3] at hd
      (try dsimp only); unfold uintD; rw [hd]
    ·rw [if_neg c3] at hd
     refine .inr ⟨_,by rw [if_neg (by simp; omega)],?_⟩
     (try dsimp only); unfold uintD; rw [hd]; simp
   ·rw [if_neg c2] at hd
    have : ¬ (b / 128 == 0) = true:=by rw [beq_iff_eq]; omega
    rw [if_neg this]
    exact .inl ⟨_,rfl,by omega,by omega,hsum.2,hd⟩
 ·rintro acc ⟨h9,h0,hlt,hd⟩
  dsimp only
  rw [hd,Int.toNat_natCast,List.drop_length]
  rfl
theorem put_eq : ∀ (n : Nat) (v : Int) (o : List Int),v.toNat≤n→0≤v→v < 18446744073709551616→o.length≤70368744177664→num_put_a v o = some (o++putU v):=by
 intro n v o hn h0 h1 hl
 have hInd:=whileM_ind (S:=(List Int) × Int) (E:=(List Int) × Int) (step:=fun s=>num_put_a_L2 s.1 s.2) (s0:=(o,v))
  (fun s=>0≤s.2∧s.2 < 18446744073709551616∧s.1++putU s.2 = o++putU v) (fun s=>s.2.toNat)
  (fun e=>0≤e.2∧e.2 < 128∧e.1++putU e.2 = o++putU v) ⟨h0,h1,rfl⟩ (by (try dsimp only); omega) ?_
 ·obtain ⟨e,h2,h3,h4,h5⟩ := hInd
  unfold num_put_a
  rw [h2,Option.bind_some]
  unfold num_put_a_K1
  have w : IntKind.wrap .u8 e.2 = e.2:=(show e.2 % 256 = e.2 by omega)
  rw [putU_small h4] at h5
  have hlen : (e.1++[e.2]).length≤70368744177664 + 10:=by
   rw [h5,List.length_append]; have:=putU_ten h1; omega
  rw [List.length_append] at hlen
  rw [w,chk_pos (by simp only [apOk]; omega),h5]
 ·rintro ⟨a,x⟩ ⟨g0,g1,g2⟩
  dsimp only at g0 g1 g2 ⊢
  unfold num_put_a_L2
  by_cases c : 128≤x
  ·rw [if_pos (by simpa using c)]
   have hlen : (a++putU x).length≤70368744177664 + 10:=by
    rw [g2,List.length_append]; have:=putU_ten h1; omega
   rw [List.length_append] at hlen
   have e1 : bitI .or .u8 (IntKind.wrap .u8 x) 128 = x % 128 + 128:=by
    have:=or_128 g0
    rw [show IntKind.wrap .u8 x = x % 256 from rfl]
    exact this
   have e2 : Int.fdiv x (2 ^ min (Int.toNat 7) (IntKind.bits .u64)) = x / 128:=by
    have : (2 : Int) ^ min (7 : Int).toNat IntKind.u64.bits = 128:=rfl
    rw [this,Int.fdiv_eq_ediv_of_nonneg _ (by omega)]
   rw [e1,e2,chk_pos (by simp only [apOk,List.length_singleton]; omega)]
   refine .inl ⟨_,rfl,⟨by omega,by omega,?_⟩,by omega⟩
   rw [putU_big c] at g2
   rw [← g2]; simp
  ·rw [if_neg (by simpa using c)]
   exact .inr ⟨_,rfl,g0,by omega,g2⟩
theorem PutUint_eq (v : Int) (o : List Int) (h0 : 0≤v) (h1 : v < 18446744073709551616) (hl : o.length≤70368744177664) : num_PutUint o v = some (o++putU v):=by
 unfold num_PutUint
 have w : IntKind.wrap .i64 ((List.length o : Int) + 10) = (List.length o : Int) + 10:=wrap_i64 (by omega) (by omega)
 rw [w,chk_pos (by unfold mkOk; omega),chk_pos (by simp only [apOk,List.length_nil,Nat.zero_add]; omega),List.nil_append,put_eq _ v o (Nat.le_refl _) h0 h1 hl]
 rfl
theorem PutBytes_eq (b : List Int) (o : List Int) (hb : b.length≤70368744177664) (hl : o.length≤35184372088832) (hbl : b.length + o.length≤70368744177664) : num_PutBytes o b = some (o++(putU (b.length : Int)++b)):=by
 unfold num_PutBytes
 have w : IntKind.wrap .i64 ((List.length o : Int) + 10) = (List.length o : Int) + 10:=wrap_i64 (by omega) (by omega)
 have w2 : IntKind.wrap .i64 ((List.length o : Int) + 10 + (List.length b : Int)) = (List.length o : Int) + 10 + (List.length b : Int):=wrap_i64 (by omega) (by omega)
 have w3 : IntKind.wrap .u64 (List.length b : Int) = (List.length b : Int):=wrap_u64 (by omega) (by omega)
 have:=putU_ten (v:=(b.length : Int)) (by omega)
 rw [w,w2,w3,chk_pos (by unfold mkOk; omega),chk_pos (by simp only [apOk,List.length_nil,Nat.zero_add]; omega),List.nil_append,put_eq _ _ o (Nat.le_refl _) (by omega) (by omega) (by omega),Option.bind_some,chk_pos (by simp only [apOk,List.length_append]; omega),List.append_assoc]
def clkZ : VClk:=VClk.mk (arr 0 [0,0,0,0,0,0,0,0,0,0,0,0,0,0,0,0])
def evZ : AEv:=AEv.mk 0 0 0 0 0 0 0 0 []
def lostR (k : Int) (s : CSpan) : Rk:=RRec.mk k s.gfrom clkZ 2 evZ (s.gto - s.gfrom)
def endR (k t : Int) : Rk:=RRec.mk k t clkZ 3 evZ 0
def partRecs (k : Int) (p : CPart) : List Rk:=p.gentries++p.glost.map (lostR k)++(if p.gknown = true then [endR k p.gtotal] else [])
def rB (r : Rk) : List Int:=recBytes (reOf r)
def rBp (r : Rk) : List Int:=putU ((rB r).length : Int)++rB r
def recsB (l : List Rk) : List Int:=putU (l.length : Int)++l.flatMap rBp
def partsB : Nat→List CPart→List Int
 | _,[]=>[]
 | k,p :: ps=>recsB (partRecs (k : Int) p)++partsB (k + 1) ps
def collB (P : List CPart) : List Int:=putU ((P.length : Int) - 1)++partsB 0 P
theorem partsB_add : ∀ (a : List CPart) (p : CPart) (k : Nat),partsB k (a++[p]) = partsB k a++recsB (partRecs ((k + a.length : Nat) : Int) p)
 | [],p,k=>by simp [partsB]
 | q :: a,p,k=>by
  rw [List.cons_append,partsB,partsB,partsB_add a p (k + 1),List.append_assoc,List.length_cons,show k + 1 + a.length = k + (a.length + 1) by omega]
theorem rB_len {r : Rk} (h : reFits r = true) : (rB r).length≤400:=recBytes_small (reFits_T h).1
theorem rBp_len {r : Rk} (h : reFits r = true) : (rBp r).length≤410:=by
 have:=rB_len h
 have:=putU_ten (v:=((rB r).length : Int)) (by omega)
 unfold rBp; rw [List.length_append]; omega
theorem rBs_len : ∀ (l : List Rk),(∀ r∈l,reFits r = true)→(l.flatMap rBp).length≤l.length * 410
 | [],_=>by simp
 | r :: l,h=>by
  rw [List.flatMap_cons,List.length_append,List.length_cons]
  have:=rBp_len (h r (List.mem_cons_self ..))
  have:=rBs_len l fun x hx=>h x (List.mem_cons_of_mem _ hx)
  omega
theorem recsB_len {l : List Rk} (h : ∀ r∈l,reFits r = true) (hl : l.length≤1073741824) : (recsB l).length≤10 + l.length * 410:=by
 have:=rBs_len l h
 have:=putU_ten (v:=(l.length : Int)) (by omega)
 unfold recsB; rw [List.length_append]; omega
structure PB (p : CPart) : Prop where
 fits : ∀ r∈p.gentries,reFits r = true
 sp : ∀ s∈p.glost,spanOk s
 ne : p.gentries.length≤16777216
 nl : p.glost.length≤16777216
 tot : 0≤p.gtotal∧p.gtotal≤18446744073709551615
theorem fits_lostR {k : Int} (hk : 0≤k∧k≤100) {s : CSpan} (h : spanOk s) : reFits (lostR k s) = true:=by
 obtain ⟨h1,h2,h3⟩ := h
 have ck : ckFits clkZ = true:=by decide
 have ev : evFits evZ = true:=by decide
 unfold lostR reFits
 simp only [ck,ev,Bool.and_true,Bool.and_eq_true,okI_iff,InR]
 simp
 omega
theorem fits_endR {k t : Int} (hk : 0≤k∧k≤100) (h : 0≤t∧t≤18446744073709551615) : reFits (endR k t) = true:=by
 have ck : ckFits clkZ = true:=by decide
 have ev : evFits evZ = true:=by decide
 unfold endR reFits
 simp only [ck,ev,Bool.and_true,Bool.and_eq_true,okI_iff,InR]
 simp
 omega
theorem PB.recs {p : CPart} (h : PB p) {k : Int} (hk : 0≤k∧k≤100) : (∀ r∈partRecs k p,reFits r = true)∧(partRecs k p).length≤33554433:=by
 constructor
 ·intro r hr
  unfold partRecs at hr
  rcases List.mem_append.1 hr with hr | hr
  ·rcases List.mem_append.1 hr with hr | hr
   ·exact h.fits r hr
   ·obtain ⟨s,hs,rfl⟩ := List.mem_map.1 hr
    exact fits_lostR hk (h.sp s hs)
  ·split at hr
   ·rw [List.mem_singleton] at hr; subst hr
    exact fits_endR hk h.tot
   ·cases hr
 ·have:=h.ne
  have:=h.nl
  unfold partRecs
  rw [List.length_append,List.length_append,List.length_map]
  split <;> simp <;> omega
theorem bytes_recs (l : List Rk) (o : List Int) (h : ∀ r∈l,reFits r = true) (hl : l.length≤33554433) (ho : o.length≤1099511627776) : CColl_Bytes_a_K5 o l = some (o++recsB l):=by
 unfold CColl_Bytes_a_K5
 have w : IntKind.wrap .u64 (List.length l : Int) = (List.length l : Int):=wrap_u64 (by omega) (by omega)
 have h10:=putU_ten (v:=(l.length : Int)) (by omega)
 rw [w,PutUint_eq _ o (by omega) (by omega) (by omega),Option.bind_some]
 rw [foldM_spec (s0:=o++putU (l.length : Int)) l.length (fun j=>o++putU (l.length : Int)++(l.take j).flatMap rBp) (by simp) rfl (by omega) (fun j hj=>?_)]
 ·rw [Option.bind_some,List.take_length]
  unfold CColl_Bytes_a_K3 recsB
  rw [List.append_assoc]
 ·unfold CColl_Bytes_a_L6
  have hf:=h _ (List.getElem_mem hj)
  have e : RRec_Bytes l[j] = some (rB l[j]):=by unfold RRec_Bytes; rw [chk_pos hf]; rfl
  have hb:=rB_len hf
  have hfl:=rBs_len (l.take j) fun r hr=>h r (List.mem_of_mem_take hr)
  have : (l.take j).length≤l.length:=by rw [List.length_take]; omega
  rw [idx_lt hj,Option.bind_some,e,Option.bind_some,PutBytes_eq _ _ (by omega) (by simp only [List.length_append]; omega) (by simp only [List.length_append]; omega),Option.bind_some,List.take_succ_eq_append_getElem hj,List.flatMap_append]
  simp [rBp]
theorem bytes_part (k : Nat) (hk : k≤100) (p : CPart) (hp : PB p) (o : List Int) (ho : o.length≤1099511627776) (P : List CPart) (hkp : k < P.length) (e : P[k] = p) : CColl_Bytes_a_L2 ⟨P⟩ k o = some (o++recsB (partRecs (k : Int) p)):=by
 have hne:=hp.ne
 have hnl:=hp.nl
 have hr:=hp.recs (k:=(k : Int)) ⟨by omega,by omega⟩
 unfold CColl_Bytes_a_L2
 dsimp only
 rw [idx_lt hkp,Option.bind_some,e,chk_pos (by simp only [apOk]; omega)]
 rw [foldM_spec (s0:=p.gentries) p.glost.length (fun j=>p.gentries++(p.glost.take j).map (lostR (k : Int))) (by simp) rfl (by omega) (fun j hj=>?_)]
 ·rw [Option.bind_some,List.take_length]
  unfold CColl_Bytes_a_K4
  unfold partRecs at hr ⊢
  by_cases hkn : p.gknown = true
  ·rw [if_pos hkn] at hr ⊢
   rw [chk_pos (by simp only [apOk,List.length_append,List.length_map,List.length_singleton]; omega),if_pos hkn]
   exact bytes_recs _ o hr.1 hr.2 ho
  ·rw [if_neg hkn] at hr ⊢
   rw [if_neg hkn]
   rw [List.append_nil] at hr ⊢
   exact bytes_recs _ o hr.1 hr.2 ho
 ·unfold CColl_Bytes_a_L7
  have hs:=hp.sp _ (List.getElem_mem hj)
  obtain ⟨h1,h2,h3⟩ := hs
  have w : IntKind.wrap .u64 (p.glost[j].gto - p.glost[j].gfrom) = p.glost[j].gto - p.glost[j].gfrom:=wrap_u64 (by omega) (by omega)
  rw [idx_lt hj,Option.bind_some,w,chk_pos (by simp only [apOk,List.length_append,List.length_map,List.length_take,List.length_singleton]; omega),List.take_succ_eq_append_getElem hj,List.map_append,List.append_assoc]
  rfl
theorem partsB_len : ∀ (P : List CPart) (k : Nat),(∀ p∈P,PB p)→k + P.length≤100→(partsB k P).length≤P.length * 13757317540
 | [],k,_,_=>by simp [partsB]
 | p :: P,k,h,hk=>by
  rw [List.length_cons] at hk
  rw [partsB,List.length_append,List.length_cons]
  have hr:=(h p (List.mem_cons_self ..)).recs (k:=(k : Int)) ⟨by omega,by omega⟩
  have:=recsB_len hr.1 (by omega)
  have:=partsB_len P (k + 1) (fun x hx=>h x (List.mem_cons_of_mem _ hx)) (by omega)
  omega
theorem bytes_coll (P : List CPart) (h : ∀ p∈P,PB p) (h1 : 1≤P.length) (hl : P.length≤9) : CColl_Bytes_a ⟨P⟩ = some (collB P):=by
 unfold CColl_Bytes_a CColl_Components_a
 dsimp only
 have w : IntKind.wrap .i64 ((List.length P : Int) - 1) = (P.length : Int) - 1:=wrap_i64 (by omega) (by omega)
 have hv : (if (IntKind.wrap .i64 ((List.length P : Int) - 1)) > 0 then (IntKind.wrap .i64 ((List.length P : Int) - 1)) else 0) = (P.length : Int) - 1:=by
  rw [w]; split <;> omega
 have w2 : IntKind.wrap .u64 ((P.length : Int) - 1) = (P.length : Int) - 1:=wrap_u64 (by omega) (by omega)
 have h10:=putU_ten (v:=(P.length : Int) - 1) (by omega)
 rw [hv,Option.bind_some,w2,PutUint_eq _ [] (by omega) (by omega) (by simp),Option.bind_some,List.nil_append]
 rw [foldM_spec (s0:=putU ((P.length : Int) - 1)) P.length (fun j=>putU ((P.length : Int) - 1)++partsB 0 (P.take j)) (by simp [partsB]) rfl (by omega) (fun j hj=>?_)]
 ·rw [Option.bind_some,List.take_length]; rfl
 ·have hp:=partsB_len (P.take j) 0 (fun p hp=>h p (List.mem_of_mem_take hp)) (by rw [List.length_take]; omega)
  have e : (P.take j).length = j:=by rw [List.length_take]; omega
  rw [e] at hp
  rw [bytes_part j (by omega) P[j] (h _ (List.getElem_mem hj)) _ (by rw [List.length_append]; omega) P hj rfl,List.take_succ_eq_append_getElem hj,partsB_add,e,Nat.zero_add,List.append_assoc]
theorem decU_n : ∀ (xs : List Int) (i : Nat) (acc v : Int) (n : Nat),decU i acc xs = some (v,n)→i < n∧n≤i + xs.length
 | [],i,acc,v,n,h=>by simp [decU] at h
 | b :: rest,i,acc,v,n,h=>by
  rw [decU.eq_2] at h
  rw [List.length_cons]
  split at h
  ·cases h
  ·split at h
   ·split at h
    ·cases h
    ·injection h with h; injection h with h1 h2; omega
   ·have:=decU_n rest (i + 1) _ v n h; omega
theorem RUint_eq (m : Int) (xs : List Int) (e : Int) (hx : ∀ b∈xs,Byt b) (hl : xs.length≤9223372036854775807) : num_Reader_Uint_a m ⟨xs,e⟩ = some (((⟨xs,e⟩ : Rd).uint m).1,⟨((⟨xs,e⟩ : Rd).uint m).2.xs,((⟨xs,e⟩ : Rd).uint m).2.err⟩):=by
 unfold num_Reader_Uint_a num_Reader_open_a Rd.uint
 dsimp only
 rw [Option.bind_some]
 by_cases he : e = 0
 ·subst he
  simp only [beq_self_eq_true,Bool.not_true,Bool.false_eq_true,if_false,ne_eq,not_true_eq_false]
  rw [Uint_eq xs hx hl,Option.bind_some]
  unfold uintD
  cases hd : decU 0 0 xs with
  | none=>
   dsimp only
   simp only [show ((6 : Int) == 0) = false from rfl,Bool.false_and,Bool.false_eq_true,if_false]
   unfold num_Reader_Uint_a_K1 num_Reader_take_a
   simp
  | some vn=>
   obtain ⟨v,n⟩ := vn
   have hn:=decU_n xs 0 0 v n hd
   dsimp only
   by_cases hm : m < v
   ·rw [if_pos (by simpa using hm),if_pos hm]
    unfold num_Reader_Uint_a_K1 num_Reader_take_a
    simp
   ·rw [if_neg (by simpa using hm),if_neg hm]
    unfold num_Reader_Uint_a_K1 num_Reader_take_a
    dsimp only
    rw [if_neg (by simp),chk_pos (by unfold slOk; omega)]
    simp
 ·rw [if_pos (by simp [he]),if_pos he]
theorem uint_u64 (m : Int) (xs : List Int) (e : Int) (hx : ∀ b∈xs,Byt b) : U64 ((⟨xs,e⟩ : Rd).uint m).1∧(∀ b∈((⟨xs,e⟩ : Rd).uint m).2.xs,Byt b)∧((⟨xs,e⟩ : Rd).uint m).2.xs.length≤xs.length:=by
 have z : U64 0 := ⟨by omega,by omega⟩
 unfold Rd.uint
 dsimp only
 split
 ·exact ⟨z,hx,Nat.le_refl _⟩
 ·split
  ·exact ⟨z,hx,Nat.le_refl _⟩
  ·rename_i v n hd
   split
   ·exact ⟨z,hx,Nat.le_refl _⟩
   ·exact ⟨decU_u64 xs 0 0 v n hx (by omega) (by omega) (by decide) hd,byt_drop hx n,by dsimp only; rw [List.length_drop]; omega⟩
theorem slc_eq {xs : List Int} {a b : Nat} : slc xs (a : Int) (b : Int) = (xs.take b).drop a:=by unfold slc; simp
theorem RBytes_any (xs : List Int) (e : Int) (hx : ∀ b∈xs,Byt b) (hl : xs.length≤70368744177664) : ∃ b xs' e',num_Reader_Bytes_a (xs.length : Int) ⟨xs,e⟩ = some (b,⟨xs',e'⟩)∧(∀ y∈b,Byt y)∧(∀ y∈xs',Byt y)∧b.length + xs'.length≤xs.length∧(b≠[]→xs'.length < xs.length):=by
 unfold num_Reader_Bytes_a num_Reader_open_a
 dsimp only
 rw [Option.bind_some]
 by_cases he : e = 0
 ·subst he
  rw [if_neg (by simp)]
  unfold num_Bytes
  rw [if_neg (by simp),Uint_eq xs hx (by omega),Option.bind_some]
  have w0 : IntKind.wrap .u64 (xs.length : Int) = (xs.length : Int):=wrap_u64 (by omega) (by omega)
  rw [w0]
  unfold uintD
  cases hd : decU 0 0 xs with
  | none=>
   dsimp only
   refine ⟨[],xs,6,?_,fun y hy=>(by cases hy),hx,by simp,fun h=>absurd rfl h⟩
   unfold num_Reader_take_a
   simp
  | some vn=>
   obtain ⟨v,n⟩ := vn
   have hn:=decU_n xs 0 0 v n hd
   have hv:=decU_u64 xs 0 0 v n hx (by omega) (by omega) (by decide) hd
   have hv0:=hv.1
   have w1 : IntKind.wrap .i64 ((xs.length : Int) - (n : Int)) = ((xs.length - n : Nat) : Int):=by rw [wrap_i64 (by omega) (by omega)]; omega
   have w2 : IntKind.wrap .u64 ((xs.length - n : Nat) : Int) = ((xs.length - n : Nat) : Int):=wrap_u64 (by omega) (by omega)
   dsimp only
   rw [if_neg (by simp)]
   by_cases c1 : (xs.length : Int) < v
   ·rw [if_pos (by simpa using c1),Option.bind_some]
    refine ⟨[],xs,3,?_,fun y hy=>(by cases hy),hx,by simp,fun h=>absurd rfl h⟩
    unfold num_Reader_take_a
    simp
   ·rw [if_neg (by simpa using c1),w1,w2]
    by_cases c2 : ((xs.length - n : Nat) : Int) < v
    ·rw [if_pos (by simpa using c2),Option.bind_some]
     refine ⟨[],xs,6,?_,fun y hy=>(by cases hy),hx,by simp,fun h=>absurd rfl h⟩
     unfold num_Reader_take_a
     simp
    ·have w3 : IntKind.wrap .i64 v = v:=wrap_i64 (by omega) (by omega)
     obtain ⟨k,rfl⟩ : ∃ k : Nat,v = (k : Int) := ⟨v.toNat,by omega⟩
     have w4 : IntKind.wrap .i64 ((n : Int) + (k : Int)) = ((n + k : Nat) : Int):=by rw [wrap_i64 (by omega) (by omega)]; omega
     have hln : n + k≤xs.length:=by omega
     have hsl : (slc xs (n : Int) ((n + k : Nat) : Int)).length = k:=by rw [slc_eq,List.length_drop,List.length_take]; omega
     rw [if_neg (by simpa using c2),w3,w4,chk_pos (by unfold slOk; omega),chk_pos (by simp only [apOk,List.length_nil,Nat.zero_add,hsl]; omega),Option.bind_some,List.nil_append]
     refine ⟨slc xs (n : Int) ((n + k : Nat) : Int),xs.drop (n + k),0,?_,?_,byt_drop hx _,?_,?_⟩
     ·unfold num_Reader_take_a
      dsimp only
      rw [if_neg (by simp),chk_pos (by unfold slOk; omega),Option.bind_some,Int.toNat_natCast]
      rfl
     ·rw [slc_eq]
      exact byt_drop (fun b hb=>hx b (List.mem_of_mem_take hb)) _
     ·rw [hsl,List.length_drop]; omega
     ·intro _; rw [List.length_drop]; omega
 ·rw [if_pos (by simp [he])]
  exact ⟨[],xs,e,rfl,fun y hy=>(by cases hy),hx,by simp,fun h=>absurd rfl h⟩
set_option maxHeartbeats 4000000
def array_2_uint16.cs (x : Nat→Int) : List DV:=[.int .u16 (x 0),.int .u16 (x 1)]
def w30_CollectReads_K1 (a8 : List Int) : Option Bool :=
 (collect_Read a8).bind fun v10=>
 match v10 with
 | .inl v10_0=>
  (CColl_Bytes_a v10_0).bind fun v13=>
  some ((strOfNums v13).toList == (strOfNums a8).toList)
 | .inr v10_1=>
  some true
def w30_CollectReads (x0 : Int) (x1 : List w30_File) (x2 : Nat→Int) : Option Bool :=
 (w30_collected x0 x1).bind fun v2=>
 match v2 with
 | .inl v2_0=>
  (w30_awake).bind fun v4=>
  if ((!v4) || false) = true then
   some false
  else
   (CColl_Bytes_a v2_0.1).bind fun v7=>
   if (decide (0 < (List.length v7 : Int))) = true then
    chk ((0 : Int)≤(IntKind.wrap .i64 (x2 0))∧(0 : Int) < (List.length v7 : Int))<|
    (idx v7 ((IntKind.wrap .i64 (x2 0)) % (List.length v7 : Int))).bind fun v17=>
    (idx v7 ((IntKind.wrap .i64 (x2 0)) % (List.length v7 : Int))).bind fun v19=>
    chk ((0 : Int)≤(IntKind.wrap .i64 (Int.fdiv (x2 1) (2 ^ min (Int.toNat 8) (IntKind.bits .u16))))∧(0 : Int) < 4)<|
    chk ((0 : Int)≤((IntKind.wrap .i64 (Int.fdiv (x2 1) (2 ^ min (Int.toNat 8) (IntKind.bits .u16)))) % 4)∧(0 : Int) < (IntKind.wrap .i64 ((List.length (List.set v7 (Int.toNat ((IntKind.wrap .i64 (x2 0)) % (List.length v7 : Int))) (bitI .xor .u8 v17 (IntKind.wrap .u8 (x2 1)))) : Int) + 1)))<|
    chk (slOk (List.length (List.set v7 (Int.toNat ((IntKind.wrap .i64 (x2 0)) % (List.length v7 : Int))) (bitI .xor .u8 v17 (IntKind.wrap .u8 (x2 1))))) 0 (IntKind.wrap .i64 ((List.length (List.set v7 (Int.toNat ((IntKind.wrap .i64 (x2 0)) % (List.length v7 : Int))) (bitI .xor .u8 v17 (IntKind.wrap .u8 (x2 1)))) : Int) - (((IntKind.wrap .i64 (Int.fdiv (x2 1) (2 ^ min (Int.toNat 8) (IntKind.bits .u16)))) % 4) % (IntKind.wrap .i64 ((List.length (List.set v7 (Int.toNat ((IntKind.wrap .i64 (x2 0)) % (List.length v7 : Int))) (bitI .xor .u8 v17 (IntKind.wrap .u8 (x2 1)))) : Int) + 1))))))<|
    w30_CollectReads_K1 (List.take (Int.toNat (IntKind.wrap .i64 ((List.length (List.set v7 (Int.toNat ((IntKind.wrap .i64 (x2 0)) % (List.length v7 : Int))) (bitI .xor .u8 v17 (IntKind.wrap .u8 (x2 1)))) : Int) - (((IntKind.wrap .i64 (Int.fdiv (x2 1) (2 ^ min (Int.toNat 8) (IntKind.bits .u16)))) % 4) % (IntKind.wrap .i64 ((List.length (List.set v7 (Int.toNat ((IntKind.wrap .i64 (x2 0)) % (List.length v7 : Int))) (bitI .xor .u8 v17 (IntKind.wrap .u8 (x2 1)))) : Int) + 1)))))) (List.set v7 (Int.toNat ((IntKind.wrap .i64 (x2 0)) % (List.length v7 : Int))) (bitI .xor .u8 v17 (IntKind.wrap .u8 (x2 1)))))
   else
    w30_CollectReads_K1 v7
 | .inr v2_1=>
  none
theorem w30_CollectReads_c {x0 : Int} {x1 : List w30_File} {x2 : Nat→Int} {r : Bool} (hM : w30_CollectReads x0 x1 x2 = some r) : PCall Tryz.prog 11 [.int .u8 x0,.sl 2 (List.map w30_File.dv x1),.agg (array_2_uint16.cs x2)] (.bool r):=by
 unfold w30_CollectReads at hM
 refine PCall.body Tryz.func11 Tryz.ntmps11 rfl rfl rfl rfl ?_
 refine a_seq (ar (.cons (o_box rfl rfl)<|.cons (o_assign rfl)<|.nil _) ?_)
 refine a_seq ?_
 obtain ⟨v2,h1,hM⟩ := of_bind hM
 rcases v2 with v2_0 | v2_1
 ·refine ar (.cons (o_move rfl)<|.cons (o_move rfl)<|.cons (o_callN (fun i=>bif Nat.beq i 50002 then 10003 else bif Nat.beq i 50001 then 10002 else bif Nat.beq i 50000 then 10001 else i) 3 (w30_collected_c0 h1) rfl (DLeL.refl _) .nil rfl .nil)<|.cons (o_move rfl)<|.cons (o_extract rfl rfl)<|.cons (o_extract rfl rfl)<|.cons (o_assign rfl)<|.cons (o_assign rfl)<|.nil _) ?_
  refine a_seq (a_seq ?_)
  obtain ⟨v4,h3,hM⟩ := of_bind hM
  refine ar (.cons (o_call (w30_awake_c h3) rfl (DLeL.refl _) rfl)<|.cons (o_not rfl)<|.cons (o_move rfl)<|.cons (o_guardG .bF rfl rfl (fun hb=>(.keep .nil)) (fun hb=>o_move rfl))<|.cons (o_guardG .bF rfl rfl (fun hb=>(.strip rfl hb .nil)) (fun hb=>o_ptr_eq rfl))<|.cons (o_or rfl rfl)<|.nil _) ?_
  refine a_cond _ rfl (fun h5=>?_) (fun h5=>?_)
  ·replace hM:=(of_if hM).1 h5
   refine a_seq (ar (.cons (o_assign rfl)<|.nil _) ?_)
   obtain rfl:=Option.some.inj hM
   exact a_ret (a_post (.r1 (.tmp rfl)) (DLe.refl _) PostOk.nil.spec)
  ·replace hM:=(of_if hM).2 h5
   refine a_skip (a_seq ?_)
   obtain ⟨v7,h6,hM⟩ := of_bind hM
   refine ar (.cons (o_move rfl)<|.cons (o_callN (fun i=>bif Nat.beq i 50000 then 25 else bif Nat.beq i 100000 then 10001 else bif Nat.beq i 100001 then 10002 else i) 1 (CColl_Bytes_a_c h6) rfl (DLeL.refl _) (.cons rfl (.cons rfl .nil)) rfl (.cons rfl (.cons rfl .nil)))<|.cons (o_assign rfl)<|.nil _) ?_
   refine a_cut (α:=(List Int)) (fun s=>⟨[(9,.sl 1 (List.map (DV.int .u8) s))],[],[]⟩) (fun s=>w30_CollectReads_K1 s = some r) ?_ ?_
   ·refine a_seq (ar (.cons (o_move rfl)<|.cons (t_len_r rfl rfl)<|.cons (o_int rfl rfl rfl)<|.nil _) ?_)
    refine a_cond _ rfl (fun h14=>?_) (fun h14=>?_)
    ·replace hM:=(of_if hM).1 h14
     refine a_seq ?_
     obtain ⟨h15,hM⟩ := of_chk hM
     obtain ⟨v17,h16,hM⟩ := of_bind hM
     obtain ⟨v19,h18,hM⟩ := of_bind hM
     refine ad mixed (.cons (o_move rfl)<|.cons (o_indexAddr_a 0 rfl rfl rfl (by decide))<|.cons (o_load_s rfl rfl rfl)<|.cons (o_conv_w rfl)<|.cons (o_move rfl)<|.cons (t_len_r rfl rfl)<|.cons (o_rem rfl rfl h15)<|.cons (t_index_r h16 rfl rfl rfl)<|.cons (t_load_ps h16 rfl rfl rfl rfl)<|.cons (o_indexAddr_a 1 rfl rfl rfl (by decide))<|.cons (o_load_s rfl rfl rfl)<|.cons (o_conv_w rfl)<|.cons (o_int rfl rfl rfl)<|.cons (t_index_r h18 rfl rfl rfl)<|.cons (t_store_p (bitI .xor .u8 v17 (IntKind.wrap .u8 (x2 1))) h18 rfl rfl rfl rfl rfl rfl rfl rfl rfl rfl rfl)<|.nil _) ?_
     refine a_imp (Imp.freeze (id:=25) rfl) ?_
     obtain ⟨h20,hM⟩ := of_chk hM
     obtain ⟨h21,hM⟩ := of_chk hM
     obtain ⟨h22,hM⟩ := of_chk hM
     refine ar (.cons (o_move rfl)<|.cons (o_move rfl)<|.cons (t_len rfl)<|.cons (o_indexAddr_a 1 rfl rfl rfl (by decide))<|.cons (o_load_s rfl rfl rfl)<|.cons (o_shr rfl rfl (by decide))<|.cons (o_conv_w rfl)<|.cons (o_rem rfl rfl h20)<|.cons (o_move rfl)<|.cons (t_len rfl)<|.cons (o_int rfl rfl rfl)<|.cons (o_rem rfl rfl h21)<|.cons (o_int rfl rfl rfl)<|.cons (t_slice_h h22 rfl rfl)<|.cons (o_assign rfl)<|.nil _) ?_
     exact ⟨(List.take (Int.toNat (IntKind.wrap .i64 ((List.length (List.set v7 (Int.toNat ((IntKind.wrap .i64 (x2 0)) % (List.length v7 : Int))) (bitI .xor .u8 v17 (IntKind.wrap .u8 (x2 1)))) : Int) - (((IntKind.wrap .i64 (Int.fdiv (x2 1) (2 ^ min (Int.toNat 8) (IntKind.bits .u16)))) % 4) % (IntKind.wrap .i64 ((List.length (List.set v7 (Int.toNat ((IntKind.wrap .i64 (x2 0)) % (List.length v7 : Int))) (bitI .xor .u8 v17 (IntKind.wrap .u8 (x2 1)))) : Int) + 1)))))) (List.set v7 (Int.toNat ((IntKind.wrap .i64 (x2 0)) % (List.length v7 : Int))) (bitI .xor .u8 v17 (IntKind.wrap .u8 (x2 1))))),hM,(Imp.sh (fun i=>i) rfl rfl rfl rfl rfl rfl)⟩
    ·replace hM:=(of_if hM).2 h14
     refine a_skip ?_
     exact ⟨v7,hM,((Imp.freeze (id:=25) rfl).trans (Imp.sh (fun i=>i) rfl rfl rfl rfl rfl rfl))⟩
   ·rintro a8 hM
    replace hM : w30_CollectReads_K1 a8 = some r:=hM
    unfold w30_CollectReads_K1 at hM
    refine a_seq ?_
    obtain ⟨v10,h9,hM⟩ := of_bind hM
    rcases v10 with v10_0 | v10_1
    ·refine ar (.cons (o_move rfl)<|.cons (o_callN (fun i=>bif Nat.beq i 50001 then 10005 else bif Nat.beq i 50000 then 10004 else i) 2 (collect_Read_c0 h9) rfl (DLeL.refl _) .nil rfl .nil)<|.cons (o_move rfl)<|.cons (o_extract rfl rfl)<|.cons (o_extract rfl rfl)<|.cons (o_assign rfl)<|.cons (o_assign rfl)<|.nil _) ?_
     refine a_seq (a_seq (ar (.cons (o_move rfl)<|.cons (o_int rfl rfl rfl)<|.nil _) ?_))
     refine a_cond _ rfl (fun c=>by cases c) (fun _=>?_)
     refine a_skip (a_seq ?_)
     obtain ⟨v13,h12,hM⟩ := of_bind hM
     refine ad mixed (.cons (o_move rfl)<|.cons (o_callN (fun i=>bif Nat.beq i 50000 then 71 else bif Nat.beq i 100000 then 10004 else bif Nat.beq i 100001 then 10005 else i) 1 (CColl_Bytes_a_c h12) rfl (DLeL.refl _) (.cons rfl (.cons rfl .nil)) rfl (.cons rfl (.cons rfl .nil)))<|.cons (o_b2s v13 rfl (Src.row rfl))<|.cons (o_move rfl)<|.cons (o_b2s a8 rfl Src.sl)<|.cons (o_streq rfl rfl)<|.cons (o_assign rfl)<|.nil _) ?_
     obtain rfl:=Option.some.inj hM
     exact a_ret (a_post (.r1 (.tmp rfl)) (DLe.refl _) PostOk.nil.spec)
    ·refine ar (.cons (o_move rfl)<|.cons (o_callN (fun i=>i) 0 (collect_Read_c1 h9) rfl (DLeL.refl _) .nil rfl .nil)<|.cons (o_move rfl)<|.cons (o_extract rfl rfl)<|.cons (o_extract rfl rfl)<|.cons (o_assign rfl)<|.cons (o_assign rfl)<|.nil _) ?_
     refine a_seq (a_seq (ar (.cons (o_move rfl)<|.cons (o_int rfl rfl rfl)<|.nil _) ?_))
     refine a_cond _ rfl (fun _=>?_) (fun c=>by cases c)
     refine a_seq (ar (.cons (o_move rfl)<|.cons (o_int rfl rfl rfl)<|.cons (o_move rfl)<|.cons (o_guardOn .bT rfl rfl rfl (.keep .nil) (o_move rfl))<|.cons (o_guardOn .bT rfl rfl rfl (.strip rfl rfl .nil) (o_nil_eq rfl))<|.cons (o_and rfl rfl)<|.cons (o_assign rfl)<|.nil _) ?_)
     obtain rfl:=Option.some.inj hM
     exact a_ret (a_post (.r1 (.tmp rfl)) (DLe.refl _) PostOk.nil.spec)
 ·cases hM
set_option maxHeartbeats 1000000
theorem recOk_read {b : List Int} {y : Re} (hb : ∀ x∈b,Byt x) (hl : b.length≤4611686018427387904) (h : readRec b = some y) : RecOk (ofRe y):=by
 obtain ⟨hv,_,hT,ha⟩ := readRec_ok hb hl h
 refine ⟨fits_ofRe hT ha,fun h2=>?_⟩
 have w2 : y.what = 2:=h2
 unfold validB okWhat at hv
 rw [if_neg (by omega),if_pos w2] at hv
 simp only [Bool.and_eq_true,decide_eq_true_eq] at hv
 have h1:=hv.1.1.2
 have h3:=hv.1.2
 show 0 < y.count∧y.seq + y.count≤18446744073709551615
 omega
theorem record_any (b : List Int) (hb : ∀ x∈b,Byt x) (hl : b.length≤140737488355328) : (∃ r e,record_Read b = some (r,e)∧e≠0)∨∃ y,readRec b = some y∧record_Read b = some (ofRe y,0)∧RecOk (ofRe y):=by
 have hbo : bytOk b = true:=by
  unfold bytOk
  simp only [Bool.and_eq_true,List.all_eq_true,okI_iff,InR,decide_eq_true_eq]
  exact ⟨fun x hx=>hb x hx,hl⟩
 unfold record_Read
 rw [chk_pos hbo]
 cases h : readRec b with
 | none=>exact .inl ⟨_,6,rfl,by decide⟩
 | some y=>exact .inr ⟨y,rfl,rfl,recOk_read hb (by omega) h⟩
theorem endOf_rng : ∀ (l : List Rk),(∀ r∈l,RecOk r)→0≤(endOf l).2∧(endOf l).2≤18446744073709551615
 | [],_=>by unfold endOf; simp
 | q :: l,h=>by
  unfold endOf
  split
  ·have:=fits_seq (h q (List.mem_cons_self ..)).fits
   dsimp only; omega
  ·exact endOf_rng l fun r hr=>h r (List.mem_cons_of_mem _ hr)
theorem PB0 : PB part0 := ⟨fun r hr=>(by cases hr),fun s hs=>(by cases hs),by decide,by decide,by decide⟩
theorem readPart_any (c : Int) (xs : List Int) (e : Int) (hx : ∀ b∈xs,Byt b) (hl : xs.length≤4194304) : ∃ p ok xs' e',collect_readPart_a c ⟨xs,e⟩ = some (p,ok,⟨xs',e'⟩)∧(∀ b∈xs',Byt b)∧xs'.length≤xs.length∧PB p:=by
 have hu:=uint_u64 18446744073709551615 xs e hx
 unfold collect_readPart_a
 rw [RUint_eq _ xs e hx (by omega),Option.bind_some]
 dsimp only
 generalize ((⟨xs,e⟩ : Rd).uint 18446744073709551615) = u at hu ⊢
 obtain ⟨n,⟨ys,er⟩⟩ := u
 dsimp only at hu ⊢
 obtain ⟨hn,hy,hyl⟩ := hu
 unfold U64 at hn
 have hInd:=whileM_ind (S:=(List RRec) × Int × (List Int) × Int) (E:=((List RRec) × (List Int) × Int) ⊕ (CPart × Bool × num_Reader)) (step:=fun s=>collect_readPart_a_L2 s.1 s.2.1 s.2.2.1 s.2.2.2) (s0:=(([] : List RRec),n,ys,er))
  (fun s=>(∀ r∈s.1,RecOk r)∧s.1.length + s.2.2.1.length≤xs.length∧(∀ b∈s.2.2.1,Byt b)∧0≤s.2.1∧s.2.1 < 18446744073709551616)
  (fun s=>s.2.1.toNat)
  (fun t=>match t with
   | .inl w=>(∀ r∈w.1,RecOk r)∧w.1.length + w.2.1.length≤xs.length∧(∀ b∈w.2.1,Byt b)
   | .inr w=>w.1 = part0∧(∀ b∈w.2.2.gp,Byt b)∧w.2.2.gp.length≤xs.length)
  ⟨fun r hr=>(by cases hr),by simpa using hyl,hy,hn⟩ (by (try dsimp only); omega) ?_
 ·obtain ⟨t,h1,h2⟩ := hInd
  rw [h1,Option.bind_some]
  cases t with
  | inr w=>
   obtain ⟨p,ok,⟨gp,ge⟩⟩ := w
   dsimp only at h2 ⊢
   exact ⟨p,ok,gp,ge,rfl,h2.2.1,h2.2.2,by rw [h2.1]; exact PB0⟩
  | inl w=>
   obtain ⟨l,zs,er2⟩ := w
   dsimp only at h2 ⊢
   obtain ⟨g1,g2,g3⟩ := h2
   unfold collect_readPart_a_K1 num_Reader_Err_a
   dsimp only
   rcases partOf_spec l c (by omega) g1 with ⟨_,hp⟩ | ⟨hf,hp⟩
   ·rw [hp,Option.bind_some]
    exact ⟨part0,false,zs,er2,rfl,g3,by omega,PB0⟩
   ·rw [hp,Option.bind_some]
    simp only [Bool.not_true,Bool.not_false,gb,if_true,Option.bind_some,Bool.false_or]
    by_cases he : er2 = 0
    ·rw [if_neg (by simp [he])]
     have hW:=partRaw_W (l:=l) (by omega) g1
     have hW0 : PW part0 := ⟨fun r hr=>(by cases hr),fun s hs=>(by cases hs),by decide,by decide,by decide⟩
     have hraw1 : (partRaw l).gentries.length≤l.length:=List.length_filter_le _ _
     have hraw2 : (partRaw l).glost.length≤l.length:=by
      show (lostOf l).length≤_
      unfold lostOf; rw [List.length_map]; exact List.length_filter_le _ _
     have hraw3:=endOf_rng l g1
     rcases merge_spec part0 (partRaw l) hW0 hW with ⟨_,hm⟩ | ⟨_,m,hm,hM⟩
     ·rw [show CPart.mk [] [] false 0 = part0 from rfl,hm,Option.bind_some]
      exact ⟨part0,false,zs,er2,rfl,g3,by omega,PB0⟩
     ·rw [show CPart.mk [] [] false 0 = part0 from rfl,hm,Option.bind_some]
      have q1:=hM.ne
      have q2:=hM.nl
      have z1 : part0.gentries.length = 0:=rfl
      have z2 : part0.glost.length = 0:=rfl
      refine ⟨m,true,zs,er2,rfl,g3,by omega,⟨fun r hr=>?_,hM.sp,by omega,by omega,?_⟩⟩
      ·have:=hM.sub r hr
       unfold both at this
       rcases List.mem_append.1 this with h | h
       ·cases h
       ·exact hW.fits r h
      ·rw [hM.tot]
       unfold totB
       have z3 : part0.gtotal = 0:=rfl
       have z4 : (partRaw l).gtotal = (endOf l).2:=rfl
       rw [z3,z4]
       split <;> omega
    ·rw [if_pos (by simp [he])]
     exact ⟨part0,false,zs,er2,rfl,g3,by omega,PB0⟩
 ·rintro ⟨l,k,zs,er2⟩ ⟨g1,g2,g3,g4,g5⟩
  dsimp only at g1 g2 g3 g4 g5 ⊢
  unfold collect_readPart_a_L2 num_Reader_Err_a num_Reader_Left_a
  dsimp only
  by_cases hk : 0 < k∧er2 = 0
  ·have hd : decide ((0 : Int) < k) = true:=by simpa using hk.1
   rw [hd]
   simp only [gb,if_true,Option.bind_some,hk.2,beq_self_eq_true,Bool.and_self]
   obtain ⟨b,xs',e',a1,a2,a3,a4,a5⟩ := RBytes_any zs 0 g3 (by omega)
   rw [a1,Option.bind_some]
   dsimp only
   rcases record_any b a2 (by omega) with ⟨r,e3,h1,h2⟩ | ⟨y,h1,h2,h3⟩
   ·rw [h1,Option.bind_some,if_pos (by simpa using h2)]
    exact .inr ⟨_,rfl,rfl,a3,by dsimp only; omega⟩
   ·rw [h2,Option.bind_some,if_neg (by simp),chk_pos (by simp only [apOk,List.length_singleton]; omega)]
    have hne : b≠[]:=by
     rintro rfl
     rw [readRec_nil] at h1; cases h1
    have:=a5 hne
    have w : IntKind.wrap .u64 (k - 1) = k - 1:=wrap_u64 (by omega) (by omega)
    refine .inl ⟨_,rfl,⟨fun r hr=>?_,?_,a3,by rw [w]; (try dsimp only); omega,by rw [w]; (try dsimp only); omega⟩,?_⟩
    ·rcases List.mem_append.1 hr with h | h
     ·exact g1 r h
     ·rw [List.mem_singleton] at h; rw [h]; exact h3
    ·dsimp only; rw [List.length_append,List.length_singleton]; omega
    ·(try dsimp only); rw [w]; (try dsimp only); omega
  ·have hd : ((decide ((0 : Int) < k)) && ((if decide ((0 : Int) < k) = true then er2 else 0) == 0)) = false:=by
    rw [Bool.eq_false_iff]
    simp only [ne_eq,Bool.and_eq_true,decide_eq_true_eq,beq_iff_eq]
    rintro ⟨h1,h2⟩
    rw [if_pos h1] at h2
    exact hk ⟨h1,h2⟩
   have hg : gb (decide ((0 : Int) < k)) 0 (some er2) = some (if decide ((0 : Int) < k) = true then er2 else 0):=by
    unfold gb; split <;> rfl
   rw [hg,Option.bind_some,if_neg (by rw [hd]; decide)]
   exact .inr ⟨_,rfl,g1,g2,g3⟩
theorem Rel.PB {c : Int} {p : CPart} {K : Kn} (h : Rel (GE c) p K) : PB p:=by
 have h1:=h.ne
 have h2:=h.nl
 have h3:=h.rng
 refine ⟨fun r hr=>(good_GE c).fits r (h.good r hr).1,h.sp,by omega,by omega,?_⟩
 rw [h.tot]; split <;> omega
theorem part_len {c : Int} {p : CPart} {K : Kn} (h : Rel (GE c) p K) : (partRecs c p).length≤97:=by
 have h1:=h.ne
 have h2:=h.nl
 unfold partRecs
 rw [List.length_append,List.length_append,List.length_map]
 split <;> simp <;> omega
theorem rBs_byt {l : List Rk} (h : ∀ r∈l,reFits r = true) : ∀ b∈l.flatMap rBp,Byt b:=by
 intro b hb
 obtain ⟨r,hr,hb⟩ := List.mem_flatMap.1 hb
 unfold rBp at hb
 rcases List.mem_append.1 hb with h1 | h1
 ·exact putU_byt (by omega) b h1
 ·exact recBytes_byt (reFits_T (h r hr)).1 b h1
theorem recsB_byt {l : List Rk} (h : ∀ r∈l,reFits r = true) : ∀ b∈recsB l,Byt b:=by
 intro b hb
 unfold recsB at hb
 rcases List.mem_append.1 hb with h1 | h1
 ·exact putU_byt (by omega) b h1
 ·exact rBs_byt h b h1
theorem parts_ok : ∀ (P : List CPart) (k : Nat),k + P.length≤100→(∀ (i : Nat) (h : i < P.length),∃ K,Rel (GE ((k + i : Nat) : Int)) P[i] K)→(partsB k P).length≤P.length * 39780∧∀ b∈partsB k P,Byt b
 | [],k,_,_=>⟨by simp [partsB],fun b hb=>by simp [partsB] at hb⟩
 | p :: P,k,hk,h=>by
  rw [List.length_cons] at hk
  obtain ⟨K,hK⟩ := h 0 (by simp)
  have hK : Rel (GE ((k : Nat) : Int)) p K:=hK
  obtain ⟨a,b⟩ := parts_ok P (k + 1) (by omega) fun i hi=>by
   have:=h (i + 1) (by simpa using hi)
   rw [show k + 1 + i = k + (i + 1) by omega]
   exact this
  have hr:=hK.PB.recs (k:=(k : Int)) ⟨by omega,by omega⟩
  have hl:=part_len hK
  have hs:=recsB_len hr.1 (by omega)
  refine ⟨?_,fun x hx=>?_⟩
  ·rw [partsB,List.length_append,List.length_cons]
   omega
  ·rw [partsB] at hx
   rcases List.mem_append.1 hx with h1 | h1
   ·exact recsB_byt hr.1 x h1
   ·exact b x h1
theorem coll_ok {n : Nat} (hn : n≤8) {P : List CPart} {Ks : List Kn} (h : Inv n P Ks) : (collB P).length≤400000∧(∀ b∈collB P,Byt b)∧CColl_Bytes_a ⟨P⟩ = some (collB P):=by
 have hl:=h.len
 have hk:=h.lenK
 obtain ⟨a,b⟩ := parts_ok P 0 (by omega) fun i hi=>⟨_,by rw [Nat.zero_add]; exact h.rel i hi (by omega)⟩
 have h10:=putU_ten (v:=(P.length : Int) - 1) (by omega)
 refine ⟨?_,fun x hx=>?_,bytes_coll P (fun p hp=>?_) (by omega) (by omega)⟩
 ·unfold collB
  rw [List.length_append]
  have : P.length * 39780≤9 * 39780:=Nat.mul_le_mul_right _ (by omega)
  omega
 ·unfold collB at hx
  rcases List.mem_append.1 hx with h1 | h1
  ·exact putU_byt (by omega) x h1
  ·exact b x h1
 ·obtain ⟨i,hi,rfl⟩ := List.getElem_of_mem hp
  exact (h.rel i hi (by omega)).PB
theorem Read_any (xs : List Int) (hx : ∀ b∈xs,Byt b) (hl : xs.length≤4194304) : collect_Read xs = some (.inr ())∨∃ P b,collect_Read xs = some (.inl ⟨P⟩)∧CColl_Bytes_a ⟨P⟩ = some b∧((strOfNums b).toList == (strOfNums xs).toList) = true:=by
 unfold collect_Read num_NewReader
 rw [chk_pos (by simp only [apOk,List.length_nil,Nat.zero_add]; omega),Option.bind_some,List.nil_append,RUint_eq _ xs 0 hx (by omega),Option.bind_some]
 have hu:=uint_u64 8 xs 0 hx
 generalize ((⟨xs,0⟩ : Rd).uint 8) = u at hu ⊢
 obtain ⟨v,⟨ys,er⟩⟩ := u
 dsimp only at hu ⊢
 generalize IntKind.wrap .i64 v = w
 by_cases hw : 1≤w∧w≤8
 ·obtain ⟨n,rfl⟩ : ∃ n : Nat,w = n := ⟨w.toNat,by omega⟩
  rw [new_eq n (by omega),Option.bind_some]
  dsimp only
  have hInd:=forM_ind (S:=(List Int) × Int × (List CPart)) (E:=(CColl) ⊕ (Unit)) (mx:=9223372036854775807) (n:=(List.length (List.replicate (n + 1) part0) : Int)) (body:=fun k18 s=>collect_Read_L2 k18 s.1 s.2.1 s.2.2) (s0:=(ys,er,List.replicate (n + 1) part0))
   (fun k s=>(∀ b∈s.1,Byt b)∧s.1.length≤4194304∧s.2.2.length = n + 1∧∀ p∈s.2.2,PB p)
   (fun t=>match t with
    | .next s=>s.2.2.length = n + 1∧∀ p∈s.2.2,PB p
    | .done r=>r = .inr ())
   (by rw [List.length_replicate]; omega) (by omega) ⟨hu.2.1,by (try dsimp only); omega,List.length_replicate ..,fun p hp=>by rw [List.eq_of_mem_replicate hp]; exact PB0⟩ ?_ ?_
  ·obtain ⟨t,t1,t2⟩ := hInd
   rw [t1,Option.bind_some]
   cases t with
   | done r=>dsimp only at t2 ⊢; rw [t2]; exact .inl rfl
   | next s=>
    obtain ⟨zs,e2,P⟩ := s
    dsimp only at t2 ⊢
    have hb:=bytes_coll P t2.2 (by omega) (by omega)
    obtain ⟨v12,hv⟩ : ∃ v12,num_Reader_End_a ⟨zs,e2⟩ = some v12:=by
     unfold num_Reader_End_a num_Reader_Err_a
     rw [Option.bind_some]
     split <;> exact ⟨_,rfl⟩
    unfold collect_Read_K1
    rw [hv,Option.bind_some]
    by_cases h0 : v12 = 0
    ·rw [if_pos (by simp [h0]),hb,Option.bind_some]
     unfold bytes_Equal
     rw [Option.bind_some]
     by_cases he : ((strOfNums (collB P)).toList == (strOfNums xs).toList) = true
     ·rw [if_neg (by rw [he]; simp [h0])]
      exact .inr ⟨P,_,rfl,hb,he⟩
     ·rw [if_pos (by rw [Bool.not_eq_true] at he; rw [he]; simp)]
      exact .inl rfl
    ·rw [if_neg (by simp [h0]),if_pos (by simp [h0])]
     exact .inl rfl
  ·rintro k ⟨zs,e2,P⟩ hk ⟨i1,i2,i3,i4⟩
   dsimp only at i1 i2 i3 i4 ⊢
   rw [List.length_replicate] at hk
   have hk' : k < P.length:=by omega
   obtain ⟨p,ok,zs',e',r1,r2,r3,r4⟩ := readPart_any (k : Int) zs e2 i1 i2
   unfold collect_Read_L2
   rw [r1,Option.bind_some,idx_lt hk',Option.bind_some]
   cases ok with
   | false=>exact .inr ⟨.inr (),rfl,rfl⟩
   | true=>
    refine .inl ⟨_,rfl,r2,by (try dsimp only); omega,by (try dsimp only); rw [List.length_set]; exact i3,fun q hq=>?_⟩
    rcases List.mem_or_eq_of_mem_set hq with h | h
    ·exact i4 q h
    ·rw [h]; exact r4
  ·rintro ⟨zs,e2,P⟩ ⟨_,_,i3,i4⟩
   exact ⟨i3,i4⟩
 ·have hnew : collect_New w = some (.inr ()):=by
   unfold collect_New
   rw [if_pos (by simp only [Bool.or_eq_true,decide_eq_true_eq]; omega)]
  rw [hnew]
  exact .inl rfl
theorem reads_K1 (ys : List Int) (hx : ∀ b∈ys,Byt b) (hl : ys.length≤4194304) : w30_CollectReads_K1 ys = some true:=by
 unfold w30_CollectReads_K1
 rcases Read_any ys hx hl with h | ⟨P,b,h,hb,he⟩
 ·rw [h]; rfl
 ·rw [h,Option.bind_some]
  dsimp only
  rw [hb,Option.bind_some,he]
theorem bit_u8R (op : BinOp) (x y : Int) : Byt (bitI op .u8 x y):=by
 have w : ∀ z : Int,Byt (IntKind.wrap .u8 z):=fun z=>by
  rw [wrap_u8m]
  exact ⟨by omega,by omega⟩
 unfold bitI
 split <;> exact w _
theorem reads_law (x0 : Int) (x1 : List Fi) (x2 : Nat→Int) (hx : 0≤x0∧x0≤255) (h1 : ∀ f∈x1,FileOk f) (ha : 0≤x2 0∧x2 0≤65535) (hc : 0≤x2 1∧x2 1≤65535) : w30_CollectReads x0 x1 x2 = some true:=by
 have hn : 1≤nOf x0∧nOf x0≤8:=by unfold nOf; omega
 obtain ⟨φ,hφ⟩ := files_fun (nOf x0) hn
 obtain ⟨P,Ks,Rs,p1,p2,p3⟩ := collected2 x0 hx hφ x1 h1
 obtain ⟨c1,c2,c3⟩ := coll_ok hn.2 p2.inv
 unfold w30_CollectReads
 rw [p1,Option.bind_some]
 dsimp only
 rw [awake30,Option.bind_some]
 simp only [Bool.not_true,Bool.or_self,Bool.false_eq_true,if_false]
 rw [c3,Option.bind_some]
 generalize collB P = b at c1 c2 ⊢
 by_cases h0 : 0 < b.length
 ·rw [if_pos (by simpa using h0)]
  have wa : IntKind.wrap .i64 (x2 0) = x2 0:=wrap_i64 (by omega) (by omega)
  have hf : Int.fdiv (x2 1) (2 ^ min (Int.toNat 8) (IntKind.bits .u16)) = x2 1 / 256:=by
   have : (2 : Int) ^ min (8 : Int).toNat IntKind.u16.bits = 256:=rfl
   rw [this,Int.fdiv_eq_ediv_of_nonneg _ (by omega)]
  have wf : IntKind.wrap .i64 (x2 1 / 256) = x2 1 / 256:=wrap_i64 (by omega) (by omega)
  have m1:=Int.emod_nonneg (x2 0) (show (b.length : Int)≠0 by omega)
  have m2:=Int.emod_lt_of_pos (x2 0) (show (0 : Int) < (b.length : Int) by omega)
  obtain ⟨j,hj⟩ : ∃ j : Nat,x2 0 % (b.length : Int) = (j : Int) := ⟨(x2 0 % (b.length : Int)).toNat,by omega⟩
  have hjl : j < b.length:=by omega
  rw [wa,hf,wf,hj,chk_pos ⟨by omega,by omega⟩,idx_lt hjl,Option.bind_some,Option.bind_some,chk_pos ⟨by omega,by omega⟩,Int.toNat_natCast]
  generalize hB : List.set b j (bitI .xor .u8 b[j] (IntKind.wrap .u8 (x2 1))) = B
  have hBl : B.length = b.length:=by rw [← hB,List.length_set]
  have hBb : ∀ x∈B,Byt x:=fun x hx=>by
   rw [← hB] at hx
   rcases List.mem_or_eq_of_mem_set hx with h | h
   ·exact c2 x h
   ·rw [h]; exact bit_u8R _ _ _
  have w1 : IntKind.wrap .i64 ((B.length : Int) + 1) = (B.length : Int) + 1:=wrap_i64 (by omega) (by omega)
  have q1:=Int.emod_nonneg (x2 1 / 256 % 4) (show (B.length : Int) + 1≠0 by omega)
  have q2:=Int.emod_lt_of_pos (x2 1 / 256 % 4) (show (0 : Int) < (B.length : Int) + 1 by omega)
  have w2 : IntKind.wrap .i64 ((B.length : Int) - x2 1 / 256 % 4 % ((B.length : Int) + 1)) = (B.length : Int) - x2 1 / 256 % 4 % ((B.length : Int) + 1):=wrap_i64 (by omega) (by omega)
  rw [w1,w2,chk_pos ⟨by omega,by omega⟩,chk_pos (by unfold slOk; omega)]
  exact reads_K1 _ (fun x hx=>hBb x (List.mem_of_mem_take hx)) (by rw [List.length_take]; omega)
 ·rw [if_neg (by simpa using h0)]
  exact reads_K1 _ c2 (by omega)
end Go.Proofs.YtepkcbalmjnhpaaGreat
