/-
  What the claim leans on, part 13.
-/
import Derived.Test.YtepkcbalmjnhpaaGreatCBy12
import Derived.Laws.BytesArg
set_option linter.unusedVariables false
set_option linter.unusedSimpArgs false
namespace Go.Proofs.YtepkcbalmjnhpaaGreat
open Go.RowKit
class TStr (P : Program) (t : TypeId) : Prop where
 h : P.underlying t = some .string
section
variable {P : Program} {ops : Array Oper} {σ : AS} {t ty : Nat} {pos : String} {af : Array Edge}
theorem rsE_u8 {F : FMap} : ∀ (xs : List Int) (vs : List Value),RsE F 1 (xs.map (DV.int .u8)) vs→vs = xs.map (Value.int .u8)
 | [],vs,h=>by simp only [List.map_nil,RsE] at h; rw [h]; rfl
 | x :: xs,vs,h=>by
  simp only [List.map_cons,RsE] at h
  obtain ⟨v,rest,h1,h2,h3,h4,h5⟩ := h
  simp only [Rs] at h4
  subst h4
  rw [h1,rsE_u8 xs rest h5]
  rfl
theorem o_b2s {S T e : TypeId} {bytes : Nat} {zd : DV} [hS : CSl P S e 1 bytes zd] [hE : TInt P e .u8] [hT : TStr P T] {x : Operand} {d : DV} {rh : List Nat} (xs : List Int) (hx : ev σ.env x = some d) (hR : Src σ 1 d (xs.map (DV.int .u8)) rh) :
  OpG P ops ⟨some t,.convert S T x,ty,pos,af,none⟩ (tm x) rh σ ⟨[(t,.str (strOfNums xs))],[],[]⟩ :=
 OpG.val rfl rfl fun C F γ σ' a w h1 h2 hs=>by
  have k1:=hs.ev ((ev_agree h1 (fun _ h=>h)).trans hx)
  obtain ⟨A,c,vs,ee,hat,hEl⟩ := hR.read hs h2 k1
  have hv:=rsE_u8 xs vs hEl
  subst hv
  rw [List.length_map] at ee
  refine ⟨.string (strOfNums xs),?_,by simp only [Rs]⟩
  have key : (convert S T (.slice A xs.length c)).run P w = .ok (.string (strOfNums xs)) w:=by
   by_cases hne : xs = []
   ·subst hne
    cases A with
    | none=>exact run_convert_bytes_nil w S e hS.und hE.h _ _ T hT.h
    | some p=>
     have hl : (loadCells p 0).run P w = .ok ((([] : List Int)).map (Value.int .u8)).toArray w:=run_loadCells_list (P:=P) w p [] (fun j v hj=>by simp at hj)
     simp only [List.length_nil]
     rw [run_convert_bytes_string w S T e _ 0 c hS.und hE.h hT.h,run_bytesToString w _ 0 c [] hl,foldl_push_bytes]
     rfl
   ·obtain ⟨b,o,rfl,hr⟩ := hat.elim (by simp [hne])
    exact run_convert_bytes_arg w S e hS.und hE.h b o xs.length c xs rfl (fun i hi=>by
     have:=hr i (.int .u8 (xs.getD i 0)) (by simp [List.getD,List.getElem?_eq_getElem hi])
     exact this) T hT.h
  simp only [execOp,ee,key,Sem.run_bind,Sem.run_pure,Result.andThen_ok]
theorem o_streq {T T' : TypeId} {x y : Operand} {a b : ByteArray} (hx : ev σ.env x = some (.str a)) (hy : ev σ.env y = some (.str b)) :
  OpG P ops ⟨some t,.binOp .eql T x y T',ty,pos,af,none⟩ (tm x++tm y) [] σ ⟨[(t,.bool (a.toList == b.toList))],[],[]⟩ :=
 OpG.val rfl rfl fun C F γ σ' ac w h1 _ hs=>by
  obtain ⟨k1,k2⟩ := ev2 hs h1 hx hy
  simp only [Rs] at k1 k2
  have e2 : eqGuard .eql T x y (.string a) (.string b) = pure ():=rfl
  exact ⟨.bool (a.toList == b.toList),by simp only [execOp,k1,k2,binOp_string_eql,e2,Sem.run_bind,Sem.run_pure,Result.andThen_ok],by simp only [Rs]⟩
end
set_option maxRecDepth 100000
instance : TStr Tryz.prog 9 := ⟨by kernel_rfl⟩
instance : TStr Tryz.prog 10 := ⟨by kernel_rfl⟩
instance : TStr Tryz.prog 11 := ⟨by kernel_rfl⟩
set_option maxHeartbeats 4000000
structure num_Reader where
 gp : List Int
 gerr : Int
def num_Reader.cs (x : num_Reader) : List DV:=[.sl 1 (List.map (DV.int .u8) x.gp),.int .i64 x.gerr]
def num_NewReader (x0 : List Int) : Option num_Reader :=
 chk (apOk 1 (List.length ([] : List Int) + List.length x0))<|
 some (num_Reader.mk (([] : List Int)++x0) 0)
theorem num_NewReader_c {x0 : List Int} {r : num_Reader} (hM : num_NewReader x0 = some r) : ACall Tryz.prog 84 ⟨[.sl 1 (List.map (DV.int .u8) x0)],[],.ref 50000 0,[(50000,some (.blk 221 (num_Reader.cs r)))],[50000]⟩ := by
 unfold num_NewReader at hM
 refine ACall.body Tryz.func84 Tryz.ntmps84 rfl rfl rfl rfl ?_
 refine a_seq (ar (.cons (o_assign rfl)<|.nil _) ?_)
 refine a_seq ?_
 obtain ⟨h1,hM⟩ := of_chk hM
 refine ar (.cons (t_build (DV.int .u8) ([] : List Int) rfl rfl rfl rfl rfl rfl rfl)<|.cons (o_move rfl)<|.cons (t_append x0 h1 rfl rfl rfl Src.sl)<|.cons (o_build rfl rfl rfl)<|.cons (o_box rfl rfl)<|.cons (o_assign rfl)<|.nil _) ?_
 obtain rfl:=Option.some.inj hM
 refine a_imp (Imp.freeze (id:=5) rfl) ?_
 refine a_imp (σ' := ⟨[(2,.ref 50000 0)],[(50000,some (.blk 221 [.sl 1 (List.map (DV.int .u8) ((num_Reader.mk (([] : List Int)++x0) 0).gp)),.int .i64 ((num_Reader.mk (([] : List Int)++x0) 0).gerr)]))],[50000]⟩) (Imp.sh (fun i=>bif Nat.beq i 50000 then 7 else i) rfl rfl rfl rfl rfl rfl) ?_
 exact a_ret (a_post (.r1 (.tmp rfl)) (DLe.refl _) (PostOk.spec (.cons rfl .nil)))
def num_Reader_open_a (o0 : num_Reader) : Option Bool :=
 some (o0.gerr == 0)
theorem num_Reader_open_a_c {o0 : num_Reader} {r : Bool} (hM : num_Reader_open_a o0 = some r) : ACall Tryz.prog 129 ⟨[.ref 100000 0],[(100000,some (.blk 221 (num_Reader.cs o0)))],.bool r,[(100000,some (.blk 221 (num_Reader.cs o0)))],[]⟩ := by
 unfold num_Reader_open_a at hM
 refine ACall.body Tryz.func129 Tryz.ntmps129 rfl rfl rfl rfl ?_
 refine a_seq (ar (.cons (o_assign rfl)<|.nil _) ?_)
 refine a_seq (ar (.cons (o_move rfl)<|.cons (o_ptr_ne rfl)<|.cons (o_move rfl)<|.cons (o_guardOn .bT rfl rfl rfl (.keep .nil) (o_move rfl))<|.cons (o_guardOn .bT rfl rfl rfl (.strip rfl rfl .nil) (o_nilCheck rfl))<|.cons (o_guardOn .bT rfl rfl rfl (.strip rfl rfl .nil) (o_fieldAddr rfl))<|.cons (o_guardOn .bT rfl rfl rfl (.strip rfl rfl .nil) (o_load_s rfl rfl rfl))<|.cons (o_guardOn .bT rfl rfl rfl (.strip rfl rfl .nil) (o_int rfl rfl rfl))<|.cons (o_and rfl rfl)<|.cons (o_assign rfl)<|.nil _) ?_)
 obtain rfl:=Option.some.inj hM
 refine a_imp (σ' := ⟨[(2,.bool (o0.gerr == 0))],[(100000,some (.blk 221 (num_Reader.cs o0)))],[100000]⟩) (Imp.sh (fun i=>i) rfl rfl rfl rfl rfl rfl) ?_
 exact a_ret (a_post (.r1 (.tmp rfl)) (DLe.refl _) (PostOk.spec (.cons rfl .nil)))
def num_Uint_K1 : Option (Int × Int × Int) :=
 some (0,0,6)
def num_Uint_L2 (x0 : List Int) (k1 : Nat) (a2 : Int) : Option (Ctl Int (Int × Int × Int)) :=
 (idx x0 (k1 : Int)).bind fun v7=>
 if (((k1 : Int) == 9) && (decide (1 < v7))) = true then
  some (.done (0,0,6))
 else
  chk ((0 : Int)≤(IntKind.wrap .i64 (7 * (k1 : Int))))<|
  if ((Int.fdiv v7 (2 ^ min (Int.toNat 7) (IntKind.bits .u8))) == 0) = true then
   if ((v7 == 0) && (decide (0 < (k1 : Int)))) = true then
    some (.done (0,0,6))
   else
    some (.done ((bitI .or .u64 a2 (IntKind.wrap .u64 ((IntKind.wrap .u64 (bitI .and .u8 v7 127)) * 2 ^ min (Int.toNat (IntKind.wrap .i64 (7 * (k1 : Int)))) (IntKind.bits .u64)))),((k1 : Int) + 1),0))
  else
   some (.next (bitI .or .u64 a2 (IntKind.wrap .u64 ((IntKind.wrap .u64 (bitI .and .u8 v7 127)) * 2 ^ min (Int.toNat (IntKind.wrap .i64 (7 * (k1 : Int)))) (IntKind.bits .u64)))))
def num_Uint (x0 : List Int) : Option (Int × Int × Int) :=
 (forM' (E:=Int × Int × Int) 9223372036854775807 (List.length x0 : Int) (fun k1 s=>num_Uint_L2 x0 k1 s) 0).bind fun
  | .next s=>num_Uint_K1
  | .done r=>some r
theorem num_Uint_c {x0 : List Int} {r : Int × Int × Int} (hM : num_Uint x0 = some r) : PCall Tryz.prog 130 [.sl 1 (List.map (DV.int .u8) x0)] (.tup [.int .u64 r.1,.int .i64 r.2.1,.int .i64 r.2.2]):=by
 unfold num_Uint at hM
 refine PCall.body Tryz.func130 Tryz.ntmps130 rfl rfl rfl rfl ?_
 refine a_seq (ar (.cons (o_assign rfl)<|.cons (o_assign rfl)<|.cons (o_assign rfl)<|.nil _) ?_)
 refine a_cut (α:=Unit) (fun s=>⟨[],[],[]⟩) (fun s=>num_Uint_K1 = some r) ?_ ?_
 ·refine a_seq (ar (.cons (o_move rfl)<|.cons (t_len rfl)<|.cons (o_move rfl)<|.nil _) ?_)
  obtain ⟨t3,hL3,hK3⟩ := of_bind hM
  refine a_block ?_
  refine a_for (fun k1 (s : Int)=>⟨[(2,.int .u64 s),(7,.sl 1 (List.map (DV.int .u8) x0)),(8,.int .i64 (List.length x0 : Int)),(9,.int .i64 (k1 : Int))],[],[]⟩) _ hL3 (Imp.sh (fun i=>i) rfl rfl rfl rfl rfl rfl) ?_ ?_
  ·rintro k1 a2 t4 hk1 hx1 hM hE3
   replace hM : num_Uint_L2 x0 k1 a2 = some t4:=hM
   unfold num_Uint_L2 at hM
   refine a_seq (ar (.cons (o_int rfl rfl rfl)<|.nil _) ?_)
   refine a_seq ?_
   refine a_cond _ rfl (fun _=>?_) (fun c=>absurd hk1 (of_decide_eq_false c))
   refine a_skip (a_seq (a_block (a_seq ?_)))
   obtain ⟨v7,h6,hM⟩ := of_bind hM
   refine ar (.cons (o_move rfl)<|.cons (t_index h6 rfl rfl rfl)<|.cons (o_load_es rfl rfl)<|.cons (o_assign rfl)<|.cons (o_assign rfl)<|.nil _) ?_
   refine a_seq (a_seq (ar (.cons (o_move rfl)<|.cons (o_int rfl rfl rfl)<|.cons (o_move rfl)<|.cons (o_guardG .bT rfl rfl (fun hb=>(.keep .nil)) (fun hb=>o_move rfl))<|.cons (o_guardG .bT rfl rfl (fun hb=>(.strip rfl hb .nil)) (fun hb=>o_int rfl rfl rfl))<|.cons (o_and rfl rfl)<|.nil _) ?_))
   refine a_cond _ rfl (fun h8=>?_) (fun h8=>?_)
   ·replace hM:=(of_if hM).1 h8
    refine a_seq (ar (.cons (o_assign rfl)<|.cons (o_assign rfl)<|.cons (o_assign rfl)<|.nil _) ?_)
    obtain rfl:=Option.some.inj hM
    obtain rfl:=hE3 _ rfl
    obtain rfl:=Option.some.inj hK3
    exact a_ret (a_post (.r3 (.tmp rfl) (.tmp rfl) (.tmp rfl)) (DLe.refl _) PostOk.nil.spec)
   ·replace hM:=(of_if hM).2 h8
    refine a_skip (a_seq ?_)
    obtain ⟨h9,hM⟩ := of_chk hM
    refine ar (.cons (o_move rfl)<|.cons (o_move rfl)<|.cons (o_int rfl rfl rfl)<|.cons (o_conv_w rfl)<|.cons (o_move rfl)<|.cons (o_int rfl rfl rfl)<|.cons (o_shl rfl rfl h9)<|.cons (o_int rfl rfl rfl)<|.cons (o_assign rfl)<|.nil _) ?_
    refine a_seq (ar (.cons (o_move rfl)<|.cons (o_shr rfl rfl (by decide))<|.cons (o_int rfl rfl rfl)<|.nil _) ?_)
    refine a_cond _ rfl (fun h10=>?_) (fun h10=>?_)
    ·replace hM:=(of_if hM).1 h10
     refine a_seq (a_seq (ar (.cons (o_move rfl)<|.cons (o_int rfl rfl rfl)<|.cons (o_move rfl)<|.cons (o_guardG .bT rfl rfl (fun hb=>(.keep .nil)) (fun hb=>o_move rfl))<|.cons (o_guardG .bT rfl rfl (fun hb=>(.strip rfl hb .nil)) (fun hb=>o_int rfl rfl rfl))<|.cons (o_and rfl rfl)<|.nil _) ?_))
     refine a_cond _ rfl (fun h11=>?_) (fun h11=>?_)
     ·replace hM:=(of_if hM).1 h11
      refine a_seq (ar (.cons (o_assign rfl)<|.cons (o_assign rfl)<|.cons (o_assign rfl)<|.nil _) ?_)
      obtain rfl:=Option.some.inj hM
      obtain rfl:=hE3 _ rfl
      obtain rfl:=Option.some.inj hK3
      exact a_ret (a_post (.r3 (.tmp rfl) (.tmp rfl) (.tmp rfl)) (DLe.refl _) PostOk.nil.spec)
     ·replace hM:=(of_if hM).2 h11
      refine a_skip (a_seq (ar (.cons (o_move rfl)<|.cons (o_move rfl)<|.cons (o_add rfl rfl (inR_i64 hk1 hx1))<|.cons (o_assign rfl)<|.cons (o_assign rfl)<|.cons (o_assign rfl)<|.nil _) ?_))
      obtain rfl:=Option.some.inj hM
      obtain rfl:=hE3 _ rfl
      obtain rfl:=Option.some.inj hK3
      exact a_ret (a_post (.r3 (.tmp rfl) (.tmp rfl) (.tmp rfl)) (DLe.refl _) PostOk.nil.spec)
    ·replace hM:=(of_if hM).2 h10
     refine a_skip (ar (.cons (o_add rfl rfl (inR_i64 hk1 hx1))<|.cons (o_move rfl)<|.nil _) ?_)
     obtain rfl:=Option.some.inj hM
     exact ⟨(bitI .or .u64 a2 (IntKind.wrap .u64 ((IntKind.wrap .u64 (bitI .and .u8 v7 127)) * 2 ^ min (Int.toNat (IntKind.wrap .i64 (7 * (k1 : Int)))) (IntKind.bits .u64)))),rfl,(Imp.of (fun i=>i) (.cons rfl (DLe.refl _) (.cons rfl (DLe.refl _) (.cons rfl (DLe.refl _) (.cons rfl (DLe.succ _ _) .nil)))) .nil rfl rfl rfl)⟩
  ·rintro k1 a2 hk1 hx1 rfl
   refine a_seq (ar (.cons (o_int rfl rfl rfl)<|.nil _) ?_)
   refine a_seq ?_
   refine a_cond _ rfl (fun c=>absurd (of_decide_eq_true c) (Int.not_lt.2 hk1)) (fun _=>?_)
   refine a_exit ?_
   exact ⟨(),hK3,(Imp.sh (fun i=>i) rfl rfl rfl rfl rfl rfl)⟩
 ·rintro _ hM
  replace hM : num_Uint_K1 = some r:=hM
  unfold num_Uint_K1 at hM
  refine a_seq (ar (.cons (o_assign rfl)<|.cons (o_assign rfl)<|.cons (o_assign rfl)<|.nil _) ?_)
  obtain rfl:=Option.some.inj hM
  exact a_ret (a_post (.r3 (.tmp rfl) (.tmp rfl) (.tmp rfl)) (DLe.refl _) PostOk.nil.spec)
def num_Reader_take_a (x1 : Int) (x2 : Int) (o0 : num_Reader) : Option (Bool × num_Reader) :=
 if (x2 != 0) = true then
  some (false,(num_Reader.mk o0.gp x2))
 else
  chk (slOk (List.length o0.gp) x1 (List.length o0.gp))<|
  some (true,(num_Reader.mk (List.drop (Int.toNat x1) o0.gp) o0.gerr))
theorem num_Reader_take_a_c {x1 : Int} {x2 : Int} {o0 : num_Reader} {r : Bool × num_Reader} (hM : num_Reader_take_a x1 x2 o0 = some r) : ACall Tryz.prog 131 ⟨[.ref 100000 0,.int .i64 x1,.int .i64 x2],[(100000,some (.blk 221 (num_Reader.cs o0)))],.bool r.1,[(100000,some (.blk 221 (num_Reader.cs r.2)))],[]⟩ := by
 unfold num_Reader_take_a at hM
 refine ACall.body Tryz.func131 Tryz.ntmps131 rfl rfl rfl rfl ?_
 refine a_seq (ar (.cons (o_assign rfl)<|.nil _) ?_)
 refine a_seq (a_seq (ar (.cons (o_move rfl)<|.cons (o_int rfl rfl rfl)<|.nil _) ?_))
 refine a_cond _ rfl (fun h1=>?_) (fun h1=>?_)
 ·replace hM:=(of_if hM).1 h1
  refine a_seq (ar (.cons (o_move rfl)<|.cons (o_move rfl)<|.cons (o_nilCheck rfl)<|.cons (o_fieldAddr rfl)<|.cons (o_store_s rfl rfl rfl rfl rfl)<|.nil _) ?_)
  refine a_seq (ar (.cons (o_assign rfl)<|.nil _) ?_)
  obtain rfl:=Option.some.inj hM
  refine a_imp (σ' := ⟨[(6,.bool false)],[(100000,some (.blk 221 [.sl 1 (List.map (DV.int .u8) ((num_Reader.mk o0.gp x2).gp)),.int .i64 ((num_Reader.mk o0.gp x2).gerr)]))],[100000]⟩) (Imp.sh (fun i=>i) rfl rfl rfl rfl rfl rfl) ?_
  exact a_ret (a_post (.r1 (.tmp rfl)) (DLe.refl _) (PostOk.spec (.cons rfl .nil)))
 ·replace hM:=(of_if hM).2 h1
  refine a_skip (a_seq ?_)
  obtain ⟨h2,hM⟩ := of_chk hM
  refine ar (.cons (o_move rfl)<|.cons (o_move rfl)<|.cons (o_nilCheck rfl)<|.cons (o_fieldAddr rfl)<|.cons (o_load_s rfl rfl rfl)<|.cons (o_move rfl)<|.cons (t_slice_l h2 rfl rfl)<|.cons (o_nilCheck rfl)<|.cons (o_fieldAddr rfl)<|.cons (o_store_s rfl rfl rfl rfl rfl)<|.nil _) ?_
  refine a_seq (ar (.cons (o_assign rfl)<|.nil _) ?_)
  obtain rfl:=Option.some.inj hM
  refine a_imp (σ' := ⟨[(6,.bool true)],[(100000,some (.blk 221 [.sl 1 (List.map (DV.int .u8) ((num_Reader.mk (List.drop (Int.toNat x1) o0.gp) o0.gerr).gp)),.int .i64 ((num_Reader.mk (List.drop (Int.toNat x1) o0.gp) o0.gerr).gerr)]))],[100000]⟩) (Imp.sh (fun i=>i) rfl rfl rfl rfl rfl rfl) ?_
  exact a_ret (a_post (.r1 (.tmp rfl)) (DLe.refl _) (PostOk.spec (.cons rfl .nil)))
def num_Reader_Uint_a_K1 (o0 : num_Reader) (v5 : Int × Int × Int) (a6 : Int) : Option (Int × num_Reader) :=
 (num_Reader_take_a v5.2.1 a6 o0).bind fun v8=>
 if (!v8.1) = true then
  some (0,v8.2)
 else
  some (v5.1,v8.2)
def num_Reader_Uint_a (x1 : Int) (o0 : num_Reader) : Option (Int × num_Reader) :=
 (num_Reader_open_a o0).bind fun v2=>
 if (!v2) = true then
  some (0,o0)
 else
  (num_Uint o0.gp).bind fun v5=>
  if ((v5.2.2 == 0) && (decide (x1 < v5.1))) = true then
   num_Reader_Uint_a_K1 o0 v5 2
  else
   num_Reader_Uint_a_K1 o0 v5 v5.2.2
theorem num_Reader_Uint_a_c {x1 : Int} {o0 : num_Reader} {r : Int × num_Reader} (hM : num_Reader_Uint_a x1 o0 = some r) : ACall Tryz.prog 85 ⟨[.ref 100000 0,.int .u64 x1],[(100000,some (.blk 221 (num_Reader.cs o0)))],.int .u64 r.1,[(100000,some (.blk 221 (num_Reader.cs r.2)))],[]⟩ := by
 unfold num_Reader_Uint_a at hM
 refine ACall.body Tryz.func85 Tryz.ntmps85 rfl rfl rfl rfl ?_
 refine a_seq (ar (.cons (o_assign rfl)<|.nil _) ?_)
 refine a_seq (a_seq ?_)
 obtain ⟨v2,h1,hM⟩ := of_bind hM
 refine ar (.cons (o_move rfl)<|.cons (o_callN (fun i=>bif Nat.beq i 100000 then 100000 else i) 0 (num_Reader_open_a_c h1) rfl (DLeL.refl _) (.cons rfl .nil) rfl (.cons rfl .nil))<|.cons (o_not rfl)<|.nil _) ?_
 refine a_cond _ rfl (fun h3=>?_) (fun h3=>?_)
 ·replace hM:=(of_if hM).1 h3
  refine a_seq (ar (.cons (o_assign rfl)<|.nil _) ?_)
  obtain rfl:=Option.some.inj hM
  refine a_imp (σ' := ⟨[(4,.int .u64 0)],[(100000,some (.blk 221 (num_Reader.cs o0)))],[100000]⟩) (Imp.sh (fun i=>i) rfl rfl rfl rfl rfl rfl) ?_
  exact a_ret (a_post (.r1 (.tmp rfl)) (DLe.refl _) (PostOk.spec (.cons rfl .nil)))
 ·replace hM:=(of_if hM).2 h3
  refine a_skip (a_seq ?_)
  obtain ⟨v5,h4,hM⟩ := of_bind hM
  refine ar (.cons (o_move rfl)<|.cons (o_nilCheck rfl)<|.cons (o_fieldAddr rfl)<|.cons (o_load_s rfl rfl rfl)<|.cons (o_call (num_Uint_c h4) rfl (DLeL.refl _) rfl)<|.cons (o_move rfl)<|.cons (o_extract rfl rfl)<|.cons (o_extract rfl rfl)<|.cons (o_extract rfl rfl)<|.cons (o_assign rfl)<|.cons (o_assign rfl)<|.cons (o_assign rfl)<|.nil _) ?_
  refine a_cut (α:=Int) (fun s=>⟨[(0,.ref 100000 0),(5,.int .u64 v5.1),(6,.int .i64 v5.2.1),(7,.int .i64 s)],[(100000,some (.blk 221 (num_Reader.cs o0)))],[100000]⟩) (fun s=>num_Reader_Uint_a_K1 o0 v5 s = some r) ?_ ?_
  ·refine a_seq (ar (.cons (o_move rfl)<|.cons (o_int rfl rfl rfl)<|.cons (o_move rfl)<|.cons (o_guardG .bT rfl rfl (fun hb=>(.keep .nil)) (fun hb=>o_move rfl))<|.cons (o_guardG .bT rfl rfl (fun hb=>(.keep .nil)) (fun hb=>o_move rfl))<|.cons (o_guardG .bT rfl rfl (fun hb=>(.strip rfl hb (.strip rfl hb .nil))) (fun hb=>o_int rfl rfl rfl))<|.cons (o_and rfl rfl)<|.nil _) ?_)
   refine a_cond _ rfl (fun h10=>?_) (fun h10=>?_)
   ·replace hM:=(of_if hM).1 h10
    refine ar (.cons (o_assign rfl)<|.nil _) ?_
    exact ⟨2,hM,(Imp.sh (fun i=>i) rfl rfl rfl rfl rfl rfl)⟩
   ·replace hM:=(of_if hM).2 h10
    refine a_skip ?_
    exact ⟨v5.2.2,hM,(Imp.sh (fun i=>i) rfl rfl rfl rfl rfl rfl)⟩
  ·rintro a6 hM
   replace hM : num_Reader_Uint_a_K1 o0 v5 a6 = some r:=hM
   unfold num_Reader_Uint_a_K1 at hM
   refine a_seq (a_seq ?_)
   obtain ⟨v8,h7,hM⟩ := of_bind hM
   refine ar (.cons (o_move rfl)<|.cons (o_move rfl)<|.cons (o_move rfl)<|.cons (o_callN (fun i=>bif Nat.beq i 100000 then 100000 else i) 1 (num_Reader_take_a_c h7) rfl (DLeL.refl _) (.cons rfl .nil) rfl .nil)<|.cons (o_not rfl)<|.nil _) ?_
   refine a_cond _ rfl (fun h9=>?_) (fun h9=>?_)
   ·replace hM:=(of_if hM).1 h9
    refine a_seq (ar (.cons (o_assign rfl)<|.nil _) ?_)
    obtain rfl:=Option.some.inj hM
    refine a_imp (σ' := ⟨[(4,.int .u64 0)],[(100000,some (.blk 221 (num_Reader.cs v8.2)))],[100000]⟩) (Imp.sh (fun i=>i) rfl rfl rfl rfl rfl rfl) ?_
    exact a_ret (a_post (.r1 (.tmp rfl)) (DLe.refl _) (PostOk.spec (.cons rfl .nil)))
   ·replace hM:=(of_if hM).2 h9
    refine a_skip (a_seq (ar (.cons (o_move rfl)<|.cons (o_assign rfl)<|.nil _) ?_))
    obtain rfl:=Option.some.inj hM
    refine a_imp (σ' := ⟨[(4,.int .u64 v5.1)],[(100000,some (.blk 221 (num_Reader.cs v8.2)))],[100000]⟩) (Imp.sh (fun i=>i) rfl rfl rfl rfl rfl rfl) ?_
    exact a_ret (a_post (.r1 (.tmp rfl)) (DLe.refl _) (PostOk.spec (.cons rfl .nil)))
def num_Reader_Err_a (o0 : num_Reader) : Option Int :=
 some o0.gerr
theorem num_Reader_Err_a_c {o0 : num_Reader} {r : Int} (hM : num_Reader_Err_a o0 = some r) : ACall Tryz.prog 116 ⟨[.ref 100000 0],[(100000,some (.blk 221 (num_Reader.cs o0)))],.int .i64 r,[(100000,some (.blk 221 (num_Reader.cs o0)))],[]⟩ := by
 unfold num_Reader_Err_a at hM
 refine ACall.body Tryz.func116 Tryz.ntmps116 rfl rfl rfl rfl ?_
 refine a_seq (ar (.cons (o_assign rfl)<|.nil _) ?_)
 refine a_seq (a_seq (ar (.cons (o_move rfl)<|.cons (o_ptr_eq rfl)<|.nil _) ?_))
 refine a_cond _ rfl (fun c=>by cases c) (fun _=>?_)
 refine a_skip (a_seq (ar (.cons (o_move rfl)<|.cons (o_nilCheck rfl)<|.cons (o_fieldAddr rfl)<|.cons (o_load_s rfl rfl rfl)<|.cons (o_assign rfl)<|.nil _) ?_))
 obtain rfl:=Option.some.inj hM
 refine a_imp (σ' := ⟨[(2,.int .i64 o0.gerr)],[(100000,some (.blk 221 (num_Reader.cs o0)))],[100000]⟩) (Imp.sh (fun i=>i) rfl rfl rfl rfl rfl rfl) ?_
 exact a_ret (a_post (.r1 (.tmp rfl)) (DLe.refl _) (PostOk.spec (.cons rfl .nil)))
def num_Reader_Left_a (o0 : num_Reader) : Option Int :=
 some (List.length o0.gp : Int)
theorem num_Reader_Left_a_c {o0 : num_Reader} {r : Int} (hM : num_Reader_Left_a o0 = some r) : ACall Tryz.prog 117 ⟨[.ref 100000 0],[(100000,some (.blk 221 (num_Reader.cs o0)))],.int .i64 r,[(100000,some (.blk 221 (num_Reader.cs o0)))],[]⟩ := by
 unfold num_Reader_Left_a at hM
 refine ACall.body Tryz.func117 Tryz.ntmps117 rfl rfl rfl rfl ?_
 refine a_seq (ar (.cons (o_assign rfl)<|.nil _) ?_)
 refine a_seq (a_seq (ar (.cons (o_move rfl)<|.cons (o_ptr_eq rfl)<|.nil _) ?_))
 refine a_cond _ rfl (fun c=>by cases c) (fun _=>?_)
 refine a_skip (a_seq (ar (.cons (o_move rfl)<|.cons (o_nilCheck rfl)<|.cons (o_fieldAddr rfl)<|.cons (o_load_s rfl rfl rfl)<|.cons (t_len rfl)<|.cons (o_assign rfl)<|.nil _) ?_))
 obtain rfl:=Option.some.inj hM
 refine a_imp (σ' := ⟨[(2,.int .i64 (List.length o0.gp : Int))],[(100000,some (.blk 221 (num_Reader.cs o0)))],[100000]⟩) (Imp.sh (fun i=>i) rfl rfl rfl rfl rfl rfl) ?_
 exact a_ret (a_post (.r1 (.tmp rfl)) (DLe.refl _) (PostOk.spec (.cons rfl .nil)))
def num_Bytes (x0 : List Int) (x1 : Int) : Option ((List Int) × Int × Int) :=
 if (decide (x1 < 0)) = true then
  some (([] : List Int),0,1)
 else
  (num_Uint x0).bind fun v3=>
  if (v3.2.2 != 0) = true then
   some (([] : List Int),0,v3.2.2)
  else
   if (decide ((IntKind.wrap .u64 x1) < v3.1)) = true then
    some (([] : List Int),0,3)
   else
    if (decide ((IntKind.wrap .u64 (IntKind.wrap .i64 ((List.length x0 : Int) - v3.2.1))) < v3.1)) = true then
     some (([] : List Int),0,6)
    else
     chk (slOk (List.length x0) v3.2.1 (IntKind.wrap .i64 (v3.2.1 + (IntKind.wrap .i64 v3.1))))<|
     chk (apOk 1 (List.length ([] : List Int) + List.length (slc x0 v3.2.1 (IntKind.wrap .i64 (v3.2.1 + (IntKind.wrap .i64 v3.1))))))<|
     some ((([] : List Int)++(slc x0 v3.2.1 (IntKind.wrap .i64 (v3.2.1 + (IntKind.wrap .i64 v3.1))))),(IntKind.wrap .i64 (v3.2.1 + (IntKind.wrap .i64 v3.1))),0)
theorem num_Bytes_c {x0 : List Int} {x1 : Int} {r : (List Int) × Int × Int} (hM : num_Bytes x0 x1 = some r) : PCall Tryz.prog 163 [.sl 1 (List.map (DV.int .u8) x0),.int .i64 x1] (.tup [.sl 1 (List.map (DV.int .u8) r.1),.int .i64 r.2.1,.int .i64 r.2.2]):=by
 unfold num_Bytes at hM
 refine PCall.body Tryz.func163 Tryz.ntmps163 rfl rfl rfl rfl ?_
 refine a_seq (ar (.cons (o_assign rfl)<|.cons (o_assign rfl)<|.cons (o_assign rfl)<|.nil _) ?_)
 refine a_seq (a_seq (ar (.cons (o_move rfl)<|.cons (o_int rfl rfl rfl)<|.nil _) ?_))
 refine a_cond _ rfl (fun h1=>?_) (fun h1=>?_)
 ·replace hM:=(of_if hM).1 h1
  refine a_seq (ar (.cons (o_assign rfl)<|.cons (o_assign rfl)<|.cons (o_assign rfl)<|.nil _) ?_)
  obtain rfl:=Option.some.inj hM
  exact a_ret (a_post (.r3 (.tmp rfl) (.tmp rfl) (.tmp rfl)) (DLe.tup (.cons (DLe.nils _) (.cons (DLe.refl _) (.cons (DLe.refl _) .nil)))) PostOk.nil.spec)
 ·replace hM:=(of_if hM).2 h1
  refine a_skip (a_seq ?_)
  obtain ⟨v3,h2,hM⟩ := of_bind hM
  refine ar (.cons (o_move rfl)<|.cons (o_call (num_Uint_c h2) rfl (DLeL.refl _) rfl)<|.cons (o_move rfl)<|.cons (o_extract rfl rfl)<|.cons (o_extract rfl rfl)<|.cons (o_extract rfl rfl)<|.cons (o_assign rfl)<|.cons (o_assign rfl)<|.cons (o_assign rfl)<|.nil _) ?_
  refine a_seq (a_block (a_seq (ar (.cons (o_move rfl)<|.cons (o_int rfl rfl rfl)<|.cons (o_assign rfl)<|.nil _) ?_)))
  refine a_cond _ rfl (fun h4=>?_) (fun h4=>?_)
  ·replace hM:=(of_if hM).1 h4
   refine a_seq (ar (.cons (o_move rfl)<|.cons (o_assign rfl)<|.cons (o_assign rfl)<|.cons (o_assign rfl)<|.nil _) ?_)
   obtain rfl:=Option.some.inj hM
   exact a_ret (a_post (.r3 (.tmp rfl) (.tmp rfl) (.tmp rfl)) (DLe.tup (.cons (DLe.nils _) (.cons (DLe.refl _) (.cons (DLe.refl _) .nil)))) PostOk.nil.spec)
  ·replace hM:=(of_if hM).2 h4
   refine a_seq (ar (.cons (o_move rfl)<|.cons (o_move rfl)<|.cons (o_conv_w rfl)<|.cons (o_int rfl rfl rfl)<|.cons (o_assign rfl)<|.nil _) ?_)
   refine a_cond _ rfl (fun h5=>?_) (fun h5=>?_)
   ·replace hM:=(of_if hM).1 h5
    refine a_seq (ar (.cons (o_assign rfl)<|.cons (o_assign rfl)<|.cons (o_assign rfl)<|.nil _) ?_)
    obtain rfl:=Option.some.inj hM
    exact a_ret (a_post (.r3 (.tmp rfl) (.tmp rfl) (.tmp rfl)) (DLe.tup (.cons (DLe.nils _) (.cons (DLe.refl _) (.cons (DLe.refl _) .nil)))) PostOk.nil.spec)
   ·replace hM:=(of_if hM).2 h5
    refine a_seq (ar (.cons (o_move rfl)<|.cons (o_move rfl)<|.cons (t_len rfl)<|.cons (o_move rfl)<|.cons (o_int rfl rfl rfl)<|.cons (o_conv_w rfl)<|.cons (o_int rfl rfl rfl)<|.cons (o_assign rfl)<|.nil _) ?_)
    refine a_cond _ rfl (fun h6=>?_) (fun h6=>?_)
    ·replace hM:=(of_if hM).1 h6
     refine a_seq (ar (.cons (o_assign rfl)<|.cons (o_assign rfl)<|.cons (o_assign rfl)<|.nil _) ?_)
     obtain rfl:=Option.some.inj hM
     exact a_ret (a_post (.r3 (.tmp rfl) (.tmp rfl) (.tmp rfl)) (DLe.tup (.cons (DLe.nils _) (.cons (DLe.refl _) (.cons (DLe.refl _) .nil)))) PostOk.nil.spec)
    ·replace hM:=(of_if hM).2 h6
     refine a_skip (a_seq (ar (.cons (o_move rfl)<|.cons (o_move rfl)<|.cons (o_conv_w rfl)<|.cons (o_int rfl rfl rfl)<|.cons (o_assign rfl)<|.nil _) ?_))
     refine a_seq ?_
     obtain ⟨h7,hM⟩ := of_chk hM
     obtain ⟨h8,hM⟩ := of_chk hM
     refine ar (.cons (t_build (DV.int .u8) ([] : List Int) rfl rfl rfl rfl rfl rfl rfl)<|.cons (o_move rfl)<|.cons (o_move rfl)<|.cons (o_move rfl)<|.cons (t_slice h7 rfl rfl rfl)<|.cons (t_append (slc x0 v3.2.1 (IntKind.wrap .i64 (v3.2.1 + (IntKind.wrap .i64 v3.1)))) h8 rfl rfl rfl Src.sl)<|.cons (o_move rfl)<|.cons (o_assign rfl)<|.cons (o_assign rfl)<|.cons (o_assign rfl)<|.nil _) ?_
     obtain rfl:=Option.some.inj hM
     refine a_imp (Imp.freeze (id:=43) rfl) ?_
     exact a_ret (a_post (.r3 (.tmp rfl) (.tmp rfl) (.tmp rfl)) (DLe.refl _) PostOk.nil.spec)
def num_Reader_Bytes_a (x1 : Int) (o0 : num_Reader) : Option ((List Int) × num_Reader) :=
 (num_Reader_open_a o0).bind fun v2=>
 if (!v2) = true then
  some (([] : List Int),o0)
 else
  (num_Bytes o0.gp x1).bind fun v5=>
  (num_Reader_take_a v5.2.1 v5.2.2 o0).bind fun v7=>
  if (!v7.1) = true then
   some (([] : List Int),v7.2)
  else
   some (v5.1,v7.2)
theorem num_Reader_Bytes_a_c {x1 : Int} {o0 : num_Reader} {r : (List Int) × num_Reader} (hM : num_Reader_Bytes_a x1 o0 = some r) : ACall Tryz.prog 132 ⟨[.ref 100000 0,.int .i64 x1],[(100000,some (.blk 221 (num_Reader.cs o0)))],.sl 1 (List.map (DV.int .u8) r.1),[(100000,some (.blk 221 (num_Reader.cs r.2)))],[]⟩ := by
 unfold num_Reader_Bytes_a at hM
 refine ACall.body Tryz.func132 Tryz.ntmps132 rfl rfl rfl rfl ?_
 refine a_seq (ar (.cons (o_assign rfl)<|.nil _) ?_)
 refine a_seq (a_seq ?_)
 obtain ⟨v2,h1,hM⟩ := of_bind hM
 refine ar (.cons (o_move rfl)<|.cons (o_callN (fun i=>bif Nat.beq i 100000 then 100000 else i) 0 (num_Reader_open_a_c h1) rfl (DLeL.refl _) (.cons rfl .nil) rfl (.cons rfl .nil))<|.cons (o_not rfl)<|.nil _) ?_
 refine a_cond _ rfl (fun h3=>?_) (fun h3=>?_)
 ·replace hM:=(of_if hM).1 h3
  refine a_seq (ar (.cons (o_assign rfl)<|.nil _) ?_)
  obtain rfl:=Option.some.inj hM
  refine a_imp (σ' := ⟨[(4,.nils)],[(100000,some (.blk 221 (num_Reader.cs o0)))],[100000]⟩) (Imp.sh (fun i=>i) rfl rfl rfl rfl rfl rfl) ?_
  exact a_ret (a_post (.r1 (.tmp rfl)) (DLe.nils _) (PostOk.spec (.cons rfl .nil)))
 ·replace hM:=(of_if hM).2 h3
  refine a_skip (a_seq ?_)
  obtain ⟨v5,h4,hM⟩ := of_bind hM
  refine ar (.cons (o_move rfl)<|.cons (o_nilCheck rfl)<|.cons (o_fieldAddr rfl)<|.cons (o_load_s rfl rfl rfl)<|.cons (o_move rfl)<|.cons (o_call (num_Bytes_c h4) rfl (DLeL.refl _) rfl)<|.cons (o_move rfl)<|.cons (o_extract rfl rfl)<|.cons (o_extract rfl rfl)<|.cons (o_extract rfl rfl)<|.cons (o_assign rfl)<|.cons (o_assign rfl)<|.cons (o_assign rfl)<|.nil _) ?_
  refine a_seq (a_seq ?_)
  obtain ⟨v7,h6,hM⟩ := of_bind hM
  refine ar (.cons (o_move rfl)<|.cons (o_move rfl)<|.cons (o_move rfl)<|.cons (o_callN (fun i=>bif Nat.beq i 100000 then 100000 else i) 1 (num_Reader_take_a_c h6) rfl (DLeL.refl _) (.cons rfl .nil) rfl .nil)<|.cons (o_not rfl)<|.nil _) ?_
  refine a_cond _ rfl (fun h8=>?_) (fun h8=>?_)
  ·replace hM:=(of_if hM).1 h8
   refine a_seq (ar (.cons (o_assign rfl)<|.nil _) ?_)
   obtain rfl:=Option.some.inj hM
   refine a_imp (σ' := ⟨[(4,.nils)],[(100000,some (.blk 221 (num_Reader.cs v7.2)))],[100000]⟩) (Imp.sh (fun i=>i) rfl rfl rfl rfl rfl rfl) ?_
   exact a_ret (a_post (.r1 (.tmp rfl)) (DLe.nils _) (PostOk.spec (.cons rfl .nil)))
  ·replace hM:=(of_if hM).2 h8
   refine a_skip (a_seq (ar (.cons (o_move rfl)<|.cons (o_assign rfl)<|.nil _) ?_))
   obtain rfl:=Option.some.inj hM
   refine a_imp (σ' := ⟨[(4,.sl 1 (List.map (DV.int .u8) v5.1))],[(100000,some (.blk 221 (num_Reader.cs v7.2)))],[100000]⟩) (Imp.sh (fun i=>i) rfl rfl rfl rfl rfl rfl) ?_
   exact a_ret (a_post (.r1 (.tmp rfl)) (DLe.refl _) (PostOk.spec (.cons rfl .nil)))
def collect_readPart_a_K1 (x1 : Int) (a1 : List RRec) (a2 : List Int) (a3 : Int) : Option (CPart × Bool × num_Reader) :=
 (CPartOf a1 x1).bind fun v5=>
 (gb (!(!v5.2)) (0) (num_Reader_Err_a (num_Reader.mk a2 a3))).bind fun v7=>
 if ((!v5.2) || (v7 != 0)) = true then
  some ((CPart.mk [] [] false 0),false,(num_Reader.mk a2 a3))
 else
  (CPart_merge (CPart.mk [] [] false 0) v5.1).bind fun v10=>
  some (v10.1,v10.2,(num_Reader.mk a2 a3))
def collect_readPart_a_L2 (a13 : List RRec) (a14 : Int) (a15 : List Int) (a16 : Int) : Option (Ctl ((List RRec) × Int × (List Int) × Int) (((List RRec) × (List Int) × Int) ⊕ (CPart × Bool × num_Reader))) :=
 (gb (decide (0 < a14)) (0) (num_Reader_Err_a (num_Reader.mk a15 a16))).bind fun v20=>
 if ((decide (0 < a14)) && (v20 == 0)) = true then
  (num_Reader_Left_a (num_Reader.mk a15 a16)).bind fun v23=>
  (num_Reader_Bytes_a v23 (num_Reader.mk a15 a16)).bind fun v25=>
  (record_Read v25.1).bind fun v27=>
  if (v27.2 != 0) = true then
   some (.done (.inr ((CPart.mk [] [] false 0),false,v25.2)))
  else
   chk (apOk 248 (List.length a13 + List.length [v27.1]))<|
   some (.next ((a13++[v27.1]),(IntKind.wrap .u64 (a14 - 1)),v25.2.gp,v25.2.gerr))
 else
  some (.done (.inl (a13,a15,a16)))
def collect_readPart_a (x1 : Int) (o0 : num_Reader) : Option (CPart × Bool × num_Reader) :=
 (num_Reader_Uint_a 18446744073709551615 o0).bind fun v12=>
 (whileM (E:=((List RRec) × (List Int) × Int) ⊕ (CPart × Bool × num_Reader)) (fun s=>collect_readPart_a_L2 s.1 s.2.1 s.2.2.1 s.2.2.2) (([] : List RRec),v12.1,v12.2.gp,v12.2.gerr)).bind fun
  | .inl e=>collect_readPart_a_K1 x1 e.1 e.2.1 e.2.2
  | .inr r=>some r
theorem collect_readPart_a_c {x1 : Int} {o0 : num_Reader} {r : CPart × Bool × num_Reader} (hM : collect_readPart_a x1 o0 = some r) : ACall Tryz.prog 86 ⟨[.ref 100000 0,.int .i64 x1],[(100000,some (.blk 221 (num_Reader.cs o0)))],.tup [.agg (CPart.cs r.1),.bool r.2.1],[(100000,some (.blk 221 (num_Reader.cs r.2.2)))],[]⟩ := by
 unfold collect_readPart_a at hM
 refine ACall.body Tryz.func86 Tryz.ntmps86 rfl rfl rfl rfl ?_
 refine a_seq (ar (.cons (o_alloc rfl)<|.cons (o_assign rfl)<|.nil _) ?_)
 refine a_seq (ar (.cons (o_assign rfl)<|.nil _) ?_)
 refine a_cut (α:=(List RRec) × (List Int) × Int) (fun s=>⟨[(0,.ref 100000 0),(1,.int .i64 x1),(4,.ref 4 0),(6,.sl 29 (List.map RRec.dv s.1))],[(4,some (.blk 137 [.nils,.nils,.bool false,.int .u64 0])),(100000,some (.blk 221 [.sl 1 (List.map (DV.int .u8) s.2.1),.int .i64 s.2.2]))],[4,100000]⟩) (fun s=>collect_readPart_a_K1 x1 s.1 s.2.1 s.2.2 = some r) ?_ ?_
 ·refine a_seq ?_
  obtain ⟨v12,h11,hM⟩ := of_bind hM
  refine ar (.cons (o_move rfl)<|.cons (o_callN (fun i=>bif Nat.beq i 100000 then 100000 else i) 1 (num_Reader_Uint_a_c h11) rfl (DLeL.refl _) (.cons rfl .nil) rfl .nil)<|.cons (o_assign rfl)<|.nil _) ?_
  obtain ⟨e17,hL17,hK17⟩ := of_bind hM
  refine a_block (a_while (fun s : (List RRec) × Int × (List Int) × Int=>⟨[(0,.ref 100000 0),(1,.int .i64 x1),(4,.ref 4 0),(6,.row 10001),(7,.int .u64 s.2.1)],[(4,some (.blk 137 [.nils,.nils,.bool false,.int .u64 0])),(10001,some (.row 52 29 (List.map RRec.dv s.1))),(100000,some (.blk 221 [.sl 1 (List.map (DV.int .u8) s.2.2.1),.int .i64 s.2.2.2]))],[4,10001,100000]⟩) _ hL17 ((Imp.nilRow (t:=6) (id:=10002) 52 29 rfl rfl).trans (Imp.sh (fun i=>bif Nat.beq i 10001 then 10002 else i) rfl rfl rfl rfl rfl rfl)) ?_)
  rintro ⟨a13,a14,a15,a16⟩ t18 hM hE17
  replace hM : collect_readPart_a_L2 a13 a14 a15 a16 = some t18:=hM
  unfold collect_readPart_a_L2 at hM
  refine a_seq (a_seq ?_)
  obtain ⟨v20,h19,hM⟩ := of_bind hM
  refine ar (.cons (o_move rfl)<|.cons (o_int rfl rfl rfl)<|.cons (o_move rfl)<|.cons (o_guardG .bT rfl rfl (fun hb=>(.keep .nil)) (fun hb=>o_move rfl))<|.cons (o_guardG .bT rfl rfl (fun hb=>(.strip rfl hb .nil)) (fun hb=>o_callN (fun i=>bif Nat.beq i 100000 then 100000 else i) 0 (num_Reader_Err_a_c (of_gb h19 hb)) rfl (DLeL.refl _) (.cons rfl .nil) rfl (.cons rfl .nil)))<|.cons (o_guardG .bT rfl rfl (fun hb=>(.strip rfl hb .nil)) (fun hb=>o_int rfl rfl rfl))<|.cons (o_and rfl rfl)<|.nil _) ?_
  refine a_cond _ rfl (fun h21=>?_) (fun h21=>?_)
  ·replace hM:=(of_if hM).1 h21
   refine a_skip (a_seq (a_block (a_seq ?_)))
   obtain ⟨v23,h22,hM⟩ := of_bind hM
   obtain ⟨v25,h24,hM⟩ := of_bind hM
   obtain ⟨v27,h26,hM⟩ := of_bind hM
   refine ar (.cons (o_move rfl)<|.cons (o_move rfl)<|.cons (o_callN (fun i=>bif Nat.beq i 100000 then 100000 else i) 0 (num_Reader_Left_a_c h22) rfl (DLeL.refl _) (.cons rfl .nil) rfl (.cons rfl .nil))<|.cons (o_callN (fun i=>bif Nat.beq i 100000 then 100000 else i) 1 (num_Reader_Bytes_a_c h24) rfl (DLeL.refl _) (.cons rfl .nil) rfl .nil)<|.cons (o_call (record_Read_c h26) rfl (DLeL.refl _) rfl)<|.cons (o_move rfl)<|.cons (o_extract rfl rfl)<|.cons (o_extract rfl rfl)<|.cons (o_alloc rfl)<|.cons (o_store rfl rfl rfl rfl rfl rfl rfl)<|.cons (o_assign rfl)<|.nil _) ?_
   refine a_seq (a_seq (ar (.cons (o_move rfl)<|.cons (o_int rfl rfl rfl)<|.nil _) ?_))
   refine a_cond _ rfl (fun h28=>?_) (fun h28=>?_)
   ·replace hM:=(of_if hM).1 h28
    refine a_seq (ar (.cons (o_build rfl rfl rfl)<|.cons (o_store rfl rfl rfl rfl rfl rfl rfl)<|.cons (o_assign rfl)<|.nil _) ?_)
    obtain rfl:=Option.some.inj hM
    obtain rfl:=hE17 _ rfl
    obtain rfl:=Option.some.inj hK17
    refine a_imp (σ' := ⟨[(4,.ref 4 0),(5,.bool false)],[(4,some (.blk 137 [.nils,.nils,.bool false,.int .u64 0])),(100000,some (.blk 221 (num_Reader.cs v25.2)))],[4,100000]⟩) (Imp.sh (fun i=>i) rfl rfl rfl rfl rfl rfl) ?_
    exact a_ret (a_post (.r2 (.cell rfl rfl (.row _ CRow.h (Nat.le_of_ble_eq_true rfl) rfl)) (.tmp rfl)) (DLe.tup (.cons (DLe.agg (.cons (DLe.nils _) (.cons (DLe.nils _) (.cons (DLe.refl _) (.cons (DLe.refl _) .nil))))) (.cons (DLe.refl _) .nil))) (PostOk.spec (.cons rfl .nil)))
   ·replace hM:=(of_if hM).2 h28
    refine a_skip ?_
    obtain ⟨h29,hM⟩ := of_chk hM
    refine ar (.cons (o_move rfl)<|.cons (o_load_r rfl rfl rfl rfl)<|.cons (t_build RRec.dv ([v27.1] : List RRec) rfl rfl rfl rfl rfl rfl rfl)<|.cons (t_append [v27.1] h29 rfl rfl rfl (Src.row rfl))<|.cons (o_assign rfl)<|.nil _) ?_
    refine ar (.cons (o_move rfl)<|.cons (o_int rfl rfl rfl)<|.cons (o_assign rfl)<|.nil _) ?_
    obtain rfl:=Option.some.inj hM
    exact ⟨((a13++[v27.1]),(IntKind.wrap .u64 (a14 - 1)),v25.2.gp,v25.2.gerr),rfl,(Imp.sh (fun i=>bif Nat.beq i 10001 then 37 else i) rfl rfl rfl rfl rfl rfl)⟩
  ·replace hM:=(of_if hM).2 h21
   refine a_exit ?_
   obtain rfl:=Option.some.inj hM
   obtain rfl:=hE17 _ rfl
   exact ⟨(a13,a15,a16),hK17,((Imp.freeze (id:=10001) rfl).trans (Imp.sh (fun i=>i) rfl rfl rfl rfl rfl rfl))⟩
 ·rintro ⟨a1,a2,a3⟩ hM
  replace hM : collect_readPart_a_K1 x1 a1 a2 a3 = some r:=hM
  unfold collect_readPart_a_K1 at hM
  refine a_seq ?_
  obtain ⟨v5,h4,hM⟩ := of_bind hM
  refine ar (.cons (o_move rfl)<|.cons (o_move rfl)<|.cons (o_call (CPartOf_c h4) rfl (DLeL.refl _) rfl)<|.cons (o_move rfl)<|.cons (o_extract rfl rfl)<|.cons (o_extract rfl rfl)<|.cons (o_alloc rfl)<|.cons (o_store rfl rfl rfl rfl rfl rfl rfl)<|.cons (o_assign rfl)<|.nil _) ?_
  refine a_seq (a_seq ?_)
  obtain ⟨v7,h6,hM⟩ := of_bind hM
  refine ar (.cons (o_move rfl)<|.cons (o_not rfl)<|.cons (o_move rfl)<|.cons (o_guardG .bF rfl rfl (fun hb=>(.keep .nil)) (fun hb=>o_move rfl))<|.cons (o_guardG .bF rfl rfl (fun hb=>(.strip rfl hb .nil)) (fun hb=>o_callN (fun i=>bif Nat.beq i 100000 then 100000 else i) 0 (num_Reader_Err_a_c (of_gb h6 hb)) rfl (DLeL.refl _) (.cons rfl .nil) rfl (.cons rfl .nil)))<|.cons (o_guardG .bF rfl rfl (fun hb=>(.strip rfl hb .nil)) (fun hb=>o_int rfl rfl rfl))<|.cons (o_or rfl rfl)<|.nil _) ?_
  refine a_cond _ rfl (fun h8=>?_) (fun h8=>?_)
  ·replace hM:=(of_if hM).1 h8
   refine a_seq (ar (.cons (o_build rfl rfl rfl)<|.cons (o_store rfl rfl rfl rfl rfl rfl rfl)<|.cons (o_assign rfl)<|.nil _) ?_)
   obtain rfl:=Option.some.inj hM
   refine a_imp (σ' := ⟨[(4,.ref 4 0),(5,.bool false)],[(4,some (.blk 137 [.nils,.nils,.bool false,.int .u64 0])),(100000,some (.blk 221 [.sl 1 (List.map (DV.int .u8) ((num_Reader.mk a2 a3).gp)),.int .i64 ((num_Reader.mk a2 a3).gerr)]))],[4,100000]⟩) (Imp.sh (fun i=>i) rfl rfl rfl rfl rfl rfl) ?_
   exact a_ret (a_post (.r2 (.cell rfl rfl (.row _ CRow.h (Nat.le_of_ble_eq_true rfl) rfl)) (.tmp rfl)) (DLe.tup (.cons (DLe.agg (.cons (DLe.nils _) (.cons (DLe.nils _) (.cons (DLe.refl _) (.cons (DLe.refl _) .nil))))) (.cons (DLe.refl _) .nil))) (PostOk.spec (.cons rfl .nil)))
  ·replace hM:=(of_if hM).2 h8
   refine a_skip (a_seq ?_)
   obtain ⟨v10,h9,hM⟩ := of_bind hM
   refine ar (.cons (o_build rfl rfl rfl)<|.cons (o_load_r rfl rfl rfl rfl)<|.cons (o_call (CPart_merge_c h9) rfl (.cons (DLe.agg (.cons (DLe.nils _) (.cons (DLe.nils _) (.cons (DLe.refl _) (.cons (DLe.refl _) .nil))))) (.cons (DLe.refl _) .nil)) rfl)<|.cons (o_extract rfl rfl)<|.cons (o_extract rfl rfl)<|.cons (o_store rfl rfl rfl rfl rfl rfl rfl)<|.cons (o_assign rfl)<|.nil _) ?_
   obtain rfl:=Option.some.inj hM
   refine a_imp (σ' := ⟨[(4,.ref 4 0),(5,.bool v10.2)],[(4,some (.blk 137 (CPart.cs v10.1))),(100000,some (.blk 221 [.sl 1 (List.map (DV.int .u8) ((num_Reader.mk a2 a3).gp)),.int .i64 ((num_Reader.mk a2 a3).gerr)]))],[4,100000]⟩) (Imp.sh (fun i=>i) rfl rfl rfl rfl rfl rfl) ?_
   exact a_ret (a_post (.r2 (.cell rfl rfl (.row _ CRow.h (Nat.le_of_ble_eq_true rfl) rfl)) (.tmp rfl)) (DLe.refl _) (PostOk.spec (.cons rfl .nil)))
def num_Reader_End_a (o0 : num_Reader) : Option Int :=
 (num_Reader_Err_a o0).bind fun v2=>
 if ((v2 != 0) || ((List.length o0.gp : Int) == 0)) = true then
  some v2
 else
  some 6
theorem num_Reader_End_a_c {o0 : num_Reader} {r : Int} (hM : num_Reader_End_a o0 = some r) : ACall Tryz.prog 87 ⟨[.ref 100000 0],[(100000,some (.blk 221 (num_Reader.cs o0)))],.int .i64 r,[(100000,some (.blk 221 (num_Reader.cs o0)))],[]⟩ := by
 unfold num_Reader_End_a at hM
 refine ACall.body Tryz.func87 Tryz.ntmps87 rfl rfl rfl rfl ?_
 refine a_seq (ar (.cons (o_assign rfl)<|.nil _) ?_)
 refine a_seq (a_seq ?_)
 obtain ⟨v2,h1,hM⟩ := of_bind hM
 refine ar (.cons (o_move rfl)<|.cons (o_callN (fun i=>bif Nat.beq i 100000 then 100000 else i) 0 (num_Reader_Err_a_c h1) rfl (DLeL.refl _) (.cons rfl .nil) rfl (.cons rfl .nil))<|.cons (o_assign rfl)<|.nil _) ?_
 refine a_seq (ar (.cons (o_move rfl)<|.cons (o_int rfl rfl rfl)<|.cons (o_move rfl)<|.cons (o_guardG .bF rfl rfl (fun hb=>(.keep .nil)) (fun hb=>o_move rfl))<|.cons (o_guardG .bF rfl rfl (fun hb=>(.strip rfl hb .nil)) (fun hb=>o_nilCheck rfl))<|.cons (o_guardG .bF rfl rfl (fun hb=>(.strip rfl hb .nil)) (fun hb=>o_fieldAddr rfl))<|.cons (o_guardG .bF rfl rfl (fun hb=>(.strip rfl hb .nil)) (fun hb=>o_load_s rfl rfl rfl))<|.cons (o_guardG .bF rfl rfl (fun hb=>(.strip rfl hb .nil)) (fun hb=>t_len rfl))<|.cons (o_guardG .bF rfl rfl (fun hb=>(.strip rfl hb .nil)) (fun hb=>o_int rfl rfl rfl))<|.cons (o_or rfl rfl)<|.nil _) ?_)
 refine a_cond _ rfl (fun h3=>?_) (fun h3=>?_)
 ·replace hM:=(of_if hM).1 h3
  refine a_seq (ar (.cons (o_move rfl)<|.cons (o_assign rfl)<|.nil _) ?_)
  obtain rfl:=Option.some.inj hM
  refine a_imp (σ' := ⟨[(2,.int .i64 v2)],[(100000,some (.blk 221 (num_Reader.cs o0)))],[100000]⟩) (Imp.sh (fun i=>i) rfl rfl rfl rfl rfl rfl) ?_
  exact a_ret (a_post (.r1 (.tmp rfl)) (DLe.refl _) (PostOk.spec (.cons rfl .nil)))
 ·replace hM:=(of_if hM).2 h3
  refine a_skip (a_seq (ar (.cons (o_assign rfl)<|.nil _) ?_))
  obtain rfl:=Option.some.inj hM
  refine a_imp (σ' := ⟨[(2,.int .i64 6)],[(100000,some (.blk 221 (num_Reader.cs o0)))],[100000]⟩) (Imp.sh (fun i=>i) rfl rfl rfl rfl rfl rfl) ?_
  exact a_ret (a_post (.r1 (.tmp rfl)) (DLe.refl _) (PostOk.spec (.cons rfl .nil)))
def num_put_a_K1 (a1 : List Int) (a2 : Int) : Option (List Int) :=
 chk (apOk 1 (List.length a1 + List.length [(IntKind.wrap .u8 a2)]))<|
 some (a1++[(IntKind.wrap .u8 a2)])
def num_put_a_L2 (a4 : List Int) (a5 : Int) : Option (Ctl ((List Int) × Int) ((List Int) × Int)) :=
 if (decide (128≤a5)) = true then
  chk (apOk 1 (List.length a4 + List.length [(bitI .or .u8 (IntKind.wrap .u8 a5) 128)]))<|
  some (.next ((a4++[(bitI .or .u8 (IntKind.wrap .u8 a5) 128)]),(Int.fdiv a5 (2 ^ min (Int.toNat 7) (IntKind.bits .u64)))))
 else
  some (.done (a4,a5))
def num_put_a (x1 : Int) (o0 : List Int) : Option (List Int) :=
 (whileM (E:=(List Int) × Int) (fun s=>num_put_a_L2 s.1 s.2) (o0,x1)).bind fun e=>num_put_a_K1 e.1 e.2
theorem num_put_a_c {x1 : Int} {o0 : List Int} {r : (List Int)} (hM : num_put_a x1 o0 = some r) : ACall Tryz.prog 128 ⟨[.row 100000,.int .u64 x1],[(100000,some (.row 5 1 (List.map (DV.int .u8) o0)))],.row 50000,[(50000,some (.row 5 1 (List.map (DV.int .u8) r))),(100000,none)],[50000]⟩ := by
 unfold num_put_a at hM
 refine ACall.body Tryz.func128 Tryz.ntmps128 rfl rfl rfl rfl ?_
 refine a_seq (ar (.cons (o_assign rfl)<|.nil _) ?_)
 refine a_cut (α:=(List Int) × Int) (fun s=>⟨[(0,.row 10001),(1,.int .u64 s.2)],[(10001,some (.row 5 1 (List.map (DV.int .u8) s.1)))],[10001,100000]⟩) (fun s=>num_put_a_K1 s.1 s.2 = some r) ?_ ?_
 ·obtain ⟨e6,hL6,hK6⟩ := of_bind hM
  refine a_block (a_while (fun s : (List Int) × Int=>⟨[(0,.row 10002),(1,.int .u64 s.2)],[(10002,some (.row 5 1 (List.map (DV.int .u8) s.1)))],[10002,100000]⟩) _ hL6 (Imp.sh (fun i=>bif Nat.beq i 10002 then 100000 else i) rfl rfl rfl rfl rfl rfl) ?_)
  rintro ⟨a4,a5⟩ t7 hM hE6
  replace hM : num_put_a_L2 a4 a5 = some t7:=hM
  unfold num_put_a_L2 at hM
  refine a_seq (a_seq (ar (.cons (o_move rfl)<|.cons (o_int rfl rfl rfl)<|.nil _) ?_))
  refine a_cond _ rfl (fun h8=>?_) (fun h8=>?_)
  ·replace hM:=(of_if hM).1 h8
   refine a_skip (a_block (a_seq ?_))
   obtain ⟨h9,hM⟩ := of_chk hM
   refine ar (.cons (o_move rfl)<|.cons (o_move rfl)<|.cons (o_conv_w rfl)<|.cons (o_int rfl rfl rfl)<|.cons (t_build (DV.int .u8) ([(bitI .or .u8 (IntKind.wrap .u8 a5) 128)] : List Int) rfl rfl rfl rfl rfl rfl rfl)<|.cons (t_append [(bitI .or .u8 (IntKind.wrap .u8 a5) 128)] h9 rfl rfl rfl (Src.row rfl))<|.cons (o_assign rfl)<|.nil _) ?_
   refine ar (.cons (o_move rfl)<|.cons (o_shr rfl rfl (by decide))<|.cons (o_assign rfl)<|.nil _) ?_
   obtain rfl:=Option.some.inj hM
   exact ⟨((a4++[(bitI .or .u8 (IntKind.wrap .u8 a5) 128)]),(Int.fdiv a5 (2 ^ min (Int.toNat 7) (IntKind.bits .u64)))),rfl,(Imp.sh (fun i=>bif Nat.beq i 10002 then 12 else i) rfl rfl rfl rfl rfl rfl)⟩
  ·replace hM:=(of_if hM).2 h8
   refine a_exit ?_
   obtain rfl:=Option.some.inj hM
   obtain rfl:=hE6 _ rfl
   exact ⟨(a4,a5),hK6,(Imp.sh (fun i=>bif Nat.beq i 10001 then 10002 else i) rfl rfl rfl rfl rfl rfl)⟩
 ·rintro ⟨a1,a2⟩ hM
  replace hM : num_put_a_K1 a1 a2 = some r:=hM
  unfold num_put_a_K1 at hM
  refine a_seq ?_
  obtain ⟨h3,hM⟩ := of_chk hM
  refine ar (.cons (o_move rfl)<|.cons (o_move rfl)<|.cons (o_conv_w rfl)<|.cons (t_build (DV.int .u8) ([(IntKind.wrap .u8 a2)] : List Int) rfl rfl rfl rfl rfl rfl rfl)<|.cons (t_append [(IntKind.wrap .u8 a2)] h3 rfl rfl rfl (Src.row rfl))<|.cons (o_assign rfl)<|.nil _) ?_
  obtain rfl:=Option.some.inj hM
  refine a_imp (σ' := ⟨[(4,.row 50000)],[(50000,some (.row 5 1 (List.map (DV.int .u8) (a1++[(IntKind.wrap .u8 a2)]))))],[50000,100000]⟩) (Imp.sh (fun i=>bif Nat.beq i 50000 then 19 else i) rfl rfl rfl rfl rfl rfl) ?_
  exact a_ret (a_post (.r1 (.tmp rfl)) (DLe.refl _) (PostOk.spec (.cons rfl (.gone .nil))))
def num_PutUint (x0 : List Int) (x1 : Int) : Option (List Int) :=
 chk (mkOk 1 0 (IntKind.wrap .i64 ((List.length x0 : Int) + 10)))<|
 chk (apOk 1 (List.length ([] : List Int) + List.length x0))<|
 (num_put_a x1 (([] : List Int)++x0)).bind fun v4=>
 some v4
theorem num_PutUint_c {x0 : List Int} {x1 : Int} {r : (List Int)} (hM : num_PutUint x0 x1 = some r) : ACall Tryz.prog 82 ⟨[.sl 1 (List.map (DV.int .u8) x0),.int .u64 x1],[],.row 50000,[(50000,some (.row 5 1 (List.map (DV.int .u8) r)))],[50000]⟩ := by
 unfold num_PutUint at hM
 refine ACall.body Tryz.func82 Tryz.ntmps82 rfl rfl rfl rfl ?_
 refine a_seq (ar (.cons (o_assign rfl)<|.nil _) ?_)
 refine a_seq ?_
 obtain ⟨h1,hM⟩ := of_chk hM
 refine ar (.cons (o_move rfl)<|.cons (t_len rfl)<|.cons (o_int rfl rfl rfl)<|.cons (t_make (DV.int .u8) 0 h1 rfl rfl rfl rfl)<|.cons (o_assign rfl)<|.nil _) ?_
 refine a_seq ?_
 obtain ⟨h2,hM⟩ := of_chk hM
 obtain ⟨v4,h3,hM⟩ := of_bind hM
 refine ar (.cons (o_move rfl)<|.cons (o_move rfl)<|.cons (t_append x0 h2 rfl rfl rfl Src.sl)<|.cons (o_move rfl)<|.cons (o_callN (fun i=>bif Nat.beq i 50000 then 10001 else bif Nat.beq i 100000 then 12 else i) 2 (num_put_a_c h3) rfl (DLeL.refl _) (.cons rfl .nil) rfl .nil)<|.cons (o_assign rfl)<|.nil _) ?_
 obtain rfl:=Option.some.inj hM
 refine a_imp (σ' := ⟨[(4,.row 50000)],[(50000,some (.row 5 1 (List.map (DV.int .u8) v4)))],[50000]⟩) (Imp.sh (fun i=>bif Nat.beq i 50000 then 10001 else i) rfl rfl rfl rfl rfl rfl) ?_
 exact a_ret (a_post (.r1 (.tmp rfl)) (DLe.refl _) (PostOk.spec (.cons rfl .nil)))
def num_PutBytes (x0 : List Int) (x1 : List Int) : Option (List Int) :=
 chk (mkOk 1 0 (IntKind.wrap .i64 ((IntKind.wrap .i64 ((List.length x0 : Int) + 10)) + (List.length x1 : Int))))<|
 chk (apOk 1 (List.length ([] : List Int) + List.length x0))<|
 (num_put_a (IntKind.wrap .u64 (List.length x1 : Int)) (([] : List Int)++x0)).bind fun v4=>
 chk (apOk 1 (List.length v4 + List.length x1))<|
 some (v4++x1)
theorem num_PutBytes_c {x0 : List Int} {x1 : List Int} {r : (List Int)} (hM : num_PutBytes x0 x1 = some r) : ACall Tryz.prog 83 ⟨[.sl 1 (List.map (DV.int .u8) x0),.sl 1 (List.map (DV.int .u8) x1)],[],.row 50000,[(50000,some (.row 5 1 (List.map (DV.int .u8) r)))],[50000]⟩ := by
 unfold num_PutBytes at hM
 refine ACall.body Tryz.func83 Tryz.ntmps83 rfl rfl rfl rfl ?_
 refine a_seq (ar (.cons (o_assign rfl)<|.nil _) ?_)
 refine a_seq ?_
 obtain ⟨h1,hM⟩ := of_chk hM
 refine ar (.cons (o_move rfl)<|.cons (t_len rfl)<|.cons (o_int rfl rfl rfl)<|.cons (o_move rfl)<|.cons (t_len rfl)<|.cons (o_int rfl rfl rfl)<|.cons (t_make (DV.int .u8) 0 h1 rfl rfl rfl rfl)<|.cons (o_assign rfl)<|.nil _) ?_
 refine a_seq ?_
 obtain ⟨h2,hM⟩ := of_chk hM
 obtain ⟨v4,h3,hM⟩ := of_bind hM
 refine ar (.cons (o_move rfl)<|.cons (o_move rfl)<|.cons (t_append x0 h2 rfl rfl rfl Src.sl)<|.cons (o_move rfl)<|.cons (t_len rfl)<|.cons (o_conv_w rfl)<|.cons (o_callN (fun i=>bif Nat.beq i 50000 then 10001 else bif Nat.beq i 100000 then 15 else i) 2 (num_put_a_c h3) rfl (DLeL.refl _) (.cons rfl .nil) rfl .nil)<|.cons (o_assign rfl)<|.nil _) ?_
 refine a_seq ?_
 obtain ⟨h5,hM⟩ := of_chk hM
 refine ar (.cons (o_move rfl)<|.cons (o_move rfl)<|.cons (t_append x1 h5 rfl rfl rfl Src.sl)<|.cons (o_assign rfl)<|.nil _) ?_
 obtain rfl:=Option.some.inj hM
 refine a_imp (σ' := ⟨[(4,.row 50000)],[(50000,some (.row 5 1 (List.map (DV.int .u8) (v4++x1))))],[50000]⟩) (Imp.sh (fun i=>bif Nat.beq i 50000 then 22 else i) rfl rfl rfl rfl rfl rfl) ?_
 exact a_ret (a_post (.r1 (.tmp rfl)) (DLe.refl _) (PostOk.spec (.cons rfl .nil)))
def CColl_Bytes_a_K1 (a6 : List Int) : Option (List Int) :=
 some a6
def CColl_Bytes_a_K3 (a12 : List Int) : Option (List Int) :=
 some a12
def CColl_Bytes_a_L6 (a17 : List RRec) (k20 : Nat) (a21 : List Int) : Option (List Int) :=
 (idx a17 (k20 : Int)).bind fun v26=>
 (RRec_Bytes v26).bind fun v28=>
 (num_PutBytes a21 v28).bind fun v30=>
 some v30
def CColl_Bytes_a_K5 (a8 : List Int) (a17 : List RRec) : Option (List Int) :=
 (num_PutUint a8 (IntKind.wrap .u64 (List.length a17 : Int))).bind fun v19=>
 (foldM' 9223372036854775807 (List.length a17 : Int) (fun k20 s=>CColl_Bytes_a_L6 a17 k20 s) v19).bind fun s=>CColl_Bytes_a_K3 s
def CColl_Bytes_a_K4 (k7 : Nat) (a8 : List Int) (v14 : CPart) (a16 : List RRec) : Option (List Int) :=
 if v14.gknown = true then
  chk (apOk 248 (List.length a16 + List.length [(RRec.mk (k7 : Int) v14.gtotal (VClk.mk (arr 0 [0,0,0,0,0,0,0,0,0,0,0,0,0,0,0,0])) 3 (AEv.mk 0 0 0 0 0 0 0 0 []) 0)]))<|
  CColl_Bytes_a_K5 a8 (a16++[(RRec.mk (k7 : Int) v14.gtotal (VClk.mk (arr 0 [0,0,0,0,0,0,0,0,0,0,0,0,0,0,0,0])) 3 (AEv.mk 0 0 0 0 0 0 0 0 []) 0)])
 else
  CColl_Bytes_a_K5 a8 a16
def CColl_Bytes_a_L7 (k7 : Nat) (v14 : CPart) (k33 : Nat) (a34 : List RRec) : Option (List RRec) :=
 (idx v14.glost (k33 : Int)).bind fun v39=>
 chk (apOk 248 (List.length a34 + List.length [(RRec.mk (k7 : Int) v39.gfrom (VClk.mk (arr 0 [0,0,0,0,0,0,0,0,0,0,0,0,0,0,0,0])) 2 (AEv.mk 0 0 0 0 0 0 0 0 []) (IntKind.wrap .u64 (v39.gto - v39.gfrom)))]))<|
 some (a34++[(RRec.mk (k7 : Int) v39.gfrom (VClk.mk (arr 0 [0,0,0,0,0,0,0,0,0,0,0,0,0,0,0,0])) 2 (AEv.mk 0 0 0 0 0 0 0 0 []) (IntKind.wrap .u64 (v39.gto - v39.gfrom)))])
def CColl_Bytes_a_L2 (o0 : CColl) (k7 : Nat) (a8 : List Int) : Option (List Int) :=
 (idx o0.gparts (k7 : Int)).bind fun v14=>
 chk (apOk 248 (List.length v14.gentries))<|
 (foldM' 9223372036854775807 (List.length v14.glost : Int) (fun k33 s=>CColl_Bytes_a_L7 k7 v14 k33 s) v14.gentries).bind fun s=>CColl_Bytes_a_K4 k7 a8 v14 s
def CColl_Bytes_a (o0 : CColl) : Option (List Int) :=
 (CColl_Components_a o0).bind fun v3=>
 (num_PutUint ([] : List Int) (IntKind.wrap .u64 v3)).bind fun v5=>
 (foldM' 9223372036854775807 (List.length o0.gparts : Int) (fun k7 s=>CColl_Bytes_a_L2 o0 k7 s) v5).bind fun s=>CColl_Bytes_a_K1 s
theorem CColl_Bytes_a_c {o0 : CColl} {r : (List Int)} (hM : CColl_Bytes_a o0 = some r) : ACall Tryz.prog 43 ⟨[.ref 100000 0],[(100000,some (.blk 134 [.row 100001])),(100001,some (.row 137 4 (List.map CPart.dv o0.gparts)))],.row 50000,[(50000,some (.row 5 1 (List.map (DV.int .u8) r))),(100000,some (.blk 134 [.row 100001])),(100001,some (.row 137 4 (List.map CPart.dv o0.gparts)))],[50000]⟩ := by
 unfold CColl_Bytes_a at hM
 refine ACall.body Tryz.func43 Tryz.ntmps43 rfl rfl rfl rfl ?_
 refine a_seq (ar (.cons (o_assign rfl)<|.nil _) ?_)
 refine a_seq (a_seq (ar (.cons (o_move rfl)<|.cons (o_ptr_eq rfl)<|.nil _) ?_))
 refine a_cond _ rfl (fun c=>by cases c) (fun _=>?_)
 refine a_skip (a_seq ?_)
 obtain ⟨v3,h2,hM⟩ := of_bind hM
 obtain ⟨v5,h4,hM⟩ := of_bind hM
 refine ar (.cons (o_move rfl)<|.cons (o_callN (fun i=>bif Nat.beq i 100000 then 100000 else bif Nat.beq i 100001 then 100001 else i) 0 (CColl_Components_a_c h2) rfl (DLeL.refl _) (.cons rfl (.cons rfl .nil)) rfl (.cons rfl (.cons rfl .nil)))<|.cons (o_conv_w rfl)<|.cons (o_callN (fun i=>bif Nat.beq i 50000 then 16 else i) 1 (num_PutUint_c h4) rfl (.cons (DLe.nils _) (.cons (DLe.refl _) .nil)) .nil rfl .nil)<|.cons (o_assign rfl)<|.nil _) ?_
 refine a_cut (α:=(List Int)) (fun s=>⟨[(3,.row 10001)],[(10001,some (.row 5 1 (List.map (DV.int .u8) s))),(100000,some (.blk 134 [.row 100001])),(100001,some (.row 137 4 (List.map CPart.dv o0.gparts)))],[10001,100000,100001]⟩) (fun s=>CColl_Bytes_a_K1 s = some r) ?_ ?_
 ·refine a_seq (ar (.cons (o_move rfl)<|.cons (o_nilCheck rfl)<|.cons (o_fieldAddr rfl)<|.cons (o_load_s rfl rfl rfl)<|.cons (t_len_r rfl rfl)<|.cons (o_move rfl)<|.nil _) ?_)
  obtain ⟨a8,hL9,hK9⟩ := of_bind hM
  refine a_block ?_
  refine a_fold (fun k7 (s : (List Int))=>⟨[(3,.row 10002),(20,.row 100001),(21,.int .i64 (List.length o0.gparts : Int)),(22,.int .i64 (k7 : Int))],[(10002,some (.row 5 1 (List.map (DV.int .u8) s))),(100000,some (.blk 134 [.row 100001])),(100001,some (.row 137 4 (List.map CPart.dv o0.gparts)))],[10002,100000,100001]⟩) _ hL9 (Imp.sh (fun i=>bif Nat.beq i 10002 then 16 else i) rfl rfl rfl rfl rfl rfl) ?_ ?_
  ·rintro k7 a8 t10 hk7 hx7 hM
   replace hM : CColl_Bytes_a_L2 o0 k7 a8 = some t10:=hM
   unfold CColl_Bytes_a_L2 at hM
   refine a_seq (ar (.cons (o_int rfl rfl rfl)<|.nil _) ?_)
   refine a_seq ?_
   refine a_cond _ rfl (fun _=>?_) (fun c=>absurd hk7 (of_decide_eq_false c))
   refine a_skip ?_
   refine a_cut (α:=(List Int)) (fun s=>⟨[(3,.row 10003),(20,.row 100001),(21,.int .i64 (List.length o0.gparts : Int)),(22,.int .i64 (k7 : Int))],[(10003,some (.row 5 1 (List.map (DV.int .u8) s))),(100000,some (.blk 134 [.row 100001])),(100001,some (.row 137 4 (List.map CPart.dv o0.gparts)))],[10003,100000,100001]⟩) (fun s=>CColl_Bytes_a_K3 s = some t10) ?_ ?_
   ·refine a_block (a_seq ?_)
    obtain ⟨v14,h13,hM⟩ := of_bind hM
    refine ar (.cons (o_move rfl)<|.cons (t_index_r h13 rfl rfl rfl)<|.cons (t_load_pr h13 rfl rfl rfl rfl rfl)<|.cons (o_alloc rfl)<|.cons (o_assign rfl)<|.cons (o_store rfl rfl rfl rfl rfl rfl rfl)<|.nil _) ?_
    refine a_seq (ar (.cons (o_assign rfl)<|.nil _) ?_)
    refine a_seq ?_
    obtain ⟨h15,hM⟩ := of_chk hM
    refine ar (.cons (o_move rfl)<|.cons (o_fieldAddr rfl)<|.cons (o_load_s rfl rfl rfl)<|.cons (t_append_n RRec.dv v14.gentries h15 rfl rfl Src.sl)<|.cons (o_assign rfl)<|.nil _) ?_
    refine a_cut (α:=(List RRec)) (fun s=>⟨[(3,.sl 1 (List.map (DV.int .u8) a8)),(4,.int .i64 (k7 : Int)),(5,.ref 5 0),(6,.row 10004),(20,.row 100001),(21,.int .i64 (List.length o0.gparts : Int)),(22,.int .i64 (k7 : Int))],[(5,some (.blk 137 (CPart.cs v14))),(10004,some (.row 52 29 (List.map RRec.dv s))),(100000,some (.blk 134 [.row 100001])),(100001,some (.row 137 4 (List.map CPart.dv o0.gparts)))],[5,10004,100000,100001]⟩) (fun s=>CColl_Bytes_a_K4 k7 a8 v14 s = some t10) ?_ ?_
    ·refine a_seq (ar (.cons (o_fieldAddr rfl)<|.cons (o_load_s rfl rfl rfl)<|.cons (t_len rfl)<|.cons (o_move rfl)<|.nil _) ?_)
     obtain ⟨a34,hL35,hK35⟩ := of_bind hM
     refine a_block ?_
     refine a_fold (fun k33 (s : (List RRec))=>⟨[(3,.sl 1 (List.map (DV.int .u8) a8)),(4,.int .i64 (k7 : Int)),(5,.ref 5 0),(6,.row 10006),(20,.row 100001),(21,.int .i64 (List.length o0.gparts : Int)),(22,.int .i64 (k7 : Int)),(32,.sl 2 (List.map CSpan.dv v14.glost)),(33,.int .i64 (List.length v14.glost : Int)),(34,.int .i64 (k33 : Int))],[(5,some (.blk 137 (CPart.cs v14))),(10006,some (.row 52 29 (List.map RRec.dv s))),(100000,some (.blk 134 [.row 100001])),(100001,some (.row 137 4 (List.map CPart.dv o0.gparts)))],[5,10006,100000,100001]⟩) _ hL35 ((Imp.freeze (id:=10002) rfl).trans (Imp.sh (fun i=>bif Nat.beq i 10006 then 30 else i) rfl rfl rfl rfl rfl rfl)) ?_ ?_
     ·rintro k33 a34 t36 hk33 hx33 hM
      replace hM : CColl_Bytes_a_L7 k7 v14 k33 a34 = some t36:=hM
      unfold CColl_Bytes_a_L7 at hM
      refine a_seq (ar (.cons (o_int rfl rfl rfl)<|.nil _) ?_)
      refine a_seq ?_
      refine a_cond _ rfl (fun _=>?_) (fun c=>absurd hk33 (of_decide_eq_false c))
      refine a_skip (a_seq (a_block (a_seq ?_)))
      obtain ⟨v39,h38,hM⟩ := of_bind hM
      refine ar (.cons (t_index h38 rfl rfl rfl)<|.cons (o_load_er rfl rfl rfl)<|.cons (o_alloc rfl)<|.cons (o_store rfl rfl rfl rfl rfl rfl rfl)<|.nil _) ?_
      obtain ⟨h40,hM⟩ := of_chk hM
      refine ar (.cons (o_move rfl)<|.cons (o_move rfl)<|.cons (o_fieldAddr rfl)<|.cons (o_load_s rfl rfl rfl)<|.cons (o_fieldAddr rfl)<|.cons (o_load_s rfl rfl rfl)<|.cons (o_fieldAddr rfl)<|.cons (o_load_s rfl rfl rfl)<|.cons (o_int rfl rfl rfl)<|.cons (o_build rfl rfl rfl)<|.cons (t_buildW RRec.dv ([(RRec.mk (k7 : Int) v39.gfrom (VClk.mk (arr 0 [0,0,0,0,0,0,0,0,0,0,0,0,0,0,0,0])) 2 (AEv.mk 0 0 0 0 0 0 0 0 []) (IntKind.wrap .u64 (v39.gto - v39.gfrom)))] : List RRec) rfl rfl rfl rfl rfl rfl (.cons (DLe.agg (.cons (DLe.refl _) (.cons (DLe.refl _) (.cons (DLe.refl _) (.cons (DLe.refl _) (.cons (DLe.refl _) (.cons (DLe.refl _) (.cons (DLe.refl _) (.cons (DLe.refl _) (.cons (DLe.refl _) (.cons (DLe.refl _) (.cons (DLe.refl _) (.cons (DLe.refl _) (.cons (DLe.refl _) (.cons (DLe.refl _) (.cons (DLe.refl _) (.cons (DLe.refl _) (.cons (DLe.refl _) (.cons (DLe.refl _) (.cons (DLe.refl _) (.cons (DLe.refl _) (.cons (DLe.refl _) (.cons (DLe.refl _) (.cons (DLe.refl _) (.cons (DLe.refl _) (.cons (DLe.refl _) (.cons (DLe.refl _) (.cons (DLe.refl _) (.cons (DLe.nils _) (.cons (DLe.refl _) .nil)))))))))))))))))))))))))))))) .nil))<|.cons (t_append [(RRec.mk (k7 : Int) v39.gfrom (VClk.mk (arr 0 [0,0,0,0,0,0,0,0,0,0,0,0,0,0,0,0])) 2 (AEv.mk 0 0 0 0 0 0 0 0 []) (IntKind.wrap .u64 (v39.gto - v39.gfrom)))] h40 rfl rfl rfl (Src.row rfl))<|.cons (o_assign rfl)<|.nil _) ?_
      refine ar (.cons (o_add rfl rfl (inR_i64 hk33 hx33))<|.cons (o_move rfl)<|.nil _) ?_
      obtain rfl:=Option.some.inj hM
      exact (Imp.of (fun i=>bif Nat.beq i 10006 then 49 else i) (.cons rfl (DLe.refl _) (.cons rfl (DLe.refl _) (.cons rfl (DLe.refl _) (.cons rfl (DLe.refl _) (.cons rfl (DLe.refl _) (.cons rfl (DLe.refl _) (.cons rfl (DLe.refl _) (.cons rfl (DLe.refl _) (.cons rfl (DLe.refl _) (.cons rfl (DLe.succ _ _) .nil)))))))))) (.cons rfl (.refl _) (.cons rfl (.refl _) (.cons rfl (.refl _) (.cons rfl (.refl _) .nil)))) rfl rfl rfl)
     ·rintro k33 hk33 hx33
      refine a_seq (ar (.cons (o_int rfl rfl rfl)<|.nil _) ?_)
      refine a_seq ?_
      refine a_cond _ rfl (fun c=>absurd (of_decide_eq_true c) (Int.not_lt.2 hk33)) (fun _=>?_)
      refine a_exit ?_
      exact ⟨a34,hK35,(Imp.sh (fun i=>bif Nat.beq i 10004 then 10006 else i) rfl rfl rfl rfl rfl rfl)⟩
    ·rintro a16 hM
     replace hM : CColl_Bytes_a_K4 k7 a8 v14 a16 = some t10:=hM
     unfold CColl_Bytes_a_K4 at hM
     refine a_cut (α:=(List RRec)) (fun s=>⟨[(3,.sl 1 (List.map (DV.int .u8) a8)),(6,.sl 29 (List.map RRec.dv s)),(20,.row 100001),(21,.int .i64 (List.length o0.gparts : Int)),(22,.int .i64 (k7 : Int))],[(100000,some (.blk 134 [.row 100001])),(100001,some (.row 137 4 (List.map CPart.dv o0.gparts)))],[100000,100001]⟩) (fun s=>CColl_Bytes_a_K5 a8 s = some t10) ?_ ?_
     ·refine a_seq (ar (.cons (o_fieldAddr rfl)<|.cons (o_load_s rfl rfl rfl)<|.nil _) ?_)
      refine a_cond _ rfl (fun h31=>?_) (fun h31=>?_)
      ·replace hM:=(of_if hM).1 h31
       obtain ⟨h32,hM⟩ := of_chk hM
       refine ar (.cons (o_move rfl)<|.cons (o_move rfl)<|.cons (o_fieldAddr rfl)<|.cons (o_load_s rfl rfl rfl)<|.cons (o_build rfl rfl rfl)<|.cons (t_buildW RRec.dv ([(RRec.mk (k7 : Int) v14.gtotal (VClk.mk (arr 0 [0,0,0,0,0,0,0,0,0,0,0,0,0,0,0,0])) 3 (AEv.mk 0 0 0 0 0 0 0 0 []) 0)] : List RRec) rfl rfl rfl rfl rfl rfl (.cons (DLe.agg (.cons (DLe.refl _) (.cons (DLe.refl _) (.cons (DLe.refl _) (.cons (DLe.refl _) (.cons (DLe.refl _) (.cons (DLe.refl _) (.cons (DLe.refl _) (.cons (DLe.refl _) (.cons (DLe.refl _) (.cons (DLe.refl _) (.cons (DLe.refl _) (.cons (DLe.refl _) (.cons (DLe.refl _) (.cons (DLe.refl _) (.cons (DLe.refl _) (.cons (DLe.refl _) (.cons (DLe.refl _) (.cons (DLe.refl _) (.cons (DLe.refl _) (.cons (DLe.refl _) (.cons (DLe.refl _) (.cons (DLe.refl _) (.cons (DLe.refl _) (.cons (DLe.refl _) (.cons (DLe.refl _) (.cons (DLe.refl _) (.cons (DLe.refl _) (.cons (DLe.nils _) (.cons (DLe.refl _) .nil)))))))))))))))))))))))))))))) .nil))<|.cons (t_append [(RRec.mk (k7 : Int) v14.gtotal (VClk.mk (arr 0 [0,0,0,0,0,0,0,0,0,0,0,0,0,0,0,0])) 3 (AEv.mk 0 0 0 0 0 0 0 0 []) 0)] h32 rfl rfl rfl (Src.row rfl))<|.cons (o_assign rfl)<|.nil _) ?_
       exact ⟨(a16++[(RRec.mk (k7 : Int) v14.gtotal (VClk.mk (arr 0 [0,0,0,0,0,0,0,0,0,0,0,0,0,0,0,0])) 3 (AEv.mk 0 0 0 0 0 0 0 0 []) 0)]),hM,((Imp.freeze (id:=59) rfl).trans (Imp.sh (fun i=>i) rfl rfl rfl rfl rfl rfl))⟩
      ·replace hM:=(of_if hM).2 h31
       refine a_skip ?_
       exact ⟨a16,hM,((Imp.freeze (id:=10004) rfl).trans (Imp.sh (fun i=>i) rfl rfl rfl rfl rfl rfl))⟩
     ·rintro a17 hM
      replace hM : CColl_Bytes_a_K5 a8 a17 = some t10:=hM
      unfold CColl_Bytes_a_K5 at hM
      refine a_seq ?_
      obtain ⟨v19,h18,hM⟩ := of_bind hM
      refine ar (.cons (o_move rfl)<|.cons (o_move rfl)<|.cons (t_len rfl)<|.cons (o_conv_w rfl)<|.cons (o_callN (fun i=>bif Nat.beq i 50000 then 64 else i) 1 (num_PutUint_c h18) rfl (DLeL.refl _) .nil rfl .nil)<|.cons (o_assign rfl)<|.nil _) ?_
      refine a_seq (ar (.cons (o_move rfl)<|.cons (t_len rfl)<|.cons (o_move rfl)<|.nil _) ?_)
      obtain ⟨a21,hL22,hK22⟩ := of_bind hM
      refine a_block ?_
      refine a_fold (fun k20 (s : (List Int))=>⟨[(3,.row 10005),(20,.row 100001),(21,.int .i64 (List.length o0.gparts : Int)),(22,.int .i64 (k7 : Int)),(65,.sl 29 (List.map RRec.dv a17)),(66,.int .i64 (List.length a17 : Int)),(67,.int .i64 (k20 : Int))],[(10005,some (.row 5 1 (List.map (DV.int .u8) s))),(100000,some (.blk 134 [.row 100001])),(100001,some (.row 137 4 (List.map CPart.dv o0.gparts)))],[10005,100000,100001]⟩) _ hL22 (Imp.sh (fun i=>bif Nat.beq i 10005 then 64 else i) rfl rfl rfl rfl rfl rfl) ?_ ?_
      ·rintro k20 a21 t23 hk20 hx20 hM
       replace hM : CColl_Bytes_a_L6 a17 k20 a21 = some t23:=hM
       unfold CColl_Bytes_a_L6 at hM
       refine a_seq (ar (.cons (o_int rfl rfl rfl)<|.nil _) ?_)
       refine a_seq ?_
       refine a_cond _ rfl (fun _=>?_) (fun c=>absurd hk20 (of_decide_eq_false c))
       refine a_skip (a_seq (a_block (a_seq ?_)))
       obtain ⟨v26,h25,hM⟩ := of_bind hM
       refine ar (.cons (t_index h25 rfl rfl rfl)<|.cons (o_load_er rfl rfl rfl)<|.cons (o_alloc rfl)<|.cons (o_store rfl rfl rfl rfl rfl rfl rfl)<|.nil _) ?_
       refine a_imp (Imp.freeze (id:=10005) rfl) ?_
       obtain ⟨v28,h27,hM⟩ := of_bind hM
       obtain ⟨v30,h29,hM⟩ := of_bind hM
       refine ar (.cons (o_move rfl)<|.cons (o_load_r rfl rfl rfl rfl)<|.cons (o_call (RRec_Bytes_c h27) rfl (DLeL.refl _) rfl)<|.cons (o_callN (fun i=>bif Nat.beq i 50000 then 74 else i) 1 (num_PutBytes_c h29) rfl (DLeL.refl _) .nil rfl .nil)<|.cons (o_assign rfl)<|.nil _) ?_
       refine ar (.cons (o_add rfl rfl (inR_i64 hk20 hx20))<|.cons (o_move rfl)<|.nil _) ?_
       obtain rfl:=Option.some.inj hM
       exact (Imp.of (fun i=>bif Nat.beq i 10005 then 74 else i) (.cons rfl (DLe.refl _) (.cons rfl (DLe.refl _) (.cons rfl (DLe.refl _) (.cons rfl (DLe.refl _) (.cons rfl (DLe.refl _) (.cons rfl (DLe.refl _) (.cons rfl (DLe.succ _ _) .nil))))))) (.cons rfl (.refl _) (.cons rfl (.refl _) (.cons rfl (.refl _) .nil))) rfl rfl rfl)
      ·rintro k20 hk20 hx20
       refine a_seq (ar (.cons (o_int rfl rfl rfl)<|.nil _) ?_)
       refine a_seq ?_
       refine a_cond _ rfl (fun c=>absurd (of_decide_eq_true c) (Int.not_lt.2 hk20)) (fun _=>?_)
       refine a_exit ?_
       exact ⟨a21,hK22,(Imp.sh (fun i=>bif Nat.beq i 10003 then 10005 else i) rfl rfl rfl rfl rfl rfl)⟩
   ·rintro a12 hM
    replace hM : CColl_Bytes_a_K3 a12 = some t10:=hM
    unfold CColl_Bytes_a_K3 at hM
    refine ar (.cons (o_add rfl rfl (inR_i64 hk7 hx7))<|.cons (o_move rfl)<|.nil _) ?_
    obtain rfl:=Option.some.inj hM
    exact (Imp.of (fun i=>bif Nat.beq i 10002 then 10003 else i) (.cons rfl (DLe.refl _) (.cons rfl (DLe.refl _) (.cons rfl (DLe.refl _) (.cons rfl (DLe.succ _ _) .nil)))) (.cons rfl (.refl _) (.cons rfl (.refl _) (.cons rfl (.refl _) .nil))) rfl rfl rfl)
  ·rintro k7 hk7 hx7
   refine a_seq (ar (.cons (o_int rfl rfl rfl)<|.nil _) ?_)
   refine a_seq ?_
   refine a_cond _ rfl (fun c=>absurd (of_decide_eq_true c) (Int.not_lt.2 hk7)) (fun _=>?_)
   refine a_exit ?_
   exact ⟨a8,hK9,(Imp.sh (fun i=>bif Nat.beq i 10001 then 10002 else i) rfl rfl rfl rfl rfl rfl)⟩
 ·rintro a6 hM
  replace hM : CColl_Bytes_a_K1 a6 = some r:=hM
  unfold CColl_Bytes_a_K1 at hM
  refine a_seq (ar (.cons (o_move rfl)<|.cons (o_assign rfl)<|.nil _) ?_)
  obtain rfl:=Option.some.inj hM
  refine a_imp (σ' := ⟨[(2,.row 50000)],[(50000,some (.row 5 1 (List.map (DV.int .u8) a6))),(100000,some (.blk 134 [.row 100001])),(100001,some (.row 137 4 (List.map CPart.dv o0.gparts)))],[50000,100000,100001]⟩) (Imp.sh (fun i=>bif Nat.beq i 50000 then 10001 else i) rfl rfl rfl rfl rfl rfl) ?_
  exact a_ret (a_post (.r1 (.tmp rfl)) (DLe.refl _) (PostOk.spec (.cons rfl (.cons rfl (.cons rfl .nil)))))
def bytes_Equal (x0 : List Int) (x1 : List Int) : Option Bool :=
 some ((strOfNums x0).toList == (strOfNums x1).toList)
theorem bytes_Equal_c {x0 : List Int} {x1 : List Int} {r : Bool} (hM : bytes_Equal x0 x1 = some r) : PCall Tryz.prog 88 [.sl 1 (List.map (DV.int .u8) x0),.sl 1 (List.map (DV.int .u8) x1)] (.bool r):=by
 unfold bytes_Equal at hM
 refine PCall.body Tryz.func88 Tryz.ntmps88 rfl rfl rfl rfl ?_
 refine a_seq (ar (.cons (o_assign rfl)<|.nil _) ?_)
 refine a_seq (ar (.cons (o_move rfl)<|.cons (o_b2s x0 rfl Src.sl)<|.cons (o_move rfl)<|.cons (o_b2s x1 rfl Src.sl)<|.cons (o_streq rfl rfl)<|.cons (o_assign rfl)<|.nil _) ?_)
 obtain rfl:=Option.some.inj hM
 exact a_ret (a_post (.r1 (.tmp rfl)) (DLe.refl _) PostOk.nil.spec)
def collect_Read_K1 (x0 : List Int) (a8 : List Int) (a9 : Int) (a10 : List CPart) : Option ((CColl) ⊕ (Unit)) :=
 (num_Reader_End_a (num_Reader.mk a8 a9)).bind fun v12=>
 if (!(v12 != 0)) = true then
  (CColl_Bytes_a (CColl.mk a10)).bind fun v14=>
  (bytes_Equal v14 x0).bind fun v16=>
  if ((v12 != 0) || (!v16)) = true then
   some (.inr ())
  else
   some (.inl (CColl.mk a10))
 else
  if ((v12 != 0) || false) = true then
   some (.inr ())
  else
   some (.inl (CColl.mk a10))
def collect_Read_L2 (k18 : Nat) (a19 : List Int) (a20 : Int) (a21 : List CPart) : Option (Ctl ((List Int) × Int × (List CPart)) ((CColl) ⊕ (Unit))) :=
 (collect_readPart_a (k18 : Int) (num_Reader.mk a19 a20)).bind fun v26=>
 (idx a21 (k18 : Int)).bind fun v28=>
 if (!v26.2.1) = true then
  some (.done (.inr ()))
 else
  some (.next (v26.2.2.gp,v26.2.2.gerr,(List.set a21 (Int.toNat (k18 : Int)) v26.1)))
def collect_Read (x0 : List Int) : Option ((CColl) ⊕ (Unit)) :=
 (num_NewReader x0).bind fun v2=>
 (num_Reader_Uint_a 8 v2).bind fun v4=>
 (collect_New (IntKind.wrap .i64 v4.1)).bind fun v6=>
 match v6 with
 | .inl v6_0=>
  (forM' (E:=(CColl) ⊕ (Unit)) 9223372036854775807 (List.length v6_0.gparts : Int) (fun k18 s=>collect_Read_L2 k18 s.1 s.2.1 s.2.2) (v4.2.gp,v4.2.gerr,v6_0.gparts)).bind fun
   | .next s=>collect_Read_K1 x0 s.1 s.2.1 s.2.2
   | .done r=>some r
 | .inr v6_1=>
  some (.inr ())
theorem collect_Read_c0 {x0 : List Int} {r : CColl} (hM : collect_Read x0 = some (.inl r)) : ACall Tryz.prog 44 ⟨[.sl 1 (List.map (DV.int .u8) x0)],[],.tup [.ref 50000 0,.int .i64 0],[(50000,some (.blk 134 [.row 50001])),(50001,some (.row 137 4 (List.map CPart.dv r.gparts)))],[50000,50001]⟩ := by
 unfold collect_Read at hM
 refine ACall.body Tryz.func44 Tryz.ntmps44 rfl rfl rfl rfl ?_
 refine a_seq (ar (.cons (o_assign rfl)<|.cons (o_assign rfl)<|.nil _) ?_)
 refine a_seq ?_
 obtain ⟨v2,h1,hM⟩ := of_bind hM
 refine ar (.cons (o_move rfl)<|.cons (o_callN (fun i=>bif Nat.beq i 50000 then 10001 else i) 1 (num_NewReader_c h1) rfl (DLeL.refl _) .nil rfl .nil)<|.cons (o_assign rfl)<|.nil _) ?_
 refine a_seq ?_
 obtain ⟨v4,h3,hM⟩ := of_bind hM
 obtain ⟨v6,h5,hM⟩ := of_bind hM
 rcases v6 with v6_0 | v6_1
 ·refine ar (.cons (o_move rfl)<|.cons (o_callN (fun i=>bif Nat.beq i 100000 then 10001 else i) 1 (num_Reader_Uint_a_c h3) rfl (DLeL.refl _) (.cons rfl .nil) rfl .nil)<|.cons (o_conv_w rfl)<|.cons (o_callN (fun i=>bif Nat.beq i 50001 then 10003 else bif Nat.beq i 50000 then 10002 else i) 2 (collect_New_c0 h5) rfl (DLeL.refl _) .nil rfl .nil)<|.cons (o_move rfl)<|.cons (o_extract rfl rfl)<|.cons (o_extract rfl rfl)<|.cons (o_assign rfl)<|.cons (o_assign rfl)<|.nil _) ?_
  refine a_seq (a_seq (ar (.cons (o_move rfl)<|.cons (o_int rfl rfl rfl)<|.nil _) ?_))
  refine a_cond _ rfl (fun c=>by cases c) (fun _=>?_)
  refine a_skip ?_
  refine a_cut (α:=(List Int) × Int × (List CPart)) (fun s=>⟨[(0,.sl 1 (List.map (DV.int .u8) x0)),(4,.ref 10001 0),(5,.ref 10002 0)],[(10001,some (.blk 221 [.sl 1 (List.map (DV.int .u8) s.1),.int .i64 s.2.1])),(10002,some (.blk 134 [.row 10004])),(10004,some (.row 137 4 (List.map CPart.dv s.2.2)))],[10001,10002,10004]⟩) (fun s=>collect_Read_K1 x0 s.1 s.2.1 s.2.2 = some (.inl r)) ?_ ?_
  ·refine a_seq (ar (.cons (o_move rfl)<|.cons (o_nilCheck rfl)<|.cons (o_fieldAddr rfl)<|.cons (o_load_s rfl rfl rfl)<|.cons (t_len_r rfl rfl)<|.cons (o_move rfl)<|.nil _) ?_)
   obtain ⟨t22,hL22,hK22⟩ := of_bind hM
   refine a_block ?_
   refine a_for (fun k18 (s : (List Int) × Int × (List CPart))=>⟨[(0,.sl 1 (List.map (DV.int .u8) x0)),(4,.ref 10001 0),(5,.ref 10002 0),(24,.int .i64 (List.length v6_0.gparts : Int)),(25,.int .i64 (k18 : Int))],[(10001,some (.blk 221 [.sl 1 (List.map (DV.int .u8) s.1),.int .i64 s.2.1])),(10002,some (.blk 134 [.row 10005])),(10005,some (.row 137 4 (List.map CPart.dv s.2.2)))],[10001,10002,10005]⟩) _ hL22 (Imp.sh (fun i=>bif Nat.beq i 10005 then 10003 else i) rfl rfl rfl rfl rfl rfl) ?_ ?_
   ·rintro k18 ⟨a19,a20,a21⟩ t23 hk18 hx18 hM hE22
    replace hM : collect_Read_L2 k18 a19 a20 a21 = some t23:=hM
    unfold collect_Read_L2 at hM
    refine a_seq (ar (.cons (o_int rfl rfl rfl)<|.nil _) ?_)
    refine a_seq ?_
    refine a_cond _ rfl (fun _=>?_) (fun c=>absurd hk18 (of_decide_eq_false c))
    refine a_skip (a_seq (a_block (a_seq (ar (.cons (o_move rfl)<|.cons (o_assign rfl)<|.nil _) ?_))))
    refine a_seq (ar (.cons (o_assign rfl)<|.nil _) ?_)
    refine a_seq ?_
    obtain ⟨v26,h25,hM⟩ := of_bind hM
    obtain ⟨v28,h27,hM⟩ := of_bind hM
    refine ad mixed (.cons (o_move rfl)<|.cons (o_nilCheck rfl)<|.cons (o_fieldAddr rfl)<|.cons (o_load_s rfl rfl rfl)<|.cons (o_move rfl)<|.cons (o_move rfl)<|.cons (o_move rfl)<|.cons (o_callN (fun i=>bif Nat.beq i 100000 then 10001 else i) 1 (collect_readPart_a_c h25) rfl (DLeL.refl _) (.cons rfl .nil) rfl .nil)<|.cons (o_move rfl)<|.cons (o_extract rfl rfl)<|.cons (o_extract rfl rfl)<|.cons (t_index_r h27 rfl rfl rfl)<|.cons (t_store_p v26.1 h27 rfl rfl rfl rfl rfl rfl rfl rfl rfl rfl rfl)<|.cons (o_assign rfl)<|.nil _) ?_
    refine a_seq (ar (.cons (o_move rfl)<|.cons (o_not rfl)<|.nil _) ?_)
    refine a_cond _ rfl (fun h29=>?_) (fun h29=>?_)
    ·replace hM:=(of_if hM).1 h29
     refine a_seq (ar (.cons (o_assign rfl)<|.cons (o_assign rfl)<|.nil _) ?_)
     obtain rfl:=Option.some.inj hM
     obtain rfl:=hE22 _ rfl
     cases hK22
    ·replace hM:=(of_if hM).2 h29
     refine a_skip (ar (.cons (o_add rfl rfl (inR_i64 hk18 hx18))<|.cons (o_move rfl)<|.nil _) ?_)
     obtain rfl:=Option.some.inj hM
     exact ⟨(v26.2.2.gp,v26.2.2.gerr,(List.set a21 (Int.toNat (k18 : Int)) v26.1)),rfl,(Imp.of (fun i=>i) (.cons rfl (DLe.refl _) (.cons rfl (DLe.refl _) (.cons rfl (DLe.refl _) (.cons rfl (DLe.refl _) (.cons rfl (DLe.succ _ _) .nil))))) (.cons rfl (.refl _) (.cons rfl (.refl _) (.cons rfl (.refl _) .nil))) rfl rfl rfl)⟩
   ·rintro k18 ⟨a19,a20,a21⟩ hk18 hx18 rfl
    refine a_seq (ar (.cons (o_int rfl rfl rfl)<|.nil _) ?_)
    refine a_seq ?_
    refine a_cond _ rfl (fun c=>absurd (of_decide_eq_true c) (Int.not_lt.2 hk18)) (fun _=>?_)
    refine a_exit ?_
    exact ⟨(a19,a20,a21),hK22,(Imp.sh (fun i=>bif Nat.beq i 10004 then 10005 else i) rfl rfl rfl rfl rfl rfl)⟩
  ·rintro ⟨a8,a9,a10⟩ hM
   replace hM : collect_Read_K1 x0 a8 a9 a10 = some (.inl r):=hM
   unfold collect_Read_K1 at hM
   refine a_seq (a_seq ?_)
   obtain ⟨v12,h11,hM⟩ := of_bind hM
   by_cases hd13 : (!(v12 != 0)) = true
   ·replace hM:=(of_if hM).1 hd13
    obtain ⟨v14,h13,hM⟩ := of_bind hM
    obtain ⟨v16,h15,hM⟩ := of_bind hM
    refine ar (.cons (o_move rfl)<|.cons (o_callN (fun i=>bif Nat.beq i 100000 then 10001 else i) 0 (num_Reader_End_a_c h11) rfl (DLeL.refl _) (.cons rfl .nil) rfl (.cons rfl .nil))<|.cons (o_int rfl rfl rfl)<|.cons (o_move rfl)<|.cons (o_guardG .bF rfl rfl (fun hb=>(.keep .nil)) (fun hb=>o_move rfl))<|.cons (o_guardOn .bF rfl rfl hd13 (.strip rfl hd13 .nil) (o_frz (o_callN (fun i=>bif Nat.beq i 50000 then 48 else bif Nat.beq i 100000 then 10002 else bif Nat.beq i 100001 then 10004 else i) 1 (CColl_Bytes_a_c h13) rfl (DLeL.refl _) (.cons rfl (.cons rfl .nil)) rfl (.cons rfl (.cons rfl .nil)))))<|.cons (o_guardOn .bF rfl rfl hd13 (.keep .nil) (o_move rfl))<|.cons (o_guardOn .bF rfl rfl hd13 (.strip rfl hd13 (.strip rfl hd13 .nil)) (o_call (bytes_Equal_c h15) rfl (DLeL.refl _) rfl))<|.cons (o_guardOn .bF rfl rfl hd13 (.strip rfl hd13 .nil) (o_not rfl))<|.cons (o_or rfl rfl)<|.nil _) ?_
    refine a_cond _ rfl (fun h17=>?_) (fun h17=>?_)
    ·replace hM:=(of_if hM).1 h17
     refine a_seq (ar (.cons (o_assign rfl)<|.cons (o_assign rfl)<|.nil _) ?_)
     cases hM
    ·replace hM:=(of_if hM).2 h17
     refine a_skip (a_seq (ar (.cons (o_move rfl)<|.cons (o_assign rfl)<|.cons (o_assign rfl)<|.nil _) ?_))
     obtain rfl:=Sum.inl.inj (Option.some.inj hM)
     refine a_imp (σ' := ⟨[(2,.ref 50000 0),(3,.int .i64 0)],[(50000,some (.blk 134 [.row 50001])),(50001,some (.row 137 4 (List.map CPart.dv ((CColl.mk a10).gparts))))],[50000,50001]⟩) (Imp.sh (fun i=>bif Nat.beq i 50001 then 10004 else bif Nat.beq i 50000 then 10002 else i) rfl rfl rfl rfl rfl rfl) ?_
     exact a_ret (a_post (.r2 (.tmp rfl) (.tmp rfl)) (DLe.refl _) (PostOk.spec (.cons rfl (.cons rfl .nil))))
   ·replace hd13:=Bool.eq_false_iff.2 hd13
    replace hM:=(of_if hM).2 hd13
    refine ar (.cons (o_move rfl)<|.cons (o_callN (fun i=>bif Nat.beq i 100000 then 10001 else i) 0 (num_Reader_End_a_c h11) rfl (DLeL.refl _) (.cons rfl .nil) rfl (.cons rfl .nil))<|.cons (o_int rfl rfl rfl)<|.cons (o_move rfl)<|.cons (o_guardG .bF rfl rfl (fun hb=>(.keep .nil)) (fun hb=>o_move rfl))<|.cons (o_guardOff (.nils) .bF rfl rfl hd13)<|.cons (o_guardOff (.nils) .bF rfl rfl hd13)<|.cons (o_guardOff (.bool false) .bF rfl rfl hd13)<|.cons (o_guardOff (.bool false) .bF rfl rfl hd13)<|.cons (o_or rfl rfl)<|.nil _) ?_
    refine a_cond _ rfl (fun h13=>?_) (fun h13=>?_)
    ·replace hM:=(of_if hM).1 h13
     refine a_seq (ar (.cons (o_assign rfl)<|.cons (o_assign rfl)<|.nil _) ?_)
     cases hM
    ·replace hM:=(of_if hM).2 h13
     refine a_skip (a_seq (ar (.cons (o_move rfl)<|.cons (o_assign rfl)<|.cons (o_assign rfl)<|.nil _) ?_))
     obtain rfl:=Sum.inl.inj (Option.some.inj hM)
     refine a_imp (σ' := ⟨[(2,.ref 50000 0),(3,.int .i64 0)],[(50000,some (.blk 134 [.row 50001])),(50001,some (.row 137 4 (List.map CPart.dv ((CColl.mk a10).gparts))))],[50000,50001]⟩) (Imp.sh (fun i=>bif Nat.beq i 50001 then 10004 else bif Nat.beq i 50000 then 10002 else i) rfl rfl rfl rfl rfl rfl) ?_
     exact a_ret (a_post (.r2 (.tmp rfl) (.tmp rfl)) (DLe.refl _) (PostOk.spec (.cons rfl (.cons rfl .nil))))
 ·refine ar (.cons (o_move rfl)<|.cons (o_callN (fun i=>bif Nat.beq i 100000 then 10001 else i) 1 (num_Reader_Uint_a_c h3) rfl (DLeL.refl _) (.cons rfl .nil) rfl .nil)<|.cons (o_conv_w rfl)<|.cons (o_callN (fun i=>i) 0 (collect_New_c1 h5) rfl (DLeL.refl _) .nil rfl .nil)<|.cons (o_move rfl)<|.cons (o_extract rfl rfl)<|.cons (o_extract rfl rfl)<|.cons (o_assign rfl)<|.cons (o_assign rfl)<|.nil _) ?_
  refine a_seq (a_seq (ar (.cons (o_move rfl)<|.cons (o_int rfl rfl rfl)<|.nil _) ?_))
  refine a_cond _ rfl (fun _=>?_) (fun c=>by cases c)
  refine a_seq (ar (.cons (o_assign rfl)<|.cons (o_assign rfl)<|.nil _) ?_)
  cases hM
set_option maxHeartbeats 1000000
theorem pow128 {k : Nat} (h : k≤9) : (0 : Int) < 128 ^ k∧(128 : Int) ^ k≤9223372036854775808:=by
 have : k = 0∨k = 1∨k = 2∨k = 3∨k = 4∨k = 5∨k = 6∨k = 7∨k = 8∨k = 9:=by omega
 rcases this with rfl | rfl | rfl | rfl | rfl | rfl | rfl | rfl | rfl | rfl <;> decide
theorem Uint_eq (xs : List Int) (hx : ∀ b∈xs,Byt b) (hl : xs.length≤9223372036854775807) : num_Uint xs = some (uintD xs):=by
 have hInd:=forM_ind (S:=Int) (E:=Int × Int × Int) (mx:=9223372036854775807) (n:=(List.length xs : Int)) (body:=fun k1 s=>num_Uint_L2 xs k1 s) (s0:=0)
  (fun k acc=>k≤9∧0≤acc∧acc < 128 ^ k∧decU 0 0 xs = decU k acc (xs.drop k))
  (fun t=>match t with
   | .next s=>decU 0 0 xs = none
   | .done r=>r = uintD xs)
  (by omega) (by omega) ⟨by omega,by omega,by decide,rfl⟩ ?_ ?_
 ·obtain ⟨t,h1,h2⟩ := hInd
  unfold num_Uint
  rw [h1,Option.bind_some]
  cases t with
  | next s=>
   dsimp only at h2 ⊢
   unfold num_Uint_K1 uintD
   rw [h2]
  | done r=>
   dsimp only at h2 ⊢
   rw [h2]
 ·rintro k acc hk ⟨h9,h0,hlt,hd⟩
  have hk' : k < xs.length:=by omega
  have hb:=hx _ (List.getElem_mem hk')
  rw [List.drop_eq_getElem_cons hk'] at hd
  dsimp only
  unfold num_Uint_L2
  rw [idx_lt hk',Option.bind_some]
  generalize xs[k] = b at hd hb ⊢
  rw [decU.eq_2] at hd
  have hp:=pow128 h9
  by_cases c1 : k = 9∧1 < b
  ·refine .inr ⟨(0,0,6),?_,?_⟩
   ·rw [if_pos (by simp [c1.1,c1.2])]
   ·rw [if_pos c1] at hd
    (try dsimp only); unfold uintD; rw [hd]
  ·rw [if_neg c1] at hd
   have w7 : IntKind.wrap .i64 (7 * (k : Int)) = 7 * (k : Int):=wrap_i64 (by omega) (by omega)
   rw [if_neg (by simp; omega),w7,chk_pos (by omega),shr_7,and_127 hb]
   have hb0:=hb.1
   have hb1:=hb.2
   have wc : IntKind.wrap .u64 (b % 128) = b % 128:=wrap_u64 (by omega) (by omega)
   have hsum : acc + b % 128 * 128 ^ k < 18446744073709551616∧acc + b % 128 * 128 ^ k < 128 ^ (k + 1):=by
    have e1 : b % 128 * 128 ^ k≤127 * 128 ^ k:=Int.mul_le_mul_of_nonneg_right (by omega) (by omega)
    refine ⟨?_,by rw [Int.pow_succ]; omega⟩
    by_cases e9 : k = 9
    ·subst e9
     have : b % 128 * 128 ^ 9≤1 * 128 ^ 9:=Int.mul_le_mul_of_nonneg_right (by omega) (by decide)
     omega
    ·have:=(pow128 (k:=k + 1) (by omega)).2
     rw [Int.pow_succ] at this
     omega
   have hm : 0≤b % 128 * 128 ^ k:=Int.mul_nonneg (by omega) (by omega)
   rw [wc,shl_7 h9 (by omega) (by omega),or_add h0 hlt (by omega) hsum.1]
   by_cases c2 : b < 128
   ·rw [if_pos c2] at hd
    have : (b / 128 == 0) = true:=by rw [beq_iff_eq]; omega
    rw [if_pos this]
    by_cases c3 : b = 0∧0 < k
    ·refine .inr ⟨(0,0,6),?_,?_⟩
     ·rw [if_pos (by simp [c3.1]; omega)]
     ·rw [if_pos c3] at hd
      (try dsimp only); unfold uintD; rw [hd]
    ·rw [if_neg c3] at hd
     refine .inr ⟨_,by rw [if_neg (by simp; omega)],?_⟩
     (try dsimp only); unfold uintD; rw [hd]; simp
   ·rw [if_neg c2] at hd
    have : ¬ (b / 128 == 0) = true:=by rw [beq_iff_eq]; omega
    rw [if_neg this]
    exact .inl ⟨_,rfl,by omega,by omega,hsum.2,hd⟩
 ·rintro acc ⟨h9,h0,hlt,hd⟩
  dsimp only
  rw [hd,Int.toNat_natCast,List.drop_length]
  rfl
theorem put_eq : ∀ (n : Nat) (v : Int) (o : List Int),v.toNat≤n→0≤v→v < 18446744073709551616→o.length≤70368744177664→num_put_a v o = some (o++putU v):=by
 intro n v o hn h0 h1 hl
 have hInd:=whileM_ind (S:=(List Int) × Int) (E:=(List Int) × Int) (step:=fun s=>num_put_a_L2 s.1 s.2) (s0:=(o,v))
  (fun s=>0≤s.2∧s.2 < 18446744073709551616∧s.1++putU s.2 = o++putU v) (fun s=>s.2.toNat)
  (fun e=>0≤e.2∧e.2 < 128∧e.1++putU e.2 = o++putU v) ⟨h0,h1,rfl⟩ (by (try dsimp only); omega) ?_
 ·obtain ⟨e,h2,h3,h4,h5⟩ := hInd
  unfold num_put_a
  rw [h2,Option.bind_some]
  unfold num_put_a_K1
  have w : IntKind.wrap .u8 e.2 = e.2:=(show e.2 % 256 = e.2 by omega)
  rw [putU_small h4] at h5
  have hlen : (e.1++[e.2]).length≤70368744177664 + 10:=by
   rw [h5,List.length_append]; have:=putU_ten h1; omega
  rw [List.length_append] at hlen
  rw [w,chk_pos (by simp only [apOk]; omega),h5]
 ·rintro ⟨a,x⟩ ⟨g0,g1,g2⟩
  dsimp only at g0 g1 g2 ⊢
  unfold num_put_a_L2
  by_cases c : 128≤x
  ·rw [if_pos (by simpa using c)]
   have hlen : (a++putU x).length≤70368744177664 + 10:=by
    rw [g2,List.length_append]; have:=putU_ten h1; omega
   rw [List.length_append] at hlen
   have e1 : bitI .or .u8 (IntKind.wrap .u8 x) 128 = x % 128 + 128:=by
    have:=or_128 g0
    rw [show IntKind.wrap .u8 x = x % 256 from rfl]
    exact this
   have e2 : Int.fdiv x (2 ^ min (Int.toNat 7) (IntKind.bits .u64)) = x / 128:=by
    have : (2 : Int) ^ min (7 : Int).toNat IntKind.u64.bits = 128:=rfl
    rw [this,Int.fdiv_eq_ediv_of_nonneg _ (by omega)]
   rw [e1,e2,chk_pos (by simp only [apOk,List.length_singleton]; omega)]
   refine .inl ⟨_,rfl,⟨by omega,by omega,?_⟩,by omega⟩
   rw [putU_big c] at g2
   rw [← g2]; simp
  ·rw [if_neg (by simpa using c)]
   exact .inr ⟨_,rfl,g0,by omega,g2⟩
theorem PutUint_eq (v : Int) (o : List Int) (h0 : 0≤v) (h1 : v < 18446744073709551616) (hl : o.length≤70368744177664) : num_PutUint o v = some (o++putU v):=by
 unfold num_PutUint
 have w : IntKind.wrap .i64 ((List.length o : Int) + 10) = (List.length o : Int) + 10:=wrap_i64 (by omega) (by omega)
 rw [w,chk_pos (by unfold mkOk; omega),chk_pos (by simp only [apOk,List.length_nil,Nat.zero_add]; omega),List.nil_append,put_eq _ v o (Nat.le_refl _) h0 h1 hl]
 rfl
theorem PutBytes_eq (b : List Int) (o : List Int) (hb : b.length≤70368744177664) (hl : o.length≤35184372088832) (hbl : b.length + o.length≤70368744177664) : num_PutBytes o b = some (o++(putU (b.length : Int)++b)):=by
 unfold num_PutBytes
 have w : IntKind.wrap .i64 ((List.length o : Int) + 10) = (List.length o : Int) + 10:=wrap_i64 (by omega) (by omega)
 have w2 : IntKind.wrap .i64 ((List.length o : Int) + 10 + (List.length b : Int)) = (List.length o : Int) + 10 + (List.length b : Int):=wrap_i64 (by omega) (by omega)
 have w3 : IntKind.wrap .u64 (List.length b : Int) = (List.length b : Int):=wrap_u64 (by omega) (by omega)
 have:=putU_ten (v:=(b.length : Int)) (by omega)
 rw [w,w2,w3,chk_pos (by unfold mkOk; omega),chk_pos (by simp only [apOk,List.length_nil,Nat.zero_add]; omega),List.nil_append,put_eq _ _ o (Nat.le_refl _) (by omega) (by omega) (by omega),Option.bind_some,chk_pos (by simp only [apOk,List.length_append]; omega),List.append_assoc]
def clkZ : VClk:=VClk.mk (arr 0 [0,0,0,0,0,0,0,0,0,0,0,0,0,0,0,0])
def evZ : AEv:=AEv.mk 0 0 0 0 0 0 0 0 []
def lostR (k : Int) (s : CSpan) : Rk:=RRec.mk k s.gfrom clkZ 2 evZ (s.gto - s.gfrom)
def endR (k t : Int) : Rk:=RRec.mk k t clkZ 3 evZ 0
def partRecs (k : Int) (p : CPart) : List Rk:=p.gentries++p.glost.map (lostR k)++(if p.gknown = true then [endR k p.gtotal] else [])
def rB (r : Rk) : List Int:=recBytes (reOf r)
def rBp (r : Rk) : List Int:=putU ((rB r).length : Int)++rB r
def recsB (l : List Rk) : List Int:=putU (l.length : Int)++l.flatMap rBp
def partsB : Nat→List CPart→List Int
 | _,[]=>[]
 | k,p :: ps=>recsB (partRecs (k : Int) p)++partsB (k + 1) ps
def collB (P : List CPart) : List Int:=putU ((P.length : Int) - 1)++partsB 0 P
theorem partsB_add : ∀ (a : List CPart) (p : CPart) (k : Nat),partsB k (a++[p]) = partsB k a++recsB (partRecs ((k + a.length : Nat) : Int) p)
 | [],p,k=>by simp [partsB]
 | q :: a,p,k=>by
  rw [List.cons_append,partsB,partsB,partsB_add a p (k + 1),List.append_assoc,List.length_cons,show k + 1 + a.length = k + (a.length + 1) by omega]
theorem rB_len {r : Rk} (h : reFits r = true) : (rB r).length≤400:=recBytes_small (reFits_T h).1
theorem rBp_len {r : Rk} (h : reFits r = true) : (rBp r).length≤410:=by
 have:=rB_len h
 have:=putU_ten (v:=((rB r).length : Int)) (by omega)
 unfold rBp; rw [List.length_append]; omega
theorem rBs_len : ∀ (l : List Rk),(∀ r∈l,reFits r = true)→(l.flatMap rBp).length≤l.length * 410
 | [],_=>by simp
 | r :: l,h=>by
  rw [List.flatMap_cons,List.length_append,List.length_cons]
  have:=rBp_len (h r (List.mem_cons_self ..))
  have:=rBs_len l fun x hx=>h x (List.mem_cons_of_mem _ hx)
  omega
theorem recsB_len {l : List Rk} (h : ∀ r∈l,reFits r = true) (hl : l.length≤1073741824) : (recsB l).length≤10 + l.length * 410:=by
 have:=rBs_len l h
 have:=putU_ten (v:=(l.length : Int)) (by omega)
 unfold recsB; rw [List.length_append]; omega
structure PB (p : CPart) : Prop where
 fits : ∀ r∈p.gentries,reFits r = true
 sp : ∀ s∈p.glost,spanOk s
 ne : p.gentries.length≤16777216
 nl : p.glost.length≤16777216
 tot : 0≤p.gtotal∧p.gtotal≤18446744073709551615
theorem fits_lostR {k : Int} (hk : 0≤k∧k≤100) {s : CSpan} (h : spanOk s) : reFits (lostR k s) = true:=by
 obtain ⟨h1,h2,h3⟩ := h
 have ck : ckFits clkZ = true:=by decide
 have ev : evFits evZ = true:=by decide
 unfold lostR reFits
 simp only [ck,ev,Bool.and_true,Bool.and_eq_true,okI_iff,InR]
 simp
 omega
theorem fits_endR {k t : Int} (hk : 0≤k∧k≤100) (h : 0≤t∧t≤18446744073709551615) : reFits (endR k t) = true:=by
 have ck : ckFits clkZ = true:=by decide
 have ev : evFits evZ = true:=by decide
 unfold endR reFits
 simp only [ck,ev,Bool.and_true,Bool.and_eq_true,okI_iff,InR]
 simp
 omega
theorem PB.recs {p : CPart} (h : PB p) {k : Int} (hk : 0≤k∧k≤100) : (∀ r∈partRecs k p,reFits r = true)∧(partRecs k p).length≤33554433:=by
 constructor
 ·intro r hr
  unfold partRecs at hr
  rcases List.mem_append.1 hr with hr | hr
  ·rcases List.mem_append.1 hr with hr | hr
   ·exact h.fits r hr
   ·obtain ⟨s,hs,rfl⟩ := List.mem_map.1 hr
    exact fits_lostR hk (h.sp s hs)
  ·split at hr
   ·rw [List.mem_singleton] at hr; subst hr
    exact fits_endR hk h.tot
   ·cases hr
 ·have:=h.ne
  have:=h.nl
  unfold partRecs
  rw [List.length_append,List.length_append,List.length_map]
  split <;> simp <;> omega
theorem bytes_recs (l : List Rk) (o : List Int) (h : ∀ r∈l,reFits r = true) (hl : l.length≤33554433) (ho : o.length≤1099511627776) : CColl_Bytes_a_K5 o l = some (o++recsB l):=by
 unfold CColl_Bytes_a_K5
 have w : IntKind.wrap .u64 (List.length l : Int) = (List.length l : Int):=wrap_u64 (by omega) (by omega)
 have h10:=putU_ten (v:=(l.length : Int)) (by omega)
 rw [w,PutUint_eq _ o (by omega) (by omega) (by omega),Option.bind_some]
 rw [foldM_spec (s0:=o++putU (l.length : Int)) l.length (fun j=>o++putU (l.length : Int)++(l.take j).flatMap rBp) (by simp) rfl (by omega) (fun j hj=>?_)]
 ·rw [Option.bind_some,List.take_length]
  unfold CColl_Bytes_a_K3 recsB
  rw [List.append_assoc]
 ·unfold CColl_Bytes_a_L6
  have hf:=h _ (List.getElem_mem hj)
  have e : RRec_Bytes l[j] = some (rB l[j]):=by unfold RRec_Bytes; rw [chk_pos hf]; rfl
  have hb:=rB_len hf
  have hfl:=rBs_len (l.take j) fun r hr=>h r (List.mem_of_mem_take hr)
  have : (l.take j).length≤l.length:=by rw [List.length_take]; omega
  rw [idx_lt hj,Option.bind_some,e,Option.bind_some,PutBytes_eq _ _ (by omega) (by simp only [List.length_append]; omega) (by simp only [List.length_append]; omega),Option.bind_some,List.take_succ_eq_append_getElem hj,List.flatMap_append]
  simp [rBp]
theorem bytes_part (k : Nat) (hk : k≤100) (p : CPart) (hp : PB p) (o : List Int) (ho : o.length≤1099511627776) (P : List CPart) (hkp : k < P.length) (e : P[k] = p) : CColl_Bytes_a_L2 ⟨P⟩ k o = some (o++recsB (partRecs (k : Int) p)):=by
 have hne:=hp.ne
 have hnl:=hp.nl
 have hr:=hp.recs (k:=(k : Int)) ⟨by omega,by omega⟩
 unfold CColl_Bytes_a_L2
 dsimp only
 rw [idx_lt hkp,Option.bind_some,e,chk_pos (by simp only [apOk]; omega)]
 rw [foldM_spec (s0:=p.gentries) p.glost.length (fun j=>p.gentries++(p.glost.take j).map (lostR (k : Int))) (by simp) rfl (by omega) (fun j hj=>?_)]
 ·rw [Option.bind_some,List.take_length]
  unfold CColl_Bytes_a_K4
  unfold partRecs at hr ⊢
  by_cases hkn : p.gknown = true
  ·rw [if_pos hkn] at hr ⊢
   rw [chk_pos (by simp only [apOk,List.length_append,List.length_map,List.length_singleton]; omega),if_pos hkn]
   exact bytes_recs _ o hr.1 hr.2 ho
  ·rw [if_neg hkn] at hr ⊢
   rw [if_neg hkn]
   rw [List.append_nil] at hr ⊢
   exact bytes_recs _ o hr.1 hr.2 ho
 ·unfold CColl_Bytes_a_L7
  have hs:=hp.sp _ (List.getElem_mem hj)
  obtain ⟨h1,h2,h3⟩ := hs
  have w : IntKind.wrap .u64 (p.glost[j].gto - p.glost[j].gfrom) = p.glost[j].gto - p.glost[j].gfrom:=wrap_u64 (by omega) (by omega)
  rw [idx_lt hj,Option.bind_some,w,chk_pos (by simp only [apOk,List.length_append,List.length_map,List.length_take,List.length_singleton]; omega),List.take_succ_eq_append_getElem hj,List.map_append,List.append_assoc]
  rfl
theorem partsB_len : ∀ (P : List CPart) (k : Nat),(∀ p∈P,PB p)→k + P.length≤100→(partsB k P).length≤P.length * 13757317540
 | [],k,_,_=>by simp [partsB]
 | p :: P,k,h,hk=>by
  rw [List.length_cons] at hk
  rw [partsB,List.length_append,List.length_cons]
  have hr:=(h p (List.mem_cons_self ..)).recs (k:=(k : Int)) ⟨by omega,by omega⟩
  have:=recsB_len hr.1 (by omega)
  have:=partsB_len P (k + 1) (fun x hx=>h x (List.mem_cons_of_mem _ hx)) (by omega)
  omega
theorem bytes_coll (P : List CPart) (h : ∀ p∈P,PB p) (h1 : 1≤P.length) (hl : P.length≤9) : CColl_Bytes_a ⟨P⟩ = some (collB P):=by
 unfold CColl_Bytes_a CColl_Components_a
 dsimp only
 have w : IntKind.wrap .i64 ((List.length P : Int) - 1) = (P.length : Int) - 1:=wrap_i64 (by omega) (by omega)
 have hv : (if (IntKind.wrap .i64 ((List.length P : Int) - 1)) > 0 then (IntKind.wrap .i64 ((List.length P : Int) - 1)) else 0) = (P.length : Int) - 1:=by
  rw [w]; split <;> omega
 have w2 : IntKind.wrap .u64 ((P.length : Int) - 1) = (P.length : Int) - 1:=wrap_u64 (by omega) (by omega)
 have h10:=putU_ten (v:=(P.length : Int) - 1) (by omega)
 rw [hv,Option.bind_some,w2,PutUint_eq _ [] (by omega) (by omega) (by simp),Option.bind_some,List.nil_append]
 rw [foldM_spec (s0:=putU ((P.length : Int) - 1)) P.length (fun j=>putU ((P.length : Int) - 1)++partsB 0 (P.take j)) (by simp [partsB]) rfl (by omega) (fun j hj=>?_)]
 ·rw [Option.bind_some,List.take_length]; rfl
 ·have hp:=partsB_len (P.take j) 0 (fun p hp=>h p (List.mem_of_mem_take hp)) (by rw [List.length_take]; omega)
  have e : (P.take j).length = j:=by rw [List.length_take]; omega
  rw [e] at hp
  rw [bytes_part j (by omega) P[j] (h _ (List.getElem_mem hj)) _ (by rw [List.length_append]; omega) P hj rfl,List.take_succ_eq_append_getElem hj,partsB_add,e,Nat.zero_add,List.append_assoc]
theorem decU_n : ∀ (xs : List Int) (i : Nat) (acc v : Int) (n : Nat),decU i acc xs = some (v,n)→i < n∧n≤i + xs.length
 | [],i,acc,v,n,h=>by simp [decU] at h
 | b :: rest,i,acc,v,n,h=>by
  rw [decU.eq_2] at h
  rw [List.length_cons]
  split at h
  ·cases h
  ·split at h
   ·split at h
    ·cases h
    ·injection h with h; injection h with h1 h2; omega
   ·have:=decU_n rest (i + 1) _ v n h; omega
theorem RUint_eq (m : Int) (xs : List Int) (e : Int) (hx : ∀ b∈xs,Byt b) (hl : xs.length≤9223372036854775807) : num_Reader_Uint_a m ⟨xs,e⟩ = some (((⟨xs,e⟩ : Rd).uint m).1,⟨((⟨xs,e⟩ : Rd).uint m).2.xs,((⟨xs,e⟩ : Rd).uint m).2.err⟩):=by
 unfold num_Reader_Uint_a num_Reader_open_a Rd.uint
 dsimp only
 rw [Option.bind_some]
 by_cases he : e = 0
 ·subst he
  simp only [beq_self_eq_true,Bool.not_true,Bool.false_eq_true,if_false,ne_eq,not_true_eq_false]
  rw [Uint_eq xs hx hl,Option.bind_some]
  unfold uintD
  cases hd : decU 0 0 xs with
  | none=>
   dsimp only
   simp only [show ((6 : Int) == 0) = false from rfl,Bool.false_and,Bool.false_eq_true,if_false]
   unfold num_Reader_Uint_a_K1 num_Reader_take_a
   simp
  | some vn=>
   obtain ⟨v,n⟩ := vn
   have hn:=decU_n xs 0 0 v n hd
   dsimp only
   by_cases hm : m < v
   ·rw [if_pos (by simpa using hm),if_pos hm]
    unfold num_Reader_Uint_a_K1 num_Reader_take_a
    simp
   ·rw [if_neg (by simpa using hm),if_neg hm]
    unfold num_Reader_Uint_a_K1 num_Reader_take_a
    dsimp only
    rw [if_neg (by simp),chk_pos (by unfold slOk; omega)]
    simp
 ·rw [if_pos (by simp [he]),if_pos he]
theorem slc_eq {xs : List Int} {a b : Nat} : slc xs (a : Int) (b : Int) = (xs.take b).drop a:=by unfold slc; simp
theorem RBytes_put (b s : List Int) (hb : ∀ y∈b,Byt y) (hs : ∀ y∈s,Byt y) (hl : (putU (b.length : Int)++(b++s)).length≤70368744177664) : num_Reader_Bytes_a ((putU (b.length : Int)++(b++s)).length : Int) ⟨putU (b.length : Int)++(b++s),0⟩ = some (b,⟨s,0⟩):=by
 have hl' := hl
 simp only [List.length_append] at hl'
 have hx : ∀ y∈putU (b.length : Int)++(b++s),Byt y:=fun y hy=>by
  rcases List.mem_append.1 hy with h | h
  ·exact putU_byt (by omega) y h
  ·rcases List.mem_append.1 h with h | h
   ·exact hb y h
   ·exact hs y h
 have hd:=dec_of (v:=(b.length : Int)) ⟨by omega,by omega⟩ (b++s)
 have hsl : slc (putU (b.length : Int)++(b++s)) ((putU (b.length : Int)).length : Int) (((putU (b.length : Int)).length + b.length : Nat) : Int) = b:=by
  rw [slc_eq,List.take_append,List.drop_append]
  simp
 have hdr : (putU (b.length : Int)++(b++s)).drop ((putU (b.length : Int)).length + b.length) = s:=by
  rw [List.drop_append,List.drop_eq_nil_of_le (by omega),List.nil_append,Nat.add_sub_cancel_left,List.drop_left]
 generalize hxs : putU (b.length : Int)++(b++s) = xs at *
 have hlx : xs.length = (putU (b.length : Int)).length + (b.length + s.length):=by rw [← hxs]; simp
 generalize (putU (b.length : Int)).length = n at *
 unfold num_Reader_Bytes_a num_Reader_open_a
 dsimp only
 rw [Option.bind_some,if_neg (by simp)]
 unfold num_Bytes
 rw [if_neg (by simp),Uint_eq xs hx (by omega),Option.bind_some]
 have w0 : IntKind.wrap .u64 (xs.length : Int) = (xs.length : Int):=wrap_u64 (by omega) (by omega)
 have w1 : IntKind.wrap .i64 ((xs.length : Int) - (n : Int)) = ((xs.length - n : Nat) : Int):=by rw [wrap_i64 (by omega) (by omega)]; omega
 have w2 : IntKind.wrap .u64 ((xs.length - n : Nat) : Int) = ((xs.length - n : Nat) : Int):=wrap_u64 (by omega) (by omega)
 have w3 : IntKind.wrap .i64 (b.length : Int) = (b.length : Int):=wrap_i64 (by omega) (by omega)
 have w4 : IntKind.wrap .i64 ((n : Int) + (b.length : Int)) = ((n + b.length : Nat) : Int):=by rw [wrap_i64 (by omega) (by omega)]; omega
 rw [w0]
 unfold uintD
 rw [hd]
 dsimp only
 rw [if_neg (by simp),if_neg (by simp; omega),w1,w2,if_neg (by simp; omega),w3,w4,hsl,chk_pos (by unfold slOk; omega),chk_pos (by simp only [apOk,List.length_nil,Nat.zero_add]; omega),Option.bind_some,List.nil_append]
 unfold num_Reader_take_a
 dsimp only
 rw [if_neg (by simp),chk_pos (by unfold slOk; omega),Option.bind_some,Int.toNat_natCast,hdr]
 simp
theorem valid_congr {a b : Re} (h : recEq a b = true) : validB a = validB b:=by
 obtain ⟨h1,h2,h3,h4,h5,h6⟩ := recEq_iff.1 h
 have hs : sameTo a.clk clk0 16 = sameTo b.clk clk0 16:=by
  rw [Bool.eq_iff_iff,sameTo_iff,sameTo_iff]
  exact ⟨fun k i hi=>by rw [← h3 i hi]; exact k i hi,fun k i hi=>by rw [h3 i hi]; exact k i hi⟩
 unfold validB okWhat bareB
 rw [h1,h2,h4,h5,h6,hs]
theorem rB_congr {x y : Rk} (hx : reFits x = true) (hy : reFits y = true) (hv : validB (reOf y) = true) (h : Eqr x y) : rB x = rB y:=by
 have hvx : validB (reOf x) = true:=by rw [valid_congr h]; exact hv
 have:=recBytes_inj hvx hv (reFits_T hx).1 (reFits_T hy).1
 rw [show recEq (reOf x) (reOf y) = true from h,beq_iff_eq] at this
 exact this
theorem recOk_valid {q : Rk} (hf : reFits q = true) (hv : validB (reOf q) = true) : RecOk q:=by
 refine ⟨hf,fun h2=>?_⟩
 have w2 : (reOf q).what = 2:=h2
 unfold validB okWhat at hv
 rw [if_neg (by omega),if_pos w2] at hv
 simp only [Bool.and_eq_true,decide_eq_true_eq] at hv
 have h1:=hv.1.1.2
 have h3:=hv.1.2
 have e1 : (reOf q).count = q.gCount:=rfl
 have e2 : (reOf q).seq = q.gSeq:=rfl
 omega
theorem GE_valid {c : Int} (hc : 0≤c∧c≤8) {r : Rk} (h : GE c r) : validB (reOf r) = true:=by
 obtain ⟨_,s,i,hs,hi,he⟩ := h
 rw [valid_congr he]
 exact (mkE_ok c s i hc hs hi).2
theorem clkZ_same : sameTo (fun i=>if i < 16 then clkZ.gat i else 0) clk0 16 = true:=(sameTo_iff _ _ _).2 fun i hi=>by rw [if_pos hi]; exact zer16_at i
theorem valid_lostR {k : Int} (hk : 0≤k∧k≤8) {s : CSpan} (h : spanOk s) : validB (reOf (lostR k s)) = true:=by
 obtain ⟨h1,h2,h3⟩ := h
 have hb : bareB (reOf (lostR k s)) = true:=by
  unfold bareB
  rw [show sameTo (reOf (lostR k s)).clk clk0 16 = true from clkZ_same,show evEq (reOf (lostR k s)).ev ev0 = true from rfl]
  rfl
 have e1 : (reOf (lostR k s)).what = 2:=rfl
 have e2 : (reOf (lostR k s)).count = s.gto - s.gfrom:=rfl
 have e3 : (reOf (lostR k s)).seq = s.gfrom:=rfl
 have e4 : (reOf (lostR k s)).comp = k:=rfl
 unfold validB okWhat inB
 rw [e1,if_neg (by decide),if_pos rfl,hb,e2,e3,e4]
 simp only [Bool.true_and,Bool.and_eq_true,decide_eq_true_eq]
 omega
theorem valid_endR {k t : Int} (hk : 0≤k∧k≤8) : validB (reOf (endR k t)) = true:=by
 have hb : bareB (reOf (endR k t)) = true:=by
  unfold bareB
  rw [show sameTo (reOf (endR k t)).clk clk0 16 = true from clkZ_same,show evEq (reOf (endR k t)).ev ev0 = true from rfl]
  rfl
 have e1 : (reOf (endR k t)).what = 3:=rfl
 have e2 : (reOf (endR k t)).count = 0:=rfl
 have e4 : (reOf (endR k t)).comp = k:=rfl
 unfold validB okWhat inB
 rw [e1,if_neg (by decide),if_neg (by decide),if_pos rfl,hb,e2,e4]
 simp only [Bool.true_and,Bool.and_eq_true,decide_eq_true_eq]
 exact ⟨rfl,hk⟩
theorem Rel.PB {c : Int} {p : CPart} {K : Kn} (h : Rel (GE c) p K) : PB p:=by
 have h1:=h.ne
 have h2:=h.nl
 have h3:=h.rng
 refine ⟨fun r hr=>(good_GE c).fits r (h.good r hr).1,h.sp,by omega,by omega,?_⟩
 rw [h.tot]; split <;> omega
theorem part_recs {c : Int} (hc : 0≤c∧c≤8) {p : CPart} {K : Kn} (h : Rel (GE c) p K) : ∀ r∈partRecs c p,reFits r = true∧validB (reOf r) = true∧r.gComponent = c:=by
 intro r hr
 have hf:=(h.PB.recs (k:=c) (by omega)).1 r hr
 unfold partRecs at hr
 rcases List.mem_append.1 hr with hr | hr
 ·rcases List.mem_append.1 hr with hr | hr
  ·have g:=(h.good r hr).1
   exact ⟨hf,GE_valid hc g,(good_GE c).comp r g⟩
  ·obtain ⟨s,hs,rfl⟩ := List.mem_map.1 hr
   exact ⟨hf,valid_lostR hc (h.sp s hs),rfl⟩
 ·split at hr
  ·rw [List.mem_singleton] at hr; subst hr
   exact ⟨hf,valid_endR hc,rfl⟩
  ·cases hr
theorem part_len {c : Int} {p : CPart} {K : Kn} (h : Rel (GE c) p K) : (partRecs c p).length≤97:=by
 have h1:=h.ne
 have h2:=h.nl
 unfold partRecs
 rw [List.length_append,List.length_append,List.length_map]
 split <;> simp <;> omega
theorem rBs_byt {l : List Rk} (h : ∀ r∈l,reFits r = true) : ∀ b∈l.flatMap rBp,Byt b:=by
 intro b hb
 obtain ⟨r,hr,hb⟩ := List.mem_flatMap.1 hb
 unfold rBp at hb
 rcases List.mem_append.1 hb with h1 | h1
 ·exact putU_byt (by omega) b h1
 ·exact recBytes_byt (reFits_T (h r hr)).1 b h1
theorem recsB_byt {l : List Rk} (h : ∀ r∈l,reFits r = true) : ∀ b∈recsB l,Byt b:=by
 intro b hb
 unfold recsB at hb
 rcases List.mem_append.1 hb with h1 | h1
 ·exact putU_byt (by omega) b h1
 ·exact rBs_byt h b h1
theorem raw_back {c : Int} {p : CPart} {K : Kn} (h : Rel (GE c) p K) (ψ : Rk→Rk) (hψ : ∀ r∈partRecs c p,Eqr (ψ r) r) : entsOf ((partRecs c p).map ψ) = p.gentries.map ψ∧lostOf ((partRecs c p).map ψ) = p.glost∧endOf ((partRecs c p).map ψ) = (p.gknown,p.gtotal):=by
 have hw : ∀ r∈partRecs c p,(ψ r).gWhat = r.gWhat:=fun r hr=>(eqr_all (hψ r hr)).2.2.1
 have m1 : ∀ r∈p.gentries,r∈partRecs c p:=fun r hr=>by
  unfold partRecs
  exact List.mem_append_left _ (List.mem_append_left _ hr)
 have m2 : ∀ s∈p.glost,lostR c s∈partRecs c p:=fun s hs=>by
  unfold partRecs
  exact List.mem_append_left _ (List.mem_append_right _ (List.mem_map.2 ⟨s,hs,rfl⟩))
 have w1 : ∀ r∈p.gentries,(ψ r).gWhat = 1:=fun r hr=>by rw [hw r (m1 r hr)]; exact (good_GE c).what r (h.good r hr).1
 have w2 : ∀ s∈p.glost,(ψ (lostR c s)).gWhat = 2:=fun s hs=>hw _ (m2 s hs)
 have w3 : ∀ r∈(if p.gknown = true then [endR c p.gtotal] else []),(ψ r).gWhat = 3∧(ψ r).gSeq = p.gtotal∧p.gknown = true:=fun r hr=>by
  by_cases hk : p.gknown = true
  ·rw [if_pos hk] at hr
   rw [List.mem_singleton] at hr; subst hr
   have hm : endR c p.gtotal∈partRecs c p:=by
    unfold partRecs
    rw [if_pos hk]
    exact List.mem_append_right _ (List.mem_singleton.2 rfl)
   exact ⟨hw _ hm,(hψ _ hm).seq,hk⟩
  ·rw [if_neg hk] at hr; cases hr
 have mem : ∀ q∈(partRecs c p).map ψ,(q.gWhat = 1∧∃ r∈p.gentries,q = ψ r)∨q.gWhat = 2∨(q.gWhat = 3∧q.gSeq = p.gtotal∧p.gknown = true):=fun q hq=>by
  obtain ⟨r,hr,rfl⟩ := List.mem_map.1 hq
  unfold partRecs at hr
  rcases List.mem_append.1 hr with hr | hr
  ·rcases List.mem_append.1 hr with hr | hr
   ·exact .inl ⟨w1 r hr,r,hr,rfl⟩
   ·obtain ⟨s,hs,rfl⟩ := List.mem_map.1 hr
    exact .inr (.inl (w2 s hs))
  ·exact .inr (.inr (w3 r hr))
 refine ⟨?_,?_,?_⟩
 ·unfold entsOf partRecs
  rw [List.map_append,List.map_append,List.filter_append,List.filter_append]
  have f1 : (p.gentries.map ψ).filter (fun r=>r.gWhat == 1) = p.gentries.map ψ:=List.filter_eq_self.2 fun q hq=>by
   obtain ⟨r,hr,rfl⟩ := List.mem_map.1 hq
   simpa using w1 r hr
  have f2 : ((p.glost.map (lostR c)).map ψ).filter (fun r=>r.gWhat == 1) = []:=List.filter_eq_nil_iff.2 fun q hq=>by
   obtain ⟨r,hr,rfl⟩ := List.mem_map.1 hq
   obtain ⟨s,hs,rfl⟩ := List.mem_map.1 hr
   rw [w2 s hs]; decide
  have f3 : ((if p.gknown = true then [endR c p.gtotal] else []).map ψ).filter (fun r=>r.gWhat == 1) = []:=List.filter_eq_nil_iff.2 fun q hq=>by
   obtain ⟨r,hr,rfl⟩ := List.mem_map.1 hq
   rw [(w3 r hr).1]; decide
  rw [f1,f2,f3,List.append_nil,List.append_nil]
 ·unfold lostOf partRecs
  rw [List.map_append,List.map_append,List.filter_append,List.filter_append]
  have f1 : (p.gentries.map ψ).filter (fun r=>r.gWhat == 2) = []:=List.filter_eq_nil_iff.2 fun q hq=>by
   obtain ⟨r,hr,rfl⟩ := List.mem_map.1 hq
   rw [w1 r hr]; decide
  have f2 : ((p.glost.map (lostR c)).map ψ).filter (fun r=>r.gWhat == 2) = (p.glost.map (lostR c)).map ψ:=List.filter_eq_self.2 fun q hq=>by
   obtain ⟨r,hr,rfl⟩ := List.mem_map.1 hq
   obtain ⟨s,hs,rfl⟩ := List.mem_map.1 hr
   simpa using w2 s hs
  have f3 : ((if p.gknown = true then [endR c p.gtotal] else []).map ψ).filter (fun r=>r.gWhat == 2) = []:=List.filter_eq_nil_iff.2 fun q hq=>by
   obtain ⟨r,hr,rfl⟩ := List.mem_map.1 hq
   rw [(w3 r hr).1]; decide
  rw [f1,f2,f3,List.append_nil,List.nil_append,List.map_map,List.map_map]
  refine (List.map_congr_left (g:=fun s=>s) fun s hs=>?_).trans (List.map_id' _)
  have he:=eqr_all (hψ _ (m2 s hs))
  show spanOf (ψ (lostR c s)) = s
  unfold spanOf
  rw [he.2.1,he.2.2.2.2]
  show CSpan.mk s.gfrom (s.gfrom + (s.gto - s.gfrom)) = s
  rw [show s.gfrom + (s.gto - s.gfrom) = s.gto by omega]
 ·by_cases hk : p.gknown = true
  ·have hm : endR c p.gtotal∈partRecs c p:=by
    unfold partRecs
    rw [if_pos hk]
    exact List.mem_append_right _ (List.mem_singleton.2 rfl)
   have e:=endOf_some (l:=(partRecs c p).map ψ) (r:=ψ (endR c p.gtotal)) (List.mem_map.2 ⟨_,hm,rfl⟩) (hw _ hm) (fun a ha b hb ha3 hb3=>by
    rcases mem a ha with h1 | h1 | h1
    ·omega
    ·omega
    ·rcases mem b hb with h2 | h2 | h2
     ·omega
     ·omega
     ·rw [h1.2.1,h2.2.1])
   rw [e,hk,(hψ _ hm).seq]
   rfl
  ·have ht : p.gtotal = 0:=by
    have hkn:=h.kno
    rw [Bool.not_eq_true] at hk
    rw [hk] at hkn
    have:=of_decide_eq_false hkn.symm
    rw [h.tot,if_neg this]
   rw [endOf_none (l:=(partRecs c p).map ψ) (fun a ha h3=>by
    rcases mem a ha with h1 | h1 | h1
    ·omega
    ·omega
    ·exact hk h1.2.2),ht,Bool.not_eq_true _ |>.mp hk]
theorem readPart_back {c : Int} (hc : 0≤c∧c≤8) {p : CPart} {K : Kn} (h : Rel (GE c) p K) (hS : Sound K) (s : List Int) (hs : ∀ b∈s,Byt b) (hsl : s.length≤1000000) : ∃ m,collect_readPart_a c ⟨recsB (partRecs c p)++s,0⟩ = some (m,true,⟨s,0⟩)∧Rel (GE c) m K:=by
 have hG:=good_GE c
 have hrec:=part_recs hc h
 have hlen:=part_len h
 have hrb:=raw_back h
 generalize hLe : partRecs c p = L at hrec hlen hrb ⊢
 have hex : ∀ r : Rk,∃ q,r∈L→ReadsAs (rB r) q∧Eqr q r∧RecOk q:=fun r=>by
  by_cases hr : r∈L
  ·obtain ⟨a,b,_⟩ := hrec r hr
   obtain ⟨q,q1,q2,q3,_⟩ := rec_reads r a b
   exact ⟨q,fun _=>⟨q1,q2,recOk_valid q3 (by rw [valid_congr q2]; exact b)⟩⟩
  ·exact ⟨r,fun h=>absurd h hr⟩
 obtain ⟨ψ,hψ⟩ : ∃ ψ : Rk→Rk,∀ r,r∈L→ReadsAs (rB r) (ψ r)∧Eqr (ψ r) r∧RecOk (ψ r) := ⟨fun r=>Classical.choose (hex r),fun r=>Classical.choose_spec (hex r)⟩
 obtain ⟨r1,r2,r3⟩ := hrb ψ fun r hr=>(hψ r hr).2.1
 have hfit : ∀ r∈L,reFits r = true:=fun r hr=>(hrec r hr).1
 have hL0:=rBs_len L hfit
 have h10:=putU_ten (v:=(L.length : Int)) (by omega)
 have hx0 : ∀ b∈recsB L++s,Byt b:=fun b hb=>by
  rcases List.mem_append.1 hb with h1 | h1
  ·exact recsB_byt hfit b h1
  ·exact hs b h1
 have hxl : (recsB L++s).length≤9223372036854775807:=by
  unfold recsB; simp only [List.length_append]; omega
 have hu : ((⟨recsB L++s,0⟩ : Rd).uint 18446744073709551615) = ((L.length : Int),⟨L.flatMap rBp++s,0⟩):=by
  unfold recsB; rw [List.append_assoc]
  exact uint_put ⟨by omega,by omega⟩ (by omega) _
 unfold collect_readPart_a
 rw [RUint_eq _ _ _ hx0 hxl,Option.bind_some,hu]
 dsimp only
 have hW:=whileM_spec (S:=(List RRec) × Int × (List Int) × Int) (E:=((List RRec) × (List Int) × Int) ⊕ (CPart × Bool × num_Reader)) (step:=fun s=>collect_readPart_a_L2 s.1 s.2.1 s.2.2.1 s.2.2.2) (s0:=(([] : List RRec),(L.length : Int),L.flatMap rBp++s,0)) (e:=.inl (L.map ψ,s,0)) L.length (fun j=>((L.take j).map ψ,((L.length - j : Nat) : Int),(L.drop j).flatMap rBp++s,0)) (by simp) (by omega) (fun j hj=>?_) ?_
 ·rw [hW,Option.bind_some]
  dsimp only
  unfold collect_readPart_a_K1 num_Reader_Err_a
  dsimp only
  have hQ : ∀ q∈L.map ψ,∃ r∈L,q = ψ r:=fun q hq=>by
   obtain ⟨r,hr,rfl⟩ := List.mem_map.1 hq
   exact ⟨r,hr,rfl⟩
  have hRO : ∀ q∈L.map ψ,RecOk q:=fun q hq=>by
   obtain ⟨r,hr,rfl⟩ := hQ q hq
   exact (hψ r hr).2.2
  have hpf : partFit (L.map ψ) c:=by
   refine ⟨fun q hq=>?_,fun a ha b hb ha3 hb3=>?_⟩
   ·obtain ⟨r,hr,rfl⟩ := hQ q hq
    rw [(eqr_all (hψ r hr).2.1).1,(hrec r hr).2.2]
   ·have one : ∀ q∈L.map ψ,q.gWhat = 3→q.gSeq = p.gtotal:=fun q hq h3=>by
     obtain ⟨r,hr,rfl⟩ := hQ q hq
     have e:=eqr_all (hψ r hr).2.1
     rw [e.2.1]
     rw [e.2.2.1] at h3
     rw [← hLe] at hr
     unfold partRecs at hr
     rcases List.mem_append.1 hr with hr | hr
     ·rcases List.mem_append.1 hr with hr | hr
      ·have:=hG.what r (h.good r hr).1
       omega
      ·obtain ⟨s,hs,rfl⟩ := List.mem_map.1 hr
       have : (lostR c s).gWhat = 2:=rfl
       omega
     ·split at hr
      ·rw [List.mem_singleton] at hr; subst hr; rfl
      ·cases hr
    rw [one a ha ha3,one b hb hb3]
  rcases partOf_spec (L.map ψ) c (by rw [List.length_map]; omega) hRO with ⟨hno,_⟩ | ⟨_,hp⟩
  ·exact absurd hpf hno
  ·rw [hp,Option.bind_some]
   simp only [Bool.not_true,Bool.not_false,gb,if_true,Option.bind_some,Bool.false_or,bne_self_eq_false,Bool.false_eq_true,if_false]
   have hW0 : PW part0 := ⟨fun r hr=>(by cases hr),fun s hs=>(by cases hs),by decide,by decide,by decide⟩
   have hW1:=partRaw_W (l:=L.map ψ) (by rw [List.length_map]; omega) hRO
   have hb : both part0 (partRaw (L.map ψ)) = p.gentries.map ψ:=by
    unfold both
    show []++entsOf (L.map ψ) = _
    rw [List.nil_append,r1]
   have hlo : (partRaw (L.map ψ)).glost = p.glost:=r2
   have hkn : (partRaw (L.map ψ)).gknown = p.gknown:=by show (endOf (L.map ψ)).1 = _; rw [r3]
   have hto : (partRaw (L.map ψ)).gtotal = p.gtotal:=by show (endOf (L.map ψ)).2 = _; rw [r3]
   have m1 : ∀ r∈p.gentries,r∈L:=fun r hr=>by
    rw [← hLe]; unfold partRecs
    exact List.mem_append_left _ (List.mem_append_left _ hr)
   have hbm : ∀ x∈both part0 (partRaw (L.map ψ)),∃ r∈p.gentries,Eqr x r∧reFits x = true:=fun x hx=>by
    rw [hb] at hx
    obtain ⟨r,hr,rfl⟩ := List.mem_map.1 hx
    exact ⟨r,hr,(hψ r (m1 r hr)).2.1,(hψ r (m1 r hr)).2.2.fits⟩
   have hkb : knoB part0 (partRaw (L.map ψ)) = p.gknown:=by unfold knoB; rw [hkn]; rfl
   have htb : totB part0 (partRaw (L.map ψ)) = p.gtotal:=by
    unfold totB
    rw [hto]
    show (if p.gtotal > 0 then p.gtotal else 0) = p.gtotal
    have:=h.PB.tot
    split <;> omega
   have hno : ∀ x,¬ inS part0.glost x:=fun x ⟨s,hs,_⟩=>by cases hs
   have kT : p.gknown = true→0≤K.gTotal∧p.gtotal = K.gTotal:=fun hk=>by
    have hkn:=h.kno
    rw [hk] at hkn
    have:=of_decide_eq_true hkn.symm
    exact ⟨this,by rw [h.tot,if_pos this]⟩
   rcases merge_spec part0 (partRaw (L.map ψ)) hW0 hW1 with ⟨hnf,hm⟩ | ⟨_,m,hm,hM⟩
   ·refine absurd ⟨fun h=>(by cases h),fun x hx y hy hxy=>?_,fun x hx=>?_,fun hk x hx=>?_,fun hk x hx=>?_⟩ hnf
    ·obtain ⟨r,hr,e1,_⟩ := hbm x hx
     obtain ⟨q,hq,e2,_⟩ := hbm y hy
     have hsq : r.gSeq = q.gSeq:=by rw [← e1.seq,← e2.seq,hxy]
     have g1:=h.good r hr
     have g2:=h.good q hq
     have : Eqr r q:=hG.one r q g1.1 g2.1 hsq (by rw [← g1.2,← g2.2,hsq])
     exact (e1.trans this).trans e2.symm
    ·obtain ⟨r,hr,e1,_⟩ := hbm x hx
     have:=hG.seq r (h.good r hr).1
     rw [e1.seq]; omega
    ·obtain ⟨r,hr,e1,_⟩ := hbm x hx
     rw [hkb] at hk
     obtain ⟨k1,k2⟩ := kT hk
     have g:=h.good r hr
     have hsq:=hG.seq r g.1
     rw [htb,k2,e1.seq]
     refine Classical.byContradiction fun hlt=>?_
     have:=(hS r.gSeq.toNat (by omega) k1 (by omega)).1
     rw [g.2] at this
     exact hG.name r g.1 this
    ·rw [hkb] at hk
     obtain ⟨k1,k2⟩ := kT hk
     have hx2 : inS p.glost x:=by
      rcases hx with h1 | h1
      ·exact absurd h1 (hno x)
      ·rw [hlo] at h1; exact h1
     obtain ⟨s,s1,rfl,s3,s4⟩ := (h.lost x).1 hx2
     rw [htb,k2]
     refine Classical.byContradiction fun hlt=>?_
     have:=(hS s s1 k1 (by omega)).2
     rw [this] at s3; cases s3
   ·rw [show CPart.mk [] [] false 0 = part0 from rfl,hm,Option.bind_some]
    have hgood : ∀ r∈m.gentries,GE c r∧K.gIds r.gSeq.toNat = r.gEvent.gN:=fun x hx=>by
     obtain ⟨r,hr,e1,e2⟩ := hbm x (hM.sub x hx)
     have g:=h.good r hr
     refine ⟨GE_up c r x g.1 e1 e2,?_⟩
     have e:=eqr_all e1
     rw [e.2.1,e.2.2.2.1]; exact g.2
    have hml : m.glost = p.glost:=Can.ext hM.can h.can fun x=>by
     rw [hM.lost x,hlo]
     constructor
     ·rintro ⟨h1 | h1,_⟩
      ·exact absurd h1 (hno x)
      ·exact h1
     ·intro h1
      refine ⟨.inr h1,fun ⟨r,hr,hrx⟩=>?_⟩
      obtain ⟨s,s1,rfl,s3,s4⟩ := (h.lost x).1 h1
      have g:=hgood r hr
      rw [hrx,Int.toNat_natCast,s4] at g
      exact hG.name r g.1 g.2.symm
    refine ⟨m,rfl,hM.asc,hgood,fun s s1 s2=>?_,hM.can,fun x=>by rw [hml]; exact h.lost x,hM.sp,by rw [hM.kno,hkb]; exact h.kno,by rw [hM.tot,htb]; exact h.tot,h.rng,?_,by rw [hml]; exact h.nl⟩
    ·obtain ⟨r,hr,hrs⟩ := h.cov s s1 s2
     obtain ⟨y,hy,hye⟩ := hM.cov (ψ r) (by rw [hb]; exact List.mem_map.2 ⟨r,hr,rfl⟩)
     exact ⟨y,hy,by rw [hye.seq,(hψ r (m1 r hr)).2.1.seq]; exact hrs⟩
    ·have h1:=hM.ne
     have h2:=h.ne
     have z1 : part0.gentries.length = 0:=rfl
     have z2 : (partRaw (L.map ψ)).gentries.length = p.gentries.length:=by
      show (entsOf (L.map ψ)).length = _
      rw [r1,List.length_map]
     omega
 ·dsimp only
  have hmem:=List.getElem_mem hj
  have hd : decide ((0 : Int) < ((L.length - j : Nat) : Int)) = true:=by simp only [decide_eq_true_eq]; omega
  have hdr : ∀ r∈L.drop (j + 1),reFits r = true:=fun r hr=>hfit r (List.mem_of_mem_drop hr)
  have hdl:=rBs_len (L.drop (j + 1)) hdr
  have hrl:=rB_len (hfit _ hmem)
  have hp10:=putU_ten (v:=((rB L[j]).length : Int)) (by omega)
  have e1 : (L.drop j).flatMap rBp++s = putU ((rB L[j]).length : Int)++(rB L[j]++((L.drop (j + 1)).flatMap rBp++s)):=by
   have e0 : rBp L[j] = putU ((rB L[j]).length : Int)++rB L[j]:=rfl
   rw [List.drop_eq_getElem_cons hj,List.flatMap_cons,e0,List.append_assoc,List.append_assoc]
  have hb1 : ∀ y∈rB L[j],Byt y:=recBytes_byt (reFits_T (hfit _ hmem)).1
  have hs1 : ∀ y∈(L.drop (j + 1)).flatMap rBp++s,Byt y:=fun y hy=>by
   rcases List.mem_append.1 hy with h1 | h1
   ·exact rBs_byt hdr y h1
   ·exact hs y h1
  have hl1 : (putU ((rB L[j]).length : Int)++(rB L[j]++((L.drop (j + 1)).flatMap rBp++s))).length≤70368744177664:=by
   have : (L.drop (j + 1)).length≤97:=by rw [List.length_drop]; omega
   simp only [List.length_append]; omega
  have hr : record_Read (rB L[j]) = some (ψ L[j],0):=(hψ _ hmem).1
  have w : IntKind.wrap .u64 (((L.length - j : Nat) : Int) - 1) = ((L.length - (j + 1) : Nat) : Int):=by rw [wrap_u64 (by omega) (by omega)]; omega
  have htl : ((L.take j).map ψ).length≤97:=by rw [List.length_map,List.length_take]; omega
  rw [e1]
  unfold collect_readPart_a_L2 num_Reader_Err_a num_Reader_Left_a
  dsimp only
  rw [hd]
  simp only [gb,if_true,Option.bind_some,beq_self_eq_true,Bool.and_self]
  rw [RBytes_put _ _ hb1 hs1 hl1,Option.bind_some]
  dsimp only
  rw [hr,Option.bind_some,if_neg (by simp),chk_pos (by simp only [apOk,List.length_singleton]; omega),w,List.take_succ_eq_append_getElem hj,List.map_append]
  rfl
 ·dsimp only
  rw [List.take_length,List.drop_length,Nat.sub_self]
  unfold collect_readPart_a_L2 num_Reader_Err_a num_Reader_Left_a
  simp [gb]
theorem flat_congr : ∀ (l m : List Rk),l.length = m.length→(∀ (i : Nat) (h1 : i < l.length) (h2 : i < m.length),rB l[i] = rB m[i])→l.flatMap rBp = m.flatMap rBp
 | [],[],_,_=>rfl
 | [],y :: m,h,_=>by simp at h
 | x :: l,[],h,_=>by simp at h
 | x :: l,y :: m,h,k=>by
  have e : rB x = rB y:=k 0 (by simp) (by simp)
  have e2 : rBp x = rBp y:=by unfold rBp; rw [e]
  rw [List.flatMap_cons,List.flatMap_cons,e2,flat_congr l m (by simpa using h) fun i h1 h2=>k (i + 1) (by simpa using h1) (by simpa using h2)]
theorem recsB_rel {c : Int} (hc : 0≤c∧c≤8) {p q : CPart} {K L : Kn} (hp : Rel (GE c) p K) (hq : Rel (GE c) q L) (hs : Sim K L) : recsB (partRecs c p) = recsB (partRecs c q):=by
 have hG:=good_GE c
 have e1 : p.gknown = q.gknown:=by rw [hp.kno,hq.kno,hs.tot]
 have e2 : p.gtotal = q.gtotal:=by rw [hp.tot,hq.tot,hs.tot]
 have e3 : p.glost = q.glost:=Can.ext hp.can hq.can fun x=>by
  rw [hp.lost,hq.lost]
  constructor
  ·rintro ⟨s,s1,s2,s3,s4⟩
   exact ⟨s,s1,s2,by rw [← hs.lost s s1 s4]; exact s3,by rw [← hs.ids s s1]; exact s4⟩
  ·rintro ⟨s,s1,s2,s3,s4⟩
   have s5 : K.gIds s = 0:=by rw [hs.ids s s1]; exact s4
   exact ⟨s,s1,s2,by rw [hs.lost s s1 s5]; exact s3,s5⟩
 have hh : ∀ x,hasN p.gentries x↔hasN q.gentries x:=fun x=>by
  rw [hp.hasN hG,hq.hasN hG]
  constructor
  ·rintro ⟨s,s1,s2,s3⟩; exact ⟨s,s1,s2,by rw [← hs.ids s s1]; exact s3⟩
  ·rintro ⟨s,s1,s2,s3⟩; exact ⟨s,s1,s2,by rw [hs.ids s s1]; exact s3⟩
 obtain ⟨l1,l2⟩ := asc_same hp.asc hq.asc hh
 have hfl:=flat_congr p.gentries q.gentries l1 fun i h1 h2=>by
  have a:=hp.good _ (List.getElem_mem h1)
  have b:=hq.good _ (List.getElem_mem h2)
  have hsq:=hG.seq _ a.1
  have e:=l2 i h1 h2
  refine rB_congr (hG.fits _ a.1) (hG.fits _ b.1) (GE_valid hc b.1) (hG.one _ _ a.1 b.1 e ?_)
  rw [← a.2,← b.2,e]
  exact hs.ids _ (by omega)
 unfold recsB partRecs
 simp only [List.length_append,List.flatMap_append,List.length_map,e1,e2,e3,hfl,l1]
theorem partsB_congr : ∀ (P Q : List CPart) (k : Nat),P.length = Q.length→(∀ (i : Nat) (h1 : i < P.length) (h2 : i < Q.length),recsB (partRecs ((k + i : Nat) : Int) P[i]) = recsB (partRecs ((k + i : Nat) : Int) Q[i]))→partsB k P = partsB k Q
 | [],[],_,_,_=>rfl
 | [],y :: m,_,h,_=>by simp at h
 | x :: l,[],_,h,_=>by simp at h
 | x :: l,y :: m,k,h,g=>by
  have e : recsB (partRecs ((k : Nat) : Int) x) = recsB (partRecs ((k : Nat) : Int) y):=g 0 (by simp) (by simp)
  rw [partsB,partsB,e,partsB_congr l m (k + 1) (by simpa using h) fun i h1 h2=>by
   have:=g (i + 1) (by simpa using h1) (by simpa using h2)
   rw [show k + 1 + i = k + (i + 1) by omega]
   exact this]
theorem collB_rel {n : Nat} (hn : n≤8) {P Q : List CPart} {Ks Ls : List Kn} (hP : Inv n P Ks) (hQ : Inv n Q Ls) (hs : ∀ (i : Nat) (h1 : i < Ks.length) (h2 : i < Ls.length),Sim Ks[i] Ls[i]) : collB P = collB Q:=by
 have l1:=hP.len
 have l2:=hQ.len
 have k1:=hP.lenK
 have k2:=hQ.lenK
 unfold collB
 rw [l1,l2,partsB_congr P Q 0 (by omega) fun i h1 h2=>by
  rw [Nat.zero_add]
  exact recsB_rel ⟨by omega,by omega⟩ (hP.rel i h1 (by omega)) (hQ.rel i h2 (by omega)) (hs i (by omega) (by omega))]
theorem rel_sim {c : Int} {p : CPart} {K L : Kn} (hK : Rel (GE c) p K) (hL : Rel (GE c) p L) : Sim K L:=by
 have hG:=good_GE c
 have ids : ∀ {K L : Kn},Rel (GE c) p K→Rel (GE c) p L→∀ s : Nat,s < 48→K.gIds s≠0→K.gIds s = L.gIds s:=fun {K L} hK hL s hs h0=>by
  obtain ⟨r,hr,e⟩ := hK.cov s hs h0
  have a:=(hK.good r hr).2
  have b:=(hL.good r hr).2
  rw [e,Int.toNat_natCast] at a b
  rw [a,b]
 have hi : ∀ s : Nat,s < 48→K.gIds s = L.gIds s:=fun s hs=>by
  by_cases h0 : K.gIds s = 0
  ·by_cases h1 : L.gIds s = 0
   ·rw [h0,h1]
   ·exact (ids hL hK s hs h1).symm
  ·exact ids hK hL s hs h0
 have lo : ∀ {K L : Kn},Rel (GE c) p K→Rel (GE c) p L→∀ s : Nat,s < 48→K.gIds s = 0→K.gLost s = true→L.gLost s = true:=fun {K L} hK hL s hs h0 h1=>by
  obtain ⟨t,t1,t2,t3,t4⟩ := (hL.lost (s : Int)).1 ((hK.lost _).2 ⟨s,hs,rfl,h1,h0⟩)
  have : t = s:=by omega
  subst this; exact t3
 refine ⟨hi,fun s hs h0=>?_,?_⟩
 ·rw [Bool.eq_iff_iff]
  exact ⟨lo hK hL s hs h0,lo hL hK s hs (by rw [← hi s hs]; exact h0)⟩
 ·have a:=hK.kno
  have b:=hL.kno
  have c1:=hK.tot
  have d:=hL.tot
  have r1:=hK.rng
  have r2:=hL.rng
  rw [a,decide_eq_decide] at b
  by_cases h0 : 0≤K.gTotal
  ·rw [if_pos h0] at c1
   rw [if_pos (b.1 h0)] at d
   omega
  ·have : ¬ 0≤L.gTotal:=fun h=>h0 (b.2 h)
   omega
theorem span_ext {s t : CSpan} (h1 : s.gfrom = t.gfrom) (h2 : s.gto = t.gto) : s = t:=by
 cases s; cases t
 simp only at h1 h2
 rw [h1,h2]
theorem spans_eq2 (a b : List CSpan) (ha : a.length≤1099511627776) : ∃ e,eqS a b = some e∧(e = true→a = b):=by
 unfold eqS
 by_cases hl : a.length = b.length
 ·rw [if_neg (by simp [hl])]
  have hInd:=forM_ind (S:=Unit) (E:=Bool) (mx:=9223372036854775807) (n:=(List.length a : Int)) (body:=fun k s=>eqS_L2 a b k) (s0:=()) (fun k _=>∀ (i : Nat) (h1 : i < a.length) (h2 : i < b.length),i < k→a[i] = b[i]) (fun t=>match t with
   | .next _=>a = b
   | .done e=>e = false) (by omega) (by omega) (fun i _ _ h=>by omega) ?_ ?_
  ·obtain ⟨t,t1,t2⟩ := hInd
   rw [t1,Option.bind_some]
   cases t with
   | next _=>exact ⟨true,rfl,fun _=>t2⟩
   | done e=>exact ⟨e,rfl,fun h=>by rw [show e = false from t2] at h; cases h⟩
  ·intro k _ hk hI
   unfold eqS_L2
   rw [idx_lt (by omega),Option.bind_some,idx_lt (by omega),Option.bind_some]
   by_cases he : a[k]'(by omega) = b[k]'(by omega)
   ·refine .inl ⟨(),by rw [if_neg (by simp [he])],fun i h1 h2 hi=>?_⟩
    by_cases hik : i = k
    ·subst hik; exact he
    ·exact hI i h1 h2 (by omega)
   ·have hne : ¬ (a[k]'(by omega)).gfrom = (b[k]'(by omega)).gfrom∨¬ (a[k]'(by omega)).gto = (b[k]'(by omega)).gto:=by
     by_cases h : (a[k]'(by omega)).gfrom = (b[k]'(by omega)).gfrom
     ·exact .inr fun h2=>he (span_ext h h2)
     ·exact .inl h
    exact .inr ⟨false,by rw [if_pos (by simpa using hne)],rfl⟩
  ·intro _ hI
   exact List.ext_getElem hl fun i h1 h2=>hI i h1 h2 (by omega)
 ·rw [if_pos (by simp; omega)]
  exact ⟨false,rfl,fun h=>by cases h⟩
theorem recs_eq2 (l m : List Rk) (hl : l.length≤1099511627776) (hf : ∀ r∈l,reFits r = true) : ∃ e,eqfR l m = some e∧(e = true→l.length = m.length∧∀ (i : Nat) (h1 : i < l.length) (h2 : i < m.length),Eqr l[i] m[i]):=by
 unfold eqfR
 by_cases hlen : l.length = m.length
 ·rw [if_neg (by simp [hlen])]
  have hInd:=forM_ind (S:=Unit) (E:=Bool) (mx:=9223372036854775807) (n:=(List.length l : Int)) (body:=fun k s=>eqfR_L2 l m k) (s0:=()) (fun k _=>∀ (i : Nat) (h1 : i < l.length) (h2 : i < m.length),i < k→Eqr l[i] m[i]) (fun t=>match t with
   | .next _=>∀ (i : Nat) (h1 : i < l.length) (h2 : i < m.length),Eqr l[i] m[i]
   | .done e=>e = false) (by omega) (by omega) (fun i _ _ h=>by omega) ?_ ?_
  ·obtain ⟨t,t1,t2⟩ := hInd
   rw [t1,Option.bind_some]
   cases t with
   | next _=>exact ⟨true,rfl,fun _=>⟨hlen,t2⟩⟩
   | done e=>exact ⟨e,rfl,fun h=>by rw [show e = false from t2] at h; cases h⟩
  ·intro k _ hk hI
   unfold eqfR_L2
   have hkl : k < l.length:=by omega
   rw [idx_lt hkl,Option.bind_some,idx_lt (by omega),Option.bind_some,equal_eq (hf _ (List.getElem_mem hkl)),Option.bind_some]
   by_cases he : Eqr l[k] (m[k]'(by omega))
   ·have he' : recEq (reOf l[k]) (reOf (m[k]'(by omega))) = true:=he
    refine .inl ⟨(),by rw [he']; rfl,fun i h1 h2 hi=>?_⟩
    by_cases hik : i = k
    ·subst hik; exact he
    ·exact hI i h1 h2 (by omega)
   ·have he' : recEq (reOf l[k]) (reOf (m[k]'(by omega))) = false:=by rw [Bool.eq_false_iff]; exact he
    exact .inr ⟨false,by rw [he']; rfl,rfl⟩
  ·intro _ hI
   exact fun i h1 h2=>hI i h1 h2 (by omega)
 ·rw [if_pos (by simp; omega)]
  exact ⟨false,rfl,fun h=>by cases h⟩
theorem part_equal2 {c : Int} {p q : CPart} {K L : Kn} (hp : Rel (GE c) p K) (hq : Rel (GE c) q L) : ∃ e,CColl_Equal_1 p q = some e∧(e = true→Sim K L):=by
 have hG:=good_GE c
 have hne:=hp.ne
 have hnl:=hp.nl
 obtain ⟨e1,s1,s2⟩ := spans_eq2 p.glost q.glost (by omega)
 obtain ⟨e2,t1,t2⟩ := recs_eq2 p.gentries q.gentries (by omega) fun r hr=>hG.fits r (hp.good r hr).1
 have main : ∀ b,b = (p.gknown == q.gknown && p.gtotal == q.gtotal && e1 && e2)→b = true→Sim K L:=fun b hb ht=>by
  rw [ht] at hb
  have hb:=hb.symm
  simp only [Bool.and_eq_true,beq_iff_eq] at hb
  obtain ⟨⟨⟨b1,b2⟩,b3⟩,b4⟩ := hb
  have c1:=s2 b3
  obtain ⟨c2,c3⟩ := t2 b4
  -- the other part knows what this one knows
  refine rel_sim hp ⟨hp.asc,fun r hr=>⟨(hp.good r hr).1,?_⟩,fun s hs h0=>?_,hp.can,fun x=>?_,hp.sp,by rw [b1]; exact hq.kno,by rw [b2]; exact hq.tot,hq.rng,hp.ne,hp.nl⟩
  ·obtain ⟨i,hi,rfl⟩ := List.getElem_of_mem hr
   have e:=eqr_all (c3 i hi (by omega))
   have g:=(hq.good _ (List.getElem_mem (show i < q.gentries.length by omega))).2
   rw [e.2.1,e.2.2.2.1]; exact g
  ·obtain ⟨r,hr,hrs⟩ := hq.cov s hs h0
   obtain ⟨i,hi,rfl⟩ := List.getElem_of_mem hr
   exact ⟨_,List.getElem_mem (show i < p.gentries.length by omega),by rw [(c3 i (by omega) hi).seq]; exact hrs⟩
  ·rw [c1]; exact hq.lost x
 unfold CColl_Equal_1
 rw [s1,t1]
 refine ⟨p.gknown == q.gknown && p.gtotal == q.gtotal && e1 && e2,?_,fun h=>main _ rfl h⟩
 unfold gb
 cases h1 : (p.gknown == q.gknown) <;> cases h2 : (p.gtotal == q.gtotal) <;> cases e1 <;> cases e2 <;> rfl
theorem coll_equal2 {n : Nat} {P Q : List CPart} {Ks Ls : List Kn} (hP : Inv n P Ks) (hQ : Inv n Q Ls) (hn : n≤8) : ∃ e,CColl_Equal_a ⟨P⟩ ⟨Q⟩ = some e∧(e = true→∀ (i : Nat) (h1 : i < Ks.length) (h2 : i < Ls.length),Sim Ks[i] Ls[i]):=by
 have l1:=hP.len
 have l2:=hQ.len
 have k1:=hP.lenK
 have k2:=hQ.lenK
 unfold CColl_Equal_a eqfP
 dsimp only
 rw [if_neg (by simp [l1,l2])]
 have hInd:=forM_ind (S:=Unit) (E:=Bool) (mx:=9223372036854775807) (n:=(List.length P : Int)) (body:=fun k s=>eqfP_L2 P Q k) (s0:=()) (fun k _=>∀ (i : Nat) (h1 : i < Ks.length) (h2 : i < Ls.length),i < k→Sim Ks[i] Ls[i]) (fun t=>match t with
   | .next _=>∀ (i : Nat) (h1 : i < Ks.length) (h2 : i < Ls.length),Sim Ks[i] Ls[i]
   | .done e=>e = false) (by omega) (by omega) (fun i _ _ h=>by omega) ?_ ?_
 ·obtain ⟨t,t1,t2⟩ := hInd
  rw [t1,Option.bind_some]
  cases t with
  | next _=>exact ⟨true,rfl,fun _=>t2⟩
  | done e=>exact ⟨e,rfl,fun h=>by rw [show e = false from t2] at h; cases h⟩
 ·intro k _ hk hI
  have hkl : k < P.length:=by omega
  obtain ⟨e,e1,e2⟩ := part_equal2 (hP.rel k hkl (by omega)) (hQ.rel k (by omega) (by omega))
  unfold eqfP_L2
  rw [idx_lt hkl,Option.bind_some,idx_lt (by omega),Option.bind_some,e1,Option.bind_some]
  cases e with
  | true=>
   refine .inl ⟨(),rfl,fun i h1 h2 hi=>?_⟩
   by_cases hik : i = k
   ·subst hik; exact e2 rfl
   ·exact hI i h1 h2 (by omega)
  | false=>exact .inr ⟨false,rfl,rfl⟩
 ·intro _ hI
  exact fun i h1 h2=>hI i h1 h2 (by omega)
theorem parts_ok : ∀ (P : List CPart) (k : Nat),k + P.length≤100→(∀ (i : Nat) (h : i < P.length),∃ K,Rel (GE ((k + i : Nat) : Int)) P[i] K)→(partsB k P).length≤P.length * 39780∧∀ b∈partsB k P,Byt b
 | [],k,_,_=>⟨by simp [partsB],fun b hb=>by simp [partsB] at hb⟩
 | p :: P,k,hk,h=>by
  rw [List.length_cons] at hk
  obtain ⟨K,hK⟩ := h 0 (by simp)
  have hK : Rel (GE ((k : Nat) : Int)) p K:=hK
  obtain ⟨a,b⟩ := parts_ok P (k + 1) (by omega) fun i hi=>by
   have:=h (i + 1) (by simpa using hi)
   rw [show k + 1 + i = k + (i + 1) by omega]
   exact this
  have hr:=hK.PB.recs (k:=(k : Int)) ⟨by omega,by omega⟩
  have hl:=part_len hK
  have hs:=recsB_len hr.1 (by omega)
  refine ⟨?_,fun x hx=>?_⟩
  ·rw [partsB,List.length_append,List.length_cons]
   omega
  ·rw [partsB] at hx
   rcases List.mem_append.1 hx with h1 | h1
   ·exact recsB_byt hr.1 x h1
   ·exact b x h1
theorem coll_ok {n : Nat} (hn : n≤8) {P : List CPart} {Ks : List Kn} (h : Inv n P Ks) : (collB P).length≤400000∧(∀ b∈collB P,Byt b)∧CColl_Bytes_a ⟨P⟩ = some (collB P):=by
 have hl:=h.len
 have hk:=h.lenK
 obtain ⟨a,b⟩ := parts_ok P 0 (by omega) fun i hi=>⟨_,by rw [Nat.zero_add]; exact h.rel i hi (by omega)⟩
 have h10:=putU_ten (v:=(P.length : Int) - 1) (by omega)
 refine ⟨?_,fun x hx=>?_,bytes_coll P (fun p hp=>?_) (by omega) (by omega)⟩
 ·unfold collB
  rw [List.length_append]
  have : P.length * 39780≤9 * 39780:=Nat.mul_le_mul_right _ (by omega)
  omega
 ·unfold collB at hx
  rcases List.mem_append.1 hx with h1 | h1
  ·exact putU_byt (by omega) x h1
  ·exact b x h1
 ·obtain ⟨i,hi,rfl⟩ := List.getElem_of_mem hp
  exact (h.rel i hi (by omega)).PB
set_option maxHeartbeats 4000000
def slices_Clone_collect_part_collect_part_r (x0 : List CPart) : Option (List CPart):=chk (apOk 64 (List.length ([] : List CPart) + List.length x0)) (some (([] : List CPart)++x0))
theorem slices_Clone_collect_part_collect_part_r_c {x0 : List CPart} {r : List CPart} (hM : slices_Clone_collect_part_collect_part_r x0 = some r) : ACall Tryz.prog 74 ⟨[.row 100000],[(100000,some (.row 137 4 (List.map CPart.dv x0)))],.row 50000,[(50000,some (.row 137 4 (List.map CPart.dv r))),(100000,some (.row 137 4 (List.map CPart.dv x0)))],[50000]⟩ := by
 unfold slices_Clone_collect_part_collect_part_r at hM
 obtain ⟨h,hM⟩ := of_chk hM
 obtain rfl:=Option.some.inj hM
 refine ACall.body Tryz.func74 Tryz.ntmps74 rfl rfl rfl rfl ?_
 refine a_seq (a_region (.cons (o_assign rfl)<|.nil _) (by kernel_rfl) (by kernel_rfl) ?_)
 refine a_seq (a_seq ?_)
 refine a_isnil_r rfl rfl (by decide) (by decide) (fun b hb=>?_)
 refine a_cond _ rfl (fun c=>?_) (fun c=>?_)
 ·have h0 : x0 = []:=List.map_eq_nil_iff.1 (hb c)
  subst h0
  refine a_seq (a_region (.cons (o_assign rfl)<|.nil _) (by kernel_rfl) (by kernel_rfl) ?_)
  refine a_imp (Imp.nilRow (t:=2) (id:=50000) 137 4 rfl rfl) ?_
  exact a_ret (a_post (.r1 (.tmp rfl)) (DLe.refl _) (PostOk.spec (.cons rfl (.cons rfl .nil))))
 ·refine a_skip (a_seq (a_region (.cons (t_build CPart.dv ([] : List CPart) rfl rfl rfl rfl rfl rfl rfl)<|.cons (o_move rfl)<|.cons (t_append x0 h rfl rfl rfl (Src.row rfl))<|.cons (o_assign rfl)<|.nil _) (by kernel_rfl) (by kernel_rfl) ?_))
  refine a_imp (σ' := ⟨[(2,.row 50000)],[(50000,some (.row 137 4 (List.map CPart.dv (([] : List CPart)++x0)))),(100000,some (.row 137 4 (List.map CPart.dv x0)))],[50000,100000]⟩) (Imp.of (fun i=>bif Nat.beq i 50000 then 7 else i) (.cons rfl (DLe.refl _) .nil) (.cons rfl (.refl _) (.cons rfl (.refl _) .nil)) rfl rfl rfl) ?_
  exact a_ret (a_post (.r1 (.tmp rfl)) (DLe.refl _) (PostOk.spec (.cons rfl (.cons rfl .nil))))
theorem slices_Clone_collect_span_collect_span_p_c {x0 : List CSpan} {r : List CSpan} (hM : slices_Clone_collect_span_collect_span x0 = some r) : PCall Tryz.prog 75 [.sl 2 (List.map CSpan.dv x0)] (.sl 2 (List.map CSpan.dv r)):=by
 unfold slices_Clone_collect_span_collect_span at hM
 obtain ⟨h,hM⟩ := of_chk hM
 obtain rfl:=Option.some.inj hM
 refine PCall.body Tryz.func75 Tryz.ntmps75 rfl rfl rfl rfl ?_
 refine a_seq (a_region (.cons (o_assign rfl)<|.nil _) (by kernel_rfl) (by kernel_rfl) ?_)
 refine a_seq (a_seq ?_)
 refine a_isnil rfl (by decide) (by decide) (fun b hb=>?_)
 refine a_cond _ rfl (fun c=>?_) (fun c=>?_)
 ·have h0 : x0 = []:=List.map_eq_nil_iff.1 (hb c)
  subst h0
  refine a_seq (a_region (.cons (o_assign rfl)<|.nil _) (by kernel_rfl) (by kernel_rfl) ?_)
  exact a_ret (a_post (.r1 (.tmp rfl)) (DLe.nils _) PostOk.nil.spec)
 ·refine a_skip (a_seq (a_region (.cons (t_build CSpan.dv ([] : List CSpan) rfl rfl rfl rfl rfl rfl rfl)<|.cons (o_move rfl)<|.cons (t_append x0 h rfl rfl rfl Src.sl)<|.cons (o_assign rfl)<|.nil _) (by kernel_rfl) (by kernel_rfl) ?_))
  refine a_imp (Imp.freeze (id:=7) rfl) ?_
  exact a_ret (a_post (.r1 (.tmp rfl)) (DLe.refl _) PostOk.nil.spec)
def CColl_Copy_a_K1 (a4 : List CPart) : Option CColl :=
 some (CColl.mk a4)
def CColl_Copy_a_L2 (k5 : Nat) (a6 : List CPart) : Option (List CPart) :=
 (idx a6 (k5 : Int)).bind fun v11=>
 (collect_cloneAll v11.gentries).bind fun v13=>
 (idx a6 (k5 : Int)).bind fun v15=>
 (idx (List.set a6 (Int.toNat (k5 : Int)) (CPart.mk v13 v15.glost v15.gknown v15.gtotal)) (k5 : Int)).bind fun v17=>
 (slices_Clone_collect_span_collect_span v17.glost).bind fun v19=>
 (idx (List.set a6 (Int.toNat (k5 : Int)) (CPart.mk v13 v15.glost v15.gknown v15.gtotal)) (k5 : Int)).bind fun v21=>
 some (List.set (List.set a6 (Int.toNat (k5 : Int)) (CPart.mk v13 v15.glost v15.gknown v15.gtotal)) (Int.toNat (k5 : Int)) (CPart.mk v21.gentries v19 v21.gknown v21.gtotal))
def CColl_Copy_a (o0 : CColl) : Option CColl :=
 (slices_Clone_collect_part_collect_part_r o0.gparts).bind fun v3=>
 (foldM' 9223372036854775807 (List.length v3 : Int) (fun k5 s=>CColl_Copy_a_L2 k5 s) v3).bind fun s=>CColl_Copy_a_K1 s
theorem CColl_Copy_a_c {o0 : CColl} {r : CColl} (hM : CColl_Copy_a o0 = some r) : ACall Tryz.prog 27 ⟨[.ref 100000 0],[(100000,some (.blk 134 [.row 100001])),(100001,some (.row 137 4 (List.map CPart.dv o0.gparts)))],.ref 50000 0,[(50000,some (.blk 134 [.row 50001])),(50001,some (.row 137 4 (List.map CPart.dv r.gparts))),(100000,some (.blk 134 [.row 100001])),(100001,some (.row 137 4 (List.map CPart.dv o0.gparts)))],[50000,50001]⟩ := by
 unfold CColl_Copy_a at hM
 refine ACall.body Tryz.func27 Tryz.ntmps27 rfl rfl rfl rfl ?_
 refine a_seq (ar (.cons (o_assign rfl)<|.nil _) ?_)
 refine a_seq (a_seq (ar (.cons (o_move rfl)<|.cons (o_ptr_eq rfl)<|.nil _) ?_))
 refine a_cond _ rfl (fun c=>by cases c) (fun _=>?_)
 refine a_skip (a_seq ?_)
 obtain ⟨v3,h2,hM⟩ := of_bind hM
 refine ar (.cons (o_move rfl)<|.cons (o_nilCheck rfl)<|.cons (o_fieldAddr rfl)<|.cons (o_load_s rfl rfl rfl)<|.cons (o_callN (fun i=>bif Nat.beq i 50000 then 11 else bif Nat.beq i 100000 then 100001 else i) 1 (slices_Clone_collect_part_collect_part_r_c h2) rfl (DLeL.refl _) (.cons rfl .nil) rfl (.cons rfl .nil))<|.cons (o_build rfl rfl rfl)<|.cons (o_box rfl rfl)<|.cons (o_assign rfl)<|.nil _) ?_
 refine a_cut (α:=(List CPart)) (fun s=>⟨[(3,.ref 13 0)],[(13,some (.blk 134 [.row 10001])),(10001,some (.row 137 4 (List.map CPart.dv s))),(100000,some (.blk 134 [.row 100001])),(100001,some (.row 137 4 (List.map CPart.dv o0.gparts)))],[13,10001,100000,100001]⟩) (fun s=>CColl_Copy_a_K1 s = some r) ?_ ?_
 ·refine a_seq (ar (.cons (o_move rfl)<|.cons (o_nilCheck rfl)<|.cons (o_fieldAddr rfl)<|.cons (o_load_s rfl rfl rfl)<|.cons (t_len_r rfl rfl)<|.cons (o_move rfl)<|.nil _) ?_)
  obtain ⟨a6,hL7,hK7⟩ := of_bind hM
  refine a_block ?_
  refine a_fold (fun k5 (s : (List CPart))=>⟨[(3,.ref 13 0),(18,.int .i64 (List.length v3 : Int)),(19,.int .i64 (k5 : Int))],[(13,some (.blk 134 [.row 10002])),(10002,some (.row 137 4 (List.map CPart.dv s))),(100000,some (.blk 134 [.row 100001])),(100001,some (.row 137 4 (List.map CPart.dv o0.gparts)))],[13,10002,100000,100001]⟩) _ hL7 (Imp.sh (fun i=>bif Nat.beq i 10002 then 11 else i) rfl rfl rfl rfl rfl rfl) ?_ ?_
  ·rintro k5 a6 t8 hk5 hx5 hM
   replace hM : CColl_Copy_a_L2 k5 a6 = some t8:=hM
   unfold CColl_Copy_a_L2 at hM
   refine a_seq (ar (.cons (o_int rfl rfl rfl)<|.nil _) ?_)
   refine a_seq ?_
   refine a_cond _ rfl (fun _=>?_) (fun c=>absurd hk5 (of_decide_eq_false c))
   refine a_skip (a_seq (a_block (a_seq (ar (.cons (o_move rfl)<|.cons (o_assign rfl)<|.nil _) ?_))))
   refine a_seq ?_
   obtain ⟨v11,h10,hM⟩ := of_bind hM
   obtain ⟨v13,h12,hM⟩ := of_bind hM
   obtain ⟨v15,h14,hM⟩ := of_bind hM
   refine ad mixed (.cons (o_move rfl)<|.cons (o_nilCheck rfl)<|.cons (o_fieldAddr rfl)<|.cons (o_load_s rfl rfl rfl)<|.cons (o_move rfl)<|.cons (o_move rfl)<|.cons (o_nilCheck rfl)<|.cons (o_fieldAddr rfl)<|.cons (o_load_s rfl rfl rfl)<|.cons (o_move rfl)<|.cons (t_index_r h10 rfl rfl rfl)<|.cons (o_fieldAddr_p rfl)<|.cons (t_load_ps h10 rfl rfl rfl rfl)<|.cons (o_call (collect_cloneAll_c h12) rfl (DLeL.refl _) rfl)<|.cons (t_index_r h14 rfl rfl rfl)<|.cons (o_fieldAddr_p rfl)<|.cons (t_store_p (CPart.mk v13 v15.glost v15.gknown v15.gtotal) h14 rfl rfl rfl rfl rfl rfl rfl rfl rfl rfl rfl)<|.nil _) ?_
   obtain ⟨v17,h16,hM⟩ := of_bind hM
   obtain ⟨v19,h18,hM⟩ := of_bind hM
   obtain ⟨v21,h20,hM⟩ := of_bind hM
   refine ad mixed (.cons (o_move rfl)<|.cons (o_nilCheck rfl)<|.cons (o_fieldAddr rfl)<|.cons (o_load_s rfl rfl rfl)<|.cons (o_move rfl)<|.cons (o_move rfl)<|.cons (o_nilCheck rfl)<|.cons (o_fieldAddr rfl)<|.cons (o_load_s rfl rfl rfl)<|.cons (o_move rfl)<|.cons (t_index_r h16 rfl rfl rfl)<|.cons (o_fieldAddr_p rfl)<|.cons (t_load_ps h16 rfl rfl rfl rfl)<|.cons (o_call (slices_Clone_collect_span_collect_span_p_c h18) rfl (DLeL.refl _) rfl)<|.cons (t_index_r h20 rfl rfl rfl)<|.cons (o_fieldAddr_p rfl)<|.cons (t_store_p (CPart.mk v21.gentries v19 v21.gknown v21.gtotal) h20 rfl rfl rfl rfl rfl rfl rfl rfl rfl rfl rfl)<|.nil _) ?_
   refine ar (.cons (o_add rfl rfl (inR_i64 hk5 hx5))<|.cons (o_move rfl)<|.nil _) ?_
   obtain rfl:=Option.some.inj hM
   exact (Imp.of (fun i=>i) (.cons rfl (DLe.refl _) (.cons rfl (DLe.refl _) (.cons rfl (DLe.succ _ _) .nil))) (.cons rfl (.refl _) (.cons rfl (.refl _) (.cons rfl (.refl _) (.cons rfl (.refl _) .nil)))) rfl rfl rfl)
  ·rintro k5 hk5 hx5
   refine a_seq (ar (.cons (o_int rfl rfl rfl)<|.nil _) ?_)
   refine a_seq ?_
   refine a_cond _ rfl (fun c=>absurd (of_decide_eq_true c) (Int.not_lt.2 hk5)) (fun _=>?_)
   refine a_exit ?_
   exact ⟨a6,hK7,(Imp.sh (fun i=>bif Nat.beq i 10001 then 10002 else i) rfl rfl rfl rfl rfl rfl)⟩
 ·rintro a4 hM
  replace hM : CColl_Copy_a_K1 a4 = some r:=hM
  unfold CColl_Copy_a_K1 at hM
  refine a_seq (ar (.cons (o_move rfl)<|.cons (o_assign rfl)<|.nil _) ?_)
  obtain rfl:=Option.some.inj hM
  refine a_imp (σ' := ⟨[(2,.ref 50000 0)],[(50000,some (.blk 134 [.row 50001])),(50001,some (.row 137 4 (List.map CPart.dv ((CColl.mk a4).gparts)))),(100000,some (.blk 134 [.row 100001])),(100001,some (.row 137 4 (List.map CPart.dv o0.gparts)))],[50000,50001,100000,100001]⟩) (Imp.sh (fun i=>bif Nat.beq i 50001 then 10001 else bif Nat.beq i 50000 then 13 else i) rfl rfl rfl rfl rfl rfl) ?_
  exact a_ret (a_post (.r1 (.tmp rfl)) (DLe.refl _) (PostOk.spec (.cons rfl (.cons rfl (.cons rfl (.cons rfl .nil))))))
set_option maxHeartbeats 1000000
theorem copy_eq {n : Nat} {P : List CPart} {Ks : List Kn} (h : Inv n P Ks) (hn : n≤8) : CColl_Copy_a ⟨P⟩ = some ⟨P⟩ := by
 have hl:=h.len
 have hk:=h.lenK
 unfold CColl_Copy_a slices_Clone_collect_part_collect_part_r
 dsimp only
 rw [chk_pos (by simp only [apOk,List.length_nil,Nat.zero_add]; omega),Option.bind_some,List.nil_append]
 rw [foldM_spec (s0:=P) P.length (fun _=>P) rfl rfl (by omega) (fun j hj=>?_)]
 ·rfl
 ·have hr:=h.rel j hj (by omega)
  have hne:=hr.ne
  have hnl:=hr.nl
  have c1 : collect_cloneAll P[j].gentries = some P[j].gentries:=cloneAll_eq _ (by omega) fun r hm=>(good_GE _).fits r (hr.good r hm).1
  have c2 : slices_Clone_collect_span_collect_span P[j].glost = some P[j].glost:=by
   unfold slices_Clone_collect_span_collect_span
   rw [chk_pos (by simp only [apOk,List.length_nil,Nat.zero_add]; omega),List.nil_append]
  have e : P.set j P[j] = P:=set_self P j hj
  unfold CColl_Copy_a_L2
  rw [idx_lt hj,Option.bind_some,c1,Option.bind_some,Option.bind_some,Int.toNat_natCast,part_eta,e,idx_lt hj,Option.bind_some,c2,Option.bind_some,Option.bind_some,part_eta,e]
theorem Sta.merge {n : Nat} {P Q : List CPart} {Ks Bs : List Kn} {Rs Ss : Nat→List Rk} (hn : n≤8) (hP : Sta n P Ks Rs) (hQ : Sta n Q Bs Ss) : ∃ e P',CColl_Merge_a ⟨P⟩ ⟨Q⟩ = some (e,⟨P'⟩)∧(((∀ c,c < n + 1→Cons (Rs c++Ss c))∧e = 0∧∃ Ks',Sta n P' Ks' (fun c=>Rs c++Ss c))∨(¬ (∀ c,c < n + 1→Cons (Rs c++Ss c))∧e = 14∧P' = P)):=by
 have hk1:=hP.inv.lenK
 have hk2:=hQ.inv.lenK
 have hl1:=hP.inv.len
 have hl2:=hQ.inv.len
 have hjl : (jnL Ks Bs).length = n + 1:=by unfold jnL; rw [List.length_zipWith,hk1,hk2,Nat.min_self]
 have hsm : ∀ c,Small2 (Rs c++Ss c):=fun c r hr=>(List.mem_append.1 hr).elim (hP.small c r) (hQ.small c r)
 have hone : ∀ c (h : c < n + 1),(((jnL Ks Bs)[c]'(by rw [hjl]; exact h)).2 = true↔Cons (Rs c++Ss c))∧(((jnL Ks Bs)[c]'(by rw [hjl]; exact h)).2 = true→Rep ((jnL Ks Bs)[c]'(by rw [hjl]; exact h)).1 (Rs c++Ss c)):=fun c h=>by
  have hp:=hP.inv.rel c (by rw [hl1]; exact h) (by rw [hk1]; exact h)
  have hq:=hQ.inv.rel c (by rw [hl2]; exact h) (by rw [hk2]; exact h)
  have hj:=jn_some hp hq
  have e : (jnL Ks Bs)[c]'(by rw [hjl]; exact h) = jn (Ks[c]'(by rw [hk1]; exact h)) (Bs[c]'(by rw [hk2]; exact h)):=List.getElem_zipWith
  rw [e]
  exact refMerge_rep hq (hP.rep c (by rw [hk1]; exact h)) (hQ.rep c (by rw [hk2]; exact h)) hp.rng (hP.small c) (hQ.small c) hj
 obtain ⟨e,P',m1,m2⟩ := merge_coll hn hP.inv hQ.inv
 refine ⟨e,P',m1,?_⟩
 rcases m2 with ⟨b1,rfl,b3⟩ | ⟨b1,rfl,rfl⟩
 ·have hall : ∀ c (h : c < n + 1),((jnL Ks Bs)[c]'(by rw [hjl]; exact h)).2 = true:=fun c h=>(List.all_eq_true.1 b1) _ (List.getElem_mem (by rw [hjl]; exact h))
  refine .inl ⟨fun c h=>(hone c h).1.1 (hall c h),rfl,_,b3,hsm,fun i hi=>?_⟩
  rw [List.length_map,hjl] at hi
  rw [List.getElem_map]
  exact (hone i hi).2 (hall i hi)
 ·refine .inr ⟨fun hC=>?_,rfl,rfl⟩
  have : (jnL Ks Bs).all (·.2) = true:=by
   rw [List.all_eq_true]
   intro x hx
   obtain ⟨c,hc,rfl⟩ := List.getElem_of_mem hx
   rw [hjl] at hc
   exact (hone c hc).1.2 (hC c hc)
  rw [b1] at this; cases this
set_option maxHeartbeats 4000000
def w30_CollectBytes_K1 (v2_0 : CColl × (List e30_Known)) : Option Bool :=
 (w30_agrees_a v2_0.1 v2_0.2).bind fun v28=>
 some v28
def w30_CollectBytes_L2 (x2 : List w30_File) (v2_0 : CColl × (List e30_Known)) (a29 : Int) (a30 : List CPart) : Option (Ctl (Int × (List CPart)) Unit) :=
 if ((decide (a29 < (List.length x2 : Int))) && (decide (a29 < 8))) = true then
  (idx x2 a29).bind fun v35=>
  (w30_File_bytes v35 (IntKind.wrap .i64 ((List.length v2_0.2 : Int) - 1))).bind fun v37=>
  (CColl_Add_a v37.1 v37.2.1 (CColl.mk a30)).bind fun v39=>
  some (.next ((IntKind.wrap .i64 (a29 + 1)),v39.2.gparts))
 else
  some (.done ())
def w30_CollectBytes_K3 (v2_0 : CColl × (List e30_Known)) : Option Bool :=
 (w30_agrees_a v2_0.1 v2_0.2).bind fun v24=>
 some v24
def w30_CollectBytes_L4 (x2 : List w30_File) (v2_0 : CColl × (List e30_Known)) (a25 : Int) (a26 : List CPart) : Option (Ctl (Int × (List CPart)) Unit) :=
 if ((decide (a25 < (List.length x2 : Int))) && (decide (a25 < 8))) = true then
  (idx x2 a25).bind fun v31=>
  (w30_File_bytes v31 (IntKind.wrap .i64 ((List.length v2_0.2 : Int) - 1))).bind fun v33=>
  (CColl_Add_a v33.1 v33.2.1 (CColl.mk a26)).bind fun v35=>
  some (.next ((IntKind.wrap .i64 (a25 + 1)),v35.2.gparts))
 else
  some (.done ())
def w30_CollectBytes (x0 : Int) (x1 : List w30_File) (x2 : List w30_File) : Option Bool :=
 (w30_collected x0 x1).bind fun v2=>
 match v2 with
 | .inl v2_0=>
  (w30_collected x0 x2).bind fun v4=>
  match v4 with
  | .inl v4_0=>
   (w30_awake).bind fun v6=>
   if (((!v6) || false) || false) = true then
    some false
   else
    (CColl_Bytes_a v2_0.1).bind fun v9=>
    (collect_Read v9).bind fun v11=>
    match v11 with
    | .inl v11_0=>
     (CColl_Equal_a v11_0 v2_0.1).bind fun v13=>
     (gb (!(!v13)) (false) (w30_agrees_a v11_0 v2_0.2)).bind fun v15=>
     (gb (!((!v13) || (!v15))) (false) (CColl_Equal_a v2_0.1 v4_0.1)).bind fun v17=>
     if (!((!v13) || (!v15))) = true then
      (CColl_Bytes_a v2_0.1).bind fun v19=>
      (CColl_Bytes_a v4_0.1).bind fun v21=>
      if (((!v13) || (!v15)) || (v17 != ((strOfNums v19).toList == (strOfNums v21).toList))) = true then
       some false
      else
       (CColl_Copy_a v2_0.1).bind fun v24=>
       (CColl_Merge_a v24 v4_0.1).bind fun v26=>
       (whileM (E:=Unit) (fun s=>w30_CollectBytes_L2 x2 v2_0 s.1 s.2) (0,v26.2.gparts)).bind fun e=>w30_CollectBytes_K1 v2_0
     else
      if (((!v13) || (!v15)) || false) = true then
       some false
      else
       (CColl_Copy_a v2_0.1).bind fun v20=>
       (CColl_Merge_a v20 v4_0.1).bind fun v22=>
       (whileM (E:=Unit) (fun s=>w30_CollectBytes_L4 x2 v2_0 s.1 s.2) (0,v22.2.gparts)).bind fun e=>w30_CollectBytes_K3 v2_0
    | .inr v11_1=>
     none
  | .inr v4_1=>
   none
 | .inr v2_1=>
  none
theorem w30_CollectBytes_c {x0 : Int} {x1 : List w30_File} {x2 : List w30_File} {r : Bool} (hM : w30_CollectBytes x0 x1 x2 = some r) : PCall Tryz.prog 12 [.int .u8 x0,.sl 2 (List.map w30_File.dv x1),.sl 2 (List.map w30_File.dv x2)] (.bool r):=by
 unfold w30_CollectBytes at hM
 refine PCall.body Tryz.func12 Tryz.ntmps12 rfl rfl rfl rfl ?_
 refine a_seq (ar (.cons (o_assign rfl)<|.nil _) ?_)
 refine a_seq ?_
 obtain ⟨v2,h1,hM⟩ := of_bind hM
 rcases v2 with v2_0 | v2_1
 ·refine ar (.cons (o_move rfl)<|.cons (o_move rfl)<|.cons (o_callN (fun i=>bif Nat.beq i 50002 then 10003 else bif Nat.beq i 50001 then 10002 else bif Nat.beq i 50000 then 10001 else i) 3 (w30_collected_c0 h1) rfl (DLeL.refl _) .nil rfl .nil)<|.cons (o_move rfl)<|.cons (o_extract rfl rfl)<|.cons (o_extract rfl rfl)<|.cons (o_assign rfl)<|.cons (o_assign rfl)<|.nil _) ?_
  refine a_seq ?_
  obtain ⟨v4,h3,hM⟩ := of_bind hM
  rcases v4 with v4_0 | v4_1
  ·refine ar (.cons (o_move rfl)<|.cons (o_move rfl)<|.cons (o_callN (fun i=>bif Nat.beq i 50002 then 10006 else bif Nat.beq i 50001 then 10005 else bif Nat.beq i 50000 then 10004 else i) 3 (w30_collected_c0 h3) rfl (DLeL.refl _) .nil rfl .nil)<|.cons (o_move rfl)<|.cons (o_extract rfl rfl)<|.cons (o_extract rfl rfl)<|.cons (o_assign rfl)<|.cons (o_assign rfl)<|.nil _) ?_
   refine a_seq (a_seq ?_)
   obtain ⟨v6,h5,hM⟩ := of_bind hM
   refine ar (.cons (o_call (w30_awake_c h5) rfl (DLeL.refl _) rfl)<|.cons (o_not rfl)<|.cons (o_move rfl)<|.cons (o_guardG .bF rfl rfl (fun hb=>(.keep .nil)) (fun hb=>o_move rfl))<|.cons (o_guardG .bF rfl rfl (fun hb=>(.strip rfl hb .nil)) (fun hb=>o_ptr_eq rfl))<|.cons (o_or rfl rfl)<|.cons (o_move rfl)<|.cons (o_guardG .bF rfl rfl (fun hb=>(.keep .nil)) (fun hb=>o_move rfl))<|.cons (o_guardG .bF rfl rfl (fun hb=>(.strip rfl hb .nil)) (fun hb=>o_ptr_eq rfl))<|.cons (o_or rfl rfl)<|.nil _) ?_
   refine a_cond _ rfl (fun h7=>?_) (fun h7=>?_)
   ·replace hM:=(of_if hM).1 h7
    refine a_seq (ar (.cons (o_assign rfl)<|.nil _) ?_)
    obtain rfl:=Option.some.inj hM
    exact a_ret (a_post (.r1 (.tmp rfl)) (DLe.refl _) PostOk.nil.spec)
   ·replace hM:=(of_if hM).2 h7
    refine a_skip (a_seq ?_)
    obtain ⟨v9,h8,hM⟩ := of_bind hM
    obtain ⟨v11,h10,hM⟩ := of_bind hM
    rcases v11 with v11_0 | v11_1
    ·refine ar (.cons (o_move rfl)<|.cons (o_frz (o_callN (fun i=>bif Nat.beq i 50000 then 42 else bif Nat.beq i 100000 then 10001 else bif Nat.beq i 100001 then 10002 else i) 1 (CColl_Bytes_a_c h8) rfl (DLeL.refl _) (.cons rfl (.cons rfl .nil)) rfl (.cons rfl (.cons rfl .nil))))<|.cons (o_callN (fun i=>bif Nat.beq i 50001 then 10008 else bif Nat.beq i 50000 then 10007 else i) 2 (collect_Read_c0 h10) rfl (DLeL.refl _) .nil rfl .nil)<|.cons (o_move rfl)<|.cons (o_extract rfl rfl)<|.cons (o_extract rfl rfl)<|.cons (o_assign rfl)<|.cons (o_assign rfl)<|.nil _) ?_
     refine a_seq (a_seq ?_)
     obtain ⟨v13,h12,hM⟩ := of_bind hM
     obtain ⟨v15,h14,hM⟩ := of_bind hM
     obtain ⟨v17,h16,hM⟩ := of_bind hM
     by_cases hd18 : (!((!v13) || (!v15))) = true
     ·replace hM:=(of_if hM).1 hd18
      obtain ⟨v19,h18,hM⟩ := of_bind hM
      obtain ⟨v21,h20,hM⟩ := of_bind hM
      refine ad mixed (.cons (o_move rfl)<|.cons (o_int rfl rfl rfl)<|.cons (o_move rfl)<|.cons (o_guardOn .bF rfl rfl rfl (.keep .nil) (o_move rfl))<|.cons (o_guardOn .bF rfl rfl rfl (.keep .nil) (o_move rfl))<|.cons (o_guardOn .bF rfl rfl rfl (.strip rfl rfl (.strip rfl rfl .nil)) (o_callN (fun i=>bif Nat.beq i 100000 then 10007 else bif Nat.beq i 100001 then 10008 else bif Nat.beq i 100002 then 10001 else bif Nat.beq i 100003 then 10002 else i) 0 (CColl_Equal_a_c h12) rfl (DLeL.refl _) (.cons rfl (.cons rfl (.cons rfl (.cons rfl .nil)))) rfl (.cons rfl (.cons rfl (.cons rfl (.cons rfl .nil))))))<|.cons (o_guardOn .bF rfl rfl rfl (.strip rfl rfl .nil) (o_not rfl))<|.cons (o_or rfl rfl)<|.cons (o_move rfl)<|.cons (o_guardG .bF rfl rfl (fun hb=>(.keep .nil)) (fun hb=>o_move rfl))<|.cons (o_guardG .bF rfl rfl (fun hb=>(.keep .nil)) (fun hb=>o_move rfl))<|.cons (o_guardG .bF rfl rfl (fun hb=>(.strip rfl hb (.strip rfl hb .nil))) (fun hb=>o_callN (fun i=>bif Nat.beq i 100000 then 10007 else bif Nat.beq i 100001 then 10008 else bif Nat.beq i 100002 then 10003 else i) 0 (w30_agrees_a_c (of_gb h14 hb)) rfl (DLeL.refl _) (.cons rfl (.cons rfl (.cons rfl .nil))) rfl (.cons rfl (.cons rfl (.cons rfl .nil)))))<|.cons (o_guardG .bF rfl rfl (fun hb=>(.strip rfl hb .nil)) (fun hb=>o_not rfl))<|.cons (o_or rfl rfl)<|.cons (o_move rfl)<|.cons (o_guardG .bF rfl rfl (fun hb=>(.keep .nil)) (fun hb=>o_move rfl))<|.cons (o_guardG .bF rfl rfl (fun hb=>(.keep .nil)) (fun hb=>o_move rfl))<|.cons (o_guardG .bF rfl rfl (fun hb=>(.strip rfl hb (.strip rfl hb .nil))) (fun hb=>o_callN (fun i=>bif Nat.beq i 100000 then 10001 else bif Nat.beq i 100001 then 10002 else bif Nat.beq i 100002 then 10004 else bif Nat.beq i 100003 then 10005 else i) 0 (CColl_Equal_a_c (of_gb h16 hb)) rfl (DLeL.refl _) (.cons rfl (.cons rfl (.cons rfl (.cons rfl .nil)))) rfl (.cons rfl (.cons rfl (.cons rfl (.cons rfl .nil))))))<|.cons (o_guardG .bF rfl rfl (fun hb=>(.keep .nil)) (fun hb=>o_move rfl))<|.cons (o_guardOn .bF rfl rfl hd18 (.strip rfl hd18 .nil) (o_callN (fun i=>bif Nat.beq i 50000 then 65 else bif Nat.beq i 100000 then 10001 else bif Nat.beq i 100001 then 10002 else i) 1 (CColl_Bytes_a_c h18) rfl (DLeL.refl _) (.cons rfl (.cons rfl .nil)) rfl (.cons rfl (.cons rfl .nil))))<|.cons (o_guardOn .bF rfl rfl hd18 (.strip rfl hd18 .nil) (o_b2s v19 rfl (Src.row rfl)))<|.cons (o_guardOn .bF rfl rfl hd18 (.keep .nil) (o_move rfl))<|.cons (o_guardOn .bF rfl rfl hd18 (.strip rfl hd18 .nil) (o_callN (fun i=>bif Nat.beq i 50000 then 68 else bif Nat.beq i 100000 then 10004 else bif Nat.beq i 100001 then 10005 else i) 1 (CColl_Bytes_a_c h20) rfl (DLeL.refl _) (.cons rfl (.cons rfl .nil)) rfl (.cons rfl (.cons rfl .nil))))<|.cons (o_guardOn .bF rfl rfl hd18 (.strip rfl hd18 .nil) (o_b2s v21 rfl (Src.row rfl)))<|.cons (o_guardOn .bF rfl rfl hd18 (.strip rfl hd18 (.strip rfl hd18 .nil)) (o_streq rfl rfl))<|.cons (o_guardOn .bF rfl rfl hd18 (.strip rfl hd18 (.strip rfl hd18 .nil)) (o_boolne rfl rfl))<|.cons (o_or rfl rfl)<|.nil _) ?_
      refine a_cond _ rfl (fun h22=>?_) (fun h22=>?_)
      ·replace hM:=(of_if hM).1 h22
       refine a_seq (ar (.cons (o_assign rfl)<|.nil _) ?_)
       obtain rfl:=Option.some.inj hM
       exact a_ret (a_post (.r1 (.tmp rfl)) (DLe.refl _) PostOk.nil.spec)
      ·replace hM:=(of_if hM).2 h22
       refine a_skip (a_seq ?_)
       obtain ⟨v24,h23,hM⟩ := of_bind hM
       refine ar (.cons (o_move rfl)<|.cons (o_callN (fun i=>bif Nat.beq i 50001 then 10010 else bif Nat.beq i 50000 then 10009 else bif Nat.beq i 100000 then 10001 else bif Nat.beq i 100001 then 10002 else i) 2 (CColl_Copy_a_c h23) rfl (DLeL.refl _) (.cons rfl (.cons rfl .nil)) rfl (.cons rfl (.cons rfl .nil)))<|.cons (o_assign rfl)<|.nil _) ?_
       refine a_seq ?_
       obtain ⟨v26,h25,hM⟩ := of_bind hM
       refine ar (.cons (o_move rfl)<|.cons (o_move rfl)<|.cons (o_callN (fun i=>bif Nat.beq i 50000 then 10011 else bif Nat.beq i 100000 then 10009 else bif Nat.beq i 100001 then 10010 else bif Nat.beq i 100002 then 10004 else bif Nat.beq i 100003 then 10005 else i) 3 (CColl_Merge_a_c h25) rfl (DLeL.refl _) (.cons rfl (.cons rfl (.cons rfl (.cons rfl .nil)))) rfl (.cons rfl (.cons rfl .nil)))<|.nil _) ?_
       refine a_cut (α:=Unit) (fun s=>⟨[(7,.ref 10001 0),(8,.row 10012)],[(10001,some (.blk 134 [.row 10013])),(10012,some (.row 60 97 (List.map e30_Known.dv v2_0.2))),(10013,some (.row 137 4 (List.map CPart.dv v2_0.1.gparts)))],[10001,10012,10013]⟩) (fun s=>w30_CollectBytes_K1 v2_0 = some r) ?_ ?_
       ·refine a_seq (ar (.cons (o_assign rfl)<|.nil _) ?_)
        obtain ⟨e31,hL31,hK31⟩ := of_bind hM
        refine a_block (a_while (fun s : Int × (List CPart)=>⟨[(2,.sl 2 (List.map w30_File.dv x2)),(7,.ref 10001 0),(8,.row 10014),(13,.ref 10009 0),(14,.int .i64 s.1)],[(10001,some (.blk 134 [.row 10015])),(10009,some (.blk 134 [.row 10016])),(10014,some (.row 60 97 (List.map e30_Known.dv v2_0.2))),(10015,some (.row 137 4 (List.map CPart.dv v2_0.1.gparts))),(10016,some (.row 137 4 (List.map CPart.dv s.2)))],[10001,10009,10014,10015,10016]⟩) _ hL31 (Imp.sh (fun i=>bif Nat.beq i 10016 then 10011 else bif Nat.beq i 10015 then 10002 else bif Nat.beq i 10014 then 10003 else i) rfl rfl rfl rfl rfl rfl) ?_)
        rintro ⟨a29,a30⟩ t32 hM hE31
        replace hM : w30_CollectBytes_L2 x2 v2_0 a29 a30 = some t32:=hM
        unfold w30_CollectBytes_L2 at hM
        refine a_seq (a_seq (ar (.cons (o_move rfl)<|.cons (o_move rfl)<|.cons (t_len rfl)<|.cons (o_int rfl rfl rfl)<|.cons (o_move rfl)<|.cons (o_guardG .bT rfl rfl (fun hb=>(.keep .nil)) (fun hb=>o_move rfl))<|.cons (o_guardG .bT rfl rfl (fun hb=>(.strip rfl hb .nil)) (fun hb=>o_int rfl rfl rfl))<|.cons (o_and rfl rfl)<|.nil _) ?_))
        refine a_cond _ rfl (fun h33=>?_) (fun h33=>?_)
        ·replace hM:=(of_if hM).1 h33
         refine a_skip (a_seq (a_block (a_seq ?_)))
         obtain ⟨v35,h34,hM⟩ := of_bind hM
         obtain ⟨v37,h36,hM⟩ := of_bind hM
         refine ar (.cons (o_move rfl)<|.cons (o_move rfl)<|.cons (t_index h34 rfl rfl rfl)<|.cons (o_load_er rfl rfl rfl)<|.cons (o_move rfl)<|.cons (t_len_r rfl rfl)<|.cons (o_int rfl rfl rfl)<|.cons (o_callN (fun i=>bif Nat.beq i 50001 then 10018 else bif Nat.beq i 50000 then 10017 else i) 2 (w30_File_bytes_c h36) rfl (DLeL.refl _) .nil rfl .nil)<|.cons (o_move rfl)<|.cons (o_extract rfl rfl)<|.cons (o_extract rfl rfl)<|.cons (o_extract rfl rfl)<|.cons (o_assign rfl)<|.cons (o_assign rfl)<|.cons (o_assign rfl)<|.nil _) ?_
         refine a_imp (Imp.freeze (id:=10017) rfl) ?_
         obtain ⟨v39,h38,hM⟩ := of_bind hM
         refine ar (.cons (o_move rfl)<|.cons (o_move rfl)<|.cons (o_move rfl)<|.cons (o_callN (fun i=>bif Nat.beq i 50000 then 10019 else bif Nat.beq i 100000 then 10009 else bif Nat.beq i 100001 then 10016 else i) 3 (CColl_Add_a_c h38) rfl (DLeL.refl _) (.cons rfl (.cons rfl .nil)) rfl .nil)<|.nil _) ?_
         refine ar (.cons (o_move rfl)<|.cons (o_int rfl rfl rfl)<|.cons (o_assign rfl)<|.nil _) ?_
         obtain rfl:=Option.some.inj hM
         exact ⟨((IntKind.wrap .i64 (a29 + 1)),v39.2.gparts),rfl,(Imp.sh (fun i=>bif Nat.beq i 10016 then 10019 else i) rfl rfl rfl rfl rfl rfl)⟩
        ·replace hM:=(of_if hM).2 h33
         refine a_exit ?_
         obtain rfl:=Option.some.inj hM
         obtain rfl:=hE31 _ rfl
         exact ⟨(),hK31,(Imp.sh (fun i=>bif Nat.beq i 10013 then 10015 else bif Nat.beq i 10012 then 10014 else i) rfl rfl rfl rfl rfl rfl)⟩
       ·rintro _ hM
        replace hM : w30_CollectBytes_K1 v2_0 = some r:=hM
        unfold w30_CollectBytes_K1 at hM
        refine a_seq ?_
        obtain ⟨v28,h27,hM⟩ := of_bind hM
        refine ar (.cons (o_move rfl)<|.cons (o_move rfl)<|.cons (o_callN (fun i=>bif Nat.beq i 100000 then 10001 else bif Nat.beq i 100001 then 10013 else bif Nat.beq i 100002 then 10012 else i) 0 (w30_agrees_a_c h27) rfl (DLeL.refl _) (.cons rfl (.cons rfl (.cons rfl .nil))) rfl (.cons rfl (.cons rfl (.cons rfl .nil))))<|.cons (o_assign rfl)<|.nil _) ?_
        obtain rfl:=Option.some.inj hM
        exact a_ret (a_post (.r1 (.tmp rfl)) (DLe.refl _) PostOk.nil.spec)
     ·replace hd18:=Bool.eq_false_iff.2 hd18
      replace hM:=(of_if hM).2 hd18
      refine ad mixed (.cons (o_move rfl)<|.cons (o_int rfl rfl rfl)<|.cons (o_move rfl)<|.cons (o_guardOn .bF rfl rfl rfl (.keep .nil) (o_move rfl))<|.cons (o_guardOn .bF rfl rfl rfl (.keep .nil) (o_move rfl))<|.cons (o_guardOn .bF rfl rfl rfl (.strip rfl rfl (.strip rfl rfl .nil)) (o_callN (fun i=>bif Nat.beq i 100000 then 10007 else bif Nat.beq i 100001 then 10008 else bif Nat.beq i 100002 then 10001 else bif Nat.beq i 100003 then 10002 else i) 0 (CColl_Equal_a_c h12) rfl (DLeL.refl _) (.cons rfl (.cons rfl (.cons rfl (.cons rfl .nil)))) rfl (.cons rfl (.cons rfl (.cons rfl (.cons rfl .nil))))))<|.cons (o_guardOn .bF rfl rfl rfl (.strip rfl rfl .nil) (o_not rfl))<|.cons (o_or rfl rfl)<|.cons (o_move rfl)<|.cons (o_guardG .bF rfl rfl (fun hb=>(.keep .nil)) (fun hb=>o_move rfl))<|.cons (o_guardG .bF rfl rfl (fun hb=>(.keep .nil)) (fun hb=>o_move rfl))<|.cons (o_guardG .bF rfl rfl (fun hb=>(.strip rfl hb (.strip rfl hb .nil))) (fun hb=>o_callN (fun i=>bif Nat.beq i 100000 then 10007 else bif Nat.beq i 100001 then 10008 else bif Nat.beq i 100002 then 10003 else i) 0 (w30_agrees_a_c (of_gb h14 hb)) rfl (DLeL.refl _) (.cons rfl (.cons rfl (.cons rfl .nil))) rfl (.cons rfl (.cons rfl (.cons rfl .nil)))))<|.cons (o_guardG .bF rfl rfl (fun hb=>(.strip rfl hb .nil)) (fun hb=>o_not rfl))<|.cons (o_or rfl rfl)<|.cons (o_move rfl)<|.cons (o_guardG .bF rfl rfl (fun hb=>(.keep .nil)) (fun hb=>o_move rfl))<|.cons (o_guardG .bF rfl rfl (fun hb=>(.keep .nil)) (fun hb=>o_move rfl))<|.cons (o_guardG .bF rfl rfl (fun hb=>(.strip rfl hb (.strip rfl hb .nil))) (fun hb=>o_callN (fun i=>bif Nat.beq i 100000 then 10001 else bif Nat.beq i 100001 then 10002 else bif Nat.beq i 100002 then 10004 else bif Nat.beq i 100003 then 10005 else i) 0 (CColl_Equal_a_c (of_gb h16 hb)) rfl (DLeL.refl _) (.cons rfl (.cons rfl (.cons rfl (.cons rfl .nil)))) rfl (.cons rfl (.cons rfl (.cons rfl (.cons rfl .nil))))))<|.cons (o_guardG .bF rfl rfl (fun hb=>(.keep .nil)) (fun hb=>o_move rfl))<|.cons (o_guardOff (.nils) .bF rfl rfl hd18)<|.cons (o_guardOff (.str ByteArray.empty) .bF rfl rfl hd18)<|.cons (o_guardOff (.val (.pointer none)) .bF rfl rfl hd18)<|.cons (o_guardOff (.nils) .bF rfl rfl hd18)<|.cons (o_guardOff (.str ByteArray.empty) .bF rfl rfl hd18)<|.cons (o_guardOff (.bool false) .bF rfl rfl hd18)<|.cons (o_guardOff (.bool false) .bF rfl rfl hd18)<|.cons (o_or rfl rfl)<|.nil _) ?_
      refine a_cond _ rfl (fun h18=>?_) (fun h18=>?_)
      ·replace hM:=(of_if hM).1 h18
       refine a_seq (ar (.cons (o_assign rfl)<|.nil _) ?_)
       obtain rfl:=Option.some.inj hM
       exact a_ret (a_post (.r1 (.tmp rfl)) (DLe.refl _) PostOk.nil.spec)
      ·replace hM:=(of_if hM).2 h18
       refine a_skip (a_seq ?_)
       obtain ⟨v20,h19,hM⟩ := of_bind hM
       refine ar (.cons (o_move rfl)<|.cons (o_callN (fun i=>bif Nat.beq i 50001 then 10010 else bif Nat.beq i 50000 then 10009 else bif Nat.beq i 100000 then 10001 else bif Nat.beq i 100001 then 10002 else i) 2 (CColl_Copy_a_c h19) rfl (DLeL.refl _) (.cons rfl (.cons rfl .nil)) rfl (.cons rfl (.cons rfl .nil)))<|.cons (o_assign rfl)<|.nil _) ?_
       refine a_seq ?_
       obtain ⟨v22,h21,hM⟩ := of_bind hM
       refine ar (.cons (o_move rfl)<|.cons (o_move rfl)<|.cons (o_callN (fun i=>bif Nat.beq i 50000 then 10011 else bif Nat.beq i 100000 then 10009 else bif Nat.beq i 100001 then 10010 else bif Nat.beq i 100002 then 10004 else bif Nat.beq i 100003 then 10005 else i) 3 (CColl_Merge_a_c h21) rfl (DLeL.refl _) (.cons rfl (.cons rfl (.cons rfl (.cons rfl .nil)))) rfl (.cons rfl (.cons rfl .nil)))<|.nil _) ?_
       refine a_cut (α:=Unit) (fun s=>⟨[(7,.ref 10001 0),(8,.row 10012)],[(10001,some (.blk 134 [.row 10013])),(10012,some (.row 60 97 (List.map e30_Known.dv v2_0.2))),(10013,some (.row 137 4 (List.map CPart.dv v2_0.1.gparts)))],[10001,10012,10013]⟩) (fun s=>w30_CollectBytes_K3 v2_0 = some r) ?_ ?_
       ·refine a_seq (ar (.cons (o_assign rfl)<|.nil _) ?_)
        obtain ⟨e27,hL27,hK27⟩ := of_bind hM
        refine a_block (a_while (fun s : Int × (List CPart)=>⟨[(2,.sl 2 (List.map w30_File.dv x2)),(7,.ref 10001 0),(8,.row 10014),(13,.ref 10009 0),(14,.int .i64 s.1)],[(10001,some (.blk 134 [.row 10015])),(10009,some (.blk 134 [.row 10016])),(10014,some (.row 60 97 (List.map e30_Known.dv v2_0.2))),(10015,some (.row 137 4 (List.map CPart.dv v2_0.1.gparts))),(10016,some (.row 137 4 (List.map CPart.dv s.2)))],[10001,10009,10014,10015,10016]⟩) _ hL27 (Imp.sh (fun i=>bif Nat.beq i 10016 then 10011 else bif Nat.beq i 10015 then 10002 else bif Nat.beq i 10014 then 10003 else i) rfl rfl rfl rfl rfl rfl) ?_)
        rintro ⟨a25,a26⟩ t28 hM hE27
        replace hM : w30_CollectBytes_L4 x2 v2_0 a25 a26 = some t28:=hM
        unfold w30_CollectBytes_L4 at hM
        refine a_seq (a_seq (ar (.cons (o_move rfl)<|.cons (o_move rfl)<|.cons (t_len rfl)<|.cons (o_int rfl rfl rfl)<|.cons (o_move rfl)<|.cons (o_guardG .bT rfl rfl (fun hb=>(.keep .nil)) (fun hb=>o_move rfl))<|.cons (o_guardG .bT rfl rfl (fun hb=>(.strip rfl hb .nil)) (fun hb=>o_int rfl rfl rfl))<|.cons (o_and rfl rfl)<|.nil _) ?_))
        refine a_cond _ rfl (fun h29=>?_) (fun h29=>?_)
        ·replace hM:=(of_if hM).1 h29
         refine a_skip (a_seq (a_block (a_seq ?_)))
         obtain ⟨v31,h30,hM⟩ := of_bind hM
         obtain ⟨v33,h32,hM⟩ := of_bind hM
         refine ar (.cons (o_move rfl)<|.cons (o_move rfl)<|.cons (t_index h30 rfl rfl rfl)<|.cons (o_load_er rfl rfl rfl)<|.cons (o_move rfl)<|.cons (t_len_r rfl rfl)<|.cons (o_int rfl rfl rfl)<|.cons (o_callN (fun i=>bif Nat.beq i 50001 then 10018 else bif Nat.beq i 50000 then 10017 else i) 2 (w30_File_bytes_c h32) rfl (DLeL.refl _) .nil rfl .nil)<|.cons (o_move rfl)<|.cons (o_extract rfl rfl)<|.cons (o_extract rfl rfl)<|.cons (o_extract rfl rfl)<|.cons (o_assign rfl)<|.cons (o_assign rfl)<|.cons (o_assign rfl)<|.nil _) ?_
         refine a_imp (Imp.freeze (id:=10017) rfl) ?_
         obtain ⟨v35,h34,hM⟩ := of_bind hM
         refine ar (.cons (o_move rfl)<|.cons (o_move rfl)<|.cons (o_move rfl)<|.cons (o_callN (fun i=>bif Nat.beq i 50000 then 10019 else bif Nat.beq i 100000 then 10009 else bif Nat.beq i 100001 then 10016 else i) 3 (CColl_Add_a_c h34) rfl (DLeL.refl _) (.cons rfl (.cons rfl .nil)) rfl .nil)<|.nil _) ?_
         refine ar (.cons (o_move rfl)<|.cons (o_int rfl rfl rfl)<|.cons (o_assign rfl)<|.nil _) ?_
         obtain rfl:=Option.some.inj hM
         exact ⟨((IntKind.wrap .i64 (a25 + 1)),v35.2.gparts),rfl,(Imp.sh (fun i=>bif Nat.beq i 10016 then 10019 else i) rfl rfl rfl rfl rfl rfl)⟩
        ·replace hM:=(of_if hM).2 h29
         refine a_exit ?_
         obtain rfl:=Option.some.inj hM
         obtain rfl:=hE27 _ rfl
         exact ⟨(),hK27,(Imp.sh (fun i=>bif Nat.beq i 10013 then 10015 else bif Nat.beq i 10012 then 10014 else i) rfl rfl rfl rfl rfl rfl)⟩
       ·rintro _ hM
        replace hM : w30_CollectBytes_K3 v2_0 = some r:=hM
        unfold w30_CollectBytes_K3 at hM
        refine a_seq ?_
        obtain ⟨v24,h23,hM⟩ := of_bind hM
        refine ar (.cons (o_move rfl)<|.cons (o_move rfl)<|.cons (o_callN (fun i=>bif Nat.beq i 100000 then 10001 else bif Nat.beq i 100001 then 10013 else bif Nat.beq i 100002 then 10012 else i) 0 (w30_agrees_a_c h23) rfl (DLeL.refl _) (.cons rfl (.cons rfl (.cons rfl .nil))) rfl (.cons rfl (.cons rfl (.cons rfl .nil))))<|.cons (o_assign rfl)<|.nil _) ?_
        obtain rfl:=Option.some.inj hM
        exact a_ret (a_post (.r1 (.tmp rfl)) (DLe.refl _) PostOk.nil.spec)
    ·cases hM
  ·cases hM
 ·cases hM
set_option maxHeartbeats 1000000
theorem sim_refl (K : Kn) : Sim K K := ⟨fun _ _=>rfl,fun _ _ _=>rfl,rfl⟩
theorem str_inj {a b : List Int} (ha : ∀ x∈a,Byt x) (hb : ∀ x∈b,Byt x) (h : ((strOfNums a).toList == (strOfNums b).toList) = true) : a = b:=by
 have l1 : ∀ l : List Int,(strOfNums l).toList = l.map fun n=>UInt8.ofNat n.toNat:=fun l=>by rw [ByteArray.toList_eq]; rfl
 rw [beq_iff_eq,l1,l1] at h
 have hlen : a.length = b.length:=by
  have:=congrArg List.length h
  simpa using this
 refine List.ext_getElem hlen fun i h1 h2=>?_
 have:=congrArg (fun l=>l[i]?) h
 simp only [List.getElem?_map,List.getElem?_eq_getElem h1,List.getElem?_eq_getElem h2,Option.map_some,Option.some.injEq] at this
 have e:=congrArg UInt8.toNat this
 have x1:=ha _ (List.getElem_mem h1)
 have x2:=hb _ (List.getElem_mem h2)
 have y1:=x1.1
 have y2:=x1.2
 have y3:=x2.1
 have y4:=x2.2
 simp only [UInt8.toNat_ofNat'] at e
 omega
theorem Read_back {n : Nat} (hn : 1≤n∧n≤8) {P : List CPart} {Ks : List Kn} (h : Inv n P Ks) (hS : ∀ (i : Nat) (hi : i < Ks.length),Sound Ks[i]) : ∃ Q,collect_Read (collB P) = some (.inl ⟨Q⟩)∧Inv n Q Ks:=by
 have hl:=h.len
 have hk:=h.lenK
 obtain ⟨c1,c2,c3⟩ := coll_ok hn.2 h
 have hu : ((⟨collB P,0⟩ : Rd).uint 8) = ((n : Int),⟨partsB 0 P,0⟩):=by
  unfold collB
  rw [hl,show ((n + 1 : Nat) : Int) - 1 = (n : Int) by omega]
  exact uint_put ⟨by omega,by omega⟩ (by omega) _
 have wn : IntKind.wrap .i64 (n : Int) = (n : Int):=wrap_i64 (by omega) (by omega)
 have hpo : ∀ k,(partsB k (P.drop k)).length≤400000∧∀ b∈partsB k (P.drop k),Byt b:=fun k=>by
  by_cases hkn : k≤n + 1
  ·obtain ⟨a,b⟩ := parts_ok (P.drop k) k (by rw [List.length_drop]; omega) fun i hi=>by
    rw [List.length_drop] at hi
    rw [List.getElem_drop]
    exact ⟨_,h.rel (k + i) (by omega) (by omega)⟩
   refine ⟨?_,b⟩
   rw [List.length_drop] at a
   have : (P.length - k) * 39780≤9 * 39780:=Nat.mul_le_mul_right _ (by omega)
   omega
  ·rw [List.drop_eq_nil_of_le (by omega)]
   exact ⟨by simp [partsB],fun b hb=>by simp [partsB] at hb⟩
 unfold collect_Read num_NewReader
 rw [chk_pos (by simp only [apOk,List.length_nil,Nat.zero_add]; omega),Option.bind_some,List.nil_append,RUint_eq _ _ 0 c2 (by omega),Option.bind_some,hu]
 dsimp only
 rw [wn,new_eq n hn,Option.bind_some]
 dsimp only
 have hInd:=forM_ind (S:=(List Int) × Int × (List CPart)) (E:=(CColl) ⊕ (Unit)) (mx:=9223372036854775807) (n:=(List.length (List.replicate (n + 1) part0) : Int)) (body:=fun k18 s=>collect_Read_L2 k18 s.1 s.2.1 s.2.2) (s0:=(partsB 0 P,0,List.replicate (n + 1) part0))
  (fun k s=>s.1 = partsB k (P.drop k)∧s.2.1 = 0∧s.2.2.length = n + 1∧∀ (i : Nat) (hi : i < s.2.2.length) (hi2 : i < Ks.length),i < k→Rel (GE (i : Int)) s.2.2[i] Ks[i])
  (fun t=>∃ Q,t = .next ([],0,Q)∧Inv n Q Ks)
  (by rw [List.length_replicate]; omega) (by omega) ⟨rfl,rfl,List.length_replicate ..,fun i _ _ hi=>absurd hi (Nat.not_lt_zero _)⟩ ?_ ?_
 ·obtain ⟨t,t1,Q,rfl,hQ⟩ := hInd
  rw [t1,Option.bind_some]
  dsimp only
  obtain ⟨d1,d2,d3⟩ := coll_ok hn.2 hQ
  have he : collB Q = collB P:=collB_rel hn.2 hQ h fun i h1 h2=>sim_refl _
  refine ⟨Q,?_,hQ⟩
  unfold collect_Read_K1
  have hv : num_Reader_End_a ⟨[],0⟩ = some 0:=rfl
  rw [hv,Option.bind_some,if_pos (by decide),d3,Option.bind_some]
  unfold bytes_Equal
  rw [Option.bind_some,he,beq_self_eq_true,if_neg (by decide)]
 ·rintro k ⟨zs,e2,Q⟩ hk2 ⟨i1,i2,i3,i4⟩
  dsimp only at i1 i2 i3 i4 ⊢
  subst i1 i2
  rw [List.length_replicate] at hk2
  have hkP : k < P.length:=by omega
  have hkQ : k < Q.length:=by omega
  have hkK : k < Ks.length:=by omega
  have e : partsB k (P.drop k) = recsB (partRecs (k : Int) P[k])++partsB (k + 1) (P.drop (k + 1)):=by
   rw [List.drop_eq_getElem_cons hkP,partsB]
  obtain ⟨m,r1,r2⟩ := readPart_back (c:=(k : Int)) ⟨by omega,by omega⟩ (h.rel k hkP hkK) (hS k hkK) _ (hpo (k + 1)).2 (by have:=(hpo (k + 1)).1; omega)
  unfold collect_Read_L2
  rw [e,r1,Option.bind_some,idx_lt hkQ,Option.bind_some,Int.toNat_natCast]
  refine .inl ⟨_,rfl,rfl,rfl,by (try dsimp only); rw [List.length_set]; exact i3,fun i hi hi2 hik=>?_⟩
  dsimp only at hi ⊢
  rw [List.getElem_set]
  by_cases e : k = i
  ·subst e; rw [if_pos rfl]; exact r2
  ·rw [if_neg e]
   exact i4 i (by rw [List.length_set] at hi; exact hi) hi2 (by omega)
 ·rintro ⟨zs,e2,Q⟩ ⟨i1,i2,i3,i4⟩
  dsimp only at i1 i2 i3 i4
  rw [List.length_replicate,Int.toNat_natCast] at i1 i4
  rw [List.drop_eq_nil_of_le (by omega)] at i1
  subst i1 i2
  exact ⟨Q,rfl,i3,hk,fun i hi hi2=>i4 i hi hi2 (by omega)⟩
theorem bytes_loop {n : Nat} (hn : 1≤n∧n≤8) {φ : Fi→List Int × List Rk} (hφ : ∀ f,FileOk f→FileSpec n f (φ f)) (x2 : List Fi) (h2 : ∀ f∈x2,FileOk f) {A : List CPart} {K1 : List Kn} {R1 : Nat→List Rk} (s1 : Sta n A K1 R1) (step : Int × List CPart→Option (Ctl (Int × List CPart) Unit))
  (hstep : ∀ (i : Nat) parts,step ((i : Int),parts) = if ((decide ((i : Int) < (List.length x2 : Int))) && (decide ((i : Int) < 8))) = true then (idx x2 (i : Int)).bind fun v35=>(w30_File_bytes v35 (n : Int)).bind fun v37=>(CColl_Add_a v37.1 v37.2.1 (CColl.mk parts)).bind fun v39=>some (.next ((IntKind.wrap .i64 ((i : Int) + 1)),v39.2.gparts)) else some (.done ())) : whileM step (0,A) = some ():=by
 have hInd:=whileM_ind (S:=Int × List CPart) (E:=Unit) (step:=step) (s0:=(0,A)) (fun s=>∃ (i : Nat) (K : List Kn) (R : Nat→List Rk),s.1 = (i : Int)∧i≤8∧Sta n s.2 K R) (fun s=>(8 - s.1).toNat) (fun _=>True) ⟨0,K1,R1,rfl,by omega,s1⟩ (by (try dsimp only); omega) ?_
 ·obtain ⟨e,h1,_⟩ := hInd
  exact h1
 ·rintro ⟨ii,parts⟩ ⟨i,K,R,hi,hi8,hS⟩
  dsimp only at hi hS ⊢
  subst hi
  rw [hstep]
  by_cases hc : i < x2.length∧i < 8
  ·have hd : ((decide ((i : Int) < (List.length x2 : Int))) && (decide ((i : Int) < 8))) = true:=by
    simp only [Bool.and_eq_true,decide_eq_true_eq]; omega
   have hf:=hφ _ (h2 _ (List.getElem_mem hc.1))
   rw [hd,if_pos rfl,idx_lt hc.1,Option.bind_some]
   generalize x2[i]'hc.1 = f at hf ⊢
   have hcc:=cOf_eq hn f
   obtain ⟨K',ok,e,parts',a1,a2,a3⟩ := hS.file hn hf
   have wi : IntKind.wrap .i64 ((i : Int) + 1) = ((i + 1 : Nat) : Int):=by rw [wrap_i64 (by omega) (by omega)]; omega
   rw [hf.1,Option.bind_some,hcc.1]
   dsimp only
   rw [a2,Option.bind_some,wi]
   refine .inl ⟨_,rfl,?_,by (try dsimp only); omega⟩
   rcases a3 with ⟨rfl,rfl,_,hS'⟩ | ⟨rfl,rfl,_,rfl,hK⟩
   ·exact ⟨i + 1,_,_,rfl,by omega,hS'⟩
   ·exact ⟨i + 1,K,R,rfl,by omega,hS⟩
  ·have hd : ((decide ((i : Int) < (List.length x2 : Int))) && (decide ((i : Int) < 8))) = false:=by
    rw [Bool.eq_false_iff]
    simp only [ne_eq,Bool.and_eq_true,decide_eq_true_eq]; omega
   rw [hd]
   exact .inr ⟨_,rfl,trivial⟩
theorem bytes_law (x0 : Int) (x1 x2 : List Fi) (hx : 0≤x0∧x0≤255) (h1 : ∀ f∈x1,FileOk f) (h2 : ∀ f∈x2,FileOk f) : w30_CollectBytes x0 x1 x2 = some true:=by
 have hn : 1≤nOf x0∧nOf x0≤8:=by unfold nOf; omega
 obtain ⟨φ,hφ⟩ := files_fun (nOf x0) hn
 obtain ⟨P,Ks,Rs,p1,p2,_⟩ := collected2 x0 hx hφ x1 h1
 obtain ⟨Q,Bs,Ss,q1,q2,_⟩ := collected2 x0 hx hφ x2 h2
 unfold w30_CollectBytes
 rw [p1,Option.bind_some]
 dsimp only
 rw [q1,Option.bind_some]
 dsimp only
 rw [awake30,Option.bind_some]
 simp only [Bool.not_true,Bool.or_self,Bool.false_eq_true,if_false]
 generalize hN : nOf x0 = n at hn hφ p2 q2
 have hk:=p2.inv.lenK
 have wn : IntKind.wrap .i64 ((List.length Ks : Int) - 1) = (n : Int):=by rw [wrap_i64 (by omega) (by omega)]; omega
 have hS1 : ∀ (i : Nat) (hi : i < Ks.length),Sound Ks[i]:=fun i hi=>(p2.rep i hi).snd
 have hS2 : ∀ (i : Nat) (hi : i < Bs.length),Sound Bs[i]:=fun i hi=>(q2.rep i hi).snd
 obtain ⟨c1,c2,c3⟩ := coll_ok hn.2 p2.inv
 obtain ⟨d1,d2,d3⟩ := coll_ok hn.2 q2.inv
 obtain ⟨B,b1,b2⟩ := Read_back hn p2.inv hS1
 obtain ⟨e,e1,e2⟩ := coll_equal2 p2.inv q2.inv hn.2
 have hag:=p2.inv.agrees hn.2
 have he : e = ((strOfNums (collB P)).toList == (strOfNums (collB Q)).toList):=by
  cases e with
  | true=>
   rw [collB_rel hn.2 p2.inv q2.inv (e2 rfl)]
   simp
  | false=>
   symm
   rw [Bool.eq_false_iff]
   intro hs
   have hs:=str_inj c2 d2 hs
   obtain ⟨C,g1,g2⟩ := Read_back hn q2.inv hS2
   rw [← hs,b1] at g1
   injection g1 with g1
   injection g1 with g1
   injection g1 with g1
   subst g1
   have:=coll_equal p2.inv q2.inv hn.2 fun i i1 i2=>rel_sim (b2.rel i (by rw [b2.len,← b2.lenK]; exact i1) i1) (g2.rel i (by rw [g2.len,← g2.lenK]; exact i2) i2)
   rw [this] at e1
   injection e1 with e1
   cases e1
 have hq:=coll_equal b2 p2.inv hn.2 fun i _ _=>sim_refl _
 rw [c3,Option.bind_some,b1,Option.bind_some]
 dsimp only
 rw [hq,Option.bind_some]
 simp only [Bool.not_true,Bool.not_false,gb,if_true,b2.agrees hn.2,Option.bind_some,Bool.or_self,e1,c3,d3]
 rw [if_neg (by rw [← he]; simp)]
 rw [copy_eq p2.inv hn.2,Option.bind_some]
 obtain ⟨er,P1,m1,m2⟩ := Sta.merge hn.2 p2 q2
 rw [m1,Option.bind_some]
 dsimp only
 obtain ⟨K1,R1,s1⟩ : ∃ K1 R1,Sta n P1 K1 R1:=by
  rcases m2 with ⟨_,_,K1,hS⟩ | ⟨_,_,rfl⟩
  ·exact ⟨K1,_,hS⟩
  ·exact ⟨Ks,Rs,p2⟩
 rw [bytes_loop hn hφ x2 h2 s1 (fun s=>w30_CollectBytes_L2 x2 (⟨P⟩,Ks) s.1 s.2) (fun i parts=>by unfold w30_CollectBytes_L2; rw [wn]),Option.bind_some]
 unfold w30_CollectBytes_K1
 dsimp only
 rw [hag]
 rfl
end Go.Proofs.YtepkcbalmjnhpaaGreat
