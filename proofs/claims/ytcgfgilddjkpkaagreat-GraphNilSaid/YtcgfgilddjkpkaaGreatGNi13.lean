/-
  What the claim leans on, part 13.
-/
import Derived.Test.YtcgfgilddjkpkaaGreatGNi12
set_option maxRecDepth 100000
set_option maxHeartbeats 4000000
set_option linter.unusedVariables false
set_option linter.unusedSimpArgs false
namespace Go.Proofs.YtcgfgilddjkpkaaGreat
open Go.RowKit
structure graph_Graph where
 grecords : List (List RRec)
 garrivals : List (api_Message × (List Int))
def graph_message (x0 : AEv) : Option (api_Message × Bool) :=
 if ((x0.gKind != 5) && ((x0.gKind != 7) || (x0.gD != 5))) = true then
  some ((api_Message.mk 0 0 0),false)
 else
  some ((api_Message.mk x0.gPeer x0.gComponent x0.gN),true)
theorem graph_message_c {x0 : AEv} {r : api_Message × Bool} (hM : graph_message x0 = some r) : PCall Tryz.prog 19 [.agg (AEv.cs x0)] (.tup [.agg (api_Message.cs r.1),.bool r.2]):=by
 unfold graph_message at hM
 refine PCall.body Tryz.func19 Tryz.ntmps19 rfl rfl rfl rfl ?_
 refine a_seq (ar (.cons (o_box rfl rfl)<|.cons (o_alloc rfl)<|.cons (o_assign rfl)<|.nil _) ?_)
 refine a_seq (a_seq (ar (.cons (o_fieldAddr rfl)<|.cons (o_load_s rfl rfl rfl)<|.cons (o_int rfl rfl rfl)<|.cons (o_move rfl)<|.cons (o_guardG .bT rfl rfl (fun hb=>(.keep .nil)) (fun hb=>o_fieldAddr rfl))<|.cons (o_guardG .bT rfl rfl (fun hb=>(.strip rfl hb .nil)) (fun hb=>o_load_s rfl rfl rfl))<|.cons (o_guardG .bT rfl rfl (fun hb=>(.strip rfl hb .nil)) (fun hb=>o_int rfl rfl rfl))<|.cons (o_guardG .bT rfl rfl (fun hb=>(.strip rfl hb .nil)) (fun hb=>o_move rfl))<|.cons (o_guardG .iF rfl rfl (fun hb=>(.keep .nil)) (fun hb=>o_fieldAddr rfl))<|.cons (o_guardG .iF rfl rfl (fun hb=>(.strip rfl hb .nil)) (fun hb=>o_load_s rfl rfl rfl))<|.cons (o_guardG .iF rfl rfl (fun hb=>(.strip rfl hb .nil)) (fun hb=>o_int rfl rfl rfl))<|.cons (o_guardG .bT rfl rfl (fun hb=>(.strip rfl hb (.half rfl hb .nil))) (fun hb=>o_or rfl rfl))<|.cons (o_and rfl rfl)<|.nil _) ?_))
 refine a_cond _ rfl (fun h1=>?_) (fun h1=>?_)
 ·replace hM:=(of_if hM).1 h1
  refine a_seq (ar (.cons (o_build rfl rfl rfl)<|.cons (o_store rfl rfl rfl rfl rfl rfl rfl)<|.cons (o_assign rfl)<|.nil _) ?_)
  obtain rfl:=Option.some.inj hM
  exact a_ret (a_post (.r2 (.cell rfl rfl (.row _ CRow.h (Nat.le_of_ble_eq_true rfl) rfl)) (.tmp rfl)) (DLe.refl _) PostOk.nil.spec)
 ·replace hM:=(of_if hM).2 h1
  refine a_skip (a_seq (ar (.cons (o_fieldAddr rfl)<|.cons (o_load_s rfl rfl rfl)<|.cons (o_fieldAddr rfl)<|.cons (o_load_s rfl rfl rfl)<|.cons (o_fieldAddr rfl)<|.cons (o_load_s rfl rfl rfl)<|.cons (o_build rfl rfl rfl)<|.cons (o_store rfl rfl rfl rfl rfl rfl rfl)<|.cons (o_assign rfl)<|.nil _) ?_))
  obtain rfl:=Option.some.inj hM
  exact a_ret (a_post (.r2 (.cell rfl rfl (.row _ CRow.h (Nat.le_of_ble_eq_true rfl) rfl)) (.tmp rfl)) (DLe.refl _) PostOk.nil.spec)
def cmp_isNaN_int (x0 : Int) : Option Bool :=
 some (x0 != x0)
theorem cmp_isNaN_int_c {x0 : Int} {r : Bool} (hM : cmp_isNaN_int x0 = some r) : PCall Tryz.prog 56 [.int .i64 x0] (.bool r):=by
 unfold cmp_isNaN_int at hM
 refine PCall.body Tryz.func56 Tryz.ntmps56 rfl rfl rfl rfl ?_
 refine a_seq (ar (.cons (o_assign rfl)<|.nil _) ?_)
 refine a_seq (ar (.cons (o_move rfl)<|.cons (o_move rfl)<|.cons (o_int rfl rfl rfl)<|.cons (o_assign rfl)<|.nil _) ?_)
 obtain rfl:=Option.some.inj hM
 exact a_ret (a_post (.r1 (.tmp rfl)) (DLe.refl _) PostOk.nil.spec)
def cmp_Compare_int (x0 : Int) (x1 : Int) : Option Int :=
 (cmp_isNaN_int x0).bind fun v2=>
 (cmp_isNaN_int x1).bind fun v4=>
 if v2 = true then
  if v4 = true then
   some 0
  else
   some (-1)
 else
  if v4 = true then
   some 1
  else
   if (decide (x0 < x1)) = true then
    some (-1)
   else
    if (decide (x1 < x0)) = true then
     some 1
    else
     some 0
theorem cmp_Compare_int_c {x0 : Int} {x1 : Int} {r : Int} (hM : cmp_Compare_int x0 x1 = some r) : PCall Tryz.prog 34 [.int .i64 x0,.int .i64 x1] (.int .i64 r):=by
 unfold cmp_Compare_int at hM
 refine PCall.body Tryz.func34 Tryz.ntmps34 rfl rfl rfl rfl ?_
 refine a_seq (ar (.cons (o_assign rfl)<|.nil _) ?_)
 refine a_seq ?_
 obtain ⟨v2,h1,hM⟩ := of_bind hM
 refine ar (.cons (o_move rfl)<|.cons (o_call (cmp_isNaN_int_c h1) rfl (DLeL.refl _) rfl)<|.cons (o_assign rfl)<|.nil _) ?_
 refine a_seq ?_
 obtain ⟨v4,h3,hM⟩ := of_bind hM
 refine ar (.cons (o_move rfl)<|.cons (o_call (cmp_isNaN_int_c h3) rfl (DLeL.refl _) rfl)<|.cons (o_assign rfl)<|.nil _) ?_
 refine a_seq (a_seq (ar (.cons (o_move rfl)<|.nil _) ?_))
 refine a_cond _ rfl (fun h5=>?_) (fun h5=>?_)
 ·replace hM:=(of_if hM).1 h5
  refine a_seq (a_seq (ar (.cons (o_move rfl)<|.nil _) ?_))
  refine a_cond _ rfl (fun h6=>?_) (fun h6=>?_)
  ·replace hM:=(of_if hM).1 h6
   refine a_seq (ar (.cons (o_assign rfl)<|.nil _) ?_)
   obtain rfl:=Option.some.inj hM
   exact a_ret (a_post (.r1 (.tmp rfl)) (DLe.refl _) PostOk.nil.spec)
  ·replace hM:=(of_if hM).2 h6
   refine a_skip (a_seq (ar (.cons (o_assign rfl)<|.nil _) ?_))
   obtain rfl:=Option.some.inj hM
   exact a_ret (a_post (.r1 (.tmp rfl)) (DLe.refl _) PostOk.nil.spec)
 ·replace hM:=(of_if hM).2 h5
  refine a_skip (a_seq (a_seq (ar (.cons (o_move rfl)<|.nil _) ?_)))
  refine a_cond _ rfl (fun h7=>?_) (fun h7=>?_)
  ·replace hM:=(of_if hM).1 h7
   refine a_seq (ar (.cons (o_assign rfl)<|.nil _) ?_)
   obtain rfl:=Option.some.inj hM
   exact a_ret (a_post (.r1 (.tmp rfl)) (DLe.refl _) PostOk.nil.spec)
  ·replace hM:=(of_if hM).2 h7
   refine a_skip (a_seq (a_seq (ar (.cons (o_move rfl)<|.cons (o_move rfl)<|.cons (o_int rfl rfl rfl)<|.nil _) ?_)))
   refine a_cond _ rfl (fun h8=>?_) (fun h8=>?_)
   ·replace hM:=(of_if hM).1 h8
    refine a_seq (ar (.cons (o_assign rfl)<|.nil _) ?_)
    obtain rfl:=Option.some.inj hM
    exact a_ret (a_post (.r1 (.tmp rfl)) (DLe.refl _) PostOk.nil.spec)
   ·replace hM:=(of_if hM).2 h8
    refine a_skip (a_seq (a_seq (ar (.cons (o_move rfl)<|.cons (o_move rfl)<|.cons (o_int rfl rfl rfl)<|.nil _) ?_)))
    refine a_cond _ rfl (fun h9=>?_) (fun h9=>?_)
    ·replace hM:=(of_if hM).1 h9
     refine a_seq (ar (.cons (o_assign rfl)<|.nil _) ?_)
     obtain rfl:=Option.some.inj hM
     exact a_ret (a_post (.r1 (.tmp rfl)) (DLe.refl _) PostOk.nil.spec)
    ·replace hM:=(of_if hM).2 h9
     refine a_skip (a_seq (ar (.cons (o_assign rfl)<|.nil _) ?_))
     obtain rfl:=Option.some.inj hM
     exact a_ret (a_post (.r1 (.tmp rfl)) (DLe.refl _) PostOk.nil.spec)
def cmp_isNaN_uint64 (x0 : Int) : Option Bool :=
 some (x0 != x0)
theorem cmp_isNaN_uint64_c {x0 : Int} {r : Bool} (hM : cmp_isNaN_uint64 x0 = some r) : PCall Tryz.prog 57 [.int .u64 x0] (.bool r):=by
 unfold cmp_isNaN_uint64 at hM
 refine PCall.body Tryz.func57 Tryz.ntmps57 rfl rfl rfl rfl ?_
 refine a_seq (ar (.cons (o_assign rfl)<|.nil _) ?_)
 refine a_seq (ar (.cons (o_move rfl)<|.cons (o_move rfl)<|.cons (o_int rfl rfl rfl)<|.cons (o_assign rfl)<|.nil _) ?_)
 obtain rfl:=Option.some.inj hM
 exact a_ret (a_post (.r1 (.tmp rfl)) (DLe.refl _) PostOk.nil.spec)
def cmp_Compare_uint64 (x0 : Int) (x1 : Int) : Option Int :=
 (cmp_isNaN_uint64 x0).bind fun v2=>
 (cmp_isNaN_uint64 x1).bind fun v4=>
 if v2 = true then
  if v4 = true then
   some 0
  else
   some (-1)
 else
  if v4 = true then
   some 1
  else
   if (decide (x0 < x1)) = true then
    some (-1)
   else
    if (decide (x1 < x0)) = true then
     some 1
    else
     some 0
theorem cmp_Compare_uint64_c {x0 : Int} {x1 : Int} {r : Int} (hM : cmp_Compare_uint64 x0 x1 = some r) : PCall Tryz.prog 36 [.int .u64 x0,.int .u64 x1] (.int .i64 r):=by
 unfold cmp_Compare_uint64 at hM
 refine PCall.body Tryz.func36 Tryz.ntmps36 rfl rfl rfl rfl ?_
 refine a_seq (ar (.cons (o_assign rfl)<|.nil _) ?_)
 refine a_seq ?_
 obtain ⟨v2,h1,hM⟩ := of_bind hM
 refine ar (.cons (o_move rfl)<|.cons (o_call (cmp_isNaN_uint64_c h1) rfl (DLeL.refl _) rfl)<|.cons (o_assign rfl)<|.nil _) ?_
 refine a_seq ?_
 obtain ⟨v4,h3,hM⟩ := of_bind hM
 refine ar (.cons (o_move rfl)<|.cons (o_call (cmp_isNaN_uint64_c h3) rfl (DLeL.refl _) rfl)<|.cons (o_assign rfl)<|.nil _) ?_
 refine a_seq (a_seq (ar (.cons (o_move rfl)<|.nil _) ?_))
 refine a_cond _ rfl (fun h5=>?_) (fun h5=>?_)
 ·replace hM:=(of_if hM).1 h5
  refine a_seq (a_seq (ar (.cons (o_move rfl)<|.nil _) ?_))
  refine a_cond _ rfl (fun h6=>?_) (fun h6=>?_)
  ·replace hM:=(of_if hM).1 h6
   refine a_seq (ar (.cons (o_assign rfl)<|.nil _) ?_)
   obtain rfl:=Option.some.inj hM
   exact a_ret (a_post (.r1 (.tmp rfl)) (DLe.refl _) PostOk.nil.spec)
  ·replace hM:=(of_if hM).2 h6
   refine a_skip (a_seq (ar (.cons (o_assign rfl)<|.nil _) ?_))
   obtain rfl:=Option.some.inj hM
   exact a_ret (a_post (.r1 (.tmp rfl)) (DLe.refl _) PostOk.nil.spec)
 ·replace hM:=(of_if hM).2 h5
  refine a_skip (a_seq (a_seq (ar (.cons (o_move rfl)<|.nil _) ?_)))
  refine a_cond _ rfl (fun h7=>?_) (fun h7=>?_)
  ·replace hM:=(of_if hM).1 h7
   refine a_seq (ar (.cons (o_assign rfl)<|.nil _) ?_)
   obtain rfl:=Option.some.inj hM
   exact a_ret (a_post (.r1 (.tmp rfl)) (DLe.refl _) PostOk.nil.spec)
  ·replace hM:=(of_if hM).2 h7
   refine a_skip (a_seq (a_seq (ar (.cons (o_move rfl)<|.cons (o_move rfl)<|.cons (o_int rfl rfl rfl)<|.nil _) ?_)))
   refine a_cond _ rfl (fun h8=>?_) (fun h8=>?_)
   ·replace hM:=(of_if hM).1 h8
    refine a_seq (ar (.cons (o_assign rfl)<|.nil _) ?_)
    obtain rfl:=Option.some.inj hM
    exact a_ret (a_post (.r1 (.tmp rfl)) (DLe.refl _) PostOk.nil.spec)
   ·replace hM:=(of_if hM).2 h8
    refine a_skip (a_seq (a_seq (ar (.cons (o_move rfl)<|.cons (o_move rfl)<|.cons (o_int rfl rfl rfl)<|.nil _) ?_)))
    refine a_cond _ rfl (fun h9=>?_) (fun h9=>?_)
    ·replace hM:=(of_if hM).1 h9
     refine a_seq (ar (.cons (o_assign rfl)<|.nil _) ?_)
     obtain rfl:=Option.some.inj hM
     exact a_ret (a_post (.r1 (.tmp rfl)) (DLe.refl _) PostOk.nil.spec)
    ·replace hM:=(of_if hM).2 h9
     refine a_skip (a_seq (ar (.cons (o_assign rfl)<|.nil _) ?_))
     obtain rfl:=Option.some.inj hM
     exact a_ret (a_post (.r1 (.tmp rfl)) (DLe.refl _) PostOk.nil.spec)
def cmp_Or_int_K1 : Option Int :=
 some 0
def cmp_Or_int_L2 (x0 : List Int) (k1 : Nat) : Option (Ctl Unit Int) :=
 (idx x0 (k1 : Int)).bind fun v6=>
 if (v6 != 0) = true then
  some (.done v6)
 else
  some (.next ())
def cmp_Or_int (x0 : List Int) : Option Int :=
 (forM' (E:=Int) 9223372036854775807 (List.length x0 : Int) (fun k1 s=>cmp_Or_int_L2 x0 k1) ()).bind fun
  | .next s=>cmp_Or_int_K1
  | .done r=>some r
theorem cmp_Or_int_c {x0 : List Int} {r : Int} (hM : cmp_Or_int x0 = some r) : PCall Tryz.prog 33 [.sl 1 (List.map (DV.int .i64) x0)] (.int .i64 r):=by
 unfold cmp_Or_int at hM
 refine PCall.body Tryz.func33 Tryz.ntmps33 rfl rfl rfl rfl ?_
 refine a_seq (ar (.cons (o_assign rfl)<|.nil _) ?_)
 refine a_seq (ar (.cons (o_assign rfl)<|.nil _) ?_)
 refine a_cut (α:=Unit) (fun s=>⟨[(3,.int .i64 0)],[],[]⟩) (fun s=>cmp_Or_int_K1 = some r) ?_ ?_
 ·refine a_seq (ar (.cons (o_move rfl)<|.cons (t_len rfl)<|.cons (o_move rfl)<|.nil _) ?_)
  obtain ⟨t2,hL2,hK2⟩ := of_bind hM
  refine a_block ?_
  refine a_for (fun k1 (s : Unit)=>⟨[(3,.int .i64 0),(6,.sl 1 (List.map (DV.int .i64) x0)),(7,.int .i64 (List.length x0 : Int)),(8,.int .i64 (k1 : Int))],[],[]⟩) _ hL2 (Imp.sh (fun i=>i) rfl rfl rfl rfl rfl rfl) ?_ ?_
  ·rintro k1 _ t3 hk1 hx1 hM hE2
   replace hM : cmp_Or_int_L2 x0 k1 = some t3:=hM
   unfold cmp_Or_int_L2 at hM
   refine a_seq (ar (.cons (o_int rfl rfl rfl)<|.nil _) ?_)
   refine a_seq ?_
   refine a_cond _ rfl (fun _=>?_) (fun c=>absurd hk1 (of_decide_eq_false c))
   refine a_skip (a_seq (a_block (a_seq ?_)))
   obtain ⟨v6,h5,hM⟩ := of_bind hM
   refine ar (.cons (t_index h5 rfl rfl rfl)<|.cons (o_load_es rfl rfl)<|.cons (o_assign rfl)<|.nil _) ?_
   refine a_seq (ar (.cons (o_move rfl)<|.cons (o_move rfl)<|.cons (o_int rfl rfl rfl)<|.nil _) ?_)
   refine a_cond _ rfl (fun h7=>?_) (fun h7=>?_)
   ·replace hM:=(of_if hM).1 h7
    refine a_seq (ar (.cons (o_move rfl)<|.cons (o_assign rfl)<|.nil _) ?_)
    obtain rfl:=Option.some.inj hM
    obtain rfl:=hE2 _ rfl
    obtain rfl:=Option.some.inj hK2
    exact a_ret (a_post (.r1 (.tmp rfl)) (DLe.refl _) PostOk.nil.spec)
   ·replace hM:=(of_if hM).2 h7
    refine a_skip (ar (.cons (o_add rfl rfl (inR_i64 hk1 hx1))<|.cons (o_move rfl)<|.nil _) ?_)
    obtain rfl:=Option.some.inj hM
    exact ⟨(),rfl,(Imp.of (fun i=>i) (.cons rfl (DLe.refl _) (.cons rfl (DLe.refl _) (.cons rfl (DLe.refl _) (.cons rfl (DLe.succ _ _) .nil)))) .nil rfl rfl rfl)⟩
  ·rintro k1 _ hk1 hx1 rfl
   refine a_seq (ar (.cons (o_int rfl rfl rfl)<|.nil _) ?_)
   refine a_seq ?_
   refine a_cond _ rfl (fun c=>absurd (of_decide_eq_true c) (Int.not_lt.2 hk1)) (fun _=>?_)
   refine a_exit ?_
   exact ⟨(),hK2,(Imp.sh (fun i=>i) rfl rfl rfl rfl rfl rfl)⟩
 ·rintro _ hM
  replace hM : cmp_Or_int_K1 = some r:=hM
  unfold cmp_Or_int_K1 at hM
  refine a_seq (ar (.cons (o_move rfl)<|.cons (o_assign rfl)<|.nil _) ?_)
  obtain rfl:=Option.some.inj hM
  exact a_ret (a_post (.r1 (.tmp rfl)) (DLe.refl _) PostOk.nil.spec)
def graph_compareNodes (x0 : graph_Node) (x1 : graph_Node) : Option Int :=
 (cmp_Compare_int x0.gComponent x1.gComponent).bind fun v2=>
 (cmp_Compare_uint64 x0.gSeq x1.gSeq).bind fun v4=>
 (cmp_Or_int [v2,v4]).bind fun v6=>
 some v6
theorem graph_compareNodes_c {x0 : graph_Node} {x1 : graph_Node} {r : Int} (hM : graph_compareNodes x0 x1 = some r) : PCall Tryz.prog 52 [.agg (graph_Node.cs x0),.agg (graph_Node.cs x1)] (.int .i64 r):=by
 unfold graph_compareNodes at hM
 refine PCall.body Tryz.func52 Tryz.ntmps52 rfl rfl rfl rfl ?_
 refine a_seq (ar (.cons (o_box rfl rfl)<|.cons (o_box rfl rfl)<|.cons (o_assign rfl)<|.nil _) ?_)
 refine a_seq ?_
 obtain ⟨v2,h1,hM⟩ := of_bind hM
 obtain ⟨v4,h3,hM⟩ := of_bind hM
 obtain ⟨v6,h5,hM⟩ := of_bind hM
 refine ad mixed (.cons (o_fieldAddr rfl)<|.cons (o_load_s rfl rfl rfl)<|.cons (o_fieldAddr rfl)<|.cons (o_load_s rfl rfl rfl)<|.cons (o_call (cmp_Compare_int_c h1) rfl (DLeL.refl _) rfl)<|.cons (o_fieldAddr rfl)<|.cons (o_load_s rfl rfl rfl)<|.cons (o_fieldAddr rfl)<|.cons (o_load_s rfl rfl rfl)<|.cons (o_call (cmp_Compare_uint64_c h3) rfl (DLeL.refl _) rfl)<|.cons (o_frz (t_build (DV.int .i64) ([v2,v4] : List Int) rfl rfl rfl rfl rfl rfl rfl))<|.cons (o_call (cmp_Or_int_c h5) rfl (DLeL.refl _) rfl)<|.cons (o_assign rfl)<|.nil _) ?_
 obtain rfl:=Option.some.inj hM
 exact a_ret (a_post (.r1 (.tmp rfl)) (DLe.refl _) PostOk.nil.spec)
def CColl_Add_a (x1 : Int) (x2 : List Int) (o0 : CColl) : Option (Int × CColl) :=
 if ((decide (x1 < 0)) || (decide ((List.length o0.gparts : Int)≤x1))) = true then
  some (1,o0)
 else
  (recorder_Read x2).bind fun v3=>
  (CPartOf v3.1 x1).bind fun v5=>
  if (!v5.2) = true then
   some (14,o0)
  else
   (idx o0.gparts x1).bind fun v8=>
   (CPart_merge v8 v5.1).bind fun v10=>
   if (!v10.2) = true then
    some (14,o0)
   else
    (idx o0.gparts x1).bind fun v13=>
    some (0,(CColl.mk (List.set o0.gparts (Int.toNat x1) v10.1)))
theorem CColl_Add_a_c {x1 : Int} {x2 : List Int} {o0 : CColl} {r : Int × CColl} (hM : CColl_Add_a x1 x2 o0 = some r) : ACall Tryz.prog 16 ⟨[.ref 100000 0,.int .i64 x1,.sl 1 (List.map (DV.int .u8) x2)],[(100000,some (.blk 90 [.row 100001])),(100001,some (.row 101 4 (List.map CPart.dv o0.gparts)))],.int .i64 r.1,[(100000,some (.blk 90 [.row 50000])),(50000,some (.row 101 4 (List.map CPart.dv r.2.gparts))),(100001,none)],[50000]⟩ := by
 unfold CColl_Add_a at hM
 refine ACall.body Tryz.func16 Tryz.ntmps16 rfl rfl rfl rfl ?_
 refine a_seq (ar (.cons (o_assign rfl)<|.nil _) ?_)
 refine a_seq (a_seq (ar (.cons (o_move rfl)<|.cons (o_ptr_eq rfl)<|.cons (o_move rfl)<|.cons (o_guardOn .bF rfl rfl rfl (.keep .nil) (o_move rfl))<|.cons (o_guardOn .bF rfl rfl rfl (.strip rfl rfl .nil) (o_int rfl rfl rfl))<|.cons (o_or rfl rfl)<|.cons (o_move rfl)<|.cons (o_guardG .bF rfl rfl (fun hb=>(.keep .nil)) (fun hb=>o_move rfl))<|.cons (o_guardG .bF rfl rfl (fun hb=>(.keep .nil)) (fun hb=>o_move rfl))<|.cons (o_guardG .bF rfl rfl (fun hb=>(.strip rfl hb .nil)) (fun hb=>o_nilCheck rfl))<|.cons (o_guardG .bF rfl rfl (fun hb=>(.strip rfl hb .nil)) (fun hb=>o_fieldAddr rfl))<|.cons (o_guardG .bF rfl rfl (fun hb=>(.strip rfl hb .nil)) (fun hb=>o_load_s rfl rfl rfl))<|.cons (o_guardG .bF rfl rfl (fun hb=>(.strip rfl hb .nil)) (fun hb=>t_len_r rfl rfl))<|.cons (o_guardG .bF rfl rfl (fun hb=>(.strip rfl hb (.strip rfl hb .nil))) (fun hb=>o_int rfl rfl rfl))<|.cons (o_or rfl rfl)<|.nil _) ?_))
 refine a_cond _ rfl (fun h1=>?_) (fun h1=>?_)
 ·replace hM:=(of_if hM).1 h1
  refine a_seq (ar (.cons (o_assign rfl)<|.nil _) ?_)
  obtain rfl:=Option.some.inj hM
  refine a_imp (σ' := ⟨[(6,.int .i64 1)],[(50000,some (.row 101 4 (List.map CPart.dv o0.gparts))),(100000,some (.blk 90 [.row 50000]))],[50000,100000,100001]⟩) (Imp.sh (fun i=>bif Nat.beq i 50000 then 100001 else i) rfl rfl rfl rfl rfl rfl) ?_
  exact a_ret (a_post (.r1 (.tmp rfl)) (DLe.refl _) (PostOk.spec (.cons rfl (.cons rfl (.gone .nil)))))
 ·replace hM:=(of_if hM).2 h1
  refine a_skip (a_seq ?_)
  obtain ⟨v3,h2,hM⟩ := of_bind hM
  refine ar (.cons (o_move rfl)<|.cons (o_call (recorder_Read_c h2) rfl (DLeL.refl _) rfl)<|.cons (o_move rfl)<|.cons (o_extract rfl rfl)<|.cons (o_extract rfl rfl)<|.cons (o_assign rfl)<|.cons (o_assign rfl)<|.nil _) ?_
  refine a_seq ?_
  obtain ⟨v5,h4,hM⟩ := of_bind hM
  refine ar (.cons (o_move rfl)<|.cons (o_move rfl)<|.cons (o_call (CPartOf_c h4) rfl (DLeL.refl _) rfl)<|.cons (o_move rfl)<|.cons (o_extract rfl rfl)<|.cons (o_extract rfl rfl)<|.cons (o_alloc rfl)<|.cons (o_store rfl rfl rfl rfl rfl rfl rfl)<|.cons (o_assign rfl)<|.nil _) ?_
  refine a_seq (a_seq (ar (.cons (o_move rfl)<|.cons (o_not rfl)<|.nil _) ?_))
  refine a_cond _ rfl (fun h6=>?_) (fun h6=>?_)
  ·replace hM:=(of_if hM).1 h6
   refine a_seq (ar (.cons (o_assign rfl)<|.nil _) ?_)
   obtain rfl:=Option.some.inj hM
   refine a_imp (σ' := ⟨[(6,.int .i64 14)],[(50000,some (.row 101 4 (List.map CPart.dv o0.gparts))),(100000,some (.blk 90 [.row 50000]))],[50000,100000,100001]⟩) (Imp.sh (fun i=>bif Nat.beq i 50000 then 100001 else i) rfl rfl rfl rfl rfl rfl) ?_
   exact a_ret (a_post (.r1 (.tmp rfl)) (DLe.refl _) (PostOk.spec (.cons rfl (.cons rfl (.gone .nil)))))
  ·replace hM:=(of_if hM).2 h6
   refine a_skip (a_seq ?_)
   obtain ⟨v8,h7,hM⟩ := of_bind hM
   obtain ⟨v10,h9,hM⟩ := of_bind hM
   refine ad mixed (.cons (o_move rfl)<|.cons (o_nilCheck rfl)<|.cons (o_fieldAddr rfl)<|.cons (o_load_s rfl rfl rfl)<|.cons (o_move rfl)<|.cons (t_index_r h7 rfl rfl rfl)<|.cons (t_load_pr h7 rfl rfl rfl rfl rfl)<|.cons (o_load_r rfl rfl rfl rfl)<|.cons (o_call (CPart_merge_c h9) rfl (DLeL.refl _) rfl)<|.cons (o_move rfl)<|.cons (o_extract rfl rfl)<|.cons (o_extract rfl rfl)<|.cons (o_alloc rfl)<|.cons (o_store rfl rfl rfl rfl rfl rfl rfl)<|.cons (o_assign rfl)<|.nil _) ?_
   refine a_seq (a_seq (ar (.cons (o_move rfl)<|.cons (o_not rfl)<|.nil _) ?_))
   refine a_cond _ rfl (fun h11=>?_) (fun h11=>?_)
   ·replace hM:=(of_if hM).1 h11
    refine a_seq (ar (.cons (o_assign rfl)<|.nil _) ?_)
    obtain rfl:=Option.some.inj hM
    refine a_imp (σ' := ⟨[(6,.int .i64 14)],[(50000,some (.row 101 4 (List.map CPart.dv o0.gparts))),(100000,some (.blk 90 [.row 50000]))],[50000,100000,100001]⟩) (Imp.sh (fun i=>bif Nat.beq i 50000 then 100001 else i) rfl rfl rfl rfl rfl rfl) ?_
    exact a_ret (a_post (.r1 (.tmp rfl)) (DLe.refl _) (PostOk.spec (.cons rfl (.cons rfl (.gone .nil)))))
   ·replace hM:=(of_if hM).2 h11
    refine a_skip (a_seq ?_)
    obtain ⟨v13,h12,hM⟩ := of_bind hM
    refine ad mixed (.cons (o_move rfl)<|.cons (o_nilCheck rfl)<|.cons (o_fieldAddr rfl)<|.cons (o_load_s rfl rfl rfl)<|.cons (o_move rfl)<|.cons (o_load_r rfl rfl rfl rfl)<|.cons (t_index_r h12 rfl rfl rfl)<|.cons (t_store_p v10.1 h12 rfl rfl rfl rfl rfl rfl rfl rfl rfl rfl rfl)<|.nil _) ?_
    refine a_seq (ar (.cons (o_assign rfl)<|.nil _) ?_)
    obtain rfl:=Option.some.inj hM
    refine a_imp (σ' := ⟨[(6,.int .i64 0)],[(50000,some (.row 101 4 (List.map CPart.dv ((CColl.mk (List.set o0.gparts (Int.toNat x1) v10.1)).gparts)))),(100000,some (.blk 90 [.row 50000]))],[50000,100000,100001]⟩) (Imp.sh (fun i=>bif Nat.beq i 50000 then 100001 else i) rfl rfl rfl rfl rfl rfl) ?_
    exact a_ret (a_post (.r1 (.tmp rfl)) (DLe.refl _) (PostOk.spec (.cons rfl (.cons rfl (.gone .nil)))))
def CColl_Components_a (o0 : CColl) : Option Int :=
 some (if (IntKind.wrap .i64 ((List.length o0.gparts : Int) - 1)) > 0 then (IntKind.wrap .i64 ((List.length o0.gparts : Int) - 1)) else 0)
theorem CColl_Components_a_c {o0 : CColl} {r : Int} (hM : CColl_Components_a o0 = some r) : ACall Tryz.prog 17 ⟨[.ref 100000 0],[(100000,some (.blk 90 [.row 100001])),(100001,some (.row 101 4 (List.map CPart.dv o0.gparts)))],.int .i64 r,[(100000,some (.blk 90 [.row 100001])),(100001,some (.row 101 4 (List.map CPart.dv o0.gparts)))],[]⟩ := by
 unfold CColl_Components_a at hM
 refine ACall.body Tryz.func17 Tryz.ntmps17 rfl rfl rfl rfl ?_
 refine a_seq (ar (.cons (o_assign rfl)<|.nil _) ?_)
 refine a_seq (a_seq (ar (.cons (o_move rfl)<|.cons (o_ptr_eq rfl)<|.nil _) ?_))
 refine a_cond _ rfl (fun c=>by cases c) (fun _=>?_)
 refine a_skip (a_seq (ar (.cons (o_move rfl)<|.cons (o_nilCheck rfl)<|.cons (o_fieldAddr rfl)<|.cons (o_load_s rfl rfl rfl)<|.cons (t_len_r rfl rfl)<|.cons (o_int rfl rfl rfl)<|.cons (o_max rfl rfl)<|.cons (o_assign rfl)<|.nil _) ?_))
 obtain rfl:=Option.some.inj hM
 refine a_imp (σ' := ⟨[(2,.int .i64 (if (IntKind.wrap .i64 ((List.length o0.gparts : Int) - 1)) > 0 then (IntKind.wrap .i64 ((List.length o0.gparts : Int) - 1)) else 0))],[(100000,some (.blk 90 [.row 100001])),(100001,some (.row 101 4 (List.map CPart.dv o0.gparts)))],[100000,100001]⟩) (Imp.sh (fun i=>i) rfl rfl rfl rfl rfl rfl) ?_
 exact a_ret (a_post (.r1 (.tmp rfl)) (DLe.refl _) (PostOk.spec (.cons rfl (.cons rfl .nil))))
def CColl_part_a (x1 : Int) (o0 : CColl) : Option CPart :=
 if ((decide (x1 < 0)) || (decide ((List.length o0.gparts : Int)≤x1))) = true then
  some (CPart.mk [] [] false 0)
 else
  (idx o0.gparts x1).bind fun v3=>
  some v3
theorem CColl_part_a_c {x1 : Int} {o0 : CColl} {r : CPart} (hM : CColl_part_a x1 o0 = some r) : ACall Tryz.prog 46 ⟨[.ref 100000 0,.int .i64 x1],[(100000,some (.blk 90 [.row 100001])),(100001,some (.row 101 4 (List.map CPart.dv o0.gparts)))],.agg (CPart.cs r),[(100000,some (.blk 90 [.row 100001])),(100001,some (.row 101 4 (List.map CPart.dv o0.gparts)))],[]⟩ := by
 unfold CColl_part_a at hM
 refine ACall.body Tryz.func46 Tryz.ntmps46 rfl rfl rfl rfl ?_
 refine a_seq (ar (.cons (o_alloc rfl)<|.nil _) ?_)
 refine a_seq (a_seq (ar (.cons (o_move rfl)<|.cons (o_ptr_eq rfl)<|.cons (o_move rfl)<|.cons (o_guardOn .bF rfl rfl rfl (.keep .nil) (o_move rfl))<|.cons (o_guardOn .bF rfl rfl rfl (.strip rfl rfl .nil) (o_int rfl rfl rfl))<|.cons (o_or rfl rfl)<|.cons (o_move rfl)<|.cons (o_guardG .bF rfl rfl (fun hb=>(.keep .nil)) (fun hb=>o_move rfl))<|.cons (o_guardG .bF rfl rfl (fun hb=>(.keep .nil)) (fun hb=>o_move rfl))<|.cons (o_guardG .bF rfl rfl (fun hb=>(.strip rfl hb .nil)) (fun hb=>o_nilCheck rfl))<|.cons (o_guardG .bF rfl rfl (fun hb=>(.strip rfl hb .nil)) (fun hb=>o_fieldAddr rfl))<|.cons (o_guardG .bF rfl rfl (fun hb=>(.strip rfl hb .nil)) (fun hb=>o_load_s rfl rfl rfl))<|.cons (o_guardG .bF rfl rfl (fun hb=>(.strip rfl hb .nil)) (fun hb=>t_len_r rfl rfl))<|.cons (o_guardG .bF rfl rfl (fun hb=>(.strip rfl hb (.strip rfl hb .nil))) (fun hb=>o_int rfl rfl rfl))<|.cons (o_or rfl rfl)<|.nil _) ?_))
 refine a_cond _ rfl (fun h1=>?_) (fun h1=>?_)
 ·replace hM:=(of_if hM).1 h1
  refine a_seq (ar (.cons (o_build rfl rfl rfl)<|.cons (o_store rfl rfl rfl rfl rfl rfl rfl)<|.nil _) ?_)
  obtain rfl:=Option.some.inj hM
  refine a_imp (σ' := ⟨[(4,.ref 4 0)],[(4,some (.blk 101 [.nils,.nils,.bool false,.int .u64 0])),(100000,some (.blk 90 [.row 100001])),(100001,some (.row 101 4 (List.map CPart.dv o0.gparts)))],[4,100000,100001]⟩) (Imp.sh (fun i=>i) rfl rfl rfl rfl rfl rfl) ?_
  exact a_ret (a_post (.r1 (.cell rfl rfl (.row _ CRow.h (Nat.le_of_ble_eq_true rfl) rfl))) (DLe.agg (.cons (DLe.nils _) (.cons (DLe.nils _) (.cons (DLe.refl _) (.cons (DLe.refl _) .nil))))) (PostOk.spec (.cons rfl (.cons rfl .nil))))
 ·replace hM:=(of_if hM).2 h1
  refine a_skip (a_seq ?_)
  obtain ⟨v3,h2,hM⟩ := of_bind hM
  refine ar (.cons (o_move rfl)<|.cons (o_nilCheck rfl)<|.cons (o_fieldAddr rfl)<|.cons (o_load_s rfl rfl rfl)<|.cons (o_move rfl)<|.cons (t_index_r h2 rfl rfl rfl)<|.cons (t_load_pr h2 rfl rfl rfl rfl rfl)<|.cons (o_store rfl rfl rfl rfl rfl rfl rfl)<|.nil _) ?_
  obtain rfl:=Option.some.inj hM
  refine a_imp (σ' := ⟨[(4,.ref 4 0)],[(4,some (.blk 101 (CPart.cs v3))),(100000,some (.blk 90 [.row 100001])),(100001,some (.row 101 4 (List.map CPart.dv o0.gparts)))],[4,100000,100001]⟩) (Imp.sh (fun i=>i) rfl rfl rfl rfl rfl rfl) ?_
  exact a_ret (a_post (.r1 (.cell rfl rfl (.row _ CRow.h (Nat.le_of_ble_eq_true rfl) rfl))) (DLe.refl _) (PostOk.spec (.cons rfl (.cons rfl .nil))))
def CColl_Records_a (x1 : Int) (o0 : CColl) : Option (List RRec) :=
 (CColl_part_a x1 o0).bind fun v2=>
 (collect_cloneAll v2.gentries).bind fun v4=>
 some v4
theorem CColl_Records_a_c {x1 : Int} {o0 : CColl} {r : (List RRec)} (hM : CColl_Records_a x1 o0 = some r) : ACall Tryz.prog 18 ⟨[.ref 100000 0,.int .i64 x1],[(100000,some (.blk 90 [.row 100001])),(100001,some (.row 101 4 (List.map CPart.dv o0.gparts)))],.sl 29 (List.map RRec.dv r),[(100000,some (.blk 90 [.row 100001])),(100001,some (.row 101 4 (List.map CPart.dv o0.gparts)))],[]⟩ := by
 unfold CColl_Records_a at hM
 refine ACall.body Tryz.func18 Tryz.ntmps18 rfl rfl rfl rfl ?_
 refine a_seq (ar (.cons (o_assign rfl)<|.nil _) ?_)
 refine a_seq ?_
 obtain ⟨v2,h1,hM⟩ := of_bind hM
 obtain ⟨v4,h3,hM⟩ := of_bind hM
 refine ar (.cons (o_move rfl)<|.cons (o_move rfl)<|.cons (o_callN (fun i=>bif Nat.beq i 100000 then 100000 else bif Nat.beq i 100001 then 100001 else i) 0 (CColl_part_a_c h1) rfl (DLeL.refl _) (.cons rfl (.cons rfl .nil)) rfl (.cons rfl (.cons rfl .nil)))<|.cons (o_field_s rfl rfl)<|.cons (o_call (collect_cloneAll_c h3) rfl (DLeL.refl _) rfl)<|.cons (o_assign rfl)<|.nil _) ?_
 obtain rfl:=Option.some.inj hM
 refine a_imp (σ' := ⟨[(4,.sl 29 (List.map RRec.dv v4))],[(100000,some (.blk 90 [.row 100001])),(100001,some (.row 101 4 (List.map CPart.dv o0.gparts)))],[100000,100001]⟩) (Imp.sh (fun i=>i) rfl rfl rfl rfl rfl rfl) ?_
 exact a_ret (a_post (.r1 (.tmp rfl)) (DLe.refl _) (PostOk.spec (.cons rfl (.cons rfl .nil))))
def VClk_Get (x0 : VClk) (x1 : Int) : Option Int :=
 if ((decide (x1 < 0)) || (decide (16≤x1))) = true then
  some 0
 else
  chk (inA 16 x1)<|
  some (x0.gat (Int.toNat x1))
theorem VClk_Get_c {x0 : VClk} {x1 : Int} {r : Int} (hM : VClk_Get x0 x1 = some r) : PCall Tryz.prog 20 [.agg (VClk.cs x0),.int .i64 x1] (.int .u64 r):=by
 unfold VClk_Get at hM
 refine PCall.body Tryz.func20 Tryz.ntmps20 rfl rfl rfl rfl ?_
 refine a_seq (ar (.cons (o_box rfl rfl)<|.cons (o_assign rfl)<|.nil _) ?_)
 refine a_seq (a_seq (ar (.cons (o_move rfl)<|.cons (o_int rfl rfl rfl)<|.cons (o_move rfl)<|.cons (o_guardG .bF rfl rfl (fun hb=>(.keep .nil)) (fun hb=>o_move rfl))<|.cons (o_guardG .bF rfl rfl (fun hb=>(.strip rfl hb .nil)) (fun hb=>o_int rfl rfl rfl))<|.cons (o_or rfl rfl)<|.nil _) ?_))
 refine a_cond _ rfl (fun h1=>?_) (fun h1=>?_)
 ·replace hM:=(of_if hM).1 h1
  refine a_seq (ar (.cons (o_assign rfl)<|.nil _) ?_)
  obtain rfl:=Option.some.inj hM
  exact a_ret (a_post (.r1 (.tmp rfl)) (DLe.refl _) PostOk.nil.spec)
 ·replace hM:=(of_if hM).2 h1
  refine a_skip (a_seq ?_)
  obtain ⟨h2,hM⟩ := of_chk hM
  refine ar (.cons (o_move rfl)<|.cons (o_fieldAddr rfl)<|.cons (t_index_d h2 rfl rfl)<|.cons (o_load_s rfl rfl (arr_get1 (DV.int .u64) x0.gat h2 rfl))<|.cons (o_assign rfl)<|.nil _) ?_
  obtain rfl:=Option.some.inj hM
  exact a_ret (a_post (.r1 (.tmp rfl)) (DLe.refl _) PostOk.nil.spec)
def slices_insertionSortCmpFunc_graph_Node_a_K1 (a1 : List graph_Node) : Option (List graph_Node) :=
 some a1
def slices_insertionSortCmpFunc_graph_Node_a_K3 (a3 : Int) (a7 : List graph_Node) : Option (Ctl ((List graph_Node) × Int) (List graph_Node)) :=
 some (.next (a7,(IntKind.wrap .i64 (a3 + 1))))
def slices_insertionSortCmpFunc_graph_Node_a_L4 (x1 : Int) (a8 : List graph_Node) (a9 : Int) : Option (Ctl ((List graph_Node) × Int) (List graph_Node)) :=
 (gb (decide (x1 < a9)) (graph_Node.mk 0 0) (idx a8 a9)).bind fun v13=>
 (gb (decide (x1 < a9)) (graph_Node.mk 0 0) (idx a8 (IntKind.wrap .i64 (a9 - 1)))).bind fun v15=>
 (gb (decide (x1 < a9)) (0) (graph_compareNodes v13 v15)).bind fun v17=>
 if ((decide (x1 < a9)) && (decide (v17 < 0))) = true then
  (idx a8 (IntKind.wrap .i64 (a9 - 1))).bind fun v20=>
  (idx a8 a9).bind fun v22=>
  (idx a8 a9).bind fun v24=>
  (idx (List.set a8 (Int.toNat a9) v20) (IntKind.wrap .i64 (a9 - 1))).bind fun v26=>
  some (.next ((List.set (List.set a8 (Int.toNat a9) v20) (Int.toNat (IntKind.wrap .i64 (a9 - 1))) v22),(IntKind.wrap .i64 (a9 - 1))))
 else
  some (.done a8)
def slices_insertionSortCmpFunc_graph_Node_a_L2 (x1 : Int) (x2 : Int) (a2 : List graph_Node) (a3 : Int) : Option (Ctl ((List graph_Node) × Int) (List graph_Node)) :=
 if (decide (a3 < x2)) = true then
  (whileM (E:=(List graph_Node)) (fun s=>slices_insertionSortCmpFunc_graph_Node_a_L4 x1 s.1 s.2) (a2,a3)).bind fun e=>slices_insertionSortCmpFunc_graph_Node_a_K3 a3 e
 else
  some (.done a2)
def slices_insertionSortCmpFunc_graph_Node_a (x1 : Int) (x2 : Int) (o0 : List graph_Node) : Option (List graph_Node) :=
 (whileM (E:=(List graph_Node)) (fun s=>slices_insertionSortCmpFunc_graph_Node_a_L2 x1 x2 s.1 s.2) (o0,(IntKind.wrap .i64 (x1 + 1)))).bind fun e=>slices_insertionSortCmpFunc_graph_Node_a_K1 e
theorem slices_insertionSortCmpFunc_graph_Node_a_c {x1 : Int} {x2 : Int} {o0 : List graph_Node} {r : (List graph_Node)} (hM : slices_insertionSortCmpFunc_graph_Node_a x1 x2 o0 = some r) : ACall Tryz.prog 117 ⟨[.row 100000,.int .i64 x1,.int .i64 x2,.val (.func (.func 52) #[] #[])],[(100000,some (.row 24 2 (List.map graph_Node.dv o0)))],.tup [],[(100000,some (.row 24 2 (List.map graph_Node.dv r)))],[]⟩ := by
 unfold slices_insertionSortCmpFunc_graph_Node_a at hM
 refine ACall.body Tryz.func117 Tryz.ntmps117 rfl rfl rfl rfl ?_
 refine a_end ?_
 refine a_seq (ar (.cons (o_move rfl)<|.cons (o_int rfl rfl rfl)<|.cons (o_assign rfl)<|.nil _) ?_)
 refine a_tail (α:=(List graph_Node)) (fun s=>⟨[],[(100000,some (.row 24 2 (List.map graph_Node.dv s)))],[100000]⟩) (fun s=>slices_insertionSortCmpFunc_graph_Node_a_K1 s = some r) ?_ ?_
 ·obtain ⟨e4,hL4,hK4⟩ := of_bind hM
  refine a_block (a_while (fun s : (List graph_Node) × Int=>⟨[(0,.row 100000),(1,.int .i64 x1),(2,.int .i64 x2),(3,.val (.func (.func 52) #[] #[])),(8,.int .i64 s.2)],[(100000,some (.row 24 2 (List.map graph_Node.dv s.1)))],[100000]⟩) _ hL4 (Imp.sh (fun i=>i) rfl rfl rfl rfl rfl rfl) ?_)
  rintro ⟨a2,a3⟩ t5 hM hE4
  replace hM : slices_insertionSortCmpFunc_graph_Node_a_L2 x1 x2 a2 a3 = some t5:=hM
  unfold slices_insertionSortCmpFunc_graph_Node_a_L2 at hM
  refine a_seq (a_seq (ar (.cons (o_move rfl)<|.cons (o_move rfl)<|.cons (o_int rfl rfl rfl)<|.nil _) ?_))
  refine a_cond _ rfl (fun h6=>?_) (fun h6=>?_)
  ·replace hM:=(of_if hM).1 h6
   refine a_skip ?_
   refine a_cut (α:=(List graph_Node)) (fun s=>⟨[(0,.row 100000),(1,.int .i64 x1),(2,.int .i64 x2),(3,.val (.func (.func 52) #[] #[])),(8,.int .i64 a3)],[(100000,some (.row 24 2 (List.map graph_Node.dv s)))],[100000]⟩) (fun s=>slices_insertionSortCmpFunc_graph_Node_a_K3 a3 s = some t5) ?_ ?_
   ·refine a_block (a_seq (ar (.cons (o_move rfl)<|.cons (o_assign rfl)<|.nil _) ?_))
    obtain ⟨e10,hL10,hK10⟩ := of_bind hM
    refine a_block (a_while (fun s : (List graph_Node) × Int=>⟨[(0,.row 100000),(1,.int .i64 x1),(2,.int .i64 x2),(3,.val (.func (.func 52) #[] #[])),(8,.int .i64 a3),(9,.int .i64 s.2)],[(100000,some (.row 24 2 (List.map graph_Node.dv s.1)))],[100000]⟩) _ hL10 (Imp.sh (fun i=>i) rfl rfl rfl rfl rfl rfl) ?_)
    rintro ⟨a8,a9⟩ t11 hM hE10
    replace hM : slices_insertionSortCmpFunc_graph_Node_a_L4 x1 a8 a9 = some t11:=hM
    unfold slices_insertionSortCmpFunc_graph_Node_a_L4 at hM
    refine a_seq (a_seq ?_)
    obtain ⟨v13,h12,hM⟩ := of_bind hM
    obtain ⟨v15,h14,hM⟩ := of_bind hM
    obtain ⟨v17,h16,hM⟩ := of_bind hM
    refine ad mixed (.cons (o_move rfl)<|.cons (o_move rfl)<|.cons (o_int rfl rfl rfl)<|.cons (o_move rfl)<|.cons (o_guardG .bT rfl rfl (fun hb=>(.keep .nil)) (fun hb=>o_move rfl))<|.cons (o_guardG .bT rfl rfl (fun hb=>(.keep .nil)) (fun hb=>o_move rfl))<|.cons (o_guardG .bT rfl rfl (fun hb=>(.keep .nil)) (fun hb=>o_move rfl))<|.cons (o_guardG .bT rfl rfl (fun hb=>(.strip rfl hb (.strip rfl hb .nil))) (fun hb=>t_index_r (of_gb h12 hb) rfl rfl rfl))<|.cons (o_guardG .bT rfl rfl (fun hb=>(.strip rfl hb .nil)) (fun hb=>t_load_pr (of_gb h12 hb) rfl rfl rfl rfl rfl))<|.cons (o_guardG .bT rfl rfl (fun hb=>(.keep .nil)) (fun hb=>o_move rfl))<|.cons (o_guardG .bT rfl rfl (fun hb=>(.keep .nil)) (fun hb=>o_move rfl))<|.cons (o_guardG .bT rfl rfl (fun hb=>(.strip rfl hb .nil)) (fun hb=>o_int rfl rfl rfl))<|.cons (o_guardG .bT rfl rfl (fun hb=>(.strip rfl hb (.strip rfl hb .nil))) (fun hb=>t_index_r (of_gb h14 hb) rfl rfl rfl))<|.cons (o_guardG .bT rfl rfl (fun hb=>(.strip rfl hb .nil)) (fun hb=>t_load_pr (of_gb h14 hb) rfl rfl rfl rfl rfl))<|.cons (o_guardG .bT rfl rfl (fun hb=>(.strip rfl hb (.strip rfl hb (.strip rfl hb .nil)))) (fun hb=>o_callF (graph_compareNodes_c (of_gb h16 hb)) rfl rfl (DLeL.refl _) rfl))<|.cons (o_guardG .bT rfl rfl (fun hb=>(.strip rfl hb .nil)) (fun hb=>o_int rfl rfl rfl))<|.cons (o_and rfl rfl)<|.nil _) ?_
    refine a_cond _ rfl (fun h18=>?_) (fun h18=>?_)
    ·replace hM:=(of_if hM).1 h18
     refine a_skip (a_seq (a_block ?_))
     obtain ⟨v20,h19,hM⟩ := of_bind hM
     obtain ⟨v22,h21,hM⟩ := of_bind hM
     obtain ⟨v24,h23,hM⟩ := of_bind hM
     obtain ⟨v26,h25,hM⟩ := of_bind hM
     refine ad mixed (.cons (o_move rfl)<|.cons (o_move rfl)<|.cons (o_move rfl)<|.cons (o_move rfl)<|.cons (o_int rfl rfl rfl)<|.cons (o_move rfl)<|.cons (o_move rfl)<|.cons (o_int rfl rfl rfl)<|.cons (t_index_r h19 rfl rfl rfl)<|.cons (t_load_pr h19 rfl rfl rfl rfl rfl)<|.cons (o_move rfl)<|.cons (o_move rfl)<|.cons (t_index_r h21 rfl rfl rfl)<|.cons (t_load_pr h21 rfl rfl rfl rfl rfl)<|.cons (t_index_r h23 rfl rfl rfl)<|.cons (t_store_p v20 h23 rfl rfl rfl rfl rfl rfl rfl rfl rfl rfl rfl)<|.cons (t_index_r h25 rfl rfl rfl)<|.cons (t_store_p v22 h25 rfl rfl rfl rfl rfl rfl rfl rfl rfl rfl rfl)<|.nil _) ?_
     refine ar (.cons (o_move rfl)<|.cons (o_int rfl rfl rfl)<|.cons (o_assign rfl)<|.nil _) ?_
     obtain rfl:=Option.some.inj hM
     exact ⟨((List.set (List.set a8 (Int.toNat a9) v20) (Int.toNat (IntKind.wrap .i64 (a9 - 1))) v22),(IntKind.wrap .i64 (a9 - 1))),rfl,(Imp.sh (fun i=>i) rfl rfl rfl rfl rfl rfl)⟩
    ·replace hM:=(of_if hM).2 h18
     refine a_exit ?_
     obtain rfl:=Option.some.inj hM
     obtain rfl:=hE10 _ rfl
     exact ⟨a8,hK10,(Imp.sh (fun i=>i) rfl rfl rfl rfl rfl rfl)⟩
   ·rintro a7 hM
    replace hM : slices_insertionSortCmpFunc_graph_Node_a_K3 a3 a7 = some t5:=hM
    unfold slices_insertionSortCmpFunc_graph_Node_a_K3 at hM
    refine ar (.cons (o_move rfl)<|.cons (o_int rfl rfl rfl)<|.cons (o_assign rfl)<|.nil _) ?_
    obtain rfl:=Option.some.inj hM
    exact ⟨(a7,(IntKind.wrap .i64 (a3 + 1))),rfl,(Imp.sh (fun i=>i) rfl rfl rfl rfl rfl rfl)⟩
  ·replace hM:=(of_if hM).2 h6
   refine a_exit ?_
   obtain rfl:=Option.some.inj hM
   obtain rfl:=hE4 _ rfl
   exact ⟨a2,hK4,(Imp.sh (fun i=>i) rfl rfl rfl rfl rfl rfl)⟩
 ·rintro a1 hM
  replace hM : slices_insertionSortCmpFunc_graph_Node_a_K1 a1 = some r:=hM
  unfold slices_insertionSortCmpFunc_graph_Node_a_K1 at hM
  obtain rfl:=Option.some.inj hM
  refine n_imp (σ' := ⟨[],[(100000,some (.row 24 2 (List.map graph_Node.dv a1)))],[100000]⟩) (Imp.sh (fun i=>i) rfl rfl rfl rfl rfl rfl) ?_
  exact n_done (a_postN (.r0 ) (DLe.refl _) (PostOk.spec (.cons rfl .nil)))
def slices_pdqsortCmpFunc_graph_Node_a_K1 : Option (List graph_Node) :=
 none
def slices_pdqsortCmpFunc_graph_Node_a (x1 : Int) (x2 : Int) (x3 : Int) (o0 : List graph_Node) : Option (List graph_Node) :=
 if (decide ((IntKind.wrap .i64 (x2 - x1))≤12)) = true then
  (slices_insertionSortCmpFunc_graph_Node_a x1 x2 o0).bind fun v3=>
  some v3
 else
  if (x3 == 0) = true then
   none
  else
   if (!true) = true then
    none
   else
    slices_pdqsortCmpFunc_graph_Node_a_K1
theorem slices_pdqsortCmpFunc_graph_Node_a_c {x1 : Int} {x2 : Int} {x3 : Int} {o0 : List graph_Node} {r : (List graph_Node)} (hM : slices_pdqsortCmpFunc_graph_Node_a x1 x2 x3 o0 = some r) : ACall Tryz.prog 74 ⟨[.row 100000,.int .i64 x1,.int .i64 x2,.int .i64 x3,.val (.func (.func 52) #[] #[])],[(100000,some (.row 24 2 (List.map graph_Node.dv o0)))],.tup [],[(100000,some (.row 24 2 (List.map graph_Node.dv r)))],[]⟩ := by
 unfold slices_pdqsortCmpFunc_graph_Node_a at hM
 refine ACall.body Tryz.func74 Tryz.ntmps74 rfl rfl rfl rfl ?_
 refine a_end ?_
 refine a_seq (ar (.cons (o_assign rfl)<|.nil _) ?_)
 refine a_seq (ar (.cons (o_assign rfl)<|.nil _) ?_)
 refine a_block ?_
 refine a_loop (fun _ : Unit=>_) (fun _=>True) (fun _=>0) () (Imp.refl _) trivial (fun _ _=>?_)
 refine a_block (a_seq (ar (.cons (o_move rfl)<|.cons (o_move rfl)<|.cons (o_int rfl rfl rfl)<|.cons (o_assign rfl)<|.nil _) ?_))
 refine a_seq (a_seq (ar (.cons (o_move rfl)<|.cons (o_int rfl rfl rfl)<|.nil _) ?_))
 refine a_cond _ rfl (fun h1=>?_) (fun h1=>?_)
 ·replace hM:=(of_if hM).1 h1
  refine a_seq ?_
  obtain ⟨v3,h2,hM⟩ := of_bind hM
  refine ar (.cons (o_move rfl)<|.cons (o_move rfl)<|.cons (o_move rfl)<|.cons (o_move rfl)<|.cons (o_callN (fun i=>bif Nat.beq i 100000 then 100000 else i) 1 (slices_insertionSortCmpFunc_graph_Node_a_c h2) rfl (DLeL.refl _) (.cons rfl .nil) rfl .nil)<|.nil _) ?_
  obtain rfl:=Option.some.inj hM
  refine a_imp (σ' := ⟨[],[(100000,some (.row 24 2 (List.map graph_Node.dv v3)))],[100000]⟩) (Imp.sh (fun i=>i) rfl rfl rfl rfl rfl rfl) ?_
  exact a_ret (a_post (.r0 ) (DLe.refl _) (PostOk.spec (.cons rfl .nil)))
 ·replace hM:=(of_if hM).2 h1
  refine a_skip (a_seq (a_seq (ar (.cons (o_move rfl)<|.cons (o_int rfl rfl rfl)<|.nil _) ?_)))
  refine a_cond _ rfl (fun h4=>?_) (fun h4=>?_)
  ·replace hM:=(of_if hM).1 h4
   refine a_seq ?_
   cases hM
  ·replace hM:=(of_if hM).2 h4
   refine a_skip ?_
   refine a_cut (α:=Unit) (fun s=>⟨[(0,.row 100000),(1,.int .i64 x1),(2,.int .i64 x2),(3,.int .i64 x3),(4,.val (.func (.func 52) #[] #[])),(10,.bool true),(11,.bool true),(12,.int .i64 (IntKind.wrap .i64 (x2 - x1)))],[(100000,some (.row 24 2 (List.map graph_Node.dv o0)))],[100000]⟩) (fun s=>slices_pdqsortCmpFunc_graph_Node_a_K1 = some r) ?_ ?_
   ·refine a_seq (ar (.cons (o_move rfl)<|.cons (o_not rfl)<|.nil _) ?_)
    refine a_cond _ rfl (fun h5=>?_) (fun h5=>?_)
    ·replace hM:=(of_if hM).1 h5
     refine a_seq ?_
     cases hM
    ·replace hM:=(of_if hM).2 h5
     refine a_skip ?_
     exact ⟨(),hM,(Imp.sh (fun i=>i) rfl rfl rfl rfl rfl rfl)⟩
   ·rintro _ hM
    replace hM : slices_pdqsortCmpFunc_graph_Node_a_K1 = some r:=hM
    unfold slices_pdqsortCmpFunc_graph_Node_a_K1 at hM
    refine a_seq ?_
    cases hM
def slices_SortFunc_graph_Node_graph_Node_a (o0 : List graph_Node) : Option (List graph_Node) :=
 (math_bits_Len (IntKind.wrap .u64 (List.length o0 : Int))).bind fun v2=>
 (slices_pdqsortCmpFunc_graph_Node_a 0 (List.length o0 : Int) v2 o0).bind fun v4=>
 some v4
theorem slices_SortFunc_graph_Node_graph_Node_a_c {o0 : List graph_Node} {r : (List graph_Node)} (hM : slices_SortFunc_graph_Node_graph_Node_a o0 = some r) : ACall Tryz.prog 51 ⟨[.row 100000,.val (.func (.func 52) #[] #[])],[(100000,some (.row 24 2 (List.map graph_Node.dv o0)))],.tup [],[(100000,some (.row 24 2 (List.map graph_Node.dv r)))],[]⟩ := by
 unfold slices_SortFunc_graph_Node_graph_Node_a at hM
 refine ACall.body Tryz.func51 Tryz.ntmps51 rfl rfl rfl rfl ?_
 refine a_end ?_
 refine a_seq (ar (.cons (o_move rfl)<|.cons (t_len_r rfl rfl)<|.cons (o_assign rfl)<|.nil _) ?_)
 obtain ⟨v2,h1,hM⟩ := of_bind hM
 obtain ⟨v4,h3,hM⟩ := of_bind hM
 refine ar (.cons (o_move rfl)<|.cons (o_move rfl)<|.cons (o_move rfl)<|.cons (o_conv_w rfl)<|.cons (o_call (math_bits_Len_c h1) rfl (DLeL.refl _) rfl)<|.cons (o_move rfl)<|.cons (o_callN (fun i=>bif Nat.beq i 100000 then 100000 else i) 1 (slices_pdqsortCmpFunc_graph_Node_a_c h3) rfl (DLeL.refl _) (.cons rfl .nil) rfl .nil)<|.nil _) ?_
 obtain rfl:=Option.some.inj hM
 refine n_imp (σ' := ⟨[],[(100000,some (.row 24 2 (List.map graph_Node.dv v4)))],[100000]⟩) (Imp.sh (fun i=>i) rfl rfl rfl rfl rfl rfl) ?_
 exact n_done (a_postN (.r0 ) (DLe.refl _) (PostOk.spec (.cons rfl .nil)))
def slices_Compact_graph_Node_graph_Node (x0 : List graph_Node) : Option (List graph_Node) :=
 if (decide ((List.length x0 : Int) < 2)) = true then
  some x0
 else
  none
theorem slices_Compact_graph_Node_graph_Node_c {x0 : List graph_Node} {r : (List graph_Node)} (hM : slices_Compact_graph_Node_graph_Node x0 = some r) : PCall Tryz.prog 53 [.sl 2 (List.map graph_Node.dv x0)] (.sl 2 (List.map graph_Node.dv r)):=by
 unfold slices_Compact_graph_Node_graph_Node at hM
 refine PCall.body Tryz.func53 Tryz.ntmps53 rfl rfl rfl rfl ?_
 refine a_seq (ar (.cons (o_assign rfl)<|.nil _) ?_)
 refine a_seq (a_seq (ar (.cons (o_move rfl)<|.cons (t_len rfl)<|.cons (o_int rfl rfl rfl)<|.nil _) ?_))
 refine a_cond _ rfl (fun h1=>?_) (fun h1=>?_)
 ·replace hM:=(of_if hM).1 h1
  refine a_seq (ar (.cons (o_move rfl)<|.cons (o_assign rfl)<|.nil _) ?_)
  obtain rfl:=Option.some.inj hM
  exact a_ret (a_post (.r1 (.tmp rfl)) (DLe.refl _) PostOk.nil.spec)
 ·replace hM:=(of_if hM).2 h1
  refine a_skip (a_seq (a_seq ?_))
  cases hM
def graph_Graph_edges_a_K2 (a6 : List graph_Node) : Option (List graph_Node) :=
 (slices_SortFunc_graph_Node_graph_Node_a a6).bind fun v8=>
 (slices_Compact_graph_Node_graph_Node v8).bind fun v10=>
 some v10
def graph_Graph_edges_a_L3 (o0 : graph_Graph) (v5 : RRec) (v13 : List Int) (k14 : Nat) (a15 : List graph_Node) : Option (List graph_Node) :=
 (idx v13 (k14 : Int)).bind fun v20=>
 (idx o0.grecords v5.gEvent.gPeer).bind fun v22=>
 (idx v22 v20).bind fun v24=>
 if (decide (v5.gEvent.gTick < v24.gEvent.gTick)) = true then
  chk (apOk 16 (List.length a15 + List.length [(graph_Node.mk v5.gEvent.gPeer v24.gSeq)]))<|
  some (a15++[(graph_Node.mk v5.gEvent.gPeer v24.gSeq)])
 else
  some a15
def graph_Graph_edges_a_K1 (x1 : Int) (x2 : Int) (o0 : graph_Graph) (a1 : List graph_Node) : Option (List graph_Node) :=
 (idx o0.grecords x1).bind fun v3=>
 (idx v3 x2).bind fun v5=>
 if (v5.gEvent.gKind == 8) = true then
  (some (mget api_Message.cs o0.garrivals (api_Message.mk v5.gEvent.gComponent v5.gEvent.gPeer v5.gEvent.gN) [])).bind fun v13=>
  (foldM' 9223372036854775807 (List.length v13 : Int) (fun k14 s=>graph_Graph_edges_a_L3 o0 v5 v13 k14 s) a1).bind fun s=>graph_Graph_edges_a_K2 s
 else
  graph_Graph_edges_a_K2 a1
def graph_Graph_edges_a (x1 : Int) (x2 : Int) (o0 : graph_Graph) : Option (List graph_Node) :=
 (idx o0.grecords x1).bind fun v28=>
 if (decide ((IntKind.wrap .i64 (x2 + 1)) < (List.length v28 : Int))) = true then
  (idx o0.grecords x1).bind fun v31=>
  (idx v31 (IntKind.wrap .i64 (x2 + 1))).bind fun v33=>
  chk (apOk 16 (List.length [(graph_Node.mk x1 v33.gSeq)]))<|
  graph_Graph_edges_a_K1 x1 x2 o0 [(graph_Node.mk x1 v33.gSeq)]
 else
  graph_Graph_edges_a_K1 x1 x2 o0 ([] : List graph_Node)
theorem graph_Graph_edges_a_c {x1 : Int} {x2 : Int} {o0 : graph_Graph} {r : (List graph_Node)} (hM : graph_Graph_edges_a x1 x2 o0 = some r) : ACall Tryz.prog 28 ⟨[.ref 100000 0,.int .i64 x1,.int .i64 x2],[(100000,some (.blk 55 [.row 100001,.row 100002])),(100001,some (.row 57 1 (List.map (encSl 29 RRec.dv) o0.grecords))),(100002,some (.mp (mpL api_Message.cs (encSlN 1 (DV.int .i64)) o0.garrivals)))],.sl 2 (List.map graph_Node.dv r),[(100000,some (.blk 55 [.row 100001,.row 100002])),(100001,some (.row 57 1 (List.map (encSl 29 RRec.dv) o0.grecords))),(100002,some (.mp (mpL api_Message.cs (encSlN 1 (DV.int .i64)) o0.garrivals)))],[]⟩ := by
 unfold graph_Graph_edges_a at hM
 refine ACall.body Tryz.func28 Tryz.ntmps28 rfl rfl rfl rfl ?_
 refine a_seq (ar (.cons (o_assign rfl)<|.nil _) ?_)
 refine a_seq (ar (.cons (o_assign rfl)<|.nil _) ?_)
 refine a_cut (α:=(List graph_Node)) (fun s=>⟨[(0,.ref 100000 0),(1,.int .i64 x1),(2,.int .i64 x2),(7,.row 10001)],[(10001,some (.row 24 2 (List.map graph_Node.dv s))),(100000,some (.blk 55 [.row 100001,.row 100002])),(100001,some (.row 57 1 (List.map (encSl 29 RRec.dv) o0.grecords))),(100002,some (.mp (mpL api_Message.cs (encSlN 1 (DV.int .i64)) o0.garrivals)))],[10001,100000,100001,100002]⟩) (fun s=>graph_Graph_edges_a_K1 x1 x2 o0 s = some r) ?_ ?_
 ·refine a_seq ?_
  obtain ⟨v28,h27,hM⟩ := of_bind hM
  refine ar (.cons (o_move rfl)<|.cons (o_int rfl rfl rfl)<|.cons (o_move rfl)<|.cons (o_nilCheck rfl)<|.cons (o_fieldAddr rfl)<|.cons (o_load_s rfl rfl rfl)<|.cons (o_move rfl)<|.cons (t_index_r h27 rfl rfl rfl)<|.cons (t_load_ps h27 rfl rfl rfl rfl)<|.cons (t_len rfl)<|.cons (o_int rfl rfl rfl)<|.nil _) ?_
  refine a_cond _ rfl (fun h29=>?_) (fun h29=>?_)
  ·replace hM:=(of_if hM).1 h29
   obtain ⟨v31,h30,hM⟩ := of_bind hM
   obtain ⟨v33,h32,hM⟩ := of_bind hM
   obtain ⟨h34,hM⟩ := of_chk hM
   refine ar (.cons (o_move rfl)<|.cons (o_move rfl)<|.cons (o_move rfl)<|.cons (o_nilCheck rfl)<|.cons (o_fieldAddr rfl)<|.cons (o_load_s rfl rfl rfl)<|.cons (o_move rfl)<|.cons (t_index_r h30 rfl rfl rfl)<|.cons (t_load_ps h30 rfl rfl rfl rfl)<|.cons (o_move rfl)<|.cons (o_int rfl rfl rfl)<|.cons (t_index h32 rfl rfl rfl)<|.cons (o_fieldAddr_e rfl rfl)<|.cons (o_load_es rfl rfl)<|.cons (o_build rfl rfl rfl)<|.cons (t_build graph_Node.dv ([(graph_Node.mk x1 v33.gSeq)] : List graph_Node) rfl rfl rfl rfl rfl rfl rfl)<|.cons (t_append_n graph_Node.dv [(graph_Node.mk x1 v33.gSeq)] h34 rfl rfl (Src.row rfl))<|.cons (o_assign rfl)<|.nil _) ?_
   exact ⟨[(graph_Node.mk x1 v33.gSeq)],hM,(Imp.sh (fun i=>bif Nat.beq i 10001 then 39 else i) rfl rfl rfl rfl rfl rfl)⟩
  ·replace hM:=(of_if hM).2 h29
   refine a_skip ?_
   exact ⟨([] : List graph_Node),hM,((Imp.nilRow (t:=7) (id:=10004) 24 2 rfl rfl).trans (Imp.sh (fun i=>bif Nat.beq i 10001 then 10004 else i) rfl rfl rfl rfl rfl rfl))⟩
 ·rintro a1 hM
  replace hM : graph_Graph_edges_a_K1 x1 x2 o0 a1 = some r:=hM
  unfold graph_Graph_edges_a_K1 at hM
  refine a_seq ?_
  obtain ⟨v3,h2,hM⟩ := of_bind hM
  obtain ⟨v5,h4,hM⟩ := of_bind hM
  refine ar (.cons (o_move rfl)<|.cons (o_nilCheck rfl)<|.cons (o_fieldAddr rfl)<|.cons (o_load_s rfl rfl rfl)<|.cons (o_move rfl)<|.cons (t_index_r h2 rfl rfl rfl)<|.cons (t_load_ps h2 rfl rfl rfl rfl)<|.cons (o_move rfl)<|.cons (t_index h4 rfl rfl rfl)<|.cons (o_fieldAddr_e rfl rfl)<|.cons (o_load_er rfl rfl rfl)<|.cons (o_alloc rfl)<|.cons (o_store rfl rfl rfl rfl rfl rfl rfl)<|.nil _) ?_
  refine a_cut (α:=(List graph_Node)) (fun s=>⟨[(7,.row 10002)],[(10002,some (.row 24 2 (List.map graph_Node.dv s))),(100000,some (.blk 55 [.row 100001,.row 100002])),(100001,some (.row 57 1 (List.map (encSl 29 RRec.dv) o0.grecords))),(100002,some (.mp (mpL api_Message.cs (encSlN 1 (DV.int .i64)) o0.garrivals)))],[10002,100000,100001,100002]⟩) (fun s=>graph_Graph_edges_a_K2 s = some r) ?_ ?_
  ·refine a_seq (ar (.cons (o_fieldAddr rfl)<|.cons (o_load_s rfl rfl rfl)<|.cons (o_int rfl rfl rfl)<|.nil _) ?_)
   refine a_cond _ rfl (fun h11=>?_) (fun h11=>?_)
   ·replace hM:=(of_if hM).1 h11
    refine a_seq ?_
    obtain ⟨v13,h12,hM⟩ := of_bind hM
    refine ad mixed (.cons (o_move rfl)<|.cons (o_nilCheck rfl)<|.cons (o_fieldAddr rfl)<|.cons (o_load_s rfl rfl rfl)<|.cons (o_fieldAddr rfl)<|.cons (o_load_s rfl rfl rfl)<|.cons (o_fieldAddr rfl)<|.cons (o_load_s rfl rfl rfl)<|.cons (o_fieldAddr rfl)<|.cons (o_load_s rfl rfl rfl)<|.cons (o_build rfl rfl rfl)<|.cons (t_lookup_n h12 (fun _=>rfl) rfl rfl rfl rfl)<|.cons (t_len rfl)<|.cons (o_move rfl)<|.nil _) ?_
    obtain ⟨a15,hL16,hK16⟩ := of_bind hM
    refine a_block ?_
    refine a_fold (fun k14 (s : (List graph_Node))=>⟨[(0,.ref 100000 0),(7,.row 10003),(8,.ref 8 0),(65,.sl 1 (List.map (DV.int .i64) v13)),(66,.int .i64 (List.length v13 : Int)),(67,.int .i64 (k14 : Int))],[(8,some (.blk 33 (AEv.cs v5.gEvent))),(10003,some (.row 24 2 (List.map graph_Node.dv s))),(100000,some (.blk 55 [.row 100001,.row 100002])),(100001,some (.row 57 1 (List.map (encSl 29 RRec.dv) o0.grecords))),(100002,some (.mp (mpL api_Message.cs (encSlN 1 (DV.int .i64)) o0.garrivals)))],[8,10003,100000,100001,100002]⟩) _ hL16 (Imp.sh (fun i=>bif Nat.beq i 10003 then 10001 else i) rfl rfl rfl rfl rfl rfl) ?_ ?_
    ·rintro k14 a15 t17 hk14 hx14 hM
     replace hM : graph_Graph_edges_a_L3 o0 v5 v13 k14 a15 = some t17:=hM
     unfold graph_Graph_edges_a_L3 at hM
     refine a_seq (ar (.cons (o_int rfl rfl rfl)<|.nil _) ?_)
     refine a_seq ?_
     refine a_cond _ rfl (fun _=>?_) (fun c=>absurd hk14 (of_decide_eq_false c))
     refine a_skip (a_seq (a_block (a_seq ?_)))
     obtain ⟨v20,h19,hM⟩ := of_bind hM
     refine ar (.cons (t_index h19 rfl rfl rfl)<|.cons (o_load_es rfl rfl)<|.cons (o_assign rfl)<|.nil _) ?_
     refine a_seq ?_
     obtain ⟨v22,h21,hM⟩ := of_bind hM
     obtain ⟨v24,h23,hM⟩ := of_bind hM
     refine ad mixed (.cons (o_move rfl)<|.cons (o_nilCheck rfl)<|.cons (o_fieldAddr rfl)<|.cons (o_load_s rfl rfl rfl)<|.cons (o_fieldAddr rfl)<|.cons (o_load_s rfl rfl rfl)<|.cons (t_index_r h21 rfl rfl rfl)<|.cons (t_load_ps h21 rfl rfl rfl rfl)<|.cons (o_move rfl)<|.cons (t_index h23 rfl rfl rfl)<|.cons (o_load_er rfl rfl rfl)<|.cons (o_alloc rfl)<|.cons (o_store rfl rfl rfl rfl rfl rfl rfl)<|.nil _) ?_
     refine a_seq (ar (.cons (o_fieldAddr rfl)<|.cons (o_fieldAddr rfl)<|.cons (o_load_s rfl rfl rfl)<|.cons (o_fieldAddr rfl)<|.cons (o_load_s rfl rfl rfl)<|.cons (o_int rfl rfl rfl)<|.nil _) ?_)
     refine a_cond _ rfl (fun h25=>?_) (fun h25=>?_)
     ·replace hM:=(of_if hM).1 h25
      obtain ⟨h26,hM⟩ := of_chk hM
      refine ar (.cons (o_move rfl)<|.cons (o_fieldAddr rfl)<|.cons (o_load_s rfl rfl rfl)<|.cons (o_fieldAddr rfl)<|.cons (o_load_s rfl rfl rfl)<|.cons (o_build rfl rfl rfl)<|.cons (t_build graph_Node.dv ([(graph_Node.mk v5.gEvent.gPeer v24.gSeq)] : List graph_Node) rfl rfl rfl rfl rfl rfl rfl)<|.cons (t_append [(graph_Node.mk v5.gEvent.gPeer v24.gSeq)] h26 rfl rfl rfl (Src.row rfl))<|.cons (o_assign rfl)<|.nil _) ?_
      refine ar (.cons (o_add rfl rfl (inR_i64 hk14 hx14))<|.cons (o_move rfl)<|.nil _) ?_
      obtain rfl:=Option.some.inj hM
      exact (Imp.of (fun i=>bif Nat.beq i 10003 then 95 else i) (.cons rfl (DLe.refl _) (.cons rfl (DLe.refl _) (.cons rfl (DLe.refl _) (.cons rfl (DLe.refl _) (.cons rfl (DLe.refl _) (.cons rfl (DLe.succ _ _) .nil)))))) (.cons rfl (.refl _) (.cons rfl (.refl _) (.cons rfl (.refl _) (.cons rfl (.refl _) (.cons rfl (.refl _) .nil))))) rfl rfl rfl)
     ·replace hM:=(of_if hM).2 h25
      refine a_skip (ar (.cons (o_add rfl rfl (inR_i64 hk14 hx14))<|.cons (o_move rfl)<|.nil _) ?_)
      obtain rfl:=Option.some.inj hM
      exact (Imp.of (fun i=>i) (.cons rfl (DLe.refl _) (.cons rfl (DLe.refl _) (.cons rfl (DLe.refl _) (.cons rfl (DLe.refl _) (.cons rfl (DLe.refl _) (.cons rfl (DLe.succ _ _) .nil)))))) (.cons rfl (.refl _) (.cons rfl (.refl _) (.cons rfl (.refl _) (.cons rfl (.refl _) (.cons rfl (.refl _) .nil))))) rfl rfl rfl)
    ·rintro k14 hk14 hx14
     refine a_seq (ar (.cons (o_int rfl rfl rfl)<|.nil _) ?_)
     refine a_seq ?_
     refine a_cond _ rfl (fun c=>absurd (of_decide_eq_true c) (Int.not_lt.2 hk14)) (fun _=>?_)
     refine a_exit ?_
     exact ⟨a15,hK16,(Imp.sh (fun i=>bif Nat.beq i 10002 then 10003 else i) rfl rfl rfl rfl rfl rfl)⟩
   ·replace hM:=(of_if hM).2 h11
    refine a_skip ?_
    exact ⟨a1,hM,(Imp.sh (fun i=>bif Nat.beq i 10002 then 10001 else i) rfl rfl rfl rfl rfl rfl)⟩
  ·rintro a6 hM
   replace hM : graph_Graph_edges_a_K2 a6 = some r:=hM
   unfold graph_Graph_edges_a_K2 at hM
   refine a_seq ?_
   obtain ⟨v8,h7,hM⟩ := of_bind hM
   refine ar (.cons (o_move rfl)<|.cons (o_callN (fun i=>bif Nat.beq i 100000 then 10002 else i) 1 (slices_SortFunc_graph_Node_graph_Node_a_c h7) rfl (DLeL.refl _) (.cons rfl .nil) rfl .nil)<|.nil _) ?_
   refine a_seq (a_imp (Imp.freeze (id:=10002) rfl) ?_)
   obtain ⟨v10,h9,hM⟩ := of_bind hM
   refine ar (.cons (o_move rfl)<|.cons (o_call (slices_Compact_graph_Node_graph_Node_c h9) rfl (DLeL.refl _) rfl)<|.cons (o_assign rfl)<|.nil _) ?_
   obtain rfl:=Option.some.inj hM
   refine a_imp (σ' := ⟨[(6,.sl 2 (List.map graph_Node.dv v10))],[(100000,some (.blk 55 [.row 100001,.row 100002])),(100001,some (.row 57 1 (List.map (encSl 29 RRec.dv) o0.grecords))),(100002,some (.mp (mpL api_Message.cs (encSlN 1 (DV.int .i64)) o0.garrivals)))],[100000,100001,100002]⟩) (Imp.sh (fun i=>i) rfl rfl rfl rfl rfl rfl) ?_
   exact a_ret (a_post (.r1 (.tmp rfl)) (DLe.refl _) (PostOk.spec (.cons rfl (.cons rfl (.cons rfl .nil)))))
def graph_Graph_place_1 (x0 : RRec) (x1 : Int) : Option Int :=
 (cmp_Compare_uint64 x0.gSeq x1).bind fun v2=>
 some v2
theorem graph_Graph_place_1_c {x0 : RRec} {x1 : Int} {r : Int} (hM : graph_Graph_place_1 x0 x1 = some r) : PCall Tryz.prog 50 [.agg (RRec.cs x0),.int .u64 x1] (.int .i64 r):=by
 unfold graph_Graph_place_1 at hM
 refine PCall.body Tryz.func50 Tryz.ntmps50 rfl rfl rfl rfl ?_
 refine a_seq (ar (.cons (o_box rfl rfl)<|.cons (o_assign rfl)<|.nil _) ?_)
 refine a_seq ?_
 obtain ⟨v2,h1,hM⟩ := of_bind hM
 refine ar (.cons (o_fieldAddr rfl)<|.cons (o_load_s rfl rfl rfl)<|.cons (o_move rfl)<|.cons (o_call (cmp_Compare_uint64_c h1) rfl (DLeL.refl _) rfl)<|.cons (o_assign rfl)<|.nil _) ?_
 obtain rfl:=Option.some.inj hM
 exact a_ret (a_post (.r1 (.tmp rfl)) (DLe.refl _) PostOk.nil.spec)
def slices_BinarySearchFunc_record_Record_record_Record_uint64_a_K1 (x0 : List RRec) (x1 : Int) (a1 : Int) : Option (Int × Bool) :=
 (gb (decide (a1 < (List.length x0 : Int))) (RRec.mk 0 0 (VClk.mk (arr 0 [])) 0 (AEv.mk 0 0 0 0 0 0 0 0 []) 0) (idx x0 a1)).bind fun v3=>
 (gb (decide (a1 < (List.length x0 : Int))) (0) (graph_Graph_place_1 v3 x1)).bind fun v5=>
 some (a1,((decide (a1 < (List.length x0 : Int))) && (v5 == 0)))
def slices_BinarySearchFunc_record_Record_record_Record_uint64_a_L2 (x0 : List RRec) (x1 : Int) (a6 : Int) (a7 : Int) : Option (Ctl (Int × Int) Int) :=
 if (decide (a6 < a7)) = true then
  (idx x0 (IntKind.wrap .i64 (Int.fdiv (IntKind.wrap .u64 (IntKind.wrap .i64 (a6 + a7))) (2 ^ min (Int.toNat 1) (IntKind.bits .u64))))).bind fun v12=>
  (graph_Graph_place_1 v12 x1).bind fun v14=>
  if (decide (v14 < 0)) = true then
   some (.next ((IntKind.wrap .i64 ((IntKind.wrap .i64 (Int.fdiv (IntKind.wrap .u64 (IntKind.wrap .i64 (a6 + a7))) (2 ^ min (Int.toNat 1) (IntKind.bits .u64)))) + 1)),a7))
  else
   some (.next (a6,(IntKind.wrap .i64 (Int.fdiv (IntKind.wrap .u64 (IntKind.wrap .i64 (a6 + a7))) (2 ^ min (Int.toNat 1) (IntKind.bits .u64))))))
 else
  some (.done a6)
def slices_BinarySearchFunc_record_Record_record_Record_uint64_a (x0 : List RRec) (x1 : Int) : Option (Int × Bool) :=
 (whileM (E:=Int) (fun s=>slices_BinarySearchFunc_record_Record_record_Record_uint64_a_L2 x0 x1 s.1 s.2) (0,(List.length x0 : Int))).bind fun e=>slices_BinarySearchFunc_record_Record_record_Record_uint64_a_K1 x0 x1 e
theorem slices_BinarySearchFunc_record_Record_record_Record_uint64_a_c {x0 : List RRec} {x1 : Int} {r : Int × Bool} (hM : slices_BinarySearchFunc_record_Record_record_Record_uint64_a x0 x1 = some r) : ACall Tryz.prog 49 ⟨[.sl 29 (List.map RRec.dv x0),.int .u64 x1,.val (.func (.func 50) #[] #[])],[],.tup [.int .i64 r.1,.bool r.2],[],[]⟩ := by
 unfold slices_BinarySearchFunc_record_Record_record_Record_uint64_a at hM
 refine ACall.body Tryz.func49 Tryz.ntmps49 rfl rfl rfl rfl ?_
 refine a_seq (ar (.cons (o_assign rfl)<|.cons (o_assign rfl)<|.nil _) ?_)
 refine a_seq (ar (.cons (o_move rfl)<|.cons (t_len rfl)<|.cons (o_assign rfl)<|.nil _) ?_)
 refine a_seq (ar (.cons (o_move rfl)<|.cons (o_assign rfl)<|.cons (o_assign rfl)<|.nil _) ?_)
 refine a_cut (α:=Int) (fun s=>⟨[(0,.sl 29 (List.map RRec.dv x0)),(1,.int .u64 x1),(2,.val (.func (.func 50) #[] #[])),(8,.int .i64 (List.length x0 : Int)),(9,.int .i64 s)],[],[]⟩) (fun s=>slices_BinarySearchFunc_record_Record_record_Record_uint64_a_K1 x0 x1 s = some r) ?_ ?_
 ·obtain ⟨e8,hL8,hK8⟩ := of_bind hM
  refine a_block (a_while (fun s : Int × Int=>⟨[(0,.sl 29 (List.map RRec.dv x0)),(1,.int .u64 x1),(2,.val (.func (.func 50) #[] #[])),(8,.int .i64 (List.length x0 : Int)),(9,.int .i64 s.1),(10,.int .i64 s.2)],[],[]⟩) _ hL8 (Imp.sh (fun i=>i) rfl rfl rfl rfl rfl rfl) ?_)
  rintro ⟨a6,a7⟩ t9 hM hE8
  replace hM : slices_BinarySearchFunc_record_Record_record_Record_uint64_a_L2 x0 x1 a6 a7 = some t9:=hM
  unfold slices_BinarySearchFunc_record_Record_record_Record_uint64_a_L2 at hM
  refine a_seq (a_seq (ar (.cons (o_move rfl)<|.cons (o_move rfl)<|.cons (o_int rfl rfl rfl)<|.nil _) ?_))
  refine a_cond _ rfl (fun h10=>?_) (fun h10=>?_)
  ·replace hM:=(of_if hM).1 h10
   refine a_skip (a_block (a_seq (ar (.cons (o_move rfl)<|.cons (o_move rfl)<|.cons (o_int rfl rfl rfl)<|.cons (o_conv_w rfl)<|.cons (o_shr rfl rfl (by decide))<|.cons (o_conv_w rfl)<|.cons (o_assign rfl)<|.nil _) ?_)))
   refine a_seq ?_
   obtain ⟨v12,h11,hM⟩ := of_bind hM
   obtain ⟨v14,h13,hM⟩ := of_bind hM
   refine ar (.cons (o_move rfl)<|.cons (o_move rfl)<|.cons (o_move rfl)<|.cons (t_index h11 rfl rfl rfl)<|.cons (o_load_er rfl rfl rfl)<|.cons (o_move rfl)<|.cons (o_callF (graph_Graph_place_1_c h13) rfl rfl (DLeL.refl _) rfl)<|.cons (o_int rfl rfl rfl)<|.nil _) ?_
   refine a_cond _ rfl (fun h15=>?_) (fun h15=>?_)
   ·replace hM:=(of_if hM).1 h15
    refine ar (.cons (o_move rfl)<|.cons (o_int rfl rfl rfl)<|.cons (o_assign rfl)<|.nil _) ?_
    obtain rfl:=Option.some.inj hM
    exact ⟨((IntKind.wrap .i64 ((IntKind.wrap .i64 (Int.fdiv (IntKind.wrap .u64 (IntKind.wrap .i64 (a6 + a7))) (2 ^ min (Int.toNat 1) (IntKind.bits .u64)))) + 1)),a7),rfl,(Imp.sh (fun i=>i) rfl rfl rfl rfl rfl rfl)⟩
   ·replace hM:=(of_if hM).2 h15
    refine ar (.cons (o_move rfl)<|.cons (o_assign rfl)<|.nil _) ?_
    obtain rfl:=Option.some.inj hM
    exact ⟨(a6,(IntKind.wrap .i64 (Int.fdiv (IntKind.wrap .u64 (IntKind.wrap .i64 (a6 + a7))) (2 ^ min (Int.toNat 1) (IntKind.bits .u64))))),rfl,(Imp.sh (fun i=>i) rfl rfl rfl rfl rfl rfl)⟩
  ·replace hM:=(of_if hM).2 h10
   refine a_exit ?_
   obtain rfl:=Option.some.inj hM
   obtain rfl:=hE8 _ rfl
   exact ⟨a6,hK8,(Imp.sh (fun i=>i) rfl rfl rfl rfl rfl rfl)⟩
 ·rintro a1 hM
  replace hM : slices_BinarySearchFunc_record_Record_record_Record_uint64_a_K1 x0 x1 a1 = some r:=hM
  unfold slices_BinarySearchFunc_record_Record_record_Record_uint64_a_K1 at hM
  refine a_seq ?_
  obtain ⟨v3,h2,hM⟩ := of_bind hM
  obtain ⟨v5,h4,hM⟩ := of_bind hM
  refine ar (.cons (o_move rfl)<|.cons (o_move rfl)<|.cons (o_move rfl)<|.cons (o_int rfl rfl rfl)<|.cons (o_move rfl)<|.cons (o_guardG .bT rfl rfl (fun hb=>(.keep .nil)) (fun hb=>o_move rfl))<|.cons (o_guardG .bT rfl rfl (fun hb=>(.keep .nil)) (fun hb=>o_move rfl))<|.cons (o_guardG .bT rfl rfl (fun hb=>(.keep .nil)) (fun hb=>o_move rfl))<|.cons (o_guardG .bT rfl rfl (fun hb=>(.strip rfl hb (.strip rfl hb .nil))) (fun hb=>t_index (of_gb h2 hb) rfl rfl rfl))<|.cons (o_guardG .bT rfl rfl (fun hb=>(.strip rfl hb .nil)) (fun hb=>o_load_er rfl rfl rfl))<|.cons (o_guardG .bT rfl rfl (fun hb=>(.keep .nil)) (fun hb=>o_move rfl))<|.cons (o_guardG .bT rfl rfl (fun hb=>(.strip rfl hb (.strip rfl hb (.strip rfl hb .nil)))) (fun hb=>o_callF (graph_Graph_place_1_c (of_gb h4 hb)) rfl rfl (DLeL.refl _) rfl))<|.cons (o_guardG .bT rfl rfl (fun hb=>(.strip rfl hb .nil)) (fun hb=>o_int rfl rfl rfl))<|.cons (o_and rfl rfl)<|.cons (o_assign rfl)<|.cons (o_assign rfl)<|.nil _) ?_
  obtain rfl:=Option.some.inj hM
  refine a_imp (σ' := ⟨[(6,.int .i64 a1),(7,.bool ((decide (a1 < (List.length x0 : Int))) && (v5 == 0)))],[],[]⟩) (Imp.sh (fun i=>i) rfl rfl rfl rfl rfl rfl) ?_
  exact a_ret (a_post (.r2 (.tmp rfl) (.tmp rfl)) (DLe.refl _) (PostOk.spec .nil))
def graph_Graph_place_a (x1 : graph_Node) (o0 : graph_Graph) : Option (Int × Bool) :=
 if ((decide (x1.gComponent < 0)) || (decide ((List.length o0.grecords : Int)≤x1.gComponent))) = true then
  some (0,false)
 else
  (idx o0.grecords x1.gComponent).bind fun v3=>
  (slices_BinarySearchFunc_record_Record_record_Record_uint64_a v3 x1.gSeq).bind fun v5=>
  some (v5.1,v5.2)
theorem graph_Graph_place_a_c {x1 : graph_Node} {o0 : graph_Graph} {r : Int × Bool} (hM : graph_Graph_place_a x1 o0 = some r) : ACall Tryz.prog 27 ⟨[.ref 100000 0,.agg (graph_Node.cs x1)],[(100000,some (.blk 55 [.row 100001,.row 100002])),(100001,some (.row 57 1 (List.map (encSl 29 RRec.dv) o0.grecords))),(100002,some (.mp (mpL api_Message.cs (encSlN 1 (DV.int .i64)) o0.garrivals)))],.tup [.int .i64 r.1,.bool r.2],[(100000,some (.blk 55 [.row 100001,.row 100002])),(100001,some (.row 57 1 (List.map (encSl 29 RRec.dv) o0.grecords))),(100002,some (.mp (mpL api_Message.cs (encSlN 1 (DV.int .i64)) o0.garrivals)))],[]⟩ := by
 unfold graph_Graph_place_a at hM
 refine ACall.body Tryz.func27 Tryz.ntmps27 rfl rfl rfl rfl ?_
 refine a_seq (ar (.cons (o_box rfl rfl)<|.cons (o_assign rfl)<|.cons (o_assign rfl)<|.nil _) ?_)
 refine a_seq (a_seq (ad mixed (.cons (o_move rfl)<|.cons (o_ptr_eq rfl)<|.cons (o_move rfl)<|.cons (o_guardOn .bF rfl rfl rfl (.keep .nil) (o_fieldAddr rfl))<|.cons (o_guardOn .bF rfl rfl rfl (.strip rfl rfl .nil) (o_load_s rfl rfl rfl))<|.cons (o_guardOn .bF rfl rfl rfl (.strip rfl rfl .nil) (o_int rfl rfl rfl))<|.cons (o_or rfl rfl)<|.cons (o_move rfl)<|.cons (o_guardG .bF rfl rfl (fun hb=>(.keep .nil)) (fun hb=>o_fieldAddr rfl))<|.cons (o_guardG .bF rfl rfl (fun hb=>(.strip rfl hb .nil)) (fun hb=>o_load_s rfl rfl rfl))<|.cons (o_guardG .bF rfl rfl (fun hb=>(.keep .nil)) (fun hb=>o_move rfl))<|.cons (o_guardG .bF rfl rfl (fun hb=>(.strip rfl hb .nil)) (fun hb=>o_nilCheck rfl))<|.cons (o_guardG .bF rfl rfl (fun hb=>(.strip rfl hb .nil)) (fun hb=>o_fieldAddr rfl))<|.cons (o_guardG .bF rfl rfl (fun hb=>(.strip rfl hb .nil)) (fun hb=>o_load_s rfl rfl rfl))<|.cons (o_guardG .bF rfl rfl (fun hb=>(.strip rfl hb .nil)) (fun hb=>t_len_r rfl rfl))<|.cons (o_guardG .bF rfl rfl (fun hb=>(.strip rfl hb (.strip rfl hb .nil))) (fun hb=>o_int rfl rfl rfl))<|.cons (o_or rfl rfl)<|.nil _) ?_))
 refine a_cond _ rfl (fun h1=>?_) (fun h1=>?_)
 ·replace hM:=(of_if hM).1 h1
  refine a_seq (ar (.cons (o_assign rfl)<|.cons (o_assign rfl)<|.nil _) ?_)
  obtain rfl:=Option.some.inj hM
  refine a_imp (σ' := ⟨[(4,.int .i64 0),(5,.bool false)],[(100000,some (.blk 55 [.row 100001,.row 100002])),(100001,some (.row 57 1 (List.map (encSl 29 RRec.dv) o0.grecords))),(100002,some (.mp (mpL api_Message.cs (encSlN 1 (DV.int .i64)) o0.garrivals)))],[100000,100001,100002]⟩) (Imp.sh (fun i=>i) rfl rfl rfl rfl rfl rfl) ?_
  exact a_ret (a_post (.r2 (.tmp rfl) (.tmp rfl)) (DLe.refl _) (PostOk.spec (.cons rfl (.cons rfl (.cons rfl .nil)))))
 ·replace hM:=(of_if hM).2 h1
  refine a_skip (a_seq ?_)
  obtain ⟨v3,h2,hM⟩ := of_bind hM
  obtain ⟨v5,h4,hM⟩ := of_bind hM
  refine ad mixed (.cons (o_move rfl)<|.cons (o_nilCheck rfl)<|.cons (o_fieldAddr rfl)<|.cons (o_load_s rfl rfl rfl)<|.cons (o_fieldAddr rfl)<|.cons (o_load_s rfl rfl rfl)<|.cons (t_index_r h2 rfl rfl rfl)<|.cons (t_load_ps h2 rfl rfl rfl rfl)<|.cons (o_fieldAddr rfl)<|.cons (o_load_s rfl rfl rfl)<|.cons (o_callN (fun i=>i) 0 (slices_BinarySearchFunc_record_Record_record_Record_uint64_a_c h4) rfl (DLeL.refl _) .nil rfl .nil)<|.cons (o_extract rfl rfl)<|.cons (o_extract rfl rfl)<|.cons (o_assign rfl)<|.cons (o_assign rfl)<|.nil _) ?_
  obtain rfl:=Option.some.inj hM
  refine a_imp (σ' := ⟨[(4,.int .i64 v5.1),(5,.bool v5.2)],[(100000,some (.blk 55 [.row 100001,.row 100002])),(100001,some (.row 57 1 (List.map (encSl 29 RRec.dv) o0.grecords))),(100002,some (.mp (mpL api_Message.cs (encSlN 1 (DV.int .i64)) o0.garrivals)))],[100000,100001,100002]⟩) (Imp.sh (fun i=>i) rfl rfl rfl rfl rfl rfl) ?_
  exact a_ret (a_post (.r2 (.tmp rfl) (.tmp rfl)) (DLe.refl _) (PostOk.spec (.cons rfl (.cons rfl (.cons rfl .nil)))))
def graph_Graph_find_a (x1 : graph_Node) (o0 : graph_Graph) : Option (RRec × Bool) :=
 (graph_Graph_place_a x1 o0).bind fun v2=>
 if (!v2.2) = true then
  some ((RRec.mk 0 0 (VClk.mk (arr 0 [0,0,0,0,0,0,0,0,0,0,0,0,0,0,0,0])) 0 (AEv.mk 0 0 0 0 0 0 0 0 []) 0),false)
 else
  (idx o0.grecords x1.gComponent).bind fun v5=>
  (idx v5 v2.1).bind fun v7=>
  some (v7,true)
theorem graph_Graph_find_a_c {x1 : graph_Node} {o0 : graph_Graph} {r : RRec × Bool} (hM : graph_Graph_find_a x1 o0 = some r) : ACall Tryz.prog 22 ⟨[.ref 100000 0,.agg (graph_Node.cs x1)],[(100000,some (.blk 55 [.row 100001,.row 100002])),(100001,some (.row 57 1 (List.map (encSl 29 RRec.dv) o0.grecords))),(100002,some (.mp (mpL api_Message.cs (encSlN 1 (DV.int .i64)) o0.garrivals)))],.tup [.agg (RRec.cs r.1),.bool r.2],[(100000,some (.blk 55 [.row 100001,.row 100002])),(100001,some (.row 57 1 (List.map (encSl 29 RRec.dv) o0.grecords))),(100002,some (.mp (mpL api_Message.cs (encSlN 1 (DV.int .i64)) o0.garrivals)))],[]⟩ := by
 unfold graph_Graph_find_a at hM
 refine ACall.body Tryz.func22 Tryz.ntmps22 rfl rfl rfl rfl ?_
 refine a_seq (ar (.cons (o_box rfl rfl)<|.cons (o_alloc rfl)<|.cons (o_assign rfl)<|.nil _) ?_)
 refine a_seq ?_
 obtain ⟨v2,h1,hM⟩ := of_bind hM
 refine ar (.cons (o_move rfl)<|.cons (o_load_r rfl rfl rfl rfl)<|.cons (o_callN (fun i=>bif Nat.beq i 100000 then 100000 else bif Nat.beq i 100001 then 100001 else bif Nat.beq i 100002 then 100002 else i) 0 (graph_Graph_place_a_c h1) rfl (DLeL.refl _) (.cons rfl (.cons rfl (.cons rfl .nil))) rfl (.cons rfl (.cons rfl (.cons rfl .nil))))<|.cons (o_move rfl)<|.cons (o_extract rfl rfl)<|.cons (o_extract rfl rfl)<|.cons (o_assign rfl)<|.cons (o_assign rfl)<|.nil _) ?_
 refine a_seq (a_seq (ar (.cons (o_move rfl)<|.cons (o_not rfl)<|.nil _) ?_))
 refine a_cond _ rfl (fun h3=>?_) (fun h3=>?_)
 ·replace hM:=(of_if hM).1 h3
  refine a_seq (ar (.cons (o_build rfl rfl rfl)<|.cons (o_store rfl rfl rfl rfl rfl rfl rfl)<|.cons (o_assign rfl)<|.nil _) ?_)
  obtain rfl:=Option.some.inj hM
  refine a_imp (σ' := ⟨[(4,.ref 4 0),(5,.bool false)],[(4,some (.blk 64 [.int .i64 0,.int .u64 0,.int .u64 0,.int .u64 0,.int .u64 0,.int .u64 0,.int .u64 0,.int .u64 0,.int .u64 0,.int .u64 0,.int .u64 0,.int .u64 0,.int .u64 0,.int .u64 0,.int .u64 0,.int .u64 0,.int .u64 0,.int .u64 0,.int .u8 0,.int .i64 0,.int .i64 0,.int .u8 0,.int .i64 0,.int .i64 0,.int .i64 0,.int .i64 0,.int .i64 0,.nils,.int .u64 0])),(100000,some (.blk 55 [.row 100001,.row 100002])),(100001,some (.row 57 1 (List.map (encSl 29 RRec.dv) o0.grecords))),(100002,some (.mp (mpL api_Message.cs (encSlN 1 (DV.int .i64)) o0.garrivals)))],[4,100000,100001,100002]⟩) (Imp.sh (fun i=>i) rfl rfl rfl rfl rfl rfl) ?_
  exact a_ret (a_post (.r2 (.cell rfl rfl (.row _ CRow.h (Nat.le_of_ble_eq_true rfl) rfl)) (.tmp rfl)) (DLe.tup (.cons (DLe.agg (.cons (DLe.refl _) (.cons (DLe.refl _) (.cons (DLe.refl _) (.cons (DLe.refl _) (.cons (DLe.refl _) (.cons (DLe.refl _) (.cons (DLe.refl _) (.cons (DLe.refl _) (.cons (DLe.refl _) (.cons (DLe.refl _) (.cons (DLe.refl _) (.cons (DLe.refl _) (.cons (DLe.refl _) (.cons (DLe.refl _) (.cons (DLe.refl _) (.cons (DLe.refl _) (.cons (DLe.refl _) (.cons (DLe.refl _) (.cons (DLe.refl _) (.cons (DLe.refl _) (.cons (DLe.refl _) (.cons (DLe.refl _) (.cons (DLe.refl _) (.cons (DLe.refl _) (.cons (DLe.refl _) (.cons (DLe.refl _) (.cons (DLe.refl _) (.cons (DLe.nils _) (.cons (DLe.refl _) .nil)))))))))))))))))))))))))))))) (.cons (DLe.refl _) .nil))) (PostOk.spec (.cons rfl (.cons rfl (.cons rfl .nil)))))
 ·replace hM:=(of_if hM).2 h3
  refine a_skip (a_seq ?_)
  obtain ⟨v5,h4,hM⟩ := of_bind hM
  obtain ⟨v7,h6,hM⟩ := of_bind hM
  refine ad mixed (.cons (o_move rfl)<|.cons (o_nilCheck rfl)<|.cons (o_fieldAddr rfl)<|.cons (o_load_s rfl rfl rfl)<|.cons (o_fieldAddr rfl)<|.cons (o_load_s rfl rfl rfl)<|.cons (t_index_r h4 rfl rfl rfl)<|.cons (t_load_ps h4 rfl rfl rfl rfl)<|.cons (o_move rfl)<|.cons (t_index h6 rfl rfl rfl)<|.cons (o_load_er rfl rfl rfl)<|.cons (o_store rfl rfl rfl rfl rfl rfl rfl)<|.cons (o_assign rfl)<|.nil _) ?_
  obtain rfl:=Option.some.inj hM
  refine a_imp (σ' := ⟨[(4,.ref 4 0),(5,.bool true)],[(4,some (.blk 64 (RRec.cs v7))),(100000,some (.blk 55 [.row 100001,.row 100002])),(100001,some (.row 57 1 (List.map (encSl 29 RRec.dv) o0.grecords))),(100002,some (.mp (mpL api_Message.cs (encSlN 1 (DV.int .i64)) o0.garrivals)))],[4,100000,100001,100002]⟩) (Imp.sh (fun i=>i) rfl rfl rfl rfl rfl rfl) ?_
  exact a_ret (a_post (.r2 (.cell rfl rfl (.row _ CRow.h (Nat.le_of_ble_eq_true rfl) rfl)) (.tmp rfl)) (DLe.refl _) (PostOk.spec (.cons rfl (.cons rfl (.cons rfl .nil)))))
def vclock_Leq_K1 : Option Bool :=
 some true
def vclock_Leq_L2 (x0 : VClk) (x1 : VClk) (k1 : Nat) : Option (Ctl Unit Bool) :=
 chk (inA 16 (k1 : Int))<|
 chk (inA 16 (k1 : Int))<|
 if (decide ((x1.gat (Int.toNat (k1 : Int))) < (x0.gat (Int.toNat (k1 : Int))))) = true then
  some (.done false)
 else
  some (.next ())
def vclock_Leq (x0 : VClk) (x1 : VClk) : Option Bool :=
 (forM' (E:=Bool) 9223372036854775807 16 (fun k1 s=>vclock_Leq_L2 x0 x1 k1) ()).bind fun
  | .next s=>vclock_Leq_K1
  | .done r=>some r
theorem vclock_Leq_c {x0 : VClk} {x1 : VClk} {r : Bool} (hM : vclock_Leq x0 x1 = some r) : PCall Tryz.prog 48 [.agg (VClk.cs x0),.agg (VClk.cs x1)] (.bool r):=by
 unfold vclock_Leq at hM
 refine PCall.body Tryz.func48 Tryz.ntmps48 rfl rfl rfl rfl ?_
 refine a_seq (ar (.cons (o_box rfl rfl)<|.cons (o_box rfl rfl)<|.cons (o_assign rfl)<|.nil _) ?_)
 refine a_cut (α:=Unit) (fun s=>⟨[],[],[]⟩) (fun s=>vclock_Leq_K1 = some r) ?_ ?_
 ·refine a_seq (ar (.cons (o_move rfl)<|.nil _) ?_)
  obtain ⟨t2,hL2,hK2⟩ := of_bind hM
  refine a_block ?_
  refine a_for (fun k1 (s : Unit)=>⟨[(2,.ref 2 0),(3,.ref 3 0),(6,.int .i64 (k1 : Int))],[(2,some (.blk 61 (VClk.cs x0))),(3,some (.blk 61 (VClk.cs x1)))],[2,3]⟩) _ hL2 (Imp.sh (fun i=>i) rfl rfl rfl rfl rfl rfl) ?_ ?_
  ·rintro k1 _ t3 hk1 hx1 hM hE2
   replace hM : vclock_Leq_L2 x0 x1 k1 = some t3:=hM
   unfold vclock_Leq_L2 at hM
   refine a_seq (ar (.cons (o_int rfl rfl rfl)<|.nil _) ?_)
   refine a_seq ?_
   refine a_cond _ rfl (fun _=>?_) (fun c=>absurd hk1 (of_decide_eq_false c))
   refine a_skip (a_seq (a_block (a_seq (ar (.cons (o_move rfl)<|.cons (o_assign rfl)<|.nil _) ?_))))
   refine a_seq ?_
   obtain ⟨h5,hM⟩ := of_chk hM
   obtain ⟨h6,hM⟩ := of_chk hM
   refine ad mixed (.cons (o_move rfl)<|.cons (o_fieldAddr rfl)<|.cons (t_index_d h5 rfl rfl)<|.cons (o_load_s rfl rfl (arr_get1 (DV.int .u64) x0.gat h5 rfl))<|.cons (o_move rfl)<|.cons (o_fieldAddr rfl)<|.cons (t_index_d h6 rfl rfl)<|.cons (o_load_s rfl rfl (arr_get1 (DV.int .u64) x1.gat h6 rfl))<|.cons (o_int rfl rfl rfl)<|.nil _) ?_
   refine a_cond _ rfl (fun h7=>?_) (fun h7=>?_)
   ·replace hM:=(of_if hM).1 h7
    refine a_seq (ar (.cons (o_assign rfl)<|.nil _) ?_)
    obtain rfl:=Option.some.inj hM
    obtain rfl:=hE2 _ rfl
    obtain rfl:=Option.some.inj hK2
    exact a_ret (a_post (.r1 (.tmp rfl)) (DLe.refl _) PostOk.nil.spec)
   ·replace hM:=(of_if hM).2 h7
    refine a_skip (ar (.cons (o_add rfl rfl (inR_i64 hk1 hx1))<|.cons (o_move rfl)<|.nil _) ?_)
    obtain rfl:=Option.some.inj hM
    exact ⟨(),rfl,(Imp.of (fun i=>i) (.cons rfl (DLe.refl _) (.cons rfl (DLe.refl _) (.cons rfl (DLe.succ _ _) .nil))) (.cons rfl (.refl _) (.cons rfl (.refl _) .nil)) rfl rfl rfl)⟩
  ·rintro k1 _ hk1 hx1 rfl
   refine a_seq (ar (.cons (o_int rfl rfl rfl)<|.nil _) ?_)
   refine a_seq ?_
   refine a_cond _ rfl (fun c=>absurd (of_decide_eq_true c) (Int.not_lt.2 hk1)) (fun _=>?_)
   refine a_exit ?_
   exact ⟨(),hK2,(Imp.sh (fun i=>i) rfl rfl rfl rfl rfl rfl)⟩
 ·rintro _ hM
  replace hM : vclock_Leq_K1 = some r:=hM
  unfold vclock_Leq_K1 at hM
  refine a_seq (ar (.cons (o_assign rfl)<|.nil _) ?_)
  obtain rfl:=Option.some.inj hM
  exact a_ret (a_post (.r1 (.tmp rfl)) (DLe.refl _) PostOk.nil.spec)
def vclock_Compare (x0 : VClk) (x1 : VClk) : Option Int :=
 if (((x0.gat 0) == (x1.gat 0)) && (((x0.gat 1) == (x1.gat 1)) && (((x0.gat 2) == (x1.gat 2)) && (((x0.gat 3) == (x1.gat 3)) && (((x0.gat 4) == (x1.gat 4)) && (((x0.gat 5) == (x1.gat 5)) && (((x0.gat 6) == (x1.gat 6)) && (((x0.gat 7) == (x1.gat 7)) && (((x0.gat 8) == (x1.gat 8)) && (((x0.gat 9) == (x1.gat 9)) && (((x0.gat 10) == (x1.gat 10)) && (((x0.gat 11) == (x1.gat 11)) && (((x0.gat 12) == (x1.gat 12)) && (((x0.gat 13) == (x1.gat 13)) && (((x0.gat 14) == (x1.gat 14)) && (((x0.gat 15) == (x1.gat 15)) && true)))))))))))))))) = true then
  some 1
 else
  (vclock_Leq x0 x1).bind fun v3=>
  if v3 = true then
   some 2
  else
   (vclock_Leq x1 x0).bind fun v6=>
   if v6 = true then
    some 3
   else
    some 4
theorem vclock_Compare_c {x0 : VClk} {x1 : VClk} {r : Int} (hM : vclock_Compare x0 x1 = some r) : PCall Tryz.prog 26 [.agg (VClk.cs x0),.agg (VClk.cs x1)] (.int .u8 r):=by
 unfold vclock_Compare at hM
 refine PCall.body Tryz.func26 Tryz.ntmps26 rfl rfl rfl rfl ?_
 refine a_seq (ar (.cons (o_box rfl rfl)<|.cons (o_box rfl rfl)<|.cons (o_assign rfl)<|.nil _) ?_)
 refine a_seq (a_block (a_seq (ar (.cons (o_load_r rfl rfl rfl rfl)<|.cons (o_load_r rfl rfl rfl rfl)<|.cons (o_eqS (b:=(((x0.gat 0) == (x1.gat 0)) && (((x0.gat 1) == (x1.gat 1)) && (((x0.gat 2) == (x1.gat 2)) && (((x0.gat 3) == (x1.gat 3)) && (((x0.gat 4) == (x1.gat 4)) && (((x0.gat 5) == (x1.gat 5)) && (((x0.gat 6) == (x1.gat 6)) && (((x0.gat 7) == (x1.gat 7)) && (((x0.gat 8) == (x1.gat 8)) && (((x0.gat 9) == (x1.gat 9)) && (((x0.gat 10) == (x1.gat 10)) && (((x0.gat 11) == (x1.gat 11)) && (((x0.gat 12) == (x1.gat 12)) && (((x0.gat 13) == (x1.gat 13)) && (((x0.gat 14) == (x1.gat 14)) && (((x0.gat 15) == (x1.gat 15)) && true))))))))))))))))) rfl rfl rfl rfl rfl)<|.cons (o_assign rfl)<|.nil _) ?_)))
 refine a_cond _ rfl (fun h1=>?_) (fun h1=>?_)
 ·replace hM:=(of_if hM).1 h1
  refine a_seq (ar (.cons (o_assign rfl)<|.nil _) ?_)
  obtain rfl:=Option.some.inj hM
  exact a_ret (a_post (.r1 (.tmp rfl)) (DLe.refl _) PostOk.nil.spec)
 ·replace hM:=(of_if hM).2 h1
  refine a_seq ?_
  obtain ⟨v3,h2,hM⟩ := of_bind hM
  refine ar (.cons (o_load_r rfl rfl rfl rfl)<|.cons (o_load_r rfl rfl rfl rfl)<|.cons (o_call (vclock_Leq_c h2) rfl (DLeL.refl _) rfl)<|.cons (o_assign rfl)<|.nil _) ?_
  refine a_cond _ rfl (fun h4=>?_) (fun h4=>?_)
  ·replace hM:=(of_if hM).1 h4
   refine a_seq (ar (.cons (o_assign rfl)<|.nil _) ?_)
   obtain rfl:=Option.some.inj hM
   exact a_ret (a_post (.r1 (.tmp rfl)) (DLe.refl _) PostOk.nil.spec)
  ·replace hM:=(of_if hM).2 h4
   refine a_seq ?_
   obtain ⟨v6,h5,hM⟩ := of_bind hM
   refine ar (.cons (o_load_r rfl rfl rfl rfl)<|.cons (o_load_r rfl rfl rfl rfl)<|.cons (o_call (vclock_Leq_c h5) rfl (DLeL.refl _) rfl)<|.cons (o_assign rfl)<|.nil _) ?_
   refine a_cond _ rfl (fun h7=>?_) (fun h7=>?_)
   ·replace hM:=(of_if hM).1 h7
    refine a_seq (ar (.cons (o_assign rfl)<|.nil _) ?_)
    obtain rfl:=Option.some.inj hM
    exact a_ret (a_post (.r1 (.tmp rfl)) (DLe.refl _) PostOk.nil.spec)
   ·replace hM:=(of_if hM).2 h7
    refine a_skip (a_seq (ar (.cons (o_assign rfl)<|.nil _) ?_))
    obtain rfl:=Option.some.inj hM
    exact a_ret (a_post (.r1 (.tmp rfl)) (DLe.refl _) PostOk.nil.spec)
def graph_Graph_ordered_a_K1 : Option Bool :=
 some true
def graph_Graph_ordered_a_L2 (o0 : graph_Graph) (v4 : RRec) (v6 : (List graph_Node)) (k7 : Nat) : Option (Ctl Unit Bool) :=
 (idx v6 (k7 : Int)).bind fun v12=>
 (graph_Graph_find_a v12 o0).bind fun v14=>
 (vclock_Compare v4.gClock v14.1.gClock).bind fun v16=>
 if (v16 != 2) = true then
  some (.done false)
 else
  some (.next ())
def graph_Graph_ordered_a (x1 : Int) (x2 : Int) (o0 : graph_Graph) : Option Bool :=
 (idx o0.grecords x1).bind fun v2=>
 (idx v2 x2).bind fun v4=>
 (graph_Graph_edges_a x1 x2 o0).bind fun v6=>
 (forM' (E:=Bool) 9223372036854775807 (List.length v6 : Int) (fun k7 s=>graph_Graph_ordered_a_L2 o0 v4 v6 k7) ()).bind fun
  | .next s=>graph_Graph_ordered_a_K1
  | .done r=>some r
theorem graph_Graph_ordered_a_c {x1 : Int} {x2 : Int} {o0 : graph_Graph} {r : Bool} (hM : graph_Graph_ordered_a x1 x2 o0 = some r) : ACall Tryz.prog 21 ⟨[.ref 100000 0,.int .i64 x1,.int .i64 x2],[(100000,some (.blk 55 [.row 100001,.row 100002])),(100001,some (.row 57 1 (List.map (encSl 29 RRec.dv) o0.grecords))),(100002,some (.mp (mpL api_Message.cs (encSlN 1 (DV.int .i64)) o0.garrivals)))],.bool r,[(100000,some (.blk 55 [.row 100001,.row 100002])),(100001,some (.row 57 1 (List.map (encSl 29 RRec.dv) o0.grecords))),(100002,some (.mp (mpL api_Message.cs (encSlN 1 (DV.int .i64)) o0.garrivals)))],[]⟩ := by
 unfold graph_Graph_ordered_a at hM
 refine ACall.body Tryz.func21 Tryz.ntmps21 rfl rfl rfl rfl ?_
 refine a_seq (ar (.cons (o_assign rfl)<|.nil _) ?_)
 refine a_seq ?_
 obtain ⟨v2,h1,hM⟩ := of_bind hM
 obtain ⟨v4,h3,hM⟩ := of_bind hM
 refine ar (.cons (o_move rfl)<|.cons (o_nilCheck rfl)<|.cons (o_fieldAddr rfl)<|.cons (o_load_s rfl rfl rfl)<|.cons (o_move rfl)<|.cons (t_index_r h1 rfl rfl rfl)<|.cons (t_load_ps h1 rfl rfl rfl rfl)<|.cons (o_move rfl)<|.cons (t_index h3 rfl rfl rfl)<|.cons (o_load_er rfl rfl rfl)<|.cons (o_alloc rfl)<|.cons (o_store rfl rfl rfl rfl rfl rfl rfl)<|.nil _) ?_
 refine a_cut (α:=Unit) (fun s=>⟨[],[(100000,some (.blk 55 [.row 100001,.row 100002])),(100001,some (.row 57 1 (List.map (encSl 29 RRec.dv) o0.grecords))),(100002,some (.mp (mpL api_Message.cs (encSlN 1 (DV.int .i64)) o0.garrivals)))],[100000,100001,100002]⟩) (fun s=>graph_Graph_ordered_a_K1 = some r) ?_ ?_
 ·refine a_seq ?_
  obtain ⟨v6,h5,hM⟩ := of_bind hM
  refine ar (.cons (o_move rfl)<|.cons (o_move rfl)<|.cons (o_move rfl)<|.cons (o_callN (fun i=>bif Nat.beq i 100000 then 100000 else bif Nat.beq i 100001 then 100001 else bif Nat.beq i 100002 then 100002 else i) 0 (graph_Graph_edges_a_c h5) rfl (DLeL.refl _) (.cons rfl (.cons rfl (.cons rfl .nil))) rfl (.cons rfl (.cons rfl (.cons rfl .nil))))<|.cons (t_len rfl)<|.cons (o_move rfl)<|.nil _) ?_
  obtain ⟨t8,hL8,hK8⟩ := of_bind hM
  refine a_block ?_
  refine a_for (fun k7 (s : Unit)=>⟨[(0,.ref 100000 0),(7,.ref 7 0),(25,.sl 2 (List.map graph_Node.dv v6)),(26,.int .i64 (List.length v6 : Int)),(27,.int .i64 (k7 : Int))],[(7,some (.blk 64 (RRec.cs v4))),(100000,some (.blk 55 [.row 100001,.row 100002])),(100001,some (.row 57 1 (List.map (encSl 29 RRec.dv) o0.grecords))),(100002,some (.mp (mpL api_Message.cs (encSlN 1 (DV.int .i64)) o0.garrivals)))],[7,100000,100001,100002]⟩) _ hL8 (Imp.sh (fun i=>i) rfl rfl rfl rfl rfl rfl) ?_ ?_
  ·rintro k7 _ t9 hk7 hx7 hM hE8
   replace hM : graph_Graph_ordered_a_L2 o0 v4 v6 k7 = some t9:=hM
   unfold graph_Graph_ordered_a_L2 at hM
   refine a_seq (ar (.cons (o_int rfl rfl rfl)<|.nil _) ?_)
   refine a_seq ?_
   refine a_cond _ rfl (fun _=>?_) (fun c=>absurd hk7 (of_decide_eq_false c))
   refine a_skip (a_seq (a_block (a_seq ?_)))
   obtain ⟨v12,h11,hM⟩ := of_bind hM
   refine ar (.cons (t_index h11 rfl rfl rfl)<|.cons (o_load_er rfl rfl rfl)<|.cons (o_alloc rfl)<|.cons (o_store rfl rfl rfl rfl rfl rfl rfl)<|.nil _) ?_
   refine a_seq ?_
   obtain ⟨v14,h13,hM⟩ := of_bind hM
   refine ar (.cons (o_move rfl)<|.cons (o_load_r rfl rfl rfl rfl)<|.cons (o_callN (fun i=>bif Nat.beq i 100000 then 100000 else bif Nat.beq i 100001 then 100001 else bif Nat.beq i 100002 then 100002 else i) 0 (graph_Graph_find_a_c h13) rfl (DLeL.refl _) (.cons rfl (.cons rfl (.cons rfl .nil))) rfl (.cons rfl (.cons rfl (.cons rfl .nil))))<|.cons (o_move rfl)<|.cons (o_extract rfl rfl)<|.cons (o_extract rfl rfl)<|.cons (o_alloc rfl)<|.cons (o_store rfl rfl rfl rfl rfl rfl rfl)<|.cons (o_assign rfl)<|.nil _) ?_
   refine a_seq ?_
   obtain ⟨v16,h15,hM⟩ := of_bind hM
   refine ar (.cons (o_fieldAddr rfl)<|.cons (o_load_r rfl rfl rfl rfl)<|.cons (o_fieldAddr rfl)<|.cons (o_load_r rfl rfl rfl rfl)<|.cons (o_call (vclock_Compare_c h15) rfl (DLeL.refl _) rfl)<|.cons (o_int rfl rfl rfl)<|.nil _) ?_
   refine a_cond _ rfl (fun h17=>?_) (fun h17=>?_)
   ·replace hM:=(of_if hM).1 h17
    refine a_seq (ar (.cons (o_assign rfl)<|.nil _) ?_)
    obtain rfl:=Option.some.inj hM
    obtain rfl:=hE8 _ rfl
    obtain rfl:=Option.some.inj hK8
    refine a_imp (σ' := ⟨[(6,.bool false)],[(100000,some (.blk 55 [.row 100001,.row 100002])),(100001,some (.row 57 1 (List.map (encSl 29 RRec.dv) o0.grecords))),(100002,some (.mp (mpL api_Message.cs (encSlN 1 (DV.int .i64)) o0.garrivals)))],[100000,100001,100002]⟩) (Imp.sh (fun i=>i) rfl rfl rfl rfl rfl rfl) ?_
    exact a_ret (a_post (.r1 (.tmp rfl)) (DLe.refl _) (PostOk.spec (.cons rfl (.cons rfl (.cons rfl .nil)))))
   ·replace hM:=(of_if hM).2 h17
    refine a_skip (ar (.cons (o_add rfl rfl (inR_i64 hk7 hx7))<|.cons (o_move rfl)<|.nil _) ?_)
    obtain rfl:=Option.some.inj hM
    exact ⟨(),rfl,(Imp.of (fun i=>i) (.cons rfl (DLe.refl _) (.cons rfl (DLe.refl _) (.cons rfl (DLe.refl _) (.cons rfl (DLe.refl _) (.cons rfl (DLe.succ _ _) .nil))))) (.cons rfl (.refl _) (.cons rfl (.refl _) (.cons rfl (.refl _) (.cons rfl (.refl _) .nil)))) rfl rfl rfl)⟩
  ·rintro k7 _ hk7 hx7 rfl
   refine a_seq (ar (.cons (o_int rfl rfl rfl)<|.nil _) ?_)
   refine a_seq ?_
   refine a_cond _ rfl (fun c=>absurd (of_decide_eq_true c) (Int.not_lt.2 hk7)) (fun _=>?_)
   refine a_exit ?_
   exact ⟨(),hK8,(Imp.sh (fun i=>i) rfl rfl rfl rfl rfl rfl)⟩
 ·rintro _ hM
  replace hM : graph_Graph_ordered_a_K1 = some r:=hM
  unfold graph_Graph_ordered_a_K1 at hM
  refine a_seq (ar (.cons (o_assign rfl)<|.nil _) ?_)
  obtain rfl:=Option.some.inj hM
  refine a_imp (σ' := ⟨[(6,.bool true)],[(100000,some (.blk 55 [.row 100001,.row 100002])),(100001,some (.row 57 1 (List.map (encSl 29 RRec.dv) o0.grecords))),(100002,some (.mp (mpL api_Message.cs (encSlN 1 (DV.int .i64)) o0.garrivals)))],[100000,100001,100002]⟩) (Imp.sh (fun i=>i) rfl rfl rfl rfl rfl rfl) ?_
  exact a_ret (a_post (.r1 (.tmp rfl)) (DLe.refl _) (PostOk.spec (.cons rfl (.cons rfl (.cons rfl .nil)))))
def graph_Of_v1_K2 (a2 : List (List RRec)) (a3 : List (api_Message × (List Int))) : Option ((graph_Graph) ⊕ (Unit)) :=
 some (.inl (graph_Graph.mk a2 a3))
def graph_Of_v1_K4 : Option (Ctl Unit ((graph_Graph) ⊕ (Unit))) :=
 some (.next ())
def graph_Of_v1_L5 (a2 : List (List RRec)) (a3 : List (api_Message × (List Int))) (k4 : Nat) (v9 : List RRec) (k10 : Nat) : Option (Ctl Unit ((graph_Graph) ⊕ (Unit))) :=
 (idx v9 (k10 : Int)).bind fun v15=>
 (VClk_Get v15.gClock (k4 : Int)).bind fun v17=>
 (gb (!(v17 != (IntKind.wrap .u64 (v15.gSeq + 1)))) (false) (graph_Graph_ordered_a (k4 : Int) (k10 : Int) (graph_Graph.mk a2 a3))).bind fun v19=>
 if ((v17 != (IntKind.wrap .u64 (v15.gSeq + 1))) || (!v19)) = true then
  some (.done (.inr ()))
 else
  some (.next ())
def graph_Of_v1_L3 (a2 : List (List RRec)) (a3 : List (api_Message × (List Int))) (k4 : Nat) : Option (Ctl Unit ((graph_Graph) ⊕ (Unit))) :=
 (idx a2 (k4 : Int)).bind fun v9=>
 (forM' (E:=(graph_Graph) ⊕ (Unit)) 9223372036854775807 (List.length v9 : Int) (fun k10 s=>graph_Of_v1_L5 a2 a3 k4 v9 k10) ()).bind fun
  | .next s=>graph_Of_v1_K4
  | .done r=>some (.done r)
def graph_Of_v1_K1 (a2 : List (List RRec)) (a3 : List (api_Message × (List Int))) : Option ((graph_Graph) ⊕ (Unit)) :=
 (forM' (E:=(graph_Graph) ⊕ (Unit)) 9223372036854775807 (List.length a2 : Int) (fun k4 s=>graph_Of_v1_L3 a2 a3 k4) ()).bind fun
  | .next s=>graph_Of_v1_K2 a2 a3
  | .done r=>some r
def graph_Of_v1_K7 (a29 : List (List RRec)) (a30 : List (api_Message × (List Int))) : Option ((List (List RRec)) × (List (api_Message × (List Int)))) :=
 some (a29,a30)
def graph_Of_v1_L8 (v32 : (List RRec)) (k34 : Nat) (a35 : List (api_Message × (List Int))) : Option (List (api_Message × (List Int))) :=
 (idx v32 (k34 : Int)).bind fun v40=>
 (graph_message v40.gEvent).bind fun v42=>
 if v42.2 = true then
  chk (mget api_Message.cs a35 v42.1 [] = [])<|
  chk (apOk 8 (List.length [(k34 : Int)]))<|
  chk (((0 : Int)≤((midx api_Message.cs a35 v42.1 : Nat) : Int)∧Int.toNat ((midx api_Message.cs a35 v42.1 : Nat) : Int) < List.length (ment api_Message.cs a35 v42.1 []))∧0 < List.length [(k34 : Int)])<|
  some (mset (ment api_Message.cs a35 v42.1 []) (Int.toNat ((midx api_Message.cs a35 v42.1 : Nat) : Int)) [(k34 : Int)])
 else
  some a35
def graph_Of_v1_L6 (o0 : CColl) (k23 : Nat) (a24 : List (List RRec)) (a25 : List (api_Message × (List Int))) : Option ((List (List RRec)) × (List (api_Message × (List Int)))) :=
 (CColl_Records_a (k23 : Int) (CColl.mk o0.gparts)).bind fun v32=>
 chk (apOk 24 (List.length a24 + List.length [v32]))<|
 (foldM' 9223372036854775807 (List.length v32 : Int) (fun k34 s=>graph_Of_v1_L8 v32 k34 s) a25).bind fun s=>graph_Of_v1_K7 (a24++[v32]) s
def graph_Of_v1 (o0 : CColl) : Option ((graph_Graph) ⊕ (Unit)) :=
 (CColl_Components_a (CColl.mk o0.gparts)).bind fun v22=>
 (foldM' 9223372036854775807 (IntKind.wrap .i64 (v22 + 1)) (fun k23 s=>graph_Of_v1_L6 o0 k23 s.1 s.2) (([] : List (List RRec)),([] : List (api_Message × (List Int))))).bind fun s=>graph_Of_v1_K1 s.1 s.2
theorem graph_Of_v1_c0 {o0 : CColl} {r : graph_Graph} (hM : graph_Of_v1 o0 = some (.inl r)) : ACall Tryz.prog 5 ⟨[.ref 100000 0],[(100000,some (.blk 90 [.row 100001])),(100001,some (.row 101 4 (List.map CPart.dv o0.gparts)))],.tup [.ref 50000 0,.int .i64 0],[(50000,some (.blk 55 [.row 50001,.row 50002])),(50001,some (.row 57 1 (List.map (encSl 29 RRec.dv) r.grecords))),(50002,some (.mp (mpL api_Message.cs (encSlN 1 (DV.int .i64)) r.garrivals))),(100000,some (.blk 90 [.row 100001])),(100001,some (.row 101 4 (List.map CPart.dv o0.gparts)))],[50000,50001,50002]⟩ := by
 unfold graph_Of_v1 at hM
 refine ACall.body Tryz.func5 Tryz.ntmps5 rfl rfl rfl rfl ?_
 refine a_seq (ar (.cons (o_assign rfl)<|.cons (o_assign rfl)<|.nil _) ?_)
 refine a_seq (a_seq (ar (.cons (o_move rfl)<|.cons (o_ptr_eq rfl)<|.nil _) ?_))
 refine a_cond _ rfl (fun c=>by cases c) (fun _=>?_)
 refine a_skip (a_seq (ar (.cons (t_makeMap api_Message.cs (encSlN 1 (DV.int .i64)))<|.cons (o_build rfl rfl rfl)<|.cons (o_box rfl rfl)<|.cons (o_assign rfl)<|.nil _) ?_))
 refine a_cut (α:=(List (List RRec)) × (List (api_Message × (List Int)))) (fun s=>⟨[(4,.ref 19 0)],[(19,some (.blk 55 [.row 10001,.row 10002])),(10001,some (.row 57 1 (List.map (encSl 29 RRec.dv) s.1))),(10002,some (.mp (mpL api_Message.cs (encSlN 1 (DV.int .i64)) s.2))),(100000,some (.blk 90 [.row 100001])),(100001,some (.row 101 4 (List.map CPart.dv o0.gparts)))],[19,10001,10002,100000,100001]⟩) (fun s=>graph_Of_v1_K1 s.1 s.2 = some (.inl r)) ?_ ?_
 ·refine a_seq ?_
  obtain ⟨v22,h21,hM⟩ := of_bind hM
  refine ar (.cons (o_move rfl)<|.cons (o_callN (fun i=>bif Nat.beq i 100000 then 100000 else bif Nat.beq i 100001 then 100001 else i) 0 (CColl_Components_a_c h21) rfl (DLeL.refl _) (.cons rfl (.cons rfl .nil)) rfl (.cons rfl (.cons rfl .nil)))<|.cons (o_int rfl rfl rfl)<|.cons (o_move rfl)<|.nil _) ?_
  obtain ⟨⟨a24,a25⟩,hL26,hK26⟩ := of_bind hM
  refine a_block ?_
  refine a_fold (fun k23 (s : (List (List RRec)) × (List (api_Message × (List Int))))=>⟨[(0,.ref 100000 0),(4,.ref 19 0),(22,.int .i64 (IntKind.wrap .i64 (v22 + 1))),(23,.int .i64 (k23 : Int))],[(19,some (.blk 55 [.row 10012,.row 10011])),(10011,some (.mp (mpL api_Message.cs (encSlN 1 (DV.int .i64)) s.2))),(10012,some (.row 57 1 (List.map (encSl 29 RRec.dv) s.1))),(100000,some (.blk 90 [.row 100001])),(100001,some (.row 101 4 (List.map CPart.dv o0.gparts)))],[19,10011,10012,100000,100001]⟩) _ hL26 ((Imp.nilC (id:=19) (rid:=10017) (j:=0) 57 1 rfl rfl rfl rfl).trans (Imp.sh (fun i=>bif Nat.beq i 10012 then 10017 else bif Nat.beq i 10011 then 17 else i) rfl rfl rfl rfl rfl rfl)) ?_ ?_
  ·rintro k23 ⟨a24,a25⟩ t27 hk23 hx23 hM
   replace hM : graph_Of_v1_L6 o0 k23 a24 a25 = some t27:=hM
   unfold graph_Of_v1_L6 at hM
   refine a_seq (ar (.cons (o_int rfl rfl rfl)<|.nil _) ?_)
   refine a_seq ?_
   refine a_cond _ rfl (fun _=>?_) (fun c=>absurd hk23 (of_decide_eq_false c))
   refine a_skip ?_
   refine a_cut (α:=(List (List RRec)) × (List (api_Message × (List Int)))) (fun s=>⟨[(0,.ref 100000 0),(4,.ref 19 0),(22,.int .i64 (IntKind.wrap .i64 (v22 + 1))),(23,.int .i64 (k23 : Int))],[(19,some (.blk 55 [.row 10013,.row 10014])),(10013,some (.row 57 1 (List.map (encSl 29 RRec.dv) s.1))),(10014,some (.mp (mpL api_Message.cs (encSlN 1 (DV.int .i64)) s.2))),(100000,some (.blk 90 [.row 100001])),(100001,some (.row 101 4 (List.map CPart.dv o0.gparts)))],[19,10013,10014,100000,100001]⟩) (fun s=>graph_Of_v1_K7 s.1 s.2 = some t27) ?_ ?_
   ·refine a_block (a_seq (ar (.cons (o_move rfl)<|.cons (o_assign rfl)<|.nil _) ?_))
    refine a_seq ?_
    obtain ⟨v32,h31,hM⟩ := of_bind hM
    refine ar (.cons (o_move rfl)<|.cons (o_move rfl)<|.cons (o_callN (fun i=>bif Nat.beq i 100000 then 100000 else bif Nat.beq i 100001 then 100001 else i) 0 (CColl_Records_a_c h31) rfl (DLeL.refl _) (.cons rfl (.cons rfl .nil)) rfl (.cons rfl (.cons rfl .nil)))<|.cons (o_assign rfl)<|.nil _) ?_
    refine a_seq ?_
    obtain ⟨h33,hM⟩ := of_chk hM
    refine ar (.cons (o_move rfl)<|.cons (o_move rfl)<|.cons (o_nilCheck rfl)<|.cons (o_fieldAddr rfl)<|.cons (o_load_s rfl rfl rfl)<|.cons (o_move rfl)<|.cons (t_build (encSl 29 RRec.dv) ([v32] : List (List RRec)) rfl rfl rfl rfl rfl rfl rfl)<|.cons (t_append [v32] h33 rfl rfl rfl (Src.row rfl))<|.cons (o_nilCheck rfl)<|.cons (o_fieldAddr rfl)<|.cons (o_store_s rfl rfl rfl rfl rfl)<|.nil _) ?_
    refine a_seq (ar (.cons (o_move rfl)<|.cons (t_len rfl)<|.cons (o_move rfl)<|.nil _) ?_)
    obtain ⟨a35,hL36,hK36⟩ := of_bind hM
    refine a_block ?_
    refine a_fold (fun k34 (s : (List (api_Message × (List Int))))=>⟨[(0,.ref 100000 0),(4,.ref 19 0),(22,.int .i64 (IntKind.wrap .i64 (v22 + 1))),(23,.int .i64 (k23 : Int)),(39,.sl 29 (List.map RRec.dv v32)),(40,.int .i64 (List.length v32 : Int)),(41,.int .i64 (k34 : Int))],[(19,some (.blk 55 [.row 10015,.row 10016])),(10015,some (.row 57 1 (List.map (encSl 29 RRec.dv) (a24++[v32])))),(10016,some (.mp (mpL api_Message.cs (encSlN 1 (DV.int .i64)) s))),(100000,some (.blk 90 [.row 100001])),(100001,some (.row 101 4 (List.map CPart.dv o0.gparts)))],[19,10015,10016,100000,100001]⟩) _ hL36 (Imp.sh (fun i=>bif Nat.beq i 10016 then 10011 else bif Nat.beq i 10015 then 36 else i) rfl rfl rfl rfl rfl rfl) ?_ ?_
    ·rintro k34 a35 t37 hk34 hx34 hM
     replace hM : graph_Of_v1_L8 v32 k34 a35 = some t37:=hM
     unfold graph_Of_v1_L8 at hM
     refine a_seq (ar (.cons (o_int rfl rfl rfl)<|.nil _) ?_)
     refine a_seq ?_
     refine a_cond _ rfl (fun _=>?_) (fun c=>absurd hk34 (of_decide_eq_false c))
     refine a_skip (a_seq (a_block (a_seq ?_)))
     obtain ⟨v40,h39,hM⟩ := of_bind hM
     refine ar (.cons (o_move rfl)<|.cons (t_index h39 rfl rfl rfl)<|.cons (o_load_er rfl rfl rfl)<|.cons (o_alloc rfl)<|.cons (o_assign rfl)<|.cons (o_store rfl rfl rfl rfl rfl rfl rfl)<|.nil _) ?_
     refine a_seq ?_
     obtain ⟨v42,h41,hM⟩ := of_bind hM
     refine ar (.cons (o_fieldAddr rfl)<|.cons (o_load_r rfl rfl rfl rfl)<|.cons (o_call (graph_message_c h41) rfl (DLeL.refl _) rfl)<|.cons (o_move rfl)<|.cons (o_extract rfl rfl)<|.cons (o_extract rfl rfl)<|.cons (o_alloc rfl)<|.cons (o_store rfl rfl rfl rfl rfl rfl rfl)<|.cons (o_assign rfl)<|.nil _) ?_
     refine a_seq (ar (.cons (o_move rfl)<|.nil _) ?_)
     refine a_cond _ rfl (fun h43=>?_) (fun h43=>?_)
     ·replace hM:=(of_if hM).1 h43
      obtain ⟨h44,hM⟩ := of_chk hM
      obtain ⟨h45,hM⟩ := of_chk hM
      obtain ⟨h46,hM⟩ := of_chk hM
      refine ad mixed (.cons (o_move rfl)<|.cons (o_nilCheck rfl)<|.cons (o_fieldAddr rfl)<|.cons (o_load_s rfl rfl rfl)<|.cons (o_load_r rfl rfl rfl rfl)<|.cons (o_move rfl)<|.cons (t_build (DV.int .i64) ([(k34 : Int)] : List Int) rfl rfl rfl rfl rfl rfl rfl)<|.cons (t_mapEntry_n (q:=v42.1) h44 (fun _=>rfl) rfl rfl rfl rfl rfl)<|.cons (o_extract rfl rfl)<|.cons (o_frz (t_append_n (DV.int .i64) [(k34 : Int)] h45 rfl rfl (Src.row rfl)))<|.cons (o_extract rfl rfl)<|.cons (t_entryStore_n (ys:=[(k34 : Int)]) h46 rfl rfl rfl rfl rfl)<|.nil _) ?_
      refine ar (.cons (o_add rfl rfl (inR_i64 hk34 hx34))<|.cons (o_move rfl)<|.nil _) ?_
      obtain rfl:=Option.some.inj hM
      exact (Imp.of (fun i=>i) (.cons rfl (DLe.refl _) (.cons rfl (DLe.refl _) (.cons rfl (DLe.refl _) (.cons rfl (DLe.refl _) (.cons rfl (DLe.refl _) (.cons rfl (DLe.refl _) (.cons rfl (DLe.succ _ _) .nil))))))) (.cons rfl (.refl _) (.cons rfl (.refl _) (.cons rfl (.refl _) (.cons rfl (.refl _) (.cons rfl (.refl _) .nil))))) rfl rfl rfl)
     ·replace hM:=(of_if hM).2 h43
      refine a_skip (ar (.cons (o_add rfl rfl (inR_i64 hk34 hx34))<|.cons (o_move rfl)<|.nil _) ?_)
      obtain rfl:=Option.some.inj hM
      exact (Imp.of (fun i=>i) (.cons rfl (DLe.refl _) (.cons rfl (DLe.refl _) (.cons rfl (DLe.refl _) (.cons rfl (DLe.refl _) (.cons rfl (DLe.refl _) (.cons rfl (DLe.refl _) (.cons rfl (DLe.succ _ _) .nil))))))) (.cons rfl (.refl _) (.cons rfl (.refl _) (.cons rfl (.refl _) (.cons rfl (.refl _) (.cons rfl (.refl _) .nil))))) rfl rfl rfl)
    ·rintro k34 hk34 hx34
     refine a_seq (ar (.cons (o_int rfl rfl rfl)<|.nil _) ?_)
     refine a_seq ?_
     refine a_cond _ rfl (fun c=>absurd (of_decide_eq_true c) (Int.not_lt.2 hk34)) (fun _=>?_)
     refine a_exit ?_
     exact ⟨((a24++[v32]),a35),hK36,(Imp.sh (fun i=>bif Nat.beq i 10014 then 10016 else bif Nat.beq i 10013 then 10015 else i) rfl rfl rfl rfl rfl rfl)⟩
   ·rintro ⟨a29,a30⟩ hM
    replace hM : graph_Of_v1_K7 a29 a30 = some t27:=hM
    unfold graph_Of_v1_K7 at hM
    refine ar (.cons (o_add rfl rfl (inR_i64 hk23 hx23))<|.cons (o_move rfl)<|.nil _) ?_
    obtain rfl:=Option.some.inj hM
    exact (Imp.of (fun i=>bif Nat.beq i 10012 then 10013 else bif Nat.beq i 10011 then 10014 else i) (.cons rfl (DLe.refl _) (.cons rfl (DLe.refl _) (.cons rfl (DLe.refl _) (.cons rfl (DLe.succ _ _) .nil)))) (.cons rfl (.refl _) (.cons rfl (.refl _) (.cons rfl (.refl _) (.cons rfl (.refl _) (.cons rfl (.refl _) .nil))))) rfl rfl rfl)
  ·rintro k23 hk23 hx23
   refine a_seq (ar (.cons (o_int rfl rfl rfl)<|.nil _) ?_)
   refine a_seq ?_
   refine a_cond _ rfl (fun c=>absurd (of_decide_eq_true c) (Int.not_lt.2 hk23)) (fun _=>?_)
   refine a_exit ?_
   exact ⟨(a24,a25),hK26,(Imp.sh (fun i=>bif Nat.beq i 10002 then 10011 else bif Nat.beq i 10001 then 10012 else i) rfl rfl rfl rfl rfl rfl)⟩
 ·rintro ⟨a2,a3⟩ hM
  replace hM : graph_Of_v1_K1 a2 a3 = some (.inl r):=hM
  unfold graph_Of_v1_K1 at hM
  refine a_cut (α:=Unit) (fun s=>⟨[(4,.ref 19 0)],[(19,some (.blk 55 [.row 10003,.row 10004])),(10003,some (.row 57 1 (List.map (encSl 29 RRec.dv) a2))),(10004,some (.mp (mpL api_Message.cs (encSlN 1 (DV.int .i64)) a3))),(100000,some (.blk 90 [.row 100001])),(100001,some (.row 101 4 (List.map CPart.dv o0.gparts)))],[19,10003,10004,100000,100001]⟩) (fun s=>graph_Of_v1_K2 a2 a3 = some (.inl r)) ?_ ?_
  ·refine a_seq (ar (.cons (o_move rfl)<|.cons (o_nilCheck rfl)<|.cons (o_fieldAddr rfl)<|.cons (o_load_s rfl rfl rfl)<|.cons (t_len_r rfl rfl)<|.cons (o_move rfl)<|.nil _) ?_)
   obtain ⟨t5,hL5,hK5⟩ := of_bind hM
   refine a_block ?_
   refine a_for (fun k4 (s : Unit)=>⟨[(4,.ref 19 0),(69,.row 10005),(70,.int .i64 (List.length a2 : Int)),(71,.int .i64 (k4 : Int))],[(19,some (.blk 55 [.row 10005,.row 10006])),(10005,some (.row 57 1 (List.map (encSl 29 RRec.dv) a2))),(10006,some (.mp (mpL api_Message.cs (encSlN 1 (DV.int .i64)) a3))),(100000,some (.blk 90 [.row 100001])),(100001,some (.row 101 4 (List.map CPart.dv o0.gparts)))],[19,10005,10006,100000,100001]⟩) _ hL5 (Imp.sh (fun i=>bif Nat.beq i 10006 then 10002 else bif Nat.beq i 10005 then 10001 else i) rfl rfl rfl rfl rfl rfl) ?_ ?_
   ·rintro k4 _ t6 hk4 hx4 hM hE5
    replace hM : graph_Of_v1_L3 a2 a3 k4 = some t6:=hM
    unfold graph_Of_v1_L3 at hM
    refine a_seq (ar (.cons (o_int rfl rfl rfl)<|.nil _) ?_)
    refine a_seq ?_
    refine a_cond _ rfl (fun _=>?_) (fun c=>absurd hk4 (of_decide_eq_false c))
    refine a_skip ?_
    refine a_cut (α:=Unit) (fun s=>⟨[(4,.ref 19 0),(69,.row 10007),(70,.int .i64 (List.length a2 : Int)),(71,.int .i64 (k4 : Int))],[(19,some (.blk 55 [.row 10007,.row 10008])),(10007,some (.row 57 1 (List.map (encSl 29 RRec.dv) a2))),(10008,some (.mp (mpL api_Message.cs (encSlN 1 (DV.int .i64)) a3))),(100000,some (.blk 90 [.row 100001])),(100001,some (.row 101 4 (List.map CPart.dv o0.gparts)))],[19,10007,10008,100000,100001]⟩) (fun s=>graph_Of_v1_K4 = some t6) ?_ ?_
    ·refine a_block (a_seq ?_)
     obtain ⟨v9,h8,hM⟩ := of_bind hM
     refine ar (.cons (o_move rfl)<|.cons (t_index_r h8 rfl rfl rfl)<|.cons (t_load_ps h8 rfl rfl rfl rfl)<|.cons (o_assign rfl)<|.cons (o_assign rfl)<|.nil _) ?_
     refine a_seq (ar (.cons (o_move rfl)<|.cons (t_len rfl)<|.cons (o_move rfl)<|.nil _) ?_)
     obtain ⟨t11,hL11,hK11⟩ := of_bind hM
     refine a_block ?_
     refine a_for (fun k10 (s : Unit)=>⟨[(4,.ref 19 0),(11,.int .i64 (k4 : Int)),(69,.row 10009),(70,.int .i64 (List.length a2 : Int)),(71,.int .i64 (k4 : Int)),(76,.sl 29 (List.map RRec.dv v9)),(77,.int .i64 (List.length v9 : Int)),(78,.int .i64 (k10 : Int))],[(19,some (.blk 55 [.row 10009,.row 10010])),(10009,some (.row 57 1 (List.map (encSl 29 RRec.dv) a2))),(10010,some (.mp (mpL api_Message.cs (encSlN 1 (DV.int .i64)) a3))),(100000,some (.blk 90 [.row 100001])),(100001,some (.row 101 4 (List.map CPart.dv o0.gparts)))],[19,10009,10010,100000,100001]⟩) _ hL11 (Imp.sh (fun i=>bif Nat.beq i 10010 then 10006 else bif Nat.beq i 10009 then 10005 else i) rfl rfl rfl rfl rfl rfl) ?_ ?_
     ·rintro k10 _ t12 hk10 hx10 hM hE11
      replace hM : graph_Of_v1_L5 a2 a3 k4 v9 k10 = some t12:=hM
      unfold graph_Of_v1_L5 at hM
      refine a_seq (ar (.cons (o_int rfl rfl rfl)<|.nil _) ?_)
      refine a_seq ?_
      refine a_cond _ rfl (fun _=>?_) (fun c=>absurd hk10 (of_decide_eq_false c))
      refine a_skip (a_seq (a_block (a_seq ?_)))
      obtain ⟨v15,h14,hM⟩ := of_bind hM
      refine ar (.cons (o_move rfl)<|.cons (t_index h14 rfl rfl rfl)<|.cons (o_load_er rfl rfl rfl)<|.cons (o_alloc rfl)<|.cons (o_assign rfl)<|.cons (o_store rfl rfl rfl rfl rfl rfl rfl)<|.nil _) ?_
      refine a_seq ?_
      obtain ⟨v17,h16,hM⟩ := of_bind hM
      obtain ⟨v19,h18,hM⟩ := of_bind hM
      refine ad mixed (.cons (o_fieldAddr rfl)<|.cons (o_load_r rfl rfl rfl rfl)<|.cons (o_move rfl)<|.cons (o_call (VClk_Get_c h16) rfl (DLeL.refl _) rfl)<|.cons (o_fieldAddr rfl)<|.cons (o_load_s rfl rfl rfl)<|.cons (o_int rfl rfl rfl)<|.cons (o_int rfl rfl rfl)<|.cons (o_move rfl)<|.cons (o_guardG .bF rfl rfl (fun hb=>(.keep .nil)) (fun hb=>o_move rfl))<|.cons (o_guardG .bF rfl rfl (fun hb=>(.keep .nil)) (fun hb=>o_move rfl))<|.cons (o_guardG .bF rfl rfl (fun hb=>(.keep .nil)) (fun hb=>o_move rfl))<|.cons (o_guardG .bF rfl rfl (fun hb=>(.strip rfl hb (.strip rfl hb (.strip rfl hb .nil)))) (fun hb=>o_callN (fun i=>bif Nat.beq i 100000 then 19 else bif Nat.beq i 100001 then 10009 else bif Nat.beq i 100002 then 10010 else i) 0 (graph_Graph_ordered_a_c (of_gb h18 hb)) rfl (DLeL.refl _) (.cons rfl (.cons rfl (.cons rfl .nil))) rfl (.cons rfl (.cons rfl (.cons rfl .nil)))))<|.cons (o_guardG .bF rfl rfl (fun hb=>(.strip rfl hb .nil)) (fun hb=>o_not rfl))<|.cons (o_or rfl rfl)<|.nil _) ?_
      refine a_cond _ rfl (fun h20=>?_) (fun h20=>?_)
      ·replace hM:=(of_if hM).1 h20
       refine a_seq (ar (.cons (o_assign rfl)<|.cons (o_assign rfl)<|.nil _) ?_)
       obtain rfl:=Option.some.inj hM
       obtain rfl:=hE11 _ rfl
       obtain rfl:=Option.some.inj hK11
       obtain rfl:=hE5 _ rfl
       cases hK5
      ·replace hM:=(of_if hM).2 h20
       refine a_skip (ar (.cons (o_add rfl rfl (inR_i64 hk10 hx10))<|.cons (o_move rfl)<|.nil _) ?_)
       obtain rfl:=Option.some.inj hM
       exact ⟨(),rfl,(Imp.of (fun i=>i) (.cons rfl (DLe.refl _) (.cons rfl (DLe.refl _) (.cons rfl (DLe.refl _) (.cons rfl (DLe.refl _) (.cons rfl (DLe.refl _) (.cons rfl (DLe.refl _) (.cons rfl (DLe.refl _) (.cons rfl (DLe.succ _ _) .nil)))))))) (.cons rfl (.refl _) (.cons rfl (.refl _) (.cons rfl (.refl _) (.cons rfl (.refl _) (.cons rfl (.refl _) .nil))))) rfl rfl rfl)⟩
     ·rintro k10 _ hk10 hx10 rfl
      refine a_seq (ar (.cons (o_int rfl rfl rfl)<|.nil _) ?_)
      refine a_seq ?_
      refine a_cond _ rfl (fun c=>absurd (of_decide_eq_true c) (Int.not_lt.2 hk10)) (fun _=>?_)
      refine a_exit ?_
      exact ⟨(),hK11,(Imp.sh (fun i=>bif Nat.beq i 10008 then 10010 else bif Nat.beq i 10007 then 10009 else i) rfl rfl rfl rfl rfl rfl)⟩
    ·rintro _ hM
     replace hM : graph_Of_v1_K4 = some t6:=hM
     unfold graph_Of_v1_K4 at hM
     refine ar (.cons (o_add rfl rfl (inR_i64 hk4 hx4))<|.cons (o_move rfl)<|.nil _) ?_
     obtain rfl:=Option.some.inj hM
     exact ⟨(),rfl,(Imp.of (fun i=>bif Nat.beq i 10006 then 10008 else bif Nat.beq i 10005 then 10007 else i) (.cons rfl (DLe.refl _) (.cons rfl (DLe.refl _) (.cons rfl (DLe.refl _) (.cons rfl (DLe.succ _ _) .nil)))) (.cons rfl (.refl _) (.cons rfl (.refl _) (.cons rfl (.refl _) (.cons rfl (.refl _) (.cons rfl (.refl _) .nil))))) rfl rfl rfl)⟩
   ·rintro k4 _ hk4 hx4 rfl
    refine a_seq (ar (.cons (o_int rfl rfl rfl)<|.nil _) ?_)
    refine a_seq ?_
    refine a_cond _ rfl (fun c=>absurd (of_decide_eq_true c) (Int.not_lt.2 hk4)) (fun _=>?_)
    refine a_exit ?_
    exact ⟨(),hK5,(Imp.sh (fun i=>bif Nat.beq i 10004 then 10006 else bif Nat.beq i 10003 then 10005 else i) rfl rfl rfl rfl rfl rfl)⟩
  ·rintro _ hM
   replace hM : graph_Of_v1_K2 a2 a3 = some (.inl r):=hM
   unfold graph_Of_v1_K2 at hM
   refine a_seq (ar (.cons (o_move rfl)<|.cons (o_assign rfl)<|.cons (o_assign rfl)<|.nil _) ?_)
   obtain rfl:=Sum.inl.inj (Option.some.inj hM)
   refine a_imp (σ' := ⟨[(2,.ref 50000 0),(3,.int .i64 0)],[(50000,some (.blk 55 [.row 50001,.row 50002])),(50001,some (.row 57 1 (List.map (encSl 29 RRec.dv) ((graph_Graph.mk a2 a3).grecords)))),(50002,some (.mp (mpL api_Message.cs (encSlN 1 (DV.int .i64)) ((graph_Graph.mk a2 a3).garrivals)))),(100000,some (.blk 90 [.row 100001])),(100001,some (.row 101 4 (List.map CPart.dv o0.gparts)))],[50000,50001,50002,100000,100001]⟩) (Imp.sh (fun i=>bif Nat.beq i 50002 then 10004 else bif Nat.beq i 50001 then 10003 else bif Nat.beq i 50000 then 19 else i) rfl rfl rfl rfl rfl rfl) ?_
   exact a_ret (a_post (.r2 (.tmp rfl) (.tmp rfl)) (DLe.refl _) (PostOk.spec (.cons rfl (.cons rfl (.cons rfl (.cons rfl (.cons rfl .nil)))))))
theorem graph_Of_v1_c1 {o0 : CColl} {r : Unit} (hM : graph_Of_v1 o0 = some (.inr r)) : ACall Tryz.prog 5 ⟨[.ref 100000 0],[(100000,some (.blk 90 [.row 100001])),(100001,some (.row 101 4 (List.map CPart.dv o0.gparts)))],.tup [.val (.pointer none),.int .i64 14],[(100000,some (.blk 90 [.row 100001])),(100001,some (.row 101 4 (List.map CPart.dv o0.gparts)))],[]⟩ := by
 unfold graph_Of_v1 at hM
 refine ACall.body Tryz.func5 Tryz.ntmps5 rfl rfl rfl rfl ?_
 refine a_seq (ar (.cons (o_assign rfl)<|.cons (o_assign rfl)<|.nil _) ?_)
 refine a_seq (a_seq (ar (.cons (o_move rfl)<|.cons (o_ptr_eq rfl)<|.nil _) ?_))
 refine a_cond _ rfl (fun c=>by cases c) (fun _=>?_)
 refine a_skip (a_seq (ar (.cons (t_makeMap api_Message.cs (encSlN 1 (DV.int .i64)))<|.cons (o_build rfl rfl rfl)<|.cons (o_box rfl rfl)<|.cons (o_assign rfl)<|.nil _) ?_))
 refine a_cut (α:=(List (List RRec)) × (List (api_Message × (List Int)))) (fun s=>⟨[(4,.ref 19 0)],[(19,some (.blk 55 [.row 10001,.row 10002])),(10001,some (.row 57 1 (List.map (encSl 29 RRec.dv) s.1))),(10002,some (.mp (mpL api_Message.cs (encSlN 1 (DV.int .i64)) s.2))),(100000,some (.blk 90 [.row 100001])),(100001,some (.row 101 4 (List.map CPart.dv o0.gparts)))],[19,10001,10002,100000,100001]⟩) (fun s=>graph_Of_v1_K1 s.1 s.2 = some (.inr r)) ?_ ?_
 ·refine a_seq ?_
  obtain ⟨v22,h21,hM⟩ := of_bind hM
  refine ar (.cons (o_move rfl)<|.cons (o_callN (fun i=>bif Nat.beq i 100000 then 100000 else bif Nat.beq i 100001 then 100001 else i) 0 (CColl_Components_a_c h21) rfl (DLeL.refl _) (.cons rfl (.cons rfl .nil)) rfl (.cons rfl (.cons rfl .nil)))<|.cons (o_int rfl rfl rfl)<|.cons (o_move rfl)<|.nil _) ?_
  obtain ⟨⟨a24,a25⟩,hL26,hK26⟩ := of_bind hM
  refine a_block ?_
  refine a_fold (fun k23 (s : (List (List RRec)) × (List (api_Message × (List Int))))=>⟨[(0,.ref 100000 0),(4,.ref 19 0),(22,.int .i64 (IntKind.wrap .i64 (v22 + 1))),(23,.int .i64 (k23 : Int))],[(19,some (.blk 55 [.row 10012,.row 10011])),(10011,some (.mp (mpL api_Message.cs (encSlN 1 (DV.int .i64)) s.2))),(10012,some (.row 57 1 (List.map (encSl 29 RRec.dv) s.1))),(100000,some (.blk 90 [.row 100001])),(100001,some (.row 101 4 (List.map CPart.dv o0.gparts)))],[19,10011,10012,100000,100001]⟩) _ hL26 ((Imp.nilC (id:=19) (rid:=10017) (j:=0) 57 1 rfl rfl rfl rfl).trans (Imp.sh (fun i=>bif Nat.beq i 10012 then 10017 else bif Nat.beq i 10011 then 17 else i) rfl rfl rfl rfl rfl rfl)) ?_ ?_
  ·rintro k23 ⟨a24,a25⟩ t27 hk23 hx23 hM
   replace hM : graph_Of_v1_L6 o0 k23 a24 a25 = some t27:=hM
   unfold graph_Of_v1_L6 at hM
   refine a_seq (ar (.cons (o_int rfl rfl rfl)<|.nil _) ?_)
   refine a_seq ?_
   refine a_cond _ rfl (fun _=>?_) (fun c=>absurd hk23 (of_decide_eq_false c))
   refine a_skip ?_
   refine a_cut (α:=(List (List RRec)) × (List (api_Message × (List Int)))) (fun s=>⟨[(0,.ref 100000 0),(4,.ref 19 0),(22,.int .i64 (IntKind.wrap .i64 (v22 + 1))),(23,.int .i64 (k23 : Int))],[(19,some (.blk 55 [.row 10013,.row 10014])),(10013,some (.row 57 1 (List.map (encSl 29 RRec.dv) s.1))),(10014,some (.mp (mpL api_Message.cs (encSlN 1 (DV.int .i64)) s.2))),(100000,some (.blk 90 [.row 100001])),(100001,some (.row 101 4 (List.map CPart.dv o0.gparts)))],[19,10013,10014,100000,100001]⟩) (fun s=>graph_Of_v1_K7 s.1 s.2 = some t27) ?_ ?_
   ·refine a_block (a_seq (ar (.cons (o_move rfl)<|.cons (o_assign rfl)<|.nil _) ?_))
    refine a_seq ?_
    obtain ⟨v32,h31,hM⟩ := of_bind hM
    refine ar (.cons (o_move rfl)<|.cons (o_move rfl)<|.cons (o_callN (fun i=>bif Nat.beq i 100000 then 100000 else bif Nat.beq i 100001 then 100001 else i) 0 (CColl_Records_a_c h31) rfl (DLeL.refl _) (.cons rfl (.cons rfl .nil)) rfl (.cons rfl (.cons rfl .nil)))<|.cons (o_assign rfl)<|.nil _) ?_
    refine a_seq ?_
    obtain ⟨h33,hM⟩ := of_chk hM
    refine ar (.cons (o_move rfl)<|.cons (o_move rfl)<|.cons (o_nilCheck rfl)<|.cons (o_fieldAddr rfl)<|.cons (o_load_s rfl rfl rfl)<|.cons (o_move rfl)<|.cons (t_build (encSl 29 RRec.dv) ([v32] : List (List RRec)) rfl rfl rfl rfl rfl rfl rfl)<|.cons (t_append [v32] h33 rfl rfl rfl (Src.row rfl))<|.cons (o_nilCheck rfl)<|.cons (o_fieldAddr rfl)<|.cons (o_store_s rfl rfl rfl rfl rfl)<|.nil _) ?_
    refine a_seq (ar (.cons (o_move rfl)<|.cons (t_len rfl)<|.cons (o_move rfl)<|.nil _) ?_)
    obtain ⟨a35,hL36,hK36⟩ := of_bind hM
    refine a_block ?_
    refine a_fold (fun k34 (s : (List (api_Message × (List Int))))=>⟨[(0,.ref 100000 0),(4,.ref 19 0),(22,.int .i64 (IntKind.wrap .i64 (v22 + 1))),(23,.int .i64 (k23 : Int)),(39,.sl 29 (List.map RRec.dv v32)),(40,.int .i64 (List.length v32 : Int)),(41,.int .i64 (k34 : Int))],[(19,some (.blk 55 [.row 10015,.row 10016])),(10015,some (.row 57 1 (List.map (encSl 29 RRec.dv) (a24++[v32])))),(10016,some (.mp (mpL api_Message.cs (encSlN 1 (DV.int .i64)) s))),(100000,some (.blk 90 [.row 100001])),(100001,some (.row 101 4 (List.map CPart.dv o0.gparts)))],[19,10015,10016,100000,100001]⟩) _ hL36 (Imp.sh (fun i=>bif Nat.beq i 10016 then 10011 else bif Nat.beq i 10015 then 36 else i) rfl rfl rfl rfl rfl rfl) ?_ ?_
    ·rintro k34 a35 t37 hk34 hx34 hM
     replace hM : graph_Of_v1_L8 v32 k34 a35 = some t37:=hM
     unfold graph_Of_v1_L8 at hM
     refine a_seq (ar (.cons (o_int rfl rfl rfl)<|.nil _) ?_)
     refine a_seq ?_
     refine a_cond _ rfl (fun _=>?_) (fun c=>absurd hk34 (of_decide_eq_false c))
     refine a_skip (a_seq (a_block (a_seq ?_)))
     obtain ⟨v40,h39,hM⟩ := of_bind hM
     refine ar (.cons (o_move rfl)<|.cons (t_index h39 rfl rfl rfl)<|.cons (o_load_er rfl rfl rfl)<|.cons (o_alloc rfl)<|.cons (o_assign rfl)<|.cons (o_store rfl rfl rfl rfl rfl rfl rfl)<|.nil _) ?_
     refine a_seq ?_
     obtain ⟨v42,h41,hM⟩ := of_bind hM
     refine ar (.cons (o_fieldAddr rfl)<|.cons (o_load_r rfl rfl rfl rfl)<|.cons (o_call (graph_message_c h41) rfl (DLeL.refl _) rfl)<|.cons (o_move rfl)<|.cons (o_extract rfl rfl)<|.cons (o_extract rfl rfl)<|.cons (o_alloc rfl)<|.cons (o_store rfl rfl rfl rfl rfl rfl rfl)<|.cons (o_assign rfl)<|.nil _) ?_
     refine a_seq (ar (.cons (o_move rfl)<|.nil _) ?_)
     refine a_cond _ rfl (fun h43=>?_) (fun h43=>?_)
     ·replace hM:=(of_if hM).1 h43
      obtain ⟨h44,hM⟩ := of_chk hM
      obtain ⟨h45,hM⟩ := of_chk hM
      obtain ⟨h46,hM⟩ := of_chk hM
      refine ad mixed (.cons (o_move rfl)<|.cons (o_nilCheck rfl)<|.cons (o_fieldAddr rfl)<|.cons (o_load_s rfl rfl rfl)<|.cons (o_load_r rfl rfl rfl rfl)<|.cons (o_move rfl)<|.cons (t_build (DV.int .i64) ([(k34 : Int)] : List Int) rfl rfl rfl rfl rfl rfl rfl)<|.cons (t_mapEntry_n (q:=v42.1) h44 (fun _=>rfl) rfl rfl rfl rfl rfl)<|.cons (o_extract rfl rfl)<|.cons (o_frz (t_append_n (DV.int .i64) [(k34 : Int)] h45 rfl rfl (Src.row rfl)))<|.cons (o_extract rfl rfl)<|.cons (t_entryStore_n (ys:=[(k34 : Int)]) h46 rfl rfl rfl rfl rfl)<|.nil _) ?_
      refine ar (.cons (o_add rfl rfl (inR_i64 hk34 hx34))<|.cons (o_move rfl)<|.nil _) ?_
      obtain rfl:=Option.some.inj hM
      exact (Imp.of (fun i=>i) (.cons rfl (DLe.refl _) (.cons rfl (DLe.refl _) (.cons rfl (DLe.refl _) (.cons rfl (DLe.refl _) (.cons rfl (DLe.refl _) (.cons rfl (DLe.refl _) (.cons rfl (DLe.succ _ _) .nil))))))) (.cons rfl (.refl _) (.cons rfl (.refl _) (.cons rfl (.refl _) (.cons rfl (.refl _) (.cons rfl (.refl _) .nil))))) rfl rfl rfl)
     ·replace hM:=(of_if hM).2 h43
      refine a_skip (ar (.cons (o_add rfl rfl (inR_i64 hk34 hx34))<|.cons (o_move rfl)<|.nil _) ?_)
      obtain rfl:=Option.some.inj hM
      exact (Imp.of (fun i=>i) (.cons rfl (DLe.refl _) (.cons rfl (DLe.refl _) (.cons rfl (DLe.refl _) (.cons rfl (DLe.refl _) (.cons rfl (DLe.refl _) (.cons rfl (DLe.refl _) (.cons rfl (DLe.succ _ _) .nil))))))) (.cons rfl (.refl _) (.cons rfl (.refl _) (.cons rfl (.refl _) (.cons rfl (.refl _) (.cons rfl (.refl _) .nil))))) rfl rfl rfl)
    ·rintro k34 hk34 hx34
     refine a_seq (ar (.cons (o_int rfl rfl rfl)<|.nil _) ?_)
     refine a_seq ?_
     refine a_cond _ rfl (fun c=>absurd (of_decide_eq_true c) (Int.not_lt.2 hk34)) (fun _=>?_)
     refine a_exit ?_
     exact ⟨((a24++[v32]),a35),hK36,(Imp.sh (fun i=>bif Nat.beq i 10014 then 10016 else bif Nat.beq i 10013 then 10015 else i) rfl rfl rfl rfl rfl rfl)⟩
   ·rintro ⟨a29,a30⟩ hM
    replace hM : graph_Of_v1_K7 a29 a30 = some t27:=hM
    unfold graph_Of_v1_K7 at hM
    refine ar (.cons (o_add rfl rfl (inR_i64 hk23 hx23))<|.cons (o_move rfl)<|.nil _) ?_
    obtain rfl:=Option.some.inj hM
    exact (Imp.of (fun i=>bif Nat.beq i 10012 then 10013 else bif Nat.beq i 10011 then 10014 else i) (.cons rfl (DLe.refl _) (.cons rfl (DLe.refl _) (.cons rfl (DLe.refl _) (.cons rfl (DLe.succ _ _) .nil)))) (.cons rfl (.refl _) (.cons rfl (.refl _) (.cons rfl (.refl _) (.cons rfl (.refl _) (.cons rfl (.refl _) .nil))))) rfl rfl rfl)
  ·rintro k23 hk23 hx23
   refine a_seq (ar (.cons (o_int rfl rfl rfl)<|.nil _) ?_)
   refine a_seq ?_
   refine a_cond _ rfl (fun c=>absurd (of_decide_eq_true c) (Int.not_lt.2 hk23)) (fun _=>?_)
   refine a_exit ?_
   exact ⟨(a24,a25),hK26,(Imp.sh (fun i=>bif Nat.beq i 10002 then 10011 else bif Nat.beq i 10001 then 10012 else i) rfl rfl rfl rfl rfl rfl)⟩
 ·rintro ⟨a2,a3⟩ hM
  replace hM : graph_Of_v1_K1 a2 a3 = some (.inr r):=hM
  unfold graph_Of_v1_K1 at hM
  refine a_cut (α:=Unit) (fun s=>⟨[(4,.ref 19 0)],[(19,some (.blk 55 [.row 10003,.row 10004])),(10003,some (.row 57 1 (List.map (encSl 29 RRec.dv) a2))),(10004,some (.mp (mpL api_Message.cs (encSlN 1 (DV.int .i64)) a3))),(100000,some (.blk 90 [.row 100001])),(100001,some (.row 101 4 (List.map CPart.dv o0.gparts)))],[19,10003,10004,100000,100001]⟩) (fun s=>graph_Of_v1_K2 a2 a3 = some (.inr r)) ?_ ?_
  ·refine a_seq (ar (.cons (o_move rfl)<|.cons (o_nilCheck rfl)<|.cons (o_fieldAddr rfl)<|.cons (o_load_s rfl rfl rfl)<|.cons (t_len_r rfl rfl)<|.cons (o_move rfl)<|.nil _) ?_)
   obtain ⟨t5,hL5,hK5⟩ := of_bind hM
   refine a_block ?_
   refine a_for (fun k4 (s : Unit)=>⟨[(4,.ref 19 0),(69,.row 10005),(70,.int .i64 (List.length a2 : Int)),(71,.int .i64 (k4 : Int))],[(19,some (.blk 55 [.row 10005,.row 10006])),(10005,some (.row 57 1 (List.map (encSl 29 RRec.dv) a2))),(10006,some (.mp (mpL api_Message.cs (encSlN 1 (DV.int .i64)) a3))),(100000,some (.blk 90 [.row 100001])),(100001,some (.row 101 4 (List.map CPart.dv o0.gparts)))],[19,10005,10006,100000,100001]⟩) _ hL5 (Imp.sh (fun i=>bif Nat.beq i 10006 then 10002 else bif Nat.beq i 10005 then 10001 else i) rfl rfl rfl rfl rfl rfl) ?_ ?_
   ·rintro k4 _ t6 hk4 hx4 hM hE5
    replace hM : graph_Of_v1_L3 a2 a3 k4 = some t6:=hM
    unfold graph_Of_v1_L3 at hM
    refine a_seq (ar (.cons (o_int rfl rfl rfl)<|.nil _) ?_)
    refine a_seq ?_
    refine a_cond _ rfl (fun _=>?_) (fun c=>absurd hk4 (of_decide_eq_false c))
    refine a_skip ?_
    refine a_cut (α:=Unit) (fun s=>⟨[(4,.ref 19 0),(69,.row 10007),(70,.int .i64 (List.length a2 : Int)),(71,.int .i64 (k4 : Int))],[(19,some (.blk 55 [.row 10007,.row 10008])),(10007,some (.row 57 1 (List.map (encSl 29 RRec.dv) a2))),(10008,some (.mp (mpL api_Message.cs (encSlN 1 (DV.int .i64)) a3))),(100000,some (.blk 90 [.row 100001])),(100001,some (.row 101 4 (List.map CPart.dv o0.gparts)))],[19,10007,10008,100000,100001]⟩) (fun s=>graph_Of_v1_K4 = some t6) ?_ ?_
    ·refine a_block (a_seq ?_)
     obtain ⟨v9,h8,hM⟩ := of_bind hM
     refine ar (.cons (o_move rfl)<|.cons (t_index_r h8 rfl rfl rfl)<|.cons (t_load_ps h8 rfl rfl rfl rfl)<|.cons (o_assign rfl)<|.cons (o_assign rfl)<|.nil _) ?_
     refine a_seq (ar (.cons (o_move rfl)<|.cons (t_len rfl)<|.cons (o_move rfl)<|.nil _) ?_)
     obtain ⟨t11,hL11,hK11⟩ := of_bind hM
     refine a_block ?_
     refine a_for (fun k10 (s : Unit)=>⟨[(4,.ref 19 0),(11,.int .i64 (k4 : Int)),(69,.row 10009),(70,.int .i64 (List.length a2 : Int)),(71,.int .i64 (k4 : Int)),(76,.sl 29 (List.map RRec.dv v9)),(77,.int .i64 (List.length v9 : Int)),(78,.int .i64 (k10 : Int))],[(19,some (.blk 55 [.row 10009,.row 10010])),(10009,some (.row 57 1 (List.map (encSl 29 RRec.dv) a2))),(10010,some (.mp (mpL api_Message.cs (encSlN 1 (DV.int .i64)) a3))),(100000,some (.blk 90 [.row 100001])),(100001,some (.row 101 4 (List.map CPart.dv o0.gparts)))],[19,10009,10010,100000,100001]⟩) _ hL11 (Imp.sh (fun i=>bif Nat.beq i 10010 then 10006 else bif Nat.beq i 10009 then 10005 else i) rfl rfl rfl rfl rfl rfl) ?_ ?_
     ·rintro k10 _ t12 hk10 hx10 hM hE11
      replace hM : graph_Of_v1_L5 a2 a3 k4 v9 k10 = some t12:=hM
      unfold graph_Of_v1_L5 at hM
      refine a_seq (ar (.cons (o_int rfl rfl rfl)<|.nil _) ?_)
      refine a_seq ?_
      refine a_cond _ rfl (fun _=>?_) (fun c=>absurd hk10 (of_decide_eq_false c))
      refine a_skip (a_seq (a_block (a_seq ?_)))
      obtain ⟨v15,h14,hM⟩ := of_bind hM
      refine ar (.cons (o_move rfl)<|.cons (t_index h14 rfl rfl rfl)<|.cons (o_load_er rfl rfl rfl)<|.cons (o_alloc rfl)<|.cons (o_assign rfl)<|.cons (o_store rfl rfl rfl rfl rfl rfl rfl)<|.nil _) ?_
      refine a_seq ?_
      obtain ⟨v17,h16,hM⟩ := of_bind hM
      obtain ⟨v19,h18,hM⟩ := of_bind hM
      refine ad mixed (.cons (o_fieldAddr rfl)<|.cons (o_load_r rfl rfl rfl rfl)<|.cons (o_move rfl)<|.cons (o_call (VClk_Get_c h16) rfl (DLeL.refl _) rfl)<|.cons (o_fieldAddr rfl)<|.cons (o_load_s rfl rfl rfl)<|.cons (o_int rfl rfl rfl)<|.cons (o_int rfl rfl rfl)<|.cons (o_move rfl)<|.cons (o_guardG .bF rfl rfl (fun hb=>(.keep .nil)) (fun hb=>o_move rfl))<|.cons (o_guardG .bF rfl rfl (fun hb=>(.keep .nil)) (fun hb=>o_move rfl))<|.cons (o_guardG .bF rfl rfl (fun hb=>(.keep .nil)) (fun hb=>o_move rfl))<|.cons (o_guardG .bF rfl rfl (fun hb=>(.strip rfl hb (.strip rfl hb (.strip rfl hb .nil)))) (fun hb=>o_callN (fun i=>bif Nat.beq i 100000 then 19 else bif Nat.beq i 100001 then 10009 else bif Nat.beq i 100002 then 10010 else i) 0 (graph_Graph_ordered_a_c (of_gb h18 hb)) rfl (DLeL.refl _) (.cons rfl (.cons rfl (.cons rfl .nil))) rfl (.cons rfl (.cons rfl (.cons rfl .nil)))))<|.cons (o_guardG .bF rfl rfl (fun hb=>(.strip rfl hb .nil)) (fun hb=>o_not rfl))<|.cons (o_or rfl rfl)<|.nil _) ?_
      refine a_cond _ rfl (fun h20=>?_) (fun h20=>?_)
      ·replace hM:=(of_if hM).1 h20
       refine a_seq (ar (.cons (o_assign rfl)<|.cons (o_assign rfl)<|.nil _) ?_)
       obtain rfl:=Option.some.inj hM
       obtain rfl:=hE11 _ rfl
       obtain rfl:=Option.some.inj hK11
       obtain rfl:=hE5 _ rfl
       obtain rfl:=Sum.inr.inj (Option.some.inj hK5)
       refine a_imp (σ' := ⟨[(2,.val (.pointer none)),(3,.int .i64 14)],[(100000,some (.blk 90 [.row 100001])),(100001,some (.row 101 4 (List.map CPart.dv o0.gparts)))],[100000,100001]⟩) (Imp.sh (fun i=>i) rfl rfl rfl rfl rfl rfl) ?_
       exact a_ret (a_post (.r2 (.tmp rfl) (.tmp rfl)) (DLe.refl _) (PostOk.spec (.cons rfl (.cons rfl .nil))))
      ·replace hM:=(of_if hM).2 h20
       refine a_skip (ar (.cons (o_add rfl rfl (inR_i64 hk10 hx10))<|.cons (o_move rfl)<|.nil _) ?_)
       obtain rfl:=Option.some.inj hM
       exact ⟨(),rfl,(Imp.of (fun i=>i) (.cons rfl (DLe.refl _) (.cons rfl (DLe.refl _) (.cons rfl (DLe.refl _) (.cons rfl (DLe.refl _) (.cons rfl (DLe.refl _) (.cons rfl (DLe.refl _) (.cons rfl (DLe.refl _) (.cons rfl (DLe.succ _ _) .nil)))))))) (.cons rfl (.refl _) (.cons rfl (.refl _) (.cons rfl (.refl _) (.cons rfl (.refl _) (.cons rfl (.refl _) .nil))))) rfl rfl rfl)⟩
     ·rintro k10 _ hk10 hx10 rfl
      refine a_seq (ar (.cons (o_int rfl rfl rfl)<|.nil _) ?_)
      refine a_seq ?_
      refine a_cond _ rfl (fun c=>absurd (of_decide_eq_true c) (Int.not_lt.2 hk10)) (fun _=>?_)
      refine a_exit ?_
      exact ⟨(),hK11,(Imp.sh (fun i=>bif Nat.beq i 10008 then 10010 else bif Nat.beq i 10007 then 10009 else i) rfl rfl rfl rfl rfl rfl)⟩
    ·rintro _ hM
     replace hM : graph_Of_v1_K4 = some t6:=hM
     unfold graph_Of_v1_K4 at hM
     refine ar (.cons (o_add rfl rfl (inR_i64 hk4 hx4))<|.cons (o_move rfl)<|.nil _) ?_
     obtain rfl:=Option.some.inj hM
     exact ⟨(),rfl,(Imp.of (fun i=>bif Nat.beq i 10006 then 10008 else bif Nat.beq i 10005 then 10007 else i) (.cons rfl (DLe.refl _) (.cons rfl (DLe.refl _) (.cons rfl (DLe.refl _) (.cons rfl (DLe.succ _ _) .nil)))) (.cons rfl (.refl _) (.cons rfl (.refl _) (.cons rfl (.refl _) (.cons rfl (.refl _) (.cons rfl (.refl _) .nil))))) rfl rfl rfl)⟩
   ·rintro k4 _ hk4 hx4 rfl
    refine a_seq (ar (.cons (o_int rfl rfl rfl)<|.nil _) ?_)
    refine a_seq ?_
    refine a_cond _ rfl (fun c=>absurd (of_decide_eq_true c) (Int.not_lt.2 hk4)) (fun _=>?_)
    refine a_exit ?_
    exact ⟨(),hK5,(Imp.sh (fun i=>bif Nat.beq i 10004 then 10006 else bif Nat.beq i 10003 then 10005 else i) rfl rfl rfl rfl rfl rfl)⟩
  ·rintro _ hM
   replace hM : graph_Of_v1_K2 a2 a3 = some (.inr r):=hM
   unfold graph_Of_v1_K2 at hM
   refine a_seq (ar (.cons (o_move rfl)<|.cons (o_assign rfl)<|.cons (o_assign rfl)<|.nil _) ?_)
   cases hM
def graph_Graph_Edges_a (x1 : graph_Node) (o0 : graph_Graph) : Option (List graph_Node) :=
 (graph_Graph_place_a x1 o0).bind fun v2=>
 if (!v2.2) = true then
  some ([] : List graph_Node)
 else
  (graph_Graph_edges_a x1.gComponent v2.1 o0).bind fun v5=>
  some v5
theorem graph_Graph_Edges_a_c {x1 : graph_Node} {o0 : graph_Graph} {r : (List graph_Node)} (hM : graph_Graph_Edges_a x1 o0 = some r) : ACall Tryz.prog 10 ⟨[.ref 100000 0,.agg (graph_Node.cs x1)],[(100000,some (.blk 55 [.row 100001,.row 100002])),(100001,some (.row 57 1 (List.map (encSl 29 RRec.dv) o0.grecords))),(100002,some (.mp (mpL api_Message.cs (encSlN 1 (DV.int .i64)) o0.garrivals)))],.sl 2 (List.map graph_Node.dv r),[(100000,some (.blk 55 [.row 100001,.row 100002])),(100001,some (.row 57 1 (List.map (encSl 29 RRec.dv) o0.grecords))),(100002,some (.mp (mpL api_Message.cs (encSlN 1 (DV.int .i64)) o0.garrivals)))],[]⟩ := by
 unfold graph_Graph_Edges_a at hM
 refine ACall.body Tryz.func10 Tryz.ntmps10 rfl rfl rfl rfl ?_
 refine a_seq (ar (.cons (o_box rfl rfl)<|.cons (o_assign rfl)<|.nil _) ?_)
 refine a_seq ?_
 obtain ⟨v2,h1,hM⟩ := of_bind hM
 refine ar (.cons (o_move rfl)<|.cons (o_load_r rfl rfl rfl rfl)<|.cons (o_callN (fun i=>bif Nat.beq i 100000 then 100000 else bif Nat.beq i 100001 then 100001 else bif Nat.beq i 100002 then 100002 else i) 0 (graph_Graph_place_a_c h1) rfl (DLeL.refl _) (.cons rfl (.cons rfl (.cons rfl .nil))) rfl (.cons rfl (.cons rfl (.cons rfl .nil))))<|.cons (o_move rfl)<|.cons (o_extract rfl rfl)<|.cons (o_extract rfl rfl)<|.cons (o_assign rfl)<|.cons (o_assign rfl)<|.nil _) ?_
 refine a_seq (a_seq (ar (.cons (o_move rfl)<|.cons (o_not rfl)<|.nil _) ?_))
 refine a_cond _ rfl (fun h3=>?_) (fun h3=>?_)
 ·replace hM:=(of_if hM).1 h3
  refine a_seq (ar (.cons (o_assign rfl)<|.nil _) ?_)
  obtain rfl:=Option.some.inj hM
  refine a_imp (σ' := ⟨[(4,.nils)],[(100000,some (.blk 55 [.row 100001,.row 100002])),(100001,some (.row 57 1 (List.map (encSl 29 RRec.dv) o0.grecords))),(100002,some (.mp (mpL api_Message.cs (encSlN 1 (DV.int .i64)) o0.garrivals)))],[100000,100001,100002]⟩) (Imp.sh (fun i=>i) rfl rfl rfl rfl rfl rfl) ?_
  exact a_ret (a_post (.r1 (.tmp rfl)) (DLe.nils _) (PostOk.spec (.cons rfl (.cons rfl (.cons rfl .nil)))))
 ·replace hM:=(of_if hM).2 h3
  refine a_skip (a_seq ?_)
  obtain ⟨v5,h4,hM⟩ := of_bind hM
  refine ar (.cons (o_move rfl)<|.cons (o_fieldAddr rfl)<|.cons (o_load_s rfl rfl rfl)<|.cons (o_move rfl)<|.cons (o_callN (fun i=>bif Nat.beq i 100000 then 100000 else bif Nat.beq i 100001 then 100001 else bif Nat.beq i 100002 then 100002 else i) 0 (graph_Graph_edges_a_c h4) rfl (DLeL.refl _) (.cons rfl (.cons rfl (.cons rfl .nil))) rfl (.cons rfl (.cons rfl (.cons rfl .nil))))<|.cons (o_assign rfl)<|.nil _) ?_
  obtain rfl:=Option.some.inj hM
  refine a_imp (σ' := ⟨[(4,.sl 2 (List.map graph_Node.dv v5))],[(100000,some (.blk 55 [.row 100001,.row 100002])),(100001,some (.row 57 1 (List.map (encSl 29 RRec.dv) o0.grecords))),(100002,some (.mp (mpL api_Message.cs (encSlN 1 (DV.int .i64)) o0.garrivals)))],[100000,100001,100002]⟩) (Imp.sh (fun i=>i) rfl rfl rfl rfl rfl rfl) ?_
  exact a_ret (a_post (.r1 (.tmp rfl)) (DLe.refl _) (PostOk.spec (.cons rfl (.cons rfl (.cons rfl .nil)))))
def graph_Graph_Nodes_1 (x0 : VClk) : Option Bool :=
 some true
theorem graph_Graph_Nodes_1_c {x0 : VClk} {r : Bool} (hM : graph_Graph_Nodes_1 x0 = some r) : PCall Tryz.prog 25 [.agg (VClk.cs x0)] (.bool r):=by
 unfold graph_Graph_Nodes_1 at hM
 refine PCall.body Tryz.func25 Tryz.ntmps25 rfl rfl rfl rfl ?_
 refine a_seq (ar (.cons (o_box rfl rfl)<|.cons (o_assign rfl)<|.nil _) ?_)
 refine a_seq (ar (.cons (o_assign rfl)<|.nil _) ?_)
 obtain rfl:=Option.some.inj hM
 exact a_ret (a_post (.r1 (.tmp rfl)) (DLe.refl _) PostOk.nil.spec)
def graph_Graph_filter_a_K1 (a2 : List graph_Node) : Option (List graph_Node) :=
 some a2
def graph_Graph_filter_a_K3 (a8 : List graph_Node) : Option (List graph_Node) :=
 some a8
def graph_Graph_filter_a_L4 (k3 : Nat) (v10 : List RRec) (k11 : Nat) (a12 : List graph_Node) : Option (List graph_Node) :=
 (idx v10 (k11 : Int)).bind fun v17=>
 (graph_Graph_Nodes_1 v17.gClock).bind fun v19=>
 if v19 = true then
  chk (apOk 16 (List.length a12 + List.length [(graph_Node.mk (k3 : Int) v17.gSeq)]))<|
  some (a12++[(graph_Node.mk (k3 : Int) v17.gSeq)])
 else
  some a12
def graph_Graph_filter_a_L2 (o0 : graph_Graph) (k3 : Nat) (a4 : List graph_Node) : Option (List graph_Node) :=
 (idx o0.grecords (k3 : Int)).bind fun v10=>
 (foldM' 9223372036854775807 (List.length v10 : Int) (fun k11 s=>graph_Graph_filter_a_L4 k3 v10 k11 s) a4).bind fun s=>graph_Graph_filter_a_K3 s
def graph_Graph_filter_a (o0 : graph_Graph) : Option (List graph_Node) :=
 (foldM' 9223372036854775807 (List.length o0.grecords : Int) (fun k3 s=>graph_Graph_filter_a_L2 o0 k3 s) ([] : List graph_Node)).bind fun s=>graph_Graph_filter_a_K1 s
theorem graph_Graph_filter_a_c {o0 : graph_Graph} {r : (List graph_Node)} (hM : graph_Graph_filter_a o0 = some r) : ACall Tryz.prog 24 ⟨[.ref 100000 0,.val (.func (.func 25) #[] #[])],[(100000,some (.blk 55 [.row 100001,.row 100002])),(100001,some (.row 57 1 (List.map (encSl 29 RRec.dv) o0.grecords))),(100002,some (.mp (mpL api_Message.cs (encSlN 1 (DV.int .i64)) o0.garrivals)))],.sl 2 (List.map graph_Node.dv r),[(100000,some (.blk 55 [.row 100001,.row 100002])),(100001,some (.row 57 1 (List.map (encSl 29 RRec.dv) o0.grecords))),(100002,some (.mp (mpL api_Message.cs (encSlN 1 (DV.int .i64)) o0.garrivals)))],[]⟩ := by
 unfold graph_Graph_filter_a at hM
 refine ACall.body Tryz.func24 Tryz.ntmps24 rfl rfl rfl rfl ?_
 refine a_seq (ar (.cons (o_assign rfl)<|.nil _) ?_)
 refine a_seq (a_seq (ar (.cons (o_move rfl)<|.cons (o_ptr_eq rfl)<|.nil _) ?_))
 refine a_cond _ rfl (fun c=>by cases c) (fun _=>?_)
 refine a_skip (a_seq (ar (.cons (o_assign rfl)<|.nil _) ?_))
 refine a_cut (α:=(List graph_Node)) (fun s=>⟨[(5,.sl 2 (List.map graph_Node.dv s))],[(100000,some (.blk 55 [.row 100001,.row 100002])),(100001,some (.row 57 1 (List.map (encSl 29 RRec.dv) o0.grecords))),(100002,some (.mp (mpL api_Message.cs (encSlN 1 (DV.int .i64)) o0.garrivals)))],[100000,100001,100002]⟩) (fun s=>graph_Graph_filter_a_K1 s = some r) ?_ ?_
 ·refine a_seq (ar (.cons (o_move rfl)<|.cons (o_nilCheck rfl)<|.cons (o_fieldAddr rfl)<|.cons (o_load_s rfl rfl rfl)<|.cons (t_len_r rfl rfl)<|.cons (o_move rfl)<|.nil _) ?_)
  obtain ⟨a4,hL5,hK5⟩ := of_bind hM
  refine a_block ?_
  refine a_fold (fun k3 (s : (List graph_Node))=>⟨[(1,.val (.func (.func 25) #[] #[])),(5,.row 10001),(15,.row 100001),(16,.int .i64 (List.length o0.grecords : Int)),(17,.int .i64 (k3 : Int))],[(10001,some (.row 24 2 (List.map graph_Node.dv s))),(100000,some (.blk 55 [.row 100001,.row 100002])),(100001,some (.row 57 1 (List.map (encSl 29 RRec.dv) o0.grecords))),(100002,some (.mp (mpL api_Message.cs (encSlN 1 (DV.int .i64)) o0.garrivals)))],[10001,100000,100001,100002]⟩) _ hL5 ((Imp.nilRow (t:=5) (id:=10004) 24 2 rfl rfl).trans (Imp.sh (fun i=>bif Nat.beq i 10001 then 10004 else i) rfl rfl rfl rfl rfl rfl)) ?_ ?_
  ·rintro k3 a4 t6 hk3 hx3 hM
   replace hM : graph_Graph_filter_a_L2 o0 k3 a4 = some t6:=hM
   unfold graph_Graph_filter_a_L2 at hM
   refine a_seq (ar (.cons (o_int rfl rfl rfl)<|.nil _) ?_)
   refine a_seq ?_
   refine a_cond _ rfl (fun _=>?_) (fun c=>absurd hk3 (of_decide_eq_false c))
   refine a_skip ?_
   refine a_cut (α:=(List graph_Node)) (fun s=>⟨[(1,.val (.func (.func 25) #[] #[])),(5,.row 10002),(15,.row 100001),(16,.int .i64 (List.length o0.grecords : Int)),(17,.int .i64 (k3 : Int))],[(10002,some (.row 24 2 (List.map graph_Node.dv s))),(100000,some (.blk 55 [.row 100001,.row 100002])),(100001,some (.row 57 1 (List.map (encSl 29 RRec.dv) o0.grecords))),(100002,some (.mp (mpL api_Message.cs (encSlN 1 (DV.int .i64)) o0.garrivals)))],[10002,100000,100001,100002]⟩) (fun s=>graph_Graph_filter_a_K3 s = some t6) ?_ ?_
   ·refine a_block (a_seq ?_)
    obtain ⟨v10,h9,hM⟩ := of_bind hM
    refine ar (.cons (o_move rfl)<|.cons (t_index_r h9 rfl rfl rfl)<|.cons (t_load_ps h9 rfl rfl rfl rfl)<|.cons (o_assign rfl)<|.cons (o_assign rfl)<|.nil _) ?_
    refine a_seq (ar (.cons (o_move rfl)<|.cons (t_len rfl)<|.cons (o_move rfl)<|.nil _) ?_)
    obtain ⟨a12,hL13,hK13⟩ := of_bind hM
    refine a_block ?_
    refine a_fold (fun k11 (s : (List graph_Node))=>⟨[(1,.val (.func (.func 25) #[] #[])),(5,.row 10003),(6,.int .i64 (k3 : Int)),(15,.row 100001),(16,.int .i64 (List.length o0.grecords : Int)),(17,.int .i64 (k3 : Int)),(22,.sl 29 (List.map RRec.dv v10)),(23,.int .i64 (List.length v10 : Int)),(24,.int .i64 (k11 : Int))],[(10003,some (.row 24 2 (List.map graph_Node.dv s))),(100000,some (.blk 55 [.row 100001,.row 100002])),(100001,some (.row 57 1 (List.map (encSl 29 RRec.dv) o0.grecords))),(100002,some (.mp (mpL api_Message.cs (encSlN 1 (DV.int .i64)) o0.garrivals)))],[10003,100000,100001,100002]⟩) _ hL13 (Imp.sh (fun i=>bif Nat.beq i 10003 then 10001 else i) rfl rfl rfl rfl rfl rfl) ?_ ?_
    ·rintro k11 a12 t14 hk11 hx11 hM
     replace hM : graph_Graph_filter_a_L4 k3 v10 k11 a12 = some t14:=hM
     unfold graph_Graph_filter_a_L4 at hM
     refine a_seq (ar (.cons (o_int rfl rfl rfl)<|.nil _) ?_)
     refine a_seq ?_
     refine a_cond _ rfl (fun _=>?_) (fun c=>absurd hk11 (of_decide_eq_false c))
     refine a_skip (a_seq (a_block (a_seq ?_)))
     obtain ⟨v17,h16,hM⟩ := of_bind hM
     refine ar (.cons (t_index h16 rfl rfl rfl)<|.cons (o_load_er rfl rfl rfl)<|.cons (o_alloc rfl)<|.cons (o_store rfl rfl rfl rfl rfl rfl rfl)<|.nil _) ?_
     refine a_seq ?_
     obtain ⟨v19,h18,hM⟩ := of_bind hM
     refine ar (.cons (o_move rfl)<|.cons (o_fieldAddr rfl)<|.cons (o_load_r rfl rfl rfl rfl)<|.cons (o_callF (graph_Graph_Nodes_1_c h18) rfl rfl (DLeL.refl _) rfl)<|.nil _) ?_
     refine a_cond _ rfl (fun h20=>?_) (fun h20=>?_)
     ·replace hM:=(of_if hM).1 h20
      obtain ⟨h21,hM⟩ := of_chk hM
      refine ar (.cons (o_move rfl)<|.cons (o_move rfl)<|.cons (o_fieldAddr rfl)<|.cons (o_load_s rfl rfl rfl)<|.cons (o_build rfl rfl rfl)<|.cons (t_build graph_Node.dv ([(graph_Node.mk (k3 : Int) v17.gSeq)] : List graph_Node) rfl rfl rfl rfl rfl rfl rfl)<|.cons (t_append [(graph_Node.mk (k3 : Int) v17.gSeq)] h21 rfl rfl rfl (Src.row rfl))<|.cons (o_assign rfl)<|.nil _) ?_
      refine ar (.cons (o_add rfl rfl (inR_i64 hk11 hx11))<|.cons (o_move rfl)<|.nil _) ?_
      obtain rfl:=Option.some.inj hM
      exact (Imp.of (fun i=>bif Nat.beq i 10003 then 38 else i) (.cons rfl (DLe.refl _) (.cons rfl (DLe.refl _) (.cons rfl (DLe.refl _) (.cons rfl (DLe.refl _) (.cons rfl (DLe.refl _) (.cons rfl (DLe.refl _) (.cons rfl (DLe.refl _) (.cons rfl (DLe.refl _) (.cons rfl (DLe.succ _ _) .nil))))))))) (.cons rfl (.refl _) (.cons rfl (.refl _) (.cons rfl (.refl _) (.cons rfl (.refl _) .nil)))) rfl rfl rfl)
     ·replace hM:=(of_if hM).2 h20
      refine a_skip (ar (.cons (o_add rfl rfl (inR_i64 hk11 hx11))<|.cons (o_move rfl)<|.nil _) ?_)
      obtain rfl:=Option.some.inj hM
      exact (Imp.of (fun i=>i) (.cons rfl (DLe.refl _) (.cons rfl (DLe.refl _) (.cons rfl (DLe.refl _) (.cons rfl (DLe.refl _) (.cons rfl (DLe.refl _) (.cons rfl (DLe.refl _) (.cons rfl (DLe.refl _) (.cons rfl (DLe.refl _) (.cons rfl (DLe.succ _ _) .nil))))))))) (.cons rfl (.refl _) (.cons rfl (.refl _) (.cons rfl (.refl _) (.cons rfl (.refl _) .nil)))) rfl rfl rfl)
    ·rintro k11 hk11 hx11
     refine a_seq (ar (.cons (o_int rfl rfl rfl)<|.nil _) ?_)
     refine a_seq ?_
     refine a_cond _ rfl (fun c=>absurd (of_decide_eq_true c) (Int.not_lt.2 hk11)) (fun _=>?_)
     refine a_exit ?_
     exact ⟨a12,hK13,(Imp.sh (fun i=>bif Nat.beq i 10002 then 10003 else i) rfl rfl rfl rfl rfl rfl)⟩
   ·rintro a8 hM
    replace hM : graph_Graph_filter_a_K3 a8 = some t6:=hM
    unfold graph_Graph_filter_a_K3 at hM
    refine ar (.cons (o_add rfl rfl (inR_i64 hk3 hx3))<|.cons (o_move rfl)<|.nil _) ?_
    obtain rfl:=Option.some.inj hM
    exact (Imp.of (fun i=>bif Nat.beq i 10001 then 10002 else i) (.cons rfl (DLe.refl _) (.cons rfl (DLe.refl _) (.cons rfl (DLe.refl _) (.cons rfl (DLe.refl _) (.cons rfl (DLe.succ _ _) .nil))))) (.cons rfl (.refl _) (.cons rfl (.refl _) (.cons rfl (.refl _) (.cons rfl (.refl _) .nil)))) rfl rfl rfl)
  ·rintro k3 hk3 hx3
   refine a_seq (ar (.cons (o_int rfl rfl rfl)<|.nil _) ?_)
   refine a_seq ?_
   refine a_cond _ rfl (fun c=>absurd (of_decide_eq_true c) (Int.not_lt.2 hk3)) (fun _=>?_)
   refine a_exit ?_
   exact ⟨a4,hK5,((Imp.freeze (id:=10001) rfl).trans (Imp.sh (fun i=>i) rfl rfl rfl rfl rfl rfl))⟩
 ·rintro a2 hM
  replace hM : graph_Graph_filter_a_K1 a2 = some r:=hM
  unfold graph_Graph_filter_a_K1 at hM
  refine a_seq (ar (.cons (o_move rfl)<|.cons (o_assign rfl)<|.nil _) ?_)
  obtain rfl:=Option.some.inj hM
  refine a_imp (σ' := ⟨[(4,.sl 2 (List.map graph_Node.dv a2))],[(100000,some (.blk 55 [.row 100001,.row 100002])),(100001,some (.row 57 1 (List.map (encSl 29 RRec.dv) o0.grecords))),(100002,some (.mp (mpL api_Message.cs (encSlN 1 (DV.int .i64)) o0.garrivals)))],[100000,100001,100002]⟩) (Imp.sh (fun i=>i) rfl rfl rfl rfl rfl rfl) ?_
  exact a_ret (a_post (.r1 (.tmp rfl)) (DLe.refl _) (PostOk.spec (.cons rfl (.cons rfl (.cons rfl .nil)))))
def graph_Graph_Nodes_a (o0 : graph_Graph) : Option (List graph_Node) :=
 (graph_Graph_filter_a o0).bind fun v2=>
 some v2
theorem graph_Graph_Nodes_a_c {o0 : graph_Graph} {r : (List graph_Node)} (hM : graph_Graph_Nodes_a o0 = some r) : ACall Tryz.prog 7 ⟨[.ref 100000 0],[(100000,some (.blk 55 [.row 100001,.row 100002])),(100001,some (.row 57 1 (List.map (encSl 29 RRec.dv) o0.grecords))),(100002,some (.mp (mpL api_Message.cs (encSlN 1 (DV.int .i64)) o0.garrivals)))],.sl 2 (List.map graph_Node.dv r),[(100000,some (.blk 55 [.row 100001,.row 100002])),(100001,some (.row 57 1 (List.map (encSl 29 RRec.dv) o0.grecords))),(100002,some (.mp (mpL api_Message.cs (encSlN 1 (DV.int .i64)) o0.garrivals)))],[]⟩ := by
 unfold graph_Graph_Nodes_a at hM
 refine ACall.body Tryz.func7 Tryz.ntmps7 rfl rfl rfl rfl ?_
 refine a_seq (ar (.cons (o_assign rfl)<|.nil _) ?_)
 refine a_seq ?_
 obtain ⟨v2,h1,hM⟩ := of_bind hM
 refine ar (.cons (o_move rfl)<|.cons (o_callN (fun i=>bif Nat.beq i 100000 then 100000 else bif Nat.beq i 100001 then 100001 else bif Nat.beq i 100002 then 100002 else i) 0 (graph_Graph_filter_a_c h1) rfl (DLeL.refl _) (.cons rfl (.cons rfl (.cons rfl .nil))) rfl (.cons rfl (.cons rfl (.cons rfl .nil))))<|.cons (o_assign rfl)<|.nil _) ?_
 obtain rfl:=Option.some.inj hM
 refine a_imp (σ' := ⟨[(2,.sl 2 (List.map graph_Node.dv v2))],[(100000,some (.blk 55 [.row 100001,.row 100002])),(100001,some (.row 57 1 (List.map (encSl 29 RRec.dv) o0.grecords))),(100002,some (.mp (mpL api_Message.cs (encSlN 1 (DV.int .i64)) o0.garrivals)))],[100000,100001,100002]⟩) (Imp.sh (fun i=>i) rfl rfl rfl rfl rfl rfl) ?_
 exact a_ret (a_post (.r1 (.tmp rfl)) (DLe.refl _) (PostOk.spec (.cons rfl (.cons rfl (.cons rfl .nil)))))
def graph_Graph_Before_a (x1 : graph_Node) (x2 : graph_Node) (o0 : graph_Graph) : Option Bool :=
 (graph_Graph_find_a x1 o0).bind fun v2=>
 (graph_Graph_find_a x2 o0).bind fun v4=>
 (gb (v2.2 && v4.2) (0) (vclock_Compare v2.1.gClock v4.1.gClock)).bind fun v6=>
 some ((v2.2 && v4.2) && (v6 == 2))
theorem graph_Graph_Before_a_c {x1 : graph_Node} {x2 : graph_Node} {o0 : graph_Graph} {r : Bool} (hM : graph_Graph_Before_a x1 x2 o0 = some r) : ACall Tryz.prog 8 ⟨[.ref 100000 0,.agg (graph_Node.cs x1),.agg (graph_Node.cs x2)],[(100000,some (.blk 55 [.row 100001,.row 100002])),(100001,some (.row 57 1 (List.map (encSl 29 RRec.dv) o0.grecords))),(100002,some (.mp (mpL api_Message.cs (encSlN 1 (DV.int .i64)) o0.garrivals)))],.bool r,[(100000,some (.blk 55 [.row 100001,.row 100002])),(100001,some (.row 57 1 (List.map (encSl 29 RRec.dv) o0.grecords))),(100002,some (.mp (mpL api_Message.cs (encSlN 1 (DV.int .i64)) o0.garrivals)))],[]⟩ := by
 unfold graph_Graph_Before_a at hM
 refine ACall.body Tryz.func8 Tryz.ntmps8 rfl rfl rfl rfl ?_
 refine a_seq (ar (.cons (o_box rfl rfl)<|.cons (o_box rfl rfl)<|.cons (o_assign rfl)<|.nil _) ?_)
 refine a_seq ?_
 obtain ⟨v2,h1,hM⟩ := of_bind hM
 refine ar (.cons (o_move rfl)<|.cons (o_load_r rfl rfl rfl rfl)<|.cons (o_callN (fun i=>bif Nat.beq i 100000 then 100000 else bif Nat.beq i 100001 then 100001 else bif Nat.beq i 100002 then 100002 else i) 0 (graph_Graph_find_a_c h1) rfl (DLeL.refl _) (.cons rfl (.cons rfl (.cons rfl .nil))) rfl (.cons rfl (.cons rfl (.cons rfl .nil))))<|.cons (o_move rfl)<|.cons (o_extract rfl rfl)<|.cons (o_extract rfl rfl)<|.cons (o_alloc rfl)<|.cons (o_store rfl rfl rfl rfl rfl rfl rfl)<|.cons (o_assign rfl)<|.nil _) ?_
 refine a_seq ?_
 obtain ⟨v4,h3,hM⟩ := of_bind hM
 refine ar (.cons (o_move rfl)<|.cons (o_load_r rfl rfl rfl rfl)<|.cons (o_callN (fun i=>bif Nat.beq i 100000 then 100000 else bif Nat.beq i 100001 then 100001 else bif Nat.beq i 100002 then 100002 else i) 0 (graph_Graph_find_a_c h3) rfl (DLeL.refl _) (.cons rfl (.cons rfl (.cons rfl .nil))) rfl (.cons rfl (.cons rfl (.cons rfl .nil))))<|.cons (o_move rfl)<|.cons (o_extract rfl rfl)<|.cons (o_extract rfl rfl)<|.cons (o_alloc rfl)<|.cons (o_store rfl rfl rfl rfl rfl rfl rfl)<|.cons (o_assign rfl)<|.nil _) ?_
 refine a_seq ?_
 obtain ⟨v6,h5,hM⟩ := of_bind hM
 refine ar (.cons (o_move rfl)<|.cons (o_move rfl)<|.cons (o_guardG .bT rfl rfl (fun hb=>(.keep .nil)) (fun hb=>o_move rfl))<|.cons (o_and rfl rfl)<|.cons (o_move rfl)<|.cons (o_guardG .bT rfl rfl (fun hb=>(.keep .nil)) (fun hb=>o_fieldAddr rfl))<|.cons (o_guardG .bT rfl rfl (fun hb=>(.strip rfl hb .nil)) (fun hb=>o_load_r rfl rfl rfl rfl))<|.cons (o_guardG .bT rfl rfl (fun hb=>(.keep .nil)) (fun hb=>o_fieldAddr rfl))<|.cons (o_guardG .bT rfl rfl (fun hb=>(.strip rfl hb .nil)) (fun hb=>o_load_r rfl rfl rfl rfl))<|.cons (o_guardG .bT rfl rfl (fun hb=>(.strip rfl hb (.strip rfl hb .nil))) (fun hb=>o_call (vclock_Compare_c (of_gb h5 hb)) rfl (DLeL.refl _) rfl))<|.cons (o_guardG .bT rfl rfl (fun hb=>(.strip rfl hb .nil)) (fun hb=>o_int rfl rfl rfl))<|.cons (o_and rfl rfl)<|.cons (o_assign rfl)<|.nil _) ?_
 obtain rfl:=Option.some.inj hM
 refine a_imp (σ' := ⟨[(6,.bool ((v2.2 && v4.2) && (v6 == 2)))],[(100000,some (.blk 55 [.row 100001,.row 100002])),(100001,some (.row 57 1 (List.map (encSl 29 RRec.dv) o0.grecords))),(100002,some (.mp (mpL api_Message.cs (encSlN 1 (DV.int .i64)) o0.garrivals)))],[100000,100001,100002]⟩) (Imp.sh (fun i=>i) rfl rfl rfl rfl rfl rfl) ?_
 exact a_ret (a_post (.r1 (.tmp rfl)) (DLe.refl _) (PostOk.spec (.cons rfl (.cons rfl (.cons rfl .nil)))))
def rootcauselaw31_awake_K1 (a4 : List CPart) : Option Bool :=
 (graph_Of_v1 (CColl.mk a4)).bind fun v6=>
 match v6 with
 | .inl v6_0=>
  (graph_Graph_Edges_a (graph_Node.mk 0 0) v6_0).bind fun v9=>
  (gb ((List.length v9 : Int) == 1) (graph_Node.mk 0 0) (idx v9 0)).bind fun v11=>
  (gb (((List.length v9 : Int) == 1) && ((v11.gComponent == 1) && ((v11.gSeq == 0) && true))) (([] : List graph_Node)) (graph_Graph_Nodes_a v6_0)).bind fun v13=>
  (gb ((((List.length v9 : Int) == 1) && ((v11.gComponent == 1) && ((v11.gSeq == 0) && true))) && ((List.length v13 : Int) == 2)) (false) (graph_Graph_Before_a (graph_Node.mk 0 0) (graph_Node.mk 1 0) v6_0)).bind fun v15=>
  (gb (((((List.length v9 : Int) == 1) && ((v11.gComponent == 1) && ((v11.gSeq == 0) && true))) && ((List.length v13 : Int) == 2)) && v15) (false) (graph_Graph_Before_a (graph_Node.mk 1 0) (graph_Node.mk 0 0) v6_0)).bind fun v17=>
  (gb ((((((List.length v9 : Int) == 1) && ((v11.gComponent == 1) && ((v11.gSeq == 0) && true))) && ((List.length v13 : Int) == 2)) && v15) && (!v17)) (([] : List graph_Node)) (graph_Graph_Edges_a (graph_Node.mk 1 0) v6_0)).bind fun v19=>
  some (((((((List.length v9 : Int) == 1) && ((v11.gComponent == 1) && ((v11.gSeq == 0) && true))) && ((List.length v13 : Int) == 2)) && v15) && (!v17)) && ((List.length v19 : Int) == 0))
 | .inr v6_1=>
  some false
def rootcauselaw31_awake_L2 (k20 : Nat) (a21 : List CPart) : Option (Ctl (List CPart) Bool) :=
 (recorder_Write [(AEv.mk 0 0 8 1 0 0 0 0 []),(AEv.mk 1 1 5 0 0 0 0 0 [])] 2 (k20 : Int) (recorder_Config.mk 0 0)).bind fun v26=>
 if (!(v26.2 != 0)) = true then
  (CColl_Add_a (k20 : Int) v26.1 (CColl.mk a21)).bind fun v28=>
  if ((v26.2 != 0) || (v28.1 != 0)) = true then
   some (.done false)
  else
   some (.next v28.2.gparts)
 else
  if ((v26.2 != 0) || false) = true then
   some (.done false)
  else
   some (.next a21)
def rootcauselaw31_awake : Option Bool :=
 (collect_New 2).bind fun v2=>
 match v2 with
 | .inl v2_0=>
  (forM' (E:=Bool) 9223372036854775807 3 (fun k20 s=>rootcauselaw31_awake_L2 k20 s) v2_0.gparts).bind fun
   | .next s=>rootcauselaw31_awake_K1 s
   | .done r=>some r
 | .inr v2_1=>
  none
theorem rootcauselaw31_awake_c {r : Bool} (hM : rootcauselaw31_awake = some r) : PCall Tryz.prog 4 [] (.bool r):=by
 unfold rootcauselaw31_awake at hM
 refine PCall.body Tryz.func4 Tryz.ntmps4 rfl rfl rfl rfl ?_
 refine a_seq (ar (.cons (o_assign rfl)<|.nil _) ?_)
 refine a_seq ?_
 obtain ⟨v2,h1,hM⟩ := of_bind hM
 rcases v2 with v2_0 | v2_1
 ·refine ar (.cons (o_callN (fun i=>bif Nat.beq i 50001 then 10002 else bif Nat.beq i 50000 then 10001 else i) 2 (collect_New_c0 h1) rfl (DLeL.refl _) .nil rfl .nil)<|.cons (o_move rfl)<|.cons (o_extract rfl rfl)<|.cons (o_extract rfl rfl)<|.cons (o_assign rfl)<|.cons (o_assign rfl)<|.nil _) ?_
  refine a_seq (a_seq (ar (.cons (o_move rfl)<|.cons (o_int rfl rfl rfl)<|.nil _) ?_))
  refine a_cond _ rfl (fun c=>by cases c) (fun _=>?_)
  refine a_skip (a_seq (ar (.cons (o_build rfl rfl rfl)<|.cons (o_build rfl rfl rfl)<|.cons (t_buildW AEv.dv ([(AEv.mk 0 0 8 1 0 0 0 0 []),(AEv.mk 1 1 5 0 0 0 0 0 [])] : List AEv) rfl rfl rfl rfl rfl rfl (.cons (DLe.agg (.cons (DLe.refl _) (.cons (DLe.refl _) (.cons (DLe.refl _) (.cons (DLe.refl _) (.cons (DLe.refl _) (.cons (DLe.refl _) (.cons (DLe.refl _) (.cons (DLe.refl _) (.cons (DLe.nils _) .nil)))))))))) (.cons (DLe.agg (.cons (DLe.refl _) (.cons (DLe.refl _) (.cons (DLe.refl _) (.cons (DLe.refl _) (.cons (DLe.refl _) (.cons (DLe.refl _) (.cons (DLe.refl _) (.cons (DLe.refl _) (.cons (DLe.nils _) .nil)))))))))) .nil)))<|.cons (o_assign rfl)<|.nil _) ?_))
  refine a_cut (α:=(List CPart)) (fun s=>⟨[(1,.ref 10001 0)],[(10001,some (.blk 90 [.row 10003])),(10003,some (.row 101 4 (List.map CPart.dv s)))],[10001,10003]⟩) (fun s=>rootcauselaw31_awake_K1 s = some r) ?_ ?_
  ·refine a_seq (ar (.cons (o_move rfl)<|.nil _) ?_)
   obtain ⟨t22,hL22,hK22⟩ := of_bind hM
   refine a_block ?_
   refine a_for (fun k20 (s : (List CPart))=>⟨[(1,.ref 10001 0),(3,.sl 9 (List.map AEv.dv [(AEv.mk 0 0 8 1 0 0 0 0 []),(AEv.mk 1 1 5 0 0 0 0 0 [])])),(20,.int .i64 (k20 : Int))],[(10001,some (.blk 90 [.row 10004])),(10004,some (.row 101 4 (List.map CPart.dv s)))],[10001,10004]⟩) _ hL22 ((Imp.freeze (id:=19) rfl).trans (Imp.sh (fun i=>bif Nat.beq i 10004 then 10002 else i) rfl rfl rfl rfl rfl rfl)) ?_ ?_
   ·rintro k20 a21 t23 hk20 hx20 hM hE22
    replace hM : rootcauselaw31_awake_L2 k20 a21 = some t23:=hM
    unfold rootcauselaw31_awake_L2 at hM
    refine a_seq (ar (.cons (o_int rfl rfl rfl)<|.nil _) ?_)
    refine a_seq ?_
    refine a_cond _ rfl (fun _=>?_) (fun c=>absurd hk20 (of_decide_eq_false c))
    refine a_skip (a_seq (a_block (a_seq (ar (.cons (o_move rfl)<|.cons (o_assign rfl)<|.nil _) ?_))))
    refine a_seq ?_
    obtain ⟨v26,h25,hM⟩ := of_bind hM
    refine ar (.cons (o_move rfl)<|.cons (o_move rfl)<|.cons (o_build rfl rfl rfl)<|.cons (o_call (recorder_Write_c h25) rfl (DLeL.refl _) rfl)<|.cons (o_move rfl)<|.cons (o_extract rfl rfl)<|.cons (o_extract rfl rfl)<|.cons (o_assign rfl)<|.cons (o_assign rfl)<|.nil _) ?_
    refine a_seq ?_
    by_cases hd27 : (!(v26.2 != 0)) = true
    ·replace hM:=(of_if hM).1 hd27
     obtain ⟨v28,h27,hM⟩ := of_bind hM
     refine ar (.cons (o_move rfl)<|.cons (o_int rfl rfl rfl)<|.cons (o_move rfl)<|.cons (o_guardG .bF rfl rfl (fun hb=>(.keep .nil)) (fun hb=>o_move rfl))<|.cons (o_guardG .bF rfl rfl (fun hb=>(.keep .nil)) (fun hb=>o_move rfl))<|.cons (o_guardG .bF rfl rfl (fun hb=>(.keep .nil)) (fun hb=>o_move rfl))<|.cons (o_guardOn .bF rfl rfl hd27 (.strip rfl hd27 (.strip rfl hd27 (.strip rfl hd27 .nil))) (o_callN (fun i=>bif Nat.beq i 50000 then 10005 else bif Nat.beq i 100000 then 10001 else bif Nat.beq i 100001 then 10004 else i) 3 (CColl_Add_a_c h27) rfl (DLeL.refl _) (.cons rfl (.cons rfl .nil)) rfl .nil))<|.cons (o_guardOn .bF rfl rfl hd27 (.strip rfl hd27 .nil) (o_int rfl rfl rfl))<|.cons (o_or rfl rfl)<|.nil _) ?_
     refine a_cond _ rfl (fun h29=>?_) (fun h29=>?_)
     ·replace hM:=(of_if hM).1 h29
      refine a_seq (ar (.cons (o_assign rfl)<|.nil _) ?_)
      obtain rfl:=Option.some.inj hM
      obtain rfl:=hE22 _ rfl
      obtain rfl:=Option.some.inj hK22
      exact a_ret (a_post (.r1 (.tmp rfl)) (DLe.refl _) PostOk.nil.spec)
     ·replace hM:=(of_if hM).2 h29
      refine a_skip (ar (.cons (o_add rfl rfl (inR_i64 hk20 hx20))<|.cons (o_move rfl)<|.nil _) ?_)
      obtain rfl:=Option.some.inj hM
      exact ⟨v28.2.gparts,rfl,(Imp.of (fun i=>bif Nat.beq i 10004 then 10005 else i) (.cons rfl (DLe.refl _) (.cons rfl (DLe.refl _) (.cons rfl (DLe.succ _ _) .nil))) (.cons rfl (.refl _) (.cons rfl (.refl _) .nil)) rfl rfl rfl)⟩
    ·replace hd27:=Bool.eq_false_iff.2 hd27
     replace hM:=(of_if hM).2 hd27
     refine ar (.cons (o_move rfl)<|.cons (o_int rfl rfl rfl)<|.cons (o_move rfl)<|.cons (o_guardG .bF rfl rfl (fun hb=>(.keep .nil)) (fun hb=>o_move rfl))<|.cons (o_guardG .bF rfl rfl (fun hb=>(.keep .nil)) (fun hb=>o_move rfl))<|.cons (o_guardG .bF rfl rfl (fun hb=>(.keep .nil)) (fun hb=>o_move rfl))<|.cons (o_guardOff (.int .i64 0) .bF rfl rfl hd27)<|.cons (o_guardOff (.bool false) .bF rfl rfl hd27)<|.cons (o_or rfl rfl)<|.nil _) ?_
     refine a_cond _ rfl (fun h27=>?_) (fun h27=>?_)
     ·replace hM:=(of_if hM).1 h27
      refine a_seq (ar (.cons (o_assign rfl)<|.nil _) ?_)
      obtain rfl:=Option.some.inj hM
      obtain rfl:=hE22 _ rfl
      obtain rfl:=Option.some.inj hK22
      exact a_ret (a_post (.r1 (.tmp rfl)) (DLe.refl _) PostOk.nil.spec)
     ·replace hM:=(of_if hM).2 h27
      refine a_skip (ar (.cons (o_add rfl rfl (inR_i64 hk20 hx20))<|.cons (o_move rfl)<|.nil _) ?_)
      obtain rfl:=Option.some.inj hM
      exact ⟨a21,rfl,(Imp.of (fun i=>i) (.cons rfl (DLe.refl _) (.cons rfl (DLe.refl _) (.cons rfl (DLe.succ _ _) .nil))) (.cons rfl (.refl _) (.cons rfl (.refl _) .nil)) rfl rfl rfl)⟩
   ·rintro k20 a21 hk20 hx20 rfl
    refine a_seq (ar (.cons (o_int rfl rfl rfl)<|.nil _) ?_)
    refine a_seq ?_
    refine a_cond _ rfl (fun c=>absurd (of_decide_eq_true c) (Int.not_lt.2 hk20)) (fun _=>?_)
    refine a_exit ?_
    exact ⟨a21,hK22,(Imp.sh (fun i=>bif Nat.beq i 10003 then 10004 else i) rfl rfl rfl rfl rfl rfl)⟩
  ·rintro a4 hM
   replace hM : rootcauselaw31_awake_K1 a4 = some r:=hM
   unfold rootcauselaw31_awake_K1 at hM
   refine a_seq ?_
   obtain ⟨v6,h5,hM⟩ := of_bind hM
   rcases v6 with v6_0 | v6_1
   ·refine ar (.cons (o_move rfl)<|.cons (o_callN (fun i=>bif Nat.beq i 50002 then 10006 else bif Nat.beq i 50001 then 10005 else bif Nat.beq i 50000 then 10004 else bif Nat.beq i 100000 then 10001 else bif Nat.beq i 100001 then 10003 else i) 3 (graph_Of_v1_c0 h5) rfl (DLeL.refl _) (.cons rfl (.cons rfl .nil)) rfl (.cons rfl (.cons rfl .nil)))<|.cons (o_move rfl)<|.cons (o_extract rfl rfl)<|.cons (o_extract rfl rfl)<|.cons (o_assign rfl)<|.cons (o_assign rfl)<|.nil _) ?_
    refine a_seq (a_seq (ar (.cons (o_move rfl)<|.cons (o_int rfl rfl rfl)<|.cons (o_move rfl)<|.cons (o_guardOn .bF rfl rfl rfl (.keep .nil) (o_move rfl))<|.cons (o_guardOn .bF rfl rfl rfl (.strip rfl rfl .nil) (o_ptr_eq rfl))<|.cons (o_or rfl rfl)<|.nil _) ?_))
    refine a_cond _ rfl (fun c=>by cases c) (fun _=>?_)
    refine a_skip (a_seq (ar (.cons (o_build rfl rfl rfl)<|.cons (o_build rfl rfl rfl)<|.cons (o_alloc rfl)<|.cons (o_alloc rfl)<|.cons (o_store rfl rfl rfl rfl rfl rfl rfl)<|.cons (o_store rfl rfl rfl rfl rfl rfl rfl)<|.nil _) ?_))
    refine a_seq ?_
    obtain ⟨v9,h8,hM⟩ := of_bind hM
    refine ar (.cons (o_move rfl)<|.cons (o_load_r rfl rfl rfl rfl)<|.cons (o_callN (fun i=>bif Nat.beq i 100000 then 10004 else bif Nat.beq i 100001 then 10005 else bif Nat.beq i 100002 then 10006 else i) 0 (graph_Graph_Edges_a_c h8) rfl (DLeL.refl _) (.cons rfl (.cons rfl (.cons rfl .nil))) rfl (.cons rfl (.cons rfl (.cons rfl .nil))))<|.cons (o_assign rfl)<|.nil _) ?_
    refine a_seq ?_
    obtain ⟨v11,h10,hM⟩ := of_bind hM
    obtain ⟨v13,h12,hM⟩ := of_bind hM
    obtain ⟨v15,h14,hM⟩ := of_bind hM
    obtain ⟨v17,h16,hM⟩ := of_bind hM
    obtain ⟨v19,h18,hM⟩ := of_bind hM
    refine ad mixed (.cons (o_move rfl)<|.cons (t_len rfl)<|.cons (o_int rfl rfl rfl)<|.cons (o_move rfl)<|.cons (o_guardG .bT rfl rfl (fun hb=>(.keep .nil)) (fun hb=>o_move rfl))<|.cons (o_guardG .bT rfl rfl (fun hb=>(.strip rfl hb .nil)) (fun hb=>t_index (of_gb h10 hb) rfl rfl rfl))<|.cons (o_guardG .bT rfl rfl (fun hb=>(.strip rfl hb .nil)) (fun hb=>o_load_er rfl rfl rfl))<|.cons (o_guardG .bT rfl rfl (fun hb=>(.keep .nil)) (fun hb=>o_load_r rfl rfl rfl rfl))<|.cons (o_guardG .bT rfl rfl (fun hb=>(.strip rfl hb (.strip rfl hb .nil))) (fun hb=>o_eqS (b:=((v11.gComponent == 1) && ((v11.gSeq == 0) && true))) rfl rfl rfl rfl rfl))<|.cons (o_and rfl rfl)<|.cons (o_move rfl)<|.cons (o_guardG .bT rfl rfl (fun hb=>(.keep .nil)) (fun hb=>o_move rfl))<|.cons (o_guardG .bT rfl rfl (fun hb=>(.strip rfl hb .nil)) (fun hb=>o_callN (fun i=>bif Nat.beq i 100000 then 10004 else bif Nat.beq i 100001 then 10005 else bif Nat.beq i 100002 then 10006 else i) 0 (graph_Graph_Nodes_a_c (of_gb h12 hb)) rfl (DLeL.refl _) (.cons rfl (.cons rfl (.cons rfl .nil))) rfl (.cons rfl (.cons rfl (.cons rfl .nil)))))<|.cons (o_guardG .bT rfl rfl (fun hb=>(.strip rfl hb .nil)) (fun hb=>t_len rfl))<|.cons (o_guardG .bT rfl rfl (fun hb=>(.strip rfl hb .nil)) (fun hb=>o_int rfl rfl rfl))<|.cons (o_and rfl rfl)<|.cons (o_move rfl)<|.cons (o_guardG .bT rfl rfl (fun hb=>(.keep .nil)) (fun hb=>o_move rfl))<|.cons (o_guardG .bT rfl rfl (fun hb=>(.keep .nil)) (fun hb=>o_load_r rfl rfl rfl rfl))<|.cons (o_guardG .bT rfl rfl (fun hb=>(.keep .nil)) (fun hb=>o_load_r rfl rfl rfl rfl))<|.cons (o_guardG .bT rfl rfl (fun hb=>(.strip rfl hb (.strip rfl hb (.strip rfl hb .nil)))) (fun hb=>o_callN (fun i=>bif Nat.beq i 100000 then 10004 else bif Nat.beq i 100001 then 10005 else bif Nat.beq i 100002 then 10006 else i) 0 (graph_Graph_Before_a_c (of_gb h14 hb)) rfl (DLeL.refl _) (.cons rfl (.cons rfl (.cons rfl .nil))) rfl (.cons rfl (.cons rfl (.cons rfl .nil)))))<|.cons (o_and rfl rfl)<|.cons (o_move rfl)<|.cons (o_guardG .bT rfl rfl (fun hb=>(.keep .nil)) (fun hb=>o_move rfl))<|.cons (o_guardG .bT rfl rfl (fun hb=>(.keep .nil)) (fun hb=>o_load_r rfl rfl rfl rfl))<|.cons (o_guardG .bT rfl rfl (fun hb=>(.keep .nil)) (fun hb=>o_load_r rfl rfl rfl rfl))<|.cons (o_guardG .bT rfl rfl (fun hb=>(.strip rfl hb (.strip rfl hb (.strip rfl hb .nil)))) (fun hb=>o_callN (fun i=>bif Nat.beq i 100000 then 10004 else bif Nat.beq i 100001 then 10005 else bif Nat.beq i 100002 then 10006 else i) 0 (graph_Graph_Before_a_c (of_gb h16 hb)) rfl (DLeL.refl _) (.cons rfl (.cons rfl (.cons rfl .nil))) rfl (.cons rfl (.cons rfl (.cons rfl .nil)))))<|.cons (o_guardG .bT rfl rfl (fun hb=>(.strip rfl hb .nil)) (fun hb=>o_not rfl))<|.cons (o_and rfl rfl)<|.cons (o_move rfl)<|.cons (o_guardG .bT rfl rfl (fun hb=>(.keep .nil)) (fun hb=>o_move rfl))<|.cons (o_guardG .bT rfl rfl (fun hb=>(.keep .nil)) (fun hb=>o_load_r rfl rfl rfl rfl))<|.cons (o_guardG .bT rfl rfl (fun hb=>(.strip rfl hb (.strip rfl hb .nil))) (fun hb=>o_callN (fun i=>bif Nat.beq i 100000 then 10004 else bif Nat.beq i 100001 then 10005 else bif Nat.beq i 100002 then 10006 else i) 0 (graph_Graph_Edges_a_c (of_gb h18 hb)) rfl (DLeL.refl _) (.cons rfl (.cons rfl (.cons rfl .nil))) rfl (.cons rfl (.cons rfl (.cons rfl .nil)))))<|.cons (o_guardG .bT rfl rfl (fun hb=>(.strip rfl hb .nil)) (fun hb=>t_len rfl))<|.cons (o_guardG .bT rfl rfl (fun hb=>(.strip rfl hb .nil)) (fun hb=>o_int rfl rfl rfl))<|.cons (o_and rfl rfl)<|.cons (o_assign rfl)<|.nil _) ?_
    obtain rfl:=Option.some.inj hM
    exact a_ret (a_post (.r1 (.tmp rfl)) (DLe.refl _) PostOk.nil.spec)
   ·refine ar (.cons (o_move rfl)<|.cons (o_callN (fun i=>bif Nat.beq i 100000 then 10001 else bif Nat.beq i 100001 then 10003 else i) 0 (graph_Of_v1_c1 h5) rfl (DLeL.refl _) (.cons rfl (.cons rfl .nil)) rfl (.cons rfl (.cons rfl .nil)))<|.cons (o_move rfl)<|.cons (o_extract rfl rfl)<|.cons (o_extract rfl rfl)<|.cons (o_assign rfl)<|.cons (o_assign rfl)<|.nil _) ?_
    refine a_seq (a_seq (ar (.cons (o_move rfl)<|.cons (o_int rfl rfl rfl)<|.cons (o_move rfl)<|.cons (o_guardOff (.val (.pointer none)) .bF rfl rfl rfl)<|.cons (o_guardOff (.bool false) .bF rfl rfl rfl)<|.cons (o_or rfl rfl)<|.nil _) ?_))
    refine a_cond _ rfl (fun _=>?_) (fun c=>by cases c)
    refine a_seq (ar (.cons (o_assign rfl)<|.nil _) ?_)
    obtain rfl:=Option.some.inj hM
    exact a_ret (a_post (.r1 (.tmp rfl)) (DLe.refl _) PostOk.nil.spec)
 ·cases hM
def graph_Of_v2 : Option Unit :=
 some ()
theorem graph_Of_v2_c {r : Unit} (hM : graph_Of_v2 = some r) : ACall Tryz.prog 5 ⟨[.val (.pointer none)],[],.tup [.val (.pointer none),.int .i64 1],[],[]⟩ := by
 unfold graph_Of_v2 at hM
 refine ACall.body Tryz.func5 Tryz.ntmps5 rfl rfl rfl rfl ?_
 refine a_seq (ar (.cons (o_assign rfl)<|.cons (o_assign rfl)<|.nil _) ?_)
 refine a_seq (a_seq (ar (.cons (o_move rfl)<|.cons (o_nil_eq rfl)<|.nil _) ?_))
 refine a_cond _ rfl (fun _=>?_) (fun c=>by cases c)
 refine a_seq (ar (.cons (o_assign rfl)<|.cons (o_assign rfl)<|.nil _) ?_)
 obtain rfl:=Option.some.inj hM
 refine a_imp (σ' := ⟨[(2,.val (.pointer none)),(3,.int .i64 1)],[],[]⟩) (Imp.sh (fun i=>i) rfl rfl rfl rfl rfl rfl) ?_
 exact a_ret (a_post (.r2 (.tmp rfl) (.tmp rfl)) (DLe.refl _) (PostOk.spec .nil))
def graph_Graph_place_a1 (x1 : graph_Node) : Option (Int × Bool) :=
 some (0,false)
theorem graph_Graph_place_a1_c {x1 : graph_Node} {r : Int × Bool} (hM : graph_Graph_place_a1 x1 = some r) : ACall Tryz.prog 27 ⟨[.val (.pointer none),.agg (graph_Node.cs x1)],[],.tup [.int .i64 r.1,.bool r.2],[],[]⟩ := by
 unfold graph_Graph_place_a1 at hM
 refine ACall.body Tryz.func27 Tryz.ntmps27 rfl rfl rfl rfl ?_
 refine a_seq (ar (.cons (o_box rfl rfl)<|.cons (o_assign rfl)<|.cons (o_assign rfl)<|.nil _) ?_)
 refine a_seq (a_seq (ad mixed (.cons (o_move rfl)<|.cons (o_nil_eq rfl)<|.cons (o_move rfl)<|.cons (o_guardOff (.val (.pointer none)) .bF rfl rfl rfl)<|.cons (o_guardOff (.int .i64 0) .bF rfl rfl rfl)<|.cons (o_guardOff (.bool false) .bF rfl rfl rfl)<|.cons (o_or rfl rfl)<|.cons (o_move rfl)<|.cons (o_guardOff (.val (.pointer none)) .bF rfl rfl rfl)<|.cons (o_guardOff (.int .i64 0) .bF rfl rfl rfl)<|.cons (o_guardOff (.val (.pointer none)) .bF rfl rfl rfl)<|.cons (o_guardOff (.val (.pointer none)) .bF rfl rfl rfl)<|.cons (o_guardOff (.val (.pointer none)) .bF rfl rfl rfl)<|.cons (o_guardOff (.nils) .bF rfl rfl rfl)<|.cons (o_guardOff (.int .i64 0) .bF rfl rfl rfl)<|.cons (o_guardOff (.bool false) .bF rfl rfl rfl)<|.cons (o_or rfl rfl)<|.nil _) ?_))
 refine a_cond _ rfl (fun _=>?_) (fun c=>by cases c)
 refine a_seq (ar (.cons (o_assign rfl)<|.cons (o_assign rfl)<|.nil _) ?_)
 obtain rfl:=Option.some.inj hM
 refine a_imp (σ' := ⟨[(4,.int .i64 0),(5,.bool false)],[],[]⟩) (Imp.sh (fun i=>i) rfl rfl rfl rfl rfl rfl) ?_
 exact a_ret (a_post (.r2 (.tmp rfl) (.tmp rfl)) (DLe.refl _) (PostOk.spec .nil))
def graph_Graph_find_a1 (x1 : graph_Node) : Option (RRec × Bool) :=
 (graph_Graph_place_a1 x1).bind fun v2=>
 if (!v2.2) = true then
  some ((RRec.mk 0 0 (VClk.mk (arr 0 [0,0,0,0,0,0,0,0,0,0,0,0,0,0,0,0])) 0 (AEv.mk 0 0 0 0 0 0 0 0 []) 0),false)
 else
  none
theorem graph_Graph_find_a1_c {x1 : graph_Node} {r : RRec × Bool} (hM : graph_Graph_find_a1 x1 = some r) : ACall Tryz.prog 22 ⟨[.val (.pointer none),.agg (graph_Node.cs x1)],[],.tup [.agg (RRec.cs r.1),.bool r.2],[],[]⟩ := by
 unfold graph_Graph_find_a1 at hM
 refine ACall.body Tryz.func22 Tryz.ntmps22 rfl rfl rfl rfl ?_
 refine a_seq (ar (.cons (o_box rfl rfl)<|.cons (o_alloc rfl)<|.cons (o_assign rfl)<|.nil _) ?_)
 refine a_seq ?_
 obtain ⟨v2,h1,hM⟩ := of_bind hM
 refine ar (.cons (o_move rfl)<|.cons (o_load_r rfl rfl rfl rfl)<|.cons (o_callN (fun i=>i) 0 (graph_Graph_place_a1_c h1) rfl (DLeL.refl _) .nil rfl .nil)<|.cons (o_move rfl)<|.cons (o_extract rfl rfl)<|.cons (o_extract rfl rfl)<|.cons (o_assign rfl)<|.cons (o_assign rfl)<|.nil _) ?_
 refine a_seq (a_seq (ar (.cons (o_move rfl)<|.cons (o_not rfl)<|.nil _) ?_))
 refine a_cond _ rfl (fun h3=>?_) (fun h3=>?_)
 ·replace hM:=(of_if hM).1 h3
  refine a_seq (ar (.cons (o_build rfl rfl rfl)<|.cons (o_store rfl rfl rfl rfl rfl rfl rfl)<|.cons (o_assign rfl)<|.nil _) ?_)
  obtain rfl:=Option.some.inj hM
  refine a_imp (σ' := ⟨[(4,.ref 4 0),(5,.bool false)],[(4,some (.blk 64 [.int .i64 0,.int .u64 0,.int .u64 0,.int .u64 0,.int .u64 0,.int .u64 0,.int .u64 0,.int .u64 0,.int .u64 0,.int .u64 0,.int .u64 0,.int .u64 0,.int .u64 0,.int .u64 0,.int .u64 0,.int .u64 0,.int .u64 0,.int .u64 0,.int .u8 0,.int .i64 0,.int .i64 0,.int .u8 0,.int .i64 0,.int .i64 0,.int .i64 0,.int .i64 0,.int .i64 0,.nils,.int .u64 0]))],[4]⟩) (Imp.sh (fun i=>i) rfl rfl rfl rfl rfl rfl) ?_
  exact a_ret (a_post (.r2 (.cell rfl rfl (.row _ CRow.h (Nat.le_of_ble_eq_true rfl) rfl)) (.tmp rfl)) (DLe.tup (.cons (DLe.agg (.cons (DLe.refl _) (.cons (DLe.refl _) (.cons (DLe.refl _) (.cons (DLe.refl _) (.cons (DLe.refl _) (.cons (DLe.refl _) (.cons (DLe.refl _) (.cons (DLe.refl _) (.cons (DLe.refl _) (.cons (DLe.refl _) (.cons (DLe.refl _) (.cons (DLe.refl _) (.cons (DLe.refl _) (.cons (DLe.refl _) (.cons (DLe.refl _) (.cons (DLe.refl _) (.cons (DLe.refl _) (.cons (DLe.refl _) (.cons (DLe.refl _) (.cons (DLe.refl _) (.cons (DLe.refl _) (.cons (DLe.refl _) (.cons (DLe.refl _) (.cons (DLe.refl _) (.cons (DLe.refl _) (.cons (DLe.refl _) (.cons (DLe.refl _) (.cons (DLe.nils _) (.cons (DLe.refl _) .nil)))))))))))))))))))))))))))))) (.cons (DLe.refl _) .nil))) (PostOk.spec .nil))
 ·replace hM:=(of_if hM).2 h3
  refine a_skip (a_seq ?_)
  cases hM
def graph_clone (x0 : AEv) : Option AEv :=
 (slices_Clone_int64_int64 x0.gArgs).bind fun v2=>
 some (AEv.mk x0.gTick x0.gComponent x0.gKind x0.gPeer x0.gN x0.gCopy x0.gHandler x0.gD v2)
theorem graph_clone_c {x0 : AEv} {r : AEv} (hM : graph_clone x0 = some r) : PCall Tryz.prog 23 [.agg (AEv.cs x0)] (.agg (AEv.cs r)):=by
 unfold graph_clone at hM
 refine PCall.body Tryz.func23 Tryz.ntmps23 rfl rfl rfl rfl ?_
 refine a_seq (ar (.cons (o_box rfl rfl)<|.cons (o_alloc rfl)<|.nil _) ?_)
 refine a_seq ?_
 obtain ⟨v2,h1,hM⟩ := of_bind hM
 refine ar (.cons (o_fieldAddr rfl)<|.cons (o_load_s rfl rfl rfl)<|.cons (o_callN (fun i=>bif Nat.beq i 50000 then 5 else i) 1 (slices_Clone_int64_int64_c h1) rfl (DLeL.refl _) .nil rfl .nil)<|.cons (o_fieldAddr rfl)<|.cons (o_store_s rfl rfl rfl rfl rfl)<|.nil _) ?_
 refine a_seq (ar (.cons (o_load_r rfl rfl rfl rfl)<|.cons (o_store rfl rfl rfl rfl rfl rfl rfl)<|.nil _) ?_)
 obtain rfl:=Option.some.inj hM
 refine a_imp (Imp.freeze (id:=5) rfl) ?_
 exact a_ret (a_post (.r1 (.cell rfl rfl (.row _ CRow.h (Nat.le_of_ble_eq_true rfl) rfl))) (DLe.refl _) PostOk.nil.spec)
def graph_Graph_Event_a (x1 : graph_Node) : Option (AEv × Bool) :=
 (graph_Graph_find_a1 x1).bind fun v2=>
 (graph_clone v2.1.gEvent).bind fun v4=>
 some (v4,v2.2)
theorem graph_Graph_Event_a_c {x1 : graph_Node} {r : AEv × Bool} (hM : graph_Graph_Event_a x1 = some r) : ACall Tryz.prog 6 ⟨[.val (.pointer none),.agg (graph_Node.cs x1)],[],.tup [.agg (AEv.cs r.1),.bool r.2],[],[]⟩ := by
 unfold graph_Graph_Event_a at hM
 refine ACall.body Tryz.func6 Tryz.ntmps6 rfl rfl rfl rfl ?_
 refine a_seq (ar (.cons (o_box rfl rfl)<|.cons (o_alloc rfl)<|.cons (o_assign rfl)<|.nil _) ?_)
 refine a_seq ?_
 obtain ⟨v2,h1,hM⟩ := of_bind hM
 refine ar (.cons (o_move rfl)<|.cons (o_load_r rfl rfl rfl rfl)<|.cons (o_callN (fun i=>i) 0 (graph_Graph_find_a1_c h1) rfl (DLeL.refl _) .nil rfl .nil)<|.cons (o_move rfl)<|.cons (o_extract rfl rfl)<|.cons (o_extract rfl rfl)<|.cons (o_alloc rfl)<|.cons (o_store rfl rfl rfl rfl rfl rfl rfl)<|.cons (o_assign rfl)<|.nil _) ?_
 refine a_seq ?_
 obtain ⟨v4,h3,hM⟩ := of_bind hM
 refine ar (.cons (o_fieldAddr rfl)<|.cons (o_load_r rfl rfl rfl rfl)<|.cons (o_call (graph_clone_c h3) rfl (DLeL.refl _) rfl)<|.cons (o_move rfl)<|.cons (o_store rfl rfl rfl rfl rfl rfl rfl)<|.cons (o_assign rfl)<|.nil _) ?_
 obtain rfl:=Option.some.inj hM
 refine a_imp (σ' := ⟨[(4,.ref 4 0),(5,.bool v2.2)],[(4,some (.blk 33 (AEv.cs v4)))],[4]⟩) (Imp.sh (fun i=>i) rfl rfl rfl rfl rfl rfl) ?_
 exact a_ret (a_post (.r2 (.cell rfl rfl (.row _ CRow.h (Nat.le_of_ble_eq_true rfl) rfl)) (.tmp rfl)) (DLe.refl _) (PostOk.spec .nil))
def graph_Graph_filter_a1 : Option (List graph_Node) :=
 some ([] : List graph_Node)
theorem graph_Graph_filter_a1_c {r : (List graph_Node)} (hM : graph_Graph_filter_a1 = some r) : ACall Tryz.prog 24 ⟨[.val (.pointer none),.val (.func (.func 25) #[] #[])],[],.sl 2 (List.map graph_Node.dv r),[],[]⟩ := by
 unfold graph_Graph_filter_a1 at hM
 refine ACall.body Tryz.func24 Tryz.ntmps24 rfl rfl rfl rfl ?_
 refine a_seq (ar (.cons (o_assign rfl)<|.nil _) ?_)
 refine a_seq (a_seq (ar (.cons (o_move rfl)<|.cons (o_nil_eq rfl)<|.nil _) ?_))
 refine a_cond _ rfl (fun _=>?_) (fun c=>by cases c)
 refine a_seq (ar (.cons (o_assign rfl)<|.nil _) ?_)
 obtain rfl:=Option.some.inj hM
 refine a_imp (σ' := ⟨[(4,.nils)],[],[]⟩) (Imp.sh (fun i=>i) rfl rfl rfl rfl rfl rfl) ?_
 exact a_ret (a_post (.r1 (.tmp rfl)) (DLe.nils _) (PostOk.spec .nil))
def graph_Graph_Nodes_a1 : Option (List graph_Node) :=
 (graph_Graph_filter_a1).bind fun v2=>
 some v2
theorem graph_Graph_Nodes_a1_c {r : (List graph_Node)} (hM : graph_Graph_Nodes_a1 = some r) : ACall Tryz.prog 7 ⟨[.val (.pointer none)],[],.sl 2 (List.map graph_Node.dv r),[],[]⟩ := by
 unfold graph_Graph_Nodes_a1 at hM
 refine ACall.body Tryz.func7 Tryz.ntmps7 rfl rfl rfl rfl ?_
 refine a_seq (ar (.cons (o_assign rfl)<|.nil _) ?_)
 refine a_seq ?_
 obtain ⟨v2,h1,hM⟩ := of_bind hM
 refine ar (.cons (o_move rfl)<|.cons (o_callN (fun i=>i) 0 (graph_Graph_filter_a1_c h1) rfl (DLeL.refl _) .nil rfl .nil)<|.cons (o_assign rfl)<|.nil _) ?_
 obtain rfl:=Option.some.inj hM
 refine a_imp (σ' := ⟨[(2,.sl 2 (List.map graph_Node.dv v2))],[],[]⟩) (Imp.sh (fun i=>i) rfl rfl rfl rfl rfl rfl) ?_
 exact a_ret (a_post (.r1 (.tmp rfl)) (DLe.refl _) (PostOk.spec .nil))
def graph_Graph_Before_a1 (x1 : graph_Node) (x2 : graph_Node) : Option Bool :=
 (graph_Graph_find_a1 x1).bind fun v2=>
 (graph_Graph_find_a1 x2).bind fun v4=>
 (gb (v2.2 && v4.2) (0) (vclock_Compare v2.1.gClock v4.1.gClock)).bind fun v6=>
 some ((v2.2 && v4.2) && (v6 == 2))
theorem graph_Graph_Before_a1_c {x1 : graph_Node} {x2 : graph_Node} {r : Bool} (hM : graph_Graph_Before_a1 x1 x2 = some r) : ACall Tryz.prog 8 ⟨[.val (.pointer none),.agg (graph_Node.cs x1),.agg (graph_Node.cs x2)],[],.bool r,[],[]⟩ := by
 unfold graph_Graph_Before_a1 at hM
 refine ACall.body Tryz.func8 Tryz.ntmps8 rfl rfl rfl rfl ?_
 refine a_seq (ar (.cons (o_box rfl rfl)<|.cons (o_box rfl rfl)<|.cons (o_assign rfl)<|.nil _) ?_)
 refine a_seq ?_
 obtain ⟨v2,h1,hM⟩ := of_bind hM
 refine ar (.cons (o_move rfl)<|.cons (o_load_r rfl rfl rfl rfl)<|.cons (o_callN (fun i=>i) 0 (graph_Graph_find_a1_c h1) rfl (DLeL.refl _) .nil rfl .nil)<|.cons (o_move rfl)<|.cons (o_extract rfl rfl)<|.cons (o_extract rfl rfl)<|.cons (o_alloc rfl)<|.cons (o_store rfl rfl rfl rfl rfl rfl rfl)<|.cons (o_assign rfl)<|.nil _) ?_
 refine a_seq ?_
 obtain ⟨v4,h3,hM⟩ := of_bind hM
 refine ar (.cons (o_move rfl)<|.cons (o_load_r rfl rfl rfl rfl)<|.cons (o_callN (fun i=>i) 0 (graph_Graph_find_a1_c h3) rfl (DLeL.refl _) .nil rfl .nil)<|.cons (o_move rfl)<|.cons (o_extract rfl rfl)<|.cons (o_extract rfl rfl)<|.cons (o_alloc rfl)<|.cons (o_store rfl rfl rfl rfl rfl rfl rfl)<|.cons (o_assign rfl)<|.nil _) ?_
 refine a_seq ?_
 obtain ⟨v6,h5,hM⟩ := of_bind hM
 refine ar (.cons (o_move rfl)<|.cons (o_move rfl)<|.cons (o_guardG .bT rfl rfl (fun hb=>(.keep .nil)) (fun hb=>o_move rfl))<|.cons (o_and rfl rfl)<|.cons (o_move rfl)<|.cons (o_guardG .bT rfl rfl (fun hb=>(.keep .nil)) (fun hb=>o_fieldAddr rfl))<|.cons (o_guardG .bT rfl rfl (fun hb=>(.strip rfl hb .nil)) (fun hb=>o_load_r rfl rfl rfl rfl))<|.cons (o_guardG .bT rfl rfl (fun hb=>(.keep .nil)) (fun hb=>o_fieldAddr rfl))<|.cons (o_guardG .bT rfl rfl (fun hb=>(.strip rfl hb .nil)) (fun hb=>o_load_r rfl rfl rfl rfl))<|.cons (o_guardG .bT rfl rfl (fun hb=>(.strip rfl hb (.strip rfl hb .nil))) (fun hb=>o_call (vclock_Compare_c (of_gb h5 hb)) rfl (DLeL.refl _) rfl))<|.cons (o_guardG .bT rfl rfl (fun hb=>(.strip rfl hb .nil)) (fun hb=>o_int rfl rfl rfl))<|.cons (o_and rfl rfl)<|.cons (o_assign rfl)<|.nil _) ?_
 obtain rfl:=Option.some.inj hM
 refine a_imp (σ' := ⟨[(6,.bool ((v2.2 && v4.2) && (v6 == 2)))],[],[]⟩) (Imp.sh (fun i=>i) rfl rfl rfl rfl rfl rfl) ?_
 exact a_ret (a_post (.r1 (.tmp rfl)) (DLe.refl _) (PostOk.spec .nil))
def graph_Graph_Concurrent_a (x1 : graph_Node) (x2 : graph_Node) : Option Bool :=
 (graph_Graph_find_a1 x1).bind fun v2=>
 (graph_Graph_find_a1 x2).bind fun v4=>
 (gb ((v2.2 && v4.2) && (!((x1.gComponent == x2.gComponent) && ((x1.gSeq == x2.gSeq) && true)))) (false) (graph_Graph_Before_a1 x1 x2)).bind fun v6=>
 (gb (((v2.2 && v4.2) && (!((x1.gComponent == x2.gComponent) && ((x1.gSeq == x2.gSeq) && true)))) && (!v6)) (false) (graph_Graph_Before_a1 x2 x1)).bind fun v8=>
 some ((((v2.2 && v4.2) && (!((x1.gComponent == x2.gComponent) && ((x1.gSeq == x2.gSeq) && true)))) && (!v6)) && (!v8))
theorem graph_Graph_Concurrent_a_c {x1 : graph_Node} {x2 : graph_Node} {r : Bool} (hM : graph_Graph_Concurrent_a x1 x2 = some r) : ACall Tryz.prog 9 ⟨[.val (.pointer none),.agg (graph_Node.cs x1),.agg (graph_Node.cs x2)],[],.bool r,[],[]⟩ := by
 unfold graph_Graph_Concurrent_a at hM
 refine ACall.body Tryz.func9 Tryz.ntmps9 rfl rfl rfl rfl ?_
 refine a_seq (ar (.cons (o_box rfl rfl)<|.cons (o_box rfl rfl)<|.cons (o_assign rfl)<|.nil _) ?_)
 refine a_seq ?_
 obtain ⟨v2,h1,hM⟩ := of_bind hM
 refine ar (.cons (o_move rfl)<|.cons (o_load_r rfl rfl rfl rfl)<|.cons (o_callN (fun i=>i) 0 (graph_Graph_find_a1_c h1) rfl (DLeL.refl _) .nil rfl .nil)<|.cons (o_move rfl)<|.cons (o_extract rfl rfl)<|.cons (o_extract rfl rfl)<|.cons (o_alloc rfl)<|.cons (o_store rfl rfl rfl rfl rfl rfl rfl)<|.cons (o_assign rfl)<|.nil _) ?_
 refine a_seq ?_
 obtain ⟨v4,h3,hM⟩ := of_bind hM
 refine ar (.cons (o_move rfl)<|.cons (o_load_r rfl rfl rfl rfl)<|.cons (o_callN (fun i=>i) 0 (graph_Graph_find_a1_c h3) rfl (DLeL.refl _) .nil rfl .nil)<|.cons (o_move rfl)<|.cons (o_extract rfl rfl)<|.cons (o_extract rfl rfl)<|.cons (o_alloc rfl)<|.cons (o_store rfl rfl rfl rfl rfl rfl rfl)<|.cons (o_assign rfl)<|.nil _) ?_
 refine a_seq ?_
 obtain ⟨v6,h5,hM⟩ := of_bind hM
 obtain ⟨v8,h7,hM⟩ := of_bind hM
 refine ar (.cons (o_move rfl)<|.cons (o_move rfl)<|.cons (o_guardG .bT rfl rfl (fun hb=>(.keep .nil)) (fun hb=>o_move rfl))<|.cons (o_and rfl rfl)<|.cons (o_move rfl)<|.cons (o_guardG .bT rfl rfl (fun hb=>(.keep .nil)) (fun hb=>o_load_r rfl rfl rfl rfl))<|.cons (o_guardG .bT rfl rfl (fun hb=>(.keep .nil)) (fun hb=>o_load_r rfl rfl rfl rfl))<|.cons (o_guardG .bT rfl rfl (fun hb=>(.strip rfl hb (.strip rfl hb .nil))) (fun hb=>o_neS (b:=((x1.gComponent == x2.gComponent) && ((x1.gSeq == x2.gSeq) && true))) rfl rfl rfl rfl rfl))<|.cons (o_and rfl rfl)<|.cons (o_move rfl)<|.cons (o_guardG .bT rfl rfl (fun hb=>(.keep .nil)) (fun hb=>o_move rfl))<|.cons (o_guardG .bT rfl rfl (fun hb=>(.keep .nil)) (fun hb=>o_load_r rfl rfl rfl rfl))<|.cons (o_guardG .bT rfl rfl (fun hb=>(.keep .nil)) (fun hb=>o_load_r rfl rfl rfl rfl))<|.cons (o_guardG .bT rfl rfl (fun hb=>(.strip rfl hb (.strip rfl hb (.strip rfl hb .nil)))) (fun hb=>o_callN (fun i=>i) 0 (graph_Graph_Before_a1_c (of_gb h5 hb)) rfl (DLeL.refl _) .nil rfl .nil))<|.cons (o_guardG .bT rfl rfl (fun hb=>(.strip rfl hb .nil)) (fun hb=>o_not rfl))<|.cons (o_and rfl rfl)<|.cons (o_move rfl)<|.cons (o_guardG .bT rfl rfl (fun hb=>(.keep .nil)) (fun hb=>o_move rfl))<|.cons (o_guardG .bT rfl rfl (fun hb=>(.keep .nil)) (fun hb=>o_load_r rfl rfl rfl rfl))<|.cons (o_guardG .bT rfl rfl (fun hb=>(.keep .nil)) (fun hb=>o_load_r rfl rfl rfl rfl))<|.cons (o_guardG .bT rfl rfl (fun hb=>(.strip rfl hb (.strip rfl hb (.strip rfl hb .nil)))) (fun hb=>o_callN (fun i=>i) 0 (graph_Graph_Before_a1_c (of_gb h7 hb)) rfl (DLeL.refl _) .nil rfl .nil))<|.cons (o_guardG .bT rfl rfl (fun hb=>(.strip rfl hb .nil)) (fun hb=>o_not rfl))<|.cons (o_and rfl rfl)<|.cons (o_assign rfl)<|.nil _) ?_
 obtain rfl:=Option.some.inj hM
 refine a_imp (σ' := ⟨[(6,.bool ((((v2.2 && v4.2) && (!((x1.gComponent == x2.gComponent) && ((x1.gSeq == x2.gSeq) && true)))) && (!v6)) && (!v8)))],[],[]⟩) (Imp.sh (fun i=>i) rfl rfl rfl rfl rfl rfl) ?_
 exact a_ret (a_post (.r1 (.tmp rfl)) (DLe.refl _) (PostOk.spec .nil))
def graph_Graph_Edges_a1 (x1 : graph_Node) : Option (List graph_Node) :=
 (graph_Graph_place_a1 x1).bind fun v2=>
 if (!v2.2) = true then
  some ([] : List graph_Node)
 else
  none
theorem graph_Graph_Edges_a1_c {x1 : graph_Node} {r : (List graph_Node)} (hM : graph_Graph_Edges_a1 x1 = some r) : ACall Tryz.prog 10 ⟨[.val (.pointer none),.agg (graph_Node.cs x1)],[],.sl 2 (List.map graph_Node.dv r),[],[]⟩ := by
 unfold graph_Graph_Edges_a1 at hM
 refine ACall.body Tryz.func10 Tryz.ntmps10 rfl rfl rfl rfl ?_
 refine a_seq (ar (.cons (o_box rfl rfl)<|.cons (o_assign rfl)<|.nil _) ?_)
 refine a_seq ?_
 obtain ⟨v2,h1,hM⟩ := of_bind hM
 refine ar (.cons (o_move rfl)<|.cons (o_load_r rfl rfl rfl rfl)<|.cons (o_callN (fun i=>i) 0 (graph_Graph_place_a1_c h1) rfl (DLeL.refl _) .nil rfl .nil)<|.cons (o_move rfl)<|.cons (o_extract rfl rfl)<|.cons (o_extract rfl rfl)<|.cons (o_assign rfl)<|.cons (o_assign rfl)<|.nil _) ?_
 refine a_seq (a_seq (ar (.cons (o_move rfl)<|.cons (o_not rfl)<|.nil _) ?_))
 refine a_cond _ rfl (fun h3=>?_) (fun h3=>?_)
 ·replace hM:=(of_if hM).1 h3
  refine a_seq (ar (.cons (o_assign rfl)<|.nil _) ?_)
  obtain rfl:=Option.some.inj hM
  refine a_imp (σ' := ⟨[(4,.nils)],[],[]⟩) (Imp.sh (fun i=>i) rfl rfl rfl rfl rfl rfl) ?_
  exact a_ret (a_post (.r1 (.tmp rfl)) (DLe.nils _) (PostOk.spec .nil))
 ·replace hM:=(of_if hM).2 h3
  refine a_skip (a_seq ?_)
  cases hM
def graph_Graph_filter_a2 (o0 : RRec) : Option (List graph_Node) :=
 some ([] : List graph_Node)
theorem graph_Graph_filter_a2_c {o0 : RRec} {r : (List graph_Node)} (hM : graph_Graph_filter_a2 o0 = some r) : ACall Tryz.prog 24 ⟨[.val (.pointer none),.clo 29 [.ref 100000 0]],[(100000,some (.blk 64 (RRec.cs o0)))],.sl 2 (List.map graph_Node.dv r),[(100000,some (.blk 64 (RRec.cs o0)))],[]⟩ := by
 unfold graph_Graph_filter_a2 at hM
 refine ACall.body Tryz.func24 Tryz.ntmps24 rfl rfl rfl rfl ?_
 refine a_seq (ar (.cons (o_assign rfl)<|.nil _) ?_)
 refine a_seq (a_seq (ar (.cons (o_move rfl)<|.cons (o_nil_eq rfl)<|.nil _) ?_))
 refine a_cond _ rfl (fun _=>?_) (fun c=>by cases c)
 refine a_seq (ar (.cons (o_assign rfl)<|.nil _) ?_)
 obtain rfl:=Option.some.inj hM
 refine a_imp (σ' := ⟨[(4,.nils)],[(100000,some (.blk 64 (RRec.cs o0)))],[100000]⟩) (Imp.sh (fun i=>i) rfl rfl rfl rfl rfl rfl) ?_
 exact a_ret (a_post (.r1 (.tmp rfl)) (DLe.nils _) (PostOk.spec (.cons rfl .nil)))
def graph_Graph_Past_a (x1 : graph_Node) : Option (List graph_Node) :=
 (graph_Graph_find_a1 x1).bind fun v2=>
 if (!v2.2) = true then
  some ([] : List graph_Node)
 else
  (graph_Graph_filter_a2 v2.1).bind fun v5=>
  some v5
theorem graph_Graph_Past_a_c {x1 : graph_Node} {r : (List graph_Node)} (hM : graph_Graph_Past_a x1 = some r) : ACall Tryz.prog 11 ⟨[.val (.pointer none),.agg (graph_Node.cs x1)],[],.sl 2 (List.map graph_Node.dv r),[],[]⟩ := by
 unfold graph_Graph_Past_a at hM
 refine ACall.body Tryz.func11 Tryz.ntmps11 rfl rfl rfl rfl ?_
 refine a_seq (ar (.cons (o_box rfl rfl)<|.cons (o_assign rfl)<|.nil _) ?_)
 refine a_seq ?_
 obtain ⟨v2,h1,hM⟩ := of_bind hM
 refine ar (.cons (o_move rfl)<|.cons (o_load_r rfl rfl rfl rfl)<|.cons (o_callN (fun i=>i) 0 (graph_Graph_find_a1_c h1) rfl (DLeL.refl _) .nil rfl .nil)<|.cons (o_move rfl)<|.cons (o_extract rfl rfl)<|.cons (o_extract rfl rfl)<|.cons (o_alloc rfl)<|.cons (o_store rfl rfl rfl rfl rfl rfl rfl)<|.cons (o_assign rfl)<|.nil _) ?_
 refine a_seq (a_seq (ar (.cons (o_move rfl)<|.cons (o_not rfl)<|.nil _) ?_))
 refine a_cond _ rfl (fun h3=>?_) (fun h3=>?_)
 ·replace hM:=(of_if hM).1 h3
  refine a_seq (ar (.cons (o_assign rfl)<|.nil _) ?_)
  obtain rfl:=Option.some.inj hM
  refine a_imp (σ' := ⟨[(4,.nils)],[],[]⟩) (Imp.sh (fun i=>i) rfl rfl rfl rfl rfl rfl) ?_
  exact a_ret (a_post (.r1 (.tmp rfl)) (DLe.nils _) (PostOk.spec .nil))
 ·replace hM:=(of_if hM).2 h3
  refine a_skip (a_seq ?_)
  obtain ⟨v5,h4,hM⟩ := of_bind hM
  refine ar (.cons (o_move rfl)<|.cons (o_makeFunc rfl)<|.cons (o_callN (fun i=>bif Nat.beq i 100000 then 5 else i) 0 (graph_Graph_filter_a2_c h4) rfl (DLeL.refl _) (.cons rfl .nil) rfl (.cons rfl .nil))<|.cons (o_assign rfl)<|.nil _) ?_
  obtain rfl:=Option.some.inj hM
  refine a_imp (σ' := ⟨[(4,.sl 2 (List.map graph_Node.dv v5))],[],[]⟩) (Imp.sh (fun i=>i) rfl rfl rfl rfl rfl rfl) ?_
  exact a_ret (a_post (.r1 (.tmp rfl)) (DLe.refl _) (PostOk.spec .nil))
def graph_Graph_filter_a3 (o0 : RRec) : Option (List graph_Node) :=
 some ([] : List graph_Node)
theorem graph_Graph_filter_a3_c {o0 : RRec} {r : (List graph_Node)} (hM : graph_Graph_filter_a3 o0 = some r) : ACall Tryz.prog 24 ⟨[.val (.pointer none),.clo 30 [.ref 100000 0]],[(100000,some (.blk 64 (RRec.cs o0)))],.sl 2 (List.map graph_Node.dv r),[(100000,some (.blk 64 (RRec.cs o0)))],[]⟩ := by
 unfold graph_Graph_filter_a3 at hM
 refine ACall.body Tryz.func24 Tryz.ntmps24 rfl rfl rfl rfl ?_
 refine a_seq (ar (.cons (o_assign rfl)<|.nil _) ?_)
 refine a_seq (a_seq (ar (.cons (o_move rfl)<|.cons (o_nil_eq rfl)<|.nil _) ?_))
 refine a_cond _ rfl (fun _=>?_) (fun c=>by cases c)
 refine a_seq (ar (.cons (o_assign rfl)<|.nil _) ?_)
 obtain rfl:=Option.some.inj hM
 refine a_imp (σ' := ⟨[(4,.nils)],[(100000,some (.blk 64 (RRec.cs o0)))],[100000]⟩) (Imp.sh (fun i=>i) rfl rfl rfl rfl rfl rfl) ?_
 exact a_ret (a_post (.r1 (.tmp rfl)) (DLe.nils _) (PostOk.spec (.cons rfl .nil)))
def graph_Graph_Future_a (x1 : graph_Node) : Option (List graph_Node) :=
 (graph_Graph_find_a1 x1).bind fun v2=>
 if (!v2.2) = true then
  some ([] : List graph_Node)
 else
  (graph_Graph_filter_a3 v2.1).bind fun v5=>
  some v5
theorem graph_Graph_Future_a_c {x1 : graph_Node} {r : (List graph_Node)} (hM : graph_Graph_Future_a x1 = some r) : ACall Tryz.prog 12 ⟨[.val (.pointer none),.agg (graph_Node.cs x1)],[],.sl 2 (List.map graph_Node.dv r),[],[]⟩ := by
 unfold graph_Graph_Future_a at hM
 refine ACall.body Tryz.func12 Tryz.ntmps12 rfl rfl rfl rfl ?_
 refine a_seq (ar (.cons (o_box rfl rfl)<|.cons (o_assign rfl)<|.nil _) ?_)
 refine a_seq ?_
 obtain ⟨v2,h1,hM⟩ := of_bind hM
 refine ar (.cons (o_move rfl)<|.cons (o_load_r rfl rfl rfl rfl)<|.cons (o_callN (fun i=>i) 0 (graph_Graph_find_a1_c h1) rfl (DLeL.refl _) .nil rfl .nil)<|.cons (o_move rfl)<|.cons (o_extract rfl rfl)<|.cons (o_extract rfl rfl)<|.cons (o_alloc rfl)<|.cons (o_store rfl rfl rfl rfl rfl rfl rfl)<|.cons (o_assign rfl)<|.nil _) ?_
 refine a_seq (a_seq (ar (.cons (o_move rfl)<|.cons (o_not rfl)<|.nil _) ?_))
 refine a_cond _ rfl (fun h3=>?_) (fun h3=>?_)
 ·replace hM:=(of_if hM).1 h3
  refine a_seq (ar (.cons (o_assign rfl)<|.nil _) ?_)
  obtain rfl:=Option.some.inj hM
  refine a_imp (σ' := ⟨[(4,.nils)],[],[]⟩) (Imp.sh (fun i=>i) rfl rfl rfl rfl rfl rfl) ?_
  exact a_ret (a_post (.r1 (.tmp rfl)) (DLe.nils _) (PostOk.spec .nil))
 ·replace hM:=(of_if hM).2 h3
  refine a_skip (a_seq ?_)
  obtain ⟨v5,h4,hM⟩ := of_bind hM
  refine ar (.cons (o_move rfl)<|.cons (o_makeFunc rfl)<|.cons (o_callN (fun i=>bif Nat.beq i 100000 then 5 else i) 0 (graph_Graph_filter_a3_c h4) rfl (DLeL.refl _) (.cons rfl .nil) rfl (.cons rfl .nil))<|.cons (o_assign rfl)<|.nil _) ?_
  obtain rfl:=Option.some.inj hM
  refine a_imp (σ' := ⟨[(4,.sl 2 (List.map graph_Node.dv v5))],[],[]⟩) (Imp.sh (fun i=>i) rfl rfl rfl rfl rfl rfl) ?_
  exact a_ret (a_post (.r1 (.tmp rfl)) (DLe.refl _) (PostOk.spec .nil))
def graph_Graph_Order_a : Option (List AEv) :=
 some ([] : List AEv)
theorem graph_Graph_Order_a_c {r : (List AEv)} (hM : graph_Graph_Order_a = some r) : ACall Tryz.prog 13 ⟨[.val (.pointer none)],[],.sl 9 (List.map AEv.dv r),[],[]⟩ := by
 unfold graph_Graph_Order_a at hM
 refine ACall.body Tryz.func13 Tryz.ntmps13 rfl rfl rfl rfl ?_
 refine a_seq (ar (.cons (o_assign rfl)<|.nil _) ?_)
 refine a_seq (a_seq (ar (.cons (o_move rfl)<|.cons (o_nil_eq rfl)<|.nil _) ?_))
 refine a_cond _ rfl (fun _=>?_) (fun c=>by cases c)
 refine a_seq (ar (.cons (o_assign rfl)<|.nil _) ?_)
 obtain rfl:=Option.some.inj hM
 refine a_imp (σ' := ⟨[(2,.nils)],[],[]⟩) (Imp.sh (fun i=>i) rfl rfl rfl rfl rfl rfl) ?_
 exact a_ret (a_post (.r1 (.tmp rfl)) (DLe.nils _) (PostOk.spec .nil))
def graph_Graph_Concurrent_a1 (x1 : graph_Node) (x2 : graph_Node) (o0 : graph_Graph) : Option Bool :=
 (graph_Graph_find_a x1 o0).bind fun v2=>
 (graph_Graph_find_a x2 o0).bind fun v4=>
 (gb ((v2.2 && v4.2) && (!((x1.gComponent == x2.gComponent) && ((x1.gSeq == x2.gSeq) && true)))) (false) (graph_Graph_Before_a x1 x2 o0)).bind fun v6=>
 (gb (((v2.2 && v4.2) && (!((x1.gComponent == x2.gComponent) && ((x1.gSeq == x2.gSeq) && true)))) && (!v6)) (false) (graph_Graph_Before_a x2 x1 o0)).bind fun v8=>
 some ((((v2.2 && v4.2) && (!((x1.gComponent == x2.gComponent) && ((x1.gSeq == x2.gSeq) && true)))) && (!v6)) && (!v8))
theorem graph_Graph_Concurrent_a1_c {x1 : graph_Node} {x2 : graph_Node} {o0 : graph_Graph} {r : Bool} (hM : graph_Graph_Concurrent_a1 x1 x2 o0 = some r) : ACall Tryz.prog 9 ⟨[.ref 100000 0,.agg (graph_Node.cs x1),.agg (graph_Node.cs x2)],[(100000,some (.blk 55 [.row 100001,.row 100002])),(100001,some (.row 57 1 (List.map (encSl 29 RRec.dv) o0.grecords))),(100002,some (.mp (mpL api_Message.cs (encSlN 1 (DV.int .i64)) o0.garrivals)))],.bool r,[(100000,some (.blk 55 [.row 100001,.row 100002])),(100001,some (.row 57 1 (List.map (encSl 29 RRec.dv) o0.grecords))),(100002,some (.mp (mpL api_Message.cs (encSlN 1 (DV.int .i64)) o0.garrivals)))],[]⟩ := by
 unfold graph_Graph_Concurrent_a1 at hM
 refine ACall.body Tryz.func9 Tryz.ntmps9 rfl rfl rfl rfl ?_
 refine a_seq (ar (.cons (o_box rfl rfl)<|.cons (o_box rfl rfl)<|.cons (o_assign rfl)<|.nil _) ?_)
 refine a_seq ?_
 obtain ⟨v2,h1,hM⟩ := of_bind hM
 refine ar (.cons (o_move rfl)<|.cons (o_load_r rfl rfl rfl rfl)<|.cons (o_callN (fun i=>bif Nat.beq i 100000 then 100000 else bif Nat.beq i 100001 then 100001 else bif Nat.beq i 100002 then 100002 else i) 0 (graph_Graph_find_a_c h1) rfl (DLeL.refl _) (.cons rfl (.cons rfl (.cons rfl .nil))) rfl (.cons rfl (.cons rfl (.cons rfl .nil))))<|.cons (o_move rfl)<|.cons (o_extract rfl rfl)<|.cons (o_extract rfl rfl)<|.cons (o_alloc rfl)<|.cons (o_store rfl rfl rfl rfl rfl rfl rfl)<|.cons (o_assign rfl)<|.nil _) ?_
 refine a_seq ?_
 obtain ⟨v4,h3,hM⟩ := of_bind hM
 refine ar (.cons (o_move rfl)<|.cons (o_load_r rfl rfl rfl rfl)<|.cons (o_callN (fun i=>bif Nat.beq i 100000 then 100000 else bif Nat.beq i 100001 then 100001 else bif Nat.beq i 100002 then 100002 else i) 0 (graph_Graph_find_a_c h3) rfl (DLeL.refl _) (.cons rfl (.cons rfl (.cons rfl .nil))) rfl (.cons rfl (.cons rfl (.cons rfl .nil))))<|.cons (o_move rfl)<|.cons (o_extract rfl rfl)<|.cons (o_extract rfl rfl)<|.cons (o_alloc rfl)<|.cons (o_store rfl rfl rfl rfl rfl rfl rfl)<|.cons (o_assign rfl)<|.nil _) ?_
 refine a_seq ?_
 obtain ⟨v6,h5,hM⟩ := of_bind hM
 obtain ⟨v8,h7,hM⟩ := of_bind hM
 refine ar (.cons (o_move rfl)<|.cons (o_move rfl)<|.cons (o_guardG .bT rfl rfl (fun hb=>(.keep .nil)) (fun hb=>o_move rfl))<|.cons (o_and rfl rfl)<|.cons (o_move rfl)<|.cons (o_guardG .bT rfl rfl (fun hb=>(.keep .nil)) (fun hb=>o_load_r rfl rfl rfl rfl))<|.cons (o_guardG .bT rfl rfl (fun hb=>(.keep .nil)) (fun hb=>o_load_r rfl rfl rfl rfl))<|.cons (o_guardG .bT rfl rfl (fun hb=>(.strip rfl hb (.strip rfl hb .nil))) (fun hb=>o_neS (b:=((x1.gComponent == x2.gComponent) && ((x1.gSeq == x2.gSeq) && true))) rfl rfl rfl rfl rfl))<|.cons (o_and rfl rfl)<|.cons (o_move rfl)<|.cons (o_guardG .bT rfl rfl (fun hb=>(.keep .nil)) (fun hb=>o_move rfl))<|.cons (o_guardG .bT rfl rfl (fun hb=>(.keep .nil)) (fun hb=>o_load_r rfl rfl rfl rfl))<|.cons (o_guardG .bT rfl rfl (fun hb=>(.keep .nil)) (fun hb=>o_load_r rfl rfl rfl rfl))<|.cons (o_guardG .bT rfl rfl (fun hb=>(.strip rfl hb (.strip rfl hb (.strip rfl hb .nil)))) (fun hb=>o_callN (fun i=>bif Nat.beq i 100000 then 100000 else bif Nat.beq i 100001 then 100001 else bif Nat.beq i 100002 then 100002 else i) 0 (graph_Graph_Before_a_c (of_gb h5 hb)) rfl (DLeL.refl _) (.cons rfl (.cons rfl (.cons rfl .nil))) rfl (.cons rfl (.cons rfl (.cons rfl .nil)))))<|.cons (o_guardG .bT rfl rfl (fun hb=>(.strip rfl hb .nil)) (fun hb=>o_not rfl))<|.cons (o_and rfl rfl)<|.cons (o_move rfl)<|.cons (o_guardG .bT rfl rfl (fun hb=>(.keep .nil)) (fun hb=>o_move rfl))<|.cons (o_guardG .bT rfl rfl (fun hb=>(.keep .nil)) (fun hb=>o_load_r rfl rfl rfl rfl))<|.cons (o_guardG .bT rfl rfl (fun hb=>(.keep .nil)) (fun hb=>o_load_r rfl rfl rfl rfl))<|.cons (o_guardG .bT rfl rfl (fun hb=>(.strip rfl hb (.strip rfl hb (.strip rfl hb .nil)))) (fun hb=>o_callN (fun i=>bif Nat.beq i 100000 then 100000 else bif Nat.beq i 100001 then 100001 else bif Nat.beq i 100002 then 100002 else i) 0 (graph_Graph_Before_a_c (of_gb h7 hb)) rfl (DLeL.refl _) (.cons rfl (.cons rfl (.cons rfl .nil))) rfl (.cons rfl (.cons rfl (.cons rfl .nil)))))<|.cons (o_guardG .bT rfl rfl (fun hb=>(.strip rfl hb .nil)) (fun hb=>o_not rfl))<|.cons (o_and rfl rfl)<|.cons (o_assign rfl)<|.nil _) ?_
 obtain rfl:=Option.some.inj hM
 refine a_imp (σ' := ⟨[(6,.bool ((((v2.2 && v4.2) && (!((x1.gComponent == x2.gComponent) && ((x1.gSeq == x2.gSeq) && true)))) && (!v6)) && (!v8)))],[(100000,some (.blk 55 [.row 100001,.row 100002])),(100001,some (.row 57 1 (List.map (encSl 29 RRec.dv) o0.grecords))),(100002,some (.mp (mpL api_Message.cs (encSlN 1 (DV.int .i64)) o0.garrivals)))],[100000,100001,100002]⟩) (Imp.sh (fun i=>i) rfl rfl rfl rfl rfl rfl) ?_
 exact a_ret (a_post (.r1 (.tmp rfl)) (DLe.refl _) (PostOk.spec (.cons rfl (.cons rfl (.cons rfl .nil)))))
def graph_phase_K1 : Option Int :=
 some 2
def graph_phase_K2 (a2 : Bool) : Option Int :=
 if a2 = true then
  some 1
 else
  graph_phase_K1
def graph_phase (x0 : Int) : Option Int :=
 if (x0 == 1) = true then
  some 0
 else
  if (x0 == 3) = true then
   graph_phase_K2 (x0 == 3)
  else
   graph_phase_K2 (x0 == 2)
theorem graph_phase_c {x0 : Int} {r : Int} (hM : graph_phase x0 = some r) : PCall Tryz.prog 35 [.int .u8 x0] (.int .i64 r):=by
 unfold graph_phase at hM
 refine PCall.body Tryz.func35 Tryz.ntmps35 rfl rfl rfl rfl ?_
 refine a_seq (ar (.cons (o_assign rfl)<|.nil _) ?_)
 refine a_cut (α:=Unit) (fun s=>⟨[],[],[]⟩) (fun s=>graph_phase_K1 = some r) ?_ ?_
 ·refine a_seq (ar (.cons (o_move rfl)<|.nil _) ?_)
  refine a_block (a_seq (ar (.cons (o_int rfl rfl rfl)<|.cons (o_assign rfl)<|.nil _) ?_))
  refine a_cond _ rfl (fun h1=>?_) (fun h1=>?_)
  ·replace hM:=(of_if hM).1 h1
   refine a_seq (ar (.cons (o_assign rfl)<|.nil _) ?_)
   obtain rfl:=Option.some.inj hM
   exact a_ret (a_post (.r1 (.tmp rfl)) (DLe.refl _) PostOk.nil.spec)
  ·replace hM:=(of_if hM).2 h1
   refine a_cut (α:=Bool) (fun s=>⟨[(6,.bool s)],[],[]⟩) (fun s=>graph_phase_K2 s = some r) ?_ ?_
   ·refine a_seq (ar (.cons (o_int rfl rfl rfl)<|.cons (o_assign rfl)<|.nil _) ?_)
    refine a_cond _ rfl (fun h4=>?_) (fun h4=>?_)
    ·replace hM:=(of_if hM).1 h4
     refine a_skip ?_
     exact ⟨(x0 == 3),hM,(Imp.sh (fun i=>i) rfl rfl rfl rfl rfl rfl)⟩
    ·replace hM:=(of_if hM).2 h4
     refine ar (.cons (o_int rfl rfl rfl)<|.cons (o_assign rfl)<|.nil _) ?_
     exact ⟨(x0 == 2),hM,(Imp.sh (fun i=>i) rfl rfl rfl rfl rfl rfl)⟩
   ·rintro a2 hM
    replace hM : graph_phase_K2 a2 = some r:=hM
    unfold graph_phase_K2 at hM
    refine a_cond _ rfl (fun h3=>?_) (fun h3=>?_)
    ·replace hM:=(of_if hM).1 h3
     refine a_seq (ar (.cons (o_assign rfl)<|.nil _) ?_)
     obtain rfl:=Option.some.inj hM
     exact a_ret (a_post (.r1 (.tmp rfl)) (DLe.refl _) PostOk.nil.spec)
    ·replace hM:=(of_if hM).2 h3
     refine a_skip ?_
     exact ⟨(),hM,(Imp.sh (fun i=>i) rfl rfl rfl rfl rfl rfl)⟩
 ·rintro _ hM
  replace hM : graph_phase_K1 = some r:=hM
  unfold graph_phase_K1 at hM
  refine a_seq (ar (.cons (o_assign rfl)<|.nil _) ?_)
  obtain rfl:=Option.some.inj hM
  exact a_ret (a_post (.r1 (.tmp rfl)) (DLe.refl _) PostOk.nil.spec)
def graph_Graph_Order_1 (x0 : RRec) (x1 : RRec) : Option Int :=
 (cmp_Compare_int x0.gEvent.gTick x1.gEvent.gTick).bind fun v2=>
 (graph_phase x0.gEvent.gKind).bind fun v4=>
 (graph_phase x1.gEvent.gKind).bind fun v6=>
 (cmp_Compare_int v4 v6).bind fun v8=>
 (cmp_Compare_int x0.gComponent x1.gComponent).bind fun v10=>
 (cmp_Compare_uint64 x0.gSeq x1.gSeq).bind fun v12=>
 (cmp_Or_int [v2,v8,v10,v12]).bind fun v14=>
 some v14
theorem graph_Graph_Order_1_c {x0 : RRec} {x1 : RRec} {r : Int} (hM : graph_Graph_Order_1 x0 x1 = some r) : PCall Tryz.prog 32 [.agg (RRec.cs x0),.agg (RRec.cs x1)] (.int .i64 r):=by
 unfold graph_Graph_Order_1 at hM
 refine PCall.body Tryz.func32 Tryz.ntmps32 rfl rfl rfl rfl ?_
 refine a_seq (ar (.cons (o_box rfl rfl)<|.cons (o_box rfl rfl)<|.cons (o_assign rfl)<|.nil _) ?_)
 refine a_seq ?_
 obtain ⟨v2,h1,hM⟩ := of_bind hM
 obtain ⟨v4,h3,hM⟩ := of_bind hM
 obtain ⟨v6,h5,hM⟩ := of_bind hM
 obtain ⟨v8,h7,hM⟩ := of_bind hM
 obtain ⟨v10,h9,hM⟩ := of_bind hM
 obtain ⟨v12,h11,hM⟩ := of_bind hM
 obtain ⟨v14,h13,hM⟩ := of_bind hM
 refine ad mixed (.cons (o_fieldAddr rfl)<|.cons (o_fieldAddr rfl)<|.cons (o_load_s rfl rfl rfl)<|.cons (o_fieldAddr rfl)<|.cons (o_fieldAddr rfl)<|.cons (o_load_s rfl rfl rfl)<|.cons (o_call (cmp_Compare_int_c h1) rfl (DLeL.refl _) rfl)<|.cons (o_fieldAddr rfl)<|.cons (o_fieldAddr rfl)<|.cons (o_load_s rfl rfl rfl)<|.cons (o_call (graph_phase_c h3) rfl (DLeL.refl _) rfl)<|.cons (o_fieldAddr rfl)<|.cons (o_fieldAddr rfl)<|.cons (o_load_s rfl rfl rfl)<|.cons (o_call (graph_phase_c h5) rfl (DLeL.refl _) rfl)<|.cons (o_call (cmp_Compare_int_c h7) rfl (DLeL.refl _) rfl)<|.cons (o_fieldAddr rfl)<|.cons (o_load_s rfl rfl rfl)<|.cons (o_fieldAddr rfl)<|.cons (o_load_s rfl rfl rfl)<|.cons (o_call (cmp_Compare_int_c h9) rfl (DLeL.refl _) rfl)<|.cons (o_fieldAddr rfl)<|.cons (o_load_s rfl rfl rfl)<|.cons (o_fieldAddr rfl)<|.cons (o_load_s rfl rfl rfl)<|.cons (o_call (cmp_Compare_uint64_c h11) rfl (DLeL.refl _) rfl)<|.cons (o_frz (t_build (DV.int .i64) ([v2,v8,v10,v12] : List Int) rfl rfl rfl rfl rfl rfl rfl))<|.cons (o_call (cmp_Or_int_c h13) rfl (DLeL.refl _) rfl)<|.cons (o_assign rfl)<|.nil _) ?_
 obtain rfl:=Option.some.inj hM
 exact a_ret (a_post (.r1 (.tmp rfl)) (DLe.refl _) PostOk.nil.spec)
def insM1_K1 (a1 : List RRec) : Option (List RRec) :=
 some a1
def insM1_K3 (a3 : Int) (a7 : List RRec) : Option (Ctl ((List RRec) × Int) (List RRec)) :=
 some (.next (a7,(IntKind.wrap .i64 (a3 + 1))))
def insM1_L4 (x1 : Int) (a8 : List RRec) (a9 : Int) : Option (Ctl ((List RRec) × Int) (List RRec)) :=
 (gb (decide (x1 < a9)) (RRec.mk 0 0 (VClk.mk (arr 0 [])) 0 (AEv.mk 0 0 0 0 0 0 0 0 []) 0) (idx a8 a9)).bind fun v13=>
 (gb (decide (x1 < a9)) (RRec.mk 0 0 (VClk.mk (arr 0 [])) 0 (AEv.mk 0 0 0 0 0 0 0 0 []) 0) (idx a8 (IntKind.wrap .i64 (a9 - 1)))).bind fun v15=>
 (gb (decide (x1 < a9)) (0) (graph_Graph_Order_1 v13 v15)).bind fun v17=>
 if ((decide (x1 < a9)) && (decide (v17 < 0))) = true then
  (idx a8 (IntKind.wrap .i64 (a9 - 1))).bind fun v20=>
  (idx a8 a9).bind fun v22=>
  (idx a8 a9).bind fun v24=>
  (idx (List.set a8 (Int.toNat a9) v20) (IntKind.wrap .i64 (a9 - 1))).bind fun v26=>
  some (.next ((List.set (List.set a8 (Int.toNat a9) v20) (Int.toNat (IntKind.wrap .i64 (a9 - 1))) v22),(IntKind.wrap .i64 (a9 - 1))))
 else
  some (.done a8)
def insM1_L2 (x1 : Int) (x2 : Int) (a2 : List RRec) (a3 : Int) : Option (Ctl ((List RRec) × Int) (List RRec)) :=
 if (decide (a3 < x2)) = true then
  (whileM (E:=(List RRec)) (fun s=>insM1_L4 x1 s.1 s.2) (a2,a3)).bind fun e=>insM1_K3 a3 e
 else
  some (.done a2)
def insM1 (x1 : Int) (x2 : Int) (o0 : List RRec) : Option (List RRec) :=
 (whileM (E:=(List RRec)) (fun s=>insM1_L2 x1 x2 s.1 s.2) (o0,(IntKind.wrap .i64 (x1 + 1)))).bind fun e=>insM1_K1 e
theorem insM1_c {x1 : Int} {x2 : Int} {o0 : List RRec} {r : (List RRec)} (hM : insM1 x1 x2 o0 = some r) : ACall Tryz.prog 75 ⟨[.row 100000,.int .i64 x1,.int .i64 x2,.val (.func (.func 32) #[] #[])],[(100000,some (.row 64 29 (List.map RRec.dv o0)))],.tup [],[(100000,some (.row 64 29 (List.map RRec.dv r)))],[]⟩ := by
 unfold insM1 at hM
 refine ACall.body Tryz.func75 Tryz.ntmps75 rfl rfl rfl rfl ?_
 refine a_end ?_
 refine a_seq (ar (.cons (o_move rfl)<|.cons (o_int rfl rfl rfl)<|.cons (o_assign rfl)<|.nil _) ?_)
 refine a_tail (α:=(List RRec)) (fun s=>⟨[],[(100000,some (.row 64 29 (List.map RRec.dv s)))],[100000]⟩) (fun s=>insM1_K1 s = some r) ?_ ?_
 ·obtain ⟨e4,hL4,hK4⟩ := of_bind hM
  refine a_block (a_while (fun s : (List RRec) × Int=>⟨[(0,.row 100000),(1,.int .i64 x1),(2,.int .i64 x2),(3,.val (.func (.func 32) #[] #[])),(8,.int .i64 s.2)],[(100000,some (.row 64 29 (List.map RRec.dv s.1)))],[100000]⟩) _ hL4 (Imp.sh (fun i=>i) rfl rfl rfl rfl rfl rfl) ?_)
  rintro ⟨a2,a3⟩ t5 hM hE4
  replace hM : insM1_L2 x1 x2 a2 a3 = some t5:=hM
  unfold insM1_L2 at hM
  refine a_seq (a_seq (ar (.cons (o_move rfl)<|.cons (o_move rfl)<|.cons (o_int rfl rfl rfl)<|.nil _) ?_))
  refine a_cond _ rfl (fun h6=>?_) (fun h6=>?_)
  ·replace hM:=(of_if hM).1 h6
   refine a_skip ?_
   refine a_cut (α:=(List RRec)) (fun s=>⟨[(0,.row 100000),(1,.int .i64 x1),(2,.int .i64 x2),(3,.val (.func (.func 32) #[] #[])),(8,.int .i64 a3)],[(100000,some (.row 64 29 (List.map RRec.dv s)))],[100000]⟩) (fun s=>insM1_K3 a3 s = some t5) ?_ ?_
   ·refine a_block (a_seq (ar (.cons (o_move rfl)<|.cons (o_assign rfl)<|.nil _) ?_))
    obtain ⟨e10,hL10,hK10⟩ := of_bind hM
    refine a_block (a_while (fun s : (List RRec) × Int=>⟨[(0,.row 100000),(1,.int .i64 x1),(2,.int .i64 x2),(3,.val (.func (.func 32) #[] #[])),(8,.int .i64 a3),(9,.int .i64 s.2)],[(100000,some (.row 64 29 (List.map RRec.dv s.1)))],[100000]⟩) _ hL10 (Imp.sh (fun i=>i) rfl rfl rfl rfl rfl rfl) ?_)
    rintro ⟨a8,a9⟩ t11 hM hE10
    replace hM : insM1_L4 x1 a8 a9 = some t11:=hM
    unfold insM1_L4 at hM
    refine a_seq (a_seq ?_)
    obtain ⟨v13,h12,hM⟩ := of_bind hM
    obtain ⟨v15,h14,hM⟩ := of_bind hM
    obtain ⟨v17,h16,hM⟩ := of_bind hM
    refine ad mixed (.cons (o_move rfl)<|.cons (o_move rfl)<|.cons (o_int rfl rfl rfl)<|.cons (o_move rfl)<|.cons (o_guardG .bT rfl rfl (fun hb=>(.keep .nil)) (fun hb=>o_move rfl))<|.cons (o_guardG .bT rfl rfl (fun hb=>(.keep .nil)) (fun hb=>o_move rfl))<|.cons (o_guardG .bT rfl rfl (fun hb=>(.keep .nil)) (fun hb=>o_move rfl))<|.cons (o_guardG .bT rfl rfl (fun hb=>(.strip rfl hb (.strip rfl hb .nil))) (fun hb=>t_index_r (of_gb h12 hb) rfl rfl rfl))<|.cons (o_guardG .bT rfl rfl (fun hb=>(.strip rfl hb .nil)) (fun hb=>t_load_pr (of_gb h12 hb) rfl rfl rfl rfl rfl))<|.cons (o_guardG .bT rfl rfl (fun hb=>(.keep .nil)) (fun hb=>o_move rfl))<|.cons (o_guardG .bT rfl rfl (fun hb=>(.keep .nil)) (fun hb=>o_move rfl))<|.cons (o_guardG .bT rfl rfl (fun hb=>(.strip rfl hb .nil)) (fun hb=>o_int rfl rfl rfl))<|.cons (o_guardG .bT rfl rfl (fun hb=>(.strip rfl hb (.strip rfl hb .nil))) (fun hb=>t_index_r (of_gb h14 hb) rfl rfl rfl))<|.cons (o_guardG .bT rfl rfl (fun hb=>(.strip rfl hb .nil)) (fun hb=>t_load_pr (of_gb h14 hb) rfl rfl rfl rfl rfl))<|.cons (o_guardG .bT rfl rfl (fun hb=>(.strip rfl hb (.strip rfl hb (.strip rfl hb .nil)))) (fun hb=>o_callF (graph_Graph_Order_1_c (of_gb h16 hb)) rfl rfl (DLeL.refl _) rfl))<|.cons (o_guardG .bT rfl rfl (fun hb=>(.strip rfl hb .nil)) (fun hb=>o_int rfl rfl rfl))<|.cons (o_and rfl rfl)<|.nil _) ?_
    refine a_cond _ rfl (fun h18=>?_) (fun h18=>?_)
    ·replace hM:=(of_if hM).1 h18
     refine a_skip (a_seq (a_block ?_))
     obtain ⟨v20,h19,hM⟩ := of_bind hM
     obtain ⟨v22,h21,hM⟩ := of_bind hM
     obtain ⟨v24,h23,hM⟩ := of_bind hM
     obtain ⟨v26,h25,hM⟩ := of_bind hM
     refine ad mixed (.cons (o_move rfl)<|.cons (o_move rfl)<|.cons (o_move rfl)<|.cons (o_move rfl)<|.cons (o_int rfl rfl rfl)<|.cons (o_move rfl)<|.cons (o_move rfl)<|.cons (o_int rfl rfl rfl)<|.cons (t_index_r h19 rfl rfl rfl)<|.cons (t_load_pr h19 rfl rfl rfl rfl rfl)<|.cons (o_move rfl)<|.cons (o_move rfl)<|.cons (t_index_r h21 rfl rfl rfl)<|.cons (t_load_pr h21 rfl rfl rfl rfl rfl)<|.cons (t_index_r h23 rfl rfl rfl)<|.cons (t_store_p v20 h23 rfl rfl rfl rfl rfl rfl rfl rfl rfl rfl rfl)<|.cons (t_index_r h25 rfl rfl rfl)<|.cons (t_store_p v22 h25 rfl rfl rfl rfl rfl rfl rfl rfl rfl rfl rfl)<|.nil _) ?_
     refine ar (.cons (o_move rfl)<|.cons (o_int rfl rfl rfl)<|.cons (o_assign rfl)<|.nil _) ?_
     obtain rfl:=Option.some.inj hM
     exact ⟨((List.set (List.set a8 (Int.toNat a9) v20) (Int.toNat (IntKind.wrap .i64 (a9 - 1))) v22),(IntKind.wrap .i64 (a9 - 1))),rfl,(Imp.sh (fun i=>i) rfl rfl rfl rfl rfl rfl)⟩
    ·replace hM:=(of_if hM).2 h18
     refine a_exit ?_
     obtain rfl:=Option.some.inj hM
     obtain rfl:=hE10 _ rfl
     exact ⟨a8,hK10,(Imp.sh (fun i=>i) rfl rfl rfl rfl rfl rfl)⟩
   ·rintro a7 hM
    replace hM : insM1_K3 a3 a7 = some t5:=hM
    unfold insM1_K3 at hM
    refine ar (.cons (o_move rfl)<|.cons (o_int rfl rfl rfl)<|.cons (o_assign rfl)<|.nil _) ?_
    obtain rfl:=Option.some.inj hM
    exact ⟨(a7,(IntKind.wrap .i64 (a3 + 1))),rfl,(Imp.sh (fun i=>i) rfl rfl rfl rfl rfl rfl)⟩
  ·replace hM:=(of_if hM).2 h6
   refine a_exit ?_
   obtain rfl:=Option.some.inj hM
   obtain rfl:=hE4 _ rfl
   exact ⟨a2,hK4,(Imp.sh (fun i=>i) rfl rfl rfl rfl rfl rfl)⟩
 ·rintro a1 hM
  replace hM : insM1_K1 a1 = some r:=hM
  unfold insM1_K1 at hM
  obtain rfl:=Option.some.inj hM
  refine n_imp (σ' := ⟨[],[(100000,some (.row 64 29 (List.map RRec.dv a1)))],[100000]⟩) (Imp.sh (fun i=>i) rfl rfl rfl rfl rfl rfl) ?_
  exact n_done (a_postN (.r0 ) (DLe.refl _) (PostOk.spec (.cons rfl .nil)))
def slices_pdqsortCmpFunc_record_Record_a_K1 : Option (List RRec) :=
 none
def slices_pdqsortCmpFunc_record_Record_a (x1 : Int) (x2 : Int) (x3 : Int) (o0 : List RRec) : Option (List RRec) :=
 if (decide ((IntKind.wrap .i64 (x2 - x1))≤12)) = true then
  (insM1 x1 x2 o0).bind fun v3=>
  some v3
 else
  if (x3 == 0) = true then
   none
  else
   if (!true) = true then
    none
   else
    slices_pdqsortCmpFunc_record_Record_a_K1
theorem slices_pdqsortCmpFunc_record_Record_a_c {x1 : Int} {x2 : Int} {x3 : Int} {o0 : List RRec} {r : (List RRec)} (hM : slices_pdqsortCmpFunc_record_Record_a x1 x2 x3 o0 = some r) : ACall Tryz.prog 54 ⟨[.row 100000,.int .i64 x1,.int .i64 x2,.int .i64 x3,.val (.func (.func 32) #[] #[])],[(100000,some (.row 64 29 (List.map RRec.dv o0)))],.tup [],[(100000,some (.row 64 29 (List.map RRec.dv r)))],[]⟩ := by
 unfold slices_pdqsortCmpFunc_record_Record_a at hM
 refine ACall.body Tryz.func54 Tryz.ntmps54 rfl rfl rfl rfl ?_
 refine a_end ?_
 refine a_seq (ar (.cons (o_assign rfl)<|.nil _) ?_)
 refine a_seq (ar (.cons (o_assign rfl)<|.nil _) ?_)
 refine a_block ?_
 refine a_loop (fun _ : Unit=>_) (fun _=>True) (fun _=>0) () (Imp.refl _) trivial (fun _ _=>?_)
 refine a_block (a_seq (ar (.cons (o_move rfl)<|.cons (o_move rfl)<|.cons (o_int rfl rfl rfl)<|.cons (o_assign rfl)<|.nil _) ?_))
 refine a_seq (a_seq (ar (.cons (o_move rfl)<|.cons (o_int rfl rfl rfl)<|.nil _) ?_))
 refine a_cond _ rfl (fun h1=>?_) (fun h1=>?_)
 ·replace hM:=(of_if hM).1 h1
  refine a_seq ?_
  obtain ⟨v3,h2,hM⟩ := of_bind hM
  refine ar (.cons (o_move rfl)<|.cons (o_move rfl)<|.cons (o_move rfl)<|.cons (o_move rfl)<|.cons (o_callN (fun i=>bif Nat.beq i 100000 then 100000 else i) 1 (insM1_c h2) rfl (DLeL.refl _) (.cons rfl .nil) rfl .nil)<|.nil _) ?_
  obtain rfl:=Option.some.inj hM
  refine a_imp (σ' := ⟨[],[(100000,some (.row 64 29 (List.map RRec.dv v3)))],[100000]⟩) (Imp.sh (fun i=>i) rfl rfl rfl rfl rfl rfl) ?_
  exact a_ret (a_post (.r0 ) (DLe.refl _) (PostOk.spec (.cons rfl .nil)))
 ·replace hM:=(of_if hM).2 h1
  refine a_skip (a_seq (a_seq (ar (.cons (o_move rfl)<|.cons (o_int rfl rfl rfl)<|.nil _) ?_)))
  refine a_cond _ rfl (fun h4=>?_) (fun h4=>?_)
  ·replace hM:=(of_if hM).1 h4
   refine a_seq ?_
   cases hM
  ·replace hM:=(of_if hM).2 h4
   refine a_skip ?_
   refine a_cut (α:=Unit) (fun s=>⟨[(0,.row 100000),(1,.int .i64 x1),(2,.int .i64 x2),(3,.int .i64 x3),(4,.val (.func (.func 32) #[] #[])),(10,.bool true),(11,.bool true),(12,.int .i64 (IntKind.wrap .i64 (x2 - x1)))],[(100000,some (.row 64 29 (List.map RRec.dv o0)))],[100000]⟩) (fun s=>slices_pdqsortCmpFunc_record_Record_a_K1 = some r) ?_ ?_
   ·refine a_seq (ar (.cons (o_move rfl)<|.cons (o_not rfl)<|.nil _) ?_)
    refine a_cond _ rfl (fun h5=>?_) (fun h5=>?_)
    ·replace hM:=(of_if hM).1 h5
     refine a_seq ?_
     cases hM
    ·replace hM:=(of_if hM).2 h5
     refine a_skip ?_
     exact ⟨(),hM,(Imp.sh (fun i=>i) rfl rfl rfl rfl rfl rfl)⟩
   ·rintro _ hM
    replace hM : slices_pdqsortCmpFunc_record_Record_a_K1 = some r:=hM
    unfold slices_pdqsortCmpFunc_record_Record_a_K1 at hM
    refine a_seq ?_
    cases hM
def slices_SortFunc_record_Record_record_Record_a (o0 : List RRec) : Option (List RRec) :=
 (math_bits_Len (IntKind.wrap .u64 (List.length o0 : Int))).bind fun v2=>
 (slices_pdqsortCmpFunc_record_Record_a 0 (List.length o0 : Int) v2 o0).bind fun v4=>
 some v4
theorem slices_SortFunc_record_Record_record_Record_a_c {o0 : List RRec} {r : (List RRec)} (hM : slices_SortFunc_record_Record_record_Record_a o0 = some r) : ACall Tryz.prog 31 ⟨[.row 100000,.val (.func (.func 32) #[] #[])],[(100000,some (.row 64 29 (List.map RRec.dv o0)))],.tup [],[(100000,some (.row 64 29 (List.map RRec.dv r)))],[]⟩ := by
 unfold slices_SortFunc_record_Record_record_Record_a at hM
 refine ACall.body Tryz.func31 Tryz.ntmps31 rfl rfl rfl rfl ?_
 refine a_end ?_
 refine a_seq (ar (.cons (o_move rfl)<|.cons (t_len_r rfl rfl)<|.cons (o_assign rfl)<|.nil _) ?_)
 obtain ⟨v2,h1,hM⟩ := of_bind hM
 obtain ⟨v4,h3,hM⟩ := of_bind hM
 refine ar (.cons (o_move rfl)<|.cons (o_move rfl)<|.cons (o_move rfl)<|.cons (o_conv_w rfl)<|.cons (o_call (math_bits_Len_c h1) rfl (DLeL.refl _) rfl)<|.cons (o_move rfl)<|.cons (o_callN (fun i=>bif Nat.beq i 100000 then 100000 else i) 1 (slices_pdqsortCmpFunc_record_Record_a_c h3) rfl (DLeL.refl _) (.cons rfl .nil) rfl .nil)<|.nil _) ?_
 obtain rfl:=Option.some.inj hM
 refine n_imp (σ' := ⟨[],[(100000,some (.row 64 29 (List.map RRec.dv v4)))],[100000]⟩) (Imp.sh (fun i=>i) rfl rfl rfl rfl rfl rfl) ?_
 exact n_done (a_postN (.r0 ) (DLe.refl _) (PostOk.spec (.cons rfl .nil)))
def graph_Graph_Order_a1_K2 (a5 : List AEv) : Option (List AEv) :=
 some a5
def graph_Graph_Order_a1_L3 (v4 : (List RRec)) (k6 : Nat) (a7 : List AEv) : Option (List AEv) :=
 (idx v4 (k6 : Int)).bind fun v12=>
 (graph_clone v12.gEvent).bind fun v14=>
 chk (apOk 88 (List.length a7 + List.length [v14]))<|
 some (a7++[v14])
def graph_Graph_Order_a1_K1 (a2 : List RRec) : Option (List AEv) :=
 (slices_SortFunc_record_Record_record_Record_a a2).bind fun v4=>
 (foldM' 9223372036854775807 (List.length v4 : Int) (fun k6 s=>graph_Graph_Order_a1_L3 v4 k6 s) ([] : List AEv)).bind fun s=>graph_Graph_Order_a1_K2 s
def graph_Graph_Order_a1_L4 (o0 : graph_Graph) (k16 : Nat) (a17 : List RRec) : Option (List RRec) :=
 (idx o0.grecords (k16 : Int)).bind fun v22=>
 chk (apOk 248 (List.length a17 + List.length v22))<|
 some (a17++v22)
def graph_Graph_Order_a1 (o0 : graph_Graph) : Option (List AEv) :=
 (foldM' 9223372036854775807 (List.length o0.grecords : Int) (fun k16 s=>graph_Graph_Order_a1_L4 o0 k16 s) ([] : List RRec)).bind fun s=>graph_Graph_Order_a1_K1 s
theorem graph_Graph_Order_a1_c {o0 : graph_Graph} {r : (List AEv)} (hM : graph_Graph_Order_a1 o0 = some r) : ACall Tryz.prog 13 ⟨[.ref 100000 0],[(100000,some (.blk 55 [.row 100001,.row 100002])),(100001,some (.row 57 1 (List.map (encSl 29 RRec.dv) o0.grecords))),(100002,some (.mp (mpL api_Message.cs (encSlN 1 (DV.int .i64)) o0.garrivals)))],.sl 9 (List.map AEv.dv r),[(100000,some (.blk 55 [.row 100001,.row 100002])),(100001,some (.row 57 1 (List.map (encSl 29 RRec.dv) o0.grecords))),(100002,some (.mp (mpL api_Message.cs (encSlN 1 (DV.int .i64)) o0.garrivals)))],[]⟩ := by
 unfold graph_Graph_Order_a1 at hM
 refine ACall.body Tryz.func13 Tryz.ntmps13 rfl rfl rfl rfl ?_
 refine a_seq (ar (.cons (o_assign rfl)<|.nil _) ?_)
 refine a_seq (a_seq (ar (.cons (o_move rfl)<|.cons (o_ptr_eq rfl)<|.nil _) ?_))
 refine a_cond _ rfl (fun c=>by cases c) (fun _=>?_)
 refine a_skip (a_seq (ar (.cons (o_assign rfl)<|.nil _) ?_))
 refine a_cut (α:=(List RRec)) (fun s=>⟨[(3,.row 10001)],[(10001,some (.row 64 29 (List.map RRec.dv s))),(100000,some (.blk 55 [.row 100001,.row 100002])),(100001,some (.row 57 1 (List.map (encSl 29 RRec.dv) o0.grecords))),(100002,some (.mp (mpL api_Message.cs (encSlN 1 (DV.int .i64)) o0.garrivals)))],[10001,100000,100001,100002]⟩) (fun s=>graph_Graph_Order_a1_K1 s = some r) ?_ ?_
 ·refine a_seq (ar (.cons (o_move rfl)<|.cons (o_nilCheck rfl)<|.cons (o_fieldAddr rfl)<|.cons (o_load_s rfl rfl rfl)<|.cons (t_len_r rfl rfl)<|.cons (o_move rfl)<|.nil _) ?_)
  obtain ⟨a17,hL18,hK18⟩ := of_bind hM
  refine a_block ?_
  refine a_fold (fun k16 (s : (List RRec))=>⟨[(3,.row 10004),(14,.row 100001),(15,.int .i64 (List.length o0.grecords : Int)),(16,.int .i64 (k16 : Int))],[(10004,some (.row 64 29 (List.map RRec.dv s))),(100000,some (.blk 55 [.row 100001,.row 100002])),(100001,some (.row 57 1 (List.map (encSl 29 RRec.dv) o0.grecords))),(100002,some (.mp (mpL api_Message.cs (encSlN 1 (DV.int .i64)) o0.garrivals)))],[10004,100000,100001,100002]⟩) _ hL18 ((Imp.nilRow (t:=3) (id:=10005) 64 29 rfl rfl).trans (Imp.sh (fun i=>bif Nat.beq i 10004 then 10005 else i) rfl rfl rfl rfl rfl rfl)) ?_ ?_
  ·rintro k16 a17 t19 hk16 hx16 hM
   replace hM : graph_Graph_Order_a1_L4 o0 k16 a17 = some t19:=hM
   unfold graph_Graph_Order_a1_L4 at hM
   refine a_seq (ar (.cons (o_int rfl rfl rfl)<|.nil _) ?_)
   refine a_seq ?_
   refine a_cond _ rfl (fun _=>?_) (fun c=>absurd hk16 (of_decide_eq_false c))
   refine a_skip (a_seq (a_block (a_seq ?_)))
   obtain ⟨v22,h21,hM⟩ := of_bind hM
   refine ar (.cons (t_index_r h21 rfl rfl rfl)<|.cons (t_load_ps h21 rfl rfl rfl rfl)<|.cons (o_assign rfl)<|.nil _) ?_
   obtain ⟨h23,hM⟩ := of_chk hM
   refine ar (.cons (o_move rfl)<|.cons (o_move rfl)<|.cons (t_append v22 h23 rfl rfl rfl Src.sl)<|.cons (o_assign rfl)<|.nil _) ?_
   refine ar (.cons (o_add rfl rfl (inR_i64 hk16 hx16))<|.cons (o_move rfl)<|.nil _) ?_
   obtain rfl:=Option.some.inj hM
   exact (Imp.of (fun i=>bif Nat.beq i 10004 then 22 else i) (.cons rfl (DLe.refl _) (.cons rfl (DLe.refl _) (.cons rfl (DLe.refl _) (.cons rfl (DLe.succ _ _) .nil)))) (.cons rfl (.refl _) (.cons rfl (.refl _) (.cons rfl (.refl _) (.cons rfl (.refl _) .nil)))) rfl rfl rfl)
  ·rintro k16 hk16 hx16
   refine a_seq (ar (.cons (o_int rfl rfl rfl)<|.nil _) ?_)
   refine a_seq ?_
   refine a_cond _ rfl (fun c=>absurd (of_decide_eq_true c) (Int.not_lt.2 hk16)) (fun _=>?_)
   refine a_exit ?_
   exact ⟨a17,hK18,(Imp.sh (fun i=>bif Nat.beq i 10001 then 10004 else i) rfl rfl rfl rfl rfl rfl)⟩
 ·rintro a2 hM
  replace hM : graph_Graph_Order_a1_K1 a2 = some r:=hM
  unfold graph_Graph_Order_a1_K1 at hM
  refine a_seq ?_
  obtain ⟨v4,h3,hM⟩ := of_bind hM
  refine ar (.cons (o_move rfl)<|.cons (o_callN (fun i=>bif Nat.beq i 100000 then 10001 else i) 1 (slices_SortFunc_record_Record_record_Record_a_c h3) rfl (DLeL.refl _) (.cons rfl .nil) rfl .nil)<|.nil _) ?_
  refine a_seq (ar (.cons (o_assign rfl)<|.nil _) ?_)
  refine a_cut (α:=(List AEv)) (fun s=>⟨[(6,.sl 9 (List.map AEv.dv s))],[(100000,some (.blk 55 [.row 100001,.row 100002])),(100001,some (.row 57 1 (List.map (encSl 29 RRec.dv) o0.grecords))),(100002,some (.mp (mpL api_Message.cs (encSlN 1 (DV.int .i64)) o0.garrivals)))],[100000,100001,100002]⟩) (fun s=>graph_Graph_Order_a1_K2 s = some r) ?_ ?_
  ·refine a_seq (ar (.cons (o_move rfl)<|.cons (t_len_r rfl rfl)<|.cons (o_move rfl)<|.nil _) ?_)
   obtain ⟨a7,hL8,hK8⟩ := of_bind hM
   refine a_block ?_
   refine a_fold (fun k6 (s : (List AEv))=>⟨[(6,.row 10002),(26,.sl 29 (List.map RRec.dv v4)),(27,.int .i64 (List.length v4 : Int)),(28,.int .i64 (k6 : Int))],[(10002,some (.row 33 9 (List.map AEv.dv s))),(100000,some (.blk 55 [.row 100001,.row 100002])),(100001,some (.row 57 1 (List.map (encSl 29 RRec.dv) o0.grecords))),(100002,some (.mp (mpL api_Message.cs (encSlN 1 (DV.int .i64)) o0.garrivals)))],[10002,100000,100001,100002]⟩) _ hL8 ((Imp.nilRow (t:=6) (id:=10003) 33 9 rfl rfl).trans ((Imp.freeze (id:=10001) rfl).trans (Imp.sh (fun i=>bif Nat.beq i 10002 then 10003 else i) rfl rfl rfl rfl rfl rfl))) ?_ ?_
   ·rintro k6 a7 t9 hk6 hx6 hM
    replace hM : graph_Graph_Order_a1_L3 v4 k6 a7 = some t9:=hM
    unfold graph_Graph_Order_a1_L3 at hM
    refine a_seq (ar (.cons (o_int rfl rfl rfl)<|.nil _) ?_)
    refine a_seq ?_
    refine a_cond _ rfl (fun _=>?_) (fun c=>absurd hk6 (of_decide_eq_false c))
    refine a_skip (a_seq (a_block (a_seq ?_)))
    obtain ⟨v12,h11,hM⟩ := of_bind hM
    refine ar (.cons (t_index h11 rfl rfl rfl)<|.cons (o_load_er rfl rfl rfl)<|.cons (o_alloc rfl)<|.cons (o_store rfl rfl rfl rfl rfl rfl rfl)<|.nil _) ?_
    obtain ⟨v14,h13,hM⟩ := of_bind hM
    obtain ⟨h15,hM⟩ := of_chk hM
    refine ar (.cons (o_move rfl)<|.cons (o_fieldAddr rfl)<|.cons (o_load_r rfl rfl rfl rfl)<|.cons (o_call (graph_clone_c h13) rfl (DLeL.refl _) rfl)<|.cons (t_build AEv.dv ([v14] : List AEv) rfl rfl rfl rfl rfl rfl rfl)<|.cons (t_append [v14] h15 rfl rfl rfl (Src.row rfl))<|.cons (o_assign rfl)<|.nil _) ?_
    refine ar (.cons (o_add rfl rfl (inR_i64 hk6 hx6))<|.cons (o_move rfl)<|.nil _) ?_
    obtain rfl:=Option.some.inj hM
    exact (Imp.of (fun i=>bif Nat.beq i 10002 then 37 else i) (.cons rfl (DLe.refl _) (.cons rfl (DLe.refl _) (.cons rfl (DLe.refl _) (.cons rfl (DLe.succ _ _) .nil)))) (.cons rfl (.refl _) (.cons rfl (.refl _) (.cons rfl (.refl _) (.cons rfl (.refl _) .nil)))) rfl rfl rfl)
   ·rintro k6 hk6 hx6
    refine a_seq (ar (.cons (o_int rfl rfl rfl)<|.nil _) ?_)
    refine a_seq ?_
    refine a_cond _ rfl (fun c=>absurd (of_decide_eq_true c) (Int.not_lt.2 hk6)) (fun _=>?_)
    refine a_exit ?_
    exact ⟨a7,hK8,((Imp.freeze (id:=10002) rfl).trans (Imp.sh (fun i=>i) rfl rfl rfl rfl rfl rfl))⟩
  ·rintro a5 hM
   replace hM : graph_Graph_Order_a1_K2 a5 = some r:=hM
   unfold graph_Graph_Order_a1_K2 at hM
   refine a_seq (ar (.cons (o_move rfl)<|.cons (o_assign rfl)<|.nil _) ?_)
   obtain rfl:=Option.some.inj hM
   refine a_imp (σ' := ⟨[(2,.sl 9 (List.map AEv.dv a5))],[(100000,some (.blk 55 [.row 100001,.row 100002])),(100001,some (.row 57 1 (List.map (encSl 29 RRec.dv) o0.grecords))),(100002,some (.mp (mpL api_Message.cs (encSlN 1 (DV.int .i64)) o0.garrivals)))],[100000,100001,100002]⟩) (Imp.sh (fun i=>i) rfl rfl rfl rfl rfl rfl) ?_
   exact a_ret (a_post (.r1 (.tmp rfl)) (DLe.refl _) (PostOk.spec (.cons rfl (.cons rfl (.cons rfl .nil)))))
def rootcauselaw31_GraphNil (x0 : graph_Node) (x1 : graph_Node) (x2 : Int) : Option Bool :=
 (rootcauselaw31_awake).bind fun v2=>
 if (!v2) = true then
  some false
 else
  (graph_Of_v2).bind fun v5=>
  (graph_Graph_Event_a (graph_Node.mk x0.gComponent x0.gSeq)).bind fun v7=>
  (gb (!v7.2) (([] : List graph_Node)) graph_Graph_Nodes_a1).bind fun v9=>
  (gb (!(v7.2 || ((List.length v9 : Int) != 0))) (false) (graph_Graph_Before_a1 (graph_Node.mk x0.gComponent x0.gSeq) x1)).bind fun v11=>
  (gb (!((v7.2 || ((List.length v9 : Int) != 0)) || v11)) (false) (graph_Graph_Concurrent_a (graph_Node.mk x0.gComponent x0.gSeq) x1)).bind fun v13=>
  (gb (!(((v7.2 || ((List.length v9 : Int) != 0)) || v11) || v13)) (([] : List graph_Node)) (graph_Graph_Edges_a1 (graph_Node.mk x0.gComponent x0.gSeq))).bind fun v15=>
  (gb (!((((v7.2 || ((List.length v9 : Int) != 0)) || v11) || v13) || ((List.length v15 : Int) != 0))) (([] : List graph_Node)) (graph_Graph_Past_a (graph_Node.mk x0.gComponent x0.gSeq))).bind fun v17=>
  (gb (!(((((v7.2 || ((List.length v9 : Int) != 0)) || v11) || v13) || ((List.length v15 : Int) != 0)) || ((List.length v17 : Int) != 0))) (([] : List graph_Node)) (graph_Graph_Future_a (graph_Node.mk x0.gComponent x0.gSeq))).bind fun v19=>
  (gb (!((((((v7.2 || ((List.length v9 : Int) != 0)) || v11) || v13) || ((List.length v15 : Int) != 0)) || ((List.length v17 : Int) != 0)) || ((List.length v19 : Int) != 0))) (([] : List AEv)) graph_Graph_Order_a).bind fun v21=>
  if (((((((v7.2 || ((List.length v9 : Int) != 0)) || v11) || v13) || ((List.length v15 : Int) != 0)) || ((List.length v17 : Int) != 0)) || ((List.length v19 : Int) != 0)) || ((List.length v21 : Int) != 0)) = true then
   some false
  else
   chk ((0 : Int)≤x2∧(0 : Int) < 8)<|
   (collect_New (IntKind.wrap .i64 (1 + (IntKind.wrap .i64 (x2 % 8))))).bind fun v25=>
   match v25 with
   | .inl v25_0=>
    (graph_Of_v1 v25_0).bind fun v28=>
    match v28 with
    | .inl v28_0=>
     (graph_Graph_Nodes_a v28_0).bind fun v30=>
     (gb ((List.length v30 : Int) == 0) (false) (graph_Graph_Before_a (graph_Node.mk x0.gComponent x0.gSeq) x1 v28_0)).bind fun v32=>
     (gb (((List.length v30 : Int) == 0) && (!v32)) (false) (graph_Graph_Concurrent_a1 (graph_Node.mk x0.gComponent x0.gSeq) x1 v28_0)).bind fun v34=>
     (gb ((((List.length v30 : Int) == 0) && (!v32)) && (!v34)) (([] : List AEv)) (graph_Graph_Order_a1 v28_0)).bind fun v36=>
     some (((((List.length v30 : Int) == 0) && (!v32)) && (!v34)) && ((List.length v36 : Int) == 0))
    | .inr v28_1=>
     some false
   | .inr v25_1=>
    none
theorem rootcauselaw31_GraphNil_c {x0 : graph_Node} {x1 : graph_Node} {x2 : Int} {r : Bool} (hM : rootcauselaw31_GraphNil x0 x1 x2 = some r) : PCall Tryz.prog 3 [.agg (graph_Node.cs x0),.agg (graph_Node.cs x1),.int .u8 x2] (.bool r):=by
 unfold rootcauselaw31_GraphNil at hM
 refine PCall.body Tryz.func3 Tryz.ntmps3 rfl rfl rfl rfl ?_
 refine a_seq (ar (.cons (o_box rfl rfl)<|.cons (o_box rfl rfl)<|.cons (o_assign rfl)<|.nil _) ?_)
 refine a_seq (a_seq ?_)
 obtain ⟨v2,h1,hM⟩ := of_bind hM
 refine ar (.cons (o_call (rootcauselaw31_awake_c h1) rfl (DLeL.refl _) rfl)<|.cons (o_not rfl)<|.nil _) ?_
 refine a_cond _ rfl (fun h3=>?_) (fun h3=>?_)
 ·replace hM:=(of_if hM).1 h3
  refine a_seq (ar (.cons (o_assign rfl)<|.nil _) ?_)
  obtain rfl:=Option.some.inj hM
  exact a_ret (a_post (.r1 (.tmp rfl)) (DLe.refl _) PostOk.nil.spec)
 ·replace hM:=(of_if hM).2 h3
  refine a_skip (a_seq ?_)
  obtain ⟨v5,h4,hM⟩ := of_bind hM
  refine ar (.cons (o_callN (fun i=>i) 0 (graph_Of_v2_c h4) rfl (DLeL.refl _) .nil rfl .nil)<|.cons (o_move rfl)<|.cons (o_extract rfl rfl)<|.cons (o_extract rfl rfl)<|.cons (o_assign rfl)<|.cons (o_assign rfl)<|.nil _) ?_
  refine a_seq (ar (.cons (o_assign rfl)<|.nil _) ?_)
  refine a_seq ?_
  obtain ⟨v7,h6,hM⟩ := of_bind hM
  refine ar (.cons (o_move rfl)<|.cons (o_load_r rfl rfl rfl rfl)<|.cons (o_callN (fun i=>i) 0 (graph_Graph_Event_a_c h6) rfl (DLeL.refl _) .nil rfl .nil)<|.cons (o_move rfl)<|.cons (o_extract rfl rfl)<|.cons (o_extract rfl rfl)<|.cons (o_alloc rfl)<|.cons (o_store rfl rfl rfl rfl rfl rfl rfl)<|.cons (o_assign rfl)<|.nil _) ?_
  refine a_seq (a_seq ?_)
  obtain ⟨v9,h8,hM⟩ := of_bind hM
  obtain ⟨v11,h10,hM⟩ := of_bind hM
  obtain ⟨v13,h12,hM⟩ := of_bind hM
  obtain ⟨v15,h14,hM⟩ := of_bind hM
  obtain ⟨v17,h16,hM⟩ := of_bind hM
  obtain ⟨v19,h18,hM⟩ := of_bind hM
  obtain ⟨v21,h20,hM⟩ := of_bind hM
  refine ar (.cons (o_move rfl)<|.cons (o_int rfl rfl rfl)<|.cons (o_move rfl)<|.cons (o_guardOn .bF rfl rfl rfl (.keep .nil) (o_move rfl))<|.cons (o_or rfl rfl)<|.cons (o_move rfl)<|.cons (o_guardG .bF rfl rfl (fun hb=>(.keep .nil)) (fun hb=>o_move rfl))<|.cons (o_guardG .bF rfl rfl (fun hb=>(.strip rfl hb .nil)) (fun hb=>o_callN (fun i=>i) 0 (graph_Graph_Nodes_a1_c (of_gb h8 hb)) rfl (DLeL.refl _) .nil rfl .nil))<|.cons (o_guardG .bF rfl rfl (fun hb=>(.strip rfl hb .nil)) (fun hb=>t_len rfl))<|.cons (o_guardG .bF rfl rfl (fun hb=>(.strip rfl hb .nil)) (fun hb=>o_int rfl rfl rfl))<|.cons (o_or rfl rfl)<|.cons (o_move rfl)<|.cons (o_guardG .bF rfl rfl (fun hb=>(.keep .nil)) (fun hb=>o_move rfl))<|.cons (o_guardG .bF rfl rfl (fun hb=>(.keep .nil)) (fun hb=>o_load_r rfl rfl rfl rfl))<|.cons (o_guardG .bF rfl rfl (fun hb=>(.keep .nil)) (fun hb=>o_load_r rfl rfl rfl rfl))<|.cons (o_guardG .bF rfl rfl (fun hb=>(.strip rfl hb (.strip rfl hb (.strip rfl hb .nil)))) (fun hb=>o_callN (fun i=>i) 0 (graph_Graph_Before_a1_c (of_gb h10 hb)) rfl (DLeL.refl _) .nil rfl .nil))<|.cons (o_or rfl rfl)<|.cons (o_move rfl)<|.cons (o_guardG .bF rfl rfl (fun hb=>(.keep .nil)) (fun hb=>o_move rfl))<|.cons (o_guardG .bF rfl rfl (fun hb=>(.keep .nil)) (fun hb=>o_load_r rfl rfl rfl rfl))<|.cons (o_guardG .bF rfl rfl (fun hb=>(.keep .nil)) (fun hb=>o_load_r rfl rfl rfl rfl))<|.cons (o_guardG .bF rfl rfl (fun hb=>(.strip rfl hb (.strip rfl hb (.strip rfl hb .nil)))) (fun hb=>o_callN (fun i=>i) 0 (graph_Graph_Concurrent_a_c (of_gb h12 hb)) rfl (DLeL.refl _) .nil rfl .nil))<|.cons (o_or rfl rfl)<|.cons (o_move rfl)<|.cons (o_guardG .bF rfl rfl (fun hb=>(.keep .nil)) (fun hb=>o_move rfl))<|.cons (o_guardG .bF rfl rfl (fun hb=>(.keep .nil)) (fun hb=>o_load_r rfl rfl rfl rfl))<|.cons (o_guardG .bF rfl rfl (fun hb=>(.strip rfl hb (.strip rfl hb .nil))) (fun hb=>o_callN (fun i=>i) 0 (graph_Graph_Edges_a1_c (of_gb h14 hb)) rfl (DLeL.refl _) .nil rfl .nil))<|.cons (o_guardG .bF rfl rfl (fun hb=>(.strip rfl hb .nil)) (fun hb=>t_len rfl))<|.cons (o_guardG .bF rfl rfl (fun hb=>(.strip rfl hb .nil)) (fun hb=>o_int rfl rfl rfl))<|.cons (o_or rfl rfl)<|.cons (o_move rfl)<|.cons (o_guardG .bF rfl rfl (fun hb=>(.keep .nil)) (fun hb=>o_move rfl))<|.cons (o_guardG .bF rfl rfl (fun hb=>(.keep .nil)) (fun hb=>o_load_r rfl rfl rfl rfl))<|.cons (o_guardG .bF rfl rfl (fun hb=>(.strip rfl hb (.strip rfl hb .nil))) (fun hb=>o_callN (fun i=>i) 0 (graph_Graph_Past_a_c (of_gb h16 hb)) rfl (DLeL.refl _) .nil rfl .nil))<|.cons (o_guardG .bF rfl rfl (fun hb=>(.strip rfl hb .nil)) (fun hb=>t_len rfl))<|.cons (o_guardG .bF rfl rfl (fun hb=>(.strip rfl hb .nil)) (fun hb=>o_int rfl rfl rfl))<|.cons (o_or rfl rfl)<|.cons (o_move rfl)<|.cons (o_guardG .bF rfl rfl (fun hb=>(.keep .nil)) (fun hb=>o_move rfl))<|.cons (o_guardG .bF rfl rfl (fun hb=>(.keep .nil)) (fun hb=>o_load_r rfl rfl rfl rfl))<|.cons (o_guardG .bF rfl rfl (fun hb=>(.strip rfl hb (.strip rfl hb .nil))) (fun hb=>o_callN (fun i=>i) 0 (graph_Graph_Future_a_c (of_gb h18 hb)) rfl (DLeL.refl _) .nil rfl .nil))<|.cons (o_guardG .bF rfl rfl (fun hb=>(.strip rfl hb .nil)) (fun hb=>t_len rfl))<|.cons (o_guardG .bF rfl rfl (fun hb=>(.strip rfl hb .nil)) (fun hb=>o_int rfl rfl rfl))<|.cons (o_or rfl rfl)<|.cons (o_move rfl)<|.cons (o_guardG .bF rfl rfl (fun hb=>(.keep .nil)) (fun hb=>o_move rfl))<|.cons (o_guardG .bF rfl rfl (fun hb=>(.strip rfl hb .nil)) (fun hb=>o_callN (fun i=>i) 0 (graph_Graph_Order_a_c (of_gb h20 hb)) rfl (DLeL.refl _) .nil rfl .nil))<|.cons (o_guardG .bF rfl rfl (fun hb=>(.strip rfl hb .nil)) (fun hb=>t_len rfl))<|.cons (o_guardG .bF rfl rfl (fun hb=>(.strip rfl hb .nil)) (fun hb=>o_int rfl rfl rfl))<|.cons (o_or rfl rfl)<|.nil _) ?_
  refine a_cond _ rfl (fun h22=>?_) (fun h22=>?_)
  ·replace hM:=(of_if hM).1 h22
   refine a_seq (ar (.cons (o_assign rfl)<|.nil _) ?_)
   obtain rfl:=Option.some.inj hM
   exact a_ret (a_post (.r1 (.tmp rfl)) (DLe.refl _) PostOk.nil.spec)
  ·replace hM:=(of_if hM).2 h22
   refine a_skip (a_seq ?_)
   obtain ⟨h23,hM⟩ := of_chk hM
   obtain ⟨v25,h24,hM⟩ := of_bind hM
   rcases v25 with v25_0 | v25_1
   ·refine ar (.cons (o_move rfl)<|.cons (o_rem rfl rfl h23)<|.cons (o_conv_w rfl)<|.cons (o_int rfl rfl rfl)<|.cons (o_callN (fun i=>bif Nat.beq i 50001 then 10002 else bif Nat.beq i 50000 then 10001 else i) 2 (collect_New_c0 h24) rfl (DLeL.refl _) .nil rfl .nil)<|.cons (o_move rfl)<|.cons (o_extract rfl rfl)<|.cons (o_extract rfl rfl)<|.cons (o_assign rfl)<|.cons (o_assign rfl)<|.nil _) ?_
    refine a_seq (a_seq (ar (.cons (o_move rfl)<|.cons (o_int rfl rfl rfl)<|.nil _) ?_))
    refine a_cond _ rfl (fun c=>by cases c) (fun _=>?_)
    refine a_skip (a_seq ?_)
    obtain ⟨v28,h27,hM⟩ := of_bind hM
    rcases v28 with v28_0 | v28_1
    ·refine ar (.cons (o_move rfl)<|.cons (o_callN (fun i=>bif Nat.beq i 50002 then 10005 else bif Nat.beq i 50001 then 10004 else bif Nat.beq i 50000 then 10003 else bif Nat.beq i 100000 then 10001 else bif Nat.beq i 100001 then 10002 else i) 3 (graph_Of_v1_c0 h27) rfl (DLeL.refl _) (.cons rfl (.cons rfl .nil)) rfl (.cons rfl (.cons rfl .nil)))<|.cons (o_move rfl)<|.cons (o_extract rfl rfl)<|.cons (o_extract rfl rfl)<|.cons (o_assign rfl)<|.cons (o_assign rfl)<|.nil _) ?_
     refine a_seq ?_
     obtain ⟨v30,h29,hM⟩ := of_bind hM
     obtain ⟨v32,h31,hM⟩ := of_bind hM
     obtain ⟨v34,h33,hM⟩ := of_bind hM
     obtain ⟨v36,h35,hM⟩ := of_bind hM
     refine ar (.cons (o_move rfl)<|.cons (o_int rfl rfl rfl)<|.cons (o_move rfl)<|.cons (o_guardOn .bT rfl rfl rfl (.keep .nil) (o_move rfl))<|.cons (o_guardOn .bT rfl rfl rfl (.strip rfl rfl .nil) (o_ptr_ne rfl))<|.cons (o_and rfl rfl)<|.cons (o_move rfl)<|.cons (o_guardOn .bT rfl rfl rfl (.keep .nil) (o_move rfl))<|.cons (o_guardOn .bT rfl rfl rfl (.strip rfl rfl .nil) (o_callN (fun i=>bif Nat.beq i 100000 then 10003 else bif Nat.beq i 100001 then 10004 else bif Nat.beq i 100002 then 10005 else i) 0 (graph_Graph_Nodes_a_c h29) rfl (DLeL.refl _) (.cons rfl (.cons rfl (.cons rfl .nil))) rfl (.cons rfl (.cons rfl (.cons rfl .nil)))))<|.cons (o_guardOn .bT rfl rfl rfl (.strip rfl rfl .nil) (t_len rfl))<|.cons (o_guardOn .bT rfl rfl rfl (.strip rfl rfl .nil) (o_int rfl rfl rfl))<|.cons (o_and rfl rfl)<|.cons (o_move rfl)<|.cons (o_guardG .bT rfl rfl (fun hb=>(.keep .nil)) (fun hb=>o_move rfl))<|.cons (o_guardG .bT rfl rfl (fun hb=>(.keep .nil)) (fun hb=>o_load_r rfl rfl rfl rfl))<|.cons (o_guardG .bT rfl rfl (fun hb=>(.keep .nil)) (fun hb=>o_load_r rfl rfl rfl rfl))<|.cons (o_guardG .bT rfl rfl (fun hb=>(.strip rfl hb (.strip rfl hb (.strip rfl hb .nil)))) (fun hb=>o_callN (fun i=>bif Nat.beq i 100000 then 10003 else bif Nat.beq i 100001 then 10004 else bif Nat.beq i 100002 then 10005 else i) 0 (graph_Graph_Before_a_c (of_gb h31 hb)) rfl (DLeL.refl _) (.cons rfl (.cons rfl (.cons rfl .nil))) rfl (.cons rfl (.cons rfl (.cons rfl .nil)))))<|.cons (o_guardG .bT rfl rfl (fun hb=>(.strip rfl hb .nil)) (fun hb=>o_not rfl))<|.cons (o_and rfl rfl)<|.cons (o_move rfl)<|.cons (o_guardG .bT rfl rfl (fun hb=>(.keep .nil)) (fun hb=>o_move rfl))<|.cons (o_guardG .bT rfl rfl (fun hb=>(.keep .nil)) (fun hb=>o_load_r rfl rfl rfl rfl))<|.cons (o_guardG .bT rfl rfl (fun hb=>(.keep .nil)) (fun hb=>o_load_r rfl rfl rfl rfl))<|.cons (o_guardG .bT rfl rfl (fun hb=>(.strip rfl hb (.strip rfl hb (.strip rfl hb .nil)))) (fun hb=>o_callN (fun i=>bif Nat.beq i 100000 then 10003 else bif Nat.beq i 100001 then 10004 else bif Nat.beq i 100002 then 10005 else i) 0 (graph_Graph_Concurrent_a1_c (of_gb h33 hb)) rfl (DLeL.refl _) (.cons rfl (.cons rfl (.cons rfl .nil))) rfl (.cons rfl (.cons rfl (.cons rfl .nil)))))<|.cons (o_guardG .bT rfl rfl (fun hb=>(.strip rfl hb .nil)) (fun hb=>o_not rfl))<|.cons (o_and rfl rfl)<|.cons (o_move rfl)<|.cons (o_guardG .bT rfl rfl (fun hb=>(.keep .nil)) (fun hb=>o_move rfl))<|.cons (o_guardG .bT rfl rfl (fun hb=>(.strip rfl hb .nil)) (fun hb=>o_callN (fun i=>bif Nat.beq i 100000 then 10003 else bif Nat.beq i 100001 then 10004 else bif Nat.beq i 100002 then 10005 else i) 0 (graph_Graph_Order_a1_c (of_gb h35 hb)) rfl (DLeL.refl _) (.cons rfl (.cons rfl (.cons rfl .nil))) rfl (.cons rfl (.cons rfl (.cons rfl .nil)))))<|.cons (o_guardG .bT rfl rfl (fun hb=>(.strip rfl hb .nil)) (fun hb=>t_len rfl))<|.cons (o_guardG .bT rfl rfl (fun hb=>(.strip rfl hb .nil)) (fun hb=>o_int rfl rfl rfl))<|.cons (o_and rfl rfl)<|.cons (o_assign rfl)<|.nil _) ?_
     obtain rfl:=Option.some.inj hM
     exact a_ret (a_post (.r1 (.tmp rfl)) (DLe.refl _) PostOk.nil.spec)
    ·refine ar (.cons (o_move rfl)<|.cons (o_callN (fun i=>bif Nat.beq i 100000 then 10001 else bif Nat.beq i 100001 then 10002 else i) 0 (graph_Of_v1_c1 h27) rfl (DLeL.refl _) (.cons rfl (.cons rfl .nil)) rfl (.cons rfl (.cons rfl .nil)))<|.cons (o_move rfl)<|.cons (o_extract rfl rfl)<|.cons (o_extract rfl rfl)<|.cons (o_assign rfl)<|.cons (o_assign rfl)<|.nil _) ?_
     refine a_seq (ar (.cons (o_move rfl)<|.cons (o_int rfl rfl rfl)<|.cons (o_move rfl)<|.cons (o_guardOff (.val (.pointer none)) .bT rfl rfl rfl)<|.cons (o_guardOff (.bool false) .bT rfl rfl rfl)<|.cons (o_and rfl rfl)<|.cons (o_move rfl)<|.cons (o_guardOff (.val (.pointer none)) .bT rfl rfl rfl)<|.cons (o_guardOff (.nils) .bT rfl rfl rfl)<|.cons (o_guardOff (.int .i64 0) .bT rfl rfl rfl)<|.cons (o_guardOff (.bool false) .bT rfl rfl rfl)<|.cons (o_and rfl rfl)<|.cons (o_move rfl)<|.cons (o_guardOff (.val (.pointer none)) .bT rfl rfl rfl)<|.cons (o_guardOff (.agg [.int .i64 0,.int .u64 0]) .bT rfl rfl rfl)<|.cons (o_guardOff (.agg [.int .i64 0,.int .u64 0]) .bT rfl rfl rfl)<|.cons (o_guardOff (.bool false) .bT rfl rfl rfl)<|.cons (o_guardOff (.bool false) .bT rfl rfl rfl)<|.cons (o_and rfl rfl)<|.cons (o_move rfl)<|.cons (o_guardOff (.val (.pointer none)) .bT rfl rfl rfl)<|.cons (o_guardOff (.agg [.int .i64 0,.int .u64 0]) .bT rfl rfl rfl)<|.cons (o_guardOff (.agg [.int .i64 0,.int .u64 0]) .bT rfl rfl rfl)<|.cons (o_guardOff (.bool false) .bT rfl rfl rfl)<|.cons (o_guardOff (.bool false) .bT rfl rfl rfl)<|.cons (o_and rfl rfl)<|.cons (o_move rfl)<|.cons (o_guardOff (.val (.pointer none)) .bT rfl rfl rfl)<|.cons (o_guardOff (.nils) .bT rfl rfl rfl)<|.cons (o_guardOff (.int .i64 0) .bT rfl rfl rfl)<|.cons (o_guardOff (.bool false) .bT rfl rfl rfl)<|.cons (o_and rfl rfl)<|.cons (o_assign rfl)<|.nil _) ?_)
     obtain rfl:=Option.some.inj hM
     exact a_ret (a_post (.r1 (.tmp rfl)) (DLe.refl _) PostOk.nil.spec)
   ·cases hM
theorem gn_awake : rootcauselaw31_awake = some true:=by kernel_rfl
theorem gn_find (k : Nat) (ms : List (api_Message × List Int)) (x : graph_Node) : ∃ r,graph_Graph_find_a x ⟨List.replicate k [],ms⟩ = some (r,false):=by
 have hp : ∃ i,graph_Graph_place_a x ⟨List.replicate k [],ms⟩ = some (i,false):=by
  unfold graph_Graph_place_a
  by_cases hc : ((decide (x.gComponent < 0)) || (decide ((List.length (graph_Graph.mk (List.replicate k []) ms).grecords : Int)≤x.gComponent))) = true
  ·exact ⟨0,by rw [if_pos hc]⟩
  ·rw [if_neg hc]
   simp only [Bool.or_eq_true,decide_eq_true_eq,not_or,List.length_replicate] at hc
   have hi : idx (List.replicate k ([] : List RRec)) x.gComponent = some []:=by
    unfold idx
    rw [if_pos (by omega)]
    rw [List.getElem?_replicate,if_pos (by omega)]
   have hb : slices_BinarySearchFunc_record_Record_record_Record_uint64_a [] x.gSeq = some (0,false):=by kernel_rfl
   exact ⟨0,by dsimp only; rw [hi]; simp only [Option.bind_some]; rw [hb]; rfl⟩
 obtain ⟨i,hi⟩ := hp
 exact ⟨_,by unfold graph_Graph_find_a; rw [hi]; rfl⟩
theorem gn_before (k : Nat) (ms : List (api_Message × List Int)) (x y : graph_Node) : graph_Graph_Before_a x y ⟨List.replicate k [],ms⟩ = some false:=by
 obtain ⟨r,hr⟩ := gn_find k ms x
 obtain ⟨s,hs⟩ := gn_find k ms y
 unfold graph_Graph_Before_a
 rw [hr,hs]
 rfl
theorem gn_conc (k : Nat) (ms : List (api_Message × List Int)) (x y : graph_Node) : graph_Graph_Concurrent_a1 x y ⟨List.replicate k [],ms⟩ = some false:=by
 obtain ⟨r,hr⟩ := gn_find k ms x
 obtain ⟨s,hs⟩ := gn_find k ms y
 unfold graph_Graph_Concurrent_a1
 rw [hr,hs]
 rfl
theorem gn_rest (k : Nat) (c : CColl) (x y : graph_Node) (h : graph_Of_v1 c = some (.inl ⟨List.replicate k [],[]⟩)) (h1 : graph_Graph_Nodes_a ⟨List.replicate k [],[]⟩ = some []) (h2 : graph_Graph_Order_a1 ⟨List.replicate k [],[]⟩ = some []) :
  ((graph_Of_v1 c).bind fun v28=>match v28 with
   | .inl v28_0=>
    (graph_Graph_Nodes_a v28_0).bind fun v30=>
    (gb ((List.length v30 : Int) == 0) (false) (graph_Graph_Before_a (graph_Node.mk x.gComponent x.gSeq) y v28_0)).bind fun v32=>
    (gb (((List.length v30 : Int) == 0) && (!v32)) (false) (graph_Graph_Concurrent_a1 (graph_Node.mk x.gComponent x.gSeq) y v28_0)).bind fun v34=>
    (gb ((((List.length v30 : Int) == 0) && (!v32)) && (!v34)) (([] : List AEv)) (graph_Graph_Order_a1 v28_0)).bind fun v36=>
    some (((((List.length v30 : Int) == 0) && (!v32)) && (!v34)) && ((List.length v36 : Int) == 0))
   | .inr v28_1=>some false) = some true:=by
 rw [h]
 simp only [Option.bind_some]
 rw [h1,gn_before,gn_conc,h2]
 rfl
theorem graphNil_law (x0 x1 : graph_Node) (x2 : Int) (h : (0 : Int)≤x2) : rootcauselaw31_GraphNil x0 x1 x2 = some true:=by
 unfold rootcauselaw31_GraphNil
 rw [gn_awake]
 have e1 : graph_Graph_Event_a (graph_Node.mk x0.gComponent x0.gSeq) = some (AEv.mk 0 0 0 0 0 0 0 0 [],false):=by kernel_rfl
 have e2 : graph_Graph_Before_a1 (graph_Node.mk x0.gComponent x0.gSeq) x1 = some false:=by kernel_rfl
 have e3 : graph_Graph_Concurrent_a (graph_Node.mk x0.gComponent x0.gSeq) x1 = some false:=by kernel_rfl
 have e4 : graph_Graph_Edges_a1 (graph_Node.mk x0.gComponent x0.gSeq) = some []:=by kernel_rfl
 have e5 : graph_Graph_Past_a (graph_Node.mk x0.gComponent x0.gSeq) = some []:=by kernel_rfl
 have e6 : graph_Graph_Future_a (graph_Node.mk x0.gComponent x0.gSeq) = some []:=by kernel_rfl
 have e7 : graph_Graph_Order_a = some []:=by kernel_rfl
 have e8 : graph_Graph_Nodes_a1 = some []:=by kernel_rfl
 have e9 : graph_Of_v2 = some ():=rfl
 simp only [e1,e2,e3,e4,e5,e6,e7,e8,e9,Option.bind_some,gb,Bool.not_true,Bool.false_eq_true,if_false,Bool.not_false,if_true,Bool.or_false,List.length_nil,Int.ofNat_zero,bne_self_eq_false,chk,Int.natCast_zero]
 have hm : x2 % 8 = 0∨x2 % 8 = 1∨x2 % 8 = 2∨x2 % 8 = 3∨x2 % 8 = 4∨x2 % 8 = 5∨x2 % 8 = 6∨x2 % 8 = 7:=by omega
 rw [if_pos ⟨h,by decide⟩]
 rcases hm with e | e | e | e | e | e | e | e <;> rw [e]
 ·have hc : collect_New (IntKind.i64.wrap (1 + IntKind.i64.wrap 0)) = some (.inl (CColl.mk (List.replicate 2 (CPart.mk [] [] false 0)))):=by kernel_rfl
  rw [hc]
  have h:=gn_rest 2 (CColl.mk (List.replicate 2 (CPart.mk [] [] false 0))) x0 x1 (by kernel_rfl) (by kernel_rfl) (by kernel_rfl)
  simp only [gb] at h
  exact h
 ·have hc : collect_New (IntKind.i64.wrap (1 + IntKind.i64.wrap 1)) = some (.inl (CColl.mk (List.replicate 3 (CPart.mk [] [] false 0)))):=by kernel_rfl
  rw [hc]
  have h:=gn_rest 3 (CColl.mk (List.replicate 3 (CPart.mk [] [] false 0))) x0 x1 (by kernel_rfl) (by kernel_rfl) (by kernel_rfl)
  simp only [gb] at h
  exact h
 ·have hc : collect_New (IntKind.i64.wrap (1 + IntKind.i64.wrap 2)) = some (.inl (CColl.mk (List.replicate 4 (CPart.mk [] [] false 0)))):=by kernel_rfl
  rw [hc]
  have h:=gn_rest 4 (CColl.mk (List.replicate 4 (CPart.mk [] [] false 0))) x0 x1 (by kernel_rfl) (by kernel_rfl) (by kernel_rfl)
  simp only [gb] at h
  exact h
 ·have hc : collect_New (IntKind.i64.wrap (1 + IntKind.i64.wrap 3)) = some (.inl (CColl.mk (List.replicate 5 (CPart.mk [] [] false 0)))):=by kernel_rfl
  rw [hc]
  have h:=gn_rest 5 (CColl.mk (List.replicate 5 (CPart.mk [] [] false 0))) x0 x1 (by kernel_rfl) (by kernel_rfl) (by kernel_rfl)
  simp only [gb] at h
  exact h
 ·have hc : collect_New (IntKind.i64.wrap (1 + IntKind.i64.wrap 4)) = some (.inl (CColl.mk (List.replicate 6 (CPart.mk [] [] false 0)))):=by kernel_rfl
  rw [hc]
  have h:=gn_rest 6 (CColl.mk (List.replicate 6 (CPart.mk [] [] false 0))) x0 x1 (by kernel_rfl) (by kernel_rfl) (by kernel_rfl)
  simp only [gb] at h
  exact h
 ·have hc : collect_New (IntKind.i64.wrap (1 + IntKind.i64.wrap 5)) = some (.inl (CColl.mk (List.replicate 7 (CPart.mk [] [] false 0)))):=by kernel_rfl
  rw [hc]
  have h:=gn_rest 7 (CColl.mk (List.replicate 7 (CPart.mk [] [] false 0))) x0 x1 (by kernel_rfl) (by kernel_rfl) (by kernel_rfl)
  simp only [gb] at h
  exact h
 ·have hc : collect_New (IntKind.i64.wrap (1 + IntKind.i64.wrap 6)) = some (.inl (CColl.mk (List.replicate 8 (CPart.mk [] [] false 0)))):=by kernel_rfl
  rw [hc]
  have h:=gn_rest 8 (CColl.mk (List.replicate 8 (CPart.mk [] [] false 0))) x0 x1 (by kernel_rfl) (by kernel_rfl) (by kernel_rfl)
  simp only [gb] at h
  exact h
 ·have hc : collect_New (IntKind.i64.wrap (1 + IntKind.i64.wrap 7)) = some (.inl (CColl.mk (List.replicate 9 (CPart.mk [] [] false 0)))):=by kernel_rfl
  rw [hc]
  have h:=gn_rest 9 (CColl.mk (List.replicate 9 (CPart.mk [] [] false 0))) x0 x1 (by kernel_rfl) (by kernel_rfl) (by kernel_rfl)
  simp only [gb] at h
  exact h
end Go.Proofs.YtcgfgilddjkpkaaGreat
