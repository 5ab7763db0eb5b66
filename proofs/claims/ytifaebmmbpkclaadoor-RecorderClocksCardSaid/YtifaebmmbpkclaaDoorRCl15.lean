/-
  What the claim leans on, part 15.
-/
import Derived.Test.YtifaebmmbpkclaaDoorRCl14
set_option maxRecDepth 100000
set_option maxHeartbeats 4000000
set_option linter.unusedVariables false
set_option linter.unusedSimpArgs false
namespace Go.Proofs.YtifaebmmbpkclaaDoor
open Go.RowKit
def VClk_Text_K1 (a1 : List ByteArray) : Option ByteArray :=
 (strings_Join a1 (ByteArray.mk #[44])).bind fun v3=>
 chk ((ByteArray.mk #[91]).size + v3.size≤9223372036854775807)<|
 chk (((ByteArray.mk #[91])++v3).size + (ByteArray.mk #[93]).size≤9223372036854775807)<|
 some (((ByteArray.mk #[91])++v3)++(ByteArray.mk #[93]))
def VClk_Text_L2 (x0 : VClk) (k8 : Nat) (a9 : List ByteArray) : Option (List ByteArray) :=
 chk (inA 16 (k8 : Int))<|
 (strconv_FormatUint (x0.gat (Int.toNat (k8 : Int))) 10).bind fun v15=>
 chk (apOk 16 (List.length a9 + List.length [v15]))<|
 some (a9++[v15])
def VClk_Text (x0 : VClk) : Option ByteArray :=
 (VClk_length x0).bind fun v7=>
 (foldM' 9223372036854775807 v7 (fun k8 s=>VClk_Text_L2 x0 k8 s) ([] : List ByteArray)).bind fun s=>VClk_Text_K1 s
theorem VClk_Text_c {x0 : VClk} {r : ByteArray} (hM : VClk_Text x0 = some r) : PCall Tryd.prog 12 [.agg (VClk.cs x0)] (.str r):=by
 unfold VClk_Text at hM
 refine PCall.body Tryd.func12 Tryd.ntmps12 rfl rfl rfl rfl ?_
 refine a_seq (ar (.cons (o_box rfl rfl)<|.cons (o_assign rfl)<|.nil _) ?_)
 refine a_seq (ar (.cons (o_assign rfl)<|.nil _) ?_)
 refine a_cut (α:=(List ByteArray)) (fun s=>⟨[(3,.sl 1 (List.map DV.str s))],[],[]⟩) (fun s=>VClk_Text_K1 s = some r) ?_ ?_
 ·refine a_seq ?_
  obtain ⟨v7,h6,hM⟩ := of_bind hM
  refine ar (.cons (o_load_r rfl rfl rfl rfl)<|.cons (o_call (VClk_length_c h6) rfl (DLeL.refl _) rfl)<|.cons (o_move rfl)<|.nil _) ?_
  obtain ⟨a9,hL10,hK10⟩ := of_bind hM
  refine a_block ?_
  refine a_fold (fun k8 (s : (List ByteArray))=>⟨[(1,.ref 1 0),(3,.row 10001),(6,.int .i64 v7),(7,.int .i64 (k8 : Int))],[(1,some (.blk 37 (VClk.cs x0))),(10001,some (.row 9 1 (List.map DV.str s)))],[1,10001]⟩) _ hL10 ((Imp.nilRow (t:=3) (id:=10002) 9 1 rfl rfl).trans (Imp.sh (fun i=>bif Nat.beq i 10001 then 10002 else i) rfl rfl rfl rfl rfl rfl)) ?_ ?_
  ·rintro k8 a9 t11 hk8 hx8 hM
   replace hM : VClk_Text_L2 x0 k8 a9 = some t11:=hM
   unfold VClk_Text_L2 at hM
   refine a_seq (ar (.cons (o_int rfl rfl rfl)<|.nil _) ?_)
   refine a_seq ?_
   refine a_cond _ rfl (fun _=>?_) (fun c=>absurd hk8 (of_decide_eq_false c))
   refine a_skip (a_seq (a_block (a_seq (ar (.cons (o_move rfl)<|.cons (o_assign rfl)<|.nil _) ?_))))
   obtain ⟨h13,hM⟩ := of_chk hM
   obtain ⟨v15,h14,hM⟩ := of_bind hM
   obtain ⟨h16,hM⟩ := of_chk hM
   refine ar (.cons (o_move rfl)<|.cons (o_move rfl)<|.cons (o_fieldAddr rfl)<|.cons (t_index_d h13 rfl rfl)<|.cons (o_load_s rfl rfl (arr_get1 (DV.int .u64) x0.gat h13 rfl))<|.cons (o_call (strconv_FormatUint_c h14) rfl (DLeL.refl _) rfl)<|.cons (t_build DV.str ([v15] : List ByteArray) rfl rfl rfl rfl rfl rfl rfl)<|.cons (t_append [v15] h16 rfl rfl rfl (Src.row rfl))<|.cons (o_assign rfl)<|.nil _) ?_
   refine ar (.cons (o_add rfl rfl (inR_i64 hk8 hx8))<|.cons (o_move rfl)<|.nil _) ?_
   obtain rfl:=Option.some.inj hM
   exact (Imp.of (fun i=>bif Nat.beq i 10001 then 17 else i) (.cons rfl (DLe.refl _) (.cons rfl (DLe.refl _) (.cons rfl (DLe.refl _) (.cons rfl (DLe.succ _ _) .nil)))) (.cons rfl (.refl _) (.cons rfl (.refl _) .nil)) rfl rfl rfl)
  ·rintro k8 hk8 hx8
   refine a_seq (ar (.cons (o_int rfl rfl rfl)<|.nil _) ?_)
   refine a_seq ?_
   refine a_cond _ rfl (fun c=>absurd (of_decide_eq_true c) (Int.not_lt.2 hk8)) (fun _=>?_)
   refine a_exit ?_
   exact ⟨a9,hK10,((Imp.freeze (id:=10001) rfl).trans (Imp.sh (fun i=>i) rfl rfl rfl rfl rfl rfl))⟩
 ·rintro a1 hM
  replace hM : VClk_Text_K1 a1 = some r:=hM
  unfold VClk_Text_K1 at hM
  refine a_seq ?_
  obtain ⟨v3,h2,hM⟩ := of_bind hM
  obtain ⟨h4,hM⟩ := of_chk hM
  obtain ⟨h5,hM⟩ := of_chk hM
  refine ar (.cons (o_move rfl)<|.cons (o_call (strings_Join_c h2) rfl (DLeL.refl _) rfl)<|.cons (o_cat h4 rfl rfl)<|.cons (o_cat h5 rfl rfl)<|.cons (o_assign rfl)<|.nil _) ?_
  obtain rfl:=Option.some.inj hM
  exact a_ret (a_post (.r1 (.tmp rfl)) (DLe.refl _) PostOk.nil.spec)
def rootcauselaw28_awake : Option Bool :=
 (recorder_Clocks [(AEv.mk 0 0 4 0 0 0 0 0 []),(AEv.mk 0 0 8 1 0 0 0 0 []),(AEv.mk 1 1 5 0 0 0 0 0 [])] 2).bind fun v2=>
 (gb (!((v2.2 != 0) || ((List.length v2.1 : Int) != 3))) (VClk.mk (arr 0 [])) (idx v2.1 1)).bind fun v4=>
 (gb (!((v2.2 != 0) || ((List.length v2.1 : Int) != 3))) (ByteArray.empty) (VClk_Text v4)).bind fun v6=>
 (gb (!(((v2.2 != 0) || ((List.length v2.1 : Int) != 3)) || (!(v6.toList == (ByteArray.mk #[91,50,93]).toList)))) (VClk.mk (arr 0 [])) (idx v2.1 2)).bind fun v8=>
 (gb (!(((v2.2 != 0) || ((List.length v2.1 : Int) != 3)) || (!(v6.toList == (ByteArray.mk #[91,50,93]).toList)))) (ByteArray.empty) (VClk_Text v8)).bind fun v10=>
 if ((((v2.2 != 0) || ((List.length v2.1 : Int) != 3)) || (!(v6.toList == (ByteArray.mk #[91,50,93]).toList))) || (!(v10.toList == (ByteArray.mk #[91,50,44,49,93]).toList))) = true then
  some false
 else
  (recorder_Write [(AEv.mk 0 0 4 0 0 0 0 0 []),(AEv.mk 0 0 8 1 0 0 0 0 []),(AEv.mk 1 1 5 0 0 0 0 0 [])] 2 0 (recorder_Config.mk 0 1)).bind fun v13=>
  (recorder_Read v13.1).bind fun v15=>
  (gb (((v13.2 == 0) && (v15.2 == 0)) && ((List.length v15.1 : Int) == 2)) (RRec.mk 0 0 (VClk.mk (arr 0 [])) 0 (AEv.mk 0 0 0 0 0 0 0 0 []) 0) (idx v15.1 0)).bind fun v17=>
  (gb ((((v13.2 == 0) && (v15.2 == 0)) && ((List.length v15.1 : Int) == 2)) && (v17.gWhat == 2)) (RRec.mk 0 0 (VClk.mk (arr 0 [])) 0 (AEv.mk 0 0 0 0 0 0 0 0 []) 0) (idx v15.1 0)).bind fun v19=>
  (gb (((((v13.2 == 0) && (v15.2 == 0)) && ((List.length v15.1 : Int) == 2)) && (v17.gWhat == 2)) && (v19.gCount == 2)) (RRec.mk 0 0 (VClk.mk (arr 0 [])) 0 (AEv.mk 0 0 0 0 0 0 0 0 []) 0) (idx v15.1 1)).bind fun v21=>
  (gb ((((((v13.2 == 0) && (v15.2 == 0)) && ((List.length v15.1 : Int) == 2)) && (v17.gWhat == 2)) && (v19.gCount == 2)) && (v21.gWhat == 3)) (RRec.mk 0 0 (VClk.mk (arr 0 [])) 0 (AEv.mk 0 0 0 0 0 0 0 0 []) 0) (idx v15.1 1)).bind fun v23=>
  some (((((((v13.2 == 0) && (v15.2 == 0)) && ((List.length v15.1 : Int) == 2)) && (v17.gWhat == 2)) && (v19.gCount == 2)) && (v21.gWhat == 3)) && (v23.gSeq == 2))
theorem rootcauselaw28_awake_c {r : Bool} (hM : rootcauselaw28_awake = some r) : PCall Tryd.prog 4 [] (.bool r):=by
 unfold rootcauselaw28_awake at hM
 refine PCall.body Tryd.func4 Tryd.ntmps4 rfl rfl rfl rfl ?_
 refine a_seq (ar (.cons (o_assign rfl)<|.nil _) ?_)
 refine a_seq (ar (.cons (o_build rfl rfl rfl)<|.cons (o_build rfl rfl rfl)<|.cons (o_build rfl rfl rfl)<|.cons (t_buildW AEv.dv ([(AEv.mk 0 0 4 0 0 0 0 0 []),(AEv.mk 0 0 8 1 0 0 0 0 []),(AEv.mk 1 1 5 0 0 0 0 0 [])] : List AEv) rfl rfl rfl rfl rfl rfl (.cons (DLe.agg (.cons (DLe.refl _) (.cons (DLe.refl _) (.cons (DLe.refl _) (.cons (DLe.refl _) (.cons (DLe.refl _) (.cons (DLe.refl _) (.cons (DLe.refl _) (.cons (DLe.refl _) (.cons (DLe.nils _) .nil)))))))))) (.cons (DLe.agg (.cons (DLe.refl _) (.cons (DLe.refl _) (.cons (DLe.refl _) (.cons (DLe.refl _) (.cons (DLe.refl _) (.cons (DLe.refl _) (.cons (DLe.refl _) (.cons (DLe.refl _) (.cons (DLe.nils _) .nil)))))))))) (.cons (DLe.agg (.cons (DLe.refl _) (.cons (DLe.refl _) (.cons (DLe.refl _) (.cons (DLe.refl _) (.cons (DLe.refl _) (.cons (DLe.refl _) (.cons (DLe.refl _) (.cons (DLe.refl _) (.cons (DLe.nils _) .nil)))))))))) .nil))))<|.cons (o_assign rfl)<|.nil _) ?_)
 refine a_seq (a_imp (Imp.freeze (id:=10) rfl) ?_)
 obtain ⟨v2,h1,hM⟩ := of_bind hM
 refine ar (.cons (o_move rfl)<|.cons (o_call (recorder_Clocks_c h1) rfl (DLeL.refl _) rfl)<|.cons (o_move rfl)<|.cons (o_extract rfl rfl)<|.cons (o_extract rfl rfl)<|.cons (o_assign rfl)<|.cons (o_assign rfl)<|.nil _) ?_
 refine a_seq (a_seq ?_)
 obtain ⟨v4,h3,hM⟩ := of_bind hM
 obtain ⟨v6,h5,hM⟩ := of_bind hM
 obtain ⟨v8,h7,hM⟩ := of_bind hM
 obtain ⟨v10,h9,hM⟩ := of_bind hM
 refine ar (.cons (o_move rfl)<|.cons (o_int rfl rfl rfl)<|.cons (o_move rfl)<|.cons (o_guardG .bF rfl rfl (fun hb=>(.keep .nil)) (fun hb=>o_move rfl))<|.cons (o_guardG .bF rfl rfl (fun hb=>(.strip rfl hb .nil)) (fun hb=>t_len rfl))<|.cons (o_guardG .bF rfl rfl (fun hb=>(.strip rfl hb .nil)) (fun hb=>o_int rfl rfl rfl))<|.cons (o_or rfl rfl)<|.cons (o_move rfl)<|.cons (o_guardG .bF rfl rfl (fun hb=>(.keep .nil)) (fun hb=>o_move rfl))<|.cons (o_guardG .bF rfl rfl (fun hb=>(.strip rfl hb .nil)) (fun hb=>t_index (of_gb h3 hb) rfl rfl rfl))<|.cons (o_guardG .bF rfl rfl (fun hb=>(.strip rfl hb .nil)) (fun hb=>o_load_er rfl rfl rfl))<|.cons (o_guardG .bF rfl rfl (fun hb=>(.strip rfl hb .nil)) (fun hb=>o_call (VClk_Text_c (of_gb h5 hb)) rfl (DLeL.refl _) rfl))<|.cons (o_guardG .bF rfl rfl (fun hb=>(.strip rfl hb .nil)) (fun hb=>o_strne rfl rfl))<|.cons (o_or rfl rfl)<|.cons (o_move rfl)<|.cons (o_guardG .bF rfl rfl (fun hb=>(.keep .nil)) (fun hb=>o_move rfl))<|.cons (o_guardG .bF rfl rfl (fun hb=>(.strip rfl hb .nil)) (fun hb=>t_index (of_gb h7 hb) rfl rfl rfl))<|.cons (o_guardG .bF rfl rfl (fun hb=>(.strip rfl hb .nil)) (fun hb=>o_load_er rfl rfl rfl))<|.cons (o_guardG .bF rfl rfl (fun hb=>(.strip rfl hb .nil)) (fun hb=>o_call (VClk_Text_c (of_gb h9 hb)) rfl (DLeL.refl _) rfl))<|.cons (o_guardG .bF rfl rfl (fun hb=>(.strip rfl hb .nil)) (fun hb=>o_strne rfl rfl))<|.cons (o_or rfl rfl)<|.nil _) ?_
 refine a_cond _ rfl (fun h11=>?_) (fun h11=>?_)
 ·replace hM:=(of_if hM).1 h11
  refine a_seq (ar (.cons (o_assign rfl)<|.nil _) ?_)
  obtain rfl:=Option.some.inj hM
  exact a_ret (a_post (.r1 (.tmp rfl)) (DLe.refl _) PostOk.nil.spec)
 ·replace hM:=(of_if hM).2 h11
  refine a_skip (a_seq ?_)
  obtain ⟨v13,h12,hM⟩ := of_bind hM
  refine ar (.cons (o_move rfl)<|.cons (o_build rfl rfl rfl)<|.cons (o_call (recorder_Write_c h12) rfl (DLeL.refl _) rfl)<|.cons (o_move rfl)<|.cons (o_extract rfl rfl)<|.cons (o_extract rfl rfl)<|.cons (o_assign rfl)<|.cons (o_assign rfl)<|.nil _) ?_
  refine a_seq ?_
  obtain ⟨v15,h14,hM⟩ := of_bind hM
  refine ar (.cons (o_move rfl)<|.cons (o_call (recorder_Read_c h14) rfl (DLeL.refl _) rfl)<|.cons (o_move rfl)<|.cons (o_extract rfl rfl)<|.cons (o_extract rfl rfl)<|.cons (o_assign rfl)<|.cons (o_assign rfl)<|.nil _) ?_
  refine a_seq ?_
  obtain ⟨v17,h16,hM⟩ := of_bind hM
  obtain ⟨v19,h18,hM⟩ := of_bind hM
  obtain ⟨v21,h20,hM⟩ := of_bind hM
  obtain ⟨v23,h22,hM⟩ := of_bind hM
  refine ar (.cons (o_move rfl)<|.cons (o_int rfl rfl rfl)<|.cons (o_move rfl)<|.cons (o_guardG .bT rfl rfl (fun hb=>(.keep .nil)) (fun hb=>o_move rfl))<|.cons (o_guardG .bT rfl rfl (fun hb=>(.strip rfl hb .nil)) (fun hb=>o_int rfl rfl rfl))<|.cons (o_and rfl rfl)<|.cons (o_move rfl)<|.cons (o_guardG .bT rfl rfl (fun hb=>(.keep .nil)) (fun hb=>o_move rfl))<|.cons (o_guardG .bT rfl rfl (fun hb=>(.strip rfl hb .nil)) (fun hb=>t_len rfl))<|.cons (o_guardG .bT rfl rfl (fun hb=>(.strip rfl hb .nil)) (fun hb=>o_int rfl rfl rfl))<|.cons (o_and rfl rfl)<|.cons (o_move rfl)<|.cons (o_guardG .bT rfl rfl (fun hb=>(.keep .nil)) (fun hb=>o_move rfl))<|.cons (o_guardG .bT rfl rfl (fun hb=>(.strip rfl hb .nil)) (fun hb=>t_index (of_gb h16 hb) rfl rfl rfl))<|.cons (o_guardG .bT rfl rfl (fun hb=>(.strip rfl hb .nil)) (fun hb=>o_fieldAddr_e rfl rfl))<|.cons (o_guardG .bT rfl rfl (fun hb=>(.strip rfl hb .nil)) (fun hb=>o_load_es rfl rfl))<|.cons (o_guardG .bT rfl rfl (fun hb=>(.strip rfl hb .nil)) (fun hb=>o_int rfl rfl rfl))<|.cons (o_and rfl rfl)<|.cons (o_move rfl)<|.cons (o_guardG .bT rfl rfl (fun hb=>(.keep .nil)) (fun hb=>o_move rfl))<|.cons (o_guardG .bT rfl rfl (fun hb=>(.strip rfl hb .nil)) (fun hb=>t_index (of_gb h18 hb) rfl rfl rfl))<|.cons (o_guardG .bT rfl rfl (fun hb=>(.strip rfl hb .nil)) (fun hb=>o_fieldAddr_e rfl rfl))<|.cons (o_guardG .bT rfl rfl (fun hb=>(.strip rfl hb .nil)) (fun hb=>o_load_es rfl rfl))<|.cons (o_guardG .bT rfl rfl (fun hb=>(.strip rfl hb .nil)) (fun hb=>o_int rfl rfl rfl))<|.cons (o_and rfl rfl)<|.cons (o_move rfl)<|.cons (o_guardG .bT rfl rfl (fun hb=>(.keep .nil)) (fun hb=>o_move rfl))<|.cons (o_guardG .bT rfl rfl (fun hb=>(.strip rfl hb .nil)) (fun hb=>t_index (of_gb h20 hb) rfl rfl rfl))<|.cons (o_guardG .bT rfl rfl (fun hb=>(.strip rfl hb .nil)) (fun hb=>o_fieldAddr_e rfl rfl))<|.cons (o_guardG .bT rfl rfl (fun hb=>(.strip rfl hb .nil)) (fun hb=>o_load_es rfl rfl))<|.cons (o_guardG .bT rfl rfl (fun hb=>(.strip rfl hb .nil)) (fun hb=>o_int rfl rfl rfl))<|.cons (o_and rfl rfl)<|.cons (o_move rfl)<|.cons (o_guardG .bT rfl rfl (fun hb=>(.keep .nil)) (fun hb=>o_move rfl))<|.cons (o_guardG .bT rfl rfl (fun hb=>(.strip rfl hb .nil)) (fun hb=>t_index (of_gb h22 hb) rfl rfl rfl))<|.cons (o_guardG .bT rfl rfl (fun hb=>(.strip rfl hb .nil)) (fun hb=>o_fieldAddr_e rfl rfl))<|.cons (o_guardG .bT rfl rfl (fun hb=>(.strip rfl hb .nil)) (fun hb=>o_load_es rfl rfl))<|.cons (o_guardG .bT rfl rfl (fun hb=>(.strip rfl hb .nil)) (fun hb=>o_int rfl rfl rfl))<|.cons (o_and rfl rfl)<|.cons (o_assign rfl)<|.nil _) ?_
  obtain rfl:=Option.some.inj hM
  exact a_ret (a_post (.r1 (.tmp rfl)) (DLe.refl _) PostOk.nil.spec)
def slices_Equal_uint64_uint64_K1 : Option Bool :=
 some true
def slices_Equal_uint64_uint64_L2 (x0 : List Int) (x1 : List Int) (k2 : Nat) : Option (Ctl Unit Bool) :=
 (idx x0 (k2 : Int)).bind fun v7=>
 (idx x1 (k2 : Int)).bind fun v9=>
 if (v7 != v9) = true then
  some (.done false)
 else
  some (.next ())
def slices_Equal_uint64_uint64 (x0 : List Int) (x1 : List Int) : Option Bool :=
 if ((List.length x0 : Int) != (List.length x1 : Int)) = true then
  some false
 else
  (forM' (E:=Bool) 9223372036854775807 (List.length x0 : Int) (fun k2 s=>slices_Equal_uint64_uint64_L2 x0 x1 k2) ()).bind fun
   | .next s=>slices_Equal_uint64_uint64_K1
   | .done r=>some r
theorem slices_Equal_uint64_uint64_c {x0 : List Int} {x1 : List Int} {r : Bool} (hM : slices_Equal_uint64_uint64 x0 x1 = some r) : PCall Tryd.prog 9 [.sl 1 (List.map (DV.int .u64) x0),.sl 1 (List.map (DV.int .u64) x1)] (.bool r):=by
 unfold slices_Equal_uint64_uint64 at hM
 refine PCall.body Tryd.func9 Tryd.ntmps9 rfl rfl rfl rfl ?_
 refine a_seq (ar (.cons (o_assign rfl)<|.nil _) ?_)
 refine a_seq (a_seq (ar (.cons (o_move rfl)<|.cons (t_len rfl)<|.cons (o_move rfl)<|.cons (t_len rfl)<|.cons (o_int rfl rfl rfl)<|.nil _) ?_))
 refine a_cond _ rfl (fun h1=>?_) (fun h1=>?_)
 ·replace hM:=(of_if hM).1 h1
  refine a_seq (ar (.cons (o_assign rfl)<|.nil _) ?_)
  obtain rfl:=Option.some.inj hM
  exact a_ret (a_post (.r1 (.tmp rfl)) (DLe.refl _) PostOk.nil.spec)
 ·replace hM:=(of_if hM).2 h1
  refine a_skip ?_
  refine a_cut (α:=Unit) (fun s=>⟨[],[],[]⟩) (fun s=>slices_Equal_uint64_uint64_K1 = some r) ?_ ?_
  ·refine a_seq (ar (.cons (o_move rfl)<|.cons (t_len rfl)<|.cons (o_move rfl)<|.nil _) ?_)
   obtain ⟨t3,hL3,hK3⟩ := of_bind hM
   refine a_block ?_
   refine a_for (fun k2 (s : Unit)=>⟨[(0,.sl 1 (List.map (DV.int .u64) x0)),(1,.sl 1 (List.map (DV.int .u64) x1)),(12,.int .i64 (List.length x0 : Int)),(13,.int .i64 (k2 : Int))],[],[]⟩) _ hL3 (Imp.sh (fun i=>i) rfl rfl rfl rfl rfl rfl) ?_ ?_
   ·rintro k2 _ t4 hk2 hx2 hM hE3
    replace hM : slices_Equal_uint64_uint64_L2 x0 x1 k2 = some t4:=hM
    unfold slices_Equal_uint64_uint64_L2 at hM
    refine a_seq (ar (.cons (o_int rfl rfl rfl)<|.nil _) ?_)
    refine a_seq ?_
    refine a_cond _ rfl (fun _=>?_) (fun c=>absurd hk2 (of_decide_eq_false c))
    refine a_skip (a_seq (a_block (a_seq (ar (.cons (o_move rfl)<|.cons (o_assign rfl)<|.nil _) ?_))))
    refine a_seq ?_
    obtain ⟨v7,h6,hM⟩ := of_bind hM
    obtain ⟨v9,h8,hM⟩ := of_bind hM
    refine ad mixed (.cons (o_move rfl)<|.cons (o_move rfl)<|.cons (t_index h6 rfl rfl rfl)<|.cons (o_load_es rfl rfl)<|.cons (o_move rfl)<|.cons (o_move rfl)<|.cons (t_index h8 rfl rfl rfl)<|.cons (o_load_es rfl rfl)<|.cons (o_int rfl rfl rfl)<|.nil _) ?_
    refine a_cond _ rfl (fun h10=>?_) (fun h10=>?_)
    ·replace hM:=(of_if hM).1 h10
     refine a_seq (ar (.cons (o_assign rfl)<|.nil _) ?_)
     obtain rfl:=Option.some.inj hM
     obtain rfl:=hE3 _ rfl
     obtain rfl:=Option.some.inj hK3
     exact a_ret (a_post (.r1 (.tmp rfl)) (DLe.refl _) PostOk.nil.spec)
    ·replace hM:=(of_if hM).2 h10
     refine a_skip (ar (.cons (o_add rfl rfl (inR_i64 hk2 hx2))<|.cons (o_move rfl)<|.nil _) ?_)
     obtain rfl:=Option.some.inj hM
     exact ⟨(),rfl,(Imp.of (fun i=>i) (.cons rfl (DLe.refl _) (.cons rfl (DLe.refl _) (.cons rfl (DLe.refl _) (.cons rfl (DLe.succ _ _) .nil)))) .nil rfl rfl rfl)⟩
   ·rintro k2 _ hk2 hx2 rfl
    refine a_seq (ar (.cons (o_int rfl rfl rfl)<|.nil _) ?_)
    refine a_seq ?_
    refine a_cond _ rfl (fun c=>absurd (of_decide_eq_true c) (Int.not_lt.2 hk2)) (fun _=>?_)
    refine a_exit ?_
    exact ⟨(),hK3,(Imp.sh (fun i=>i) rfl rfl rfl rfl rfl rfl)⟩
  ·rintro _ hM
   replace hM : slices_Equal_uint64_uint64_K1 = some r:=hM
   unfold slices_Equal_uint64_uint64_K1 at hM
   refine a_seq (ar (.cons (o_assign rfl)<|.nil _) ?_)
   obtain rfl:=Option.some.inj hM
   exact a_ret (a_post (.r1 (.tmp rfl)) (DLe.refl _) PostOk.nil.spec)
def rootcauselaw28_RecorderClocks_K1 : Option Bool :=
 some true
def rootcauselaw28_RecorderClocks_L2 (v7 : (List VClk) × Int) (v12 : (List (List Int))) (k14 : Nat) : Option (Ctl Unit Bool) :=
 (idx v7.1 (k14 : Int)).bind fun v19=>
 (VClk_Entries v19).bind fun v21=>
 (idx v12 (k14 : Int)).bind fun v23=>
 (rootcauseref24_Trim v23).bind fun v25=>
 (slices_Equal_uint64_uint64 v21 v25).bind fun v27=>
 if (!v27) = true then
  some (.done false)
 else
  some (.next ())
def rootcauselaw28_RecorderClocks (x0 : List AEv) (x1 : Int) : Option Bool :=
 (rootcauselaw28_awake).bind fun v2=>
 if (!v2) = true then
  some false
 else
  (rootcauselaw28_few x0 20).bind fun v5=>
  (recorder_Clocks v5 x1).bind fun v7=>
  (rootcauseref28_Check v5 x1).bind fun v9=>
  if (v9 != 0) = true then
   some ((v7.2 == v9) && ((List.length v7.1 : Int) == 0))
  else
   (rootcauseref28_Clocks v5 x1).bind fun v12=>
   if ((v7.2 != 0) || ((List.length v7.1 : Int) != (List.length v12 : Int))) = true then
    some false
   else
    (forM' (E:=Bool) 9223372036854775807 (List.length v7.1 : Int) (fun k14 s=>rootcauselaw28_RecorderClocks_L2 v7 v12 k14) ()).bind fun
     | .next s=>rootcauselaw28_RecorderClocks_K1
     | .done r=>some r
theorem rootcauselaw28_RecorderClocks_c {x0 : List AEv} {x1 : Int} {r : Bool} (hM : rootcauselaw28_RecorderClocks x0 x1 = some r) : PCall Tryd.prog 3 [.sl 9 (List.map AEv.dv x0),.int .i64 x1] (.bool r):=by
 unfold rootcauselaw28_RecorderClocks at hM
 refine PCall.body Tryd.func3 Tryd.ntmps3 rfl rfl rfl rfl ?_
 refine a_seq (ar (.cons (o_assign rfl)<|.nil _) ?_)
 refine a_seq (a_seq ?_)
 obtain ⟨v2,h1,hM⟩ := of_bind hM
 refine ar (.cons (o_call (rootcauselaw28_awake_c h1) rfl (DLeL.refl _) rfl)<|.cons (o_not rfl)<|.nil _) ?_
 refine a_cond _ rfl (fun h3=>?_) (fun h3=>?_)
 ·replace hM:=(of_if hM).1 h3
  refine a_seq (ar (.cons (o_assign rfl)<|.nil _) ?_)
  obtain rfl:=Option.some.inj hM
  exact a_ret (a_post (.r1 (.tmp rfl)) (DLe.refl _) PostOk.nil.spec)
 ·replace hM:=(of_if hM).2 h3
  refine a_skip (a_seq ?_)
  obtain ⟨v5,h4,hM⟩ := of_bind hM
  refine ar (.cons (o_move rfl)<|.cons (o_call (rootcauselaw28_few_c h4) rfl (DLeL.refl _) rfl)<|.cons (o_assign rfl)<|.nil _) ?_
  refine a_seq ?_
  obtain ⟨v7,h6,hM⟩ := of_bind hM
  refine ar (.cons (o_move rfl)<|.cons (o_move rfl)<|.cons (o_call (recorder_Clocks_c h6) rfl (DLeL.refl _) rfl)<|.cons (o_move rfl)<|.cons (o_extract rfl rfl)<|.cons (o_extract rfl rfl)<|.cons (o_assign rfl)<|.cons (o_assign rfl)<|.nil _) ?_
  refine a_seq (a_seq ?_)
  obtain ⟨v9,h8,hM⟩ := of_bind hM
  refine ar (.cons (o_move rfl)<|.cons (o_move rfl)<|.cons (o_call (rootcauseref28_Check_c h8) rfl (DLeL.refl _) rfl)<|.cons (o_assign rfl)<|.nil _) ?_
  refine a_seq (ar (.cons (o_move rfl)<|.cons (o_int rfl rfl rfl)<|.nil _) ?_)
  refine a_cond _ rfl (fun h10=>?_) (fun h10=>?_)
  ·replace hM:=(of_if hM).1 h10
   refine a_seq (ar (.cons (o_move rfl)<|.cons (o_move rfl)<|.cons (o_int rfl rfl rfl)<|.cons (o_move rfl)<|.cons (o_guardG .bT rfl rfl (fun hb=>(.keep .nil)) (fun hb=>o_move rfl))<|.cons (o_guardG .bT rfl rfl (fun hb=>(.strip rfl hb .nil)) (fun hb=>t_len rfl))<|.cons (o_guardG .bT rfl rfl (fun hb=>(.strip rfl hb .nil)) (fun hb=>o_int rfl rfl rfl))<|.cons (o_and rfl rfl)<|.cons (o_assign rfl)<|.nil _) ?_)
   obtain rfl:=Option.some.inj hM
   exact a_ret (a_post (.r1 (.tmp rfl)) (DLe.refl _) PostOk.nil.spec)
  ·replace hM:=(of_if hM).2 h10
   refine a_skip (a_seq ?_)
   obtain ⟨v12,h11,hM⟩ := of_bind hM
   refine ar (.cons (o_move rfl)<|.cons (o_move rfl)<|.cons (o_call (rootcauseref28_Clocks_c h11) rfl (DLeL.refl _) rfl)<|.cons (o_assign rfl)<|.nil _) ?_
   refine a_seq (a_seq (ar (.cons (o_move rfl)<|.cons (o_int rfl rfl rfl)<|.cons (o_move rfl)<|.cons (o_guardG .bF rfl rfl (fun hb=>(.keep .nil)) (fun hb=>o_move rfl))<|.cons (o_guardG .bF rfl rfl (fun hb=>(.strip rfl hb .nil)) (fun hb=>t_len rfl))<|.cons (o_guardG .bF rfl rfl (fun hb=>(.keep .nil)) (fun hb=>o_move rfl))<|.cons (o_guardG .bF rfl rfl (fun hb=>(.strip rfl hb .nil)) (fun hb=>t_len rfl))<|.cons (o_guardG .bF rfl rfl (fun hb=>(.strip rfl hb (.strip rfl hb .nil))) (fun hb=>o_int rfl rfl rfl))<|.cons (o_or rfl rfl)<|.nil _) ?_))
   refine a_cond _ rfl (fun h13=>?_) (fun h13=>?_)
   ·replace hM:=(of_if hM).1 h13
    refine a_seq (ar (.cons (o_assign rfl)<|.nil _) ?_)
    obtain rfl:=Option.some.inj hM
    exact a_ret (a_post (.r1 (.tmp rfl)) (DLe.refl _) PostOk.nil.spec)
   ·replace hM:=(of_if hM).2 h13
    refine a_skip ?_
    refine a_cut (α:=Unit) (fun s=>⟨[],[],[]⟩) (fun s=>rootcauselaw28_RecorderClocks_K1 = some r) ?_ ?_
    ·refine a_seq (ar (.cons (o_move rfl)<|.cons (t_len rfl)<|.cons (o_move rfl)<|.nil _) ?_)
     obtain ⟨t15,hL15,hK15⟩ := of_bind hM
     refine a_block ?_
     refine a_for (fun k14 (s : Unit)=>⟨[(5,.sl 16 (List.map VClk.dv v7.1)),(8,.sl 1 (List.map (encSl 1 (DV.int .u64)) v12)),(46,.int .i64 (List.length v7.1 : Int)),(47,.int .i64 (k14 : Int))],[],[]⟩) _ hL15 (Imp.sh (fun i=>i) rfl rfl rfl rfl rfl rfl) ?_ ?_
     ·rintro k14 _ t16 hk14 hx14 hM hE15
      replace hM : rootcauselaw28_RecorderClocks_L2 v7 v12 k14 = some t16:=hM
      unfold rootcauselaw28_RecorderClocks_L2 at hM
      refine a_seq (ar (.cons (o_int rfl rfl rfl)<|.nil _) ?_)
      refine a_seq ?_
      refine a_cond _ rfl (fun _=>?_) (fun c=>absurd hk14 (of_decide_eq_false c))
      refine a_skip (a_seq (a_block (a_seq (ar (.cons (o_move rfl)<|.cons (o_assign rfl)<|.nil _) ?_))))
      refine a_seq ?_
      obtain ⟨v19,h18,hM⟩ := of_bind hM
      obtain ⟨v21,h20,hM⟩ := of_bind hM
      obtain ⟨v23,h22,hM⟩ := of_bind hM
      obtain ⟨v25,h24,hM⟩ := of_bind hM
      obtain ⟨v27,h26,hM⟩ := of_bind hM
      refine ad mixed (.cons (o_move rfl)<|.cons (o_move rfl)<|.cons (t_index h18 rfl rfl rfl)<|.cons (o_load_er rfl rfl rfl)<|.cons (o_call (VClk_Entries_c h20) rfl (DLeL.refl _) rfl)<|.cons (o_move rfl)<|.cons (o_move rfl)<|.cons (t_index h22 rfl rfl rfl)<|.cons (o_load_es rfl rfl)<|.cons (o_call (rootcauseref24_Trim_c h24) rfl (DLeL.refl _) rfl)<|.cons (o_call (slices_Equal_uint64_uint64_c h26) rfl (DLeL.refl _) rfl)<|.cons (o_not rfl)<|.nil _) ?_
      refine a_cond _ rfl (fun h28=>?_) (fun h28=>?_)
      ·replace hM:=(of_if hM).1 h28
       refine a_seq (ar (.cons (o_assign rfl)<|.nil _) ?_)
       obtain rfl:=Option.some.inj hM
       obtain rfl:=hE15 _ rfl
       obtain rfl:=Option.some.inj hK15
       exact a_ret (a_post (.r1 (.tmp rfl)) (DLe.refl _) PostOk.nil.spec)
      ·replace hM:=(of_if hM).2 h28
       refine a_skip (ar (.cons (o_add rfl rfl (inR_i64 hk14 hx14))<|.cons (o_move rfl)<|.nil _) ?_)
       obtain rfl:=Option.some.inj hM
       exact ⟨(),rfl,(Imp.of (fun i=>i) (.cons rfl (DLe.refl _) (.cons rfl (DLe.refl _) (.cons rfl (DLe.refl _) (.cons rfl (DLe.succ _ _) .nil)))) .nil rfl rfl rfl)⟩
     ·rintro k14 _ hk14 hx14 rfl
      refine a_seq (ar (.cons (o_int rfl rfl rfl)<|.nil _) ?_)
      refine a_seq ?_
      refine a_cond _ rfl (fun c=>absurd (of_decide_eq_true c) (Int.not_lt.2 hk14)) (fun _=>?_)
      refine a_exit ?_
      exact ⟨(),hK15,(Imp.sh (fun i=>i) rfl rfl rfl rfl rfl rfl)⟩
    ·rintro _ hM
     replace hM : rootcauselaw28_RecorderClocks_K1 = some r:=hM
     unfold rootcauselaw28_RecorderClocks_K1 at hM
     refine a_seq (ar (.cons (o_assign rfl)<|.nil _) ?_)
     obtain rfl:=Option.some.inj hM
     exact a_ret (a_post (.r1 (.tmp rfl)) (DLe.refl _) PostOk.nil.spec)
end Go.Proofs.YtifaebmmbpkclaaDoor
namespace Go.Proofs.YtifaebmmbpkclaaDoor
theorem equal_self (xs : List Int) (hl : xs.length≤1000) : slices_Equal_uint64_uint64 xs xs = some true:=by
 unfold slices_Equal_uint64_uint64
 rw [if_neg (by simp)]
 rw [forM_next (S:=Unit) xs.length (fun _=>()) rfl rfl (by omega) (fun j hj=>by
  unfold slices_Equal_uint64_uint64_L2
  have hx : xs[j]? = some xs[j]:=List.getElem?_eq_getElem hj
  simp only [idx_nat,hx,Option.bind_some]
  rw [if_neg (by simp)])]
 rfl
theorem awake28 : rootcauselaw28_awake = some true:=by kernel_rfl
theorem recorderClocks_plain (x0 : List AEv) (x1 : Int) (hl : x0.length≤9223372036854775807) : rootcauselaw28_RecorderClocks x0 x1 = some true:=by
 obtain ⟨l,e1,e2,_⟩ := few_ok x0 hl
 unfold rootcauselaw28_RecorderClocks
 rw [awake28,Option.bind_some,if_neg (by simp),e1,Option.bind_some]
 by_cases hbad : x1 < 1∨8 < x1∨∃ e∈l,e.gComponent < 0∨x1 < e.gComponent
 ·obtain ⟨a1,a2⟩ := clocks_bad (n:=x1) (by omega) hbad
  rw [a1,a2]
  rfl
 ·have h1 : 1≤x1:=by omega
  have h2 : x1≤8:=by omega
  have hc : ∀ e∈l,0≤e.gComponent∧e.gComponent≤x1:=fun e he=>by
   have : ¬ (e.gComponent < 0∨x1 < e.gComponent):=fun h=>hbad (.inr (.inr ⟨e,he,h⟩))
   omega
  obtain ⟨cs,c0,c1,c2,c3⟩ := clocks_ok (n:=x1) (by omega) h1 h2 hc
  obtain ⟨out,p1,I⟩ := past_ok (l:=l) (by omega)
  obtain ⟨ws,w1,w2,w3⟩ := refClocks_ok (n:=x1) (by omega) h1 h2 hc p1 I
  rw [c0,Option.bind_some,check_ok (by omega) h1 h2 hc,Option.bind_some,if_neg (by simp),w1,Option.bind_some,if_neg (by simp [c1,w2])]
  rw [forM_next (S:=Unit) l.length (fun _=>()) rfl (by simp [c1]) (by simp [c1]; omega) (fun j hj=>by
   unfold rootcauselaw28_RecorderClocks_L2
   have hx : l[j]? = some l[j]:=List.getElem?_eq_getElem hj
   have hcj:=c2 j _ hx
   have hwj:=w3 j hj
   generalize hcl : nextC l cs j l[j] = cl at hcj
   have hg : cs.getD j zc = cl:=by rw [List.getD_eq_getElem?_getD,hcj]; rfl
   obtain ⟨ys,y1,y2,y3,_⟩ := same_entries (c:=cl) (xs:=(List.range (x1.toNat + 1)).map fun (c : Nat)=>((pcnt (compOf l) (cell out) l.length j (c : Int) : Nat) : Int)) (by simp; omega) (fun i hi=>by
    have hi' : i < x1.toNat + 1:=by simpa using hi
    have:=clock_count h1 h2 hc c1 c2 c3 I hj (i:=i) (by omega)
    rw [hg] at this
    rw [this]
    simp [hi']) (fun i h3 h4=>by
    have h3' : x1.toNat + 1≤i:=by simpa using h3
    have:=clock_count h1 h2 hc c1 c2 c3 I hj (i:=i) h4
    rw [hg] at this
    rw [this,cnt_above hc _ _ (by omega)]
    rfl)
   simp only [idx_nat,hcj,hwj,Option.bind_some,y1,y2]
   rw [equal_self ys (by omega)]
   rfl)]
  rfl
end Go.Proofs.YtifaebmmbpkclaaDoor
