/-
  What the claim leans on, part 15.
-/
import Derived.Test.YtifaebmmbpkclaaGreatDoorRRe14
set_option maxRecDepth 100000
set_option maxHeartbeats 4000000
set_option linter.unusedVariables false
set_option linter.unusedSimpArgs false
namespace Go.Proofs.YtifaebmmbpkclaaGreatDoor
open Go.RowKit
def VClk_Text_K1 (a1 : List ByteArray) : Option ByteArray :=
 (strings_Join a1 (ByteArray.mk #[44])).bind fun v3=>
 chk ((ByteArray.mk #[91]).size + v3.size≤9223372036854775807)<|
 chk (((ByteArray.mk #[91])++v3).size + (ByteArray.mk #[93]).size≤9223372036854775807)<|
 some (((ByteArray.mk #[91])++v3)++(ByteArray.mk #[93]))
def VClk_Text_L2 (x0 : VClk) (k8 : Nat) (a9 : List ByteArray) : Option (List ByteArray) :=
 chk (inA 16 (k8 : Int))<|
 (strconv_FormatUint (x0.gat (Int.toNat (k8 : Int))) 10).bind fun v15=>
 chk (apOk 16 (List.length a9 + List.length [v15]))<|
 some (a9++[v15])
def VClk_Text (x0 : VClk) : Option ByteArray :=
 (VClk_length x0).bind fun v7=>
 (foldM' 9223372036854775807 v7 (fun k8 s=>VClk_Text_L2 x0 k8 s) ([] : List ByteArray)).bind fun s=>VClk_Text_K1 s
theorem VClk_Text_c {x0 : VClk} {r : ByteArray} (hM : VClk_Text x0 = some r) : PCall Tryz.prog 16 [.agg (VClk.cs x0)] (.str r):=by
 unfold VClk_Text at hM
 refine PCall.body Tryz.func16 Tryz.ntmps16 rfl rfl rfl rfl ?_
 refine a_seq (ar (.cons (o_box rfl rfl)<|.cons (o_assign rfl)<|.nil _) ?_)
 refine a_seq (ar (.cons (o_assign rfl)<|.nil _) ?_)
 refine a_cut (α:=(List ByteArray)) (fun s=>⟨[(3,.sl 1 (List.map DV.str s))],[],[]⟩) (fun s=>VClk_Text_K1 s = some r) ?_ ?_
 ·refine a_seq ?_
  obtain ⟨v7,h6,hM⟩ := of_bind hM
  refine ar (.cons (o_load_r rfl rfl rfl rfl)<|.cons (o_call (VClk_length_c h6) rfl (DLeL.refl _) rfl)<|.cons (o_move rfl)<|.nil _) ?_
  obtain ⟨a9,hL10,hK10⟩ := of_bind hM
  refine a_block ?_
  refine a_fold (fun k8 (s : (List ByteArray))=>⟨[(1,.ref 1 0),(3,.row 10001),(6,.int .i64 v7),(7,.int .i64 (k8 : Int))],[(1,some (.blk 44 (VClk.cs x0))),(10001,some (.row 9 1 (List.map DV.str s)))],[1,10001]⟩) _ hL10 ((Imp.nilRow (t:=3) (id:=10002) 9 1 rfl rfl).trans (Imp.sh (fun i=>bif Nat.beq i 10001 then 10002 else i) rfl rfl rfl rfl rfl rfl)) ?_ ?_
  ·rintro k8 a9 t11 hk8 hx8 hM
   replace hM : VClk_Text_L2 x0 k8 a9 = some t11:=hM
   unfold VClk_Text_L2 at hM
   refine a_seq (ar (.cons (o_int rfl rfl rfl)<|.nil _) ?_)
   refine a_seq ?_
   refine a_cond _ rfl (fun _=>?_) (fun c=>absurd hk8 (of_decide_eq_false c))
   refine a_skip (a_seq (a_block (a_seq (ar (.cons (o_move rfl)<|.cons (o_assign rfl)<|.nil _) ?_))))
   obtain ⟨h13,hM⟩ := of_chk hM
   obtain ⟨v15,h14,hM⟩ := of_bind hM
   obtain ⟨h16,hM⟩ := of_chk hM
   refine ar (.cons (o_move rfl)<|.cons (o_move rfl)<|.cons (o_fieldAddr rfl)<|.cons (t_index_d h13 rfl rfl)<|.cons (o_load_s rfl rfl (arr_get1 (DV.int .u64) x0.gat h13 rfl))<|.cons (o_call (strconv_FormatUint_c h14) rfl (DLeL.refl _) rfl)<|.cons (t_build DV.str ([v15] : List ByteArray) rfl rfl rfl rfl rfl rfl rfl)<|.cons (t_append [v15] h16 rfl rfl rfl (Src.row rfl))<|.cons (o_assign rfl)<|.nil _) ?_
   refine ar (.cons (o_add rfl rfl (inR_i64 hk8 hx8))<|.cons (o_move rfl)<|.nil _) ?_
   obtain rfl:=Option.some.inj hM
   exact (Imp.of (fun i=>bif Nat.beq i 10001 then 17 else i) (.cons rfl (DLe.refl _) (.cons rfl (DLe.refl _) (.cons rfl (DLe.refl _) (.cons rfl (DLe.succ _ _) .nil)))) (.cons rfl (.refl _) (.cons rfl (.refl _) .nil)) rfl rfl rfl)
  ·rintro k8 hk8 hx8
   refine a_seq (ar (.cons (o_int rfl rfl rfl)<|.nil _) ?_)
   refine a_seq ?_
   refine a_cond _ rfl (fun c=>absurd (of_decide_eq_true c) (Int.not_lt.2 hk8)) (fun _=>?_)
   refine a_exit ?_
   exact ⟨a9,hK10,((Imp.freeze (id:=10001) rfl).trans (Imp.sh (fun i=>i) rfl rfl rfl rfl rfl rfl))⟩
 ·rintro a1 hM
  replace hM : VClk_Text_K1 a1 = some r:=hM
  unfold VClk_Text_K1 at hM
  refine a_seq ?_
  obtain ⟨v3,h2,hM⟩ := of_bind hM
  obtain ⟨h4,hM⟩ := of_chk hM
  obtain ⟨h5,hM⟩ := of_chk hM
  refine ar (.cons (o_move rfl)<|.cons (o_call (strings_Join_c h2) rfl (DLeL.refl _) rfl)<|.cons (o_cat h4 rfl rfl)<|.cons (o_cat h5 rfl rfl)<|.cons (o_assign rfl)<|.nil _) ?_
  obtain rfl:=Option.some.inj hM
  exact a_ret (a_post (.r1 (.tmp rfl)) (DLe.refl _) PostOk.nil.spec)
def rootcauselaw28_awake : Option Bool :=
 (recorder_Clocks [(AEv.mk 0 0 4 0 0 0 0 0 []),(AEv.mk 0 0 8 1 0 0 0 0 []),(AEv.mk 1 1 5 0 0 0 0 0 [])] 2).bind fun v2=>
 (gb (!((v2.2 != 0) || ((List.length v2.1 : Int) != 3))) (VClk.mk (arr 0 [])) (idx v2.1 1)).bind fun v4=>
 (gb (!((v2.2 != 0) || ((List.length v2.1 : Int) != 3))) (ByteArray.empty) (VClk_Text v4)).bind fun v6=>
 (gb (!(((v2.2 != 0) || ((List.length v2.1 : Int) != 3)) || (!(v6.toList == (ByteArray.mk #[91,50,93]).toList)))) (VClk.mk (arr 0 [])) (idx v2.1 2)).bind fun v8=>
 (gb (!(((v2.2 != 0) || ((List.length v2.1 : Int) != 3)) || (!(v6.toList == (ByteArray.mk #[91,50,93]).toList)))) (ByteArray.empty) (VClk_Text v8)).bind fun v10=>
 if ((((v2.2 != 0) || ((List.length v2.1 : Int) != 3)) || (!(v6.toList == (ByteArray.mk #[91,50,93]).toList))) || (!(v10.toList == (ByteArray.mk #[91,50,44,49,93]).toList))) = true then
  some false
 else
  (recorder_Write [(AEv.mk 0 0 4 0 0 0 0 0 []),(AEv.mk 0 0 8 1 0 0 0 0 []),(AEv.mk 1 1 5 0 0 0 0 0 [])] 2 0 (recorder_Config.mk 0 1)).bind fun v13=>
  (recorder_Read v13.1).bind fun v15=>
  (gb (((v13.2 == 0) && (v15.2 == 0)) && ((List.length v15.1 : Int) == 2)) (RRec.mk 0 0 (VClk.mk (arr 0 [])) 0 (AEv.mk 0 0 0 0 0 0 0 0 []) 0) (idx v15.1 0)).bind fun v17=>
  (gb ((((v13.2 == 0) && (v15.2 == 0)) && ((List.length v15.1 : Int) == 2)) && (v17.gWhat == 2)) (RRec.mk 0 0 (VClk.mk (arr 0 [])) 0 (AEv.mk 0 0 0 0 0 0 0 0 []) 0) (idx v15.1 0)).bind fun v19=>
  (gb (((((v13.2 == 0) && (v15.2 == 0)) && ((List.length v15.1 : Int) == 2)) && (v17.gWhat == 2)) && (v19.gCount == 2)) (RRec.mk 0 0 (VClk.mk (arr 0 [])) 0 (AEv.mk 0 0 0 0 0 0 0 0 []) 0) (idx v15.1 1)).bind fun v21=>
  (gb ((((((v13.2 == 0) && (v15.2 == 0)) && ((List.length v15.1 : Int) == 2)) && (v17.gWhat == 2)) && (v19.gCount == 2)) && (v21.gWhat == 3)) (RRec.mk 0 0 (VClk.mk (arr 0 [])) 0 (AEv.mk 0 0 0 0 0 0 0 0 []) 0) (idx v15.1 1)).bind fun v23=>
  some (((((((v13.2 == 0) && (v15.2 == 0)) && ((List.length v15.1 : Int) == 2)) && (v17.gWhat == 2)) && (v19.gCount == 2)) && (v21.gWhat == 3)) && (v23.gSeq == 2))
theorem rootcauselaw28_awake_c {r : Bool} (hM : rootcauselaw28_awake = some r) : PCall Tryz.prog 5 [] (.bool r):=by
 unfold rootcauselaw28_awake at hM
 refine PCall.body Tryz.func5 Tryz.ntmps5 rfl rfl rfl rfl ?_
 refine a_seq (ar (.cons (o_assign rfl)<|.nil _) ?_)
 refine a_seq (ar (.cons (o_build rfl rfl rfl)<|.cons (o_build rfl rfl rfl)<|.cons (o_build rfl rfl rfl)<|.cons (t_buildW AEv.dv ([(AEv.mk 0 0 4 0 0 0 0 0 []),(AEv.mk 0 0 8 1 0 0 0 0 []),(AEv.mk 1 1 5 0 0 0 0 0 [])] : List AEv) rfl rfl rfl rfl rfl rfl (.cons (DLe.agg (.cons (DLe.refl _) (.cons (DLe.refl _) (.cons (DLe.refl _) (.cons (DLe.refl _) (.cons (DLe.refl _) (.cons (DLe.refl _) (.cons (DLe.refl _) (.cons (DLe.refl _) (.cons (DLe.nils _) .nil)))))))))) (.cons (DLe.agg (.cons (DLe.refl _) (.cons (DLe.refl _) (.cons (DLe.refl _) (.cons (DLe.refl _) (.cons (DLe.refl _) (.cons (DLe.refl _) (.cons (DLe.refl _) (.cons (DLe.refl _) (.cons (DLe.nils _) .nil)))))))))) (.cons (DLe.agg (.cons (DLe.refl _) (.cons (DLe.refl _) (.cons (DLe.refl _) (.cons (DLe.refl _) (.cons (DLe.refl _) (.cons (DLe.refl _) (.cons (DLe.refl _) (.cons (DLe.refl _) (.cons (DLe.nils _) .nil)))))))))) .nil))))<|.cons (o_assign rfl)<|.nil _) ?_)
 refine a_seq (a_imp (Imp.freeze (id:=10) rfl) ?_)
 obtain ⟨v2,h1,hM⟩ := of_bind hM
 refine ar (.cons (o_move rfl)<|.cons (o_call (recorder_Clocks_c h1) rfl (DLeL.refl _) rfl)<|.cons (o_move rfl)<|.cons (o_extract rfl rfl)<|.cons (o_extract rfl rfl)<|.cons (o_assign rfl)<|.cons (o_assign rfl)<|.nil _) ?_
 refine a_seq (a_seq ?_)
 obtain ⟨v4,h3,hM⟩ := of_bind hM
 obtain ⟨v6,h5,hM⟩ := of_bind hM
 obtain ⟨v8,h7,hM⟩ := of_bind hM
 obtain ⟨v10,h9,hM⟩ := of_bind hM
 refine ar (.cons (o_move rfl)<|.cons (o_int rfl rfl rfl)<|.cons (o_move rfl)<|.cons (o_guardG .bF rfl rfl (fun hb=>(.keep .nil)) (fun hb=>o_move rfl))<|.cons (o_guardG .bF rfl rfl (fun hb=>(.strip rfl hb .nil)) (fun hb=>t_len rfl))<|.cons (o_guardG .bF rfl rfl (fun hb=>(.strip rfl hb .nil)) (fun hb=>o_int rfl rfl rfl))<|.cons (o_or rfl rfl)<|.cons (o_move rfl)<|.cons (o_guardG .bF rfl rfl (fun hb=>(.keep .nil)) (fun hb=>o_move rfl))<|.cons (o_guardG .bF rfl rfl (fun hb=>(.strip rfl hb .nil)) (fun hb=>t_index (of_gb h3 hb) rfl rfl rfl))<|.cons (o_guardG .bF rfl rfl (fun hb=>(.strip rfl hb .nil)) (fun hb=>o_load_er rfl rfl rfl))<|.cons (o_guardG .bF rfl rfl (fun hb=>(.strip rfl hb .nil)) (fun hb=>o_call (VClk_Text_c (of_gb h5 hb)) rfl (DLeL.refl _) rfl))<|.cons (o_guardG .bF rfl rfl (fun hb=>(.strip rfl hb .nil)) (fun hb=>o_strne rfl rfl))<|.cons (o_or rfl rfl)<|.cons (o_move rfl)<|.cons (o_guardG .bF rfl rfl (fun hb=>(.keep .nil)) (fun hb=>o_move rfl))<|.cons (o_guardG .bF rfl rfl (fun hb=>(.strip rfl hb .nil)) (fun hb=>t_index (of_gb h7 hb) rfl rfl rfl))<|.cons (o_guardG .bF rfl rfl (fun hb=>(.strip rfl hb .nil)) (fun hb=>o_load_er rfl rfl rfl))<|.cons (o_guardG .bF rfl rfl (fun hb=>(.strip rfl hb .nil)) (fun hb=>o_call (VClk_Text_c (of_gb h9 hb)) rfl (DLeL.refl _) rfl))<|.cons (o_guardG .bF rfl rfl (fun hb=>(.strip rfl hb .nil)) (fun hb=>o_strne rfl rfl))<|.cons (o_or rfl rfl)<|.nil _) ?_
 refine a_cond _ rfl (fun h11=>?_) (fun h11=>?_)
 ·replace hM:=(of_if hM).1 h11
  refine a_seq (ar (.cons (o_assign rfl)<|.nil _) ?_)
  obtain rfl:=Option.some.inj hM
  exact a_ret (a_post (.r1 (.tmp rfl)) (DLe.refl _) PostOk.nil.spec)
 ·replace hM:=(of_if hM).2 h11
  refine a_skip (a_seq ?_)
  obtain ⟨v13,h12,hM⟩ := of_bind hM
  refine ar (.cons (o_move rfl)<|.cons (o_build rfl rfl rfl)<|.cons (o_call (recorder_Write_c h12) rfl (DLeL.refl _) rfl)<|.cons (o_move rfl)<|.cons (o_extract rfl rfl)<|.cons (o_extract rfl rfl)<|.cons (o_assign rfl)<|.cons (o_assign rfl)<|.nil _) ?_
  refine a_seq ?_
  obtain ⟨v15,h14,hM⟩ := of_bind hM
  refine ar (.cons (o_move rfl)<|.cons (o_call (recorder_Read_c h14) rfl (DLeL.refl _) rfl)<|.cons (o_move rfl)<|.cons (o_extract rfl rfl)<|.cons (o_extract rfl rfl)<|.cons (o_assign rfl)<|.cons (o_assign rfl)<|.nil _) ?_
  refine a_seq ?_
  obtain ⟨v17,h16,hM⟩ := of_bind hM
  obtain ⟨v19,h18,hM⟩ := of_bind hM
  obtain ⟨v21,h20,hM⟩ := of_bind hM
  obtain ⟨v23,h22,hM⟩ := of_bind hM
  refine ar (.cons (o_move rfl)<|.cons (o_int rfl rfl rfl)<|.cons (o_move rfl)<|.cons (o_guardG .bT rfl rfl (fun hb=>(.keep .nil)) (fun hb=>o_move rfl))<|.cons (o_guardG .bT rfl rfl (fun hb=>(.strip rfl hb .nil)) (fun hb=>o_int rfl rfl rfl))<|.cons (o_and rfl rfl)<|.cons (o_move rfl)<|.cons (o_guardG .bT rfl rfl (fun hb=>(.keep .nil)) (fun hb=>o_move rfl))<|.cons (o_guardG .bT rfl rfl (fun hb=>(.strip rfl hb .nil)) (fun hb=>t_len rfl))<|.cons (o_guardG .bT rfl rfl (fun hb=>(.strip rfl hb .nil)) (fun hb=>o_int rfl rfl rfl))<|.cons (o_and rfl rfl)<|.cons (o_move rfl)<|.cons (o_guardG .bT rfl rfl (fun hb=>(.keep .nil)) (fun hb=>o_move rfl))<|.cons (o_guardG .bT rfl rfl (fun hb=>(.strip rfl hb .nil)) (fun hb=>t_index (of_gb h16 hb) rfl rfl rfl))<|.cons (o_guardG .bT rfl rfl (fun hb=>(.strip rfl hb .nil)) (fun hb=>o_fieldAddr_e rfl rfl))<|.cons (o_guardG .bT rfl rfl (fun hb=>(.strip rfl hb .nil)) (fun hb=>o_load_es rfl rfl))<|.cons (o_guardG .bT rfl rfl (fun hb=>(.strip rfl hb .nil)) (fun hb=>o_int rfl rfl rfl))<|.cons (o_and rfl rfl)<|.cons (o_move rfl)<|.cons (o_guardG .bT rfl rfl (fun hb=>(.keep .nil)) (fun hb=>o_move rfl))<|.cons (o_guardG .bT rfl rfl (fun hb=>(.strip rfl hb .nil)) (fun hb=>t_index (of_gb h18 hb) rfl rfl rfl))<|.cons (o_guardG .bT rfl rfl (fun hb=>(.strip rfl hb .nil)) (fun hb=>o_fieldAddr_e rfl rfl))<|.cons (o_guardG .bT rfl rfl (fun hb=>(.strip rfl hb .nil)) (fun hb=>o_load_es rfl rfl))<|.cons (o_guardG .bT rfl rfl (fun hb=>(.strip rfl hb .nil)) (fun hb=>o_int rfl rfl rfl))<|.cons (o_and rfl rfl)<|.cons (o_move rfl)<|.cons (o_guardG .bT rfl rfl (fun hb=>(.keep .nil)) (fun hb=>o_move rfl))<|.cons (o_guardG .bT rfl rfl (fun hb=>(.strip rfl hb .nil)) (fun hb=>t_index (of_gb h20 hb) rfl rfl rfl))<|.cons (o_guardG .bT rfl rfl (fun hb=>(.strip rfl hb .nil)) (fun hb=>o_fieldAddr_e rfl rfl))<|.cons (o_guardG .bT rfl rfl (fun hb=>(.strip rfl hb .nil)) (fun hb=>o_load_es rfl rfl))<|.cons (o_guardG .bT rfl rfl (fun hb=>(.strip rfl hb .nil)) (fun hb=>o_int rfl rfl rfl))<|.cons (o_and rfl rfl)<|.cons (o_move rfl)<|.cons (o_guardG .bT rfl rfl (fun hb=>(.keep .nil)) (fun hb=>o_move rfl))<|.cons (o_guardG .bT rfl rfl (fun hb=>(.strip rfl hb .nil)) (fun hb=>t_index (of_gb h22 hb) rfl rfl rfl))<|.cons (o_guardG .bT rfl rfl (fun hb=>(.strip rfl hb .nil)) (fun hb=>o_fieldAddr_e rfl rfl))<|.cons (o_guardG .bT rfl rfl (fun hb=>(.strip rfl hb .nil)) (fun hb=>o_load_es rfl rfl))<|.cons (o_guardG .bT rfl rfl (fun hb=>(.strip rfl hb .nil)) (fun hb=>o_int rfl rfl rfl))<|.cons (o_and rfl rfl)<|.cons (o_assign rfl)<|.nil _) ?_
  obtain rfl:=Option.some.inj hM
  exact a_ret (a_post (.r1 (.tmp rfl)) (DLe.refl _) PostOk.nil.spec)
def rootcauseref24_in (x0 : Int) (x1 : Int) (x2 : Int) : Option Bool :=
 some ((decide (x1≤x0)) && (decide (x0≤x2)))
theorem rootcauseref24_in_c {x0 : Int} {x1 : Int} {x2 : Int} {r : Bool} (hM : rootcauseref24_in x0 x1 x2 = some r) : PCall Tryz.prog 47 [.int .i64 x0,.int .i64 x1,.int .i64 x2] (.bool r):=by
 unfold rootcauseref24_in at hM
 refine PCall.body Tryz.func47 Tryz.ntmps47 rfl rfl rfl rfl ?_
 refine a_seq (ar (.cons (o_assign rfl)<|.nil _) ?_)
 refine a_seq (ar (.cons (o_move rfl)<|.cons (o_move rfl)<|.cons (o_int rfl rfl rfl)<|.cons (o_move rfl)<|.cons (o_guardG .bT rfl rfl (fun hb=>(.keep .nil)) (fun hb=>o_move rfl))<|.cons (o_guardG .bT rfl rfl (fun hb=>(.keep .nil)) (fun hb=>o_move rfl))<|.cons (o_guardG .bT rfl rfl (fun hb=>(.strip rfl hb (.strip rfl hb .nil))) (fun hb=>o_int rfl rfl rfl))<|.cons (o_and rfl rfl)<|.cons (o_assign rfl)<|.nil _) ?_)
 obtain rfl:=Option.some.inj hM
 exact a_ret (a_post (.r1 (.tmp rfl)) (DLe.refl _) PostOk.nil.spec)
def rootcauseref17_SameEvent_K1 : Option Bool :=
 some true
def rootcauseref17_SameEvent_L2 (x0 : AEv) (x1 : AEv) (k2 : Nat) : Option (Ctl Unit Bool) :=
 (idx x0.gArgs (k2 : Int)).bind fun v7=>
 (idx x1.gArgs (k2 : Int)).bind fun v9=>
 if (v7 != v9) = true then
  some (.done false)
 else
  some (.next ())
def rootcauseref17_SameEvent (x0 : AEv) (x1 : AEv) : Option Bool :=
 if (((((((((x0.gTick != x1.gTick) || (x0.gComponent != x1.gComponent)) || (x0.gKind != x1.gKind)) || (x0.gPeer != x1.gPeer)) || (x0.gN != x1.gN)) || (x0.gCopy != x1.gCopy)) || (x0.gHandler != x1.gHandler)) || (x0.gD != x1.gD)) || ((List.length x0.gArgs : Int) != (List.length x1.gArgs : Int))) = true then
  some false
 else
  (forM' (E:=Bool) 9223372036854775807 (List.length x0.gArgs : Int) (fun k2 s=>rootcauseref17_SameEvent_L2 x0 x1 k2) ()).bind fun
   | .next s=>rootcauseref17_SameEvent_K1
   | .done r=>some r
theorem rootcauseref17_SameEvent_c {x0 : AEv} {x1 : AEv} {r : Bool} (hM : rootcauseref17_SameEvent x0 x1 = some r) : PCall Tryz.prog 50 [.agg (AEv.cs x0),.agg (AEv.cs x1)] (.bool r):=by
 unfold rootcauseref17_SameEvent at hM
 refine PCall.body Tryz.func50 Tryz.ntmps50 rfl rfl rfl rfl ?_
 refine a_seq (ar (.cons (o_box rfl rfl)<|.cons (o_box rfl rfl)<|.cons (o_assign rfl)<|.nil _) ?_)
 refine a_seq (a_seq (ar (.cons (o_fieldAddr rfl)<|.cons (o_load_s rfl rfl rfl)<|.cons (o_fieldAddr rfl)<|.cons (o_load_s rfl rfl rfl)<|.cons (o_int rfl rfl rfl)<|.cons (o_move rfl)<|.cons (o_guardG .bF rfl rfl (fun hb=>(.keep .nil)) (fun hb=>o_fieldAddr rfl))<|.cons (o_guardG .bF rfl rfl (fun hb=>(.strip rfl hb .nil)) (fun hb=>o_load_s rfl rfl rfl))<|.cons (o_guardG .bF rfl rfl (fun hb=>(.keep .nil)) (fun hb=>o_fieldAddr rfl))<|.cons (o_guardG .bF rfl rfl (fun hb=>(.strip rfl hb .nil)) (fun hb=>o_load_s rfl rfl rfl))<|.cons (o_guardG .bF rfl rfl (fun hb=>(.strip rfl hb (.strip rfl hb .nil))) (fun hb=>o_int rfl rfl rfl))<|.cons (o_or rfl rfl)<|.cons (o_move rfl)<|.cons (o_guardG .bF rfl rfl (fun hb=>(.keep .nil)) (fun hb=>o_fieldAddr rfl))<|.cons (o_guardG .bF rfl rfl (fun hb=>(.strip rfl hb .nil)) (fun hb=>o_load_s rfl rfl rfl))<|.cons (o_guardG .bF rfl rfl (fun hb=>(.keep .nil)) (fun hb=>o_fieldAddr rfl))<|.cons (o_guardG .bF rfl rfl (fun hb=>(.strip rfl hb .nil)) (fun hb=>o_load_s rfl rfl rfl))<|.cons (o_guardG .bF rfl rfl (fun hb=>(.strip rfl hb (.strip rfl hb .nil))) (fun hb=>o_int rfl rfl rfl))<|.cons (o_or rfl rfl)<|.cons (o_move rfl)<|.cons (o_guardG .bF rfl rfl (fun hb=>(.keep .nil)) (fun hb=>o_fieldAddr rfl))<|.cons (o_guardG .bF rfl rfl (fun hb=>(.strip rfl hb .nil)) (fun hb=>o_load_s rfl rfl rfl))<|.cons (o_guardG .bF rfl rfl (fun hb=>(.keep .nil)) (fun hb=>o_fieldAddr rfl))<|.cons (o_guardG .bF rfl rfl (fun hb=>(.strip rfl hb .nil)) (fun hb=>o_load_s rfl rfl rfl))<|.cons (o_guardG .bF rfl rfl (fun hb=>(.strip rfl hb (.strip rfl hb .nil))) (fun hb=>o_int rfl rfl rfl))<|.cons (o_or rfl rfl)<|.cons (o_move rfl)<|.cons (o_guardG .bF rfl rfl (fun hb=>(.keep .nil)) (fun hb=>o_fieldAddr rfl))<|.cons (o_guardG .bF rfl rfl (fun hb=>(.strip rfl hb .nil)) (fun hb=>o_load_s rfl rfl rfl))<|.cons (o_guardG .bF rfl rfl (fun hb=>(.keep .nil)) (fun hb=>o_fieldAddr rfl))<|.cons (o_guardG .bF rfl rfl (fun hb=>(.strip rfl hb .nil)) (fun hb=>o_load_s rfl rfl rfl))<|.cons (o_guardG .bF rfl rfl (fun hb=>(.strip rfl hb (.strip rfl hb .nil))) (fun hb=>o_int rfl rfl rfl))<|.cons (o_or rfl rfl)<|.cons (o_move rfl)<|.cons (o_guardG .bF rfl rfl (fun hb=>(.keep .nil)) (fun hb=>o_fieldAddr rfl))<|.cons (o_guardG .bF rfl rfl (fun hb=>(.strip rfl hb .nil)) (fun hb=>o_load_s rfl rfl rfl))<|.cons (o_guardG .bF rfl rfl (fun hb=>(.keep .nil)) (fun hb=>o_fieldAddr rfl))<|.cons (o_guardG .bF rfl rfl (fun hb=>(.strip rfl hb .nil)) (fun hb=>o_load_s rfl rfl rfl))<|.cons (o_guardG .bF rfl rfl (fun hb=>(.strip rfl hb (.strip rfl hb .nil))) (fun hb=>o_int rfl rfl rfl))<|.cons (o_or rfl rfl)<|.cons (o_move rfl)<|.cons (o_guardG .bF rfl rfl (fun hb=>(.keep .nil)) (fun hb=>o_fieldAddr rfl))<|.cons (o_guardG .bF rfl rfl (fun hb=>(.strip rfl hb .nil)) (fun hb=>o_load_s rfl rfl rfl))<|.cons (o_guardG .bF rfl rfl (fun hb=>(.keep .nil)) (fun hb=>o_fieldAddr rfl))<|.cons (o_guardG .bF rfl rfl (fun hb=>(.strip rfl hb .nil)) (fun hb=>o_load_s rfl rfl rfl))<|.cons (o_guardG .bF rfl rfl (fun hb=>(.strip rfl hb (.strip rfl hb .nil))) (fun hb=>o_int rfl rfl rfl))<|.cons (o_or rfl rfl)<|.cons (o_move rfl)<|.cons (o_guardG .bF rfl rfl (fun hb=>(.keep .nil)) (fun hb=>o_fieldAddr rfl))<|.cons (o_guardG .bF rfl rfl (fun hb=>(.strip rfl hb .nil)) (fun hb=>o_load_s rfl rfl rfl))<|.cons (o_guardG .bF rfl rfl (fun hb=>(.keep .nil)) (fun hb=>o_fieldAddr rfl))<|.cons (o_guardG .bF rfl rfl (fun hb=>(.strip rfl hb .nil)) (fun hb=>o_load_s rfl rfl rfl))<|.cons (o_guardG .bF rfl rfl (fun hb=>(.strip rfl hb (.strip rfl hb .nil))) (fun hb=>o_int rfl rfl rfl))<|.cons (o_or rfl rfl)<|.cons (o_move rfl)<|.cons (o_guardG .bF rfl rfl (fun hb=>(.keep .nil)) (fun hb=>o_fieldAddr rfl))<|.cons (o_guardG .bF rfl rfl (fun hb=>(.strip rfl hb .nil)) (fun hb=>o_load_s rfl rfl rfl))<|.cons (o_guardG .bF rfl rfl (fun hb=>(.strip rfl hb .nil)) (fun hb=>t_len rfl))<|.cons (o_guardG .bF rfl rfl (fun hb=>(.keep .nil)) (fun hb=>o_fieldAddr rfl))<|.cons (o_guardG .bF rfl rfl (fun hb=>(.strip rfl hb .nil)) (fun hb=>o_load_s rfl rfl rfl))<|.cons (o_guardG .bF rfl rfl (fun hb=>(.strip rfl hb .nil)) (fun hb=>t_len rfl))<|.cons (o_guardG .bF rfl rfl (fun hb=>(.strip rfl hb (.strip rfl hb .nil))) (fun hb=>o_int rfl rfl rfl))<|.cons (o_or rfl rfl)<|.nil _) ?_))
 refine a_cond _ rfl (fun h1=>?_) (fun h1=>?_)
 ·replace hM:=(of_if hM).1 h1
  refine a_seq (ar (.cons (o_assign rfl)<|.nil _) ?_)
  obtain rfl:=Option.some.inj hM
  exact a_ret (a_post (.r1 (.tmp rfl)) (DLe.refl _) PostOk.nil.spec)
 ·replace hM:=(of_if hM).2 h1
  refine a_skip ?_
  refine a_cut (α:=Unit) (fun s=>⟨[],[],[]⟩) (fun s=>rootcauseref17_SameEvent_K1 = some r) ?_ ?_
  ·refine a_seq (ar (.cons (o_fieldAddr rfl)<|.cons (o_load_s rfl rfl rfl)<|.cons (t_len rfl)<|.cons (o_move rfl)<|.nil _) ?_)
   obtain ⟨t3,hL3,hK3⟩ := of_bind hM
   refine a_block ?_
   refine a_for (fun k2 (s : Unit)=>⟨[(2,.ref 2 0),(3,.ref 3 0),(71,.int .i64 (List.length x0.gArgs : Int)),(72,.int .i64 (k2 : Int))],[(2,some (.blk 49 (AEv.cs x0))),(3,some (.blk 49 (AEv.cs x1)))],[2,3]⟩) _ hL3 (Imp.sh (fun i=>i) rfl rfl rfl rfl rfl rfl) ?_ ?_
   ·rintro k2 _ t4 hk2 hx2 hM hE3
    replace hM : rootcauseref17_SameEvent_L2 x0 x1 k2 = some t4:=hM
    unfold rootcauseref17_SameEvent_L2 at hM
    refine a_seq (ar (.cons (o_int rfl rfl rfl)<|.nil _) ?_)
    refine a_seq ?_
    refine a_cond _ rfl (fun _=>?_) (fun c=>absurd hk2 (of_decide_eq_false c))
    refine a_skip (a_seq (a_block (a_seq (ar (.cons (o_move rfl)<|.cons (o_assign rfl)<|.nil _) ?_))))
    refine a_seq ?_
    obtain ⟨v7,h6,hM⟩ := of_bind hM
    obtain ⟨v9,h8,hM⟩ := of_bind hM
    refine ad mixed (.cons (o_fieldAddr rfl)<|.cons (o_load_s rfl rfl rfl)<|.cons (o_move rfl)<|.cons (t_index h6 rfl rfl rfl)<|.cons (o_load_es rfl rfl)<|.cons (o_fieldAddr rfl)<|.cons (o_load_s rfl rfl rfl)<|.cons (o_move rfl)<|.cons (t_index h8 rfl rfl rfl)<|.cons (o_load_es rfl rfl)<|.cons (o_int rfl rfl rfl)<|.nil _) ?_
    refine a_cond _ rfl (fun h10=>?_) (fun h10=>?_)
    ·replace hM:=(of_if hM).1 h10
     refine a_seq (ar (.cons (o_assign rfl)<|.nil _) ?_)
     obtain rfl:=Option.some.inj hM
     obtain rfl:=hE3 _ rfl
     obtain rfl:=Option.some.inj hK3
     exact a_ret (a_post (.r1 (.tmp rfl)) (DLe.refl _) PostOk.nil.spec)
    ·replace hM:=(of_if hM).2 h10
     refine a_skip (ar (.cons (o_add rfl rfl (inR_i64 hk2 hx2))<|.cons (o_move rfl)<|.nil _) ?_)
     obtain rfl:=Option.some.inj hM
     exact ⟨(),rfl,(Imp.of (fun i=>i) (.cons rfl (DLe.refl _) (.cons rfl (DLe.refl _) (.cons rfl (DLe.refl _) (.cons rfl (DLe.succ _ _) .nil)))) (.cons rfl (.refl _) (.cons rfl (.refl _) .nil)) rfl rfl rfl)⟩
   ·rintro k2 _ hk2 hx2 rfl
    refine a_seq (ar (.cons (o_int rfl rfl rfl)<|.nil _) ?_)
    refine a_seq ?_
    refine a_cond _ rfl (fun c=>absurd (of_decide_eq_true c) (Int.not_lt.2 hk2)) (fun _=>?_)
    refine a_exit ?_
    exact ⟨(),hK3,(Imp.sh (fun i=>i) rfl rfl rfl rfl rfl rfl)⟩
  ·rintro _ hM
   replace hM : rootcauseref17_SameEvent_K1 = some r:=hM
   unfold rootcauseref17_SameEvent_K1 at hM
   refine a_seq (ar (.cons (o_assign rfl)<|.nil _) ?_)
   obtain rfl:=Option.some.inj hM
   exact a_ret (a_post (.r1 (.tmp rfl)) (DLe.refl _) PostOk.nil.spec)
def rootcauseref24_zero (x0 : rootcauseref24_Rec) : Option Bool :=
 (rootcauseref24_Trim x0.gClock).bind fun v2=>
 (gb ((List.length v2 : Int) == 0) (false) (rootcauseref17_SameEvent x0.gEvent (AEv.mk 0 0 0 0 0 0 0 0 []))).bind fun v4=>
 some (((List.length v2 : Int) == 0) && v4)
theorem rootcauseref24_zero_c {x0 : rootcauseref24_Rec} {r : Bool} (hM : rootcauseref24_zero x0 = some r) : PCall Tryz.prog 48 [.agg (rootcauseref24_Rec.cs x0)] (.bool r):=by
 unfold rootcauseref24_zero at hM
 refine PCall.body Tryz.func48 Tryz.ntmps48 rfl rfl rfl rfl ?_
 refine a_seq (ar (.cons (o_box rfl rfl)<|.cons (o_assign rfl)<|.nil _) ?_)
 refine a_seq ?_
 obtain ⟨v2,h1,hM⟩ := of_bind hM
 obtain ⟨v4,h3,hM⟩ := of_bind hM
 refine ar (.cons (o_fieldAddr rfl)<|.cons (o_load_s rfl rfl rfl)<|.cons (o_call (rootcauseref24_Trim_c h1) rfl (DLeL.refl _) rfl)<|.cons (t_len rfl)<|.cons (o_int rfl rfl rfl)<|.cons (o_move rfl)<|.cons (o_guardG .bT rfl rfl (fun hb=>(.keep .nil)) (fun hb=>o_fieldAddr rfl))<|.cons (o_guardG .bT rfl rfl (fun hb=>(.strip rfl hb .nil)) (fun hb=>o_load_r rfl rfl rfl rfl))<|.cons (o_guardG .bT rfl rfl (fun hb=>.nil) (fun hb=>o_build rfl rfl rfl))<|.cons (o_guardG .bT rfl rfl (fun hb=>(.strip rfl hb (.strip rfl hb .nil))) (fun hb=>o_call (rootcauseref17_SameEvent_c (of_gb h3 hb)) rfl (.cons (DLe.refl _) (.cons (DLe.agg (.cons (DLe.refl _) (.cons (DLe.refl _) (.cons (DLe.refl _) (.cons (DLe.refl _) (.cons (DLe.refl _) (.cons (DLe.refl _) (.cons (DLe.refl _) (.cons (DLe.refl _) (.cons (DLe.nils _) .nil)))))))))) .nil)) rfl))<|.cons (o_and rfl rfl)<|.cons (o_assign rfl)<|.nil _) ?_
 obtain rfl:=Option.some.inj hM
 exact a_ret (a_post (.r1 (.tmp rfl)) (DLe.refl _) PostOk.nil.spec)
def rootcauseref24_Valid (x0 : rootcauseref24_Rec) : Option Bool :=
 (rootcauseref24_in x0.gComponent 0 8).bind fun v2=>
 if (!v2) = true then
  some false
 else
  if (x0.gWhat == 1) = true then
   (gb ((x0.gCount == 0) && (x0.gEvent.gComponent == x0.gComponent)) (false) (rootcauseref24_in x0.gEvent.gTick 0 200)).bind fun v6=>
   (gb (((((x0.gCount == 0) && (x0.gEvent.gComponent == x0.gComponent)) && v6) && (decide (1≤x0.gEvent.gKind))) && (decide (x0.gEvent.gKind≤11))) (false) (rootcauseref24_in x0.gEvent.gPeer 0 8)).bind fun v8=>
   (gb ((((((x0.gCount == 0) && (x0.gEvent.gComponent == x0.gComponent)) && v6) && (decide (1≤x0.gEvent.gKind))) && (decide (x0.gEvent.gKind≤11))) && v8) (false) (rootcauseref24_in x0.gEvent.gN 0 2147483647)).bind fun v10=>
   (gb (((((((x0.gCount == 0) && (x0.gEvent.gComponent == x0.gComponent)) && v6) && (decide (1≤x0.gEvent.gKind))) && (decide (x0.gEvent.gKind≤11))) && v8) && v10) (false) (rootcauseref24_in x0.gEvent.gCopy 0 1)).bind fun v12=>
   (gb ((((((((x0.gCount == 0) && (x0.gEvent.gComponent == x0.gComponent)) && v6) && (decide (1≤x0.gEvent.gKind))) && (decide (x0.gEvent.gKind≤11))) && v8) && v10) && v12) (false) (rootcauseref24_in x0.gEvent.gHandler 0 7)).bind fun v14=>
   some ((((((((((x0.gCount == 0) && (x0.gEvent.gComponent == x0.gComponent)) && v6) && (decide (1≤x0.gEvent.gKind))) && (decide (x0.gEvent.gKind≤11))) && v8) && v10) && v12) && v14) && (decide ((List.length x0.gEvent.gArgs : Int)≤4)))
  else
   if (x0.gWhat == 2) = true then
    (rootcauseref24_zero x0).bind fun v17=>
    some ((v17 && (decide (1≤x0.gCount))) && (decide (x0.gCount≤(IntKind.wrap .u64 (18446744073709551615 - x0.gSeq)))))
   else
    if (x0.gWhat == 3) = true then
     (rootcauseref24_zero x0).bind fun v20=>
     some (v20 && (x0.gCount == 0))
    else
     some false
theorem rootcauseref24_Valid_c {x0 : rootcauseref24_Rec} {r : Bool} (hM : rootcauseref24_Valid x0 = some r) : PCall Tryz.prog 21 [.agg (rootcauseref24_Rec.cs x0)] (.bool r):=by
 unfold rootcauseref24_Valid at hM
 refine PCall.body Tryz.func21 Tryz.ntmps21 rfl rfl rfl rfl ?_
 refine a_seq (ar (.cons (o_box rfl rfl)<|.cons (o_assign rfl)<|.nil _) ?_)
 refine a_seq (a_seq ?_)
 obtain ⟨v2,h1,hM⟩ := of_bind hM
 refine ar (.cons (o_fieldAddr rfl)<|.cons (o_load_s rfl rfl rfl)<|.cons (o_call (rootcauseref24_in_c h1) rfl (DLeL.refl _) rfl)<|.cons (o_not rfl)<|.nil _) ?_
 refine a_cond _ rfl (fun h3=>?_) (fun h3=>?_)
 ·replace hM:=(of_if hM).1 h3
  refine a_seq (ar (.cons (o_assign rfl)<|.nil _) ?_)
  obtain rfl:=Option.some.inj hM
  exact a_ret (a_post (.r1 (.tmp rfl)) (DLe.refl _) PostOk.nil.spec)
 ·replace hM:=(of_if hM).2 h3
  refine a_skip (a_seq (ar (.cons (o_fieldAddr rfl)<|.cons (o_load_r rfl rfl rfl rfl)<|.cons (o_alloc rfl)<|.cons (o_store rfl rfl rfl rfl rfl rfl rfl)<|.nil _) ?_))
  refine a_seq (a_seq (ar (.cons (o_fieldAddr rfl)<|.cons (o_load_s rfl rfl rfl)<|.nil _) ?_))
  refine a_block (a_seq (ar (.cons (o_int rfl rfl rfl)<|.cons (o_assign rfl)<|.nil _) ?_))
  refine a_cond _ rfl (fun h4=>?_) (fun h4=>?_)
  ·replace hM:=(of_if hM).1 h4
   refine a_seq ?_
   obtain ⟨v6,h5,hM⟩ := of_bind hM
   obtain ⟨v8,h7,hM⟩ := of_bind hM
   obtain ⟨v10,h9,hM⟩ := of_bind hM
   obtain ⟨v12,h11,hM⟩ := of_bind hM
   obtain ⟨v14,h13,hM⟩ := of_bind hM
   refine ar (.cons (o_fieldAddr rfl)<|.cons (o_load_s rfl rfl rfl)<|.cons (o_int rfl rfl rfl)<|.cons (o_move rfl)<|.cons (o_guardG .bT rfl rfl (fun hb=>(.keep .nil)) (fun hb=>o_fieldAddr rfl))<|.cons (o_guardG .bT rfl rfl (fun hb=>(.strip rfl hb .nil)) (fun hb=>o_load_s rfl rfl rfl))<|.cons (o_guardG .bT rfl rfl (fun hb=>(.keep .nil)) (fun hb=>o_fieldAddr rfl))<|.cons (o_guardG .bT rfl rfl (fun hb=>(.strip rfl hb .nil)) (fun hb=>o_load_s rfl rfl rfl))<|.cons (o_guardG .bT rfl rfl (fun hb=>(.strip rfl hb (.strip rfl hb .nil))) (fun hb=>o_int rfl rfl rfl))<|.cons (o_and rfl rfl)<|.cons (o_move rfl)<|.cons (o_guardG .bT rfl rfl (fun hb=>(.keep .nil)) (fun hb=>o_fieldAddr rfl))<|.cons (o_guardG .bT rfl rfl (fun hb=>(.strip rfl hb .nil)) (fun hb=>o_load_s rfl rfl rfl))<|.cons (o_guardG .bT rfl rfl (fun hb=>(.strip rfl hb .nil)) (fun hb=>o_call (rootcauseref24_in_c (of_gb h5 hb)) rfl (DLeL.refl _) rfl))<|.cons (o_and rfl rfl)<|.cons (o_move rfl)<|.cons (o_guardG .bT rfl rfl (fun hb=>(.keep .nil)) (fun hb=>o_fieldAddr rfl))<|.cons (o_guardG .bT rfl rfl (fun hb=>(.strip rfl hb .nil)) (fun hb=>o_load_s rfl rfl rfl))<|.cons (o_guardG .bT rfl rfl (fun hb=>(.strip rfl hb .nil)) (fun hb=>o_int rfl rfl rfl))<|.cons (o_and rfl rfl)<|.cons (o_move rfl)<|.cons (o_guardG .bT rfl rfl (fun hb=>(.keep .nil)) (fun hb=>o_fieldAddr rfl))<|.cons (o_guardG .bT rfl rfl (fun hb=>(.strip rfl hb .nil)) (fun hb=>o_load_s rfl rfl rfl))<|.cons (o_guardG .bT rfl rfl (fun hb=>(.strip rfl hb .nil)) (fun hb=>o_int rfl rfl rfl))<|.cons (o_and rfl rfl)<|.cons (o_move rfl)<|.cons (o_guardG .bT rfl rfl (fun hb=>(.keep .nil)) (fun hb=>o_fieldAddr rfl))<|.cons (o_guardG .bT rfl rfl (fun hb=>(.strip rfl hb .nil)) (fun hb=>o_load_s rfl rfl rfl))<|.cons (o_guardG .bT rfl rfl (fun hb=>(.strip rfl hb .nil)) (fun hb=>o_call (rootcauseref24_in_c (of_gb h7 hb)) rfl (DLeL.refl _) rfl))<|.cons (o_and rfl rfl)<|.cons (o_move rfl)<|.cons (o_guardG .bT rfl rfl (fun hb=>(.keep .nil)) (fun hb=>o_fieldAddr rfl))<|.cons (o_guardG .bT rfl rfl (fun hb=>(.strip rfl hb .nil)) (fun hb=>o_load_s rfl rfl rfl))<|.cons (o_guardG .bT rfl rfl (fun hb=>(.strip rfl hb .nil)) (fun hb=>o_call (rootcauseref24_in_c (of_gb h9 hb)) rfl (DLeL.refl _) rfl))<|.cons (o_and rfl rfl)<|.cons (o_move rfl)<|.cons (o_guardG .bT rfl rfl (fun hb=>(.keep .nil)) (fun hb=>o_fieldAddr rfl))<|.cons (o_guardG .bT rfl rfl (fun hb=>(.strip rfl hb .nil)) (fun hb=>o_load_s rfl rfl rfl))<|.cons (o_guardG .bT rfl rfl (fun hb=>(.strip rfl hb .nil)) (fun hb=>o_call (rootcauseref24_in_c (of_gb h11 hb)) rfl (DLeL.refl _) rfl))<|.cons (o_and rfl rfl)<|.cons (o_move rfl)<|.cons (o_guardG .bT rfl rfl (fun hb=>(.keep .nil)) (fun hb=>o_fieldAddr rfl))<|.cons (o_guardG .bT rfl rfl (fun hb=>(.strip rfl hb .nil)) (fun hb=>o_load_s rfl rfl rfl))<|.cons (o_guardG .bT rfl rfl (fun hb=>(.strip rfl hb .nil)) (fun hb=>o_call (rootcauseref24_in_c (of_gb h13 hb)) rfl (DLeL.refl _) rfl))<|.cons (o_and rfl rfl)<|.cons (o_move rfl)<|.cons (o_guardG .bT rfl rfl (fun hb=>(.keep .nil)) (fun hb=>o_fieldAddr rfl))<|.cons (o_guardG .bT rfl rfl (fun hb=>(.strip rfl hb .nil)) (fun hb=>o_load_s rfl rfl rfl))<|.cons (o_guardG .bT rfl rfl (fun hb=>(.strip rfl hb .nil)) (fun hb=>t_len rfl))<|.cons (o_guardG .bT rfl rfl (fun hb=>(.strip rfl hb .nil)) (fun hb=>o_int rfl rfl rfl))<|.cons (o_and rfl rfl)<|.cons (o_assign rfl)<|.nil _) ?_
   obtain rfl:=Option.some.inj hM
   exact a_ret (a_post (.r1 (.tmp rfl)) (DLe.refl _) PostOk.nil.spec)
  ·replace hM:=(of_if hM).2 h4
   refine a_seq (ar (.cons (o_int rfl rfl rfl)<|.cons (o_assign rfl)<|.nil _) ?_)
   refine a_cond _ rfl (fun h15=>?_) (fun h15=>?_)
   ·replace hM:=(of_if hM).1 h15
    refine a_seq ?_
    obtain ⟨v17,h16,hM⟩ := of_bind hM
    refine ar (.cons (o_load_r rfl rfl rfl rfl)<|.cons (o_call (rootcauseref24_zero_c h16) rfl (DLeL.refl _) rfl)<|.cons (o_move rfl)<|.cons (o_guardG .bT rfl rfl (fun hb=>(.keep .nil)) (fun hb=>o_fieldAddr rfl))<|.cons (o_guardG .bT rfl rfl (fun hb=>(.strip rfl hb .nil)) (fun hb=>o_load_s rfl rfl rfl))<|.cons (o_guardG .bT rfl rfl (fun hb=>(.strip rfl hb .nil)) (fun hb=>o_int rfl rfl rfl))<|.cons (o_and rfl rfl)<|.cons (o_move rfl)<|.cons (o_guardG .bT rfl rfl (fun hb=>(.keep .nil)) (fun hb=>o_fieldAddr rfl))<|.cons (o_guardG .bT rfl rfl (fun hb=>(.strip rfl hb .nil)) (fun hb=>o_load_s rfl rfl rfl))<|.cons (o_guardG .bT rfl rfl (fun hb=>(.keep .nil)) (fun hb=>o_fieldAddr rfl))<|.cons (o_guardG .bT rfl rfl (fun hb=>(.strip rfl hb .nil)) (fun hb=>o_load_s rfl rfl rfl))<|.cons (o_guardG .bT rfl rfl (fun hb=>(.strip rfl hb .nil)) (fun hb=>o_int rfl rfl rfl))<|.cons (o_guardG .bT rfl rfl (fun hb=>(.strip rfl hb (.strip rfl hb .nil))) (fun hb=>o_int rfl rfl rfl))<|.cons (o_and rfl rfl)<|.cons (o_assign rfl)<|.nil _) ?_
    obtain rfl:=Option.some.inj hM
    exact a_ret (a_post (.r1 (.tmp rfl)) (DLe.refl _) PostOk.nil.spec)
   ·replace hM:=(of_if hM).2 h15
    refine a_seq (ar (.cons (o_int rfl rfl rfl)<|.cons (o_assign rfl)<|.nil _) ?_)
    refine a_cond _ rfl (fun h18=>?_) (fun h18=>?_)
    ·replace hM:=(of_if hM).1 h18
     refine a_seq ?_
     obtain ⟨v20,h19,hM⟩ := of_bind hM
     refine ar (.cons (o_load_r rfl rfl rfl rfl)<|.cons (o_call (rootcauseref24_zero_c h19) rfl (DLeL.refl _) rfl)<|.cons (o_move rfl)<|.cons (o_guardG .bT rfl rfl (fun hb=>(.keep .nil)) (fun hb=>o_fieldAddr rfl))<|.cons (o_guardG .bT rfl rfl (fun hb=>(.strip rfl hb .nil)) (fun hb=>o_load_s rfl rfl rfl))<|.cons (o_guardG .bT rfl rfl (fun hb=>(.strip rfl hb .nil)) (fun hb=>o_int rfl rfl rfl))<|.cons (o_and rfl rfl)<|.cons (o_assign rfl)<|.nil _) ?_
     obtain rfl:=Option.some.inj hM
     exact a_ret (a_post (.r1 (.tmp rfl)) (DLe.refl _) PostOk.nil.spec)
    ·replace hM:=(of_if hM).2 h18
     refine a_skip (a_seq (ar (.cons (o_assign rfl)<|.nil _) ?_))
     obtain rfl:=Option.some.inj hM
     exact a_ret (a_post (.r1 (.tmp rfl)) (DLe.refl _) PostOk.nil.spec)
def rootcauseref28_Record_K1 (a6 : List rootcauseref24_Rec) : Option ((List rootcauseref24_Rec) × Int) :=
 some (a6,0)
def rootcauseref28_Record_L2 (x0 : List AEv) (x2 : Int) (v5 : (List (List Int))) (k7 : Nat) (a8 : List rootcauseref24_Rec) : Option (Ctl (List rootcauseref24_Rec) ((List rootcauseref24_Rec) × Int)) :=
 (idx x0 (k7 : Int)).bind fun v13=>
 if (v13.gComponent != x2) = true then
  some (.next a8)
 else
  (idx v5 (k7 : Int)).bind fun v16=>
  (rootcauseref24_Valid (rootcauseref24_Rec.mk 1 x2 (IntKind.wrap .u64 (List.length a8 : Int)) 0 v16 v13)).bind fun v18=>
  if (!v18) = true then
   some (.done (([] : List rootcauseref24_Rec),6))
  else
   chk (apOk 144 (List.length a8 + List.length [(rootcauseref24_Rec.mk 1 x2 (IntKind.wrap .u64 (List.length a8 : Int)) 0 v16 v13)]))<|
   some (.next (a8++[(rootcauseref24_Rec.mk 1 x2 (IntKind.wrap .u64 (List.length a8 : Int)) 0 v16 v13)]))
def rootcauseref28_Record (x0 : List AEv) (x1 : Int) (x2 : Int) : Option ((List rootcauseref24_Rec) × Int) :=
 (rootcauseref28_Check x0 x1).bind fun v2=>
 if (((v2 != 0) || (decide (x2 < 0))) || (decide (x1 < x2))) = true then
  some (([] : List rootcauseref24_Rec),1)
 else
  (rootcauseref28_Clocks x0 x1).bind fun v5=>
  (forM' (E:=(List rootcauseref24_Rec) × Int) 9223372036854775807 (List.length x0 : Int) (fun k7 s=>rootcauseref28_Record_L2 x0 x2 v5 k7 s) ([] : List rootcauseref24_Rec)).bind fun
   | .next s=>rootcauseref28_Record_K1 s
   | .done r=>some r
theorem rootcauseref28_Record_c {x0 : List AEv} {x1 : Int} {x2 : Int} {r : (List rootcauseref24_Rec) × Int} (hM : rootcauseref28_Record x0 x1 x2 = some r) : PCall Tryz.prog 8 [.sl 9 (List.map AEv.dv x0),.int .i64 x1,.int .i64 x2] (.tup [.sl 14 (List.map rootcauseref24_Rec.dv r.1),.int .i64 r.2]):=by
 unfold rootcauseref28_Record at hM
 refine PCall.body Tryz.func8 Tryz.ntmps8 rfl rfl rfl rfl ?_
 refine a_seq (ar (.cons (o_assign rfl)<|.cons (o_assign rfl)<|.nil _) ?_)
 refine a_seq (a_seq ?_)
 obtain ⟨v2,h1,hM⟩ := of_bind hM
 refine ar (.cons (o_move rfl)<|.cons (o_move rfl)<|.cons (o_call (rootcauseref28_Check_c h1) rfl (DLeL.refl _) rfl)<|.cons (o_assign rfl)<|.nil _) ?_
 refine a_seq (ar (.cons (o_move rfl)<|.cons (o_int rfl rfl rfl)<|.cons (o_move rfl)<|.cons (o_guardG .bF rfl rfl (fun hb=>(.keep .nil)) (fun hb=>o_move rfl))<|.cons (o_guardG .bF rfl rfl (fun hb=>(.strip rfl hb .nil)) (fun hb=>o_int rfl rfl rfl))<|.cons (o_or rfl rfl)<|.cons (o_move rfl)<|.cons (o_guardG .bF rfl rfl (fun hb=>(.keep .nil)) (fun hb=>o_move rfl))<|.cons (o_guardG .bF rfl rfl (fun hb=>(.keep .nil)) (fun hb=>o_move rfl))<|.cons (o_guardG .bF rfl rfl (fun hb=>(.strip rfl hb (.strip rfl hb .nil))) (fun hb=>o_int rfl rfl rfl))<|.cons (o_or rfl rfl)<|.nil _) ?_)
 refine a_cond _ rfl (fun h3=>?_) (fun h3=>?_)
 ·replace hM:=(of_if hM).1 h3
  refine a_seq (ar (.cons (o_assign rfl)<|.cons (o_assign rfl)<|.nil _) ?_)
  obtain rfl:=Option.some.inj hM
  exact a_ret (a_post (.r2 (.tmp rfl) (.tmp rfl)) (DLe.tup (.cons (DLe.nils _) (.cons (DLe.refl _) .nil))) PostOk.nil.spec)
 ·replace hM:=(of_if hM).2 h3
  refine a_skip (a_seq (ar (.cons (o_assign rfl)<|.nil _) ?_))
  refine a_seq ?_
  obtain ⟨v5,h4,hM⟩ := of_bind hM
  refine ar (.cons (o_move rfl)<|.cons (o_move rfl)<|.cons (o_call (rootcauseref28_Clocks_c h4) rfl (DLeL.refl _) rfl)<|.cons (o_assign rfl)<|.nil _) ?_
  refine a_cut (α:=(List rootcauseref24_Rec)) (fun s=>⟨[(9,.sl 14 (List.map rootcauseref24_Rec.dv s))],[],[]⟩) (fun s=>rootcauseref28_Record_K1 s = some r) ?_ ?_
  ·refine a_seq (ar (.cons (o_move rfl)<|.cons (t_len rfl)<|.cons (o_move rfl)<|.nil _) ?_)
   obtain ⟨t9,hL9,hK9⟩ := of_bind hM
   refine a_block ?_
   refine a_for (fun k7 (s : (List rootcauseref24_Rec))=>⟨[(2,.int .i64 x2),(9,.row 10001),(10,.sl 1 (List.map (encSl 1 (DV.int .u64)) v5)),(31,.sl 9 (List.map AEv.dv x0)),(32,.int .i64 (List.length x0 : Int)),(33,.int .i64 (k7 : Int))],[(10001,some (.row 68 14 (List.map rootcauseref24_Rec.dv s)))],[10001]⟩) _ hL9 ((Imp.nilRow (t:=9) (id:=10002) 68 14 rfl rfl).trans (Imp.sh (fun i=>bif Nat.beq i 10001 then 10002 else i) rfl rfl rfl rfl rfl rfl)) ?_ ?_
   ·rintro k7 a8 t10 hk7 hx7 hM hE9
    replace hM : rootcauseref28_Record_L2 x0 x2 v5 k7 a8 = some t10:=hM
    unfold rootcauseref28_Record_L2 at hM
    refine a_seq (ar (.cons (o_int rfl rfl rfl)<|.nil _) ?_)
    refine a_seq ?_
    refine a_cond _ rfl (fun _=>?_) (fun c=>absurd hk7 (of_decide_eq_false c))
    refine a_skip (a_seq (a_block (a_seq ?_)))
    obtain ⟨v13,h12,hM⟩ := of_bind hM
    refine ar (.cons (o_move rfl)<|.cons (t_index h12 rfl rfl rfl)<|.cons (o_load_er rfl rfl rfl)<|.cons (o_alloc rfl)<|.cons (o_assign rfl)<|.cons (o_store rfl rfl rfl rfl rfl rfl rfl)<|.nil _) ?_
    refine a_seq (a_seq (ar (.cons (o_fieldAddr rfl)<|.cons (o_load_s rfl rfl rfl)<|.cons (o_move rfl)<|.cons (o_int rfl rfl rfl)<|.nil _) ?_))
    refine a_cond _ rfl (fun h14=>?_) (fun h14=>?_)
    ·replace hM:=(of_if hM).1 h14
     refine a_exit (ar (.cons (o_add rfl rfl (inR_i64 hk7 hx7))<|.cons (o_move rfl)<|.nil _) ?_)
     obtain rfl:=Option.some.inj hM
     exact ⟨a8,rfl,(Imp.of (fun i=>i) (.cons rfl (DLe.refl _) (.cons rfl (DLe.refl _) (.cons rfl (DLe.refl _) (.cons rfl (DLe.refl _) (.cons rfl (DLe.refl _) (.cons rfl (DLe.succ _ _) .nil)))))) (.cons rfl (.refl _) .nil) rfl rfl rfl)⟩
    ·replace hM:=(of_if hM).2 h14
     refine a_skip (a_seq ?_)
     obtain ⟨v16,h15,hM⟩ := of_bind hM
     refine ad mixed (.cons (o_move rfl)<|.cons (o_move rfl)<|.cons (t_len_r rfl rfl)<|.cons (o_conv_w rfl)<|.cons (o_move rfl)<|.cons (o_move rfl)<|.cons (t_index h15 rfl rfl rfl)<|.cons (o_load_es rfl rfl)<|.cons (o_load_r rfl rfl rfl rfl)<|.cons (o_build rfl rfl rfl)<|.cons (o_alloc rfl)<|.cons (o_store rfl rfl rfl rfl rfl rfl rfl)<|.nil _) ?_
     refine a_seq (a_seq ?_)
     obtain ⟨v18,h17,hM⟩ := of_bind hM
     refine ar (.cons (o_load_r rfl rfl rfl rfl)<|.cons (o_call (rootcauseref24_Valid_c h17) rfl (DLeL.refl _) rfl)<|.cons (o_not rfl)<|.nil _) ?_
     refine a_cond _ rfl (fun h19=>?_) (fun h19=>?_)
     ·replace hM:=(of_if hM).1 h19
      refine a_seq (ar (.cons (o_assign rfl)<|.cons (o_assign rfl)<|.nil _) ?_)
      obtain rfl:=Option.some.inj hM
      obtain rfl:=hE9 _ rfl
      obtain rfl:=Option.some.inj hK9
      exact a_ret (a_post (.r2 (.tmp rfl) (.tmp rfl)) (DLe.tup (.cons (DLe.nils _) (.cons (DLe.refl _) .nil))) PostOk.nil.spec)
     ·replace hM:=(of_if hM).2 h19
      refine a_skip ?_
      obtain ⟨h20,hM⟩ := of_chk hM
      refine ar (.cons (o_move rfl)<|.cons (o_load_r rfl rfl rfl rfl)<|.cons (t_build rootcauseref24_Rec.dv ([(rootcauseref24_Rec.mk 1 x2 (IntKind.wrap .u64 (List.length a8 : Int)) 0 v16 v13)] : List rootcauseref24_Rec) rfl rfl rfl rfl rfl rfl rfl)<|.cons (t_append [(rootcauseref24_Rec.mk 1 x2 (IntKind.wrap .u64 (List.length a8 : Int)) 0 v16 v13)] h20 rfl rfl rfl (Src.row rfl))<|.cons (o_assign rfl)<|.nil _) ?_
      refine ar (.cons (o_add rfl rfl (inR_i64 hk7 hx7))<|.cons (o_move rfl)<|.nil _) ?_
      obtain rfl:=Option.some.inj hM
      exact ⟨(a8++[(rootcauseref24_Rec.mk 1 x2 (IntKind.wrap .u64 (List.length a8 : Int)) 0 v16 v13)]),rfl,(Imp.of (fun i=>bif Nat.beq i 10001 then 58 else i) (.cons rfl (DLe.refl _) (.cons rfl (DLe.refl _) (.cons rfl (DLe.refl _) (.cons rfl (DLe.refl _) (.cons rfl (DLe.refl _) (.cons rfl (DLe.succ _ _) .nil)))))) (.cons rfl (.refl _) .nil) rfl rfl rfl)⟩
   ·rintro k7 a8 hk7 hx7 rfl
    refine a_seq (ar (.cons (o_int rfl rfl rfl)<|.nil _) ?_)
    refine a_seq ?_
    refine a_cond _ rfl (fun c=>absurd (of_decide_eq_true c) (Int.not_lt.2 hk7)) (fun _=>?_)
    refine a_exit ?_
    exact ⟨a8,hK9,((Imp.freeze (id:=10001) rfl).trans (Imp.sh (fun i=>i) rfl rfl rfl rfl rfl rfl))⟩
  ·rintro a6 hM
   replace hM : rootcauseref28_Record_K1 a6 = some r:=hM
   unfold rootcauseref28_Record_K1 at hM
   refine a_seq (ar (.cons (o_move rfl)<|.cons (o_assign rfl)<|.cons (o_assign rfl)<|.nil _) ?_)
   obtain rfl:=Option.some.inj hM
   exact a_ret (a_post (.r2 (.tmp rfl) (.tmp rfl)) (DLe.refl _) PostOk.nil.spec)
def rootcauselaw24_Rec (x0 : RRec) : Option rootcauseref24_Rec :=
 (VClk_Entries x0.gClock).bind fun v2=>
 some (rootcauseref24_Rec.mk x0.gWhat x0.gComponent x0.gSeq x0.gCount v2 x0.gEvent)
theorem rootcauselaw24_Rec_c {x0 : RRec} {r : rootcauseref24_Rec} (hM : rootcauselaw24_Rec x0 = some r) : PCall Tryz.prog 23 [.agg (RRec.cs x0)] (.agg (rootcauseref24_Rec.cs r)):=by
 unfold rootcauselaw24_Rec at hM
 refine PCall.body Tryz.func23 Tryz.ntmps23 rfl rfl rfl rfl ?_
 refine a_seq (ar (.cons (o_box rfl rfl)<|.cons (o_alloc rfl)<|.nil _) ?_)
 refine a_seq ?_
 obtain ⟨v2,h1,hM⟩ := of_bind hM
 refine ad mixed (.cons (o_fieldAddr rfl)<|.cons (o_load_s rfl rfl rfl)<|.cons (o_fieldAddr rfl)<|.cons (o_load_s rfl rfl rfl)<|.cons (o_fieldAddr rfl)<|.cons (o_load_s rfl rfl rfl)<|.cons (o_fieldAddr rfl)<|.cons (o_load_s rfl rfl rfl)<|.cons (o_fieldAddr rfl)<|.cons (o_load_r rfl rfl rfl rfl)<|.cons (o_call (VClk_Entries_c h1) rfl (DLeL.refl _) rfl)<|.cons (o_fieldAddr rfl)<|.cons (o_load_r rfl rfl rfl rfl)<|.cons (o_build rfl rfl rfl)<|.cons (o_store rfl rfl rfl rfl rfl rfl rfl)<|.nil _) ?_
 obtain rfl:=Option.some.inj hM
 exact a_ret (a_post (.r1 (.cell rfl rfl (.row _ CRow.h (Nat.le_of_ble_eq_true rfl) rfl))) (DLe.refl _) PostOk.nil.spec)
def rootcauseref24_Same_K1 : Option Bool :=
 some true
def rootcauseref24_Same_L2 (v2 : (List Int)) (v4 : (List Int)) (k8 : Nat) : Option (Ctl Unit Bool) :=
 (idx v2 (k8 : Int)).bind fun v13=>
 (idx v4 (k8 : Int)).bind fun v15=>
 if (v13 != v15) = true then
  some (.done false)
 else
  some (.next ())
def rootcauseref24_Same (x0 : rootcauseref24_Rec) (x1 : rootcauseref24_Rec) : Option Bool :=
 (rootcauseref24_Trim x0.gClock).bind fun v2=>
 (rootcauseref24_Trim x1.gClock).bind fun v4=>
 (gb (!(((((x0.gWhat != x1.gWhat) || (x0.gComponent != x1.gComponent)) || (x0.gSeq != x1.gSeq)) || (x0.gCount != x1.gCount)) || ((List.length v2 : Int) != (List.length v4 : Int)))) (false) (rootcauseref17_SameEvent x0.gEvent x1.gEvent)).bind fun v6=>
 if ((((((x0.gWhat != x1.gWhat) || (x0.gComponent != x1.gComponent)) || (x0.gSeq != x1.gSeq)) || (x0.gCount != x1.gCount)) || ((List.length v2 : Int) != (List.length v4 : Int))) || (!v6)) = true then
  some false
 else
  (forM' (E:=Bool) 9223372036854775807 (List.length v2 : Int) (fun k8 s=>rootcauseref24_Same_L2 v2 v4 k8) ()).bind fun
   | .next s=>rootcauseref24_Same_K1
   | .done r=>some r
theorem rootcauseref24_Same_c {x0 : rootcauseref24_Rec} {x1 : rootcauseref24_Rec} {r : Bool} (hM : rootcauseref24_Same x0 x1 = some r) : PCall Tryz.prog 22 [.agg (rootcauseref24_Rec.cs x0),.agg (rootcauseref24_Rec.cs x1)] (.bool r):=by
 unfold rootcauseref24_Same at hM
 refine PCall.body Tryz.func22 Tryz.ntmps22 rfl rfl rfl rfl ?_
 refine a_seq (ar (.cons (o_box rfl rfl)<|.cons (o_box rfl rfl)<|.cons (o_assign rfl)<|.nil _) ?_)
 refine a_seq ?_
 obtain ⟨v2,h1,hM⟩ := of_bind hM
 obtain ⟨v4,h3,hM⟩ := of_bind hM
 refine ad mixed (.cons (o_fieldAddr rfl)<|.cons (o_load_s rfl rfl rfl)<|.cons (o_call (rootcauseref24_Trim_c h1) rfl (DLeL.refl _) rfl)<|.cons (o_fieldAddr rfl)<|.cons (o_load_s rfl rfl rfl)<|.cons (o_call (rootcauseref24_Trim_c h3) rfl (DLeL.refl _) rfl)<|.cons (o_assign rfl)<|.cons (o_assign rfl)<|.nil _) ?_
 refine a_seq (a_seq ?_)
 obtain ⟨v6,h5,hM⟩ := of_bind hM
 refine ar (.cons (o_fieldAddr rfl)<|.cons (o_load_s rfl rfl rfl)<|.cons (o_fieldAddr rfl)<|.cons (o_load_s rfl rfl rfl)<|.cons (o_int rfl rfl rfl)<|.cons (o_move rfl)<|.cons (o_guardG .bF rfl rfl (fun hb=>(.keep .nil)) (fun hb=>o_fieldAddr rfl))<|.cons (o_guardG .bF rfl rfl (fun hb=>(.strip rfl hb .nil)) (fun hb=>o_load_s rfl rfl rfl))<|.cons (o_guardG .bF rfl rfl (fun hb=>(.keep .nil)) (fun hb=>o_fieldAddr rfl))<|.cons (o_guardG .bF rfl rfl (fun hb=>(.strip rfl hb .nil)) (fun hb=>o_load_s rfl rfl rfl))<|.cons (o_guardG .bF rfl rfl (fun hb=>(.strip rfl hb (.strip rfl hb .nil))) (fun hb=>o_int rfl rfl rfl))<|.cons (o_or rfl rfl)<|.cons (o_move rfl)<|.cons (o_guardG .bF rfl rfl (fun hb=>(.keep .nil)) (fun hb=>o_fieldAddr rfl))<|.cons (o_guardG .bF rfl rfl (fun hb=>(.strip rfl hb .nil)) (fun hb=>o_load_s rfl rfl rfl))<|.cons (o_guardG .bF rfl rfl (fun hb=>(.keep .nil)) (fun hb=>o_fieldAddr rfl))<|.cons (o_guardG .bF rfl rfl (fun hb=>(.strip rfl hb .nil)) (fun hb=>o_load_s rfl rfl rfl))<|.cons (o_guardG .bF rfl rfl (fun hb=>(.strip rfl hb (.strip rfl hb .nil))) (fun hb=>o_int rfl rfl rfl))<|.cons (o_or rfl rfl)<|.cons (o_move rfl)<|.cons (o_guardG .bF rfl rfl (fun hb=>(.keep .nil)) (fun hb=>o_fieldAddr rfl))<|.cons (o_guardG .bF rfl rfl (fun hb=>(.strip rfl hb .nil)) (fun hb=>o_load_s rfl rfl rfl))<|.cons (o_guardG .bF rfl rfl (fun hb=>(.keep .nil)) (fun hb=>o_fieldAddr rfl))<|.cons (o_guardG .bF rfl rfl (fun hb=>(.strip rfl hb .nil)) (fun hb=>o_load_s rfl rfl rfl))<|.cons (o_guardG .bF rfl rfl (fun hb=>(.strip rfl hb (.strip rfl hb .nil))) (fun hb=>o_int rfl rfl rfl))<|.cons (o_or rfl rfl)<|.cons (o_move rfl)<|.cons (o_guardG .bF rfl rfl (fun hb=>(.keep .nil)) (fun hb=>o_move rfl))<|.cons (o_guardG .bF rfl rfl (fun hb=>(.strip rfl hb .nil)) (fun hb=>t_len rfl))<|.cons (o_guardG .bF rfl rfl (fun hb=>(.keep .nil)) (fun hb=>o_move rfl))<|.cons (o_guardG .bF rfl rfl (fun hb=>(.strip rfl hb .nil)) (fun hb=>t_len rfl))<|.cons (o_guardG .bF rfl rfl (fun hb=>(.strip rfl hb (.strip rfl hb .nil))) (fun hb=>o_int rfl rfl rfl))<|.cons (o_or rfl rfl)<|.cons (o_move rfl)<|.cons (o_guardG .bF rfl rfl (fun hb=>(.keep .nil)) (fun hb=>o_fieldAddr rfl))<|.cons (o_guardG .bF rfl rfl (fun hb=>(.strip rfl hb .nil)) (fun hb=>o_load_r rfl rfl rfl rfl))<|.cons (o_guardG .bF rfl rfl (fun hb=>(.keep .nil)) (fun hb=>o_fieldAddr rfl))<|.cons (o_guardG .bF rfl rfl (fun hb=>(.strip rfl hb .nil)) (fun hb=>o_load_r rfl rfl rfl rfl))<|.cons (o_guardG .bF rfl rfl (fun hb=>(.strip rfl hb (.strip rfl hb .nil))) (fun hb=>o_call (rootcauseref17_SameEvent_c (of_gb h5 hb)) rfl (DLeL.refl _) rfl))<|.cons (o_guardG .bF rfl rfl (fun hb=>(.strip rfl hb .nil)) (fun hb=>o_not rfl))<|.cons (o_or rfl rfl)<|.nil _) ?_
 refine a_cond _ rfl (fun h7=>?_) (fun h7=>?_)
 ·replace hM:=(of_if hM).1 h7
  refine a_seq (ar (.cons (o_assign rfl)<|.nil _) ?_)
  obtain rfl:=Option.some.inj hM
  exact a_ret (a_post (.r1 (.tmp rfl)) (DLe.refl _) PostOk.nil.spec)
 ·replace hM:=(of_if hM).2 h7
  refine a_skip ?_
  refine a_cut (α:=Unit) (fun s=>⟨[],[],[]⟩) (fun s=>rootcauseref24_Same_K1 = some r) ?_ ?_
  ·refine a_seq (ar (.cons (o_move rfl)<|.cons (t_len rfl)<|.cons (o_move rfl)<|.nil _) ?_)
   obtain ⟨t9,hL9,hK9⟩ := of_bind hM
   refine a_block ?_
   refine a_for (fun k8 (s : Unit)=>⟨[(5,.sl 1 (List.map (DV.int .u64) v2)),(6,.sl 1 (List.map (DV.int .u64) v4)),(56,.int .i64 (List.length v2 : Int)),(57,.int .i64 (k8 : Int))],[],[]⟩) _ hL9 (Imp.sh (fun i=>i) rfl rfl rfl rfl rfl rfl) ?_ ?_
   ·rintro k8 _ t10 hk8 hx8 hM hE9
    replace hM : rootcauseref24_Same_L2 v2 v4 k8 = some t10:=hM
    unfold rootcauseref24_Same_L2 at hM
    refine a_seq (ar (.cons (o_int rfl rfl rfl)<|.nil _) ?_)
    refine a_seq ?_
    refine a_cond _ rfl (fun _=>?_) (fun c=>absurd hk8 (of_decide_eq_false c))
    refine a_skip (a_seq (a_block (a_seq (ar (.cons (o_move rfl)<|.cons (o_assign rfl)<|.nil _) ?_))))
    refine a_seq ?_
    obtain ⟨v13,h12,hM⟩ := of_bind hM
    obtain ⟨v15,h14,hM⟩ := of_bind hM
    refine ad mixed (.cons (o_move rfl)<|.cons (o_move rfl)<|.cons (t_index h12 rfl rfl rfl)<|.cons (o_load_es rfl rfl)<|.cons (o_move rfl)<|.cons (o_move rfl)<|.cons (t_index h14 rfl rfl rfl)<|.cons (o_load_es rfl rfl)<|.cons (o_int rfl rfl rfl)<|.nil _) ?_
    refine a_cond _ rfl (fun h16=>?_) (fun h16=>?_)
    ·replace hM:=(of_if hM).1 h16
     refine a_seq (ar (.cons (o_assign rfl)<|.nil _) ?_)
     obtain rfl:=Option.some.inj hM
     obtain rfl:=hE9 _ rfl
     obtain rfl:=Option.some.inj hK9
     exact a_ret (a_post (.r1 (.tmp rfl)) (DLe.refl _) PostOk.nil.spec)
    ·replace hM:=(of_if hM).2 h16
     refine a_skip (ar (.cons (o_add rfl rfl (inR_i64 hk8 hx8))<|.cons (o_move rfl)<|.nil _) ?_)
     obtain rfl:=Option.some.inj hM
     exact ⟨(),rfl,(Imp.of (fun i=>i) (.cons rfl (DLe.refl _) (.cons rfl (DLe.refl _) (.cons rfl (DLe.refl _) (.cons rfl (DLe.succ _ _) .nil)))) .nil rfl rfl rfl)⟩
   ·rintro k8 _ hk8 hx8 rfl
    refine a_seq (ar (.cons (o_int rfl rfl rfl)<|.nil _) ?_)
    refine a_seq ?_
    refine a_cond _ rfl (fun c=>absurd (of_decide_eq_true c) (Int.not_lt.2 hk8)) (fun _=>?_)
    refine a_exit ?_
    exact ⟨(),hK9,(Imp.sh (fun i=>i) rfl rfl rfl rfl rfl rfl)⟩
  ·rintro _ hM
   replace hM : rootcauseref24_Same_K1 = some r:=hM
   unfold rootcauseref24_Same_K1 at hM
   refine a_seq (ar (.cons (o_assign rfl)<|.nil _) ?_)
   obtain rfl:=Option.some.inj hM
   exact a_ret (a_post (.r1 (.tmp rfl)) (DLe.refl _) PostOk.nil.spec)
def rootcauselaw28_same_K1 : Option Bool :=
 some true
def rootcauselaw28_same_L2 (x0 : List RRec) (x1 : List rootcauseref24_Rec) (k2 : Nat) : Option (Ctl Unit Bool) :=
 (idx x0 (k2 : Int)).bind fun v7=>
 (rootcauselaw24_Rec v7).bind fun v9=>
 (idx x1 (k2 : Int)).bind fun v11=>
 (rootcauseref24_Same v9 v11).bind fun v13=>
 if (!v13) = true then
  some (.done false)
 else
  some (.next ())
def rootcauselaw28_same (x0 : List RRec) (x1 : List rootcauseref24_Rec) : Option Bool :=
 if ((List.length x0 : Int) != (List.length x1 : Int)) = true then
  some false
 else
  (forM' (E:=Bool) 9223372036854775807 (List.length x0 : Int) (fun k2 s=>rootcauselaw28_same_L2 x0 x1 k2) ()).bind fun
   | .next s=>rootcauselaw28_same_K1
   | .done r=>some r
theorem rootcauselaw28_same_c {x0 : List RRec} {x1 : List rootcauseref24_Rec} {r : Bool} (hM : rootcauselaw28_same x0 x1 = some r) : PCall Tryz.prog 9 [.sl 29 (List.map RRec.dv x0),.sl 14 (List.map rootcauseref24_Rec.dv x1)] (.bool r):=by
 unfold rootcauselaw28_same at hM
 refine PCall.body Tryz.func9 Tryz.ntmps9 rfl rfl rfl rfl ?_
 refine a_seq (ar (.cons (o_assign rfl)<|.nil _) ?_)
 refine a_seq (a_seq (ar (.cons (o_move rfl)<|.cons (t_len rfl)<|.cons (o_move rfl)<|.cons (t_len rfl)<|.cons (o_int rfl rfl rfl)<|.nil _) ?_))
 refine a_cond _ rfl (fun h1=>?_) (fun h1=>?_)
 ·replace hM:=(of_if hM).1 h1
  refine a_seq (ar (.cons (o_assign rfl)<|.nil _) ?_)
  obtain rfl:=Option.some.inj hM
  exact a_ret (a_post (.r1 (.tmp rfl)) (DLe.refl _) PostOk.nil.spec)
 ·replace hM:=(of_if hM).2 h1
  refine a_skip ?_
  refine a_cut (α:=Unit) (fun s=>⟨[],[],[]⟩) (fun s=>rootcauselaw28_same_K1 = some r) ?_ ?_
  ·refine a_seq (ar (.cons (o_move rfl)<|.cons (t_len rfl)<|.cons (o_move rfl)<|.nil _) ?_)
   obtain ⟨t3,hL3,hK3⟩ := of_bind hM
   refine a_block ?_
   refine a_for (fun k2 (s : Unit)=>⟨[(1,.sl 14 (List.map rootcauseref24_Rec.dv x1)),(12,.sl 29 (List.map RRec.dv x0)),(13,.int .i64 (List.length x0 : Int)),(14,.int .i64 (k2 : Int))],[],[]⟩) _ hL3 (Imp.sh (fun i=>i) rfl rfl rfl rfl rfl rfl) ?_ ?_
   ·rintro k2 _ t4 hk2 hx2 hM hE3
    replace hM : rootcauselaw28_same_L2 x0 x1 k2 = some t4:=hM
    unfold rootcauselaw28_same_L2 at hM
    refine a_seq (ar (.cons (o_int rfl rfl rfl)<|.nil _) ?_)
    refine a_seq ?_
    refine a_cond _ rfl (fun _=>?_) (fun c=>absurd hk2 (of_decide_eq_false c))
    refine a_skip (a_seq (a_block (a_seq ?_)))
    obtain ⟨v7,h6,hM⟩ := of_bind hM
    refine ar (.cons (o_move rfl)<|.cons (t_index h6 rfl rfl rfl)<|.cons (o_load_er rfl rfl rfl)<|.cons (o_alloc rfl)<|.cons (o_assign rfl)<|.cons (o_store rfl rfl rfl rfl rfl rfl rfl)<|.nil _) ?_
    refine a_seq ?_
    obtain ⟨v9,h8,hM⟩ := of_bind hM
    obtain ⟨v11,h10,hM⟩ := of_bind hM
    obtain ⟨v13,h12,hM⟩ := of_bind hM
    refine ad mixed (.cons (o_load_r rfl rfl rfl rfl)<|.cons (o_call (rootcauselaw24_Rec_c h8) rfl (DLeL.refl _) rfl)<|.cons (o_move rfl)<|.cons (o_move rfl)<|.cons (t_index h10 rfl rfl rfl)<|.cons (o_load_er rfl rfl rfl)<|.cons (o_call (rootcauseref24_Same_c h12) rfl (DLeL.refl _) rfl)<|.cons (o_not rfl)<|.nil _) ?_
    refine a_cond _ rfl (fun h14=>?_) (fun h14=>?_)
    ·replace hM:=(of_if hM).1 h14
     refine a_seq (ar (.cons (o_assign rfl)<|.nil _) ?_)
     obtain rfl:=Option.some.inj hM
     obtain rfl:=hE3 _ rfl
     obtain rfl:=Option.some.inj hK3
     exact a_ret (a_post (.r1 (.tmp rfl)) (DLe.refl _) PostOk.nil.spec)
    ·replace hM:=(of_if hM).2 h14
     refine a_skip (ar (.cons (o_add rfl rfl (inR_i64 hk2 hx2))<|.cons (o_move rfl)<|.nil _) ?_)
     obtain rfl:=Option.some.inj hM
     exact ⟨(),rfl,(Imp.of (fun i=>i) (.cons rfl (DLe.refl _) (.cons rfl (DLe.refl _) (.cons rfl (DLe.refl _) (.cons rfl (DLe.succ _ _) .nil)))) .nil rfl rfl rfl)⟩
   ·rintro k2 _ hk2 hx2 rfl
    refine a_seq (ar (.cons (o_int rfl rfl rfl)<|.nil _) ?_)
    refine a_seq ?_
    refine a_cond _ rfl (fun c=>absurd (of_decide_eq_true c) (Int.not_lt.2 hk2)) (fun _=>?_)
    refine a_exit ?_
    exact ⟨(),hK3,(Imp.sh (fun i=>i) rfl rfl rfl rfl rfl rfl)⟩
  ·rintro _ hM
   replace hM : rootcauselaw28_same_K1 = some r:=hM
   unfold rootcauselaw28_same_K1 at hM
   refine a_seq (ar (.cons (o_assign rfl)<|.nil _) ?_)
   obtain rfl:=Option.some.inj hM
   exact a_ret (a_post (.r1 (.tmp rfl)) (DLe.refl _) PostOk.nil.spec)
def rootcauselaw28_RecorderRecords (x0 : List AEv) (x1 : Int) (x2 : Int) : Option Bool :=
 (rootcauselaw28_awake).bind fun v2=>
 if (!v2) = true then
  some false
 else
  (rootcauselaw28_few x0 20).bind fun v5=>
  (recorder_Record v5 x1 x2).bind fun v7=>
  (rootcauseref28_Record v5 x1 x2).bind fun v9=>
  (gb (v7.2 == v9.2) (false) (rootcauselaw28_same v7.1 v9.1)).bind fun v11=>
  some ((v7.2 == v9.2) && v11)
theorem rootcauselaw28_RecorderRecords_c {x0 : List AEv} {x1 : Int} {x2 : Int} {r : Bool} (hM : rootcauselaw28_RecorderRecords x0 x1 x2 = some r) : PCall Tryz.prog 3 [.sl 9 (List.map AEv.dv x0),.int .i64 x1,.int .i64 x2] (.bool r):=by
 unfold rootcauselaw28_RecorderRecords at hM
 refine PCall.body Tryz.func3 Tryz.ntmps3 rfl rfl rfl rfl ?_
 refine a_seq (ar (.cons (o_assign rfl)<|.nil _) ?_)
 refine a_seq (a_seq ?_)
 obtain ⟨v2,h1,hM⟩ := of_bind hM
 refine ar (.cons (o_call (rootcauselaw28_awake_c h1) rfl (DLeL.refl _) rfl)<|.cons (o_not rfl)<|.nil _) ?_
 refine a_cond _ rfl (fun h3=>?_) (fun h3=>?_)
 ·replace hM:=(of_if hM).1 h3
  refine a_seq (ar (.cons (o_assign rfl)<|.nil _) ?_)
  obtain rfl:=Option.some.inj hM
  exact a_ret (a_post (.r1 (.tmp rfl)) (DLe.refl _) PostOk.nil.spec)
 ·replace hM:=(of_if hM).2 h3
  refine a_skip (a_seq ?_)
  obtain ⟨v5,h4,hM⟩ := of_bind hM
  refine ar (.cons (o_move rfl)<|.cons (o_call (rootcauselaw28_few_c h4) rfl (DLeL.refl _) rfl)<|.cons (o_assign rfl)<|.nil _) ?_
  refine a_seq ?_
  obtain ⟨v7,h6,hM⟩ := of_bind hM
  refine ar (.cons (o_move rfl)<|.cons (o_move rfl)<|.cons (o_move rfl)<|.cons (o_call (recorder_Record_c h6) rfl (DLeL.refl _) rfl)<|.cons (o_move rfl)<|.cons (o_extract rfl rfl)<|.cons (o_extract rfl rfl)<|.cons (o_assign rfl)<|.cons (o_assign rfl)<|.nil _) ?_
  refine a_seq ?_
  obtain ⟨v9,h8,hM⟩ := of_bind hM
  refine ar (.cons (o_move rfl)<|.cons (o_move rfl)<|.cons (o_move rfl)<|.cons (o_call (rootcauseref28_Record_c h8) rfl (DLeL.refl _) rfl)<|.cons (o_move rfl)<|.cons (o_extract rfl rfl)<|.cons (o_extract rfl rfl)<|.cons (o_assign rfl)<|.cons (o_assign rfl)<|.nil _) ?_
  refine a_seq ?_
  obtain ⟨v11,h10,hM⟩ := of_bind hM
  refine ar (.cons (o_move rfl)<|.cons (o_move rfl)<|.cons (o_int rfl rfl rfl)<|.cons (o_move rfl)<|.cons (o_guardG .bT rfl rfl (fun hb=>(.keep .nil)) (fun hb=>o_move rfl))<|.cons (o_guardG .bT rfl rfl (fun hb=>(.keep .nil)) (fun hb=>o_move rfl))<|.cons (o_guardG .bT rfl rfl (fun hb=>(.strip rfl hb (.strip rfl hb .nil))) (fun hb=>o_call (rootcauselaw28_same_c (of_gb h10 hb)) rfl (DLeL.refl _) rfl))<|.cons (o_and rfl rfl)<|.cons (o_assign rfl)<|.nil _) ?_
  obtain rfl:=Option.some.inj hM
  exact a_ret (a_post (.r1 (.tmp rfl)) (DLe.refl _) PostOk.nil.spec)
end Go.Proofs.YtifaebmmbpkclaaGreatDoor
namespace Go.Proofs.YtifaebmmbpkclaaGreatDoor
theorem forGo_two {S S' E E' : Type} {b : Nat→S→Option (Ctl S E)} {b' : Nat→S'→Option (Ctl S' E')} (R : Nat→S→S'→Prop) (D : E→E'→Prop) (N : Nat) (h : ∀ k s s',k < N→R k s s'→(∃ t t',b k s = some (.next t)∧b' k s' = some (.next t')∧R (k + 1) t t')∨(∃ e e',b k s = some (.done e)∧b' k s' = some (.done e')∧D e e')) :
  ∀ m k s s',m + k = N→R k s s'→(∃ t t',forGo b m k s = some (.next t)∧forGo b' m k s' = some (.next t')∧R N t t')∨(∃ e e',forGo b m k s = some (.done e)∧forGo b' m k s' = some (.done e')∧D e e')
 | 0,k,s,s',hk,hs=>by
  rw [Nat.zero_add] at hk
  subst hk
  exact .inl ⟨s,s',rfl,rfl,hs⟩
 | m + 1,k,s,s',hk,hs=>by
  rcases h k s s' (by omega) hs with ⟨t,t',h1,h2,h3⟩ | ⟨e,e',h1,h2,h3⟩
  ·have:=forGo_two R D N h m (k + 1) t t' (by omega) h3
   unfold forGo
   rw [h1,h2]
   exact this
  ·refine .inr ⟨e,e',?_,?_,h3⟩ <;> unfold forGo
   ·rw [h1]; rfl
   ·rw [h2]; rfl
theorem forM_two {S S' E E' : Type} {mx n n' : Int} {b : Nat→S→Option (Ctl S E)} {b' : Nat→S'→Option (Ctl S' E')} {s : S} {s' : S'} (R : Nat→S→S'→Prop) (D : E→E'→Prop) (N : Nat) (hn : n = (N : Int)) (hn' : n' = (N : Int)) (hx : (N : Int)≤mx) (h0 : R 0 s s')
  (h : ∀ k s s',k < N→R k s s'→(∃ t t',b k s = some (.next t)∧b' k s' = some (.next t')∧R (k + 1) t t')∨(∃ e e',b k s = some (.done e)∧b' k s' = some (.done e')∧D e e')) :
  (∃ t t',forM' mx n b s = some (.next t)∧forM' mx n' b' s' = some (.next t')∧R N t t')∨(∃ e e',forM' mx n b s = some (.done e)∧forM' mx n' b' s' = some (.done e')∧D e e'):=by
 subst hn; subst hn'
 unfold forM'
 rw [chk_pos hx,chk_pos hx,Int.toNat_natCast]
 exact forGo_two R D N h N 0 s s' (by omega) h0
theorem gb_some (b v : Bool) : gb b false (some v) = some (b && v):=by cases b <;> rfl
theorem valid_eq (c : Ck) (q : Int) (w : List Int) (e : AEv) (x2 : Int) : rootcauseref24_Valid (rootcauseref24_Rec.mk 1 x2 q 0 w e) = some (validB (reOf (RRec.mk x2 q c 1 e 0))):=by
 unfold rootcauseref24_Valid rootcauseref24_in
 simp only [Option.bind_some,gb_some]
 have hv : validB (reOf (RRec.mk x2 q c 1 e 0)) = ((evOk (evOf e) x2 && (0 : Int) == 0) && inB x2 8):=by
  unfold validB okWhat reOf
  simp
 rw [hv]
 unfold evOk inB evOf
 simp only [Bool.decide_and]
 have hl : (decide ((e.gArgs.length : Int)≤4)) = decide (e.gArgs.length≤4):=by
  rw [decide_eq_decide]; omega
 rw [hl]
 simp only [show ((0 : Int) == 0) = true from rfl,show ((1 : Int) == 1) = true from rfl]
 cases hA : decide (0≤x2) <;> cases hB : decide (x2≤8) <;> simp
def AEvR (e : AEv) : Prop:=InR .i64 e.gTick∧InR .i64 e.gComponent∧InR .u8 e.gKind∧InR .i64 e.gPeer∧InR .i64 e.gN∧InR .i64 e.gCopy∧InR .i64 e.gHandler∧InR .i64 e.gD∧∀ y∈e.gArgs,InR .i64 y
theorem fits_ev {e0 : AEv} (h : AEvR e0) {n : Nat} (hn : n≤5) : evFits ⟨e0.gTick,e0.gComponent,e0.gKind,e0.gPeer,e0.gN,e0.gCopy,e0.gHandler,e0.gD,e0.gArgs.take n⟩ = true:=by
 obtain ⟨h1,h2,h3,h4,h5,h6,h7,h8,h9⟩ := h
 unfold evFits
 simp only [Bool.and_eq_true,okI_iff,List.all_eq_true,decide_eq_true_eq]
 refine ⟨⟨⟨⟨⟨⟨⟨⟨⟨h1,h2⟩,h3⟩,h4⟩,h5⟩,h6⟩,h7⟩,h8⟩,fun x hx=>h9 x (List.mem_of_mem_take hx)⟩,by simp; omega⟩
theorem sameEvent_self (e : AEv) (hl : e.gArgs.length≤1000) : rootcauseref17_SameEvent e e = some true:=by
 unfold rootcauseref17_SameEvent
 rw [if_neg (by simp)]
 rw [forM_next (S:=Unit) e.gArgs.length (fun _=>()) rfl rfl (by omega) (fun j hj=>by
  unfold rootcauseref17_SameEvent_L2
  have hx : e.gArgs[j]? = some e.gArgs[j]:=List.getElem?_eq_getElem hj
  simp only [idx_nat,hx,Option.bind_some]
  rw [if_neg (by simp)])]
 rfl
structure SameR (a : RRec) (b : rootcauseref24_Rec) : Prop where
 ys : ∃ ys,VClk_Entries a.gClock = some ys∧rootcauseref24_Trim b.gClock = some ys∧ys.length≤16∧(0 < ys.length→ys[ys.length - 1]?≠some 0)
 what : a.gWhat = b.gWhat
 comp : a.gComponent = b.gComponent
 seq : a.gSeq = b.gSeq
 count : a.gCount = b.gCount
 ev : a.gEvent = b.gEvent
 args : a.gEvent.gArgs.length≤1000
theorem same_one {a : RRec} {b : rootcauseref24_Rec} (h : SameR a b) : ∃ v,rootcauselaw24_Rec a = some v∧rootcauseref24_Same v b = some true:=by
 obtain ⟨⟨ys,y1,y2,y3,y4⟩,h1,h2,h3,h4,h5,h6⟩ := h
 unfold rootcauselaw24_Rec
 rw [y1,Option.bind_some]
 refine ⟨_,rfl,?_⟩
 unfold rootcauseref24_Same
 simp only [y2,trim_fix ys (by omega) y4,Option.bind_some,h1,h2,h3,h4,h5]
 have hs:=sameEvent_self b.gEvent (by rw [← h5]; exact h6)
 rw [hs]
 simp only [gb_some,bne_self_eq_false,Bool.or_self,Bool.not_false,Bool.and_self,Bool.not_true,Option.bind_some]
 rw [if_neg (by simp)]
 rw [forM_next (S:=Unit) ys.length (fun _=>()) rfl rfl (by omega) (fun j hj=>by
  unfold rootcauseref24_Same_L2
  have hx : ys[j]? = some ys[j]:=List.getElem?_eq_getElem hj
  simp only [idx_nat,hx,Option.bind_some]
  rw [if_neg (by simp)])]
 rfl
theorem same_lists {xs : List RRec} {ws : List rootcauseref24_Rec} (hl : xs.length = ws.length) (hn : xs.length≤1000) (h : ∀ (i : Nat) a b,xs[i]? = some a→ws[i]? = some b→SameR a b) : rootcauselaw28_same xs ws = some true:=by
 unfold rootcauselaw28_same
 rw [if_neg (by simp [hl])]
 rw [forM_next (S:=Unit) xs.length (fun _=>()) rfl rfl (by omega) (fun j hj=>by
  unfold rootcauselaw28_same_L2
  have hx : xs[j]? = some xs[j]:=List.getElem?_eq_getElem hj
  have hy : ws[j]? = some (ws[j]'(by omega)):=List.getElem?_eq_getElem (by omega)
  obtain ⟨v,v1,v2⟩ := same_one (h j _ _ hx hy)
  simp only [idx_nat,hx,hy,Option.bind_some,v1,v2]
  rw [if_neg (by simp)])]
 rfl
theorem awake28 : rootcauselaw28_awake = some true:=by kernel_rfl
theorem records_two {l : List AEv} {x1 x2 : Int} (hl : l.length≤20) (hev : ∀ e∈l,evFits e = true∧e.gArgs.length≤5) (hx2 : InR .i64 x2) :
  ∃ r w,recorder_Record l x1 x2 = some r∧rootcauseref28_Record l x1 x2 = some w∧r.2 = w.2∧r.1.length = w.1.length∧r.1.length≤20∧(∀ (i : Nat) a b,r.1[i]? = some a→w.1[i]? = some b→SameR a b) ∧
   (r.2 = 0→∀ (i : Nat) a,r.1[i]? = some a→a.gWhat = 1∧a.gSeq = (i : Int)∧a.gComponent = x2∧a.gCount = 0∧reFits a = true∧validB (reOf a) = true):=by
 unfold recorder_Record rootcauseref28_Record
 by_cases hbad : x1 < 1∨8 < x1∨∃ e∈l,e.gComponent < 0∨x1 < e.gComponent
 ·obtain ⟨a1,a2⟩ := clocks_bad (n:=x1) (by omega) hbad
  rw [a1,a2]
  refine ⟨([],1),([],1),rfl,rfl,rfl,rfl,by simp,fun i a b h=>by simp at h,fun h=>by cases h⟩
 ·have h1 : 1≤x1:=by omega
  have h2 : x1≤8:=by omega
  have hc : ∀ e∈l,0≤e.gComponent∧e.gComponent≤x1:=fun e he=>by
   have : ¬ (e.gComponent < 0∨x1 < e.gComponent):=fun h=>hbad (.inr (.inr ⟨e,he,h⟩))
   omega
  obtain ⟨cs,c0,c1,c2,c3⟩ := clocks_ok (n:=x1) (by omega) h1 h2 hc
  obtain ⟨out,p1,I⟩ := past_ok (l:=l) (by omega)
  obtain ⟨ws,w1,w2,w3⟩ := refClocks_ok (n:=x1) (by omega) h1 h2 hc p1 I
  rw [c0,check_ok (by omega) h1 h2 hc]
  simp only [Option.bind_some]
  rw [if_neg (by simp)]
  by_cases hx : x2 < 0∨x1 < x2
  ·rw [if_pos (by simpa using hx),if_pos (by simpa using hx)]
   refine ⟨([],1),([],1),rfl,rfl,rfl,rfl,by simp,fun i a b h=>by simp at h,fun h=>by cases h⟩
  ·rw [if_neg (by simpa using hx),if_neg (by simpa using hx),w1]
   simp only [Option.bind_some]
   have key:=forM_two (S:=List RRec) (S' := List rootcauseref24_Rec) (E:=List RRec × Int) (E' := List rootcauseref24_Rec × Int) (mx:=9223372036854775807) (n:=(l.length : Int)) (n' := (l.length : Int)) (b:=fun k6 s=>recorder_Record_L2 l x2 (cs,0) k6 s) (b' := fun k7 s=>rootcauseref28_Record_L2 l x2 ws k7 s) (s:=[]) (s' := [])
    (fun k s s'=>s.length = s'.length∧s.length≤k∧(∀ (i : Nat) a b,s[i]? = some a→s'[i]? = some b→SameR a b)∧∀ (i : Nat) a,s[i]? = some a→a.gWhat = 1∧a.gSeq = (i : Int)∧a.gComponent = x2∧a.gCount = 0∧reFits a = true∧validB (reOf a) = true)
    (fun e e'=>e = ([],6)∧e' = ([],6)) l.length rfl rfl (by omega) ⟨rfl,Nat.le_refl _,fun i a b h=>by simp at h,fun i a h=>by simp at h⟩ (fun k s s' hk ⟨i1,i2,i3,i4⟩=>by
    have hx : l[k]? = some l[k]:=List.getElem?_eq_getElem hk
    have hcj:=c2 k _ hx
    have hwj:=w3 k hk
    have he:=hev l[k] (List.getElem_mem hk)
    generalize hcl : nextC l cs k l[k] = cl at hcj
    have hg : cs.getD k zc = cl:=by rw [List.getD_eq_getElem?_getD,hcj]; rfl
    have hcf:=c3 cl (List.mem_of_getElem? hcj)
    generalize l[k] = e at hx he hcl
    unfold recorder_Record_L2 rootcauseref28_Record_L2
    simp only [idx_nat,hx,hcj,hwj,Option.bind_some]
    by_cases hcm : (e.gComponent != x2) = true
    ·rw [if_pos hcm,if_pos hcm]
     exact .inl ⟨s,s',rfl,rfl,i1,by omega,i3,i4⟩
    ·rw [if_neg hcm,if_neg hcm]
     rw [chk_pos (by constructor <;> omega)]
     have hw : IntKind.wrap .u64 (s.length : Int) = (s.length : Int):=wrap_u64 (by omega) (by omega)
     have hw' : IntKind.wrap .u64 (s'.length : Int) = (s.length : Int):=by rw [← i1]; exact hw
     rw [hw,hw']
     have hfit : reFits (RRec.mk x2 (s.length : Int) cl 1 e 0) = true:=by
      unfold reFits ckFits
      simp only [Bool.and_eq_true,List.all_eq_true,okI_iff,List.mem_range]
      refine ⟨⟨⟨⟨⟨hx2,?_⟩,fun i hi=>?_⟩,?_⟩,he.1⟩,?_⟩
      ·exact ⟨by omega,by omega⟩
      ·have:=hcf i; exact ⟨by omega,by omega⟩
      ·exact ⟨by omega,by omega⟩
      ·exact ⟨by omega,by omega⟩
     have hck : record_Check (RRec.mk x2 (s.length : Int) cl 1 e 0) = some (checkN (reOf (RRec.mk x2 (s.length : Int) cl 1 e 0))):=chk_pos hfit
     rw [hck,valid_eq cl]
     simp only [Option.bind_some]
     cases hvb : validB (reOf (RRec.mk x2 (s.length : Int) cl 1 e 0)) with
     | false=>
      have : checkN (reOf (RRec.mk x2 (s.length : Int) cl 1 e 0)) = 1:=by unfold checkN; rw [hvb]; rfl
      rw [this,if_pos (by simp),if_pos (by simp)]
      exact .inr ⟨_,_,rfl,rfl,rfl,rfl⟩
     | true=>
      have : checkN (reOf (RRec.mk x2 (s.length : Int) cl 1 e 0)) = 0:=by unfold checkN; rw [hvb]; rfl
      rw [this,if_neg (by simp),if_neg (by simp),chk_pos (by constructor <;> simp <;> omega),chk_pos (by constructor <;> simp <;> omega)]
      refine .inl ⟨_,_,rfl,rfl,by simp [i1],by simp; omega,fun i a b ha hb=>?_,fun i a ha=>?_⟩
      ·by_cases hi : i < s.length
       ·rw [List.getElem?_append_left hi] at ha
        rw [List.getElem?_append_left (by omega)] at hb
        exact i3 i a b ha hb
       ·rw [List.getElem?_append_right (by omega)] at ha hb
        have : i - s.length = 0:=by
         have:=(List.getElem?_eq_some_iff.1 ha).1
         simp at this
         omega
        rw [this] at ha
        rw [← i1,this] at hb
        simp at ha hb
        subst ha; subst hb
        obtain ⟨ys,y1,y2,y3,y4⟩ := same_entries (c:=cl) (xs:=(List.range (x1.toNat + 1)).map fun (c : Nat)=>((pcnt (compOf l) (cell out) l.length k (c : Int) : Nat) : Int)) (by simp; omega) (fun i hi=>by
         have hi' : i < x1.toNat + 1:=by simpa using hi
         have:=clock_count h1 h2 hc c1 c2 c3 I hk (i:=i) (by omega)
         rw [hg] at this
         rw [this]
         simp [hi']) (fun i h3 h4=>by
         have h3' : x1.toNat + 1≤i:=by simpa using h3
         have:=clock_count h1 h2 hc c1 c2 c3 I hk (i:=i) h4
         rw [hg] at this
         rw [this,cnt_above hc _ _ (by omega)]
         rfl)
        exact ⟨⟨ys,y1,y2,y3,y4⟩,rfl,rfl,rfl,rfl,rfl,by simp only; omega⟩
      ·by_cases hi : i < s.length
       ·rw [List.getElem?_append_left hi] at ha
        exact i4 i a ha
       ·rw [List.getElem?_append_right (by omega)] at ha
        have : i - s.length = 0:=by
         have:=(List.getElem?_eq_some_iff.1 ha).1
         simp at this
         omega
        rw [this] at ha
        simp at ha
        subst ha
        exact ⟨rfl,by simp only; omega,rfl,rfl,hfit,hvb⟩)
   rcases key with ⟨t,t',k1,k2,k3,k4,k5,k6⟩ | ⟨e,e',k1,k2,rfl,rfl⟩
   ·rw [k1,k2]
    exact ⟨(t,0),(t',0),rfl,rfl,rfl,k3,by show t.length≤20; omega,k5,fun _=>k6⟩
   ·rw [k1,k2]
    refine ⟨([],6),([],6),rfl,rfl,rfl,rfl,by simp,fun i a b h=>by simp at h,fun h=>by cases h⟩
theorem few_fits {x0 l : List AEv} (h0 : ∀ e∈x0,AEvR e) (h : ∀ e∈l,∃ e0∈x0,∃ n,n≤5∧e = ⟨e0.gTick,e0.gComponent,e0.gKind,e0.gPeer,e0.gN,e0.gCopy,e0.gHandler,e0.gD,e0.gArgs.take n⟩) : ∀ e∈l,evFits e = true∧e.gArgs.length≤5:=by
 intro e he
 obtain ⟨e0,h1,n,h2,rfl⟩ := h e he
 exact ⟨fits_ev (h0 e0 h1) h2,by simp; omega⟩
theorem recorderRecords_plain (x0 : List AEv) (x1 x2 : Int) (hl : x0.length≤9223372036854775807) (h0 : ∀ e∈x0,AEvR e) (hx2 : InR .i64 x2) : rootcauselaw28_RecorderRecords x0 x1 x2 = some true:=by
 obtain ⟨l,e1,e2,e3⟩ := few_ok x0 hl
 obtain ⟨r,w,r1,r2,r3,r4,r5,r6,_⟩ := records_two (x1:=x1) (x2:=x2) e2 (few_fits h0 e3) hx2
 unfold rootcauselaw28_RecorderRecords
 rw [awake28,Option.bind_some,if_neg (by simp),e1,Option.bind_some,r1,Option.bind_some,r2,Option.bind_some]
 rw [same_lists r4 (by omega) r6,r3]
 simp [gb]
end Go.Proofs.YtifaebmmbpkclaaGreatDoor
