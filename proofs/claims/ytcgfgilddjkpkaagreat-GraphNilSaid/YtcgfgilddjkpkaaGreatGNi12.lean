/-
  What the claim leans on, part 12.
-/
import Derived.Test.YtcgfgilddjkpkaaGreatGNi11
import Derived.Laws.BytesArg
set_option linter.unusedVariables false
set_option linter.unusedSimpArgs false
namespace Go.Proofs.YtcgfgilddjkpkaaGreat
open Go.RowKit
class TStr (P : Program) (t : TypeId) : Prop where
 h : P.underlying t = some .string
section
variable {P : Program} {ops : Array Oper} {σ : AS} {t ty : Nat} {pos : String} {af : Array Edge}
end
set_option maxRecDepth 100000
instance : TStr Tryz.prog 9 := ⟨by kernel_rfl⟩
instance : TStr Tryz.prog 10 := ⟨by kernel_rfl⟩
instance : TStr Tryz.prog 11 := ⟨by kernel_rfl⟩
set_option maxHeartbeats 4000000
def array_9_vclock_Clock.cs (x : Nat→VClk) : List DV:=[.int .u64 (((x 0).gat) 0),.int .u64 (((x 0).gat) 1),.int .u64 (((x 0).gat) 2),.int .u64 (((x 0).gat) 3),.int .u64 (((x 0).gat) 4),.int .u64 (((x 0).gat) 5),.int .u64 (((x 0).gat) 6),.int .u64 (((x 0).gat) 7),.int .u64 (((x 0).gat) 8),.int .u64 (((x 0).gat) 9),.int .u64 (((x 0).gat) 10),.int .u64 (((x 0).gat) 11),.int .u64 (((x 0).gat) 12),.int .u64 (((x 0).gat) 13),.int .u64 (((x 0).gat) 14),.int .u64 (((x 0).gat) 15),.int .u64 (((x 1).gat) 0),.int .u64 (((x 1).gat) 1),.int .u64 (((x 1).gat) 2),.int .u64 (((x 1).gat) 3),.int .u64 (((x 1).gat) 4),.int .u64 (((x 1).gat) 5),.int .u64 (((x 1).gat) 6),.int .u64 (((x 1).gat) 7),.int .u64 (((x 1).gat) 8),.int .u64 (((x 1).gat) 9),.int .u64 (((x 1).gat) 10),.int .u64 (((x 1).gat) 11),.int .u64 (((x 1).gat) 12),.int .u64 (((x 1).gat) 13),.int .u64 (((x 1).gat) 14),.int .u64 (((x 1).gat) 15),.int .u64 (((x 2).gat) 0),.int .u64 (((x 2).gat) 1),.int .u64 (((x 2).gat) 2),.int .u64 (((x 2).gat) 3),.int .u64 (((x 2).gat) 4),.int .u64 (((x 2).gat) 5),.int .u64 (((x 2).gat) 6),.int .u64 (((x 2).gat) 7),.int .u64 (((x 2).gat) 8),.int .u64 (((x 2).gat) 9),.int .u64 (((x 2).gat) 10),.int .u64 (((x 2).gat) 11),.int .u64 (((x 2).gat) 12),.int .u64 (((x 2).gat) 13),.int .u64 (((x 2).gat) 14),.int .u64 (((x 2).gat) 15),.int .u64 (((x 3).gat) 0),.int .u64 (((x 3).gat) 1),.int .u64 (((x 3).gat) 2),.int .u64 (((x 3).gat) 3),.int .u64 (((x 3).gat) 4),.int .u64 (((x 3).gat) 5),.int .u64 (((x 3).gat) 6),.int .u64 (((x 3).gat) 7),.int .u64 (((x 3).gat) 8),.int .u64 (((x 3).gat) 9),.int .u64 (((x 3).gat) 10),.int .u64 (((x 3).gat) 11),.int .u64 (((x 3).gat) 12),.int .u64 (((x 3).gat) 13),.int .u64 (((x 3).gat) 14),.int .u64 (((x 3).gat) 15),.int .u64 (((x 4).gat) 0),.int .u64 (((x 4).gat) 1),.int .u64 (((x 4).gat) 2),.int .u64 (((x 4).gat) 3),.int .u64 (((x 4).gat) 4),.int .u64 (((x 4).gat) 5),.int .u64 (((x 4).gat) 6),.int .u64 (((x 4).gat) 7),.int .u64 (((x 4).gat) 8),.int .u64 (((x 4).gat) 9),.int .u64 (((x 4).gat) 10),.int .u64 (((x 4).gat) 11),.int .u64 (((x 4).gat) 12),.int .u64 (((x 4).gat) 13),.int .u64 (((x 4).gat) 14),.int .u64 (((x 4).gat) 15),.int .u64 (((x 5).gat) 0),.int .u64 (((x 5).gat) 1),.int .u64 (((x 5).gat) 2),.int .u64 (((x 5).gat) 3),.int .u64 (((x 5).gat) 4),.int .u64 (((x 5).gat) 5),.int .u64 (((x 5).gat) 6),.int .u64 (((x 5).gat) 7),.int .u64 (((x 5).gat) 8),.int .u64 (((x 5).gat) 9),.int .u64 (((x 5).gat) 10),.int .u64 (((x 5).gat) 11),.int .u64 (((x 5).gat) 12),.int .u64 (((x 5).gat) 13),.int .u64 (((x 5).gat) 14),.int .u64 (((x 5).gat) 15),.int .u64 (((x 6).gat) 0),.int .u64 (((x 6).gat) 1),.int .u64 (((x 6).gat) 2),.int .u64 (((x 6).gat) 3),.int .u64 (((x 6).gat) 4),.int .u64 (((x 6).gat) 5),.int .u64 (((x 6).gat) 6),.int .u64 (((x 6).gat) 7),.int .u64 (((x 6).gat) 8),.int .u64 (((x 6).gat) 9),.int .u64 (((x 6).gat) 10),.int .u64 (((x 6).gat) 11),.int .u64 (((x 6).gat) 12),.int .u64 (((x 6).gat) 13),.int .u64 (((x 6).gat) 14),.int .u64 (((x 6).gat) 15),.int .u64 (((x 7).gat) 0),.int .u64 (((x 7).gat) 1),.int .u64 (((x 7).gat) 2),.int .u64 (((x 7).gat) 3),.int .u64 (((x 7).gat) 4),.int .u64 (((x 7).gat) 5),.int .u64 (((x 7).gat) 6),.int .u64 (((x 7).gat) 7),.int .u64 (((x 7).gat) 8),.int .u64 (((x 7).gat) 9),.int .u64 (((x 7).gat) 10),.int .u64 (((x 7).gat) 11),.int .u64 (((x 7).gat) 12),.int .u64 (((x 7).gat) 13),.int .u64 (((x 7).gat) 14),.int .u64 (((x 7).gat) 15),.int .u64 (((x 8).gat) 0),.int .u64 (((x 8).gat) 1),.int .u64 (((x 8).gat) 2),.int .u64 (((x 8).gat) 3),.int .u64 (((x 8).gat) 4),.int .u64 (((x 8).gat) 5),.int .u64 (((x 8).gat) 6),.int .u64 (((x 8).gat) 7),.int .u64 (((x 8).gat) 8),.int .u64 (((x 8).gat) 9),.int .u64 (((x 8).gat) 10),.int .u64 (((x 8).gat) 11),.int .u64 (((x 8).gat) 12),.int .u64 (((x 8).gat) 13),.int .u64 (((x 8).gat) 14),.int .u64 (((x 8).gat) 15)]
def vclock_Merge_K1 (a1 : Nat→Int) : Option VClk :=
 some (VClk.mk a1)
def vclock_Merge_L2 (x1 : VClk) (k2 : Nat) (a3 : Nat→Int) : Option (Nat→Int) :=
 chk (inA 16 (k2 : Int))<|
 chk (inA 16 (k2 : Int))<|
 chk (inA 16 (k2 : Int))<|
 some (upd a3 (Int.toNat (k2 : Int)) (if (x1.gat (Int.toNat (k2 : Int))) > (a3 (Int.toNat (k2 : Int))) then (x1.gat (Int.toNat (k2 : Int))) else (a3 (Int.toNat (k2 : Int)))))
def vclock_Merge (x0 : VClk) (x1 : VClk) : Option VClk :=
 (foldM' 9223372036854775807 16 (fun k2 s=>vclock_Merge_L2 x1 k2 s) x0.gat).bind fun s=>vclock_Merge_K1 s
theorem vclock_Merge_c {x0 : VClk} {x1 : VClk} {r : VClk} (hM : vclock_Merge x0 x1 = some r) : PCall Tryz.prog 85 [.agg (VClk.cs x0),.agg (VClk.cs x1)] (.agg (VClk.cs r)):=by
 unfold vclock_Merge at hM
 refine PCall.body Tryz.func85 Tryz.ntmps85 rfl rfl rfl rfl ?_
 refine a_seq (ar (.cons (o_box rfl rfl)<|.cons (o_box rfl rfl)<|.cons (o_alloc rfl)<|.nil _) ?_)
 refine a_cut (α:=(Nat→Int)) (fun s=>⟨[(2,.ref 2 0),(4,.ref 4 0)],[(2,some (.blk 61 (VClk.cs (VClk.mk s)))),(4,some (.blk 61 (VClk.cs (VClk.mk (arr 0 [0,0,0,0,0,0,0,0,0,0,0,0,0,0,0,0])))))],[2,4]⟩) (fun s=>vclock_Merge_K1 s = some r) ?_ ?_
 ·refine a_seq (ar (.cons (o_move rfl)<|.nil _) ?_)
  obtain ⟨a3,hL4,hK4⟩ := of_bind hM
  refine a_block ?_
  refine a_fold (fun k2 (s : (Nat→Int))=>⟨[(2,.ref 2 0),(3,.ref 3 0),(4,.ref 4 0),(6,.int .i64 (k2 : Int))],[(2,some (.blk 61 (VClk.cs (VClk.mk s)))),(3,some (.blk 61 (VClk.cs x1))),(4,some (.blk 61 (VClk.cs (VClk.mk (arr 0 [0,0,0,0,0,0,0,0,0,0,0,0,0,0,0,0])))))],[2,3,4]⟩) _ hL4 (Imp.sh (fun i=>i) rfl rfl rfl rfl rfl rfl) ?_ ?_
  ·rintro k2 a3 t5 hk2 hx2 hM
   replace hM : vclock_Merge_L2 x1 k2 a3 = some t5:=hM
   unfold vclock_Merge_L2 at hM
   refine a_seq (ar (.cons (o_int rfl rfl rfl)<|.nil _) ?_)
   refine a_seq ?_
   refine a_cond _ rfl (fun _=>?_) (fun c=>absurd hk2 (of_decide_eq_false c))
   refine a_skip (a_seq (a_block (a_seq (ar (.cons (o_move rfl)<|.cons (o_assign rfl)<|.nil _) ?_))))
   obtain ⟨h7,hM⟩ := of_chk hM
   obtain ⟨h8,hM⟩ := of_chk hM
   obtain ⟨h9,hM⟩ := of_chk hM
   refine ad mixed (.cons (o_move rfl)<|.cons (o_move rfl)<|.cons (o_fieldAddr rfl)<|.cons (t_index_d h7 rfl rfl)<|.cons (o_load_s rfl rfl (arr_get1 (DV.int .u64) a3 h7 rfl))<|.cons (o_move rfl)<|.cons (o_fieldAddr rfl)<|.cons (t_index_d h8 rfl rfl)<|.cons (o_load_s rfl rfl (arr_get1 (DV.int .u64) x1.gat h8 rfl))<|.cons (o_max rfl rfl)<|.cons (o_fieldAddr rfl)<|.cons (t_index_d h9 rfl rfl)<|.cons (o_store rfl rfl rfl rfl rfl (arr_ble (fun x=>[(DV.int .u64) x]) a3 (fun _=>rfl) (by decide) h9 rfl 0 1 (by decide)) (arr_set (ds' := [.int .u64 ((upd a3 (Int.toNat (k2 : Int)) (if (x1.gat (Int.toNat (k2 : Int))) > (a3 (Int.toNat (k2 : Int))) then (x1.gat (Int.toNat (k2 : Int))) else (a3 (Int.toNat (k2 : Int))))) 0),.int .u64 ((upd a3 (Int.toNat (k2 : Int)) (if (x1.gat (Int.toNat (k2 : Int))) > (a3 (Int.toNat (k2 : Int))) then (x1.gat (Int.toNat (k2 : Int))) else (a3 (Int.toNat (k2 : Int))))) 1),.int .u64 ((upd a3 (Int.toNat (k2 : Int)) (if (x1.gat (Int.toNat (k2 : Int))) > (a3 (Int.toNat (k2 : Int))) then (x1.gat (Int.toNat (k2 : Int))) else (a3 (Int.toNat (k2 : Int))))) 2),.int .u64 ((upd a3 (Int.toNat (k2 : Int)) (if (x1.gat (Int.toNat (k2 : Int))) > (a3 (Int.toNat (k2 : Int))) then (x1.gat (Int.toNat (k2 : Int))) else (a3 (Int.toNat (k2 : Int))))) 3),.int .u64 ((upd a3 (Int.toNat (k2 : Int)) (if (x1.gat (Int.toNat (k2 : Int))) > (a3 (Int.toNat (k2 : Int))) then (x1.gat (Int.toNat (k2 : Int))) else (a3 (Int.toNat (k2 : Int))))) 4),.int .u64 ((upd a3 (Int.toNat (k2 : Int)) (if (x1.gat (Int.toNat (k2 : Int))) > (a3 (Int.toNat (k2 : Int))) then (x1.gat (Int.toNat (k2 : Int))) else (a3 (Int.toNat (k2 : Int))))) 5),.int .u64 ((upd a3 (Int.toNat (k2 : Int)) (if (x1.gat (Int.toNat (k2 : Int))) > (a3 (Int.toNat (k2 : Int))) then (x1.gat (Int.toNat (k2 : Int))) else (a3 (Int.toNat (k2 : Int))))) 6),.int .u64 ((upd a3 (Int.toNat (k2 : Int)) (if (x1.gat (Int.toNat (k2 : Int))) > (a3 (Int.toNat (k2 : Int))) then (x1.gat (Int.toNat (k2 : Int))) else (a3 (Int.toNat (k2 : Int))))) 7),.int .u64 ((upd a3 (Int.toNat (k2 : Int)) (if (x1.gat (Int.toNat (k2 : Int))) > (a3 (Int.toNat (k2 : Int))) then (x1.gat (Int.toNat (k2 : Int))) else (a3 (Int.toNat (k2 : Int))))) 8),.int .u64 ((upd a3 (Int.toNat (k2 : Int)) (if (x1.gat (Int.toNat (k2 : Int))) > (a3 (Int.toNat (k2 : Int))) then (x1.gat (Int.toNat (k2 : Int))) else (a3 (Int.toNat (k2 : Int))))) 9),.int .u64 ((upd a3 (Int.toNat (k2 : Int)) (if (x1.gat (Int.toNat (k2 : Int))) > (a3 (Int.toNat (k2 : Int))) then (x1.gat (Int.toNat (k2 : Int))) else (a3 (Int.toNat (k2 : Int))))) 10),.int .u64 ((upd a3 (Int.toNat (k2 : Int)) (if (x1.gat (Int.toNat (k2 : Int))) > (a3 (Int.toNat (k2 : Int))) then (x1.gat (Int.toNat (k2 : Int))) else (a3 (Int.toNat (k2 : Int))))) 11),.int .u64 ((upd a3 (Int.toNat (k2 : Int)) (if (x1.gat (Int.toNat (k2 : Int))) > (a3 (Int.toNat (k2 : Int))) then (x1.gat (Int.toNat (k2 : Int))) else (a3 (Int.toNat (k2 : Int))))) 12),.int .u64 ((upd a3 (Int.toNat (k2 : Int)) (if (x1.gat (Int.toNat (k2 : Int))) > (a3 (Int.toNat (k2 : Int))) then (x1.gat (Int.toNat (k2 : Int))) else (a3 (Int.toNat (k2 : Int))))) 13),.int .u64 ((upd a3 (Int.toNat (k2 : Int)) (if (x1.gat (Int.toNat (k2 : Int))) > (a3 (Int.toNat (k2 : Int))) then (x1.gat (Int.toNat (k2 : Int))) else (a3 (Int.toNat (k2 : Int))))) 14),.int .u64 ((upd a3 (Int.toNat (k2 : Int)) (if (x1.gat (Int.toNat (k2 : Int))) > (a3 (Int.toNat (k2 : Int))) then (x1.gat (Int.toNat (k2 : Int))) else (a3 (Int.toNat (k2 : Int))))) 15)]) (fun x=>[(DV.int .u64) x]) a3 (if (x1.gat (Int.toNat (k2 : Int))) > (a3 (Int.toNat (k2 : Int))) then (x1.gat (Int.toNat (k2 : Int))) else (a3 (Int.toNat (k2 : Int)))) (fun _=>rfl) (by decide) h9 rfl 0 (Nat.le_of_ble_eq_true rfl) rfl rfl rfl rfl))<|.nil _) ?_
   refine ar (.cons (o_add rfl rfl (inR_i64 hk2 hx2))<|.cons (o_move rfl)<|.nil _) ?_
   obtain rfl:=Option.some.inj hM
   exact (Imp.of (fun i=>i) (.cons rfl (DLe.refl _) (.cons rfl (DLe.refl _) (.cons rfl (DLe.refl _) (.cons rfl (DLe.succ _ _) .nil)))) (.cons rfl (.refl _) (.cons rfl (.refl _) (.cons rfl (.refl _) .nil))) rfl rfl rfl)
  ·rintro k2 hk2 hx2
   refine a_seq (ar (.cons (o_int rfl rfl rfl)<|.nil _) ?_)
   refine a_seq ?_
   refine a_cond _ rfl (fun c=>absurd (of_decide_eq_true c) (Int.not_lt.2 hk2)) (fun _=>?_)
   refine a_exit ?_
   exact ⟨a3,hK4,(Imp.sh (fun i=>i) rfl rfl rfl rfl rfl rfl)⟩
 ·rintro a1 hM
  replace hM : vclock_Merge_K1 a1 = some r:=hM
  unfold vclock_Merge_K1 at hM
  refine a_seq (ar (.cons (o_load_r rfl rfl rfl rfl)<|.cons (o_store rfl rfl rfl rfl rfl rfl rfl)<|.nil _) ?_)
  obtain rfl:=Option.some.inj hM
  exact a_ret (a_post (.r1 (.cell rfl rfl (.row _ CRow.h (Nat.le_of_ble_eq_true rfl) rfl))) (DLe.refl _) PostOk.nil.spec)
def VClk_Tick_K1 (a1 : Nat→Int) : Option VClk :=
 some (VClk.mk a1)
def VClk_Tick (x0 : VClk) (x1 : Int) : Option VClk :=
 chk (((decide (0≤x1)) && (decide (x1 < 16))) = true→inA 16 x1)<|
 if (((decide (0≤x1)) && (decide (x1 < 16))) && (decide ((x0.gat (Int.toNat x1)) < 18446744073709551615))) = true then
  chk (inA 16 x1)<|
  chk (inA 16 x1)<|
  VClk_Tick_K1 (upd x0.gat (Int.toNat x1) (IntKind.wrap .u64 ((x0.gat (Int.toNat x1)) + 1)))
 else
  VClk_Tick_K1 x0.gat
theorem VClk_Tick_c {x0 : VClk} {x1 : Int} {r : VClk} (hM : VClk_Tick x0 x1 = some r) : PCall Tryz.prog 86 [.agg (VClk.cs x0),.int .i64 x1] (.agg (VClk.cs r)):=by
 unfold VClk_Tick at hM
 refine PCall.body Tryz.func86 Tryz.ntmps86 rfl rfl rfl rfl ?_
 refine a_seq (ar (.cons (o_box rfl rfl)<|.cons (o_alloc rfl)<|.nil _) ?_)
 refine a_cut (α:=(Nat→Int)) (fun s=>⟨[(2,.ref 2 0),(4,.ref 4 0)],[(2,some (.blk 61 (VClk.cs (VClk.mk s)))),(4,some (.blk 61 (VClk.cs (VClk.mk (arr 0 [0,0,0,0,0,0,0,0,0,0,0,0,0,0,0,0])))))],[2,4]⟩) (fun s=>VClk_Tick_K1 s = some r) ?_ ?_
 ·refine a_seq ?_
  obtain ⟨h2,hM⟩ := of_chk hM
  refine ar (.cons (o_move rfl)<|.cons (o_int rfl rfl rfl)<|.cons (o_move rfl)<|.cons (o_guardG .bT rfl rfl (fun hb=>(.keep .nil)) (fun hb=>o_move rfl))<|.cons (o_guardG .bT rfl rfl (fun hb=>(.strip rfl hb .nil)) (fun hb=>o_int rfl rfl rfl))<|.cons (o_and rfl rfl)<|.cons (o_move rfl)<|.cons (o_guardG .bT rfl rfl (fun hb=>(.keep .nil)) (fun hb=>o_move rfl))<|.cons (o_guardG .bT rfl rfl (fun hb=>(.keep .nil)) (fun hb=>o_fieldAddr rfl))<|.cons (o_guardG .bT rfl rfl (fun hb=>(.strip rfl hb (.strip rfl hb .nil))) (fun hb=>t_index_d (h2 hb) rfl rfl))<|.cons (o_guardG .bT rfl rfl (fun hb=>(.strip rfl hb .nil)) (fun hb=>o_load_s rfl rfl (arr_get1 (DV.int .u64) x0.gat (h2 hb) rfl)))<|.cons (o_guardG .bT rfl rfl (fun hb=>(.strip rfl hb .nil)) (fun hb=>o_int rfl rfl rfl))<|.cons (o_and rfl rfl)<|.nil _) ?_
  refine a_cond _ rfl (fun h3=>?_) (fun h3=>?_)
  ·replace hM:=(of_if hM).1 h3
   obtain ⟨h4,hM⟩ := of_chk hM
   obtain ⟨h5,hM⟩ := of_chk hM
   refine ar (.cons (o_move rfl)<|.cons (o_fieldAddr rfl)<|.cons (t_index_d h4 rfl rfl)<|.cons (o_load_s rfl rfl (arr_get1 (DV.int .u64) x0.gat h4 rfl))<|.cons (o_int rfl rfl rfl)<|.cons (o_fieldAddr rfl)<|.cons (t_index_d h5 rfl rfl)<|.cons (o_store rfl rfl rfl rfl rfl (arr_ble (fun x=>[(DV.int .u64) x]) x0.gat (fun _=>rfl) (by decide) h5 rfl 0 1 (by decide)) (arr_set (ds' := [.int .u64 ((upd x0.gat (Int.toNat x1) (IntKind.wrap .u64 ((x0.gat (Int.toNat x1)) + 1))) 0),.int .u64 ((upd x0.gat (Int.toNat x1) (IntKind.wrap .u64 ((x0.gat (Int.toNat x1)) + 1))) 1),.int .u64 ((upd x0.gat (Int.toNat x1) (IntKind.wrap .u64 ((x0.gat (Int.toNat x1)) + 1))) 2),.int .u64 ((upd x0.gat (Int.toNat x1) (IntKind.wrap .u64 ((x0.gat (Int.toNat x1)) + 1))) 3),.int .u64 ((upd x0.gat (Int.toNat x1) (IntKind.wrap .u64 ((x0.gat (Int.toNat x1)) + 1))) 4),.int .u64 ((upd x0.gat (Int.toNat x1) (IntKind.wrap .u64 ((x0.gat (Int.toNat x1)) + 1))) 5),.int .u64 ((upd x0.gat (Int.toNat x1) (IntKind.wrap .u64 ((x0.gat (Int.toNat x1)) + 1))) 6),.int .u64 ((upd x0.gat (Int.toNat x1) (IntKind.wrap .u64 ((x0.gat (Int.toNat x1)) + 1))) 7),.int .u64 ((upd x0.gat (Int.toNat x1) (IntKind.wrap .u64 ((x0.gat (Int.toNat x1)) + 1))) 8),.int .u64 ((upd x0.gat (Int.toNat x1) (IntKind.wrap .u64 ((x0.gat (Int.toNat x1)) + 1))) 9),.int .u64 ((upd x0.gat (Int.toNat x1) (IntKind.wrap .u64 ((x0.gat (Int.toNat x1)) + 1))) 10),.int .u64 ((upd x0.gat (Int.toNat x1) (IntKind.wrap .u64 ((x0.gat (Int.toNat x1)) + 1))) 11),.int .u64 ((upd x0.gat (Int.toNat x1) (IntKind.wrap .u64 ((x0.gat (Int.toNat x1)) + 1))) 12),.int .u64 ((upd x0.gat (Int.toNat x1) (IntKind.wrap .u64 ((x0.gat (Int.toNat x1)) + 1))) 13),.int .u64 ((upd x0.gat (Int.toNat x1) (IntKind.wrap .u64 ((x0.gat (Int.toNat x1)) + 1))) 14),.int .u64 ((upd x0.gat (Int.toNat x1) (IntKind.wrap .u64 ((x0.gat (Int.toNat x1)) + 1))) 15)]) (fun x=>[(DV.int .u64) x]) x0.gat (IntKind.wrap .u64 ((x0.gat (Int.toNat x1)) + 1)) (fun _=>rfl) (by decide) h5 rfl 0 (Nat.le_of_ble_eq_true rfl) rfl rfl rfl rfl))<|.nil _) ?_
   exact ⟨(upd x0.gat (Int.toNat x1) (IntKind.wrap .u64 ((x0.gat (Int.toNat x1)) + 1))),hM,(Imp.sh (fun i=>i) rfl rfl rfl rfl rfl rfl)⟩
  ·replace hM:=(of_if hM).2 h3
   refine a_skip ?_
   exact ⟨x0.gat,hM,(Imp.sh (fun i=>i) rfl rfl rfl rfl rfl rfl)⟩
 ·rintro a1 hM
  replace hM : VClk_Tick_K1 a1 = some r:=hM
  unfold VClk_Tick_K1 at hM
  refine a_seq (ar (.cons (o_load_r rfl rfl rfl rfl)<|.cons (o_store rfl rfl rfl rfl rfl rfl rfl)<|.nil _) ?_)
  obtain rfl:=Option.some.inj hM
  exact a_ret (a_post (.r1 (.cell rfl rfl (.row _ CRow.h (Nat.le_of_ble_eq_true rfl) rfl))) (DLe.refl _) PostOk.nil.spec)
def recorder_Clocks_K2 (a3 : List VClk) : Option ((List VClk) × Int) :=
 some (a3,0)
def recorder_Clocks_K5 (a6 : List VClk) (a7 : Nat→VClk) (v12 : AEv) (v16 : VClk) (a17 : List (api_Message × VClk)) : Option ((List (api_Message × VClk)) × (List VClk) × (Nat→VClk)) :=
 chk (inA 9 v12.gComponent)<|
 chk (apOk 128 (List.length a6 + List.length [v16]))<|
 some (a17,(a6++[v16]),(upd a7 (Int.toNat v12.gComponent) v16))
def recorder_Clocks_K4 (a5 : List (api_Message × VClk)) (a6 : List VClk) (a7 : Nat→VClk) (v12 : AEv) (a14 : Nat→Int) : Option ((List (api_Message × VClk)) × (List VClk) × (Nat→VClk)) :=
 (VClk_Tick (VClk.mk a14) v12.gComponent).bind fun v16=>
 if (v12.gKind == 8) = true then
  recorder_Clocks_K5 a6 a7 v12 v16 (mput api_Message.cs a5 (api_Message.mk v12.gComponent v12.gPeer v12.gN) v16)
 else
  recorder_Clocks_K5 a6 a7 v12 v16 a5
def recorder_Clocks_L3 (x0 : List AEv) (k4 : Nat) (a5 : List (api_Message × VClk)) (a6 : List VClk) (a7 : Nat→VClk) : Option ((List (api_Message × VClk)) × (List VClk) × (Nat→VClk)) :=
 (idx x0 (k4 : Int)).bind fun v12=>
 chk (inA 9 v12.gComponent)<|
 if ((v12.gKind == 5) || ((v12.gKind == 7) && (v12.gD == 5))) = true then
  (some (mget api_Message.cs a5 (api_Message.mk v12.gPeer v12.gComponent v12.gN) (VClk.mk (arr 0 [])))).bind fun v23=>
  (vclock_Merge (a7 (Int.toNat v12.gComponent)) v23).bind fun v25=>
  recorder_Clocks_K4 a5 a6 a7 v12 v25.gat
 else
  recorder_Clocks_K4 a5 a6 a7 v12 ((a7 (Int.toNat v12.gComponent)).gat)
def recorder_Clocks_K1 (x0 : List AEv) : Option ((List VClk) × Int) :=
 chk (mkOk 128 0 (List.length x0 : Int))<|
 (foldM' 9223372036854775807 (List.length x0 : Int) (fun k4 s=>recorder_Clocks_L3 x0 k4 s.1 s.2.1 s.2.2) (([] : List (api_Message × VClk)),([] : List VClk),(arr (VClk.mk (arr 0 [])) [(VClk.mk (arr 0 [0,0,0,0,0,0,0,0,0,0,0,0,0,0,0,0])),(VClk.mk (arr 0 [0,0,0,0,0,0,0,0,0,0,0,0,0,0,0,0])),(VClk.mk (arr 0 [0,0,0,0,0,0,0,0,0,0,0,0,0,0,0,0])),(VClk.mk (arr 0 [0,0,0,0,0,0,0,0,0,0,0,0,0,0,0,0])),(VClk.mk (arr 0 [0,0,0,0,0,0,0,0,0,0,0,0,0,0,0,0])),(VClk.mk (arr 0 [0,0,0,0,0,0,0,0,0,0,0,0,0,0,0,0])),(VClk.mk (arr 0 [0,0,0,0,0,0,0,0,0,0,0,0,0,0,0,0])),(VClk.mk (arr 0 [0,0,0,0,0,0,0,0,0,0,0,0,0,0,0,0])),(VClk.mk (arr 0 [0,0,0,0,0,0,0,0,0,0,0,0,0,0,0,0]))]))).bind fun s=>recorder_Clocks_K2 s.2.1
def recorder_Clocks_L6 (x0 : List AEv) (x1 : Int) (k26 : Nat) : Option (Ctl Unit ((List VClk) × Int)) :=
 (idx x0 (k26 : Int)).bind fun v31=>
 if ((decide (v31.gComponent < 0)) || (decide (x1 < v31.gComponent))) = true then
  some (.done (([] : List VClk),1))
 else
  some (.next ())
def recorder_Clocks (x0 : List AEv) (x1 : Int) : Option ((List VClk) × Int) :=
 if ((decide (x1 < 1)) || (decide (8 < x1))) = true then
  some (([] : List VClk),1)
 else
  (forM' (E:=(List VClk) × Int) 9223372036854775807 (List.length x0 : Int) (fun k26 s=>recorder_Clocks_L6 x0 x1 k26) ()).bind fun
   | .next s=>recorder_Clocks_K1 x0
   | .done r=>some r
theorem recorder_Clocks_c {x0 : List AEv} {x1 : Int} {r : (List VClk) × Int} (hM : recorder_Clocks x0 x1 = some r) : PCall Tryz.prog 58 [.sl 9 (List.map AEv.dv x0),.int .i64 x1] (.tup [.sl 16 (List.map VClk.dv r.1),.int .i64 r.2]):=by
 unfold recorder_Clocks at hM
 refine PCall.body Tryz.func58 Tryz.ntmps58 rfl rfl rfl rfl ?_
 refine a_seq (ar (.cons (o_assign rfl)<|.cons (o_assign rfl)<|.nil _) ?_)
 refine a_seq (a_seq (ar (.cons (o_move rfl)<|.cons (o_int rfl rfl rfl)<|.cons (o_move rfl)<|.cons (o_guardG .bF rfl rfl (fun hb=>(.keep .nil)) (fun hb=>o_move rfl))<|.cons (o_guardG .bF rfl rfl (fun hb=>(.strip rfl hb .nil)) (fun hb=>o_int rfl rfl rfl))<|.cons (o_or rfl rfl)<|.nil _) ?_))
 refine a_cond _ rfl (fun h1=>?_) (fun h1=>?_)
 ·replace hM:=(of_if hM).1 h1
  refine a_seq (ar (.cons (o_assign rfl)<|.cons (o_assign rfl)<|.nil _) ?_)
  obtain rfl:=Option.some.inj hM
  exact a_ret (a_post (.r2 (.tmp rfl) (.tmp rfl)) (DLe.tup (.cons (DLe.nils _) (.cons (DLe.refl _) .nil))) PostOk.nil.spec)
 ·replace hM:=(of_if hM).2 h1
  refine a_skip ?_
  refine a_cut (α:=Unit) (fun s=>⟨[(0,.sl 9 (List.map AEv.dv x0))],[],[]⟩) (fun s=>recorder_Clocks_K1 x0 = some r) ?_ ?_
  ·refine a_seq (ar (.cons (o_move rfl)<|.cons (t_len rfl)<|.cons (o_move rfl)<|.nil _) ?_)
   obtain ⟨t27,hL27,hK27⟩ := of_bind hM
   refine a_block ?_
   refine a_for (fun k26 (s : Unit)=>⟨[(0,.sl 9 (List.map AEv.dv x0)),(1,.int .i64 x1),(20,.sl 9 (List.map AEv.dv x0)),(21,.int .i64 (List.length x0 : Int)),(22,.int .i64 (k26 : Int))],[],[]⟩) _ hL27 (Imp.sh (fun i=>i) rfl rfl rfl rfl rfl rfl) ?_ ?_
   ·rintro k26 _ t28 hk26 hx26 hM hE27
    replace hM : recorder_Clocks_L6 x0 x1 k26 = some t28:=hM
    unfold recorder_Clocks_L6 at hM
    refine a_seq (ar (.cons (o_int rfl rfl rfl)<|.nil _) ?_)
    refine a_seq ?_
    refine a_cond _ rfl (fun _=>?_) (fun c=>absurd hk26 (of_decide_eq_false c))
    refine a_skip (a_seq (a_block (a_seq ?_)))
    obtain ⟨v31,h30,hM⟩ := of_bind hM
    refine ar (.cons (t_index h30 rfl rfl rfl)<|.cons (o_load_er rfl rfl rfl)<|.cons (o_alloc rfl)<|.cons (o_store rfl rfl rfl rfl rfl rfl rfl)<|.nil _) ?_
    refine a_seq (ar (.cons (o_fieldAddr rfl)<|.cons (o_load_s rfl rfl rfl)<|.cons (o_int rfl rfl rfl)<|.cons (o_move rfl)<|.cons (o_guardG .bF rfl rfl (fun hb=>(.keep .nil)) (fun hb=>o_fieldAddr rfl))<|.cons (o_guardG .bF rfl rfl (fun hb=>(.strip rfl hb .nil)) (fun hb=>o_load_s rfl rfl rfl))<|.cons (o_guardG .bF rfl rfl (fun hb=>(.keep .nil)) (fun hb=>o_move rfl))<|.cons (o_guardG .bF rfl rfl (fun hb=>(.strip rfl hb (.strip rfl hb .nil))) (fun hb=>o_int rfl rfl rfl))<|.cons (o_or rfl rfl)<|.nil _) ?_)
    refine a_cond _ rfl (fun h32=>?_) (fun h32=>?_)
    ·replace hM:=(of_if hM).1 h32
     refine a_seq (ar (.cons (o_assign rfl)<|.cons (o_assign rfl)<|.nil _) ?_)
     obtain rfl:=Option.some.inj hM
     obtain rfl:=hE27 _ rfl
     obtain rfl:=Option.some.inj hK27
     exact a_ret (a_post (.r2 (.tmp rfl) (.tmp rfl)) (DLe.tup (.cons (DLe.nils _) (.cons (DLe.refl _) .nil))) PostOk.nil.spec)
    ·replace hM:=(of_if hM).2 h32
     refine a_skip (ar (.cons (o_add rfl rfl (inR_i64 hk26 hx26))<|.cons (o_move rfl)<|.nil _) ?_)
     obtain rfl:=Option.some.inj hM
     exact ⟨(),rfl,(Imp.of (fun i=>i) (.cons rfl (DLe.refl _) (.cons rfl (DLe.refl _) (.cons rfl (DLe.refl _) (.cons rfl (DLe.refl _) (.cons rfl (DLe.succ _ _) .nil))))) .nil rfl rfl rfl)⟩
   ·rintro k26 _ hk26 hx26 rfl
    refine a_seq (ar (.cons (o_int rfl rfl rfl)<|.nil _) ?_)
    refine a_seq ?_
    refine a_cond _ rfl (fun c=>absurd (of_decide_eq_true c) (Int.not_lt.2 hk26)) (fun _=>?_)
    refine a_exit ?_
    exact ⟨(),hK27,(Imp.sh (fun i=>i) rfl rfl rfl rfl rfl rfl)⟩
  ·rintro _ hM
   replace hM : recorder_Clocks_K1 x0 = some r:=hM
   unfold recorder_Clocks_K1 at hM
   refine a_seq (ar (.cons (o_alloc rfl)<|.nil _) ?_)
   refine a_seq (ar (.cons (t_makeMap api_Message.cs VClk.dv)<|.cons (o_assign rfl)<|.nil _) ?_)
   refine a_seq ?_
   obtain ⟨h2,hM⟩ := of_chk hM
   refine ar (.cons (o_move rfl)<|.cons (t_len rfl)<|.cons (t_make VClk.dv (VClk.mk (arr 0 [])) h2 rfl rfl rfl rfl)<|.cons (o_assign rfl)<|.nil _) ?_
   refine a_cut (α:=(List VClk)) (fun s=>⟨[(10,.sl 16 (List.map VClk.dv s))],[],[]⟩) (fun s=>recorder_Clocks_K2 s = some r) ?_ ?_
   ·refine a_seq (ar (.cons (o_move rfl)<|.cons (t_len rfl)<|.cons (o_move rfl)<|.nil _) ?_)
    obtain ⟨⟨a5,a6,a7⟩,hL8,hK8⟩ := of_bind hM
    refine a_block ?_
    refine a_fold (fun k4 (s : (List (api_Message × VClk)) × (List VClk) × (Nat→VClk))=>⟨[(8,.ref 8 0),(9,.row 10001),(10,.row 10002),(40,.sl 9 (List.map AEv.dv x0)),(41,.int .i64 (List.length x0 : Int)),(42,.int .i64 (k4 : Int))],[(8,some (.blk 162 (array_9_vclock_Clock.cs s.2.2))),(10001,some (.mp (mpL api_Message.cs VClk.dv s.1))),(10002,some (.row 61 16 (List.map VClk.dv s.2.1)))],[8,10001,10002]⟩) _ hL8 (Imp.sh (fun i=>bif Nat.beq i 10002 then 39 else bif Nat.beq i 10001 then 36 else i) rfl rfl rfl rfl rfl rfl) ?_ ?_
    ·rintro k4 ⟨a5,a6,a7⟩ t9 hk4 hx4 hM
     replace hM : recorder_Clocks_L3 x0 k4 a5 a6 a7 = some t9:=hM
     unfold recorder_Clocks_L3 at hM
     refine a_seq (ar (.cons (o_int rfl rfl rfl)<|.nil _) ?_)
     refine a_seq ?_
     refine a_cond _ rfl (fun _=>?_) (fun c=>absurd hk4 (of_decide_eq_false c))
     refine a_skip (a_seq (a_block (a_seq ?_)))
     obtain ⟨v12,h11,hM⟩ := of_bind hM
     refine ar (.cons (t_index h11 rfl rfl rfl)<|.cons (o_load_er rfl rfl rfl)<|.cons (o_alloc rfl)<|.cons (o_store rfl rfl rfl rfl rfl rfl rfl)<|.nil _) ?_
     refine a_seq ?_
     obtain ⟨h13,hM⟩ := of_chk hM
     refine ar (.cons (o_fieldAddr rfl)<|.cons (o_load_s rfl rfl rfl)<|.cons (t_index_d h13 rfl rfl)<|.cons (o_load_r rfl rfl (arr_len VClk.cs a7 (fun _=>rfl) (by decide) h13 rfl) (arr_get VClk.cs a7 (fun _=>rfl) (by decide) h13 rfl))<|.cons (o_alloc rfl)<|.cons (o_store rfl rfl rfl rfl rfl rfl rfl)<|.nil _) ?_
     refine a_cut (α:=(Nat→Int)) (fun s=>⟨[(8,.ref 8 0),(9,.row 10003),(10,.row 10004),(12,.ref 12 0),(13,.ref 13 0),(40,.sl 9 (List.map AEv.dv x0)),(41,.int .i64 (List.length x0 : Int)),(42,.int .i64 (k4 : Int))],[(8,some (.blk 162 (array_9_vclock_Clock.cs a7))),(12,some (.blk 33 (AEv.cs v12))),(13,some (.blk 61 (VClk.cs (VClk.mk s)))),(10003,some (.mp (mpL api_Message.cs VClk.dv a5))),(10004,some (.row 61 16 (List.map VClk.dv a6)))],[8,12,13,10003,10004]⟩) (fun s=>recorder_Clocks_K4 a5 a6 a7 v12 s = some t9) ?_ ?_
     ·refine a_seq (ar (.cons (o_fieldAddr rfl)<|.cons (o_load_s rfl rfl rfl)<|.cons (o_int rfl rfl rfl)<|.cons (o_move rfl)<|.cons (o_guardG .bF rfl rfl (fun hb=>(.keep .nil)) (fun hb=>o_fieldAddr rfl))<|.cons (o_guardG .bF rfl rfl (fun hb=>(.strip rfl hb .nil)) (fun hb=>o_load_s rfl rfl rfl))<|.cons (o_guardG .bF rfl rfl (fun hb=>(.strip rfl hb .nil)) (fun hb=>o_int rfl rfl rfl))<|.cons (o_guardG .bF rfl rfl (fun hb=>(.strip rfl hb .nil)) (fun hb=>o_move rfl))<|.cons (o_guardG .iT rfl rfl (fun hb=>(.keep .nil)) (fun hb=>o_fieldAddr rfl))<|.cons (o_guardG .iT rfl rfl (fun hb=>(.strip rfl hb .nil)) (fun hb=>o_load_s rfl rfl rfl))<|.cons (o_guardG .iT rfl rfl (fun hb=>(.strip rfl hb .nil)) (fun hb=>o_int rfl rfl rfl))<|.cons (o_guardG .bF rfl rfl (fun hb=>(.strip rfl hb (.half rfl hb .nil))) (fun hb=>o_and rfl rfl))<|.cons (o_or rfl rfl)<|.nil _) ?_)
      refine a_cond _ rfl (fun h21=>?_) (fun h21=>?_)
      ·replace hM:=(of_if hM).1 h21
       obtain ⟨v23,h22,hM⟩ := of_bind hM
       obtain ⟨v25,h24,hM⟩ := of_bind hM
       refine ad mixed (.cons (o_load_r rfl rfl rfl rfl)<|.cons (o_move rfl)<|.cons (o_fieldAddr rfl)<|.cons (o_load_s rfl rfl rfl)<|.cons (o_fieldAddr rfl)<|.cons (o_load_s rfl rfl rfl)<|.cons (o_fieldAddr rfl)<|.cons (o_load_s rfl rfl rfl)<|.cons (o_build rfl rfl rfl)<|.cons (t_lookup (fv:=VClk.dv) h22 (fun _=>rfl) rfl rfl rfl rfl)<|.cons (o_call (vclock_Merge_c h24) rfl (DLeL.refl _) rfl)<|.cons (o_store rfl rfl rfl rfl rfl rfl rfl)<|.nil _) ?_
       exact ⟨v25.gat,hM,(Imp.sh (fun i=>bif Nat.beq i 10004 then 10002 else bif Nat.beq i 10003 then 10001 else i) rfl rfl rfl rfl rfl rfl)⟩
      ·replace hM:=(of_if hM).2 h21
       refine a_skip ?_
       exact ⟨((a7 (Int.toNat v12.gComponent)).gat),hM,(Imp.sh (fun i=>bif Nat.beq i 10004 then 10002 else bif Nat.beq i 10003 then 10001 else i) rfl rfl rfl rfl rfl rfl)⟩
     ·rintro a14 hM
      replace hM : recorder_Clocks_K4 a5 a6 a7 v12 a14 = some t9:=hM
      unfold recorder_Clocks_K4 at hM
      refine a_seq ?_
      obtain ⟨v16,h15,hM⟩ := of_bind hM
      refine ar (.cons (o_load_r rfl rfl rfl rfl)<|.cons (o_fieldAddr rfl)<|.cons (o_load_s rfl rfl rfl)<|.cons (o_call (VClk_Tick_c h15) rfl (DLeL.refl _) rfl)<|.cons (o_store rfl rfl rfl rfl rfl rfl rfl)<|.nil _) ?_
      refine a_cut (α:=(List (api_Message × VClk))) (fun s=>⟨[(8,.ref 8 0),(9,.row 10005),(10,.row 10006),(12,.ref 12 0),(13,.ref 13 0),(40,.sl 9 (List.map AEv.dv x0)),(41,.int .i64 (List.length x0 : Int)),(42,.int .i64 (k4 : Int))],[(8,some (.blk 162 (array_9_vclock_Clock.cs a7))),(12,some (.blk 33 (AEv.cs v12))),(13,some (.blk 61 (VClk.cs v16))),(10005,some (.mp (mpL api_Message.cs VClk.dv s))),(10006,some (.row 61 16 (List.map VClk.dv a6)))],[8,12,13,10005,10006]⟩) (fun s=>recorder_Clocks_K5 a6 a7 v12 v16 s = some t9) ?_ ?_
      ·refine a_seq (ar (.cons (o_fieldAddr rfl)<|.cons (o_load_s rfl rfl rfl)<|.cons (o_int rfl rfl rfl)<|.nil _) ?_)
       refine a_cond _ rfl (fun h20=>?_) (fun h20=>?_)
       ·replace hM:=(of_if hM).1 h20
        refine ar (.cons (o_move rfl)<|.cons (o_fieldAddr rfl)<|.cons (o_load_s rfl rfl rfl)<|.cons (o_fieldAddr rfl)<|.cons (o_load_s rfl rfl rfl)<|.cons (o_fieldAddr rfl)<|.cons (o_load_s rfl rfl rfl)<|.cons (o_build rfl rfl rfl)<|.cons (o_load_r rfl rfl rfl rfl)<|.cons (t_mapUpdate (q:=(api_Message.mk v12.gComponent v12.gPeer v12.gN)) (v:=v16) (fun _=>rfl) rfl rfl rfl rfl rfl rfl)<|.nil _) ?_
        exact ⟨(mput api_Message.cs a5 (api_Message.mk v12.gComponent v12.gPeer v12.gN) v16),hM,(Imp.sh (fun i=>bif Nat.beq i 10006 then 10004 else bif Nat.beq i 10005 then 10003 else i) rfl rfl rfl rfl rfl rfl)⟩
       ·replace hM:=(of_if hM).2 h20
        refine a_skip ?_
        exact ⟨a5,hM,(Imp.sh (fun i=>bif Nat.beq i 10006 then 10004 else bif Nat.beq i 10005 then 10003 else i) rfl rfl rfl rfl rfl rfl)⟩
      ·rintro a17 hM
       replace hM : recorder_Clocks_K5 a6 a7 v12 v16 a17 = some t9:=hM
       unfold recorder_Clocks_K5 at hM
       refine a_seq ?_
       obtain ⟨h18,hM⟩ := of_chk hM
       refine ar (.cons (o_fieldAddr rfl)<|.cons (o_load_s rfl rfl rfl)<|.cons (o_load_r rfl rfl rfl rfl)<|.cons (t_index_d h18 rfl rfl)<|.cons (o_store rfl rfl rfl rfl rfl (arr_ble VClk.cs a7 (fun _=>rfl) (by decide) h18 rfl 0 16 (by decide)) (arr_set (ds' := [.int .u64 ((((upd a7 (Int.toNat v12.gComponent) v16) 0).gat) 0),.int .u64 ((((upd a7 (Int.toNat v12.gComponent) v16) 0).gat) 1),.int .u64 ((((upd a7 (Int.toNat v12.gComponent) v16) 0).gat) 2),.int .u64 ((((upd a7 (Int.toNat v12.gComponent) v16) 0).gat) 3),.int .u64 ((((upd a7 (Int.toNat v12.gComponent) v16) 0).gat) 4),.int .u64 ((((upd a7 (Int.toNat v12.gComponent) v16) 0).gat) 5),.int .u64 ((((upd a7 (Int.toNat v12.gComponent) v16) 0).gat) 6),.int .u64 ((((upd a7 (Int.toNat v12.gComponent) v16) 0).gat) 7),.int .u64 ((((upd a7 (Int.toNat v12.gComponent) v16) 0).gat) 8),.int .u64 ((((upd a7 (Int.toNat v12.gComponent) v16) 0).gat) 9),.int .u64 ((((upd a7 (Int.toNat v12.gComponent) v16) 0).gat) 10),.int .u64 ((((upd a7 (Int.toNat v12.gComponent) v16) 0).gat) 11),.int .u64 ((((upd a7 (Int.toNat v12.gComponent) v16) 0).gat) 12),.int .u64 ((((upd a7 (Int.toNat v12.gComponent) v16) 0).gat) 13),.int .u64 ((((upd a7 (Int.toNat v12.gComponent) v16) 0).gat) 14),.int .u64 ((((upd a7 (Int.toNat v12.gComponent) v16) 0).gat) 15),.int .u64 ((((upd a7 (Int.toNat v12.gComponent) v16) 1).gat) 0),.int .u64 ((((upd a7 (Int.toNat v12.gComponent) v16) 1).gat) 1),.int .u64 ((((upd a7 (Int.toNat v12.gComponent) v16) 1).gat) 2),.int .u64 ((((upd a7 (Int.toNat v12.gComponent) v16) 1).gat) 3),.int .u64 ((((upd a7 (Int.toNat v12.gComponent) v16) 1).gat) 4),.int .u64 ((((upd a7 (Int.toNat v12.gComponent) v16) 1).gat) 5),.int .u64 ((((upd a7 (Int.toNat v12.gComponent) v16) 1).gat) 6),.int .u64 ((((upd a7 (Int.toNat v12.gComponent) v16) 1).gat) 7),.int .u64 ((((upd a7 (Int.toNat v12.gComponent) v16) 1).gat) 8),.int .u64 ((((upd a7 (Int.toNat v12.gComponent) v16) 1).gat) 9),.int .u64 ((((upd a7 (Int.toNat v12.gComponent) v16) 1).gat) 10),.int .u64 ((((upd a7 (Int.toNat v12.gComponent) v16) 1).gat) 11),.int .u64 ((((upd a7 (Int.toNat v12.gComponent) v16) 1).gat) 12),.int .u64 ((((upd a7 (Int.toNat v12.gComponent) v16) 1).gat) 13),.int .u64 ((((upd a7 (Int.toNat v12.gComponent) v16) 1).gat) 14),.int .u64 ((((upd a7 (Int.toNat v12.gComponent) v16) 1).gat) 15),.int .u64 ((((upd a7 (Int.toNat v12.gComponent) v16) 2).gat) 0),.int .u64 ((((upd a7 (Int.toNat v12.gComponent) v16) 2).gat) 1),.int .u64 ((((upd a7 (Int.toNat v12.gComponent) v16) 2).gat) 2),.int .u64 ((((upd a7 (Int.toNat v12.gComponent) v16) 2).gat) 3),.int .u64 ((((upd a7 (Int.toNat v12.gComponent) v16) 2).gat) 4),.int .u64 ((((upd a7 (Int.toNat v12.gComponent) v16) 2).gat) 5),.int .u64 ((((upd a7 (Int.toNat v12.gComponent) v16) 2).gat) 6),.int .u64 ((((upd a7 (Int.toNat v12.gComponent) v16) 2).gat) 7),.int .u64 ((((upd a7 (Int.toNat v12.gComponent) v16) 2).gat) 8),.int .u64 ((((upd a7 (Int.toNat v12.gComponent) v16) 2).gat) 9),.int .u64 ((((upd a7 (Int.toNat v12.gComponent) v16) 2).gat) 10),.int .u64 ((((upd a7 (Int.toNat v12.gComponent) v16) 2).gat) 11),.int .u64 ((((upd a7 (Int.toNat v12.gComponent) v16) 2).gat) 12),.int .u64 ((((upd a7 (Int.toNat v12.gComponent) v16) 2).gat) 13),.int .u64 ((((upd a7 (Int.toNat v12.gComponent) v16) 2).gat) 14),.int .u64 ((((upd a7 (Int.toNat v12.gComponent) v16) 2).gat) 15),.int .u64 ((((upd a7 (Int.toNat v12.gComponent) v16) 3).gat) 0),.int .u64 ((((upd a7 (Int.toNat v12.gComponent) v16) 3).gat) 1),.int .u64 ((((upd a7 (Int.toNat v12.gComponent) v16) 3).gat) 2),.int .u64 ((((upd a7 (Int.toNat v12.gComponent) v16) 3).gat) 3),.int .u64 ((((upd a7 (Int.toNat v12.gComponent) v16) 3).gat) 4),.int .u64 ((((upd a7 (Int.toNat v12.gComponent) v16) 3).gat) 5),.int .u64 ((((upd a7 (Int.toNat v12.gComponent) v16) 3).gat) 6),.int .u64 ((((upd a7 (Int.toNat v12.gComponent) v16) 3).gat) 7),.int .u64 ((((upd a7 (Int.toNat v12.gComponent) v16) 3).gat) 8),.int .u64 ((((upd a7 (Int.toNat v12.gComponent) v16) 3).gat) 9),.int .u64 ((((upd a7 (Int.toNat v12.gComponent) v16) 3).gat) 10),.int .u64 ((((upd a7 (Int.toNat v12.gComponent) v16) 3).gat) 11),.int .u64 ((((upd a7 (Int.toNat v12.gComponent) v16) 3).gat) 12),.int .u64 ((((upd a7 (Int.toNat v12.gComponent) v16) 3).gat) 13),.int .u64 ((((upd a7 (Int.toNat v12.gComponent) v16) 3).gat) 14),.int .u64 ((((upd a7 (Int.toNat v12.gComponent) v16) 3).gat) 15),.int .u64 ((((upd a7 (Int.toNat v12.gComponent) v16) 4).gat) 0),.int .u64 ((((upd a7 (Int.toNat v12.gComponent) v16) 4).gat) 1),.int .u64 ((((upd a7 (Int.toNat v12.gComponent) v16) 4).gat) 2),.int .u64 ((((upd a7 (Int.toNat v12.gComponent) v16) 4).gat) 3),.int .u64 ((((upd a7 (Int.toNat v12.gComponent) v16) 4).gat) 4),.int .u64 ((((upd a7 (Int.toNat v12.gComponent) v16) 4).gat) 5),.int .u64 ((((upd a7 (Int.toNat v12.gComponent) v16) 4).gat) 6),.int .u64 ((((upd a7 (Int.toNat v12.gComponent) v16) 4).gat) 7),.int .u64 ((((upd a7 (Int.toNat v12.gComponent) v16) 4).gat) 8),.int .u64 ((((upd a7 (Int.toNat v12.gComponent) v16) 4).gat) 9),.int .u64 ((((upd a7 (Int.toNat v12.gComponent) v16) 4).gat) 10),.int .u64 ((((upd a7 (Int.toNat v12.gComponent) v16) 4).gat) 11),.int .u64 ((((upd a7 (Int.toNat v12.gComponent) v16) 4).gat) 12),.int .u64 ((((upd a7 (Int.toNat v12.gComponent) v16) 4).gat) 13),.int .u64 ((((upd a7 (Int.toNat v12.gComponent) v16) 4).gat) 14),.int .u64 ((((upd a7 (Int.toNat v12.gComponent) v16) 4).gat) 15),.int .u64 ((((upd a7 (Int.toNat v12.gComponent) v16) 5).gat) 0),.int .u64 ((((upd a7 (Int.toNat v12.gComponent) v16) 5).gat) 1),.int .u64 ((((upd a7 (Int.toNat v12.gComponent) v16) 5).gat) 2),.int .u64 ((((upd a7 (Int.toNat v12.gComponent) v16) 5).gat) 3),.int .u64 ((((upd a7 (Int.toNat v12.gComponent) v16) 5).gat) 4),.int .u64 ((((upd a7 (Int.toNat v12.gComponent) v16) 5).gat) 5),.int .u64 ((((upd a7 (Int.toNat v12.gComponent) v16) 5).gat) 6),.int .u64 ((((upd a7 (Int.toNat v12.gComponent) v16) 5).gat) 7),.int .u64 ((((upd a7 (Int.toNat v12.gComponent) v16) 5).gat) 8),.int .u64 ((((upd a7 (Int.toNat v12.gComponent) v16) 5).gat) 9),.int .u64 ((((upd a7 (Int.toNat v12.gComponent) v16) 5).gat) 10),.int .u64 ((((upd a7 (Int.toNat v12.gComponent) v16) 5).gat) 11),.int .u64 ((((upd a7 (Int.toNat v12.gComponent) v16) 5).gat) 12),.int .u64 ((((upd a7 (Int.toNat v12.gComponent) v16) 5).gat) 13),.int .u64 ((((upd a7 (Int.toNat v12.gComponent) v16) 5).gat) 14),.int .u64 ((((upd a7 (Int.toNat v12.gComponent) v16) 5).gat) 15),.int .u64 ((((upd a7 (Int.toNat v12.gComponent) v16) 6).gat) 0),.int .u64 ((((upd a7 (Int.toNat v12.gComponent) v16) 6).gat) 1),.int .u64 ((((upd a7 (Int.toNat v12.gComponent) v16) 6).gat) 2),.int .u64 ((((upd a7 (Int.toNat v12.gComponent) v16) 6).gat) 3),.int .u64 ((((upd a7 (Int.toNat v12.gComponent) v16) 6).gat) 4),.int .u64 ((((upd a7 (Int.toNat v12.gComponent) v16) 6).gat) 5),.int .u64 ((((upd a7 (Int.toNat v12.gComponent) v16) 6).gat) 6),.int .u64 ((((upd a7 (Int.toNat v12.gComponent) v16) 6).gat) 7),.int .u64 ((((upd a7 (Int.toNat v12.gComponent) v16) 6).gat) 8),.int .u64 ((((upd a7 (Int.toNat v12.gComponent) v16) 6).gat) 9),.int .u64 ((((upd a7 (Int.toNat v12.gComponent) v16) 6).gat) 10),.int .u64 ((((upd a7 (Int.toNat v12.gComponent) v16) 6).gat) 11),.int .u64 ((((upd a7 (Int.toNat v12.gComponent) v16) 6).gat) 12),.int .u64 ((((upd a7 (Int.toNat v12.gComponent) v16) 6).gat) 13),.int .u64 ((((upd a7 (Int.toNat v12.gComponent) v16) 6).gat) 14),.int .u64 ((((upd a7 (Int.toNat v12.gComponent) v16) 6).gat) 15),.int .u64 ((((upd a7 (Int.toNat v12.gComponent) v16) 7).gat) 0),.int .u64 ((((upd a7 (Int.toNat v12.gComponent) v16) 7).gat) 1),.int .u64 ((((upd a7 (Int.toNat v12.gComponent) v16) 7).gat) 2),.int .u64 ((((upd a7 (Int.toNat v12.gComponent) v16) 7).gat) 3),.int .u64 ((((upd a7 (Int.toNat v12.gComponent) v16) 7).gat) 4),.int .u64 ((((upd a7 (Int.toNat v12.gComponent) v16) 7).gat) 5),.int .u64 ((((upd a7 (Int.toNat v12.gComponent) v16) 7).gat) 6),.int .u64 ((((upd a7 (Int.toNat v12.gComponent) v16) 7).gat) 7),.int .u64 ((((upd a7 (Int.toNat v12.gComponent) v16) 7).gat) 8),.int .u64 ((((upd a7 (Int.toNat v12.gComponent) v16) 7).gat) 9),.int .u64 ((((upd a7 (Int.toNat v12.gComponent) v16) 7).gat) 10),.int .u64 ((((upd a7 (Int.toNat v12.gComponent) v16) 7).gat) 11),.int .u64 ((((upd a7 (Int.toNat v12.gComponent) v16) 7).gat) 12),.int .u64 ((((upd a7 (Int.toNat v12.gComponent) v16) 7).gat) 13),.int .u64 ((((upd a7 (Int.toNat v12.gComponent) v16) 7).gat) 14),.int .u64 ((((upd a7 (Int.toNat v12.gComponent) v16) 7).gat) 15),.int .u64 ((((upd a7 (Int.toNat v12.gComponent) v16) 8).gat) 0),.int .u64 ((((upd a7 (Int.toNat v12.gComponent) v16) 8).gat) 1),.int .u64 ((((upd a7 (Int.toNat v12.gComponent) v16) 8).gat) 2),.int .u64 ((((upd a7 (Int.toNat v12.gComponent) v16) 8).gat) 3),.int .u64 ((((upd a7 (Int.toNat v12.gComponent) v16) 8).gat) 4),.int .u64 ((((upd a7 (Int.toNat v12.gComponent) v16) 8).gat) 5),.int .u64 ((((upd a7 (Int.toNat v12.gComponent) v16) 8).gat) 6),.int .u64 ((((upd a7 (Int.toNat v12.gComponent) v16) 8).gat) 7),.int .u64 ((((upd a7 (Int.toNat v12.gComponent) v16) 8).gat) 8),.int .u64 ((((upd a7 (Int.toNat v12.gComponent) v16) 8).gat) 9),.int .u64 ((((upd a7 (Int.toNat v12.gComponent) v16) 8).gat) 10),.int .u64 ((((upd a7 (Int.toNat v12.gComponent) v16) 8).gat) 11),.int .u64 ((((upd a7 (Int.toNat v12.gComponent) v16) 8).gat) 12),.int .u64 ((((upd a7 (Int.toNat v12.gComponent) v16) 8).gat) 13),.int .u64 ((((upd a7 (Int.toNat v12.gComponent) v16) 8).gat) 14),.int .u64 ((((upd a7 (Int.toNat v12.gComponent) v16) 8).gat) 15)]) VClk.cs a7 v16 (fun _=>rfl) (by decide) h18 rfl 0 (Nat.le_of_ble_eq_true rfl) rfl rfl rfl rfl))<|.nil _) ?_
       obtain ⟨h19,hM⟩ := of_chk hM
       refine ar (.cons (o_move rfl)<|.cons (o_load_r rfl rfl rfl rfl)<|.cons (t_build VClk.dv ([v16] : List VClk) rfl rfl rfl rfl rfl rfl rfl)<|.cons (t_append [v16] h19 rfl rfl rfl (Src.row rfl))<|.cons (o_assign rfl)<|.nil _) ?_
       refine ar (.cons (o_add rfl rfl (inR_i64 hk4 hx4))<|.cons (o_move rfl)<|.nil _) ?_
       obtain rfl:=Option.some.inj hM
       exact (Imp.of (fun i=>bif Nat.beq i 10002 then 97 else bif Nat.beq i 10001 then 10005 else i) (.cons rfl (DLe.refl _) (.cons rfl (DLe.refl _) (.cons rfl (DLe.refl _) (.cons rfl (DLe.refl _) (.cons rfl (DLe.refl _) (.cons rfl (DLe.succ _ _) .nil)))))) (.cons rfl (.refl _) (.cons rfl (.refl _) (.cons rfl (.refl _) .nil))) rfl rfl rfl)
    ·rintro k4 hk4 hx4
     refine a_seq (ar (.cons (o_int rfl rfl rfl)<|.nil _) ?_)
     refine a_seq ?_
     refine a_cond _ rfl (fun c=>absurd (of_decide_eq_true c) (Int.not_lt.2 hk4)) (fun _=>?_)
     refine a_exit ?_
     exact ⟨a6,hK8,((Imp.freeze (id:=10002) rfl).trans (Imp.sh (fun i=>i) rfl rfl rfl rfl rfl rfl))⟩
   ·rintro a3 hM
    replace hM : recorder_Clocks_K2 a3 = some r:=hM
    unfold recorder_Clocks_K2 at hM
    refine a_seq (ar (.cons (o_move rfl)<|.cons (o_assign rfl)<|.cons (o_assign rfl)<|.nil _) ?_)
    obtain rfl:=Option.some.inj hM
    exact a_ret (a_post (.r2 (.tmp rfl) (.tmp rfl)) (DLe.refl _) PostOk.nil.spec)
structure ring_Ring where
 gcapacity : Int
 gused : Int
 glist : List RRec
 gbegun : Bool
 gcomponent : Int
 gfirst : Int
 gnext : Int
def ring_clone (x0 : RRec) : Option RRec :=
 chk (apOk 8 (List.length x0.gEvent.gArgs))<|
 some x0
theorem ring_clone_c {x0 : RRec} {r : RRec} (hM : ring_clone x0 = some r) : PCall Tryz.prog 94 [.agg (RRec.cs x0)] (.agg (RRec.cs r)):=by
 unfold ring_clone at hM
 refine PCall.body Tryz.func94 Tryz.ntmps94 rfl rfl rfl rfl ?_
 refine a_seq (ar (.cons (o_box rfl rfl)<|.cons (o_alloc rfl)<|.nil _) ?_)
 refine a_seq ?_
 obtain ⟨h1,hM⟩ := of_chk hM
 refine ar (.cons (o_fieldAddr rfl)<|.cons (o_fieldAddr rfl)<|.cons (o_load_s rfl rfl rfl)<|.cons (t_append_n (DV.int .i64) x0.gEvent.gArgs h1 rfl rfl Src.sl)<|.cons (o_fieldAddr rfl)<|.cons (o_fieldAddr rfl)<|.cons (o_store_s rfl rfl rfl rfl rfl)<|.nil _) ?_
 refine a_seq (ar (.cons (o_load_r rfl rfl rfl rfl)<|.cons (o_store rfl rfl rfl rfl rfl rfl rfl)<|.nil _) ?_)
 obtain rfl:=Option.some.inj hM
 refine a_imp (Imp.freeze (id:=6) rfl) ?_
 exact a_ret (a_post (.r1 (.cell rfl rfl (.row _ CRow.h (Nat.le_of_ble_eq_true rfl) rfl))) (DLe.refl _) PostOk.nil.spec)
def ring_New (x0 : Int) : Option ((ring_Ring) ⊕ (Unit)) :=
 if (decide (x0 < 1)) = true then
  some (.inr ())
 else
  some (.inl (ring_Ring.mk x0 0 ([] : List RRec) false 0 0 0))
theorem ring_New_c0 {x0 : Int} {r : ring_Ring} (hM : ring_New x0 = some (.inl r)) : ACall Tryz.prog 61 ⟨[.int .i64 x0],[],.tup [.ref 50000 0,.int .i64 0],[(50000,some (.blk 177 [.int .i64 r.gcapacity,.int .i64 r.gused,.row 50001,.bool r.gbegun,.int .i64 r.gcomponent,.int .u64 r.gfirst,.int .u64 r.gnext])),(50001,some (.row 64 29 (List.map RRec.dv r.glist)))],[50000,50001]⟩ := by
 unfold ring_New at hM
 refine ACall.body Tryz.func61 Tryz.ntmps61 rfl rfl rfl rfl ?_
 refine a_seq (ar (.cons (o_assign rfl)<|.cons (o_assign rfl)<|.nil _) ?_)
 refine a_seq (a_seq (ar (.cons (o_move rfl)<|.cons (o_int rfl rfl rfl)<|.nil _) ?_))
 refine a_cond _ rfl (fun h1=>?_) (fun h1=>?_)
 ·replace hM:=(of_if hM).1 h1
  refine a_seq (ar (.cons (o_assign rfl)<|.cons (o_assign rfl)<|.nil _) ?_)
  cases hM
 ·replace hM:=(of_if hM).2 h1
  refine a_skip (a_seq (ar (.cons (o_move rfl)<|.cons (o_build rfl rfl rfl)<|.cons (o_box rfl rfl)<|.cons (o_assign rfl)<|.cons (o_assign rfl)<|.nil _) ?_))
  obtain rfl:=Sum.inl.inj (Option.some.inj hM)
  refine a_imp (Imp.nilC (id:=8) (rid:=48802) (j:=2) 64 29 rfl rfl rfl rfl) ?_
  refine a_imp (σ' := ⟨[(2,.ref 50000 0),(3,.int .i64 0)],[(50000,some (.blk 177 [.int .i64 ((ring_Ring.mk x0 0 ([] : List RRec) false 0 0 0).gcapacity),.int .i64 ((ring_Ring.mk x0 0 ([] : List RRec) false 0 0 0).gused),.row 50001,.bool ((ring_Ring.mk x0 0 ([] : List RRec) false 0 0 0).gbegun),.int .i64 ((ring_Ring.mk x0 0 ([] : List RRec) false 0 0 0).gcomponent),.int .u64 ((ring_Ring.mk x0 0 ([] : List RRec) false 0 0 0).gfirst),.int .u64 ((ring_Ring.mk x0 0 ([] : List RRec) false 0 0 0).gnext)])),(50001,some (.row 64 29 (List.map RRec.dv ((ring_Ring.mk x0 0 ([] : List RRec) false 0 0 0).glist))))],[50000,50001]⟩) (Imp.sh (fun i=>bif Nat.beq i 50001 then 48802 else bif Nat.beq i 50000 then 8 else i) rfl rfl rfl rfl rfl rfl) ?_
  exact a_ret (a_post (.r2 (.tmp rfl) (.tmp rfl)) (DLe.refl _) (PostOk.spec (.cons rfl (.cons rfl .nil))))
theorem ring_New_c1 {x0 : Int} {r : Unit} (hM : ring_New x0 = some (.inr r)) : ACall Tryz.prog 61 ⟨[.int .i64 x0],[],.tup [.val (.pointer none),.int .i64 1],[],[]⟩ := by
 unfold ring_New at hM
 refine ACall.body Tryz.func61 Tryz.ntmps61 rfl rfl rfl rfl ?_
 refine a_seq (ar (.cons (o_assign rfl)<|.cons (o_assign rfl)<|.nil _) ?_)
 refine a_seq (a_seq (ar (.cons (o_move rfl)<|.cons (o_int rfl rfl rfl)<|.nil _) ?_))
 refine a_cond _ rfl (fun h1=>?_) (fun h1=>?_)
 ·replace hM:=(of_if hM).1 h1
  refine a_seq (ar (.cons (o_assign rfl)<|.cons (o_assign rfl)<|.nil _) ?_)
  obtain rfl:=Sum.inr.inj (Option.some.inj hM)
  refine a_imp (σ' := ⟨[(2,.val (.pointer none)),(3,.int .i64 1)],[],[]⟩) (Imp.sh (fun i=>i) rfl rfl rfl rfl rfl rfl) ?_
  exact a_ret (a_post (.r2 (.tmp rfl) (.tmp rfl)) (DLe.refl _) (PostOk.spec .nil))
 ·replace hM:=(of_if hM).2 h1
  refine a_skip (a_seq (ar (.cons (o_move rfl)<|.cons (o_build rfl rfl rfl)<|.cons (o_box rfl rfl)<|.cons (o_assign rfl)<|.cons (o_assign rfl)<|.nil _) ?_))
  cases hM
def ring_Ring_Put_a1_K3 (o0 : ring_Ring) (a5 : Bool) (a6 : Int) (a7 : Int) (a8 : Int) (v10 : RRec) (a14 : Int) (a15 : Int) : Option (Int × Int × ring_Ring) :=
 chk (slOk (List.length (o0.glist++[v10])) a14 (List.length (o0.glist++[v10])))<|
 some (a14,0,(ring_Ring.mk o0.gcapacity a15 (List.drop (Int.toNat a14) (o0.glist++[v10])) a5 a6 a7 a8))
def ring_Ring_Put_a1_L4 (o0 : ring_Ring) (v10 : RRec) (a17 : Int) (a18 : Int) : Option (Ctl (Int × Int) (Int × Int)) :=
 (gb ((decide (a17 < (List.length (o0.glist++[v10]) : Int))) && !(decide (o0.gcapacity < a18))) (RRec.mk 0 0 (VClk.mk (arr 0 [])) 0 (AEv.mk 0 0 0 0 0 0 0 0 []) 0) (idx (o0.glist++[v10]) a17)).bind fun v22=>
 if ((decide (a17 < (List.length (o0.glist++[v10]) : Int))) && ((decide (o0.gcapacity < a18)) || (v22.gWhat == 2))) = true then
  (idx (o0.glist++[v10]) a17).bind fun v25=>
  (record_Size v25).bind fun v27=>
  some (.next ((IntKind.wrap .i64 (a17 + 1)),(IntKind.wrap .i64 (a18 - v27))))
 else
  some (.done (a17,a18))
def ring_Ring_Put_a1_K2 (x1 : RRec) (o0 : ring_Ring) (a5 : Bool) (a6 : Int) (a7 : Int) (a8 : Int) : Option (Int × Int × ring_Ring) :=
 (ring_clone x1).bind fun v10=>
 chk (0 < List.length [v10]∧apOk 248 (List.length o0.glist + List.length [v10]))<|
 (record_Size x1).bind fun v13=>
 (whileM (E:=Int × Int) (fun s=>ring_Ring_Put_a1_L4 o0 v10 s.1 s.2) (0,(IntKind.wrap .i64 (o0.gused + v13)))).bind fun e=>ring_Ring_Put_a1_K3 o0 a5 a6 a7 a8 v10 e.1 e.2
def ring_Ring_Put_a1_K1 (x1 : RRec) (o0 : ring_Ring) (a5 : Bool) (a6 : Int) (a7 : Int) : Option (Int × Int × ring_Ring) :=
 if (x1.gWhat == 2) = true then
  ring_Ring_Put_a1_K2 x1 o0 a5 a6 a7 (IntKind.wrap .u64 (x1.gSeq + x1.gCount))
 else
  ring_Ring_Put_a1_K2 x1 o0 a5 a6 a7 (IntKind.wrap .u64 (x1.gSeq + 1))
def ring_Ring_Put_a1 (x1 : RRec) (o0 : ring_Ring) : Option (Int × Int × ring_Ring) :=
 (record_Check x1).bind fun v2=>
 if ((v2 != 0) || (x1.gWhat == 3)) = true then
  some (0,1,o0)
 else
  if (o0.gbegun && ((x1.gComponent != o0.gcomponent) || (x1.gSeq != o0.gnext))) = true then
   some (0,11,o0)
  else
   if (!o0.gbegun) = true then
    ring_Ring_Put_a1_K1 x1 o0 true x1.gComponent x1.gSeq
   else
    ring_Ring_Put_a1_K1 x1 o0 o0.gbegun o0.gcomponent o0.gfirst
theorem ring_Ring_Put_a1_c {x1 : RRec} {o0 : ring_Ring} {r : Int × Int × ring_Ring} (hM : ring_Ring_Put_a1 x1 o0 = some r) : ACall Tryz.prog 62 ⟨[.ref 100000 0,.agg (RRec.cs x1)],[(100000,some (.blk 177 [.int .i64 o0.gcapacity,.int .i64 o0.gused,.row 100001,.bool o0.gbegun,.int .i64 o0.gcomponent,.int .u64 o0.gfirst,.int .u64 o0.gnext])),(100001,some (.sow 64 29 (List.map RRec.dv o0.glist)))],.tup [.int .i64 r.1,.int .i64 r.2.1],[(100000,some (.blk 177 [.int .i64 r.2.2.gcapacity,.int .i64 r.2.2.gused,.row 50000,.bool r.2.2.gbegun,.int .i64 r.2.2.gcomponent,.int .u64 r.2.2.gfirst,.int .u64 r.2.2.gnext])),(50000,some (.sow 64 29 (List.map RRec.dv r.2.2.glist))),(100001,none)],[50000]⟩ := by
 unfold ring_Ring_Put_a1 at hM
 refine ACall.body Tryz.func62 Tryz.ntmps62 rfl rfl rfl rfl ?_
 refine a_seq (ar (.cons (o_box rfl rfl)<|.cons (o_assign rfl)<|.cons (o_assign rfl)<|.nil _) ?_)
 refine a_seq (a_seq ?_)
 obtain ⟨v2,h1,hM⟩ := of_bind hM
 refine ar (.cons (o_move rfl)<|.cons (o_ptr_eq rfl)<|.cons (o_move rfl)<|.cons (o_guardOn .bF rfl rfl rfl (.keep .nil) (o_load_r rfl rfl rfl rfl))<|.cons (o_guardOn .bF rfl rfl rfl (.strip rfl rfl .nil) (o_call (record_Check_c h1) rfl (DLeL.refl _) rfl))<|.cons (o_guardOn .bF rfl rfl rfl (.strip rfl rfl .nil) (o_int rfl rfl rfl))<|.cons (o_or rfl rfl)<|.cons (o_move rfl)<|.cons (o_guardG .bF rfl rfl (fun hb=>(.keep .nil)) (fun hb=>o_fieldAddr rfl))<|.cons (o_guardG .bF rfl rfl (fun hb=>(.strip rfl hb .nil)) (fun hb=>o_load_s rfl rfl rfl))<|.cons (o_guardG .bF rfl rfl (fun hb=>(.strip rfl hb .nil)) (fun hb=>o_int rfl rfl rfl))<|.cons (o_or rfl rfl)<|.nil _) ?_
 refine a_cond _ rfl (fun h3=>?_) (fun h3=>?_)
 ·replace hM:=(of_if hM).1 h3
  refine a_seq (ar (.cons (o_assign rfl)<|.cons (o_assign rfl)<|.nil _) ?_)
  obtain rfl:=Option.some.inj hM
  refine a_imp (σ' := ⟨[(4,.int .i64 0),(5,.int .i64 1)],[(50000,some (.sow 64 29 (List.map RRec.dv o0.glist))),(100000,some (.blk 177 [.int .i64 o0.gcapacity,.int .i64 o0.gused,.row 50000,.bool o0.gbegun,.int .i64 o0.gcomponent,.int .u64 o0.gfirst,.int .u64 o0.gnext]))],[50000,100000,100001]⟩) (Imp.sh (fun i=>bif Nat.beq i 50000 then 100001 else i) rfl rfl rfl rfl rfl rfl) ?_
  exact a_ret (a_post (.r2 (.tmp rfl) (.tmp rfl)) (DLe.refl _) (PostOk.spec (.cons rfl (.cons rfl (.gone .nil)))))
 ·replace hM:=(of_if hM).2 h3
  refine a_skip (a_seq (a_seq (ad mixed (.cons (o_move rfl)<|.cons (o_nilCheck rfl)<|.cons (o_fieldAddr rfl)<|.cons (o_load_s rfl rfl rfl)<|.cons (o_move rfl)<|.cons (o_guardG .bT rfl rfl (fun hb=>(.keep .nil)) (fun hb=>o_fieldAddr rfl))<|.cons (o_guardG .bT rfl rfl (fun hb=>(.strip rfl hb .nil)) (fun hb=>o_load_s rfl rfl rfl))<|.cons (o_guardG .bT rfl rfl (fun hb=>(.keep .nil)) (fun hb=>o_move rfl))<|.cons (o_guardG .bT rfl rfl (fun hb=>(.strip rfl hb .nil)) (fun hb=>o_nilCheck rfl))<|.cons (o_guardG .bT rfl rfl (fun hb=>(.strip rfl hb .nil)) (fun hb=>o_fieldAddr rfl))<|.cons (o_guardG .bT rfl rfl (fun hb=>(.strip rfl hb .nil)) (fun hb=>o_load_s rfl rfl rfl))<|.cons (o_guardG .bT rfl rfl (fun hb=>(.strip rfl hb (.strip rfl hb .nil))) (fun hb=>o_int rfl rfl rfl))<|.cons (o_guardG .bT rfl rfl (fun hb=>(.strip rfl hb .nil)) (fun hb=>o_move rfl))<|.cons (o_guardG .iF rfl rfl (fun hb=>(.keep .nil)) (fun hb=>o_fieldAddr rfl))<|.cons (o_guardG .iF rfl rfl (fun hb=>(.strip rfl hb .nil)) (fun hb=>o_load_s rfl rfl rfl))<|.cons (o_guardG .iF rfl rfl (fun hb=>(.keep .nil)) (fun hb=>o_move rfl))<|.cons (o_guardG .iF rfl rfl (fun hb=>(.strip rfl hb .nil)) (fun hb=>o_nilCheck rfl))<|.cons (o_guardG .iF rfl rfl (fun hb=>(.strip rfl hb .nil)) (fun hb=>o_fieldAddr rfl))<|.cons (o_guardG .iF rfl rfl (fun hb=>(.strip rfl hb .nil)) (fun hb=>o_load_s rfl rfl rfl))<|.cons (o_guardG .iF rfl rfl (fun hb=>(.strip rfl hb (.strip rfl hb .nil))) (fun hb=>o_int rfl rfl rfl))<|.cons (o_guardG .bT rfl rfl (fun hb=>(.strip rfl hb (.half rfl hb .nil))) (fun hb=>o_or rfl rfl))<|.cons (o_and rfl rfl)<|.nil _) ?_)))
  refine a_cond _ rfl (fun h4=>?_) (fun h4=>?_)
  ·replace hM:=(of_if hM).1 h4
   refine a_seq (ar (.cons (o_assign rfl)<|.cons (o_assign rfl)<|.nil _) ?_)
   obtain rfl:=Option.some.inj hM
   refine a_imp (σ' := ⟨[(4,.int .i64 0),(5,.int .i64 11)],[(50000,some (.sow 64 29 (List.map RRec.dv o0.glist))),(100000,some (.blk 177 [.int .i64 o0.gcapacity,.int .i64 o0.gused,.row 50000,.bool o0.gbegun,.int .i64 o0.gcomponent,.int .u64 o0.gfirst,.int .u64 o0.gnext]))],[50000,100000,100001]⟩) (Imp.sh (fun i=>bif Nat.beq i 50000 then 100001 else i) rfl rfl rfl rfl rfl rfl) ?_
   exact a_ret (a_post (.r2 (.tmp rfl) (.tmp rfl)) (DLe.refl _) (PostOk.spec (.cons rfl (.cons rfl (.gone .nil)))))
  ·replace hM:=(of_if hM).2 h4
   refine a_skip ?_
   refine a_cut (α:=Bool × Int × Int) (fun s=>⟨[(0,.ref 100000 0),(3,.ref 3 0)],[(3,some (.blk 64 (RRec.cs x1))),(100000,some (.blk 177 [.int .i64 o0.gcapacity,.int .i64 o0.gused,.row 100001,.bool s.1,.int .i64 s.2.1,.int .u64 s.2.2,.int .u64 o0.gnext])),(100001,some (.sow 64 29 (List.map RRec.dv o0.glist)))],[3,100000,100001]⟩) (fun s=>ring_Ring_Put_a1_K1 x1 o0 s.1 s.2.1 s.2.2 = some r) ?_ ?_
   ·refine a_seq (ar (.cons (o_move rfl)<|.cons (o_nilCheck rfl)<|.cons (o_fieldAddr rfl)<|.cons (o_load_s rfl rfl rfl)<|.cons (o_not rfl)<|.nil _) ?_)
    refine a_cond _ rfl (fun h29=>?_) (fun h29=>?_)
    ·replace hM:=(of_if hM).1 h29
     refine ad mixed (.cons (o_move rfl)<|.cons (o_move rfl)<|.cons (o_move rfl)<|.cons (o_fieldAddr rfl)<|.cons (o_load_s rfl rfl rfl)<|.cons (o_fieldAddr rfl)<|.cons (o_load_s rfl rfl rfl)<|.cons (o_nilCheck rfl)<|.cons (o_fieldAddr rfl)<|.cons (o_store_s rfl rfl rfl rfl rfl)<|.cons (o_nilCheck rfl)<|.cons (o_fieldAddr rfl)<|.cons (o_store_s rfl rfl rfl rfl rfl)<|.cons (o_nilCheck rfl)<|.cons (o_fieldAddr rfl)<|.cons (o_store_s rfl rfl rfl rfl rfl)<|.nil _) ?_
     exact ⟨(true,x1.gComponent,x1.gSeq),hM,(Imp.sh (fun i=>i) rfl rfl rfl rfl rfl rfl)⟩
    ·replace hM:=(of_if hM).2 h29
     refine a_skip ?_
     exact ⟨(o0.gbegun,o0.gcomponent,o0.gfirst),hM,(Imp.sh (fun i=>i) rfl rfl rfl rfl rfl rfl)⟩
   ·rintro ⟨a5,a6,a7⟩ hM
    replace hM : ring_Ring_Put_a1_K1 x1 o0 a5 a6 a7 = some r:=hM
    unfold ring_Ring_Put_a1_K1 at hM
    refine a_seq (ar (.cons (o_move rfl)<|.cons (o_fieldAddr rfl)<|.cons (o_load_s rfl rfl rfl)<|.cons (o_int rfl rfl rfl)<|.cons (o_nilCheck rfl)<|.cons (o_fieldAddr rfl)<|.cons (o_store_s rfl rfl rfl rfl rfl)<|.nil _) ?_)
    refine a_cut (α:=Int) (fun s=>⟨[(0,.ref 100000 0),(3,.ref 3 0)],[(3,some (.blk 64 (RRec.cs x1))),(100000,some (.blk 177 [.int .i64 o0.gcapacity,.int .i64 o0.gused,.row 100001,.bool a5,.int .i64 a6,.int .u64 a7,.int .u64 s])),(100001,some (.sow 64 29 (List.map RRec.dv o0.glist)))],[3,100000,100001]⟩) (fun s=>ring_Ring_Put_a1_K2 x1 o0 a5 a6 a7 s = some r) ?_ ?_
    ·refine a_seq (ar (.cons (o_fieldAddr rfl)<|.cons (o_load_s rfl rfl rfl)<|.cons (o_int rfl rfl rfl)<|.nil _) ?_)
     refine a_cond _ rfl (fun h28=>?_) (fun h28=>?_)
     ·replace hM:=(of_if hM).1 h28
      refine ar (.cons (o_move rfl)<|.cons (o_fieldAddr rfl)<|.cons (o_load_s rfl rfl rfl)<|.cons (o_fieldAddr rfl)<|.cons (o_load_s rfl rfl rfl)<|.cons (o_int rfl rfl rfl)<|.cons (o_nilCheck rfl)<|.cons (o_fieldAddr rfl)<|.cons (o_store_s rfl rfl rfl rfl rfl)<|.nil _) ?_
      exact ⟨(IntKind.wrap .u64 (x1.gSeq + x1.gCount)),hM,(Imp.sh (fun i=>i) rfl rfl rfl rfl rfl rfl)⟩
     ·replace hM:=(of_if hM).2 h28
      refine a_skip ?_
      exact ⟨(IntKind.wrap .u64 (x1.gSeq + 1)),hM,(Imp.sh (fun i=>i) rfl rfl rfl rfl rfl rfl)⟩
    ·rintro a8 hM
     replace hM : ring_Ring_Put_a1_K2 x1 o0 a5 a6 a7 a8 = some r:=hM
     unfold ring_Ring_Put_a1_K2 at hM
     refine a_seq ?_
     obtain ⟨v10,h9,hM⟩ := of_bind hM
     obtain ⟨h11,hM⟩ := of_chk hM
     refine ad mixed (.cons (o_move rfl)<|.cons (o_move rfl)<|.cons (o_nilCheck rfl)<|.cons (o_fieldAddr rfl)<|.cons (o_load_s rfl rfl rfl)<|.cons (o_load_r rfl rfl rfl rfl)<|.cons (o_call (ring_clone_c h9) rfl (DLeL.refl _) rfl)<|.cons (t_build RRec.dv ([v10] : List RRec) rfl rfl rfl rfl rfl rfl rfl)<|.cons (t_append_s [v10] h11 rfl rfl rfl (Src.row rfl))<|.cons (o_nilCheck rfl)<|.cons (o_fieldAddr rfl)<|.cons (o_store_s rfl rfl rfl rfl rfl)<|.nil _) ?_
     refine a_seq ?_
     obtain ⟨v13,h12,hM⟩ := of_bind hM
     refine ad mixed (.cons (o_move rfl)<|.cons (o_nilCheck rfl)<|.cons (o_fieldAddr rfl)<|.cons (o_load_s rfl rfl rfl)<|.cons (o_load_r rfl rfl rfl rfl)<|.cons (o_call (record_Size_c h12) rfl (DLeL.refl _) rfl)<|.cons (o_int rfl rfl rfl)<|.cons (o_nilCheck rfl)<|.cons (o_fieldAddr rfl)<|.cons (o_store_s rfl rfl rfl rfl rfl)<|.nil _) ?_
     refine a_seq (ar (.cons (o_assign rfl)<|.nil _) ?_)
     refine a_cut (α:=Int × Int) (fun s=>⟨[(0,.ref 100000 0),(6,.int .i64 s.1)],[(10001,some (.sow 64 29 (List.map RRec.dv (o0.glist++[v10])))),(100000,some (.blk 177 [.int .i64 o0.gcapacity,.int .i64 s.2,.row 10001,.bool a5,.int .i64 a6,.int .u64 a7,.int .u64 a8]))],[10001,100000,100001]⟩) (fun s=>ring_Ring_Put_a1_K3 o0 a5 a6 a7 a8 v10 s.1 s.2 = some r) ?_ ?_
     ·obtain ⟨e19,hL19,hK19⟩ := of_bind hM
      refine a_block (a_while (fun s : Int × Int=>⟨[(0,.ref 100000 0),(6,.int .i64 s.1)],[(10002,some (.sow 64 29 (List.map RRec.dv (o0.glist++[v10])))),(100000,some (.blk 177 [.int .i64 o0.gcapacity,.int .i64 s.2,.row 10002,.bool a5,.int .i64 a6,.int .u64 a7,.int .u64 a8]))],[10002,100000,100001]⟩) _ hL19 (Imp.sh (fun i=>bif Nat.beq i 10002 then 84 else i) rfl rfl rfl rfl rfl rfl) ?_)
      rintro ⟨a17,a18⟩ t20 hM hE19
      replace hM : ring_Ring_Put_a1_L4 o0 v10 a17 a18 = some t20:=hM
      unfold ring_Ring_Put_a1_L4 at hM
      refine a_seq (a_seq ?_)
      obtain ⟨v22,h21,hM⟩ := of_bind hM
      refine ad mixed (.cons (o_move rfl)<|.cons (o_move rfl)<|.cons (o_nilCheck rfl)<|.cons (o_fieldAddr rfl)<|.cons (o_load_s rfl rfl rfl)<|.cons (t_len_s rfl rfl)<|.cons (o_int rfl rfl rfl)<|.cons (o_move rfl)<|.cons (o_guardG .bT rfl rfl (fun hb=>(.keep .nil)) (fun hb=>o_move rfl))<|.cons (o_guardG .bT rfl rfl (fun hb=>(.strip rfl hb .nil)) (fun hb=>o_nilCheck rfl))<|.cons (o_guardG .bT rfl rfl (fun hb=>(.strip rfl hb .nil)) (fun hb=>o_fieldAddr rfl))<|.cons (o_guardG .bT rfl rfl (fun hb=>(.strip rfl hb .nil)) (fun hb=>o_load_s rfl rfl rfl))<|.cons (o_guardG .bT rfl rfl (fun hb=>(.keep .nil)) (fun hb=>o_move rfl))<|.cons (o_guardG .bT rfl rfl (fun hb=>(.strip rfl hb .nil)) (fun hb=>o_nilCheck rfl))<|.cons (o_guardG .bT rfl rfl (fun hb=>(.strip rfl hb .nil)) (fun hb=>o_fieldAddr rfl))<|.cons (o_guardG .bT rfl rfl (fun hb=>(.strip rfl hb .nil)) (fun hb=>o_load_s rfl rfl rfl))<|.cons (o_guardG .bT rfl rfl (fun hb=>(.strip rfl hb (.strip rfl hb .nil))) (fun hb=>o_int rfl rfl rfl))<|.cons (o_guardG .bT rfl rfl (fun hb=>(.strip rfl hb .nil)) (fun hb=>o_move rfl))<|.cons (o_guardG .iF rfl rfl (fun hb=>(.keep .nil)) (fun hb=>o_move rfl))<|.cons (o_guardG .iF rfl rfl (fun hb=>(.strip rfl hb .nil)) (fun hb=>o_nilCheck rfl))<|.cons (o_guardG .iF rfl rfl (fun hb=>(.strip rfl hb .nil)) (fun hb=>o_fieldAddr rfl))<|.cons (o_guardG .iF rfl rfl (fun hb=>(.strip rfl hb .nil)) (fun hb=>o_load_s rfl rfl rfl))<|.cons (o_guardG .iF rfl rfl (fun hb=>(.keep .nil)) (fun hb=>o_move rfl))<|.cons (o_guardG .iF rfl rfl (fun hb=>(.strip rfl hb (.strip rfl hb .nil))) (fun hb=>t_index_s (of_gb h21 hb) rfl rfl rfl))<|.cons (o_guardG .iF rfl rfl (fun hb=>(.strip rfl hb .nil)) (fun hb=>o_fieldAddr_s rfl))<|.cons (o_guardG .iF rfl rfl (fun hb=>(.strip rfl hb .nil)) (fun hb=>t_load_ss (of_gb h21 hb) rfl rfl rfl rfl))<|.cons (o_guardG .iF rfl rfl (fun hb=>(.strip rfl hb .nil)) (fun hb=>o_int rfl rfl rfl))<|.cons (o_guardG .bT rfl rfl (fun hb=>(.strip rfl hb (.half rfl hb .nil))) (fun hb=>o_or rfl rfl))<|.cons (o_and rfl rfl)<|.nil _) ?_
      refine a_cond _ rfl (fun h23=>?_) (fun h23=>?_)
      ·replace hM:=(of_if hM).1 h23
       refine a_skip (a_block (a_seq ?_))
       obtain ⟨v25,h24,hM⟩ := of_bind hM
       obtain ⟨v27,h26,hM⟩ := of_bind hM
       refine ad mixed (.cons (o_move rfl)<|.cons (o_nilCheck rfl)<|.cons (o_fieldAddr rfl)<|.cons (o_load_s rfl rfl rfl)<|.cons (o_move rfl)<|.cons (o_nilCheck rfl)<|.cons (o_fieldAddr rfl)<|.cons (o_load_s rfl rfl rfl)<|.cons (o_move rfl)<|.cons (t_index_s h24 rfl rfl rfl)<|.cons (t_load_sr h24 rfl rfl rfl rfl rfl)<|.cons (o_call (record_Size_c h26) rfl (DLeL.refl _) rfl)<|.cons (o_int rfl rfl rfl)<|.cons (o_nilCheck rfl)<|.cons (o_fieldAddr rfl)<|.cons (o_store_s rfl rfl rfl rfl rfl)<|.nil _) ?_
       refine ar (.cons (o_move rfl)<|.cons (o_int rfl rfl rfl)<|.cons (o_assign rfl)<|.nil _) ?_
       obtain rfl:=Option.some.inj hM
       exact ⟨((IntKind.wrap .i64 (a17 + 1)),(IntKind.wrap .i64 (a18 - v27))),rfl,(Imp.sh (fun i=>i) rfl rfl rfl rfl rfl rfl)⟩
      ·replace hM:=(of_if hM).2 h23
       refine a_exit ?_
       obtain rfl:=Option.some.inj hM
       obtain rfl:=hE19 _ rfl
       exact ⟨(a17,a18),hK19,(Imp.sh (fun i=>bif Nat.beq i 10001 then 10002 else i) rfl rfl rfl rfl rfl rfl)⟩
     ·rintro ⟨a14,a15⟩ hM
      replace hM : ring_Ring_Put_a1_K3 o0 a5 a6 a7 a8 v10 a14 a15 = some r:=hM
      unfold ring_Ring_Put_a1_K3 at hM
      refine a_seq ?_
      obtain ⟨h16,hM⟩ := of_chk hM
      refine ar (.cons (o_move rfl)<|.cons (o_move rfl)<|.cons (o_nilCheck rfl)<|.cons (o_fieldAddr rfl)<|.cons (o_load_s rfl rfl rfl)<|.cons (o_move rfl)<|.cons (t_slice_ls h16 rfl rfl rfl)<|.cons (o_nilCheck rfl)<|.cons (o_fieldAddr rfl)<|.cons (o_store_s rfl rfl rfl rfl rfl)<|.nil _) ?_
      refine a_seq (ar (.cons (o_move rfl)<|.cons (o_assign rfl)<|.cons (o_assign rfl)<|.nil _) ?_)
      obtain rfl:=Option.some.inj hM
      refine a_imp (σ' := ⟨[(4,.int .i64 a14),(5,.int .i64 0)],[(50000,some (.sow 64 29 (List.map RRec.dv ((ring_Ring.mk o0.gcapacity a15 (List.drop (Int.toNat a14) (o0.glist++[v10])) a5 a6 a7 a8).glist)))),(100000,some (.blk 177 [.int .i64 ((ring_Ring.mk o0.gcapacity a15 (List.drop (Int.toNat a14) (o0.glist++[v10])) a5 a6 a7 a8).gcapacity),.int .i64 ((ring_Ring.mk o0.gcapacity a15 (List.drop (Int.toNat a14) (o0.glist++[v10])) a5 a6 a7 a8).gused),.row 50000,.bool ((ring_Ring.mk o0.gcapacity a15 (List.drop (Int.toNat a14) (o0.glist++[v10])) a5 a6 a7 a8).gbegun),.int .i64 ((ring_Ring.mk o0.gcapacity a15 (List.drop (Int.toNat a14) (o0.glist++[v10])) a5 a6 a7 a8).gcomponent),.int .u64 ((ring_Ring.mk o0.gcapacity a15 (List.drop (Int.toNat a14) (o0.glist++[v10])) a5 a6 a7 a8).gfirst),.int .u64 ((ring_Ring.mk o0.gcapacity a15 (List.drop (Int.toNat a14) (o0.glist++[v10])) a5 a6 a7 a8).gnext)]))],[50000,100000,100001]⟩) (Imp.sh (fun i=>bif Nat.beq i 50000 then 148 else i) rfl rfl rfl rfl rfl rfl) ?_
      exact a_ret (a_post (.r2 (.tmp rfl) (.tmp rfl)) (DLe.refl _) (PostOk.spec (.cons rfl (.cons rfl (.gone .nil)))))
def ring_Ring_Lost_a (o0 : ring_Ring) : Option Int :=
 if ((List.length o0.glist : Int) == 0) = true then
  some (IntKind.wrap .u64 (o0.gnext - o0.gfirst))
 else
  (idx o0.glist 0).bind fun v4=>
  some (IntKind.wrap .u64 (v4.gSeq - o0.gfirst))
theorem ring_Ring_Lost_a_c {o0 : ring_Ring} {r : Int} (hM : ring_Ring_Lost_a o0 = some r) : ACall Tryz.prog 95 ⟨[.ref 100000 0],[(100000,some (.blk 177 [.int .i64 o0.gcapacity,.int .i64 o0.gused,.row 100001,.bool o0.gbegun,.int .i64 o0.gcomponent,.int .u64 o0.gfirst,.int .u64 o0.gnext])),(100001,some (.sow 64 29 (List.map RRec.dv o0.glist)))],.int .u64 r,[(100000,some (.blk 177 [.int .i64 o0.gcapacity,.int .i64 o0.gused,.row 100001,.bool o0.gbegun,.int .i64 o0.gcomponent,.int .u64 o0.gfirst,.int .u64 o0.gnext])),(100001,some (.sow 64 29 (List.map RRec.dv o0.glist)))],[]⟩ := by
 unfold ring_Ring_Lost_a at hM
 refine ACall.body Tryz.func95 Tryz.ntmps95 rfl rfl rfl rfl ?_
 refine a_seq (ar (.cons (o_assign rfl)<|.nil _) ?_)
 refine a_seq (a_seq (ar (.cons (o_move rfl)<|.cons (o_ptr_eq rfl)<|.nil _) ?_))
 refine a_cond _ rfl (fun c=>by cases c) (fun _=>?_)
 refine a_skip (a_seq (a_seq (ar (.cons (o_move rfl)<|.cons (o_nilCheck rfl)<|.cons (o_fieldAddr rfl)<|.cons (o_load_s rfl rfl rfl)<|.cons (t_len_s rfl rfl)<|.cons (o_int rfl rfl rfl)<|.nil _) ?_)))
 refine a_cond _ rfl (fun h2=>?_) (fun h2=>?_)
 ·replace hM:=(of_if hM).1 h2
  refine a_seq (ad mixed (.cons (o_move rfl)<|.cons (o_nilCheck rfl)<|.cons (o_fieldAddr rfl)<|.cons (o_load_s rfl rfl rfl)<|.cons (o_move rfl)<|.cons (o_nilCheck rfl)<|.cons (o_fieldAddr rfl)<|.cons (o_load_s rfl rfl rfl)<|.cons (o_int rfl rfl rfl)<|.cons (o_assign rfl)<|.nil _) ?_)
  obtain rfl:=Option.some.inj hM
  refine a_imp (σ' := ⟨[(2,.int .u64 (IntKind.wrap .u64 (o0.gnext - o0.gfirst)))],[(100000,some (.blk 177 [.int .i64 o0.gcapacity,.int .i64 o0.gused,.row 100001,.bool o0.gbegun,.int .i64 o0.gcomponent,.int .u64 o0.gfirst,.int .u64 o0.gnext])),(100001,some (.sow 64 29 (List.map RRec.dv o0.glist)))],[100000,100001]⟩) (Imp.sh (fun i=>i) rfl rfl rfl rfl rfl rfl) ?_
  exact a_ret (a_post (.r1 (.tmp rfl)) (DLe.refl _) (PostOk.spec (.cons rfl (.cons rfl .nil))))
 ·replace hM:=(of_if hM).2 h2
  refine a_skip (a_seq ?_)
  obtain ⟨v4,h3,hM⟩ := of_bind hM
  refine ad mixed (.cons (o_move rfl)<|.cons (o_nilCheck rfl)<|.cons (o_fieldAddr rfl)<|.cons (o_load_s rfl rfl rfl)<|.cons (t_index_s h3 rfl rfl rfl)<|.cons (o_fieldAddr_s rfl)<|.cons (t_load_ss h3 rfl rfl rfl rfl)<|.cons (o_move rfl)<|.cons (o_nilCheck rfl)<|.cons (o_fieldAddr rfl)<|.cons (o_load_s rfl rfl rfl)<|.cons (o_int rfl rfl rfl)<|.cons (o_assign rfl)<|.nil _) ?_
  obtain rfl:=Option.some.inj hM
  refine a_imp (σ' := ⟨[(2,.int .u64 (IntKind.wrap .u64 (v4.gSeq - o0.gfirst)))],[(100000,some (.blk 177 [.int .i64 o0.gcapacity,.int .i64 o0.gused,.row 100001,.bool o0.gbegun,.int .i64 o0.gcomponent,.int .u64 o0.gfirst,.int .u64 o0.gnext])),(100001,some (.sow 64 29 (List.map RRec.dv o0.glist)))],[100000,100001]⟩) (Imp.sh (fun i=>i) rfl rfl rfl rfl rfl rfl) ?_
  exact a_ret (a_post (.r1 (.tmp rfl)) (DLe.refl _) (PostOk.spec (.cons rfl (.cons rfl .nil))))
def ring_Ring_Records_a_K2 (a3 : List RRec) : Option (List RRec) :=
 some a3
def ring_Ring_Records_a_L3 (o0 : ring_Ring) (k4 : Nat) (a5 : List RRec) : Option (List RRec) :=
 (idx o0.glist (k4 : Int)).bind fun v10=>
 (ring_clone v10).bind fun v12=>
 chk (apOk 248 (List.length a5 + List.length [v12]))<|
 some (a5++[v12])
def ring_Ring_Records_a_K1 (o0 : ring_Ring) (a2 : List RRec) : Option (List RRec) :=
 (foldM' 9223372036854775807 (List.length o0.glist : Int) (fun k4 s=>ring_Ring_Records_a_L3 o0 k4 s) a2).bind fun s=>ring_Ring_Records_a_K2 s
def ring_Ring_Records_a (o0 : ring_Ring) : Option (List RRec) :=
 (ring_Ring_Lost_a o0).bind fun v15=>
 if (decide (0 < v15)) = true then
  chk (apOk 248 (List.length [(RRec.mk o0.gcomponent o0.gfirst (VClk.mk (arr 0 [0,0,0,0,0,0,0,0,0,0,0,0,0,0,0,0])) 2 (AEv.mk 0 0 0 0 0 0 0 0 []) v15)]))<|
  ring_Ring_Records_a_K1 o0 [(RRec.mk o0.gcomponent o0.gfirst (VClk.mk (arr 0 [0,0,0,0,0,0,0,0,0,0,0,0,0,0,0,0])) 2 (AEv.mk 0 0 0 0 0 0 0 0 []) v15)]
 else
  ring_Ring_Records_a_K1 o0 ([] : List RRec)
theorem ring_Ring_Records_a_c {o0 : ring_Ring} {r : (List RRec)} (hM : ring_Ring_Records_a o0 = some r) : ACall Tryz.prog 63 ⟨[.ref 100000 0],[(100000,some (.blk 177 [.int .i64 o0.gcapacity,.int .i64 o0.gused,.row 100001,.bool o0.gbegun,.int .i64 o0.gcomponent,.int .u64 o0.gfirst,.int .u64 o0.gnext])),(100001,some (.sow 64 29 (List.map RRec.dv o0.glist)))],.row 50000,[(50000,some (.row 64 29 (List.map RRec.dv r))),(100000,some (.blk 177 [.int .i64 o0.gcapacity,.int .i64 o0.gused,.row 100001,.bool o0.gbegun,.int .i64 o0.gcomponent,.int .u64 o0.gfirst,.int .u64 o0.gnext])),(100001,some (.sow 64 29 (List.map RRec.dv o0.glist)))],[50000]⟩ := by
 unfold ring_Ring_Records_a at hM
 refine ACall.body Tryz.func63 Tryz.ntmps63 rfl rfl rfl rfl ?_
 refine a_seq (ar (.cons (o_assign rfl)<|.nil _) ?_)
 refine a_seq (a_seq (ar (.cons (o_move rfl)<|.cons (o_ptr_eq rfl)<|.nil _) ?_))
 refine a_cond _ rfl (fun c=>by cases c) (fun _=>?_)
 refine a_skip (a_seq (ar (.cons (o_assign rfl)<|.nil _) ?_))
 refine a_cut (α:=(List RRec)) (fun s=>⟨[(0,.ref 100000 0),(3,.row 10001)],[(10001,some (.row 64 29 (List.map RRec.dv s))),(100000,some (.blk 177 [.int .i64 o0.gcapacity,.int .i64 o0.gused,.row 100001,.bool o0.gbegun,.int .i64 o0.gcomponent,.int .u64 o0.gfirst,.int .u64 o0.gnext])),(100001,some (.sow 64 29 (List.map RRec.dv o0.glist)))],[10001,100000,100001]⟩) (fun s=>ring_Ring_Records_a_K1 o0 s = some r) ?_ ?_
 ·refine a_seq ?_
  obtain ⟨v15,h14,hM⟩ := of_bind hM
  refine ar (.cons (o_move rfl)<|.cons (o_callN (fun i=>bif Nat.beq i 100000 then 100000 else bif Nat.beq i 100001 then 100001 else i) 0 (ring_Ring_Lost_a_c h14) rfl (DLeL.refl _) (.cons rfl (.cons rfl .nil)) rfl (.cons rfl (.cons rfl .nil)))<|.cons (o_assign rfl)<|.nil _) ?_
  refine a_seq (ar (.cons (o_move rfl)<|.cons (o_int rfl rfl rfl)<|.nil _) ?_)
  refine a_cond _ rfl (fun h16=>?_) (fun h16=>?_)
  ·replace hM:=(of_if hM).1 h16
   obtain ⟨h17,hM⟩ := of_chk hM
   refine ad mixed (.cons (o_move rfl)<|.cons (o_move rfl)<|.cons (o_nilCheck rfl)<|.cons (o_fieldAddr rfl)<|.cons (o_load_s rfl rfl rfl)<|.cons (o_move rfl)<|.cons (o_nilCheck rfl)<|.cons (o_fieldAddr rfl)<|.cons (o_load_s rfl rfl rfl)<|.cons (o_move rfl)<|.cons (o_build rfl rfl rfl)<|.cons (t_buildW RRec.dv ([(RRec.mk o0.gcomponent o0.gfirst (VClk.mk (arr 0 [0,0,0,0,0,0,0,0,0,0,0,0,0,0,0,0])) 2 (AEv.mk 0 0 0 0 0 0 0 0 []) v15)] : List RRec) rfl rfl rfl rfl rfl rfl (.cons (DLe.agg (.cons (DLe.refl _) (.cons (DLe.refl _) (.cons (DLe.refl _) (.cons (DLe.refl _) (.cons (DLe.refl _) (.cons (DLe.refl _) (.cons (DLe.refl _) (.cons (DLe.refl _) (.cons (DLe.refl _) (.cons (DLe.refl _) (.cons (DLe.refl _) (.cons (DLe.refl _) (.cons (DLe.refl _) (.cons (DLe.refl _) (.cons (DLe.refl _) (.cons (DLe.refl _) (.cons (DLe.refl _) (.cons (DLe.refl _) (.cons (DLe.refl _) (.cons (DLe.refl _) (.cons (DLe.refl _) (.cons (DLe.refl _) (.cons (DLe.refl _) (.cons (DLe.refl _) (.cons (DLe.refl _) (.cons (DLe.refl _) (.cons (DLe.refl _) (.cons (DLe.nils _) (.cons (DLe.refl _) .nil)))))))))))))))))))))))))))))) .nil))<|.cons (t_append_n RRec.dv [(RRec.mk o0.gcomponent o0.gfirst (VClk.mk (arr 0 [0,0,0,0,0,0,0,0,0,0,0,0,0,0,0,0])) 2 (AEv.mk 0 0 0 0 0 0 0 0 []) v15)] h17 rfl rfl (Src.row rfl))<|.cons (o_assign rfl)<|.nil _) ?_
   exact ⟨[(RRec.mk o0.gcomponent o0.gfirst (VClk.mk (arr 0 [0,0,0,0,0,0,0,0,0,0,0,0,0,0,0,0])) 2 (AEv.mk 0 0 0 0 0 0 0 0 []) v15)],hM,(Imp.sh (fun i=>bif Nat.beq i 10001 then 25 else i) rfl rfl rfl rfl rfl rfl)⟩
  ·replace hM:=(of_if hM).2 h16
   refine a_skip ?_
   exact ⟨([] : List RRec),hM,((Imp.nilRow (t:=3) (id:=10004) 64 29 rfl rfl).trans (Imp.sh (fun i=>bif Nat.beq i 10001 then 10004 else i) rfl rfl rfl rfl rfl rfl))⟩
 ·rintro a2 hM
  replace hM : ring_Ring_Records_a_K1 o0 a2 = some r:=hM
  unfold ring_Ring_Records_a_K1 at hM
  refine a_cut (α:=(List RRec)) (fun s=>⟨[(3,.row 10002)],[(10002,some (.row 64 29 (List.map RRec.dv s))),(100000,some (.blk 177 [.int .i64 o0.gcapacity,.int .i64 o0.gused,.row 100001,.bool o0.gbegun,.int .i64 o0.gcomponent,.int .u64 o0.gfirst,.int .u64 o0.gnext])),(100001,some (.sow 64 29 (List.map RRec.dv o0.glist)))],[10002,100000,100001]⟩) (fun s=>ring_Ring_Records_a_K2 s = some r) ?_ ?_
  ·refine a_seq (ar (.cons (o_move rfl)<|.cons (o_nilCheck rfl)<|.cons (o_fieldAddr rfl)<|.cons (o_load_s rfl rfl rfl)<|.cons (t_len_s rfl rfl)<|.cons (o_move rfl)<|.nil _) ?_)
   obtain ⟨a5,hL6,hK6⟩ := of_bind hM
   refine a_block ?_
   refine a_fold (fun k4 (s : (List RRec))=>⟨[(3,.row 10003),(29,.row 100001),(30,.int .i64 (List.length o0.glist : Int)),(31,.int .i64 (k4 : Int))],[(10003,some (.row 64 29 (List.map RRec.dv s))),(100000,some (.blk 177 [.int .i64 o0.gcapacity,.int .i64 o0.gused,.row 100001,.bool o0.gbegun,.int .i64 o0.gcomponent,.int .u64 o0.gfirst,.int .u64 o0.gnext])),(100001,some (.sow 64 29 (List.map RRec.dv o0.glist)))],[10003,100000,100001]⟩) _ hL6 (Imp.sh (fun i=>bif Nat.beq i 10003 then 10001 else i) rfl rfl rfl rfl rfl rfl) ?_ ?_
   ·rintro k4 a5 t7 hk4 hx4 hM
    replace hM : ring_Ring_Records_a_L3 o0 k4 a5 = some t7:=hM
    unfold ring_Ring_Records_a_L3 at hM
    refine a_seq (ar (.cons (o_int rfl rfl rfl)<|.nil _) ?_)
    refine a_seq ?_
    refine a_cond _ rfl (fun _=>?_) (fun c=>absurd hk4 (of_decide_eq_false c))
    refine a_skip (a_seq (a_block (a_seq ?_)))
    obtain ⟨v10,h9,hM⟩ := of_bind hM
    refine ar (.cons (t_index_s h9 rfl rfl rfl)<|.cons (t_load_sr h9 rfl rfl rfl rfl rfl)<|.cons (o_alloc rfl)<|.cons (o_store rfl rfl rfl rfl rfl rfl rfl)<|.nil _) ?_
    obtain ⟨v12,h11,hM⟩ := of_bind hM
    obtain ⟨h13,hM⟩ := of_chk hM
    refine ar (.cons (o_move rfl)<|.cons (o_load_r rfl rfl rfl rfl)<|.cons (o_call (ring_clone_c h11) rfl (DLeL.refl _) rfl)<|.cons (t_build RRec.dv ([v12] : List RRec) rfl rfl rfl rfl rfl rfl rfl)<|.cons (t_append [v12] h13 rfl rfl rfl (Src.row rfl))<|.cons (o_assign rfl)<|.nil _) ?_
    refine ar (.cons (o_add rfl rfl (inR_i64 hk4 hx4))<|.cons (o_move rfl)<|.nil _) ?_
    obtain rfl:=Option.some.inj hM
    exact (Imp.of (fun i=>bif Nat.beq i 10003 then 39 else i) (.cons rfl (DLe.refl _) (.cons rfl (DLe.refl _) (.cons rfl (DLe.refl _) (.cons rfl (DLe.succ _ _) .nil)))) (.cons rfl (.refl _) (.cons rfl (.refl _) (.cons rfl (.refl _) .nil))) rfl rfl rfl)
   ·rintro k4 hk4 hx4
    refine a_seq (ar (.cons (o_int rfl rfl rfl)<|.nil _) ?_)
    refine a_seq ?_
    refine a_cond _ rfl (fun c=>absurd (of_decide_eq_true c) (Int.not_lt.2 hk4)) (fun _=>?_)
    refine a_exit ?_
    exact ⟨a5,hK6,(Imp.sh (fun i=>bif Nat.beq i 10002 then 10003 else i) rfl rfl rfl rfl rfl rfl)⟩
  ·rintro a3 hM
   replace hM : ring_Ring_Records_a_K2 a3 = some r:=hM
   unfold ring_Ring_Records_a_K2 at hM
   refine a_seq (ar (.cons (o_move rfl)<|.cons (o_assign rfl)<|.nil _) ?_)
   obtain rfl:=Option.some.inj hM
   refine a_imp (σ' := ⟨[(2,.row 50000)],[(50000,some (.row 64 29 (List.map RRec.dv a3))),(100000,some (.blk 177 [.int .i64 o0.gcapacity,.int .i64 o0.gused,.row 100001,.bool o0.gbegun,.int .i64 o0.gcomponent,.int .u64 o0.gfirst,.int .u64 o0.gnext])),(100001,some (.sow 64 29 (List.map RRec.dv o0.glist)))],[50000,100000,100001]⟩) (Imp.sh (fun i=>bif Nat.beq i 50000 then 10002 else i) rfl rfl rfl rfl rfl rfl) ?_
   exact a_ret (a_post (.r1 (.tmp rfl)) (DLe.refl _) (PostOk.spec (.cons rfl (.cons rfl (.cons rfl .nil)))))
def recorder_newest_K1 (a4 : Int) (a5 : Int) (a6 : List RRec) (a7 : Bool) (a8 : Int) (a9 : Int) (a10 : Int) : Option ((List RRec) × Int) :=
 (ring_Ring_Records_a (ring_Ring.mk a4 a5 a6 a7 a8 a9 a10)).bind fun v12=>
 some (v12,0)
def recorder_newest_L2 (x0 : List RRec) (k13 : Nat) (a14 : Int) (a15 : Int) (a16 : List RRec) (a17 : Bool) (a18 : Int) (a19 : Int) (a20 : Int) : Option (Ctl (Int × Int × (List RRec) × Bool × Int × Int × Int) ((List RRec) × Int)) :=
 (idx x0 (k13 : Int)).bind fun v25=>
 (ring_Ring_Put_a1 v25 (ring_Ring.mk a14 a15 a16 a17 a18 a19 a20)).bind fun v27=>
 if (v27.2.1 != 0) = true then
  some (.done (([] : List RRec),v27.2.1))
 else
  some (.next (v27.2.2.gcapacity,v27.2.2.gused,v27.2.2.glist,v27.2.2.gbegun,v27.2.2.gcomponent,v27.2.2.gfirst,v27.2.2.gnext))
def recorder_newest (x0 : List RRec) (x1 : Int) : Option ((List RRec) × Int) :=
 (ring_New x1).bind fun v2=>
 match v2 with
 | .inl v2_0=>
  (forM' (E:=(List RRec) × Int) 9223372036854775807 (List.length x0 : Int) (fun k13 s=>recorder_newest_L2 x0 k13 s.1 s.2.1 s.2.2.1 s.2.2.2.1 s.2.2.2.2.1 s.2.2.2.2.2.1 s.2.2.2.2.2.2) (v2_0.gcapacity,v2_0.gused,v2_0.glist,v2_0.gbegun,v2_0.gcomponent,v2_0.gfirst,v2_0.gnext)).bind fun
   | .next s=>recorder_newest_K1 s.1 s.2.1 s.2.2.1 s.2.2.2.1 s.2.2.2.2.1 s.2.2.2.2.2.1 s.2.2.2.2.2.2
   | .done r=>some r
 | .inr v2_1=>
  some (([] : List RRec),1)
theorem recorder_newest_c {x0 : List RRec} {x1 : Int} {r : (List RRec) × Int} (hM : recorder_newest x0 x1 = some r) : PCall Tryz.prog 39 [.sl 29 (List.map RRec.dv x0),.int .i64 x1] (.tup [.sl 29 (List.map RRec.dv r.1),.int .i64 r.2]):=by
 unfold recorder_newest at hM
 refine PCall.body Tryz.func39 Tryz.ntmps39 rfl rfl rfl rfl ?_
 refine a_seq (ar (.cons (o_assign rfl)<|.cons (o_assign rfl)<|.nil _) ?_)
 refine a_seq ?_
 obtain ⟨v2,h1,hM⟩ := of_bind hM
 rcases v2 with v2_0 | v2_1
 ·refine ar (.cons (o_move rfl)<|.cons (o_callN (fun i=>bif Nat.beq i 50001 then 10002 else bif Nat.beq i 50000 then 10001 else i) 2 (ring_New_c0 h1) rfl (DLeL.refl _) .nil rfl .nil)<|.cons (o_move rfl)<|.cons (o_extract rfl rfl)<|.cons (o_extract rfl rfl)<|.cons (o_assign rfl)<|.cons (o_assign rfl)<|.nil _) ?_
  refine a_seq (a_seq (ar (.cons (o_move rfl)<|.cons (o_int rfl rfl rfl)<|.nil _) ?_))
  refine a_cond _ rfl (fun c=>by cases c) (fun _=>?_)
  refine a_skip ?_
  refine a_cut (α:=Int × Int × (List RRec) × Bool × Int × Int × Int) (fun s=>⟨[(6,.ref 10001 0)],[(10001,some (.blk 177 [.int .i64 s.1,.int .i64 s.2.1,.row 10003,.bool s.2.2.2.1,.int .i64 s.2.2.2.2.1,.int .u64 s.2.2.2.2.2.1,.int .u64 s.2.2.2.2.2.2])),(10003,some (.sow 64 29 (List.map RRec.dv s.2.2.1)))],[10001,10003]⟩) (fun s=>recorder_newest_K1 s.1 s.2.1 s.2.2.1 s.2.2.2.1 s.2.2.2.2.1 s.2.2.2.2.2.1 s.2.2.2.2.2.2 = some r) ?_ ?_
  ·refine a_seq (ar (.cons (o_move rfl)<|.cons (t_len rfl)<|.cons (o_move rfl)<|.nil _) ?_)
   obtain ⟨t21,hL21,hK21⟩ := of_bind hM
   refine a_block ?_
   refine a_for (fun k13 (s : Int × Int × (List RRec) × Bool × Int × Int × Int)=>⟨[(6,.ref 10001 0),(20,.sl 29 (List.map RRec.dv x0)),(21,.int .i64 (List.length x0 : Int)),(22,.int .i64 (k13 : Int))],[(10001,some (.blk 177 [.int .i64 s.1,.int .i64 s.2.1,.row 10004,.bool s.2.2.2.1,.int .i64 s.2.2.2.2.1,.int .u64 s.2.2.2.2.2.1,.int .u64 s.2.2.2.2.2.2])),(10004,some (.sow 64 29 (List.map RRec.dv s.2.2.1)))],[10001,10004]⟩) _ hL21 (Imp.of (fun i=>bif Nat.beq i 10004 then 10002 else i) (.cons rfl (DLe.refl _) (.cons rfl (DLe.refl _) (.cons rfl (DLe.refl _) (.cons rfl (DLe.refl _) .nil)))) (.cons rfl (.refl _) (.cons rfl .sow .nil)) rfl rfl rfl) ?_ ?_
   ·rintro k13 ⟨a14,a15,a16,a17,a18,a19,a20⟩ t22 hk13 hx13 hM hE21
    replace hM : recorder_newest_L2 x0 k13 a14 a15 a16 a17 a18 a19 a20 = some t22:=hM
    unfold recorder_newest_L2 at hM
    refine a_seq (ar (.cons (o_int rfl rfl rfl)<|.nil _) ?_)
    refine a_seq ?_
    refine a_cond _ rfl (fun _=>?_) (fun c=>absurd hk13 (of_decide_eq_false c))
    refine a_skip (a_seq (a_block (a_seq ?_)))
    obtain ⟨v25,h24,hM⟩ := of_bind hM
    refine ar (.cons (t_index h24 rfl rfl rfl)<|.cons (o_load_er rfl rfl rfl)<|.cons (o_alloc rfl)<|.cons (o_store rfl rfl rfl rfl rfl rfl rfl)<|.nil _) ?_
    refine a_seq ?_
    obtain ⟨v27,h26,hM⟩ := of_bind hM
    refine ar (.cons (o_move rfl)<|.cons (o_load_r rfl rfl rfl rfl)<|.cons (o_callN (fun i=>bif Nat.beq i 50000 then 10005 else bif Nat.beq i 100000 then 10001 else bif Nat.beq i 100001 then 10004 else i) 3 (ring_Ring_Put_a1_c h26) rfl (DLeL.refl _) (.cons rfl (.cons rfl .nil)) rfl .nil)<|.cons (o_move rfl)<|.cons (o_extract rfl rfl)<|.cons (o_extract rfl rfl)<|.cons (o_assign rfl)<|.cons (o_assign rfl)<|.nil _) ?_
    refine a_seq (ar (.cons (o_move rfl)<|.cons (o_int rfl rfl rfl)<|.nil _) ?_)
    refine a_cond _ rfl (fun h28=>?_) (fun h28=>?_)
    ·replace hM:=(of_if hM).1 h28
     refine a_seq (ar (.cons (o_move rfl)<|.cons (o_assign rfl)<|.cons (o_assign rfl)<|.nil _) ?_)
     obtain rfl:=Option.some.inj hM
     obtain rfl:=hE21 _ rfl
     obtain rfl:=Option.some.inj hK21
     exact a_ret (a_post (.r2 (.tmp rfl) (.tmp rfl)) (DLe.tup (.cons (DLe.nils _) (.cons (DLe.refl _) .nil))) PostOk.nil.spec)
    ·replace hM:=(of_if hM).2 h28
     refine a_skip (ar (.cons (o_add rfl rfl (inR_i64 hk13 hx13))<|.cons (o_move rfl)<|.nil _) ?_)
     obtain rfl:=Option.some.inj hM
     exact ⟨(v27.2.2.gcapacity,v27.2.2.gused,v27.2.2.glist,v27.2.2.gbegun,v27.2.2.gcomponent,v27.2.2.gfirst,v27.2.2.gnext),rfl,(Imp.of (fun i=>bif Nat.beq i 10004 then 10005 else i) (.cons rfl (DLe.refl _) (.cons rfl (DLe.refl _) (.cons rfl (DLe.refl _) (.cons rfl (DLe.succ _ _) .nil)))) (.cons rfl (.refl _) (.cons rfl (.refl _) .nil)) rfl rfl rfl)⟩
   ·rintro k13 ⟨a14,a15,a16,a17,a18,a19,a20⟩ hk13 hx13 rfl
    refine a_seq (ar (.cons (o_int rfl rfl rfl)<|.nil _) ?_)
    refine a_seq ?_
    refine a_cond _ rfl (fun c=>absurd (of_decide_eq_true c) (Int.not_lt.2 hk13)) (fun _=>?_)
    refine a_exit ?_
    exact ⟨(a14,a15,a16,a17,a18,a19,a20),hK21,(Imp.sh (fun i=>bif Nat.beq i 10003 then 10004 else i) rfl rfl rfl rfl rfl rfl)⟩
  ·rintro ⟨a4,a5,a6,a7,a8,a9,a10⟩ hM
   replace hM : recorder_newest_K1 a4 a5 a6 a7 a8 a9 a10 = some r:=hM
   unfold recorder_newest_K1 at hM
   refine a_seq ?_
   obtain ⟨v12,h11,hM⟩ := of_bind hM
   refine ar (.cons (o_move rfl)<|.cons (o_callN (fun i=>bif Nat.beq i 50000 then 37 else bif Nat.beq i 100000 then 10001 else bif Nat.beq i 100001 then 10003 else i) 1 (ring_Ring_Records_a_c h11) rfl (DLeL.refl _) (.cons rfl (.cons rfl .nil)) rfl (.cons rfl (.cons rfl .nil)))<|.cons (o_assign rfl)<|.cons (o_assign rfl)<|.nil _) ?_
   obtain rfl:=Option.some.inj hM
   refine a_imp (Imp.freeze (id:=37) rfl) ?_
   exact a_ret (a_post (.r2 (.tmp rfl) (.tmp rfl)) (DLe.refl _) PostOk.nil.spec)
 ·refine ar (.cons (o_move rfl)<|.cons (o_callN (fun i=>i) 0 (ring_New_c1 h1) rfl (DLeL.refl _) .nil rfl .nil)<|.cons (o_move rfl)<|.cons (o_extract rfl rfl)<|.cons (o_extract rfl rfl)<|.cons (o_assign rfl)<|.cons (o_assign rfl)<|.nil _) ?_
  refine a_seq (a_seq (ar (.cons (o_move rfl)<|.cons (o_int rfl rfl rfl)<|.nil _) ?_))
  refine a_cond _ rfl (fun _=>?_) (fun c=>by cases c)
  refine a_seq (ar (.cons (o_move rfl)<|.cons (o_assign rfl)<|.cons (o_assign rfl)<|.nil _) ?_)
  obtain rfl:=Option.some.inj hM
  exact a_ret (a_post (.r2 (.tmp rfl) (.tmp rfl)) (DLe.tup (.cons (DLe.nils _) (.cons (DLe.refl _) .nil))) PostOk.nil.spec)
def budget_Of_K1 : Option Int :=
 some 0
def budget_Of_K9 (x0 : AEv) (a8 : Bool) : Option Int :=
 if a8 = true then
  some 3
 else
  if (x0.gKind == 10) = true then
   if (x0.gCopy == 1) = true then
    some 1
   else
    some 3
  else
   if (x0.gKind == 7) = true then
    some 4
   else
    budget_Of_K1
def budget_Of_K6 (x0 : AEv) (a5 : Bool) : Option Int :=
 if a5 = true then
  some 2
 else
  if (x0.gKind == 8) = true then
   budget_Of_K9 x0 (x0.gKind == 8)
  else
   budget_Of_K9 x0 (x0.gKind == 9)
def budget_Of_K3 (x0 : AEv) (a2 : Bool) : Option Int :=
 if a2 = true then
  some 1
 else
  if (x0.gKind == 5) = true then
   budget_Of_K6 x0 (x0.gKind == 5)
  else
   budget_Of_K6 x0 (x0.gKind == 6)
def budget_Of (x0 : AEv) : Option Int :=
 if (x0.gKind == 1) = true then
  budget_Of_K3 x0 (x0.gKind == 1)
 else
  if (x0.gKind == 2) = true then
   budget_Of_K3 x0 (x0.gKind == 2)
  else
   if (x0.gKind == 3) = true then
    budget_Of_K3 x0 (x0.gKind == 3)
   else
    if (x0.gKind == 4) = true then
     budget_Of_K3 x0 (x0.gKind == 4)
    else
     budget_Of_K3 x0 (x0.gKind == 11)
theorem budget_Of_c {x0 : AEv} {r : Int} (hM : budget_Of x0 = some r) : PCall Tryz.prog 91 [.agg (AEv.cs x0)] (.int .u8 r):=by
 unfold budget_Of at hM
 refine PCall.body Tryz.func91 Tryz.ntmps91 rfl rfl rfl rfl ?_
 refine a_seq ?_
 refine a_region (.cons (o_box rfl rfl)<|.cons (o_assign rfl)<|.nil _) (by kernel_rfl) (by kernel_rfl) ?_
 refine a_cut (α:=Unit) (fun s=>⟨[],[],[]⟩) (fun s=>budget_Of_K1 = some r) ?_ ?_
 ·refine a_seq ?_
  refine a_region (.cons (o_fieldAddr rfl)<|.cons (o_load_s rfl rfl rfl)<|.nil _) (by kernel_rfl) (by kernel_rfl) ?_
  refine a_block ?_
  refine a_cut (α:=Bool) (fun s=>⟨[(1,.ref 1 0),(4,.int .u8 x0.gKind),(5,.bool s)],[(1,some (.blk 33 (AEv.cs x0)))],[1]⟩) (fun s=>budget_Of_K3 x0 s = some r) ?_ ?_
  ·refine a_seq ?_
   refine a_region (.cons (o_int rfl rfl rfl)<|.cons (o_assign rfl)<|.nil _) (by kernel_rfl) (by kernel_rfl) ?_
   refine a_cond _ rfl (fun h16=>?_) (fun h16=>?_)
   ·replace hM:=(of_if hM).1 h16
    refine a_skip ?_
    exact ⟨(x0.gKind == 1),hM,(Imp.of (fun i=>i) (.cons rfl (DLe.refl _) (.cons rfl (DLe.refl _) (.cons rfl (DLe.refl _) .nil))) (.cons rfl (.refl _) .nil) rfl rfl rfl)⟩
   ·replace hM:=(of_if hM).2 h16
    refine a_seq ?_
    refine a_region (.cons (o_int rfl rfl rfl)<|.cons (o_assign rfl)<|.nil _) (by kernel_rfl) (by kernel_rfl) ?_
    refine a_cond _ rfl (fun h17=>?_) (fun h17=>?_)
    ·replace hM:=(of_if hM).1 h17
     refine a_skip ?_
     exact ⟨(x0.gKind == 2),hM,(Imp.of (fun i=>i) (.cons rfl (DLe.refl _) (.cons rfl (DLe.refl _) (.cons rfl (DLe.refl _) .nil))) (.cons rfl (.refl _) .nil) rfl rfl rfl)⟩
    ·replace hM:=(of_if hM).2 h17
     refine a_seq ?_
     refine a_region (.cons (o_int rfl rfl rfl)<|.cons (o_assign rfl)<|.nil _) (by kernel_rfl) (by kernel_rfl) ?_
     refine a_cond _ rfl (fun h18=>?_) (fun h18=>?_)
     ·replace hM:=(of_if hM).1 h18
      refine a_skip ?_
      exact ⟨(x0.gKind == 3),hM,(Imp.of (fun i=>i) (.cons rfl (DLe.refl _) (.cons rfl (DLe.refl _) (.cons rfl (DLe.refl _) .nil))) (.cons rfl (.refl _) .nil) rfl rfl rfl)⟩
     ·replace hM:=(of_if hM).2 h18
      refine a_seq ?_
      refine a_region (.cons (o_int rfl rfl rfl)<|.cons (o_assign rfl)<|.nil _) (by kernel_rfl) (by kernel_rfl) ?_
      refine a_cond _ rfl (fun h19=>?_) (fun h19=>?_)
      ·replace hM:=(of_if hM).1 h19
       refine a_skip ?_
       exact ⟨(x0.gKind == 4),hM,(Imp.of (fun i=>i) (.cons rfl (DLe.refl _) (.cons rfl (DLe.refl _) (.cons rfl (DLe.refl _) .nil))) (.cons rfl (.refl _) .nil) rfl rfl rfl)⟩
      ·replace hM:=(of_if hM).2 h19
       refine a_region (.cons (o_int rfl rfl rfl)<|.cons (o_assign rfl)<|.nil _) (by kernel_rfl) (by kernel_rfl) ?_
       exact ⟨(x0.gKind == 11),hM,(Imp.of (fun i=>i) (.cons rfl (DLe.refl _) (.cons rfl (DLe.refl _) (.cons rfl (DLe.refl _) .nil))) (.cons rfl (.refl _) .nil) rfl rfl rfl)⟩
  ·rintro a2 hM
   replace hM : budget_Of_K3 x0 a2 = some r:=hM
   unfold budget_Of_K3 at hM
   refine a_cond _ rfl (fun h4=>?_) (fun h4=>?_)
   ·replace hM:=(of_if hM).1 h4
    refine a_seq ?_
    refine a_region (.cons (o_assign rfl)<|.nil _) (by kernel_rfl) (by kernel_rfl) ?_
    obtain rfl:=Option.some.inj hM
    exact a_ret (a_post (.r1 (.tmp rfl)) (DLe.refl _) PostOk.nil.spec)
   ·replace hM:=(of_if hM).2 h4
    refine a_cut (α:=Bool) (fun s=>⟨[(1,.ref 1 0),(4,.int .u8 x0.gKind),(11,.bool s)],[(1,some (.blk 33 (AEv.cs x0)))],[1]⟩) (fun s=>budget_Of_K6 x0 s = some r) ?_ ?_
    ·refine a_seq ?_
     refine a_region (.cons (o_int rfl rfl rfl)<|.cons (o_assign rfl)<|.nil _) (by kernel_rfl) (by kernel_rfl) ?_
     refine a_cond _ rfl (fun h15=>?_) (fun h15=>?_)
     ·replace hM:=(of_if hM).1 h15
      refine a_skip ?_
      exact ⟨(x0.gKind == 5),hM,(Imp.of (fun i=>i) (.cons rfl (DLe.refl _) (.cons rfl (DLe.refl _) (.cons rfl (DLe.refl _) .nil))) (.cons rfl (.refl _) .nil) rfl rfl rfl)⟩
     ·replace hM:=(of_if hM).2 h15
      refine a_region (.cons (o_int rfl rfl rfl)<|.cons (o_assign rfl)<|.nil _) (by kernel_rfl) (by kernel_rfl) ?_
      exact ⟨(x0.gKind == 6),hM,(Imp.of (fun i=>i) (.cons rfl (DLe.refl _) (.cons rfl (DLe.refl _) (.cons rfl (DLe.refl _) .nil))) (.cons rfl (.refl _) .nil) rfl rfl rfl)⟩
    ·rintro a5 hM
     replace hM : budget_Of_K6 x0 a5 = some r:=hM
     unfold budget_Of_K6 at hM
     refine a_cond _ rfl (fun h7=>?_) (fun h7=>?_)
     ·replace hM:=(of_if hM).1 h7
      refine a_seq ?_
      refine a_region (.cons (o_assign rfl)<|.nil _) (by kernel_rfl) (by kernel_rfl) ?_
      obtain rfl:=Option.some.inj hM
      exact a_ret (a_post (.r1 (.tmp rfl)) (DLe.refl _) PostOk.nil.spec)
     ·replace hM:=(of_if hM).2 h7
      refine a_cut (α:=Bool) (fun s=>⟨[(1,.ref 1 0),(4,.int .u8 x0.gKind),(14,.bool s)],[(1,some (.blk 33 (AEv.cs x0)))],[1]⟩) (fun s=>budget_Of_K9 x0 s = some r) ?_ ?_
      ·refine a_seq ?_
       refine a_region (.cons (o_int rfl rfl rfl)<|.cons (o_assign rfl)<|.nil _) (by kernel_rfl) (by kernel_rfl) ?_
       refine a_cond _ rfl (fun h14=>?_) (fun h14=>?_)
       ·replace hM:=(of_if hM).1 h14
        refine a_skip ?_
        exact ⟨(x0.gKind == 8),hM,(Imp.of (fun i=>i) (.cons rfl (DLe.refl _) (.cons rfl (DLe.refl _) (.cons rfl (DLe.refl _) .nil))) (.cons rfl (.refl _) .nil) rfl rfl rfl)⟩
       ·replace hM:=(of_if hM).2 h14
        refine a_region (.cons (o_int rfl rfl rfl)<|.cons (o_assign rfl)<|.nil _) (by kernel_rfl) (by kernel_rfl) ?_
        exact ⟨(x0.gKind == 9),hM,(Imp.of (fun i=>i) (.cons rfl (DLe.refl _) (.cons rfl (DLe.refl _) (.cons rfl (DLe.refl _) .nil))) (.cons rfl (.refl _) .nil) rfl rfl rfl)⟩
      ·rintro a8 hM
       replace hM : budget_Of_K9 x0 a8 = some r:=hM
       unfold budget_Of_K9 at hM
       refine a_cond _ rfl (fun h10=>?_) (fun h10=>?_)
       ·replace hM:=(of_if hM).1 h10
        refine a_seq ?_
        refine a_region (.cons (o_assign rfl)<|.nil _) (by kernel_rfl) (by kernel_rfl) ?_
        obtain rfl:=Option.some.inj hM
        exact a_ret (a_post (.r1 (.tmp rfl)) (DLe.refl _) PostOk.nil.spec)
       ·replace hM:=(of_if hM).2 h10
        refine a_seq ?_
        refine a_region (.cons (o_int rfl rfl rfl)<|.cons (o_assign rfl)<|.nil _) (by kernel_rfl) (by kernel_rfl) ?_
        refine a_cond _ rfl (fun h11=>?_) (fun h11=>?_)
        ·replace hM:=(of_if hM).1 h11
         refine a_seq ?_
         refine a_seq ?_
         refine a_region (.cons (o_fieldAddr rfl)<|.cons (o_load_s rfl rfl rfl)<|.cons (o_int rfl rfl rfl)<|.nil _) (by kernel_rfl) (by kernel_rfl) ?_
         refine a_cond _ rfl (fun h12=>?_) (fun h12=>?_)
         ·replace hM:=(of_if hM).1 h12
          refine a_seq ?_
          refine a_region (.cons (o_assign rfl)<|.nil _) (by kernel_rfl) (by kernel_rfl) ?_
          obtain rfl:=Option.some.inj hM
          exact a_ret (a_post (.r1 (.tmp rfl)) (DLe.refl _) PostOk.nil.spec)
         ·replace hM:=(of_if hM).2 h12
          refine a_skip ?_
          refine a_seq ?_
          refine a_region (.cons (o_assign rfl)<|.nil _) (by kernel_rfl) (by kernel_rfl) ?_
          obtain rfl:=Option.some.inj hM
          exact a_ret (a_post (.r1 (.tmp rfl)) (DLe.refl _) PostOk.nil.spec)
        ·replace hM:=(of_if hM).2 h11
         refine a_seq ?_
         refine a_region (.cons (o_int rfl rfl rfl)<|.cons (o_assign rfl)<|.nil _) (by kernel_rfl) (by kernel_rfl) ?_
         refine a_cond _ rfl (fun h13=>?_) (fun h13=>?_)
         ·replace hM:=(of_if hM).1 h13
          refine a_seq ?_
          refine a_region (.cons (o_assign rfl)<|.nil _) (by kernel_rfl) (by kernel_rfl) ?_
          obtain rfl:=Option.some.inj hM
          exact a_ret (a_post (.r1 (.tmp rfl)) (DLe.refl _) PostOk.nil.spec)
         ·replace hM:=(of_if hM).2 h13
          refine a_skip ?_
          exact ⟨(),hM,(Imp.of (fun i=>i) .nil .nil rfl rfl rfl)⟩
 ·rintro _ hM
  replace hM : budget_Of_K1 = some r:=hM
  unfold budget_Of_K1 at hM
  refine a_seq ?_
  refine a_region (.cons (o_assign rfl)<|.nil _) (by kernel_rfl) (by kernel_rfl) ?_
  obtain rfl:=Option.some.inj hM
  exact a_ret (a_post (.r1 (.tmp rfl)) (DLe.refl _) PostOk.nil.spec)
def math_bits_Mul64 (x0 : Int) (x1 : Int) : Option (Int × Int) :=
 some ((IntKind.wrap .u64 ((IntKind.wrap .u64 ((IntKind.wrap .u64 ((Int.fdiv x0 (2 ^ min (Int.toNat 32) (IntKind.bits .u64))) * (Int.fdiv x1 (2 ^ min (Int.toNat 32) (IntKind.bits .u64))))) + (Int.fdiv (IntKind.wrap .u64 ((IntKind.wrap .u64 ((Int.fdiv x0 (2 ^ min (Int.toNat 32) (IntKind.bits .u64))) * (bitI .and .u64 x1 4294967295))) + (Int.fdiv (IntKind.wrap .u64 ((bitI .and .u64 x0 4294967295) * (bitI .and .u64 x1 4294967295))) (2 ^ min (Int.toNat 32) (IntKind.bits .u64))))) (2 ^ min (Int.toNat 32) (IntKind.bits .u64))))) + (Int.fdiv (IntKind.wrap .u64 ((bitI .and .u64 (IntKind.wrap .u64 ((IntKind.wrap .u64 ((Int.fdiv x0 (2 ^ min (Int.toNat 32) (IntKind.bits .u64))) * (bitI .and .u64 x1 4294967295))) + (Int.fdiv (IntKind.wrap .u64 ((bitI .and .u64 x0 4294967295) * (bitI .and .u64 x1 4294967295))) (2 ^ min (Int.toNat 32) (IntKind.bits .u64))))) 4294967295) + (IntKind.wrap .u64 ((bitI .and .u64 x0 4294967295) * (Int.fdiv x1 (2 ^ min (Int.toNat 32) (IntKind.bits .u64))))))) (2 ^ min (Int.toNat 32) (IntKind.bits .u64))))),(IntKind.wrap .u64 (x0 * x1)))
theorem math_bits_Mul64_c {x0 : Int} {x1 : Int} {r : Int × Int} (hM : math_bits_Mul64 x0 x1 = some r) : PCall Tryz.prog 147 [.int .u64 x0,.int .u64 x1] (.tup [.int .u64 r.1,.int .u64 r.2]):=by
 unfold math_bits_Mul64 at hM
 refine PCall.body Tryz.func147 Tryz.ntmps147 rfl rfl rfl rfl ?_
 refine a_seq ?_
 refine a_region (.cons (o_assign rfl)<|.cons (o_assign rfl)<|.nil _) (by kernel_rfl) (by kernel_rfl) ?_
 refine a_seq ?_
 refine a_region (.cons (o_move rfl)<|.cons (o_int rfl rfl rfl)<|.cons (o_assign rfl)<|.nil _) (by kernel_rfl) (by kernel_rfl) ?_
 refine a_seq ?_
 refine a_region (.cons (o_move rfl)<|.cons (o_shr rfl rfl (by decide))<|.cons (o_assign rfl)<|.nil _) (by kernel_rfl) (by kernel_rfl) ?_
 refine a_seq ?_
 refine a_region (.cons (o_move rfl)<|.cons (o_int rfl rfl rfl)<|.cons (o_assign rfl)<|.nil _) (by kernel_rfl) (by kernel_rfl) ?_
 refine a_seq ?_
 refine a_region (.cons (o_move rfl)<|.cons (o_shr rfl rfl (by decide))<|.cons (o_assign rfl)<|.nil _) (by kernel_rfl) (by kernel_rfl) ?_
 refine a_seq ?_
 refine a_region (.cons (o_move rfl)<|.cons (o_move rfl)<|.cons (o_int rfl rfl rfl)<|.cons (o_assign rfl)<|.nil _) (by kernel_rfl) (by kernel_rfl) ?_
 refine a_seq ?_
 refine a_region (.cons (o_move rfl)<|.cons (o_move rfl)<|.cons (o_int rfl rfl rfl)<|.cons (o_move rfl)<|.cons (o_shr rfl rfl (by decide))<|.cons (o_int rfl rfl rfl)<|.cons (o_assign rfl)<|.nil _) (by kernel_rfl) (by kernel_rfl) ?_
 refine a_seq ?_
 refine a_region (.cons (o_move rfl)<|.cons (o_int rfl rfl rfl)<|.cons (o_assign rfl)<|.nil _) (by kernel_rfl) (by kernel_rfl) ?_
 refine a_seq ?_
 refine a_region (.cons (o_move rfl)<|.cons (o_shr rfl rfl (by decide))<|.cons (o_assign rfl)<|.nil _) (by kernel_rfl) (by kernel_rfl) ?_
 refine a_seq ?_
 refine a_region (.cons (o_move rfl)<|.cons (o_move rfl)<|.cons (o_move rfl)<|.cons (o_int rfl rfl rfl)<|.cons (o_int rfl rfl rfl)<|.cons (o_assign rfl)<|.nil _) (by kernel_rfl) (by kernel_rfl) ?_
 refine a_seq ?_
 refine a_region (.cons (o_move rfl)<|.cons (o_move rfl)<|.cons (o_int rfl rfl rfl)<|.cons (o_move rfl)<|.cons (o_int rfl rfl rfl)<|.cons (o_move rfl)<|.cons (o_shr rfl rfl (by decide))<|.cons (o_int rfl rfl rfl)<|.cons (o_assign rfl)<|.nil _) (by kernel_rfl) (by kernel_rfl) ?_
 refine a_seq ?_
 refine a_region (.cons (o_move rfl)<|.cons (o_move rfl)<|.cons (o_int rfl rfl rfl)<|.cons (o_assign rfl)<|.nil _) (by kernel_rfl) (by kernel_rfl) ?_
 obtain rfl:=Option.some.inj hM
 exact a_ret (a_post (.r2 (.tmp rfl) (.tmp rfl)) (DLe.refl _) PostOk.nil.spec)
def math_bits_Div64_K2 (x0 : Int) (x1 : Int) (x2 : Int) : Option (Int × Int) :=
 if (x0 == 0) = true then
  chk (dvOk .u64 x1 x2)<|
  chk ((0 : Int)≤x1∧(0 : Int) < x2)<|
  some ((x1 / x2),(x1 % x2))
 else
  none
def math_bits_Div64_K1 (x0 : Int) (x1 : Int) (x2 : Int) : Option (Int × Int) :=
 if (decide (x2≤x0)) = true then
  none
 else
  math_bits_Div64_K2 x0 x1 x2
def math_bits_Div64 (x0 : Int) (x1 : Int) (x2 : Int) : Option (Int × Int) :=
 if (x2 == 0) = true then
  none
 else
  math_bits_Div64_K1 x0 x1 x2
theorem math_bits_Div64_c {x0 : Int} {x1 : Int} {x2 : Int} {r : Int × Int} (hM : math_bits_Div64 x0 x1 x2 = some r) : PCall Tryz.prog 148 [.int .u64 x0,.int .u64 x1,.int .u64 x2] (.tup [.int .u64 r.1,.int .u64 r.2]):=by
 unfold math_bits_Div64 at hM
 refine PCall.body Tryz.func148 Tryz.ntmps148 rfl rfl rfl rfl ?_
 refine a_seq ?_
 refine a_region (.cons (o_assign rfl)<|.cons (o_assign rfl)<|.nil _) (by kernel_rfl) (by kernel_rfl) ?_
 refine a_cut (α:=Unit) (fun s=>⟨[(0,.int .u64 x0),(1,.int .u64 x1),(2,.int .u64 x2)],[],[]⟩) (fun s=>math_bits_Div64_K1 x0 x1 x2 = some r) ?_ ?_
 ·refine a_seq ?_
  refine a_region (.cons (o_move rfl)<|.cons (o_int rfl rfl rfl)<|.nil _) (by kernel_rfl) (by kernel_rfl) ?_
  refine a_cond _ rfl (fun h7=>?_) (fun h7=>?_)
  ·replace hM:=(of_if hM).1 h7
   cases hM
  ·replace hM:=(of_if hM).2 h7
   refine a_skip ?_
   exact ⟨(),hM,(Imp.of (fun i=>i) (.cons rfl (DLe.refl _) (.cons rfl (DLe.refl _) (.cons rfl (DLe.refl _) .nil))) .nil rfl rfl rfl)⟩
 ·rintro _ hM
  replace hM : math_bits_Div64_K1 x0 x1 x2 = some r:=hM
  unfold math_bits_Div64_K1 at hM
  refine a_cut (α:=Unit) (fun s=>⟨[(0,.int .u64 x0),(1,.int .u64 x1),(2,.int .u64 x2)],[],[]⟩) (fun s=>math_bits_Div64_K2 x0 x1 x2 = some r) ?_ ?_
  ·refine a_seq ?_
   refine a_region (.cons (o_move rfl)<|.cons (o_move rfl)<|.cons (o_int rfl rfl rfl)<|.nil _) (by kernel_rfl) (by kernel_rfl) ?_
   refine a_cond _ rfl (fun h6=>?_) (fun h6=>?_)
   ·replace hM:=(of_if hM).1 h6
    cases hM
   ·replace hM:=(of_if hM).2 h6
    refine a_skip ?_
    exact ⟨(),hM,(Imp.of (fun i=>i) (.cons rfl (DLe.refl _) (.cons rfl (DLe.refl _) (.cons rfl (DLe.refl _) .nil))) .nil rfl rfl rfl)⟩
  ·rintro _ hM
   replace hM : math_bits_Div64_K2 x0 x1 x2 = some r:=hM
   unfold math_bits_Div64_K2 at hM
   refine a_seq ?_
   refine a_seq ?_
   refine a_region (.cons (o_move rfl)<|.cons (o_int rfl rfl rfl)<|.nil _) (by kernel_rfl) (by kernel_rfl) ?_
   refine a_cond _ rfl (fun h3=>?_) (fun h3=>?_)
   ·replace hM:=(of_if hM).1 h3
    refine a_seq ?_
    obtain ⟨h4,hM⟩ := of_chk hM
    obtain ⟨h5,hM⟩ := of_chk hM
    refine a_draw mixed (.cons (o_move rfl)<|.cons (o_move rfl)<|.cons (o_quo rfl rfl h4)<|.cons (o_move rfl)<|.cons (o_move rfl)<|.cons (o_rem rfl rfl h5)<|.cons (o_assign rfl)<|.cons (o_assign rfl)<|.nil _) (by kernel_rfl) (by kernel_rfl) (by kernel_rfl) ?_
    obtain rfl:=Option.some.inj hM
    exact a_ret (a_post (.r2 (.tmp rfl) (.tmp rfl)) (DLe.refl _) PostOk.nil.spec)
   ·replace hM:=(of_if hM).2 h3
    refine a_skip ?_
    refine a_seq ?_
    cases hM
def budget_share (x0 : Int) (x1 : Int) (x2 : Int) : Option Int :=
 (math_bits_Mul64 (IntKind.wrap .u64 x0) (IntKind.wrap .u64 x1)).bind fun v2=>
 (math_bits_Div64 v2.1 v2.2 (IntKind.wrap .u64 x2)).bind fun v4=>
 some (IntKind.wrap .i64 v4.1)
theorem budget_share_c {x0 : Int} {x1 : Int} {x2 : Int} {r : Int} (hM : budget_share x0 x1 x2 = some r) : PCall Tryz.prog 131 [.int .i64 x0,.int .i64 x1,.int .i64 x2] (.int .i64 r):=by
 unfold budget_share at hM
 refine PCall.body Tryz.func131 Tryz.ntmps131 rfl rfl rfl rfl ?_
 refine a_seq ?_
 refine a_region (.cons (o_assign rfl)<|.nil _) (by kernel_rfl) (by kernel_rfl) ?_
 refine a_seq ?_
 obtain ⟨v2,h1,hM⟩ := of_bind hM
 refine a_region (.cons (o_move rfl)<|.cons (o_conv_w rfl)<|.cons (o_move rfl)<|.cons (o_conv_w rfl)<|.cons (o_call (math_bits_Mul64_c h1) rfl (DLeL.refl _) rfl)<|.cons (o_move rfl)<|.cons (o_extract rfl rfl)<|.cons (o_extract rfl rfl)<|.cons (o_assign rfl)<|.cons (o_assign rfl)<|.nil _) (by kernel_rfl) (by kernel_rfl) ?_
 refine a_seq ?_
 obtain ⟨v4,h3,hM⟩ := of_bind hM
 refine a_region (.cons (o_move rfl)<|.cons (o_move rfl)<|.cons (o_move rfl)<|.cons (o_conv_w rfl)<|.cons (o_call (math_bits_Div64_c h3) rfl (DLeL.refl _) rfl)<|.cons (o_move rfl)<|.cons (o_extract rfl rfl)<|.cons (o_extract rfl rfl)<|.cons (o_assign rfl)<|.cons (o_assign rfl)<|.nil _) (by kernel_rfl) (by kernel_rfl) ?_
 refine a_seq ?_
 refine a_region (.cons (o_move rfl)<|.cons (o_conv_w rfl)<|.cons (o_assign rfl)<|.nil _) (by kernel_rfl) (by kernel_rfl) ?_
 obtain rfl:=Option.some.inj hM
 exact a_ret (a_post (.r1 (.tmp rfl)) (DLe.refl _) PostOk.nil.spec)
def budget_Spread_K4 (a3 : List Int) : Option (List Int) :=
 some a3
def budget_Spread_L7 (x0 : Int) (x1 : Int) (k5 : Nat) (a6 : List Int) : Option (List Int) :=
 (budget_share (k5 : Int) x0 (if x1 < x0 then x1 else x0)).bind fun v11=>
 chk (apOk 8 (List.length a6 + List.length [v11]))<|
 some (a6++[v11])
def budget_Spread (x0 : Int) (x1 : Int) : Option (List Int) :=
 if ((decide (x0 < 1)) || (decide (x1 < 1))) = true then
  some ([] : List Int)
 else
  chk (mkOk 8 0 (if x1 < x0 then x1 else x0))<|
  (foldM' 9223372036854775807 (if x1 < x0 then x1 else x0) (fun k5 s=>budget_Spread_L7 x0 x1 k5 s) ([] : List Int)).bind fun s=>budget_Spread_K4 s
theorem budget_Spread_c {x0 : Int} {x1 : Int} {r : (List Int)} (hM : budget_Spread x0 x1 = some r) : PCall Tryz.prog 93 [.int .i64 x0,.int .i64 x1] (.sl 1 (List.map (DV.int .i64) r)):=by
 unfold budget_Spread at hM
 refine PCall.body Tryz.func93 Tryz.ntmps93 rfl rfl rfl rfl ?_
 refine a_seq ?_
 refine a_region (.cons (o_assign rfl)<|.nil _) (by kernel_rfl) (by kernel_rfl) ?_
 refine a_seq ?_
 refine a_seq ?_
 refine a_region (.cons (o_move rfl)<|.cons (o_int rfl rfl rfl)<|.cons (o_move rfl)<|.cons (o_guardG .bF rfl rfl (fun hb=>(.keep .nil)) (fun hb=>o_move rfl))<|.cons (o_guardG .bF rfl rfl (fun hb=>(.strip rfl hb .nil)) (fun hb=>o_int rfl rfl rfl))<|.cons (o_or rfl rfl)<|.nil _) (by kernel_rfl) (by kernel_rfl) ?_
 refine a_cond _ rfl (fun h1=>?_) (fun h1=>?_)
 ·replace hM:=(of_if hM).1 h1
  refine a_seq ?_
  refine a_region (.cons (o_assign rfl)<|.nil _) (by kernel_rfl) (by kernel_rfl) ?_
  obtain rfl:=Option.some.inj hM
  exact a_ret (a_post (.r1 (.tmp rfl)) (DLe.nils _) PostOk.nil.spec)
 ·replace hM:=(of_if hM).2 h1
  refine a_skip ?_
  refine a_seq ?_
  refine a_region (.cons (o_move rfl)<|.cons (o_move rfl)<|.cons (o_min rfl rfl)<|.cons (o_assign rfl)<|.nil _) (by kernel_rfl) (by kernel_rfl) ?_
  refine a_seq ?_
  obtain ⟨h2,hM⟩ := of_chk hM
  refine a_region (.cons (o_move rfl)<|.cons (t_make (DV.int .i64) 0 h2 rfl rfl rfl rfl)<|.cons (o_assign rfl)<|.nil _) (by kernel_rfl) (by kernel_rfl) ?_
  refine a_cut (α:=(List Int)) (fun s=>⟨[(5,.sl 1 (List.map (DV.int .i64) s))],[],[]⟩) (fun s=>budget_Spread_K4 s = some r) ?_ ?_
  ·refine a_seq ?_
   refine a_region (.cons (o_move rfl)<|.cons (o_move rfl)<|.nil _) (by kernel_rfl) (by kernel_rfl) ?_
   obtain ⟨a6,hL7,hK7⟩ := of_bind hM
   refine a_block ?_
   refine a_fold (fun k5 s=>⟨[(0,.int .i64 x0),(1,.int .i64 (if x1 < x0 then x1 else x0)),(5,.row 10001),(18,.int .i64 (if x1 < x0 then x1 else x0)),(19,.int .i64 (k5 : Int))],[(10001,some (.row 3 1 (List.map (DV.int .i64) s)))],[10001]⟩) _ hL7 (Imp.of (fun i=>bif Nat.beq i 10001 then 17 else i) (.cons rfl (DLe.refl _) (.cons rfl (DLe.refl _) (.cons rfl (DLe.refl _) (.cons rfl (DLe.refl _) (.cons rfl (DLe.refl _) .nil))))) (.cons rfl (.refl _) .nil) rfl rfl rfl) ?_ ?_
   ·rintro k5 a6 t8 hk5 hx5 hM
    replace hM : budget_Spread_L7 x0 x1 k5 a6 = some t8:=hM
    unfold budget_Spread_L7 at hM
    refine a_seq ?_
    refine a_region (.cons (o_int rfl rfl rfl)<|.nil _) (by kernel_rfl) (by kernel_rfl) ?_
    refine a_seq ?_
    refine a_cond _ rfl (fun _=>?_) (fun c=>absurd hk5 (of_decide_eq_false c))
    refine a_skip ?_
    refine a_seq ?_
    refine a_block ?_
    refine a_seq ?_
    refine a_region (.cons (o_move rfl)<|.cons (o_assign rfl)<|.nil _) (by kernel_rfl) (by kernel_rfl) ?_
    obtain ⟨v11,h10,hM⟩ := of_bind hM
    obtain ⟨h12,hM⟩ := of_chk hM
    refine a_region (.cons (o_move rfl)<|.cons (o_move rfl)<|.cons (o_move rfl)<|.cons (o_move rfl)<|.cons (o_call (budget_share_c h10) rfl (DLeL.refl _) rfl)<|.cons (t_build (DV.int .i64) ([v11] : List Int) rfl rfl rfl rfl rfl rfl rfl)<|.cons (t_append [v11] h12 rfl rfl rfl (Src.row rfl))<|.cons (o_assign rfl)<|.nil _) (by kernel_rfl) (by kernel_rfl) ?_
    refine a_region (.cons (o_add rfl rfl (inR_i64 hk5 hx5))<|.cons (o_move rfl)<|.nil _) (by kernel_rfl) (by kernel_rfl) ?_
    obtain rfl:=Option.some.inj hM
    exact (Imp.of (fun i=>bif Nat.beq i 10001 then 28 else i) (.cons rfl (DLe.refl _) (.cons rfl (DLe.refl _) (.cons rfl (DLe.refl _) (.cons rfl (DLe.refl _) (.cons rfl (DLe.succ _ _) .nil))))) (.cons rfl (.refl _) .nil) rfl rfl rfl)
   ·rintro k5 hk5 hx5
    refine a_seq ?_
    refine a_region (.cons (o_int rfl rfl rfl)<|.nil _) (by kernel_rfl) (by kernel_rfl) ?_
    refine a_seq ?_
    refine a_cond _ rfl (fun c=>absurd (of_decide_eq_true c) (Int.not_lt.2 hk5)) (fun _=>?_)
    refine a_exit ?_
    exact ⟨a6,hK7,((Imp.freeze (id:=10001) rfl).trans (Imp.of (fun i=>i) (.cons rfl (DLe.refl _) .nil) .nil rfl rfl rfl))⟩
  ·rintro a3 hM
   replace hM : budget_Spread_K4 a3 = some r:=hM
   unfold budget_Spread_K4 at hM
   refine a_seq ?_
   refine a_region (.cons (o_move rfl)<|.cons (o_assign rfl)<|.nil _) (by kernel_rfl) (by kernel_rfl) ?_
   obtain rfl:=Option.some.inj hM
   exact a_ret (a_post (.r1 (.tmp rfl)) (DLe.refl _) PostOk.nil.spec)
def budget_most_K1 : Option (Int × Int) :=
 some (0,0)
def budget_most_K6 (a2 : Int) : Option (Ctl Int ((Unit) ⊕ (Int × Int))) :=
 some (.next (IntKind.wrap .i64 (a2 - 1)))
def budget_most_K8 (x1 : Int) (a2 : Int) (a7 : Int) : Option (Ctl Int ((Unit) ⊕ (Int × Int))) :=
 if (decide (a7≤x1)) = true then
  some (.done (.inr (a2,a7)))
 else
  budget_most_K6 a2
def budget_most_L12 (x0 : List Int) (x1 : Int) (a2 : Int) (a10 : Int) (a11 : Int) : Option (Ctl (Int × Int) Int) :=
 if ((decide (a11 < a2)) && (decide (a10≤x1))) = true then
  (budget_share a11 (List.length x0 : Int) a2).bind fun v16=>
  (idx x0 v16).bind fun v18=>
  some (.next ((IntKind.wrap .i64 (a10 + v18)),(IntKind.wrap .i64 (a11 + 1))))
 else
  some (.done a10)
def budget_most_L3 (x0 : List Int) (x1 : Int) (a2 : Int) : Option (Ctl Int ((Unit) ⊕ (Int × Int))) :=
 if (decide (0 < a2)) = true then
  (whileM (E:=Int) (fun s=>budget_most_L12 x0 x1 a2 s.1 s.2) (0,0)).bind fun e=>budget_most_K8 x1 a2 e
 else
  some (.done (.inl ()))
def budget_most (x0 : List Int) (x1 : Int) : Option (Int × Int) :=
 (whileM (E:=(Unit) ⊕ (Int × Int)) (fun s=>budget_most_L3 x0 x1 s) (List.length x0 : Int)).bind fun
  | .inl e=>budget_most_K1
  | .inr r=>some r
theorem budget_most_c {x0 : List Int} {x1 : Int} {r : Int × Int} (hM : budget_most x0 x1 = some r) : PCall Tryz.prog 92 [.sl 1 (List.map (DV.int .i64) x0),.int .i64 x1] (.tup [.int .i64 r.1,.int .i64 r.2]):=by
 unfold budget_most at hM
 refine PCall.body Tryz.func92 Tryz.ntmps92 rfl rfl rfl rfl ?_
 refine a_seq ?_
 refine a_region (.cons (o_assign rfl)<|.cons (o_assign rfl)<|.nil _) (by kernel_rfl) (by kernel_rfl) ?_
 refine a_seq ?_
 refine a_region (.cons (o_move rfl)<|.cons (t_len rfl)<|.cons (o_assign rfl)<|.nil _) (by kernel_rfl) (by kernel_rfl) ?_
 refine a_cut (α:=Unit) (fun s=>⟨[],[],[]⟩) (fun s=>budget_most_K1 = some r) ?_ ?_
 ·refine a_seq ?_
  refine a_region (.cons (o_move rfl)<|.cons (o_assign rfl)<|.nil _) (by kernel_rfl) (by kernel_rfl) ?_
  obtain ⟨e3,hL3,hK3⟩ := of_bind hM
  refine a_block ?_
  refine a_while (fun s=>⟨[(0,.sl 1 (List.map (DV.int .i64) x0)),(1,.int .i64 x1),(6,.int .i64 (List.length x0 : Int)),(7,.int .i64 s)],[],[]⟩) _ hL3 (Imp.of (fun i=>i) (.cons rfl (DLe.refl _) (.cons rfl (DLe.refl _) (.cons rfl (DLe.refl _) (.cons rfl (DLe.refl _) .nil)))) .nil rfl rfl rfl) ?_
  rintro a2 t4 hM hE3
  replace hM : budget_most_L3 x0 x1 a2 = some t4:=hM
  unfold budget_most_L3 at hM
  refine a_seq ?_
  refine a_seq ?_
  refine a_region (.cons (o_move rfl)<|.cons (o_int rfl rfl rfl)<|.nil _) (by kernel_rfl) (by kernel_rfl) ?_
  refine a_cond _ rfl (fun h5=>?_) (fun h5=>?_)
  ·replace hM:=(of_if hM).1 h5
   refine a_skip ?_
   refine a_cut (α:=Unit) (fun s=>⟨[(0,.sl 1 (List.map (DV.int .i64) x0)),(1,.int .i64 x1),(6,.int .i64 (List.length x0 : Int)),(7,.int .i64 a2)],[],[]⟩) (fun s=>budget_most_K6 a2 = some t4) ?_ ?_
   ·refine a_block ?_
    refine a_seq ?_
    refine a_region (.cons (o_assign rfl)<|.nil _) (by kernel_rfl) (by kernel_rfl) ?_
    refine a_cut (α:=Int) (fun s=>⟨[(0,.sl 1 (List.map (DV.int .i64) x0)),(1,.int .i64 x1),(6,.int .i64 (List.length x0 : Int)),(7,.int .i64 a2),(8,.int .i64 s)],[],[]⟩) (fun s=>budget_most_K8 x1 a2 s = some t4) ?_ ?_
    ·refine a_seq ?_
     refine a_region (.cons (o_assign rfl)<|.nil _) (by kernel_rfl) (by kernel_rfl) ?_
     obtain ⟨e12,hL12,hK12⟩ := of_bind hM
     refine a_block ?_
     refine a_while (fun s=>⟨[(0,.sl 1 (List.map (DV.int .i64) x0)),(1,.int .i64 x1),(6,.int .i64 (List.length x0 : Int)),(7,.int .i64 a2),(8,.int .i64 s.1),(9,.int .i64 s.2)],[],[]⟩) _ hL12 (Imp.of (fun i=>i) (.cons rfl (DLe.refl _) (.cons rfl (DLe.refl _) (.cons rfl (DLe.refl _) (.cons rfl (DLe.refl _) (.cons rfl (DLe.refl _) (.cons rfl (DLe.refl _) .nil)))))) .nil rfl rfl rfl) ?_
     rintro ⟨a10,a11⟩ t13 hM hE12
     replace hM : budget_most_L12 x0 x1 a2 a10 a11 = some t13:=hM
     unfold budget_most_L12 at hM
     refine a_seq ?_
     refine a_seq ?_
     refine a_region (.cons (o_move rfl)<|.cons (o_move rfl)<|.cons (o_int rfl rfl rfl)<|.cons (o_move rfl)<|.cons (o_guardG .bT rfl rfl (fun hb=>(.keep .nil)) (fun hb=>o_move rfl))<|.cons (o_guardG .bT rfl rfl (fun hb=>(.keep .nil)) (fun hb=>o_move rfl))<|.cons (o_guardG .bT rfl rfl (fun hb=>(.strip rfl hb (.strip rfl hb .nil))) (fun hb=>o_int rfl rfl rfl))<|.cons (o_and rfl rfl)<|.nil _) (by kernel_rfl) (by kernel_rfl) ?_
     refine a_cond _ rfl (fun h14=>?_) (fun h14=>?_)
     ·replace hM:=(of_if hM).1 h14
      refine a_skip ?_
      refine a_seq ?_
      refine a_block ?_
      obtain ⟨v16,h15,hM⟩ := of_bind hM
      obtain ⟨v18,h17,hM⟩ := of_bind hM
      refine a_region (.cons (o_move rfl)<|.cons (o_move rfl)<|.cons (o_move rfl)<|.cons (o_move rfl)<|.cons (o_move rfl)<|.cons (o_call (budget_share_c h15) rfl (DLeL.refl _) rfl)<|.cons (t_index h17 rfl rfl rfl)<|.cons (o_load_es rfl rfl)<|.cons (o_int rfl rfl rfl)<|.cons (o_assign rfl)<|.nil _) (by kernel_rfl) (by kernel_rfl) ?_
      refine a_region (.cons (o_move rfl)<|.cons (o_int rfl rfl rfl)<|.cons (o_assign rfl)<|.nil _) (by kernel_rfl) (by kernel_rfl) ?_
      obtain rfl:=Option.some.inj hM
      exact ⟨((IntKind.wrap .i64 (a10 + v18)),(IntKind.wrap .i64 (a11 + 1))),rfl,(Imp.of (fun i=>i) (.cons rfl (DLe.refl _) (.cons rfl (DLe.refl _) (.cons rfl (DLe.refl _) (.cons rfl (DLe.refl _) (.cons rfl (DLe.refl _) (.cons rfl (DLe.refl _) .nil)))))) .nil rfl rfl rfl)⟩
     ·replace hM:=(of_if hM).2 h14
      refine a_exit ?_
      obtain rfl:=Option.some.inj hM
      obtain rfl:=hE12 _ rfl
      exact ⟨a10,hK12,(Imp.of (fun i=>i) (.cons rfl (DLe.refl _) (.cons rfl (DLe.refl _) (.cons rfl (DLe.refl _) (.cons rfl (DLe.refl _) (.cons rfl (DLe.refl _) .nil))))) .nil rfl rfl rfl)⟩
    ·rintro a7 hM
     replace hM : budget_most_K8 x1 a2 a7 = some t4:=hM
     unfold budget_most_K8 at hM
     refine a_seq ?_
     refine a_region (.cons (o_move rfl)<|.cons (o_move rfl)<|.cons (o_int rfl rfl rfl)<|.nil _) (by kernel_rfl) (by kernel_rfl) ?_
     refine a_cond _ rfl (fun h9=>?_) (fun h9=>?_)
     ·replace hM:=(of_if hM).1 h9
      refine a_seq ?_
      refine a_region (.cons (o_move rfl)<|.cons (o_move rfl)<|.cons (o_assign rfl)<|.cons (o_assign rfl)<|.nil _) (by kernel_rfl) (by kernel_rfl) ?_
      obtain rfl:=Option.some.inj hM
      obtain rfl:=hE3 _ rfl
      obtain rfl:=Option.some.inj hK3
      exact a_ret (a_post (.r2 (.tmp rfl) (.tmp rfl)) (DLe.refl _) PostOk.nil.spec)
     ·replace hM:=(of_if hM).2 h9
      refine a_skip ?_
      exact ⟨(),hM,(Imp.of (fun i=>i) (.cons rfl (DLe.refl _) (.cons rfl (DLe.refl _) (.cons rfl (DLe.refl _) (.cons rfl (DLe.refl _) .nil)))) .nil rfl rfl rfl)⟩
   ·rintro _ hM
    replace hM : budget_most_K6 a2 = some t4:=hM
    unfold budget_most_K6 at hM
    refine a_region (.cons (o_move rfl)<|.cons (o_int rfl rfl rfl)<|.cons (o_assign rfl)<|.nil _) (by kernel_rfl) (by kernel_rfl) ?_
    obtain rfl:=Option.some.inj hM
    exact ⟨(IntKind.wrap .i64 (a2 - 1)),rfl,(Imp.of (fun i=>i) (.cons rfl (DLe.refl _) (.cons rfl (DLe.refl _) (.cons rfl (DLe.refl _) (.cons rfl (DLe.refl _) .nil)))) .nil rfl rfl rfl)⟩
  ·replace hM:=(of_if hM).2 h5
   refine a_exit ?_
   obtain rfl:=Option.some.inj hM
   obtain rfl:=hE3 _ rfl
   exact ⟨(),hK3,(Imp.of (fun i=>i) .nil .nil rfl rfl rfl)⟩
 ·rintro _ hM
  replace hM : budget_most_K1 = some r:=hM
  unfold budget_most_K1 at hM
  refine a_seq ?_
  refine a_region (.cons (o_assign rfl)<|.cons (o_assign rfl)<|.nil _) (by kernel_rfl) (by kernel_rfl) ?_
  obtain rfl:=Option.some.inj hM
  exact a_ret (a_post (.r2 (.tmp rfl) (.tmp rfl)) (DLe.refl _) PostOk.nil.spec)
def budget_Plan_K17 (a15 : List Bool) (a16 : Int) : Option ((List Bool) × Int) :=
 some (a15,a16)
def budget_Plan_K28 (a25 : List Bool) (a26 : Int) (a27 : Int) : Option (Ctl ((List Bool) × Int × Int) ((List Bool) × Int)) :=
 some (.next (a25,a26,a27))
def budget_Plan_K35 (a8 : List Int) (a20 : Int) (a21 : Int) (v33 : Int × Int) (a34 : List Bool) : Option (Ctl ((List Bool) × Int × Int) ((List Bool) × Int)) :=
 if (decide (v33.1 < (List.length a8 : Int))) = true then
  some (.done (a34,(IntKind.wrap .i64 (a20 + v33.2))))
 else
  budget_Plan_K28 a34 (IntKind.wrap .i64 (a20 + v33.2)) (IntKind.wrap .i64 (a21 - v33.2))
def budget_Plan_L41 (a8 : List Int) (v38 : (List Int)) (k39 : Nat) (a40 : List Bool) : Option (List Bool) :=
 (idx v38 (k39 : Int)).bind fun v45=>
 (idx a8 v45).bind fun v47=>
 (idx a40 v47).bind fun v49=>
 some (List.set a40 (Int.toNat v47) true)
def budget_Plan_K54 (a7 : List Int) (a20 : Int) (a21 : Int) (v52 : Int × Int) (a53 : List Bool) : Option (Ctl ((List Bool) × Int × Int) ((List Bool) × Int)) :=
 if (decide (v52.1 < (List.length a7 : Int))) = true then
  some (.done (a53,(IntKind.wrap .i64 (a20 + v52.2))))
 else
  budget_Plan_K28 a53 (IntKind.wrap .i64 (a20 + v52.2)) (IntKind.wrap .i64 (a21 - v52.2))
def budget_Plan_L60 (a7 : List Int) (v57 : (List Int)) (k58 : Nat) (a59 : List Bool) : Option (List Bool) :=
 (idx v57 (k58 : Int)).bind fun v64=>
 (idx a7 v64).bind fun v66=>
 (idx a59 v66).bind fun v68=>
 some (List.set a59 (Int.toNat v66) true)
def budget_Plan_K73 (a6 : List Int) (a20 : Int) (a21 : Int) (v71 : Int × Int) (a72 : List Bool) : Option (Ctl ((List Bool) × Int × Int) ((List Bool) × Int)) :=
 if (decide (v71.1 < (List.length a6 : Int))) = true then
  some (.done (a72,(IntKind.wrap .i64 (a20 + v71.2))))
 else
  budget_Plan_K28 a72 (IntKind.wrap .i64 (a20 + v71.2)) (IntKind.wrap .i64 (a21 - v71.2))
def budget_Plan_L79 (a6 : List Int) (v76 : (List Int)) (k77 : Nat) (a78 : List Bool) : Option (List Bool) :=
 (idx v76 (k77 : Int)).bind fun v83=>
 (idx a6 v83).bind fun v85=>
 (idx a78 v85).bind fun v87=>
 some (List.set a78 (Int.toNat v85) true)
def budget_Plan_K92 (a5 : List Int) (a20 : Int) (a21 : Int) (v90 : Int × Int) (a91 : List Bool) : Option (Ctl ((List Bool) × Int × Int) ((List Bool) × Int)) :=
 if (decide (v90.1 < (List.length a5 : Int))) = true then
  some (.done (a91,(IntKind.wrap .i64 (a20 + v90.2))))
 else
  budget_Plan_K28 a91 (IntKind.wrap .i64 (a20 + v90.2)) (IntKind.wrap .i64 (a21 - v90.2))
def budget_Plan_L98 (a5 : List Int) (v95 : (List Int)) (k96 : Nat) (a97 : List Bool) : Option (List Bool) :=
 (idx v95 (k96 : Int)).bind fun v102=>
 (idx a5 v102).bind fun v104=>
 (idx a97 v104).bind fun v106=>
 some (List.set a97 (Int.toNat v104) true)
def budget_Plan_K111 (a4 : List Int) (a20 : Int) (a21 : Int) (v109 : Int × Int) (a110 : List Bool) : Option (Ctl ((List Bool) × Int × Int) ((List Bool) × Int)) :=
 if (decide (v109.1 < (List.length a4 : Int))) = true then
  some (.done (a110,(IntKind.wrap .i64 (a20 + v109.2))))
 else
  budget_Plan_K28 a110 (IntKind.wrap .i64 (a20 + v109.2)) (IntKind.wrap .i64 (a21 - v109.2))
def budget_Plan_L117 (a4 : List Int) (v114 : (List Int)) (k115 : Nat) (a116 : List Bool) : Option (List Bool) :=
 (idx v114 (k115 : Int)).bind fun v121=>
 (idx a4 v121).bind fun v123=>
 (idx a116 v123).bind fun v125=>
 some (List.set a116 (Int.toNat v123) true)
def budget_Plan_L22 (a4 : List Int) (a5 : List Int) (a6 : List Int) (a7 : List Int) (a8 : List Int) (a9 : List Int) (a10 : List Int) (a11 : List Int) (a12 : List Int) (a13 : List Int) (k18 : Nat) (a19 : List Bool) (a20 : Int) (a21 : Int) : Option (Ctl ((List Bool) × Int × Int) ((List Bool) × Int)) :=
 (idx ([1,2,3,4,0] : List Int) (k18 : Int)).bind fun v30=>
 if (v30 == 0) = true then
  (budget_most a9 a21).bind fun v109=>
  (budget_Spread (List.length a4 : Int) v109.1).bind fun v114=>
  (foldM' 9223372036854775807 (List.length v114 : Int) (fun k115 s=>budget_Plan_L117 a4 v114 k115 s) a19).bind fun s=>budget_Plan_K111 a4 a20 a21 v109 s
 else
  if (v30 == 1) = true then
   (budget_most a10 a21).bind fun v90=>
   (budget_Spread (List.length a5 : Int) v90.1).bind fun v95=>
   (foldM' 9223372036854775807 (List.length v95 : Int) (fun k96 s=>budget_Plan_L98 a5 v95 k96 s) a19).bind fun s=>budget_Plan_K92 a5 a20 a21 v90 s
  else
   if (v30 == 2) = true then
    (budget_most a11 a21).bind fun v71=>
    (budget_Spread (List.length a6 : Int) v71.1).bind fun v76=>
    (foldM' 9223372036854775807 (List.length v76 : Int) (fun k77 s=>budget_Plan_L79 a6 v76 k77 s) a19).bind fun s=>budget_Plan_K73 a6 a20 a21 v71 s
   else
    if (v30 == 3) = true then
     (budget_most a12 a21).bind fun v52=>
     (budget_Spread (List.length a7 : Int) v52.1).bind fun v57=>
     (foldM' 9223372036854775807 (List.length v57 : Int) (fun k58 s=>budget_Plan_L60 a7 v57 k58 s) a19).bind fun s=>budget_Plan_K54 a7 a20 a21 v52 s
    else
     if (v30 == 4) = true then
      (budget_most a13 a21).bind fun v33=>
      (budget_Spread (List.length a8 : Int) v33.1).bind fun v38=>
      (foldM' 9223372036854775807 (List.length v38 : Int) (fun k39 s=>budget_Plan_L41 a8 v38 k39 s) a19).bind fun s=>budget_Plan_K35 a8 a20 a21 v33 s
     else
      none
def budget_Plan_K14 (x1 : Int) (a2 : List Bool) (a3 : Int) (a4 : List Int) (a5 : List Int) (a6 : List Int) (a7 : List Int) (a8 : List Int) (a9 : List Int) (a10 : List Int) (a11 : List Int) (a12 : List Int) (a13 : List Int) : Option ((List Bool) × Int) :=
 (forM' (E:=(List Bool) × Int) 9223372036854775807 5 (fun k18 s=>budget_Plan_L22 a4 a5 a6 a7 a8 a9 a10 a11 a12 a13 k18 s.1 s.2.1 s.2.2) (a2,a3,(if (IntKind.wrap .i64 ((if x1 > 0 then x1 else 0) - a3)) > 0 then (IntKind.wrap .i64 ((if x1 > 0 then x1 else 0) - a3)) else 0))).bind fun
  | .next s=>budget_Plan_K17 s.1 s.2.1
  | .done e=>budget_Plan_K17 e.1 e.2
def budget_Plan_L139 (x0 : List RRec) (k126 : Nat) (a127 : List Bool) (a128 : Int) (a129 : List Int) (a130 : List Int) (a131 : List Int) (a132 : List Int) (a133 : List Int) (a134 : List Int) (a135 : List Int) (a136 : List Int) (a137 : List Int) (a138 : List Int) : Option ((List Bool) × Int × (List Int) × (List Int) × (List Int) × (List Int) × (List Int) × (List Int) × (List Int) × (List Int) × (List Int) × (List Int)) :=
 (idx x0 (k126 : Int)).bind fun v143=>
 (record_Size v143).bind fun v145=>
 if (v143.gWhat != 1) = true then
  (idx a127 (k126 : Int)).bind fun v148=>
  some ((List.set a127 (Int.toNat (k126 : Int)) true),(IntKind.wrap .i64 (a128 + v145)),a129,a130,a131,a132,a133,a134,a135,a136,a137,a138)
 else
  (budget_Of v143.gEvent).bind fun v150=>
  if (v150 == 0) = true then
   chk (apOk 8 (List.length a129 + List.length [(k126 : Int)]))<|
   chk (apOk 8 (List.length a134 + List.length [v145]))<|
   some (a127,a128,(a129++[(k126 : Int)]),a130,a131,a132,a133,(a134++[v145]),a135,a136,a137,a138)
  else
   if (v150 == 1) = true then
    chk (apOk 8 (List.length a130 + List.length [(k126 : Int)]))<|
    chk (apOk 8 (List.length a135 + List.length [v145]))<|
    some (a127,a128,a129,(a130++[(k126 : Int)]),a131,a132,a133,a134,(a135++[v145]),a136,a137,a138)
   else
    if (v150 == 2) = true then
     chk (apOk 8 (List.length a131 + List.length [(k126 : Int)]))<|
     chk (apOk 8 (List.length a136 + List.length [v145]))<|
     some (a127,a128,a129,a130,(a131++[(k126 : Int)]),a132,a133,a134,a135,(a136++[v145]),a137,a138)
    else
     if (v150 == 3) = true then
      chk (apOk 8 (List.length a132 + List.length [(k126 : Int)]))<|
      chk (apOk 8 (List.length a137 + List.length [v145]))<|
      some (a127,a128,a129,a130,a131,(a132++[(k126 : Int)]),a133,a134,a135,a136,(a137++[v145]),a138)
     else
      if (v150 == 4) = true then
       chk (apOk 8 (List.length a133 + List.length [(k126 : Int)]))<|
       chk (apOk 8 (List.length a138 + List.length [v145]))<|
       some (a127,a128,a129,a130,a131,a132,(a133++[(k126 : Int)]),a134,a135,a136,a137,(a138++[v145]))
      else
       none
def budget_Plan (x0 : List RRec) (x1 : Int) : Option ((List Bool) × Int) :=
 chk (mkOk 1 (List.length x0 : Int) (List.length x0 : Int))<|
 (foldM' 9223372036854775807 (List.length x0 : Int) (fun k126 s=>budget_Plan_L139 x0 k126 s.1 s.2.1 s.2.2.1 s.2.2.2.1 s.2.2.2.2.1 s.2.2.2.2.2.1 s.2.2.2.2.2.2.1 s.2.2.2.2.2.2.2.1 s.2.2.2.2.2.2.2.2.1 s.2.2.2.2.2.2.2.2.2.1 s.2.2.2.2.2.2.2.2.2.2.1 s.2.2.2.2.2.2.2.2.2.2.2) ((List.replicate (Int.toNat (List.length x0 : Int)) false),0,([] : List Int),([] : List Int),([] : List Int),([] : List Int),([] : List Int),([] : List Int),([] : List Int),([] : List Int),([] : List Int),([] : List Int))).bind fun s=>budget_Plan_K14 x1 s.1 s.2.1 s.2.2.1 s.2.2.2.1 s.2.2.2.2.1 s.2.2.2.2.2.1 s.2.2.2.2.2.2.1 s.2.2.2.2.2.2.2.1 s.2.2.2.2.2.2.2.2.1 s.2.2.2.2.2.2.2.2.2.1 s.2.2.2.2.2.2.2.2.2.2.1 s.2.2.2.2.2.2.2.2.2.2.2
theorem budget_Plan_c {x0 : List RRec} {x1 : Int} {r : (List Bool) × Int} (hM : budget_Plan x0 x1 = some r) : PCall Tryz.prog 60 [.sl 29 (List.map RRec.dv x0),.int .i64 x1] (.tup [.sl 1 (List.map DV.bool r.1),.int .i64 r.2]):=by
 unfold budget_Plan at hM
 refine PCall.body Tryz.func60 Tryz.ntmps60 rfl rfl rfl rfl ?_
 refine a_seq ?_
 refine a_region (.cons (o_assign rfl)<|.cons (o_assign rfl)<|.nil _) (by kernel_rfl) (by kernel_rfl) ?_
 refine a_seq ?_
 obtain ⟨h1,hM⟩ := of_chk hM
 refine a_region (.cons (o_move rfl)<|.cons (t_len rfl)<|.cons (t_make DV.bool false h1 rfl rfl rfl rfl)<|.cons (o_assign rfl)<|.nil _) (by kernel_rfl) (by kernel_rfl) ?_
 refine a_seq ?_
 refine a_region (.cons (o_alloc rfl)<|.cons (o_alloc rfl)<|.nil _) (by kernel_rfl) (by kernel_rfl) ?_
 refine a_cut (α:=(List Bool) × Int × (List Int) × (List Int) × (List Int) × (List Int) × (List Int) × (List Int) × (List Int) × (List Int) × (List Int) × (List Int)) (fun s=>⟨[(1,.int .i64 x1),(4,.row 10001),(5,.int .i64 s.2.1),(6,.ref 6 0),(7,.ref 7 0)],[(6,some (.blk 168 [.row 10002,.row 10003,.row 10004,.row 10005,.row 10006])),(7,some (.blk 168 [.row 10007,.row 10008,.row 10009,.row 10010,.row 10011])),(10001,some (.row 4 1 (List.map DV.bool s.1))),(10002,some (.row 3 1 (List.map (DV.int .i64) s.2.2.1))),(10003,some (.row 3 1 (List.map (DV.int .i64) s.2.2.2.1))),(10004,some (.row 3 1 (List.map (DV.int .i64) s.2.2.2.2.1))),(10005,some (.row 3 1 (List.map (DV.int .i64) s.2.2.2.2.2.1))),(10006,some (.row 3 1 (List.map (DV.int .i64) s.2.2.2.2.2.2.1))),(10007,some (.row 3 1 (List.map (DV.int .i64) s.2.2.2.2.2.2.2.1))),(10008,some (.row 3 1 (List.map (DV.int .i64) s.2.2.2.2.2.2.2.2.1))),(10009,some (.row 3 1 (List.map (DV.int .i64) s.2.2.2.2.2.2.2.2.2.1))),(10010,some (.row 3 1 (List.map (DV.int .i64) s.2.2.2.2.2.2.2.2.2.2.1))),(10011,some (.row 3 1 (List.map (DV.int .i64) s.2.2.2.2.2.2.2.2.2.2.2)))],[6,7,10001,10002,10003,10004,10005,10006,10007,10008,10009,10010,10011]⟩) (fun s=>budget_Plan_K14 x1 s.1 s.2.1 s.2.2.1 s.2.2.2.1 s.2.2.2.2.1 s.2.2.2.2.2.1 s.2.2.2.2.2.2.1 s.2.2.2.2.2.2.2.1 s.2.2.2.2.2.2.2.2.1 s.2.2.2.2.2.2.2.2.2.1 s.2.2.2.2.2.2.2.2.2.2.1 s.2.2.2.2.2.2.2.2.2.2.2 = some r) ?_ ?_
 ·refine a_seq ?_
  refine a_region (.cons (o_move rfl)<|.cons (t_len rfl)<|.cons (o_move rfl)<|.nil _) (by kernel_rfl) (by kernel_rfl) ?_
  obtain ⟨⟨a127,a128,a129,a130,a131,a132,a133,a134,a135,a136,a137,a138⟩,hL139,hK139⟩ := of_bind hM
  refine a_block ?_
  refine a_fold (fun k126 s=>⟨[(1,.int .i64 x1),(4,.row 10089),(5,.int .i64 s.2.1),(6,.ref 6 0),(7,.ref 7 0),(22,.sl 29 (List.map RRec.dv x0)),(23,.int .i64 (List.length x0 : Int)),(24,.int .i64 (k126 : Int))],[(6,some (.blk 168 [.row 10090,.row 10091,.row 10092,.row 10093,.row 10094])),(7,some (.blk 168 [.row 10095,.row 10096,.row 10097,.row 10098,.row 10099])),(10089,some (.row 4 1 (List.map DV.bool s.1))),(10090,some (.row 3 1 (List.map (DV.int .i64) s.2.2.1))),(10091,some (.row 3 1 (List.map (DV.int .i64) s.2.2.2.1))),(10092,some (.row 3 1 (List.map (DV.int .i64) s.2.2.2.2.1))),(10093,some (.row 3 1 (List.map (DV.int .i64) s.2.2.2.2.2.1))),(10094,some (.row 3 1 (List.map (DV.int .i64) s.2.2.2.2.2.2.1))),(10095,some (.row 3 1 (List.map (DV.int .i64) s.2.2.2.2.2.2.2.1))),(10096,some (.row 3 1 (List.map (DV.int .i64) s.2.2.2.2.2.2.2.2.1))),(10097,some (.row 3 1 (List.map (DV.int .i64) s.2.2.2.2.2.2.2.2.2.1))),(10098,some (.row 3 1 (List.map (DV.int .i64) s.2.2.2.2.2.2.2.2.2.2.1))),(10099,some (.row 3 1 (List.map (DV.int .i64) s.2.2.2.2.2.2.2.2.2.2.2)))],[6,7,10089,10090,10091,10092,10093,10094,10095,10096,10097,10098,10099]⟩) _ hL139 ((Imp.nilC (id:=6) (rid:=10100) (j:=0) 3 1 rfl rfl rfl rfl).trans ((Imp.nilC (id:=6) (rid:=10101) (j:=1) 3 1 rfl rfl rfl rfl).trans ((Imp.nilC (id:=6) (rid:=10102) (j:=2) 3 1 rfl rfl rfl rfl).trans ((Imp.nilC (id:=6) (rid:=10103) (j:=3) 3 1 rfl rfl rfl rfl).trans ((Imp.nilC (id:=6) (rid:=10104) (j:=4) 3 1 rfl rfl rfl rfl).trans ((Imp.nilC (id:=7) (rid:=10105) (j:=0) 3 1 rfl rfl rfl rfl).trans ((Imp.nilC (id:=7) (rid:=10106) (j:=1) 3 1 rfl rfl rfl rfl).trans ((Imp.nilC (id:=7) (rid:=10107) (j:=2) 3 1 rfl rfl rfl rfl).trans ((Imp.nilC (id:=7) (rid:=10108) (j:=3) 3 1 rfl rfl rfl rfl).trans ((Imp.nilC (id:=7) (rid:=10109) (j:=4) 3 1 rfl rfl rfl rfl).trans (Imp.of (fun i=>bif Nat.beq i 10099 then 10109 else bif Nat.beq i 10098 then 10108 else bif Nat.beq i 10097 then 10107 else bif Nat.beq i 10096 then 10106 else bif Nat.beq i 10095 then 10105 else bif Nat.beq i 10094 then 10104 else bif Nat.beq i 10093 then 10103 else bif Nat.beq i 10092 then 10102 else bif Nat.beq i 10091 then 10101 else bif Nat.beq i 10090 then 10100 else bif Nat.beq i 10089 then 21 else i) (.cons rfl (DLe.refl _) (.cons rfl (DLe.refl _) (.cons rfl (DLe.refl _) (.cons rfl (DLe.refl _) (.cons rfl (DLe.refl _) (.cons rfl (DLe.refl _) (.cons rfl (DLe.refl _) (.cons rfl (DLe.refl _) .nil)))))))) (.cons rfl (.refl _) (.cons rfl (.refl _) (.cons rfl (.refl _) (.cons rfl (.refl _) (.cons rfl (.refl _) (.cons rfl (.refl _) (.cons rfl (.refl _) (.cons rfl (.refl _) (.cons rfl (.refl _) (.cons rfl (.refl _) (.cons rfl (.refl _) (.cons rfl (.refl _) (.cons rfl (.refl _) .nil))))))))))))) rfl rfl rfl))))))))))) ?_ ?_
  ·rintro k126 ⟨a127,a128,a129,a130,a131,a132,a133,a134,a135,a136,a137,a138⟩ t140 hk126 hx126 hM
   replace hM : budget_Plan_L139 x0 k126 a127 a128 a129 a130 a131 a132 a133 a134 a135 a136 a137 a138 = some t140:=hM
   unfold budget_Plan_L139 at hM
   refine a_seq ?_
   refine a_region (.cons (o_int rfl rfl rfl)<|.nil _) (by kernel_rfl) (by kernel_rfl) ?_
   refine a_seq ?_
   refine a_cond _ rfl (fun _=>?_) (fun c=>absurd hk126 (of_decide_eq_false c))
   refine a_skip ?_
   refine a_seq ?_
   refine a_block ?_
   refine a_seq ?_
   obtain ⟨v143,h142,hM⟩ := of_bind hM
   refine a_region (.cons (o_move rfl)<|.cons (t_index h142 rfl rfl rfl)<|.cons (o_load_er rfl rfl rfl)<|.cons (o_alloc rfl)<|.cons (o_assign rfl)<|.cons (o_store rfl rfl rfl rfl rfl rfl rfl)<|.nil _) (by kernel_rfl) (by kernel_rfl) ?_
   refine a_seq ?_
   obtain ⟨v145,h144,hM⟩ := of_bind hM
   refine a_region (.cons (o_load_r rfl rfl rfl rfl)<|.cons (o_call (record_Size_c h144) rfl (DLeL.refl _) rfl)<|.cons (o_assign rfl)<|.nil _) (by kernel_rfl) (by kernel_rfl) ?_
   refine a_seq ?_
   refine a_seq ?_
   refine a_region (.cons (o_fieldAddr rfl)<|.cons (o_load_s rfl rfl rfl)<|.cons (o_int rfl rfl rfl)<|.nil _) (by kernel_rfl) (by kernel_rfl) ?_
   refine a_cond _ rfl (fun h146=>?_) (fun h146=>?_)
   ·replace hM:=(of_if hM).1 h146
    refine a_seq ?_
    obtain ⟨v148,h147,hM⟩ := of_bind hM
    refine a_region (.cons (o_move rfl)<|.cons (o_move rfl)<|.cons (t_index_r h147 rfl rfl rfl)<|.cons (t_store_p true h147 rfl rfl rfl rfl rfl rfl rfl rfl rfl rfl rfl)<|.nil _) (by kernel_rfl) (by kernel_rfl) ?_
    refine a_seq ?_
    refine a_region (.cons (o_move rfl)<|.cons (o_move rfl)<|.cons (o_int rfl rfl rfl)<|.cons (o_assign rfl)<|.nil _) (by kernel_rfl) (by kernel_rfl) ?_
    refine a_exit ?_
    refine a_region (.cons (o_add rfl rfl (inR_i64 hk126 hx126))<|.cons (o_move rfl)<|.nil _) (by kernel_rfl) (by kernel_rfl) ?_
    obtain rfl:=Option.some.inj hM
    exact (Imp.of (fun i=>i) (.cons rfl (DLe.refl _) (.cons rfl (DLe.refl _) (.cons rfl (DLe.refl _) (.cons rfl (DLe.refl _) (.cons rfl (DLe.refl _) (.cons rfl (DLe.refl _) (.cons rfl (DLe.refl _) (.cons rfl (DLe.succ _ _) .nil)))))))) (.cons rfl (.refl _) (.cons rfl (.refl _) (.cons rfl (.refl _) (.cons rfl (.refl _) (.cons rfl (.refl _) (.cons rfl (.refl _) (.cons rfl (.refl _) (.cons rfl (.refl _) (.cons rfl (.refl _) (.cons rfl (.refl _) (.cons rfl (.refl _) (.cons rfl (.refl _) (.cons rfl (.refl _) .nil))))))))))))) rfl rfl rfl)
   ·replace hM:=(of_if hM).2 h146
    refine a_skip ?_
    refine a_seq ?_
    obtain ⟨v150,h149,hM⟩ := of_bind hM
    refine a_region (.cons (o_fieldAddr rfl)<|.cons (o_load_r rfl rfl rfl rfl)<|.cons (o_call (budget_Of_c h149) rfl (DLeL.refl _) rfl)<|.cons (o_assign rfl)<|.nil _) (by kernel_rfl) (by kernel_rfl) ?_
    refine a_seq ?_
    by_cases h163 : (v150 == 0) = true
    ·replace hM:=(of_if hM).1 h163
     obtain rfl : v150 = 0:=eq_of_beq h163
     obtain ⟨h164,hM⟩ := of_chk hM
     refine a_region (.cons (o_move rfl)<|.cons (o_move rfl)<|.cons (o_indexAddr_a 0 rfl rfl rfl (by decide))<|.cons (o_load_s rfl rfl rfl)<|.cons (o_move rfl)<|.cons (t_build (DV.int .i64) ([(k126 : Int)] : List Int) rfl rfl rfl rfl rfl rfl rfl)<|.cons (t_append [(k126 : Int)] h164 rfl rfl rfl (Src.row rfl))<|.cons (o_indexAddr_a 0 rfl rfl rfl (by decide))<|.cons (o_store_s rfl rfl rfl rfl rfl)<|.nil _) (by kernel_rfl) (by kernel_rfl) ?_
     obtain ⟨h165,hM⟩ := of_chk hM
     refine a_region (.cons (o_move rfl)<|.cons (o_move rfl)<|.cons (o_indexAddr_a 0 rfl rfl rfl (by decide))<|.cons (o_load_s rfl rfl rfl)<|.cons (o_move rfl)<|.cons (t_build (DV.int .i64) ([v145] : List Int) rfl rfl rfl rfl rfl rfl rfl)<|.cons (t_append [v145] h165 rfl rfl rfl (Src.row rfl))<|.cons (o_indexAddr_a 0 rfl rfl rfl (by decide))<|.cons (o_store_s rfl rfl rfl rfl rfl)<|.nil _) (by kernel_rfl) (by kernel_rfl) ?_
     refine a_region (.cons (o_add rfl rfl (inR_i64 hk126 hx126))<|.cons (o_move rfl)<|.nil _) (by kernel_rfl) (by kernel_rfl) ?_
     obtain rfl:=Option.some.inj hM
     exact (Imp.of (fun i=>bif Nat.beq i 10095 then 57 else bif Nat.beq i 10090 then 49 else i) (.cons rfl (DLe.refl _) (.cons rfl (DLe.refl _) (.cons rfl (DLe.refl _) (.cons rfl (DLe.refl _) (.cons rfl (DLe.refl _) (.cons rfl (DLe.refl _) (.cons rfl (DLe.refl _) (.cons rfl (DLe.succ _ _) .nil)))))))) (.cons rfl (.refl _) (.cons rfl (.refl _) (.cons rfl (.refl _) (.cons rfl (.refl _) (.cons rfl (.refl _) (.cons rfl (.refl _) (.cons rfl (.refl _) (.cons rfl (.refl _) (.cons rfl (.refl _) (.cons rfl (.refl _) (.cons rfl (.refl _) (.cons rfl (.refl _) (.cons rfl (.refl _) .nil))))))))))))) rfl rfl rfl)
    ·replace hM:=(of_if hM).2 (Bool.eq_false_iff.2 h163)
     by_cases h160 : (v150 == 1) = true
     ·replace hM:=(of_if hM).1 h160
      obtain rfl : v150 = 1:=eq_of_beq h160
      obtain ⟨h161,hM⟩ := of_chk hM
      refine a_region (.cons (o_move rfl)<|.cons (o_move rfl)<|.cons (o_indexAddr_a 1 rfl rfl rfl (by decide))<|.cons (o_load_s rfl rfl rfl)<|.cons (o_move rfl)<|.cons (t_build (DV.int .i64) ([(k126 : Int)] : List Int) rfl rfl rfl rfl rfl rfl rfl)<|.cons (t_append [(k126 : Int)] h161 rfl rfl rfl (Src.row rfl))<|.cons (o_indexAddr_a 1 rfl rfl rfl (by decide))<|.cons (o_store_s rfl rfl rfl rfl rfl)<|.nil _) (by kernel_rfl) (by kernel_rfl) ?_
      obtain ⟨h162,hM⟩ := of_chk hM
      refine a_region (.cons (o_move rfl)<|.cons (o_move rfl)<|.cons (o_indexAddr_a 1 rfl rfl rfl (by decide))<|.cons (o_load_s rfl rfl rfl)<|.cons (o_move rfl)<|.cons (t_build (DV.int .i64) ([v145] : List Int) rfl rfl rfl rfl rfl rfl rfl)<|.cons (t_append [v145] h162 rfl rfl rfl (Src.row rfl))<|.cons (o_indexAddr_a 1 rfl rfl rfl (by decide))<|.cons (o_store_s rfl rfl rfl rfl rfl)<|.nil _) (by kernel_rfl) (by kernel_rfl) ?_
      refine a_region (.cons (o_add rfl rfl (inR_i64 hk126 hx126))<|.cons (o_move rfl)<|.nil _) (by kernel_rfl) (by kernel_rfl) ?_
      obtain rfl:=Option.some.inj hM
      exact (Imp.of (fun i=>bif Nat.beq i 10096 then 57 else bif Nat.beq i 10091 then 49 else i) (.cons rfl (DLe.refl _) (.cons rfl (DLe.refl _) (.cons rfl (DLe.refl _) (.cons rfl (DLe.refl _) (.cons rfl (DLe.refl _) (.cons rfl (DLe.refl _) (.cons rfl (DLe.refl _) (.cons rfl (DLe.succ _ _) .nil)))))))) (.cons rfl (.refl _) (.cons rfl (.refl _) (.cons rfl (.refl _) (.cons rfl (.refl _) (.cons rfl (.refl _) (.cons rfl (.refl _) (.cons rfl (.refl _) (.cons rfl (.refl _) (.cons rfl (.refl _) (.cons rfl (.refl _) (.cons rfl (.refl _) (.cons rfl (.refl _) (.cons rfl (.refl _) .nil))))))))))))) rfl rfl rfl)
     ·replace hM:=(of_if hM).2 (Bool.eq_false_iff.2 h160)
      by_cases h157 : (v150 == 2) = true
      ·replace hM:=(of_if hM).1 h157
       obtain rfl : v150 = 2:=eq_of_beq h157
       obtain ⟨h158,hM⟩ := of_chk hM
       refine a_region (.cons (o_move rfl)<|.cons (o_move rfl)<|.cons (o_indexAddr_a 2 rfl rfl rfl (by decide))<|.cons (o_load_s rfl rfl rfl)<|.cons (o_move rfl)<|.cons (t_build (DV.int .i64) ([(k126 : Int)] : List Int) rfl rfl rfl rfl rfl rfl rfl)<|.cons (t_append [(k126 : Int)] h158 rfl rfl rfl (Src.row rfl))<|.cons (o_indexAddr_a 2 rfl rfl rfl (by decide))<|.cons (o_store_s rfl rfl rfl rfl rfl)<|.nil _) (by kernel_rfl) (by kernel_rfl) ?_
       obtain ⟨h159,hM⟩ := of_chk hM
       refine a_region (.cons (o_move rfl)<|.cons (o_move rfl)<|.cons (o_indexAddr_a 2 rfl rfl rfl (by decide))<|.cons (o_load_s rfl rfl rfl)<|.cons (o_move rfl)<|.cons (t_build (DV.int .i64) ([v145] : List Int) rfl rfl rfl rfl rfl rfl rfl)<|.cons (t_append [v145] h159 rfl rfl rfl (Src.row rfl))<|.cons (o_indexAddr_a 2 rfl rfl rfl (by decide))<|.cons (o_store_s rfl rfl rfl rfl rfl)<|.nil _) (by kernel_rfl) (by kernel_rfl) ?_
       refine a_region (.cons (o_add rfl rfl (inR_i64 hk126 hx126))<|.cons (o_move rfl)<|.nil _) (by kernel_rfl) (by kernel_rfl) ?_
       obtain rfl:=Option.some.inj hM
       exact (Imp.of (fun i=>bif Nat.beq i 10097 then 57 else bif Nat.beq i 10092 then 49 else i) (.cons rfl (DLe.refl _) (.cons rfl (DLe.refl _) (.cons rfl (DLe.refl _) (.cons rfl (DLe.refl _) (.cons rfl (DLe.refl _) (.cons rfl (DLe.refl _) (.cons rfl (DLe.refl _) (.cons rfl (DLe.succ _ _) .nil)))))))) (.cons rfl (.refl _) (.cons rfl (.refl _) (.cons rfl (.refl _) (.cons rfl (.refl _) (.cons rfl (.refl _) (.cons rfl (.refl _) (.cons rfl (.refl _) (.cons rfl (.refl _) (.cons rfl (.refl _) (.cons rfl (.refl _) (.cons rfl (.refl _) (.cons rfl (.refl _) (.cons rfl (.refl _) .nil))))))))))))) rfl rfl rfl)
      ·replace hM:=(of_if hM).2 (Bool.eq_false_iff.2 h157)
       by_cases h154 : (v150 == 3) = true
       ·replace hM:=(of_if hM).1 h154
        obtain rfl : v150 = 3:=eq_of_beq h154
        obtain ⟨h155,hM⟩ := of_chk hM
        refine a_region (.cons (o_move rfl)<|.cons (o_move rfl)<|.cons (o_indexAddr_a 3 rfl rfl rfl (by decide))<|.cons (o_load_s rfl rfl rfl)<|.cons (o_move rfl)<|.cons (t_build (DV.int .i64) ([(k126 : Int)] : List Int) rfl rfl rfl rfl rfl rfl rfl)<|.cons (t_append [(k126 : Int)] h155 rfl rfl rfl (Src.row rfl))<|.cons (o_indexAddr_a 3 rfl rfl rfl (by decide))<|.cons (o_store_s rfl rfl rfl rfl rfl)<|.nil _) (by kernel_rfl) (by kernel_rfl) ?_
        obtain ⟨h156,hM⟩ := of_chk hM
        refine a_region (.cons (o_move rfl)<|.cons (o_move rfl)<|.cons (o_indexAddr_a 3 rfl rfl rfl (by decide))<|.cons (o_load_s rfl rfl rfl)<|.cons (o_move rfl)<|.cons (t_build (DV.int .i64) ([v145] : List Int) rfl rfl rfl rfl rfl rfl rfl)<|.cons (t_append [v145] h156 rfl rfl rfl (Src.row rfl))<|.cons (o_indexAddr_a 3 rfl rfl rfl (by decide))<|.cons (o_store_s rfl rfl rfl rfl rfl)<|.nil _) (by kernel_rfl) (by kernel_rfl) ?_
        refine a_region (.cons (o_add rfl rfl (inR_i64 hk126 hx126))<|.cons (o_move rfl)<|.nil _) (by kernel_rfl) (by kernel_rfl) ?_
        obtain rfl:=Option.some.inj hM
        exact (Imp.of (fun i=>bif Nat.beq i 10098 then 57 else bif Nat.beq i 10093 then 49 else i) (.cons rfl (DLe.refl _) (.cons rfl (DLe.refl _) (.cons rfl (DLe.refl _) (.cons rfl (DLe.refl _) (.cons rfl (DLe.refl _) (.cons rfl (DLe.refl _) (.cons rfl (DLe.refl _) (.cons rfl (DLe.succ _ _) .nil)))))))) (.cons rfl (.refl _) (.cons rfl (.refl _) (.cons rfl (.refl _) (.cons rfl (.refl _) (.cons rfl (.refl _) (.cons rfl (.refl _) (.cons rfl (.refl _) (.cons rfl (.refl _) (.cons rfl (.refl _) (.cons rfl (.refl _) (.cons rfl (.refl _) (.cons rfl (.refl _) (.cons rfl (.refl _) .nil))))))))))))) rfl rfl rfl)
       ·replace hM:=(of_if hM).2 (Bool.eq_false_iff.2 h154)
        by_cases h151 : (v150 == 4) = true
        ·replace hM:=(of_if hM).1 h151
         obtain rfl : v150 = 4:=eq_of_beq h151
         obtain ⟨h152,hM⟩ := of_chk hM
         refine a_region (.cons (o_move rfl)<|.cons (o_move rfl)<|.cons (o_indexAddr_a 4 rfl rfl rfl (by decide))<|.cons (o_load_s rfl rfl rfl)<|.cons (o_move rfl)<|.cons (t_build (DV.int .i64) ([(k126 : Int)] : List Int) rfl rfl rfl rfl rfl rfl rfl)<|.cons (t_append [(k126 : Int)] h152 rfl rfl rfl (Src.row rfl))<|.cons (o_indexAddr_a 4 rfl rfl rfl (by decide))<|.cons (o_store_s rfl rfl rfl rfl rfl)<|.nil _) (by kernel_rfl) (by kernel_rfl) ?_
         obtain ⟨h153,hM⟩ := of_chk hM
         refine a_region (.cons (o_move rfl)<|.cons (o_move rfl)<|.cons (o_indexAddr_a 4 rfl rfl rfl (by decide))<|.cons (o_load_s rfl rfl rfl)<|.cons (o_move rfl)<|.cons (t_build (DV.int .i64) ([v145] : List Int) rfl rfl rfl rfl rfl rfl rfl)<|.cons (t_append [v145] h153 rfl rfl rfl (Src.row rfl))<|.cons (o_indexAddr_a 4 rfl rfl rfl (by decide))<|.cons (o_store_s rfl rfl rfl rfl rfl)<|.nil _) (by kernel_rfl) (by kernel_rfl) ?_
         refine a_region (.cons (o_add rfl rfl (inR_i64 hk126 hx126))<|.cons (o_move rfl)<|.nil _) (by kernel_rfl) (by kernel_rfl) ?_
         obtain rfl:=Option.some.inj hM
         exact (Imp.of (fun i=>bif Nat.beq i 10099 then 57 else bif Nat.beq i 10094 then 49 else i) (.cons rfl (DLe.refl _) (.cons rfl (DLe.refl _) (.cons rfl (DLe.refl _) (.cons rfl (DLe.refl _) (.cons rfl (DLe.refl _) (.cons rfl (DLe.refl _) (.cons rfl (DLe.refl _) (.cons rfl (DLe.succ _ _) .nil)))))))) (.cons rfl (.refl _) (.cons rfl (.refl _) (.cons rfl (.refl _) (.cons rfl (.refl _) (.cons rfl (.refl _) (.cons rfl (.refl _) (.cons rfl (.refl _) (.cons rfl (.refl _) (.cons rfl (.refl _) (.cons rfl (.refl _) (.cons rfl (.refl _) (.cons rfl (.refl _) (.cons rfl (.refl _) .nil))))))))))))) rfl rfl rfl)
        ·replace hM:=(of_if hM).2 (Bool.eq_false_iff.2 h151)
         cases hM
  ·rintro k126 hk126 hx126
   refine a_seq ?_
   refine a_region (.cons (o_int rfl rfl rfl)<|.nil _) (by kernel_rfl) (by kernel_rfl) ?_
   refine a_seq ?_
   refine a_cond _ rfl (fun c=>absurd (of_decide_eq_true c) (Int.not_lt.2 hk126)) (fun _=>?_)
   refine a_exit ?_
   exact ⟨(a127,a128,a129,a130,a131,a132,a133,a134,a135,a136,a137,a138),hK139,(Imp.of (fun i=>bif Nat.beq i 10011 then 10099 else bif Nat.beq i 10010 then 10098 else bif Nat.beq i 10009 then 10097 else bif Nat.beq i 10008 then 10096 else bif Nat.beq i 10007 then 10095 else bif Nat.beq i 10006 then 10094 else bif Nat.beq i 10005 then 10093 else bif Nat.beq i 10004 then 10092 else bif Nat.beq i 10003 then 10091 else bif Nat.beq i 10002 then 10090 else bif Nat.beq i 10001 then 10089 else i) (.cons rfl (DLe.refl _) (.cons rfl (DLe.refl _) (.cons rfl (DLe.refl _) (.cons rfl (DLe.refl _) (.cons rfl (DLe.refl _) .nil))))) (.cons rfl (.refl _) (.cons rfl (.refl _) (.cons rfl (.refl _) (.cons rfl (.refl _) (.cons rfl (.refl _) (.cons rfl (.refl _) (.cons rfl (.refl _) (.cons rfl (.refl _) (.cons rfl (.refl _) (.cons rfl (.refl _) (.cons rfl (.refl _) (.cons rfl (.refl _) (.cons rfl (.refl _) .nil))))))))))))) rfl rfl rfl)⟩
 ·rintro ⟨a2,a3,a4,a5,a6,a7,a8,a9,a10,a11,a12,a13⟩ hM
  replace hM : budget_Plan_K14 x1 a2 a3 a4 a5 a6 a7 a8 a9 a10 a11 a12 a13 = some r:=hM
  unfold budget_Plan_K14 at hM
  refine a_seq ?_
  refine a_region (.cons (o_move rfl)<|.cons (o_max rfl rfl)<|.cons (o_move rfl)<|.cons (o_int rfl rfl rfl)<|.cons (o_max rfl rfl)<|.cons (o_assign rfl)<|.nil _) (by kernel_rfl) (by kernel_rfl) ?_
  refine a_cut (α:=(List Bool) × Int) (fun s=>⟨[(4,.sl 1 (List.map DV.bool s.1)),(5,.int .i64 s.2)],[],[]⟩) (fun s=>budget_Plan_K17 s.1 s.2 = some r) ?_ ?_
  ·refine a_seq ?_
   refine a_region (.cons (o_build rfl rfl rfl)<|.cons (o_move rfl)<|.nil _) (by kernel_rfl) (by kernel_rfl) ?_
   obtain ⟨t22,hL22,hK22⟩ := of_bind hM
   refine a_block ?_
   refine a_for (fun k18 s=>⟨[(4,.row 10012),(5,.int .i64 s.2.1),(6,.ref 6 0),(7,.ref 7 0),(12,.int .i64 s.2.2),(65,.agg [.int .u8 1,.int .u8 2,.int .u8 3,.int .u8 4,.int .u8 0]),(66,.int .i64 (k18 : Int))],[(6,some (.blk 168 [.row 10013,.row 10014,.row 10015,.row 10016,.row 10017])),(7,some (.blk 168 [.sl 1 (List.map (DV.int .i64) a9),.sl 1 (List.map (DV.int .i64) a10),.sl 1 (List.map (DV.int .i64) a11),.sl 1 (List.map (DV.int .i64) a12),.sl 1 (List.map (DV.int .i64) a13)])),(10012,some (.row 4 1 (List.map DV.bool s.1))),(10013,some (.row 3 1 (List.map (DV.int .i64) a4))),(10014,some (.row 3 1 (List.map (DV.int .i64) a5))),(10015,some (.row 3 1 (List.map (DV.int .i64) a6))),(10016,some (.row 3 1 (List.map (DV.int .i64) a7))),(10017,some (.row 3 1 (List.map (DV.int .i64) a8)))],[6,7,10012,10013,10014,10015,10016,10017]⟩) _ hL22 ((Imp.freeze (id:=10007) rfl).trans ((Imp.freeze (id:=10008) rfl).trans ((Imp.freeze (id:=10009) rfl).trans ((Imp.freeze (id:=10010) rfl).trans ((Imp.freeze (id:=10011) rfl).trans (Imp.of (fun i=>bif Nat.beq i 10017 then 10006 else bif Nat.beq i 10016 then 10005 else bif Nat.beq i 10015 then 10004 else bif Nat.beq i 10014 then 10003 else bif Nat.beq i 10013 then 10002 else bif Nat.beq i 10012 then 10001 else i) (.cons rfl (DLe.refl _) (.cons rfl (DLe.refl _) (.cons rfl (DLe.refl _) (.cons rfl (DLe.refl _) (.cons rfl (DLe.refl _) (.cons rfl (DLe.refl _) (.cons rfl (DLe.refl _) .nil))))))) (.cons rfl (.refl _) (.cons rfl (.refl _) (.cons rfl (.refl _) (.cons rfl (.refl _) (.cons rfl (.refl _) (.cons rfl (.refl _) (.cons rfl (.refl _) (.cons rfl (.refl _) .nil)))))))) rfl rfl rfl)))))) ?_ ?_
   ·rintro k18 ⟨a19,a20,a21⟩ t23 hk18 hx18 hM hE22
    replace hM : budget_Plan_L22 a4 a5 a6 a7 a8 a9 a10 a11 a12 a13 k18 a19 a20 a21 = some t23:=hM
    unfold budget_Plan_L22 at hM
    refine a_seq ?_
    refine a_region (.cons (o_int rfl rfl rfl)<|.nil _) (by kernel_rfl) (by kernel_rfl) ?_
    refine a_seq ?_
    refine a_cond _ rfl (fun _=>?_) (fun c=>absurd hk18 (of_decide_eq_false c))
    refine a_skip ?_
    refine a_cut (α:=(List Bool) × Int × Int) (fun s=>⟨[(4,.row 10023),(5,.int .i64 s.2.1),(6,.ref 6 0),(7,.ref 7 0),(12,.int .i64 s.2.2),(65,.agg [.int .u8 1,.int .u8 2,.int .u8 3,.int .u8 4,.int .u8 0]),(66,.int .i64 (k18 : Int))],[(6,some (.blk 168 [.row 10024,.row 10025,.row 10026,.row 10027,.row 10028])),(7,some (.blk 168 [.sl 1 (List.map (DV.int .i64) a9),.sl 1 (List.map (DV.int .i64) a10),.sl 1 (List.map (DV.int .i64) a11),.sl 1 (List.map (DV.int .i64) a12),.sl 1 (List.map (DV.int .i64) a13)])),(10023,some (.row 4 1 (List.map DV.bool s.1))),(10024,some (.row 3 1 (List.map (DV.int .i64) a4))),(10025,some (.row 3 1 (List.map (DV.int .i64) a5))),(10026,some (.row 3 1 (List.map (DV.int .i64) a6))),(10027,some (.row 3 1 (List.map (DV.int .i64) a7))),(10028,some (.row 3 1 (List.map (DV.int .i64) a8)))],[6,7,10023,10024,10025,10026,10027,10028]⟩) (fun s=>budget_Plan_K28 s.1 s.2.1 s.2.2 = some t23) ?_ ?_
    ·refine a_block ?_
     refine a_seq ?_
     obtain ⟨v30,h29,hM⟩ := of_bind hM
     refine a_region (.cons (t_idxL (DV.int .u8) ([1,2,3,4,0] : List Int) h29 rfl rfl rfl)<|.cons (o_assign rfl)<|.nil _) (by kernel_rfl) (by kernel_rfl) ?_
     refine a_seq ?_
     by_cases h107 : (v30 == 0) = true
     ·replace hM:=(of_if hM).1 h107
      obtain rfl : v30 = 0:=eq_of_beq h107
      obtain ⟨v109,h108,hM⟩ := of_bind hM
      refine a_region (.cons (o_move rfl)<|.cons (o_indexAddr_a 0 rfl rfl rfl (by decide))<|.cons (o_load_s rfl rfl rfl)<|.cons (o_move rfl)<|.cons (o_call (budget_most_c h108) rfl (DLeL.refl _) rfl)<|.cons (o_move rfl)<|.cons (o_extract rfl rfl)<|.cons (o_extract rfl rfl)<|.cons (o_assign rfl)<|.cons (o_assign rfl)<|.nil _) (by kernel_rfl) (by kernel_rfl) ?_
      refine a_cut (α:=(List Bool)) (fun s=>⟨[(4,.row 10077),(5,.int .i64 a20),(6,.ref 6 0),(7,.ref 7 0),(12,.int .i64 a21),(14,.int .u8 0),(15,.int .i64 v109.1),(16,.int .i64 v109.2),(65,.agg [.int .u8 1,.int .u8 2,.int .u8 3,.int .u8 4,.int .u8 0]),(66,.int .i64 (k18 : Int))],[(6,some (.blk 168 [.row 10078,.row 10079,.row 10080,.row 10081,.row 10082])),(7,some (.blk 168 [.sl 1 (List.map (DV.int .i64) a9),.sl 1 (List.map (DV.int .i64) a10),.sl 1 (List.map (DV.int .i64) a11),.sl 1 (List.map (DV.int .i64) a12),.sl 1 (List.map (DV.int .i64) a13)])),(10077,some (.row 4 1 (List.map DV.bool s))),(10078,some (.row 3 1 (List.map (DV.int .i64) a4))),(10079,some (.row 3 1 (List.map (DV.int .i64) a5))),(10080,some (.row 3 1 (List.map (DV.int .i64) a6))),(10081,some (.row 3 1 (List.map (DV.int .i64) a7))),(10082,some (.row 3 1 (List.map (DV.int .i64) a8)))],[6,7,10077,10078,10079,10080,10081,10082]⟩) (fun s=>budget_Plan_K111 a4 a20 a21 v109 s = some t23) ?_ ?_
      ·refine a_seq ?_
       obtain ⟨v114,h113,hM⟩ := of_bind hM
       refine a_region (.cons (o_move rfl)<|.cons (o_indexAddr_a 0 rfl rfl rfl (by decide))<|.cons (o_load_s rfl rfl rfl)<|.cons (t_len_r rfl rfl)<|.cons (o_move rfl)<|.cons (o_call (budget_Spread_c h113) rfl (DLeL.refl _) rfl)<|.cons (t_len rfl)<|.cons (o_move rfl)<|.nil _) (by kernel_rfl) (by kernel_rfl) ?_
       obtain ⟨a116,hL117,hK117⟩ := of_bind hM
       refine a_block ?_
       refine a_fold (fun k115 s=>⟨[(4,.row 10083),(5,.int .i64 a20),(6,.ref 6 0),(7,.ref 7 0),(12,.int .i64 a21),(14,.int .u8 0),(15,.int .i64 v109.1),(16,.int .i64 v109.2),(65,.agg [.int .u8 1,.int .u8 2,.int .u8 3,.int .u8 4,.int .u8 0]),(66,.int .i64 (k18 : Int)),(82,.sl 1 (List.map (DV.int .i64) v114)),(83,.int .i64 (List.length v114 : Int)),(84,.int .i64 (k115 : Int))],[(6,some (.blk 168 [.row 10084,.row 10085,.row 10086,.row 10087,.row 10088])),(7,some (.blk 168 [.sl 1 (List.map (DV.int .i64) a9),.sl 1 (List.map (DV.int .i64) a10),.sl 1 (List.map (DV.int .i64) a11),.sl 1 (List.map (DV.int .i64) a12),.sl 1 (List.map (DV.int .i64) a13)])),(10083,some (.row 4 1 (List.map DV.bool s))),(10084,some (.row 3 1 (List.map (DV.int .i64) a4))),(10085,some (.row 3 1 (List.map (DV.int .i64) a5))),(10086,some (.row 3 1 (List.map (DV.int .i64) a6))),(10087,some (.row 3 1 (List.map (DV.int .i64) a7))),(10088,some (.row 3 1 (List.map (DV.int .i64) a8)))],[6,7,10083,10084,10085,10086,10087,10088]⟩) _ hL117 (Imp.of (fun i=>bif Nat.beq i 10088 then 10017 else bif Nat.beq i 10087 then 10016 else bif Nat.beq i 10086 then 10015 else bif Nat.beq i 10085 then 10014 else bif Nat.beq i 10084 then 10013 else bif Nat.beq i 10083 then 10012 else i) (.cons rfl (DLe.refl _) (.cons rfl (DLe.refl _) (.cons rfl (DLe.refl _) (.cons rfl (DLe.refl _) (.cons rfl (DLe.refl _) (.cons rfl (DLe.refl _) (.cons rfl (DLe.refl _) (.cons rfl (DLe.refl _) (.cons rfl (DLe.refl _) (.cons rfl (DLe.refl _) (.cons rfl (DLe.refl _) (.cons rfl (DLe.refl _) (.cons rfl (DLe.refl _) .nil))))))))))))) (.cons rfl (.refl _) (.cons rfl (.refl _) (.cons rfl (.refl _) (.cons rfl (.refl _) (.cons rfl (.refl _) (.cons rfl (.refl _) (.cons rfl (.refl _) (.cons rfl (.refl _) .nil)))))))) rfl rfl rfl) ?_ ?_
       ·rintro k115 a116 t118 hk115 hx115 hM
        replace hM : budget_Plan_L117 a4 v114 k115 a116 = some t118:=hM
        unfold budget_Plan_L117 at hM
        refine a_seq ?_
        refine a_region (.cons (o_int rfl rfl rfl)<|.nil _) (by kernel_rfl) (by kernel_rfl) ?_
        refine a_seq ?_
        refine a_cond _ rfl (fun _=>?_) (fun c=>absurd hk115 (of_decide_eq_false c))
        refine a_skip ?_
        refine a_seq ?_
        refine a_block ?_
        refine a_seq ?_
        obtain ⟨v121,h120,hM⟩ := of_bind hM
        refine a_region (.cons (t_index h120 rfl rfl rfl)<|.cons (o_load_es rfl rfl)<|.cons (o_assign rfl)<|.nil _) (by kernel_rfl) (by kernel_rfl) ?_
        obtain ⟨v123,h122,hM⟩ := of_bind hM
        obtain ⟨v125,h124,hM⟩ := of_bind hM
        refine a_region (.cons (o_move rfl)<|.cons (o_move rfl)<|.cons (o_indexAddr_a 0 rfl rfl rfl (by decide))<|.cons (o_load_s rfl rfl rfl)<|.cons (o_move rfl)<|.cons (t_index_r h122 rfl rfl rfl)<|.cons (t_load_ps h122 rfl rfl rfl rfl)<|.cons (t_index_r h124 rfl rfl rfl)<|.cons (t_store_p true h124 rfl rfl rfl rfl rfl rfl rfl rfl rfl rfl rfl)<|.nil _) (by kernel_rfl) (by kernel_rfl) ?_
        refine a_region (.cons (o_add rfl rfl (inR_i64 hk115 hx115))<|.cons (o_move rfl)<|.nil _) (by kernel_rfl) (by kernel_rfl) ?_
        obtain rfl:=Option.some.inj hM
        exact (Imp.of (fun i=>i) (.cons rfl (DLe.refl _) (.cons rfl (DLe.refl _) (.cons rfl (DLe.refl _) (.cons rfl (DLe.refl _) (.cons rfl (DLe.refl _) (.cons rfl (DLe.refl _) (.cons rfl (DLe.refl _) (.cons rfl (DLe.refl _) (.cons rfl (DLe.refl _) (.cons rfl (DLe.refl _) (.cons rfl (DLe.refl _) (.cons rfl (DLe.refl _) (.cons rfl (DLe.succ _ _) .nil))))))))))))) (.cons rfl (.refl _) (.cons rfl (.refl _) (.cons rfl (.refl _) (.cons rfl (.refl _) (.cons rfl (.refl _) (.cons rfl (.refl _) (.cons rfl (.refl _) (.cons rfl (.refl _) .nil)))))))) rfl rfl rfl)
       ·rintro k115 hk115 hx115
        refine a_seq ?_
        refine a_region (.cons (o_int rfl rfl rfl)<|.nil _) (by kernel_rfl) (by kernel_rfl) ?_
        refine a_seq ?_
        refine a_cond _ rfl (fun c=>absurd (of_decide_eq_true c) (Int.not_lt.2 hk115)) (fun _=>?_)
        refine a_exit ?_
        exact ⟨a116,hK117,(Imp.of (fun i=>bif Nat.beq i 10082 then 10088 else bif Nat.beq i 10081 then 10087 else bif Nat.beq i 10080 then 10086 else bif Nat.beq i 10079 then 10085 else bif Nat.beq i 10078 then 10084 else bif Nat.beq i 10077 then 10083 else i) (.cons rfl (DLe.refl _) (.cons rfl (DLe.refl _) (.cons rfl (DLe.refl _) (.cons rfl (DLe.refl _) (.cons rfl (DLe.refl _) (.cons rfl (DLe.refl _) (.cons rfl (DLe.refl _) (.cons rfl (DLe.refl _) (.cons rfl (DLe.refl _) (.cons rfl (DLe.refl _) .nil)))))))))) (.cons rfl (.refl _) (.cons rfl (.refl _) (.cons rfl (.refl _) (.cons rfl (.refl _) (.cons rfl (.refl _) (.cons rfl (.refl _) (.cons rfl (.refl _) (.cons rfl (.refl _) .nil)))))))) rfl rfl rfl)⟩
      ·rintro a110 hM
       replace hM : budget_Plan_K111 a4 a20 a21 v109 a110 = some t23:=hM
       unfold budget_Plan_K111 at hM
       refine a_seq ?_
       refine a_region (.cons (o_move rfl)<|.cons (o_move rfl)<|.cons (o_int rfl rfl rfl)<|.cons (o_assign rfl)<|.nil _) (by kernel_rfl) (by kernel_rfl) ?_
       refine a_seq ?_
       refine a_region (.cons (o_move rfl)<|.cons (o_move rfl)<|.cons (o_int rfl rfl rfl)<|.cons (o_assign rfl)<|.nil _) (by kernel_rfl) (by kernel_rfl) ?_
       refine a_seq ?_
       refine a_region (.cons (o_move rfl)<|.cons (o_move rfl)<|.cons (o_indexAddr_a 0 rfl rfl rfl (by decide))<|.cons (o_load_s rfl rfl rfl)<|.cons (t_len_r rfl rfl)<|.cons (o_int rfl rfl rfl)<|.nil _) (by kernel_rfl) (by kernel_rfl) ?_
       refine a_cond _ rfl (fun h112=>?_) (fun h112=>?_)
       ·replace hM:=(of_if hM).1 h112
        refine a_exit ?_
        obtain rfl:=Option.some.inj hM
        obtain rfl:=hE22 _ rfl
        exact ⟨(a110,(IntKind.wrap .i64 (a20 + v109.2))),hK22,((Imp.freeze (id:=10077) rfl).trans (Imp.of (fun i=>i) (.cons rfl (DLe.refl _) (.cons rfl (DLe.refl _) .nil)) .nil rfl rfl rfl))⟩
       ·replace hM:=(of_if hM).2 h112
        refine a_skip ?_
        exact ⟨(a110,(IntKind.wrap .i64 (a20 + v109.2)),(IntKind.wrap .i64 (a21 - v109.2))),hM,(Imp.of (fun i=>bif Nat.beq i 10028 then 10082 else bif Nat.beq i 10027 then 10081 else bif Nat.beq i 10026 then 10080 else bif Nat.beq i 10025 then 10079 else bif Nat.beq i 10024 then 10078 else bif Nat.beq i 10023 then 10077 else i) (.cons rfl (DLe.refl _) (.cons rfl (DLe.refl _) (.cons rfl (DLe.refl _) (.cons rfl (DLe.refl _) (.cons rfl (DLe.refl _) (.cons rfl (DLe.refl _) (.cons rfl (DLe.refl _) .nil))))))) (.cons rfl (.refl _) (.cons rfl (.refl _) (.cons rfl (.refl _) (.cons rfl (.refl _) (.cons rfl (.refl _) (.cons rfl (.refl _) (.cons rfl (.refl _) (.cons rfl (.refl _) .nil)))))))) rfl rfl rfl)⟩
     ·replace hM:=(of_if hM).2 (Bool.eq_false_iff.2 h107)
      by_cases h88 : (v30 == 1) = true
      ·replace hM:=(of_if hM).1 h88
       obtain rfl : v30 = 1:=eq_of_beq h88
       obtain ⟨v90,h89,hM⟩ := of_bind hM
       refine a_region (.cons (o_move rfl)<|.cons (o_indexAddr_a 1 rfl rfl rfl (by decide))<|.cons (o_load_s rfl rfl rfl)<|.cons (o_move rfl)<|.cons (o_call (budget_most_c h89) rfl (DLeL.refl _) rfl)<|.cons (o_move rfl)<|.cons (o_extract rfl rfl)<|.cons (o_extract rfl rfl)<|.cons (o_assign rfl)<|.cons (o_assign rfl)<|.nil _) (by kernel_rfl) (by kernel_rfl) ?_
       refine a_cut (α:=(List Bool)) (fun s=>⟨[(4,.row 10065),(5,.int .i64 a20),(6,.ref 6 0),(7,.ref 7 0),(12,.int .i64 a21),(14,.int .u8 1),(15,.int .i64 v90.1),(16,.int .i64 v90.2),(65,.agg [.int .u8 1,.int .u8 2,.int .u8 3,.int .u8 4,.int .u8 0]),(66,.int .i64 (k18 : Int))],[(6,some (.blk 168 [.row 10066,.row 10067,.row 10068,.row 10069,.row 10070])),(7,some (.blk 168 [.sl 1 (List.map (DV.int .i64) a9),.sl 1 (List.map (DV.int .i64) a10),.sl 1 (List.map (DV.int .i64) a11),.sl 1 (List.map (DV.int .i64) a12),.sl 1 (List.map (DV.int .i64) a13)])),(10065,some (.row 4 1 (List.map DV.bool s))),(10066,some (.row 3 1 (List.map (DV.int .i64) a4))),(10067,some (.row 3 1 (List.map (DV.int .i64) a5))),(10068,some (.row 3 1 (List.map (DV.int .i64) a6))),(10069,some (.row 3 1 (List.map (DV.int .i64) a7))),(10070,some (.row 3 1 (List.map (DV.int .i64) a8)))],[6,7,10065,10066,10067,10068,10069,10070]⟩) (fun s=>budget_Plan_K92 a5 a20 a21 v90 s = some t23) ?_ ?_
       ·refine a_seq ?_
        obtain ⟨v95,h94,hM⟩ := of_bind hM
        refine a_region (.cons (o_move rfl)<|.cons (o_indexAddr_a 1 rfl rfl rfl (by decide))<|.cons (o_load_s rfl rfl rfl)<|.cons (t_len_r rfl rfl)<|.cons (o_move rfl)<|.cons (o_call (budget_Spread_c h94) rfl (DLeL.refl _) rfl)<|.cons (t_len rfl)<|.cons (o_move rfl)<|.nil _) (by kernel_rfl) (by kernel_rfl) ?_
        obtain ⟨a97,hL98,hK98⟩ := of_bind hM
        refine a_block ?_
        refine a_fold (fun k96 s=>⟨[(4,.row 10071),(5,.int .i64 a20),(6,.ref 6 0),(7,.ref 7 0),(12,.int .i64 a21),(14,.int .u8 1),(15,.int .i64 v90.1),(16,.int .i64 v90.2),(65,.agg [.int .u8 1,.int .u8 2,.int .u8 3,.int .u8 4,.int .u8 0]),(66,.int .i64 (k18 : Int)),(82,.sl 1 (List.map (DV.int .i64) v95)),(83,.int .i64 (List.length v95 : Int)),(84,.int .i64 (k96 : Int))],[(6,some (.blk 168 [.row 10072,.row 10073,.row 10074,.row 10075,.row 10076])),(7,some (.blk 168 [.sl 1 (List.map (DV.int .i64) a9),.sl 1 (List.map (DV.int .i64) a10),.sl 1 (List.map (DV.int .i64) a11),.sl 1 (List.map (DV.int .i64) a12),.sl 1 (List.map (DV.int .i64) a13)])),(10071,some (.row 4 1 (List.map DV.bool s))),(10072,some (.row 3 1 (List.map (DV.int .i64) a4))),(10073,some (.row 3 1 (List.map (DV.int .i64) a5))),(10074,some (.row 3 1 (List.map (DV.int .i64) a6))),(10075,some (.row 3 1 (List.map (DV.int .i64) a7))),(10076,some (.row 3 1 (List.map (DV.int .i64) a8)))],[6,7,10071,10072,10073,10074,10075,10076]⟩) _ hL98 (Imp.of (fun i=>bif Nat.beq i 10076 then 10017 else bif Nat.beq i 10075 then 10016 else bif Nat.beq i 10074 then 10015 else bif Nat.beq i 10073 then 10014 else bif Nat.beq i 10072 then 10013 else bif Nat.beq i 10071 then 10012 else i) (.cons rfl (DLe.refl _) (.cons rfl (DLe.refl _) (.cons rfl (DLe.refl _) (.cons rfl (DLe.refl _) (.cons rfl (DLe.refl _) (.cons rfl (DLe.refl _) (.cons rfl (DLe.refl _) (.cons rfl (DLe.refl _) (.cons rfl (DLe.refl _) (.cons rfl (DLe.refl _) (.cons rfl (DLe.refl _) (.cons rfl (DLe.refl _) (.cons rfl (DLe.refl _) .nil))))))))))))) (.cons rfl (.refl _) (.cons rfl (.refl _) (.cons rfl (.refl _) (.cons rfl (.refl _) (.cons rfl (.refl _) (.cons rfl (.refl _) (.cons rfl (.refl _) (.cons rfl (.refl _) .nil)))))))) rfl rfl rfl) ?_ ?_
        ·rintro k96 a97 t99 hk96 hx96 hM
         replace hM : budget_Plan_L98 a5 v95 k96 a97 = some t99:=hM
         unfold budget_Plan_L98 at hM
         refine a_seq ?_
         refine a_region (.cons (o_int rfl rfl rfl)<|.nil _) (by kernel_rfl) (by kernel_rfl) ?_
         refine a_seq ?_
         refine a_cond _ rfl (fun _=>?_) (fun c=>absurd hk96 (of_decide_eq_false c))
         refine a_skip ?_
         refine a_seq ?_
         refine a_block ?_
         refine a_seq ?_
         obtain ⟨v102,h101,hM⟩ := of_bind hM
         refine a_region (.cons (t_index h101 rfl rfl rfl)<|.cons (o_load_es rfl rfl)<|.cons (o_assign rfl)<|.nil _) (by kernel_rfl) (by kernel_rfl) ?_
         obtain ⟨v104,h103,hM⟩ := of_bind hM
         obtain ⟨v106,h105,hM⟩ := of_bind hM
         refine a_region (.cons (o_move rfl)<|.cons (o_move rfl)<|.cons (o_indexAddr_a 1 rfl rfl rfl (by decide))<|.cons (o_load_s rfl rfl rfl)<|.cons (o_move rfl)<|.cons (t_index_r h103 rfl rfl rfl)<|.cons (t_load_ps h103 rfl rfl rfl rfl)<|.cons (t_index_r h105 rfl rfl rfl)<|.cons (t_store_p true h105 rfl rfl rfl rfl rfl rfl rfl rfl rfl rfl rfl)<|.nil _) (by kernel_rfl) (by kernel_rfl) ?_
         refine a_region (.cons (o_add rfl rfl (inR_i64 hk96 hx96))<|.cons (o_move rfl)<|.nil _) (by kernel_rfl) (by kernel_rfl) ?_
         obtain rfl:=Option.some.inj hM
         exact (Imp.of (fun i=>i) (.cons rfl (DLe.refl _) (.cons rfl (DLe.refl _) (.cons rfl (DLe.refl _) (.cons rfl (DLe.refl _) (.cons rfl (DLe.refl _) (.cons rfl (DLe.refl _) (.cons rfl (DLe.refl _) (.cons rfl (DLe.refl _) (.cons rfl (DLe.refl _) (.cons rfl (DLe.refl _) (.cons rfl (DLe.refl _) (.cons rfl (DLe.refl _) (.cons rfl (DLe.succ _ _) .nil))))))))))))) (.cons rfl (.refl _) (.cons rfl (.refl _) (.cons rfl (.refl _) (.cons rfl (.refl _) (.cons rfl (.refl _) (.cons rfl (.refl _) (.cons rfl (.refl _) (.cons rfl (.refl _) .nil)))))))) rfl rfl rfl)
        ·rintro k96 hk96 hx96
         refine a_seq ?_
         refine a_region (.cons (o_int rfl rfl rfl)<|.nil _) (by kernel_rfl) (by kernel_rfl) ?_
         refine a_seq ?_
         refine a_cond _ rfl (fun c=>absurd (of_decide_eq_true c) (Int.not_lt.2 hk96)) (fun _=>?_)
         refine a_exit ?_
         exact ⟨a97,hK98,(Imp.of (fun i=>bif Nat.beq i 10070 then 10076 else bif Nat.beq i 10069 then 10075 else bif Nat.beq i 10068 then 10074 else bif Nat.beq i 10067 then 10073 else bif Nat.beq i 10066 then 10072 else bif Nat.beq i 10065 then 10071 else i) (.cons rfl (DLe.refl _) (.cons rfl (DLe.refl _) (.cons rfl (DLe.refl _) (.cons rfl (DLe.refl _) (.cons rfl (DLe.refl _) (.cons rfl (DLe.refl _) (.cons rfl (DLe.refl _) (.cons rfl (DLe.refl _) (.cons rfl (DLe.refl _) (.cons rfl (DLe.refl _) .nil)))))))))) (.cons rfl (.refl _) (.cons rfl (.refl _) (.cons rfl (.refl _) (.cons rfl (.refl _) (.cons rfl (.refl _) (.cons rfl (.refl _) (.cons rfl (.refl _) (.cons rfl (.refl _) .nil)))))))) rfl rfl rfl)⟩
       ·rintro a91 hM
        replace hM : budget_Plan_K92 a5 a20 a21 v90 a91 = some t23:=hM
        unfold budget_Plan_K92 at hM
        refine a_seq ?_
        refine a_region (.cons (o_move rfl)<|.cons (o_move rfl)<|.cons (o_int rfl rfl rfl)<|.cons (o_assign rfl)<|.nil _) (by kernel_rfl) (by kernel_rfl) ?_
        refine a_seq ?_
        refine a_region (.cons (o_move rfl)<|.cons (o_move rfl)<|.cons (o_int rfl rfl rfl)<|.cons (o_assign rfl)<|.nil _) (by kernel_rfl) (by kernel_rfl) ?_
        refine a_seq ?_
        refine a_region (.cons (o_move rfl)<|.cons (o_move rfl)<|.cons (o_indexAddr_a 1 rfl rfl rfl (by decide))<|.cons (o_load_s rfl rfl rfl)<|.cons (t_len_r rfl rfl)<|.cons (o_int rfl rfl rfl)<|.nil _) (by kernel_rfl) (by kernel_rfl) ?_
        refine a_cond _ rfl (fun h93=>?_) (fun h93=>?_)
        ·replace hM:=(of_if hM).1 h93
         refine a_exit ?_
         obtain rfl:=Option.some.inj hM
         obtain rfl:=hE22 _ rfl
         exact ⟨(a91,(IntKind.wrap .i64 (a20 + v90.2))),hK22,((Imp.freeze (id:=10065) rfl).trans (Imp.of (fun i=>i) (.cons rfl (DLe.refl _) (.cons rfl (DLe.refl _) .nil)) .nil rfl rfl rfl))⟩
        ·replace hM:=(of_if hM).2 h93
         refine a_skip ?_
         exact ⟨(a91,(IntKind.wrap .i64 (a20 + v90.2)),(IntKind.wrap .i64 (a21 - v90.2))),hM,(Imp.of (fun i=>bif Nat.beq i 10028 then 10070 else bif Nat.beq i 10027 then 10069 else bif Nat.beq i 10026 then 10068 else bif Nat.beq i 10025 then 10067 else bif Nat.beq i 10024 then 10066 else bif Nat.beq i 10023 then 10065 else i) (.cons rfl (DLe.refl _) (.cons rfl (DLe.refl _) (.cons rfl (DLe.refl _) (.cons rfl (DLe.refl _) (.cons rfl (DLe.refl _) (.cons rfl (DLe.refl _) (.cons rfl (DLe.refl _) .nil))))))) (.cons rfl (.refl _) (.cons rfl (.refl _) (.cons rfl (.refl _) (.cons rfl (.refl _) (.cons rfl (.refl _) (.cons rfl (.refl _) (.cons rfl (.refl _) (.cons rfl (.refl _) .nil)))))))) rfl rfl rfl)⟩
      ·replace hM:=(of_if hM).2 (Bool.eq_false_iff.2 h88)
       by_cases h69 : (v30 == 2) = true
       ·replace hM:=(of_if hM).1 h69
        obtain rfl : v30 = 2:=eq_of_beq h69
        obtain ⟨v71,h70,hM⟩ := of_bind hM
        refine a_region (.cons (o_move rfl)<|.cons (o_indexAddr_a 2 rfl rfl rfl (by decide))<|.cons (o_load_s rfl rfl rfl)<|.cons (o_move rfl)<|.cons (o_call (budget_most_c h70) rfl (DLeL.refl _) rfl)<|.cons (o_move rfl)<|.cons (o_extract rfl rfl)<|.cons (o_extract rfl rfl)<|.cons (o_assign rfl)<|.cons (o_assign rfl)<|.nil _) (by kernel_rfl) (by kernel_rfl) ?_
        refine a_cut (α:=(List Bool)) (fun s=>⟨[(4,.row 10053),(5,.int .i64 a20),(6,.ref 6 0),(7,.ref 7 0),(12,.int .i64 a21),(14,.int .u8 2),(15,.int .i64 v71.1),(16,.int .i64 v71.2),(65,.agg [.int .u8 1,.int .u8 2,.int .u8 3,.int .u8 4,.int .u8 0]),(66,.int .i64 (k18 : Int))],[(6,some (.blk 168 [.row 10054,.row 10055,.row 10056,.row 10057,.row 10058])),(7,some (.blk 168 [.sl 1 (List.map (DV.int .i64) a9),.sl 1 (List.map (DV.int .i64) a10),.sl 1 (List.map (DV.int .i64) a11),.sl 1 (List.map (DV.int .i64) a12),.sl 1 (List.map (DV.int .i64) a13)])),(10053,some (.row 4 1 (List.map DV.bool s))),(10054,some (.row 3 1 (List.map (DV.int .i64) a4))),(10055,some (.row 3 1 (List.map (DV.int .i64) a5))),(10056,some (.row 3 1 (List.map (DV.int .i64) a6))),(10057,some (.row 3 1 (List.map (DV.int .i64) a7))),(10058,some (.row 3 1 (List.map (DV.int .i64) a8)))],[6,7,10053,10054,10055,10056,10057,10058]⟩) (fun s=>budget_Plan_K73 a6 a20 a21 v71 s = some t23) ?_ ?_
        ·refine a_seq ?_
         obtain ⟨v76,h75,hM⟩ := of_bind hM
         refine a_region (.cons (o_move rfl)<|.cons (o_indexAddr_a 2 rfl rfl rfl (by decide))<|.cons (o_load_s rfl rfl rfl)<|.cons (t_len_r rfl rfl)<|.cons (o_move rfl)<|.cons (o_call (budget_Spread_c h75) rfl (DLeL.refl _) rfl)<|.cons (t_len rfl)<|.cons (o_move rfl)<|.nil _) (by kernel_rfl) (by kernel_rfl) ?_
         obtain ⟨a78,hL79,hK79⟩ := of_bind hM
         refine a_block ?_
         refine a_fold (fun k77 s=>⟨[(4,.row 10059),(5,.int .i64 a20),(6,.ref 6 0),(7,.ref 7 0),(12,.int .i64 a21),(14,.int .u8 2),(15,.int .i64 v71.1),(16,.int .i64 v71.2),(65,.agg [.int .u8 1,.int .u8 2,.int .u8 3,.int .u8 4,.int .u8 0]),(66,.int .i64 (k18 : Int)),(82,.sl 1 (List.map (DV.int .i64) v76)),(83,.int .i64 (List.length v76 : Int)),(84,.int .i64 (k77 : Int))],[(6,some (.blk 168 [.row 10060,.row 10061,.row 10062,.row 10063,.row 10064])),(7,some (.blk 168 [.sl 1 (List.map (DV.int .i64) a9),.sl 1 (List.map (DV.int .i64) a10),.sl 1 (List.map (DV.int .i64) a11),.sl 1 (List.map (DV.int .i64) a12),.sl 1 (List.map (DV.int .i64) a13)])),(10059,some (.row 4 1 (List.map DV.bool s))),(10060,some (.row 3 1 (List.map (DV.int .i64) a4))),(10061,some (.row 3 1 (List.map (DV.int .i64) a5))),(10062,some (.row 3 1 (List.map (DV.int .i64) a6))),(10063,some (.row 3 1 (List.map (DV.int .i64) a7))),(10064,some (.row 3 1 (List.map (DV.int .i64) a8)))],[6,7,10059,10060,10061,10062,10063,10064]⟩) _ hL79 (Imp.of (fun i=>bif Nat.beq i 10064 then 10017 else bif Nat.beq i 10063 then 10016 else bif Nat.beq i 10062 then 10015 else bif Nat.beq i 10061 then 10014 else bif Nat.beq i 10060 then 10013 else bif Nat.beq i 10059 then 10012 else i) (.cons rfl (DLe.refl _) (.cons rfl (DLe.refl _) (.cons rfl (DLe.refl _) (.cons rfl (DLe.refl _) (.cons rfl (DLe.refl _) (.cons rfl (DLe.refl _) (.cons rfl (DLe.refl _) (.cons rfl (DLe.refl _) (.cons rfl (DLe.refl _) (.cons rfl (DLe.refl _) (.cons rfl (DLe.refl _) (.cons rfl (DLe.refl _) (.cons rfl (DLe.refl _) .nil))))))))))))) (.cons rfl (.refl _) (.cons rfl (.refl _) (.cons rfl (.refl _) (.cons rfl (.refl _) (.cons rfl (.refl _) (.cons rfl (.refl _) (.cons rfl (.refl _) (.cons rfl (.refl _) .nil)))))))) rfl rfl rfl) ?_ ?_
         ·rintro k77 a78 t80 hk77 hx77 hM
          replace hM : budget_Plan_L79 a6 v76 k77 a78 = some t80:=hM
          unfold budget_Plan_L79 at hM
          refine a_seq ?_
          refine a_region (.cons (o_int rfl rfl rfl)<|.nil _) (by kernel_rfl) (by kernel_rfl) ?_
          refine a_seq ?_
          refine a_cond _ rfl (fun _=>?_) (fun c=>absurd hk77 (of_decide_eq_false c))
          refine a_skip ?_
          refine a_seq ?_
          refine a_block ?_
          refine a_seq ?_
          obtain ⟨v83,h82,hM⟩ := of_bind hM
          refine a_region (.cons (t_index h82 rfl rfl rfl)<|.cons (o_load_es rfl rfl)<|.cons (o_assign rfl)<|.nil _) (by kernel_rfl) (by kernel_rfl) ?_
          obtain ⟨v85,h84,hM⟩ := of_bind hM
          obtain ⟨v87,h86,hM⟩ := of_bind hM
          refine a_region (.cons (o_move rfl)<|.cons (o_move rfl)<|.cons (o_indexAddr_a 2 rfl rfl rfl (by decide))<|.cons (o_load_s rfl rfl rfl)<|.cons (o_move rfl)<|.cons (t_index_r h84 rfl rfl rfl)<|.cons (t_load_ps h84 rfl rfl rfl rfl)<|.cons (t_index_r h86 rfl rfl rfl)<|.cons (t_store_p true h86 rfl rfl rfl rfl rfl rfl rfl rfl rfl rfl rfl)<|.nil _) (by kernel_rfl) (by kernel_rfl) ?_
          refine a_region (.cons (o_add rfl rfl (inR_i64 hk77 hx77))<|.cons (o_move rfl)<|.nil _) (by kernel_rfl) (by kernel_rfl) ?_
          obtain rfl:=Option.some.inj hM
          exact (Imp.of (fun i=>i) (.cons rfl (DLe.refl _) (.cons rfl (DLe.refl _) (.cons rfl (DLe.refl _) (.cons rfl (DLe.refl _) (.cons rfl (DLe.refl _) (.cons rfl (DLe.refl _) (.cons rfl (DLe.refl _) (.cons rfl (DLe.refl _) (.cons rfl (DLe.refl _) (.cons rfl (DLe.refl _) (.cons rfl (DLe.refl _) (.cons rfl (DLe.refl _) (.cons rfl (DLe.succ _ _) .nil))))))))))))) (.cons rfl (.refl _) (.cons rfl (.refl _) (.cons rfl (.refl _) (.cons rfl (.refl _) (.cons rfl (.refl _) (.cons rfl (.refl _) (.cons rfl (.refl _) (.cons rfl (.refl _) .nil)))))))) rfl rfl rfl)
         ·rintro k77 hk77 hx77
          refine a_seq ?_
          refine a_region (.cons (o_int rfl rfl rfl)<|.nil _) (by kernel_rfl) (by kernel_rfl) ?_
          refine a_seq ?_
          refine a_cond _ rfl (fun c=>absurd (of_decide_eq_true c) (Int.not_lt.2 hk77)) (fun _=>?_)
          refine a_exit ?_
          exact ⟨a78,hK79,(Imp.of (fun i=>bif Nat.beq i 10058 then 10064 else bif Nat.beq i 10057 then 10063 else bif Nat.beq i 10056 then 10062 else bif Nat.beq i 10055 then 10061 else bif Nat.beq i 10054 then 10060 else bif Nat.beq i 10053 then 10059 else i) (.cons rfl (DLe.refl _) (.cons rfl (DLe.refl _) (.cons rfl (DLe.refl _) (.cons rfl (DLe.refl _) (.cons rfl (DLe.refl _) (.cons rfl (DLe.refl _) (.cons rfl (DLe.refl _) (.cons rfl (DLe.refl _) (.cons rfl (DLe.refl _) (.cons rfl (DLe.refl _) .nil)))))))))) (.cons rfl (.refl _) (.cons rfl (.refl _) (.cons rfl (.refl _) (.cons rfl (.refl _) (.cons rfl (.refl _) (.cons rfl (.refl _) (.cons rfl (.refl _) (.cons rfl (.refl _) .nil)))))))) rfl rfl rfl)⟩
        ·rintro a72 hM
         replace hM : budget_Plan_K73 a6 a20 a21 v71 a72 = some t23:=hM
         unfold budget_Plan_K73 at hM
         refine a_seq ?_
         refine a_region (.cons (o_move rfl)<|.cons (o_move rfl)<|.cons (o_int rfl rfl rfl)<|.cons (o_assign rfl)<|.nil _) (by kernel_rfl) (by kernel_rfl) ?_
         refine a_seq ?_
         refine a_region (.cons (o_move rfl)<|.cons (o_move rfl)<|.cons (o_int rfl rfl rfl)<|.cons (o_assign rfl)<|.nil _) (by kernel_rfl) (by kernel_rfl) ?_
         refine a_seq ?_
         refine a_region (.cons (o_move rfl)<|.cons (o_move rfl)<|.cons (o_indexAddr_a 2 rfl rfl rfl (by decide))<|.cons (o_load_s rfl rfl rfl)<|.cons (t_len_r rfl rfl)<|.cons (o_int rfl rfl rfl)<|.nil _) (by kernel_rfl) (by kernel_rfl) ?_
         refine a_cond _ rfl (fun h74=>?_) (fun h74=>?_)
         ·replace hM:=(of_if hM).1 h74
          refine a_exit ?_
          obtain rfl:=Option.some.inj hM
          obtain rfl:=hE22 _ rfl
          exact ⟨(a72,(IntKind.wrap .i64 (a20 + v71.2))),hK22,((Imp.freeze (id:=10053) rfl).trans (Imp.of (fun i=>i) (.cons rfl (DLe.refl _) (.cons rfl (DLe.refl _) .nil)) .nil rfl rfl rfl))⟩
         ·replace hM:=(of_if hM).2 h74
          refine a_skip ?_
          exact ⟨(a72,(IntKind.wrap .i64 (a20 + v71.2)),(IntKind.wrap .i64 (a21 - v71.2))),hM,(Imp.of (fun i=>bif Nat.beq i 10028 then 10058 else bif Nat.beq i 10027 then 10057 else bif Nat.beq i 10026 then 10056 else bif Nat.beq i 10025 then 10055 else bif Nat.beq i 10024 then 10054 else bif Nat.beq i 10023 then 10053 else i) (.cons rfl (DLe.refl _) (.cons rfl (DLe.refl _) (.cons rfl (DLe.refl _) (.cons rfl (DLe.refl _) (.cons rfl (DLe.refl _) (.cons rfl (DLe.refl _) (.cons rfl (DLe.refl _) .nil))))))) (.cons rfl (.refl _) (.cons rfl (.refl _) (.cons rfl (.refl _) (.cons rfl (.refl _) (.cons rfl (.refl _) (.cons rfl (.refl _) (.cons rfl (.refl _) (.cons rfl (.refl _) .nil)))))))) rfl rfl rfl)⟩
       ·replace hM:=(of_if hM).2 (Bool.eq_false_iff.2 h69)
        by_cases h50 : (v30 == 3) = true
        ·replace hM:=(of_if hM).1 h50
         obtain rfl : v30 = 3:=eq_of_beq h50
         obtain ⟨v52,h51,hM⟩ := of_bind hM
         refine a_region (.cons (o_move rfl)<|.cons (o_indexAddr_a 3 rfl rfl rfl (by decide))<|.cons (o_load_s rfl rfl rfl)<|.cons (o_move rfl)<|.cons (o_call (budget_most_c h51) rfl (DLeL.refl _) rfl)<|.cons (o_move rfl)<|.cons (o_extract rfl rfl)<|.cons (o_extract rfl rfl)<|.cons (o_assign rfl)<|.cons (o_assign rfl)<|.nil _) (by kernel_rfl) (by kernel_rfl) ?_
         refine a_cut (α:=(List Bool)) (fun s=>⟨[(4,.row 10041),(5,.int .i64 a20),(6,.ref 6 0),(7,.ref 7 0),(12,.int .i64 a21),(14,.int .u8 3),(15,.int .i64 v52.1),(16,.int .i64 v52.2),(65,.agg [.int .u8 1,.int .u8 2,.int .u8 3,.int .u8 4,.int .u8 0]),(66,.int .i64 (k18 : Int))],[(6,some (.blk 168 [.row 10042,.row 10043,.row 10044,.row 10045,.row 10046])),(7,some (.blk 168 [.sl 1 (List.map (DV.int .i64) a9),.sl 1 (List.map (DV.int .i64) a10),.sl 1 (List.map (DV.int .i64) a11),.sl 1 (List.map (DV.int .i64) a12),.sl 1 (List.map (DV.int .i64) a13)])),(10041,some (.row 4 1 (List.map DV.bool s))),(10042,some (.row 3 1 (List.map (DV.int .i64) a4))),(10043,some (.row 3 1 (List.map (DV.int .i64) a5))),(10044,some (.row 3 1 (List.map (DV.int .i64) a6))),(10045,some (.row 3 1 (List.map (DV.int .i64) a7))),(10046,some (.row 3 1 (List.map (DV.int .i64) a8)))],[6,7,10041,10042,10043,10044,10045,10046]⟩) (fun s=>budget_Plan_K54 a7 a20 a21 v52 s = some t23) ?_ ?_
         ·refine a_seq ?_
          obtain ⟨v57,h56,hM⟩ := of_bind hM
          refine a_region (.cons (o_move rfl)<|.cons (o_indexAddr_a 3 rfl rfl rfl (by decide))<|.cons (o_load_s rfl rfl rfl)<|.cons (t_len_r rfl rfl)<|.cons (o_move rfl)<|.cons (o_call (budget_Spread_c h56) rfl (DLeL.refl _) rfl)<|.cons (t_len rfl)<|.cons (o_move rfl)<|.nil _) (by kernel_rfl) (by kernel_rfl) ?_
          obtain ⟨a59,hL60,hK60⟩ := of_bind hM
          refine a_block ?_
          refine a_fold (fun k58 s=>⟨[(4,.row 10047),(5,.int .i64 a20),(6,.ref 6 0),(7,.ref 7 0),(12,.int .i64 a21),(14,.int .u8 3),(15,.int .i64 v52.1),(16,.int .i64 v52.2),(65,.agg [.int .u8 1,.int .u8 2,.int .u8 3,.int .u8 4,.int .u8 0]),(66,.int .i64 (k18 : Int)),(82,.sl 1 (List.map (DV.int .i64) v57)),(83,.int .i64 (List.length v57 : Int)),(84,.int .i64 (k58 : Int))],[(6,some (.blk 168 [.row 10048,.row 10049,.row 10050,.row 10051,.row 10052])),(7,some (.blk 168 [.sl 1 (List.map (DV.int .i64) a9),.sl 1 (List.map (DV.int .i64) a10),.sl 1 (List.map (DV.int .i64) a11),.sl 1 (List.map (DV.int .i64) a12),.sl 1 (List.map (DV.int .i64) a13)])),(10047,some (.row 4 1 (List.map DV.bool s))),(10048,some (.row 3 1 (List.map (DV.int .i64) a4))),(10049,some (.row 3 1 (List.map (DV.int .i64) a5))),(10050,some (.row 3 1 (List.map (DV.int .i64) a6))),(10051,some (.row 3 1 (List.map (DV.int .i64) a7))),(10052,some (.row 3 1 (List.map (DV.int .i64) a8)))],[6,7,10047,10048,10049,10050,10051,10052]⟩) _ hL60 (Imp.of (fun i=>bif Nat.beq i 10052 then 10017 else bif Nat.beq i 10051 then 10016 else bif Nat.beq i 10050 then 10015 else bif Nat.beq i 10049 then 10014 else bif Nat.beq i 10048 then 10013 else bif Nat.beq i 10047 then 10012 else i) (.cons rfl (DLe.refl _) (.cons rfl (DLe.refl _) (.cons rfl (DLe.refl _) (.cons rfl (DLe.refl _) (.cons rfl (DLe.refl _) (.cons rfl (DLe.refl _) (.cons rfl (DLe.refl _) (.cons rfl (DLe.refl _) (.cons rfl (DLe.refl _) (.cons rfl (DLe.refl _) (.cons rfl (DLe.refl _) (.cons rfl (DLe.refl _) (.cons rfl (DLe.refl _) .nil))))))))))))) (.cons rfl (.refl _) (.cons rfl (.refl _) (.cons rfl (.refl _) (.cons rfl (.refl _) (.cons rfl (.refl _) (.cons rfl (.refl _) (.cons rfl (.refl _) (.cons rfl (.refl _) .nil)))))))) rfl rfl rfl) ?_ ?_
          ·rintro k58 a59 t61 hk58 hx58 hM
           replace hM : budget_Plan_L60 a7 v57 k58 a59 = some t61:=hM
           unfold budget_Plan_L60 at hM
           refine a_seq ?_
           refine a_region (.cons (o_int rfl rfl rfl)<|.nil _) (by kernel_rfl) (by kernel_rfl) ?_
           refine a_seq ?_
           refine a_cond _ rfl (fun _=>?_) (fun c=>absurd hk58 (of_decide_eq_false c))
           refine a_skip ?_
           refine a_seq ?_
           refine a_block ?_
           refine a_seq ?_
           obtain ⟨v64,h63,hM⟩ := of_bind hM
           refine a_region (.cons (t_index h63 rfl rfl rfl)<|.cons (o_load_es rfl rfl)<|.cons (o_assign rfl)<|.nil _) (by kernel_rfl) (by kernel_rfl) ?_
           obtain ⟨v66,h65,hM⟩ := of_bind hM
           obtain ⟨v68,h67,hM⟩ := of_bind hM
           refine a_region (.cons (o_move rfl)<|.cons (o_move rfl)<|.cons (o_indexAddr_a 3 rfl rfl rfl (by decide))<|.cons (o_load_s rfl rfl rfl)<|.cons (o_move rfl)<|.cons (t_index_r h65 rfl rfl rfl)<|.cons (t_load_ps h65 rfl rfl rfl rfl)<|.cons (t_index_r h67 rfl rfl rfl)<|.cons (t_store_p true h67 rfl rfl rfl rfl rfl rfl rfl rfl rfl rfl rfl)<|.nil _) (by kernel_rfl) (by kernel_rfl) ?_
           refine a_region (.cons (o_add rfl rfl (inR_i64 hk58 hx58))<|.cons (o_move rfl)<|.nil _) (by kernel_rfl) (by kernel_rfl) ?_
           obtain rfl:=Option.some.inj hM
           exact (Imp.of (fun i=>i) (.cons rfl (DLe.refl _) (.cons rfl (DLe.refl _) (.cons rfl (DLe.refl _) (.cons rfl (DLe.refl _) (.cons rfl (DLe.refl _) (.cons rfl (DLe.refl _) (.cons rfl (DLe.refl _) (.cons rfl (DLe.refl _) (.cons rfl (DLe.refl _) (.cons rfl (DLe.refl _) (.cons rfl (DLe.refl _) (.cons rfl (DLe.refl _) (.cons rfl (DLe.succ _ _) .nil))))))))))))) (.cons rfl (.refl _) (.cons rfl (.refl _) (.cons rfl (.refl _) (.cons rfl (.refl _) (.cons rfl (.refl _) (.cons rfl (.refl _) (.cons rfl (.refl _) (.cons rfl (.refl _) .nil)))))))) rfl rfl rfl)
          ·rintro k58 hk58 hx58
           refine a_seq ?_
           refine a_region (.cons (o_int rfl rfl rfl)<|.nil _) (by kernel_rfl) (by kernel_rfl) ?_
           refine a_seq ?_
           refine a_cond _ rfl (fun c=>absurd (of_decide_eq_true c) (Int.not_lt.2 hk58)) (fun _=>?_)
           refine a_exit ?_
           exact ⟨a59,hK60,(Imp.of (fun i=>bif Nat.beq i 10046 then 10052 else bif Nat.beq i 10045 then 10051 else bif Nat.beq i 10044 then 10050 else bif Nat.beq i 10043 then 10049 else bif Nat.beq i 10042 then 10048 else bif Nat.beq i 10041 then 10047 else i) (.cons rfl (DLe.refl _) (.cons rfl (DLe.refl _) (.cons rfl (DLe.refl _) (.cons rfl (DLe.refl _) (.cons rfl (DLe.refl _) (.cons rfl (DLe.refl _) (.cons rfl (DLe.refl _) (.cons rfl (DLe.refl _) (.cons rfl (DLe.refl _) (.cons rfl (DLe.refl _) .nil)))))))))) (.cons rfl (.refl _) (.cons rfl (.refl _) (.cons rfl (.refl _) (.cons rfl (.refl _) (.cons rfl (.refl _) (.cons rfl (.refl _) (.cons rfl (.refl _) (.cons rfl (.refl _) .nil)))))))) rfl rfl rfl)⟩
         ·rintro a53 hM
          replace hM : budget_Plan_K54 a7 a20 a21 v52 a53 = some t23:=hM
          unfold budget_Plan_K54 at hM
          refine a_seq ?_
          refine a_region (.cons (o_move rfl)<|.cons (o_move rfl)<|.cons (o_int rfl rfl rfl)<|.cons (o_assign rfl)<|.nil _) (by kernel_rfl) (by kernel_rfl) ?_
          refine a_seq ?_
          refine a_region (.cons (o_move rfl)<|.cons (o_move rfl)<|.cons (o_int rfl rfl rfl)<|.cons (o_assign rfl)<|.nil _) (by kernel_rfl) (by kernel_rfl) ?_
          refine a_seq ?_
          refine a_region (.cons (o_move rfl)<|.cons (o_move rfl)<|.cons (o_indexAddr_a 3 rfl rfl rfl (by decide))<|.cons (o_load_s rfl rfl rfl)<|.cons (t_len_r rfl rfl)<|.cons (o_int rfl rfl rfl)<|.nil _) (by kernel_rfl) (by kernel_rfl) ?_
          refine a_cond _ rfl (fun h55=>?_) (fun h55=>?_)
          ·replace hM:=(of_if hM).1 h55
           refine a_exit ?_
           obtain rfl:=Option.some.inj hM
           obtain rfl:=hE22 _ rfl
           exact ⟨(a53,(IntKind.wrap .i64 (a20 + v52.2))),hK22,((Imp.freeze (id:=10041) rfl).trans (Imp.of (fun i=>i) (.cons rfl (DLe.refl _) (.cons rfl (DLe.refl _) .nil)) .nil rfl rfl rfl))⟩
          ·replace hM:=(of_if hM).2 h55
           refine a_skip ?_
           exact ⟨(a53,(IntKind.wrap .i64 (a20 + v52.2)),(IntKind.wrap .i64 (a21 - v52.2))),hM,(Imp.of (fun i=>bif Nat.beq i 10028 then 10046 else bif Nat.beq i 10027 then 10045 else bif Nat.beq i 10026 then 10044 else bif Nat.beq i 10025 then 10043 else bif Nat.beq i 10024 then 10042 else bif Nat.beq i 10023 then 10041 else i) (.cons rfl (DLe.refl _) (.cons rfl (DLe.refl _) (.cons rfl (DLe.refl _) (.cons rfl (DLe.refl _) (.cons rfl (DLe.refl _) (.cons rfl (DLe.refl _) (.cons rfl (DLe.refl _) .nil))))))) (.cons rfl (.refl _) (.cons rfl (.refl _) (.cons rfl (.refl _) (.cons rfl (.refl _) (.cons rfl (.refl _) (.cons rfl (.refl _) (.cons rfl (.refl _) (.cons rfl (.refl _) .nil)))))))) rfl rfl rfl)⟩
        ·replace hM:=(of_if hM).2 (Bool.eq_false_iff.2 h50)
         by_cases h31 : (v30 == 4) = true
         ·replace hM:=(of_if hM).1 h31
          obtain rfl : v30 = 4:=eq_of_beq h31
          obtain ⟨v33,h32,hM⟩ := of_bind hM
          refine a_region (.cons (o_move rfl)<|.cons (o_indexAddr_a 4 rfl rfl rfl (by decide))<|.cons (o_load_s rfl rfl rfl)<|.cons (o_move rfl)<|.cons (o_call (budget_most_c h32) rfl (DLeL.refl _) rfl)<|.cons (o_move rfl)<|.cons (o_extract rfl rfl)<|.cons (o_extract rfl rfl)<|.cons (o_assign rfl)<|.cons (o_assign rfl)<|.nil _) (by kernel_rfl) (by kernel_rfl) ?_
          refine a_cut (α:=(List Bool)) (fun s=>⟨[(4,.row 10029),(5,.int .i64 a20),(6,.ref 6 0),(7,.ref 7 0),(12,.int .i64 a21),(14,.int .u8 4),(15,.int .i64 v33.1),(16,.int .i64 v33.2),(65,.agg [.int .u8 1,.int .u8 2,.int .u8 3,.int .u8 4,.int .u8 0]),(66,.int .i64 (k18 : Int))],[(6,some (.blk 168 [.row 10030,.row 10031,.row 10032,.row 10033,.row 10034])),(7,some (.blk 168 [.sl 1 (List.map (DV.int .i64) a9),.sl 1 (List.map (DV.int .i64) a10),.sl 1 (List.map (DV.int .i64) a11),.sl 1 (List.map (DV.int .i64) a12),.sl 1 (List.map (DV.int .i64) a13)])),(10029,some (.row 4 1 (List.map DV.bool s))),(10030,some (.row 3 1 (List.map (DV.int .i64) a4))),(10031,some (.row 3 1 (List.map (DV.int .i64) a5))),(10032,some (.row 3 1 (List.map (DV.int .i64) a6))),(10033,some (.row 3 1 (List.map (DV.int .i64) a7))),(10034,some (.row 3 1 (List.map (DV.int .i64) a8)))],[6,7,10029,10030,10031,10032,10033,10034]⟩) (fun s=>budget_Plan_K35 a8 a20 a21 v33 s = some t23) ?_ ?_
          ·refine a_seq ?_
           obtain ⟨v38,h37,hM⟩ := of_bind hM
           refine a_region (.cons (o_move rfl)<|.cons (o_indexAddr_a 4 rfl rfl rfl (by decide))<|.cons (o_load_s rfl rfl rfl)<|.cons (t_len_r rfl rfl)<|.cons (o_move rfl)<|.cons (o_call (budget_Spread_c h37) rfl (DLeL.refl _) rfl)<|.cons (t_len rfl)<|.cons (o_move rfl)<|.nil _) (by kernel_rfl) (by kernel_rfl) ?_
           obtain ⟨a40,hL41,hK41⟩ := of_bind hM
           refine a_block ?_
           refine a_fold (fun k39 s=>⟨[(4,.row 10035),(5,.int .i64 a20),(6,.ref 6 0),(7,.ref 7 0),(12,.int .i64 a21),(14,.int .u8 4),(15,.int .i64 v33.1),(16,.int .i64 v33.2),(65,.agg [.int .u8 1,.int .u8 2,.int .u8 3,.int .u8 4,.int .u8 0]),(66,.int .i64 (k18 : Int)),(82,.sl 1 (List.map (DV.int .i64) v38)),(83,.int .i64 (List.length v38 : Int)),(84,.int .i64 (k39 : Int))],[(6,some (.blk 168 [.row 10036,.row 10037,.row 10038,.row 10039,.row 10040])),(7,some (.blk 168 [.sl 1 (List.map (DV.int .i64) a9),.sl 1 (List.map (DV.int .i64) a10),.sl 1 (List.map (DV.int .i64) a11),.sl 1 (List.map (DV.int .i64) a12),.sl 1 (List.map (DV.int .i64) a13)])),(10035,some (.row 4 1 (List.map DV.bool s))),(10036,some (.row 3 1 (List.map (DV.int .i64) a4))),(10037,some (.row 3 1 (List.map (DV.int .i64) a5))),(10038,some (.row 3 1 (List.map (DV.int .i64) a6))),(10039,some (.row 3 1 (List.map (DV.int .i64) a7))),(10040,some (.row 3 1 (List.map (DV.int .i64) a8)))],[6,7,10035,10036,10037,10038,10039,10040]⟩) _ hL41 (Imp.of (fun i=>bif Nat.beq i 10040 then 10017 else bif Nat.beq i 10039 then 10016 else bif Nat.beq i 10038 then 10015 else bif Nat.beq i 10037 then 10014 else bif Nat.beq i 10036 then 10013 else bif Nat.beq i 10035 then 10012 else i) (.cons rfl (DLe.refl _) (.cons rfl (DLe.refl _) (.cons rfl (DLe.refl _) (.cons rfl (DLe.refl _) (.cons rfl (DLe.refl _) (.cons rfl (DLe.refl _) (.cons rfl (DLe.refl _) (.cons rfl (DLe.refl _) (.cons rfl (DLe.refl _) (.cons rfl (DLe.refl _) (.cons rfl (DLe.refl _) (.cons rfl (DLe.refl _) (.cons rfl (DLe.refl _) .nil))))))))))))) (.cons rfl (.refl _) (.cons rfl (.refl _) (.cons rfl (.refl _) (.cons rfl (.refl _) (.cons rfl (.refl _) (.cons rfl (.refl _) (.cons rfl (.refl _) (.cons rfl (.refl _) .nil)))))))) rfl rfl rfl) ?_ ?_
           ·rintro k39 a40 t42 hk39 hx39 hM
            replace hM : budget_Plan_L41 a8 v38 k39 a40 = some t42:=hM
            unfold budget_Plan_L41 at hM
            refine a_seq ?_
            refine a_region (.cons (o_int rfl rfl rfl)<|.nil _) (by kernel_rfl) (by kernel_rfl) ?_
            refine a_seq ?_
            refine a_cond _ rfl (fun _=>?_) (fun c=>absurd hk39 (of_decide_eq_false c))
            refine a_skip ?_
            refine a_seq ?_
            refine a_block ?_
            refine a_seq ?_
            obtain ⟨v45,h44,hM⟩ := of_bind hM
            refine a_region (.cons (t_index h44 rfl rfl rfl)<|.cons (o_load_es rfl rfl)<|.cons (o_assign rfl)<|.nil _) (by kernel_rfl) (by kernel_rfl) ?_
            obtain ⟨v47,h46,hM⟩ := of_bind hM
            obtain ⟨v49,h48,hM⟩ := of_bind hM
            refine a_region (.cons (o_move rfl)<|.cons (o_move rfl)<|.cons (o_indexAddr_a 4 rfl rfl rfl (by decide))<|.cons (o_load_s rfl rfl rfl)<|.cons (o_move rfl)<|.cons (t_index_r h46 rfl rfl rfl)<|.cons (t_load_ps h46 rfl rfl rfl rfl)<|.cons (t_index_r h48 rfl rfl rfl)<|.cons (t_store_p true h48 rfl rfl rfl rfl rfl rfl rfl rfl rfl rfl rfl)<|.nil _) (by kernel_rfl) (by kernel_rfl) ?_
            refine a_region (.cons (o_add rfl rfl (inR_i64 hk39 hx39))<|.cons (o_move rfl)<|.nil _) (by kernel_rfl) (by kernel_rfl) ?_
            obtain rfl:=Option.some.inj hM
            exact (Imp.of (fun i=>i) (.cons rfl (DLe.refl _) (.cons rfl (DLe.refl _) (.cons rfl (DLe.refl _) (.cons rfl (DLe.refl _) (.cons rfl (DLe.refl _) (.cons rfl (DLe.refl _) (.cons rfl (DLe.refl _) (.cons rfl (DLe.refl _) (.cons rfl (DLe.refl _) (.cons rfl (DLe.refl _) (.cons rfl (DLe.refl _) (.cons rfl (DLe.refl _) (.cons rfl (DLe.succ _ _) .nil))))))))))))) (.cons rfl (.refl _) (.cons rfl (.refl _) (.cons rfl (.refl _) (.cons rfl (.refl _) (.cons rfl (.refl _) (.cons rfl (.refl _) (.cons rfl (.refl _) (.cons rfl (.refl _) .nil)))))))) rfl rfl rfl)
           ·rintro k39 hk39 hx39
            refine a_seq ?_
            refine a_region (.cons (o_int rfl rfl rfl)<|.nil _) (by kernel_rfl) (by kernel_rfl) ?_
            refine a_seq ?_
            refine a_cond _ rfl (fun c=>absurd (of_decide_eq_true c) (Int.not_lt.2 hk39)) (fun _=>?_)
            refine a_exit ?_
            exact ⟨a40,hK41,(Imp.of (fun i=>bif Nat.beq i 10034 then 10040 else bif Nat.beq i 10033 then 10039 else bif Nat.beq i 10032 then 10038 else bif Nat.beq i 10031 then 10037 else bif Nat.beq i 10030 then 10036 else bif Nat.beq i 10029 then 10035 else i) (.cons rfl (DLe.refl _) (.cons rfl (DLe.refl _) (.cons rfl (DLe.refl _) (.cons rfl (DLe.refl _) (.cons rfl (DLe.refl _) (.cons rfl (DLe.refl _) (.cons rfl (DLe.refl _) (.cons rfl (DLe.refl _) (.cons rfl (DLe.refl _) (.cons rfl (DLe.refl _) .nil)))))))))) (.cons rfl (.refl _) (.cons rfl (.refl _) (.cons rfl (.refl _) (.cons rfl (.refl _) (.cons rfl (.refl _) (.cons rfl (.refl _) (.cons rfl (.refl _) (.cons rfl (.refl _) .nil)))))))) rfl rfl rfl)⟩
          ·rintro a34 hM
           replace hM : budget_Plan_K35 a8 a20 a21 v33 a34 = some t23:=hM
           unfold budget_Plan_K35 at hM
           refine a_seq ?_
           refine a_region (.cons (o_move rfl)<|.cons (o_move rfl)<|.cons (o_int rfl rfl rfl)<|.cons (o_assign rfl)<|.nil _) (by kernel_rfl) (by kernel_rfl) ?_
           refine a_seq ?_
           refine a_region (.cons (o_move rfl)<|.cons (o_move rfl)<|.cons (o_int rfl rfl rfl)<|.cons (o_assign rfl)<|.nil _) (by kernel_rfl) (by kernel_rfl) ?_
           refine a_seq ?_
           refine a_region (.cons (o_move rfl)<|.cons (o_move rfl)<|.cons (o_indexAddr_a 4 rfl rfl rfl (by decide))<|.cons (o_load_s rfl rfl rfl)<|.cons (t_len_r rfl rfl)<|.cons (o_int rfl rfl rfl)<|.nil _) (by kernel_rfl) (by kernel_rfl) ?_
           refine a_cond _ rfl (fun h36=>?_) (fun h36=>?_)
           ·replace hM:=(of_if hM).1 h36
            refine a_exit ?_
            obtain rfl:=Option.some.inj hM
            obtain rfl:=hE22 _ rfl
            exact ⟨(a34,(IntKind.wrap .i64 (a20 + v33.2))),hK22,((Imp.freeze (id:=10029) rfl).trans (Imp.of (fun i=>i) (.cons rfl (DLe.refl _) (.cons rfl (DLe.refl _) .nil)) .nil rfl rfl rfl))⟩
           ·replace hM:=(of_if hM).2 h36
            refine a_skip ?_
            exact ⟨(a34,(IntKind.wrap .i64 (a20 + v33.2)),(IntKind.wrap .i64 (a21 - v33.2))),hM,(Imp.of (fun i=>bif Nat.beq i 10028 then 10034 else bif Nat.beq i 10027 then 10033 else bif Nat.beq i 10026 then 10032 else bif Nat.beq i 10025 then 10031 else bif Nat.beq i 10024 then 10030 else bif Nat.beq i 10023 then 10029 else i) (.cons rfl (DLe.refl _) (.cons rfl (DLe.refl _) (.cons rfl (DLe.refl _) (.cons rfl (DLe.refl _) (.cons rfl (DLe.refl _) (.cons rfl (DLe.refl _) (.cons rfl (DLe.refl _) .nil))))))) (.cons rfl (.refl _) (.cons rfl (.refl _) (.cons rfl (.refl _) (.cons rfl (.refl _) (.cons rfl (.refl _) (.cons rfl (.refl _) (.cons rfl (.refl _) (.cons rfl (.refl _) .nil)))))))) rfl rfl rfl)⟩
         ·replace hM:=(of_if hM).2 (Bool.eq_false_iff.2 h31)
          cases hM
    ·rintro ⟨a25,a26,a27⟩ hM
     replace hM : budget_Plan_K28 a25 a26 a27 = some t23:=hM
     unfold budget_Plan_K28 at hM
     refine a_region (.cons (o_add rfl rfl (inR_i64 hk18 hx18))<|.cons (o_move rfl)<|.nil _) (by kernel_rfl) (by kernel_rfl) ?_
     obtain rfl:=Option.some.inj hM
     exact ⟨(a25,a26,a27),rfl,(Imp.of (fun i=>bif Nat.beq i 10017 then 10028 else bif Nat.beq i 10016 then 10027 else bif Nat.beq i 10015 then 10026 else bif Nat.beq i 10014 then 10025 else bif Nat.beq i 10013 then 10024 else bif Nat.beq i 10012 then 10023 else i) (.cons rfl (DLe.refl _) (.cons rfl (DLe.refl _) (.cons rfl (DLe.refl _) (.cons rfl (DLe.refl _) (.cons rfl (DLe.refl _) (.cons rfl (DLe.refl _) (.cons rfl (DLe.succ _ _) .nil))))))) (.cons rfl (.refl _) (.cons rfl (.refl _) (.cons rfl (.refl _) (.cons rfl (.refl _) (.cons rfl (.refl _) (.cons rfl (.refl _) (.cons rfl (.refl _) (.cons rfl (.refl _) .nil)))))))) rfl rfl rfl)⟩
   ·rintro k18 ⟨a19,a20,a21⟩ hk18 hx18 rfl
    refine a_seq ?_
    refine a_region (.cons (o_int rfl rfl rfl)<|.nil _) (by kernel_rfl) (by kernel_rfl) ?_
    refine a_seq ?_
    refine a_cond _ rfl (fun c=>absurd (of_decide_eq_true c) (Int.not_lt.2 hk18)) (fun _=>?_)
    refine a_exit ?_
    exact ⟨(a19,a20),hK22,((Imp.freeze (id:=10012) rfl).trans (Imp.of (fun i=>i) (.cons rfl (DLe.refl _) (.cons rfl (DLe.refl _) .nil)) .nil rfl rfl rfl))⟩
  ·rintro ⟨a15,a16⟩ hM
   replace hM : budget_Plan_K17 a15 a16 = some r:=hM
   unfold budget_Plan_K17 at hM
   refine a_seq ?_
   refine a_region (.cons (o_move rfl)<|.cons (o_move rfl)<|.cons (o_assign rfl)<|.cons (o_assign rfl)<|.nil _) (by kernel_rfl) (by kernel_rfl) ?_
   obtain rfl:=Option.some.inj hM
   exact a_ret (a_post (.r2 (.tmp rfl) (.tmp rfl)) (DLe.refl _) PostOk.nil.spec)
def recorder_Record_K1 (a5 : List RRec) : Option ((List RRec) × Int) :=
 some (a5,0)
def recorder_Record_L2 (x0 : List AEv) (x2 : Int) (v2 : (List VClk) × Int) (k6 : Nat) (a7 : List RRec) : Option (Ctl (List RRec) ((List RRec) × Int)) :=
 (idx x0 (k6 : Int)).bind fun v12=>
 if (v12.gComponent != x2) = true then
  some (.next a7)
 else
  chk (apOk 8 (List.length v12.gArgs))<|
  (idx v2.1 (k6 : Int)).bind fun v16=>
  (record_Check (RRec.mk x2 (IntKind.wrap .u64 (List.length a7 : Int)) v16 1 v12 0)).bind fun v18=>
  if (v18 != 0) = true then
   some (.done (([] : List RRec),6))
  else
   chk (apOk 248 (List.length a7 + List.length [(RRec.mk x2 (IntKind.wrap .u64 (List.length a7 : Int)) v16 1 v12 0)]))<|
   some (.next (a7++[(RRec.mk x2 (IntKind.wrap .u64 (List.length a7 : Int)) v16 1 v12 0)]))
def recorder_Record (x0 : List AEv) (x1 : Int) (x2 : Int) : Option ((List RRec) × Int) :=
 (recorder_Clocks x0 x1).bind fun v2=>
 if (v2.2 != 0) = true then
  some (([] : List RRec),v2.2)
 else
  if ((decide (x2 < 0)) || (decide (x1 < x2))) = true then
   some (([] : List RRec),1)
  else
   (forM' (E:=(List RRec) × Int) 9223372036854775807 (List.length x0 : Int) (fun k6 s=>recorder_Record_L2 x0 x2 v2 k6 s) ([] : List RRec)).bind fun
    | .next s=>recorder_Record_K1 s
    | .done r=>some r
theorem recorder_Record_c {x0 : List AEv} {x1 : Int} {x2 : Int} {r : (List RRec) × Int} (hM : recorder_Record x0 x1 x2 = some r) : PCall Tryz.prog 37 [.sl 9 (List.map AEv.dv x0),.int .i64 x1,.int .i64 x2] (.tup [.sl 29 (List.map RRec.dv r.1),.int .i64 r.2]):=by
 unfold recorder_Record at hM
 refine PCall.body Tryz.func37 Tryz.ntmps37 rfl rfl rfl rfl ?_
 refine a_seq (ar (.cons (o_assign rfl)<|.cons (o_assign rfl)<|.nil _) ?_)
 refine a_seq ?_
 obtain ⟨v2,h1,hM⟩ := of_bind hM
 refine ar (.cons (o_move rfl)<|.cons (o_move rfl)<|.cons (o_call (recorder_Clocks_c h1) rfl (DLeL.refl _) rfl)<|.cons (o_move rfl)<|.cons (o_extract rfl rfl)<|.cons (o_extract rfl rfl)<|.cons (o_assign rfl)<|.cons (o_assign rfl)<|.nil _) ?_
 refine a_seq (a_seq (ar (.cons (o_move rfl)<|.cons (o_int rfl rfl rfl)<|.nil _) ?_))
 refine a_cond _ rfl (fun h3=>?_) (fun h3=>?_)
 ·replace hM:=(of_if hM).1 h3
  refine a_seq (ar (.cons (o_move rfl)<|.cons (o_assign rfl)<|.cons (o_assign rfl)<|.nil _) ?_)
  obtain rfl:=Option.some.inj hM
  exact a_ret (a_post (.r2 (.tmp rfl) (.tmp rfl)) (DLe.tup (.cons (DLe.nils _) (.cons (DLe.refl _) .nil))) PostOk.nil.spec)
 ·replace hM:=(of_if hM).2 h3
  refine a_skip (a_seq (a_seq (ar (.cons (o_move rfl)<|.cons (o_int rfl rfl rfl)<|.cons (o_move rfl)<|.cons (o_guardG .bF rfl rfl (fun hb=>(.keep .nil)) (fun hb=>o_move rfl))<|.cons (o_guardG .bF rfl rfl (fun hb=>(.keep .nil)) (fun hb=>o_move rfl))<|.cons (o_guardG .bF rfl rfl (fun hb=>(.strip rfl hb (.strip rfl hb .nil))) (fun hb=>o_int rfl rfl rfl))<|.cons (o_or rfl rfl)<|.nil _) ?_)))
  refine a_cond _ rfl (fun h4=>?_) (fun h4=>?_)
  ·replace hM:=(of_if hM).1 h4
   refine a_seq (ar (.cons (o_assign rfl)<|.cons (o_assign rfl)<|.nil _) ?_)
   obtain rfl:=Option.some.inj hM
   exact a_ret (a_post (.r2 (.tmp rfl) (.tmp rfl)) (DLe.tup (.cons (DLe.nils _) (.cons (DLe.refl _) .nil))) PostOk.nil.spec)
  ·replace hM:=(of_if hM).2 h4
   refine a_skip (a_seq (ar (.cons (o_assign rfl)<|.nil _) ?_))
   refine a_cut (α:=(List RRec)) (fun s=>⟨[(10,.sl 29 (List.map RRec.dv s))],[],[]⟩) (fun s=>recorder_Record_K1 s = some r) ?_ ?_
   ·refine a_seq (ar (.cons (o_move rfl)<|.cons (t_len rfl)<|.cons (o_move rfl)<|.nil _) ?_)
    obtain ⟨t8,hL8,hK8⟩ := of_bind hM
    refine a_block ?_
    refine a_for (fun k6 (s : (List RRec))=>⟨[(2,.int .i64 x2),(8,.sl 16 (List.map VClk.dv v2.1)),(10,.row 10001),(30,.sl 9 (List.map AEv.dv x0)),(31,.int .i64 (List.length x0 : Int)),(32,.int .i64 (k6 : Int))],[(10001,some (.row 64 29 (List.map RRec.dv s)))],[10001]⟩) _ hL8 ((Imp.nilRow (t:=10) (id:=10002) 64 29 rfl rfl).trans (Imp.sh (fun i=>bif Nat.beq i 10001 then 10002 else i) rfl rfl rfl rfl rfl rfl)) ?_ ?_
    ·rintro k6 a7 t9 hk6 hx6 hM hE8
     replace hM : recorder_Record_L2 x0 x2 v2 k6 a7 = some t9:=hM
     unfold recorder_Record_L2 at hM
     refine a_seq (ar (.cons (o_int rfl rfl rfl)<|.nil _) ?_)
     refine a_seq ?_
     refine a_cond _ rfl (fun _=>?_) (fun c=>absurd hk6 (of_decide_eq_false c))
     refine a_skip (a_seq (a_block (a_seq ?_)))
     obtain ⟨v12,h11,hM⟩ := of_bind hM
     refine ar (.cons (o_move rfl)<|.cons (t_index h11 rfl rfl rfl)<|.cons (o_load_er rfl rfl rfl)<|.cons (o_alloc rfl)<|.cons (o_assign rfl)<|.cons (o_store rfl rfl rfl rfl rfl rfl rfl)<|.nil _) ?_
     refine a_seq (a_seq (ar (.cons (o_fieldAddr rfl)<|.cons (o_load_s rfl rfl rfl)<|.cons (o_move rfl)<|.cons (o_int rfl rfl rfl)<|.nil _) ?_))
     refine a_cond _ rfl (fun h13=>?_) (fun h13=>?_)
     ·replace hM:=(of_if hM).1 h13
      refine a_exit (ar (.cons (o_add rfl rfl (inR_i64 hk6 hx6))<|.cons (o_move rfl)<|.nil _) ?_)
      obtain rfl:=Option.some.inj hM
      exact ⟨a7,rfl,(Imp.of (fun i=>i) (.cons rfl (DLe.refl _) (.cons rfl (DLe.refl _) (.cons rfl (DLe.refl _) (.cons rfl (DLe.refl _) (.cons rfl (DLe.refl _) (.cons rfl (DLe.succ _ _) .nil)))))) (.cons rfl (.refl _) .nil) rfl rfl rfl)⟩
     ·replace hM:=(of_if hM).2 h13
      refine a_skip (a_seq ?_)
      obtain ⟨h14,hM⟩ := of_chk hM
      refine ar (.cons (o_fieldAddr rfl)<|.cons (o_load_s rfl rfl rfl)<|.cons (t_append_n (DV.int .i64) v12.gArgs h14 rfl rfl Src.sl)<|.cons (o_fieldAddr rfl)<|.cons (o_store_s rfl rfl rfl rfl rfl)<|.nil _) ?_
      refine a_seq ?_
      obtain ⟨v16,h15,hM⟩ := of_bind hM
      refine ad mixed (.cons (o_move rfl)<|.cons (o_move rfl)<|.cons (t_len_r rfl rfl)<|.cons (o_conv_w rfl)<|.cons (o_move rfl)<|.cons (o_move rfl)<|.cons (t_index h15 rfl rfl rfl)<|.cons (o_load_er rfl rfl rfl)<|.cons (o_load_r rfl rfl rfl rfl)<|.cons (o_build rfl rfl rfl)<|.cons (o_alloc rfl)<|.cons (o_store rfl rfl rfl rfl rfl rfl rfl)<|.nil _) ?_
      refine a_seq (a_seq (a_imp (Imp.freeze (id:=43) rfl) ?_))
      obtain ⟨v18,h17,hM⟩ := of_bind hM
      refine ar (.cons (o_load_r rfl rfl rfl rfl)<|.cons (o_call (record_Check_c h17) rfl (DLeL.refl _) rfl)<|.cons (o_int rfl rfl rfl)<|.nil _) ?_
      refine a_cond _ rfl (fun h19=>?_) (fun h19=>?_)
      ·replace hM:=(of_if hM).1 h19
       refine a_seq (ar (.cons (o_assign rfl)<|.cons (o_assign rfl)<|.nil _) ?_)
       obtain rfl:=Option.some.inj hM
       obtain rfl:=hE8 _ rfl
       obtain rfl:=Option.some.inj hK8
       exact a_ret (a_post (.r2 (.tmp rfl) (.tmp rfl)) (DLe.tup (.cons (DLe.nils _) (.cons (DLe.refl _) .nil))) PostOk.nil.spec)
      ·replace hM:=(of_if hM).2 h19
       refine a_skip ?_
       obtain ⟨h20,hM⟩ := of_chk hM
       refine ar (.cons (o_move rfl)<|.cons (o_load_r rfl rfl rfl rfl)<|.cons (t_build RRec.dv ([(RRec.mk x2 (IntKind.wrap .u64 (List.length a7 : Int)) v16 1 v12 0)] : List RRec) rfl rfl rfl rfl rfl rfl rfl)<|.cons (t_append [(RRec.mk x2 (IntKind.wrap .u64 (List.length a7 : Int)) v16 1 v12 0)] h20 rfl rfl rfl (Src.row rfl))<|.cons (o_assign rfl)<|.nil _) ?_
       refine ar (.cons (o_add rfl rfl (inR_i64 hk6 hx6))<|.cons (o_move rfl)<|.nil _) ?_
       obtain rfl:=Option.some.inj hM
       exact ⟨(a7++[(RRec.mk x2 (IntKind.wrap .u64 (List.length a7 : Int)) v16 1 v12 0)]),rfl,(Imp.of (fun i=>bif Nat.beq i 10001 then 61 else i) (.cons rfl (DLe.refl _) (.cons rfl (DLe.refl _) (.cons rfl (DLe.refl _) (.cons rfl (DLe.refl _) (.cons rfl (DLe.refl _) (.cons rfl (DLe.succ _ _) .nil)))))) (.cons rfl (.refl _) .nil) rfl rfl rfl)⟩
    ·rintro k6 a7 hk6 hx6 rfl
     refine a_seq (ar (.cons (o_int rfl rfl rfl)<|.nil _) ?_)
     refine a_seq ?_
     refine a_cond _ rfl (fun c=>absurd (of_decide_eq_true c) (Int.not_lt.2 hk6)) (fun _=>?_)
     refine a_exit ?_
     exact ⟨a7,hK8,((Imp.freeze (id:=10001) rfl).trans (Imp.sh (fun i=>i) rfl rfl rfl rfl rfl rfl))⟩
   ·rintro a5 hM
    replace hM : recorder_Record_K1 a5 = some r:=hM
    unfold recorder_Record_K1 at hM
    refine a_seq (ar (.cons (o_move rfl)<|.cons (o_assign rfl)<|.cons (o_assign rfl)<|.nil _) ?_)
    obtain rfl:=Option.some.inj hM
    exact a_ret (a_post (.r2 (.tmp rfl) (.tmp rfl)) (DLe.refl _) PostOk.nil.spec)
def recorder_thin_K1 (a3 : List RRec) : Option (List RRec) :=
 some a3
def recorder_thin_L2 (x0 : List RRec) (v2 : (List Bool) × Int) (k4 : Nat) (a5 : List RRec) : Option (List RRec) :=
 (idx x0 (k4 : Int)).bind fun v10=>
 (idx v2.1 (k4 : Int)).bind fun v12=>
 if v12 = true then
  chk (apOk 248 (List.length a5 + List.length [v10]))<|
  some (a5++[v10])
 else
  (gb (decide (0 < (k4 : Int))) false (idx v2.1 (IntKind.wrap .i64 ((k4 : Int) - 1)))).bind fun v16=>
  if ((decide (0 < (k4 : Int))) && (!v16)) = true then
   (idx a5 (IntKind.wrap .i64 ((List.length a5 : Int) - 1))).bind fun v19=>
   (idx a5 (IntKind.wrap .i64 ((List.length a5 : Int) - 1))).bind fun v21=>
   some (List.set a5 (Int.toNat (IntKind.wrap .i64 ((List.length a5 : Int) - 1))) (RRec.mk v21.gComponent v21.gSeq v21.gClock v21.gWhat v21.gEvent (IntKind.wrap .u64 (v19.gCount + 1))))
  else
   chk (apOk 248 (List.length a5 + List.length [(RRec.mk v10.gComponent v10.gSeq (VClk.mk (arr 0 [0,0,0,0,0,0,0,0,0,0,0,0,0,0,0,0])) 2 (AEv.mk 0 0 0 0 0 0 0 0 []) 1)]))<|
   some (a5++[(RRec.mk v10.gComponent v10.gSeq (VClk.mk (arr 0 [0,0,0,0,0,0,0,0,0,0,0,0,0,0,0,0])) 2 (AEv.mk 0 0 0 0 0 0 0 0 []) 1)])
def recorder_thin (x0 : List RRec) (x1 : Int) : Option (List RRec) :=
 (budget_Plan x0 x1).bind fun v2=>
 (foldM' 9223372036854775807 (List.length x0 : Int) (fun k4 s=>recorder_thin_L2 x0 v2 k4 s) ([] : List RRec)).bind fun s=>recorder_thin_K1 s
theorem recorder_thin_c {x0 : List RRec} {x1 : Int} {r : (List RRec)} (hM : recorder_thin x0 x1 = some r) : PCall Tryz.prog 38 [.sl 29 (List.map RRec.dv x0),.int .i64 x1] (.sl 29 (List.map RRec.dv r)):=by
 unfold recorder_thin at hM
 refine PCall.body Tryz.func38 Tryz.ntmps38 rfl rfl rfl rfl ?_
 refine a_seq (ar (.cons (o_assign rfl)<|.nil _) ?_)
 refine a_seq ?_
 obtain ⟨v2,h1,hM⟩ := of_bind hM
 refine ar (.cons (o_move rfl)<|.cons (o_move rfl)<|.cons (o_call (budget_Plan_c h1) rfl (DLeL.refl _) rfl)<|.cons (o_move rfl)<|.cons (o_extract rfl rfl)<|.cons (o_extract rfl rfl)<|.cons (o_assign rfl)<|.cons (o_assign rfl)<|.nil _) ?_
 refine a_seq (ar (.cons (o_assign rfl)<|.nil _) ?_)
 refine a_cut (α:=(List RRec)) (fun s=>⟨[(7,.sl 29 (List.map RRec.dv s))],[],[]⟩) (fun s=>recorder_thin_K1 s = some r) ?_ ?_
 ·refine a_seq (ar (.cons (o_move rfl)<|.cons (t_len rfl)<|.cons (o_move rfl)<|.nil _) ?_)
  obtain ⟨a5,hL6,hK6⟩ := of_bind hM
  refine a_block ?_
  refine a_fold (fun k4 (s : (List RRec))=>⟨[(5,.sl 1 (List.map DV.bool v2.1)),(7,.row 10001),(16,.sl 29 (List.map RRec.dv x0)),(17,.int .i64 (List.length x0 : Int)),(18,.int .i64 (k4 : Int))],[(10001,some (.row 64 29 (List.map RRec.dv s)))],[10001]⟩) _ hL6 ((Imp.nilRow (t:=7) (id:=10002) 64 29 rfl rfl).trans (Imp.sh (fun i=>bif Nat.beq i 10001 then 10002 else i) rfl rfl rfl rfl rfl rfl)) ?_ ?_
  ·rintro k4 a5 t7 hk4 hx4 hM
   replace hM : recorder_thin_L2 x0 v2 k4 a5 = some t7:=hM
   unfold recorder_thin_L2 at hM
   refine a_seq (ar (.cons (o_int rfl rfl rfl)<|.nil _) ?_)
   refine a_seq ?_
   refine a_cond _ rfl (fun _=>?_) (fun c=>absurd hk4 (of_decide_eq_false c))
   refine a_skip (a_seq (a_block (a_seq ?_)))
   obtain ⟨v10,h9,hM⟩ := of_bind hM
   refine ar (.cons (o_move rfl)<|.cons (t_index h9 rfl rfl rfl)<|.cons (o_load_er rfl rfl rfl)<|.cons (o_alloc rfl)<|.cons (o_assign rfl)<|.cons (o_store rfl rfl rfl rfl rfl rfl rfl)<|.nil _) ?_
   refine a_block (a_seq ?_)
   obtain ⟨v12,h11,hM⟩ := of_bind hM
   refine ar (.cons (o_move rfl)<|.cons (o_move rfl)<|.cons (t_index h11 rfl rfl rfl)<|.cons (o_load_es rfl rfl)<|.cons (o_assign rfl)<|.nil _) ?_
   refine a_cond _ rfl (fun h13=>?_) (fun h13=>?_)
   ·replace hM:=(of_if hM).1 h13
    obtain ⟨h14,hM⟩ := of_chk hM
    refine ar (.cons (o_move rfl)<|.cons (o_load_r rfl rfl rfl rfl)<|.cons (t_build RRec.dv ([v10] : List RRec) rfl rfl rfl rfl rfl rfl rfl)<|.cons (t_append [v10] h14 rfl rfl rfl (Src.row rfl))<|.cons (o_assign rfl)<|.nil _) ?_
    refine ar (.cons (o_add rfl rfl (inR_i64 hk4 hx4))<|.cons (o_move rfl)<|.nil _) ?_
    obtain rfl:=Option.some.inj hM
    exact (Imp.of (fun i=>bif Nat.beq i 10001 then 39 else i) (.cons rfl (DLe.refl _) (.cons rfl (DLe.refl _) (.cons rfl (DLe.refl _) (.cons rfl (DLe.refl _) (.cons rfl (DLe.succ _ _) .nil))))) (.cons rfl (.refl _) .nil) rfl rfl rfl)
   ·replace hM:=(of_if hM).2 h13
    refine a_seq ?_
    obtain ⟨v16,h15,hM⟩ := of_bind hM
    refine ar (.cons (o_move rfl)<|.cons (o_int rfl rfl rfl)<|.cons (o_move rfl)<|.cons (o_guardG .bT rfl rfl (fun hb=>(.keep .nil)) (fun hb=>o_move rfl))<|.cons (o_guardG .bT rfl rfl (fun hb=>(.keep .nil)) (fun hb=>o_move rfl))<|.cons (o_guardG .bT rfl rfl (fun hb=>(.strip rfl hb .nil)) (fun hb=>o_int rfl rfl rfl))<|.cons (o_guardG .bT rfl rfl (fun hb=>(.strip rfl hb (.strip rfl hb .nil))) (fun hb=>t_index (of_gb h15 hb) rfl rfl rfl))<|.cons (o_guardG .bT rfl rfl (fun hb=>(.strip rfl hb .nil)) (fun hb=>o_load_es rfl rfl))<|.cons (o_guardG .bT rfl rfl (fun hb=>(.strip rfl hb .nil)) (fun hb=>o_not rfl))<|.cons (o_and rfl rfl)<|.cons (o_assign rfl)<|.nil _) ?_
    refine a_cond _ rfl (fun h17=>?_) (fun h17=>?_)
    ·replace hM:=(of_if hM).1 h17
     obtain ⟨v19,h18,hM⟩ := of_bind hM
     obtain ⟨v21,h20,hM⟩ := of_bind hM
     refine ar (.cons (o_move rfl)<|.cons (o_move rfl)<|.cons (t_len_r rfl rfl)<|.cons (o_int rfl rfl rfl)<|.cons (t_index_r h18 rfl rfl rfl)<|.cons (o_fieldAddr_p rfl)<|.cons (t_load_ps h18 rfl rfl rfl rfl)<|.cons (o_int rfl rfl rfl)<|.cons (t_index_r h20 rfl rfl rfl)<|.cons (o_fieldAddr_p rfl)<|.cons (t_store_p (RRec.mk v21.gComponent v21.gSeq v21.gClock v21.gWhat v21.gEvent (IntKind.wrap .u64 (v19.gCount + 1))) h20 rfl rfl rfl rfl rfl rfl rfl rfl rfl rfl rfl)<|.nil _) ?_
     refine ar (.cons (o_add rfl rfl (inR_i64 hk4 hx4))<|.cons (o_move rfl)<|.nil _) ?_
     obtain rfl:=Option.some.inj hM
     exact (Imp.of (fun i=>i) (.cons rfl (DLe.refl _) (.cons rfl (DLe.refl _) (.cons rfl (DLe.refl _) (.cons rfl (DLe.refl _) (.cons rfl (DLe.succ _ _) .nil))))) (.cons rfl (.refl _) .nil) rfl rfl rfl)
    ·replace hM:=(of_if hM).2 h17
     obtain ⟨h22,hM⟩ := of_chk hM
     refine ar (.cons (o_move rfl)<|.cons (o_fieldAddr rfl)<|.cons (o_load_s rfl rfl rfl)<|.cons (o_fieldAddr rfl)<|.cons (o_load_s rfl rfl rfl)<|.cons (o_build rfl rfl rfl)<|.cons (t_buildW RRec.dv ([(RRec.mk v10.gComponent v10.gSeq (VClk.mk (arr 0 [0,0,0,0,0,0,0,0,0,0,0,0,0,0,0,0])) 2 (AEv.mk 0 0 0 0 0 0 0 0 []) 1)] : List RRec) rfl rfl rfl rfl rfl rfl (.cons (DLe.agg (.cons (DLe.refl _) (.cons (DLe.refl _) (.cons (DLe.refl _) (.cons (DLe.refl _) (.cons (DLe.refl _) (.cons (DLe.refl _) (.cons (DLe.refl _) (.cons (DLe.refl _) (.cons (DLe.refl _) (.cons (DLe.refl _) (.cons (DLe.refl _) (.cons (DLe.refl _) (.cons (DLe.refl _) (.cons (DLe.refl _) (.cons (DLe.refl _) (.cons (DLe.refl _) (.cons (DLe.refl _) (.cons (DLe.refl _) (.cons (DLe.refl _) (.cons (DLe.refl _) (.cons (DLe.refl _) (.cons (DLe.refl _) (.cons (DLe.refl _) (.cons (DLe.refl _) (.cons (DLe.refl _) (.cons (DLe.refl _) (.cons (DLe.refl _) (.cons (DLe.nils _) (.cons (DLe.refl _) .nil)))))))))))))))))))))))))))))) .nil))<|.cons (t_append [(RRec.mk v10.gComponent v10.gSeq (VClk.mk (arr 0 [0,0,0,0,0,0,0,0,0,0,0,0,0,0,0,0])) 2 (AEv.mk 0 0 0 0 0 0 0 0 []) 1)] h22 rfl rfl rfl (Src.row rfl))<|.cons (o_assign rfl)<|.nil _) ?_
     refine ar (.cons (o_add rfl rfl (inR_i64 hk4 hx4))<|.cons (o_move rfl)<|.nil _) ?_
     obtain rfl:=Option.some.inj hM
     exact (Imp.of (fun i=>bif Nat.beq i 10001 then 30 else i) (.cons rfl (DLe.refl _) (.cons rfl (DLe.refl _) (.cons rfl (DLe.refl _) (.cons rfl (DLe.refl _) (.cons rfl (DLe.succ _ _) .nil))))) (.cons rfl (.refl _) .nil) rfl rfl rfl)
  ·rintro k4 hk4 hx4
   refine a_seq (ar (.cons (o_int rfl rfl rfl)<|.nil _) ?_)
   refine a_seq ?_
   refine a_cond _ rfl (fun c=>absurd (of_decide_eq_true c) (Int.not_lt.2 hk4)) (fun _=>?_)
   refine a_exit ?_
   exact ⟨a5,hK6,((Imp.freeze (id:=10001) rfl).trans (Imp.sh (fun i=>i) rfl rfl rfl rfl rfl rfl))⟩
 ·rintro a3 hM
  replace hM : recorder_thin_K1 a3 = some r:=hM
  unfold recorder_thin_K1 at hM
  refine a_seq (ar (.cons (o_move rfl)<|.cons (o_assign rfl)<|.nil _) ?_)
  obtain rfl:=Option.some.inj hM
  exact a_ret (a_post (.r1 (.tmp rfl)) (DLe.refl _) PostOk.nil.spec)
def recorder_Write_K3 (a7 : List Int) : Option ((List Int) × Int) :=
 some (a7,0)
def recorder_Write_L4 (x2 : Int) (v2 : (List RRec) × Int) (a6 : List RRec) (k10 : Nat) (a11 : List Int) : Option (Ctl (List Int) ((List Int) × Int)) :=
 (idx (a6++[(RRec.mk x2 (IntKind.wrap .u64 (List.length v2.1 : Int)) (VClk.mk (arr 0 [0,0,0,0,0,0,0,0,0,0,0,0,0,0,0,0])) 3 (AEv.mk 0 0 0 0 0 0 0 0 []) 0)]) (k10 : Int)).bind fun v16=>
 (RRec_Bytes v16).bind fun v18=>
 (frame_Append a11 v18).bind fun v20=>
 if (v20.2 != 0) = true then
  some (.done (([] : List Int),v20.2))
 else
  some (.next v20.1)
def recorder_Write_K2 (x2 : Int) (v2 : (List RRec) × Int) (a6 : List RRec) : Option ((List Int) × Int) :=
 chk ((List.length a6 : Int) = (List.length a6 : Int)∧(List.length a6 : Int) = (List.length a6 : Int))<|
 chk (0 < List.length [(RRec.mk x2 (IntKind.wrap .u64 (List.length v2.1 : Int)) (VClk.mk (arr 0 [0,0,0,0,0,0,0,0,0,0,0,0,0,0,0,0])) 3 (AEv.mk 0 0 0 0 0 0 0 0 []) 0)]∧apOk 248 (List.length a6 + List.length [(RRec.mk x2 (IntKind.wrap .u64 (List.length v2.1 : Int)) (VClk.mk (arr 0 [0,0,0,0,0,0,0,0,0,0,0,0,0,0,0,0])) 3 (AEv.mk 0 0 0 0 0 0 0 0 []) 0)]))<|
 (forM' (E:=(List Int) × Int) 9223372036854775807 (List.length (a6++[(RRec.mk x2 (IntKind.wrap .u64 (List.length v2.1 : Int)) (VClk.mk (arr 0 [0,0,0,0,0,0,0,0,0,0,0,0,0,0,0,0])) 3 (AEv.mk 0 0 0 0 0 0 0 0 []) 0)]) : Int) (fun k10 s=>recorder_Write_L4 x2 v2 a6 k10 s) ([] : List Int)).bind fun
  | .next s=>recorder_Write_K3 s
  | .done r=>some r
def recorder_Write_K1 (x2 : Int) (x3 : recorder_Config) (v2 : (List RRec) × Int) (a5 : List RRec) : Option ((List Int) × Int) :=
 if (decide (0 < x3.gCapacity)) = true then
  (recorder_newest a5 x3.gCapacity).bind fun v24=>
  if (v24.2 != 0) = true then
   some (([] : List Int),v24.2)
  else
   recorder_Write_K2 x2 v2 v24.1
 else
  recorder_Write_K2 x2 v2 a5
def recorder_Write (x0 : List AEv) (x1 : Int) (x2 : Int) (x3 : recorder_Config) : Option ((List Int) × Int) :=
 (recorder_Record x0 x1 x2).bind fun v2=>
 if (v2.2 != 0) = true then
  some (([] : List Int),v2.2)
 else
  if ((decide (x3.gCapacity < 0)) || (decide (x3.gBudget < 0))) = true then
   some (([] : List Int),1)
  else
   if (decide (0 < x3.gBudget)) = true then
    (recorder_thin v2.1 x3.gBudget).bind fun v28=>
    recorder_Write_K1 x2 x3 v2 v28
   else
    recorder_Write_K1 x2 x3 v2 v2.1
theorem recorder_Write_c {x0 : List AEv} {x1 : Int} {x2 : Int} {x3 : recorder_Config} {r : (List Int) × Int} (hM : recorder_Write x0 x1 x2 x3 = some r) : PCall Tryz.prog 15 [.sl 9 (List.map AEv.dv x0),.int .i64 x1,.int .i64 x2,.agg (recorder_Config.cs x3)] (.tup [.sl 1 (List.map (DV.int .u8) r.1),.int .i64 r.2]):=by
 unfold recorder_Write at hM
 refine PCall.body Tryz.func15 Tryz.ntmps15 rfl rfl rfl rfl ?_
 refine a_seq (ar (.cons (o_box rfl rfl)<|.cons (o_assign rfl)<|.cons (o_assign rfl)<|.nil _) ?_)
 refine a_seq ?_
 obtain ⟨v2,h1,hM⟩ := of_bind hM
 refine ar (.cons (o_move rfl)<|.cons (o_move rfl)<|.cons (o_move rfl)<|.cons (o_call (recorder_Record_c h1) rfl (DLeL.refl _) rfl)<|.cons (o_move rfl)<|.cons (o_extract rfl rfl)<|.cons (o_extract rfl rfl)<|.cons (o_assign rfl)<|.cons (o_assign rfl)<|.nil _) ?_
 refine a_seq (a_seq (ar (.cons (o_move rfl)<|.cons (o_int rfl rfl rfl)<|.nil _) ?_))
 refine a_cond _ rfl (fun h3=>?_) (fun h3=>?_)
 ·replace hM:=(of_if hM).1 h3
  refine a_seq (ar (.cons (o_move rfl)<|.cons (o_assign rfl)<|.cons (o_assign rfl)<|.nil _) ?_)
  obtain rfl:=Option.some.inj hM
  exact a_ret (a_post (.r2 (.tmp rfl) (.tmp rfl)) (DLe.tup (.cons (DLe.nils _) (.cons (DLe.refl _) .nil))) PostOk.nil.spec)
 ·replace hM:=(of_if hM).2 h3
  refine a_skip (a_seq (a_seq (ar (.cons (o_fieldAddr rfl)<|.cons (o_load_s rfl rfl rfl)<|.cons (o_int rfl rfl rfl)<|.cons (o_move rfl)<|.cons (o_guardG .bF rfl rfl (fun hb=>(.keep .nil)) (fun hb=>o_fieldAddr rfl))<|.cons (o_guardG .bF rfl rfl (fun hb=>(.strip rfl hb .nil)) (fun hb=>o_load_s rfl rfl rfl))<|.cons (o_guardG .bF rfl rfl (fun hb=>(.strip rfl hb .nil)) (fun hb=>o_int rfl rfl rfl))<|.cons (o_or rfl rfl)<|.nil _) ?_)))
  refine a_cond _ rfl (fun h4=>?_) (fun h4=>?_)
  ·replace hM:=(of_if hM).1 h4
   refine a_seq (ar (.cons (o_assign rfl)<|.cons (o_assign rfl)<|.nil _) ?_)
   obtain rfl:=Option.some.inj hM
   exact a_ret (a_post (.r2 (.tmp rfl) (.tmp rfl)) (DLe.tup (.cons (DLe.nils _) (.cons (DLe.refl _) .nil))) PostOk.nil.spec)
  ·replace hM:=(of_if hM).2 h4
   refine a_skip (a_seq (ar (.cons (o_move rfl)<|.cons (o_move rfl)<|.cons (t_len rfl)<|.cons (o_conv_w rfl)<|.cons (o_build rfl rfl rfl)<|.cons (o_alloc rfl)<|.cons (o_store rfl rfl rfl rfl rfl rfl rfl)<|.nil _) ?_))
   refine a_cut (α:=(List RRec)) (fun s=>⟨[(7,.ref 7 0),(10,.sl 29 (List.map RRec.dv s)),(12,.ref 12 0)],[(7,some (.blk 50 (recorder_Config.cs x3))),(12,some (.blk 64 [.int .i64 x2,.int .u64 (IntKind.wrap .u64 (List.length v2.1 : Int)),.int .u64 0,.int .u64 0,.int .u64 0,.int .u64 0,.int .u64 0,.int .u64 0,.int .u64 0,.int .u64 0,.int .u64 0,.int .u64 0,.int .u64 0,.int .u64 0,.int .u64 0,.int .u64 0,.int .u64 0,.int .u64 0,.int .u8 3,.int .i64 0,.int .i64 0,.int .u8 0,.int .i64 0,.int .i64 0,.int .i64 0,.int .i64 0,.int .i64 0,.nils,.int .u64 0]))],[7,12]⟩) (fun s=>recorder_Write_K1 x2 x3 v2 s = some r) ?_ ?_
   ·refine a_seq (ar (.cons (o_fieldAddr rfl)<|.cons (o_load_s rfl rfl rfl)<|.cons (o_int rfl rfl rfl)<|.nil _) ?_)
    refine a_cond _ rfl (fun h26=>?_) (fun h26=>?_)
    ·replace hM:=(of_if hM).1 h26
     obtain ⟨v28,h27,hM⟩ := of_bind hM
     refine ar (.cons (o_move rfl)<|.cons (o_fieldAddr rfl)<|.cons (o_load_s rfl rfl rfl)<|.cons (o_call (recorder_thin_c h27) rfl (DLeL.refl _) rfl)<|.cons (o_assign rfl)<|.nil _) ?_
     exact ⟨v28,hM,(Imp.sh (fun i=>i) rfl rfl rfl rfl rfl rfl)⟩
    ·replace hM:=(of_if hM).2 h26
     refine a_skip ?_
     exact ⟨v2.1,hM,(Imp.sh (fun i=>i) rfl rfl rfl rfl rfl rfl)⟩
   ·rintro a5 hM
    replace hM : recorder_Write_K1 x2 x3 v2 a5 = some r:=hM
    unfold recorder_Write_K1 at hM
    refine a_cut (α:=(List RRec)) (fun s=>⟨[(10,.sl 29 (List.map RRec.dv s)),(12,.ref 12 0)],[(12,some (.blk 64 [.int .i64 x2,.int .u64 (IntKind.wrap .u64 (List.length v2.1 : Int)),.int .u64 0,.int .u64 0,.int .u64 0,.int .u64 0,.int .u64 0,.int .u64 0,.int .u64 0,.int .u64 0,.int .u64 0,.int .u64 0,.int .u64 0,.int .u64 0,.int .u64 0,.int .u64 0,.int .u64 0,.int .u64 0,.int .u8 3,.int .i64 0,.int .i64 0,.int .u8 0,.int .i64 0,.int .i64 0,.int .i64 0,.int .i64 0,.int .i64 0,.nils,.int .u64 0]))],[12]⟩) (fun s=>recorder_Write_K2 x2 v2 s = some r) ?_ ?_
    ·refine a_seq (ar (.cons (o_fieldAddr rfl)<|.cons (o_load_s rfl rfl rfl)<|.cons (o_int rfl rfl rfl)<|.nil _) ?_)
     refine a_cond _ rfl (fun h22=>?_) (fun h22=>?_)
     ·replace hM:=(of_if hM).1 h22
      refine a_seq ?_
      obtain ⟨v24,h23,hM⟩ := of_bind hM
      refine ar (.cons (o_move rfl)<|.cons (o_fieldAddr rfl)<|.cons (o_load_s rfl rfl rfl)<|.cons (o_call (recorder_newest_c h23) rfl (DLeL.refl _) rfl)<|.cons (o_move rfl)<|.cons (o_extract rfl rfl)<|.cons (o_extract rfl rfl)<|.cons (o_assign rfl)<|.cons (o_assign rfl)<|.nil _) ?_
      refine a_seq (ar (.cons (o_move rfl)<|.cons (o_int rfl rfl rfl)<|.nil _) ?_)
      refine a_cond _ rfl (fun h25=>?_) (fun h25=>?_)
      ·replace hM:=(of_if hM).1 h25
       refine a_seq (ar (.cons (o_move rfl)<|.cons (o_assign rfl)<|.cons (o_assign rfl)<|.nil _) ?_)
       obtain rfl:=Option.some.inj hM
       exact a_ret (a_post (.r2 (.tmp rfl) (.tmp rfl)) (DLe.tup (.cons (DLe.nils _) (.cons (DLe.refl _) .nil))) PostOk.nil.spec)
      ·replace hM:=(of_if hM).2 h25
       refine a_skip ?_
       exact ⟨v24.1,hM,(Imp.sh (fun i=>i) rfl rfl rfl rfl rfl rfl)⟩
     ·replace hM:=(of_if hM).2 h22
      refine a_skip ?_
      exact ⟨a5,hM,(Imp.sh (fun i=>i) rfl rfl rfl rfl rfl rfl)⟩
    ·rintro a6 hM
     replace hM : recorder_Write_K2 x2 v2 a6 = some r:=hM
     unfold recorder_Write_K2 at hM
     refine a_seq (ar (.cons (o_assign rfl)<|.nil _) ?_)
     refine a_cut (α:=(List Int)) (fun s=>⟨[(13,.sl 1 (List.map (DV.int .u8) s))],[],[]⟩) (fun s=>recorder_Write_K3 s = some r) ?_ ?_
     ·refine a_seq ?_
      obtain ⟨h8,hM⟩ := of_chk hM
      obtain ⟨h9,hM⟩ := of_chk hM
      refine ad mixed (.cons (o_move rfl)<|.cons (o_move rfl)<|.cons (t_len rfl)<|.cons (o_move rfl)<|.cons (t_len rfl)<|.cons (t_slice_f (by rw [List.length_map]; exact h8) rfl rfl rfl)<|.cons (o_load_r rfl rfl rfl rfl)<|.cons (t_buildW RRec.dv ([(RRec.mk x2 (IntKind.wrap .u64 (List.length v2.1 : Int)) (VClk.mk (arr 0 [0,0,0,0,0,0,0,0,0,0,0,0,0,0,0,0])) 3 (AEv.mk 0 0 0 0 0 0 0 0 []) 0)] : List RRec) rfl rfl rfl rfl rfl rfl (.cons (DLe.agg (.cons (DLe.refl _) (.cons (DLe.refl _) (.cons (DLe.refl _) (.cons (DLe.refl _) (.cons (DLe.refl _) (.cons (DLe.refl _) (.cons (DLe.refl _) (.cons (DLe.refl _) (.cons (DLe.refl _) (.cons (DLe.refl _) (.cons (DLe.refl _) (.cons (DLe.refl _) (.cons (DLe.refl _) (.cons (DLe.refl _) (.cons (DLe.refl _) (.cons (DLe.refl _) (.cons (DLe.refl _) (.cons (DLe.refl _) (.cons (DLe.refl _) (.cons (DLe.refl _) (.cons (DLe.refl _) (.cons (DLe.refl _) (.cons (DLe.refl _) (.cons (DLe.refl _) (.cons (DLe.refl _) (.cons (DLe.refl _) (.cons (DLe.refl _) (.cons (DLe.nils _) (.cons (DLe.refl _) .nil)))))))))))))))))))))))))))))) .nil))<|.cons (t_append_f [(RRec.mk x2 (IntKind.wrap .u64 (List.length v2.1 : Int)) (VClk.mk (arr 0 [0,0,0,0,0,0,0,0,0,0,0,0,0,0,0,0])) 3 (AEv.mk 0 0 0 0 0 0 0 0 []) 0)] h9 rfl rfl (Src.row rfl))<|.cons (t_len_r rfl rfl)<|.cons (o_move rfl)<|.nil _) ?_
      obtain ⟨t12,hL12,hK12⟩ := of_bind hM
      refine a_block ?_
      refine a_for (fun k10 (s : (List Int))=>⟨[(13,.sl 1 (List.map (DV.int .u8) s)),(67,.sl 29 (List.map RRec.dv (a6++[(RRec.mk x2 (IntKind.wrap .u64 (List.length v2.1 : Int)) (VClk.mk (arr 0 [0,0,0,0,0,0,0,0,0,0,0,0,0,0,0,0])) 3 (AEv.mk 0 0 0 0 0 0 0 0 []) 0)]))),(68,.int .i64 (List.length (a6++[(RRec.mk x2 (IntKind.wrap .u64 (List.length v2.1 : Int)) (VClk.mk (arr 0 [0,0,0,0,0,0,0,0,0,0,0,0,0,0,0,0])) 3 (AEv.mk 0 0 0 0 0 0 0 0 []) 0)]) : Int)),(69,.int .i64 (k10 : Int))],[],[]⟩) _ hL12 ((Imp.freeze (id:=67) rfl).trans (Imp.of (fun i=>i) (.cons rfl (DLe.nils _) (.cons rfl (DLe.refl _) (.cons rfl (DLe.refl _) (.cons rfl (DLe.refl _) .nil)))) .nil rfl rfl rfl)) ?_ ?_
      ·rintro k10 a11 t13 hk10 hx10 hM hE12
       replace hM : recorder_Write_L4 x2 v2 a6 k10 a11 = some t13:=hM
       unfold recorder_Write_L4 at hM
       refine a_seq (ar (.cons (o_int rfl rfl rfl)<|.nil _) ?_)
       refine a_seq ?_
       refine a_cond _ rfl (fun _=>?_) (fun c=>absurd hk10 (of_decide_eq_false c))
       refine a_skip (a_seq (a_block (a_seq ?_)))
       obtain ⟨v16,h15,hM⟩ := of_bind hM
       refine ar (.cons (t_index h15 rfl rfl rfl)<|.cons (o_load_er rfl rfl rfl)<|.cons (o_alloc rfl)<|.cons (o_store rfl rfl rfl rfl rfl rfl rfl)<|.nil _) ?_
       refine a_seq ?_
       obtain ⟨v18,h17,hM⟩ := of_bind hM
       obtain ⟨v20,h19,hM⟩ := of_bind hM
       refine ar (.cons (o_move rfl)<|.cons (o_load_r rfl rfl rfl rfl)<|.cons (o_call (RRec_Bytes_c h17) rfl (DLeL.refl _) rfl)<|.cons (o_callN (fun i=>bif Nat.beq i 50000 then 10001 else i) 1 (frame_Append_c h19) rfl (DLeL.refl _) .nil rfl .nil)<|.cons (o_move rfl)<|.cons (o_extract rfl rfl)<|.cons (o_extract rfl rfl)<|.cons (o_assign rfl)<|.cons (o_assign rfl)<|.nil _) ?_
       refine a_seq (ar (.cons (o_move rfl)<|.cons (o_int rfl rfl rfl)<|.nil _) ?_)
       refine a_cond _ rfl (fun h21=>?_) (fun h21=>?_)
       ·replace hM:=(of_if hM).1 h21
        refine a_seq (ar (.cons (o_move rfl)<|.cons (o_assign rfl)<|.cons (o_assign rfl)<|.nil _) ?_)
        obtain rfl:=Option.some.inj hM
        obtain rfl:=hE12 _ rfl
        obtain rfl:=Option.some.inj hK12
        exact a_ret (a_post (.r2 (.tmp rfl) (.tmp rfl)) (DLe.tup (.cons (DLe.nils _) (.cons (DLe.refl _) .nil))) PostOk.nil.spec)
       ·replace hM:=(of_if hM).2 h21
        refine a_skip (ar (.cons (o_add rfl rfl (inR_i64 hk10 hx10))<|.cons (o_move rfl)<|.nil _) ?_)
        obtain rfl:=Option.some.inj hM
        exact ⟨v20.1,rfl,((Imp.freeze (id:=10001) rfl).trans (Imp.of (fun i=>i) (.cons rfl (DLe.refl _) (.cons rfl (DLe.refl _) (.cons rfl (DLe.refl _) (.cons rfl (DLe.succ _ _) .nil)))) .nil rfl rfl rfl))⟩
      ·rintro k10 a11 hk10 hx10 rfl
       refine a_seq (ar (.cons (o_int rfl rfl rfl)<|.nil _) ?_)
       refine a_seq ?_
       refine a_cond _ rfl (fun c=>absurd (of_decide_eq_true c) (Int.not_lt.2 hk10)) (fun _=>?_)
       refine a_exit ?_
       exact ⟨a11,hK12,(Imp.sh (fun i=>i) rfl rfl rfl rfl rfl rfl)⟩
     ·rintro a7 hM
      replace hM : recorder_Write_K3 a7 = some r:=hM
      unfold recorder_Write_K3 at hM
      refine a_seq (ar (.cons (o_move rfl)<|.cons (o_assign rfl)<|.cons (o_assign rfl)<|.nil _) ?_)
      obtain rfl:=Option.some.inj hM
      exact a_ret (a_post (.r2 (.tmp rfl) (.tmp rfl)) (DLe.refl _) PostOk.nil.spec)
end Go.Proofs.YtcgfgilddjkpkaaGreat
set_option maxRecDepth 100000
namespace Go.Proofs.YtcgfgilddjkpkaaGreat
open Go.Shelf Go.RowKit
def math_bits_Len (x : Int) : Option Int:=chk ((0 : Int)≤x∧x≤18446744073709551615) (some (Lib.bitLen x.toNat : Int))
theorem math_bits_Len_c {x r : Int} (hM : math_bits_Len x = some r) : PCall Tryz.prog 55 [.int .u64 x] (.int .i64 r):=by
 obtain ⟨⟨h0,h1⟩,hM⟩ := of_chk hM
 obtain rfl:=Option.some.inj hM
 intro C F γ heap used w vs H hv
 simp only [RsT,Rs] at hv
 obtain ⟨v,rest,rfl,rfl,rfl⟩ := hv
 have h:=Any.bits_Len (SlLaysF0.n15.bits (P:=Tryz.prog) (ρ:=Tryz.sortSpan_ren) { Tryz.sortSpan with }) x w h0 h1
 refine Calls.mono (show Calls Tryz.prog 55 #[.int .u64 x] w _ from h) ?_
 rintro e w' ⟨rfl,rfl⟩
 exact ⟨_,F,rfl,FLe.refl _,H,by simp only [Rs]⟩
end Go.Proofs.YtcgfgilddjkpkaaGreat
