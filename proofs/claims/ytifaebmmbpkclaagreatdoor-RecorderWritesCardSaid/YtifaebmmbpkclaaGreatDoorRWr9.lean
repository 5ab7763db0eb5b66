/-
  What the claim leans on, part 9.
-/
import Derived.Test.YtifaebmmbpkclaaGreatDoorRWr8
import Derived.Laws.BytesArg
set_option linter.unusedVariables false
set_option linter.unusedSimpArgs false
namespace Go.Proofs.YtifaebmmbpkclaaGreatDoor
open Go.RowKit
class TStr (P : Program) (t : TypeId) : Prop where
 h : P.underlying t = some .string
section
variable {P : Program} {ops : Array Oper} {σ : AS} {t ty : Nat} {pos : String} {af : Array Edge}
theorem o_strne {T T' : TypeId} {x y : Operand} {a b : ByteArray} (hx : ev σ.env x = some (.str a)) (hy : ev σ.env y = some (.str b)) :
  OpG P ops ⟨some t,.binOp .neq T x y T',ty,pos,af,none⟩ (tm x++tm y) [] σ ⟨[(t,.bool (!(a.toList == b.toList)))],[],[]⟩ :=
 OpG.val rfl rfl fun C F γ σ' ac w h1 _ hs=>by
  obtain ⟨k1,k2⟩ := ev2 hs h1 hx hy
  simp only [Rs] at k1 k2
  have e2 : eqGuard .neq T x y (.string a) (.string b) = pure ():=rfl
  exact ⟨.bool (!(a.toList == b.toList)),by simp only [execOp,k1,k2,binOp_string_neq,e2,Sem.run_bind,Sem.run_pure,Result.andThen_ok],by simp only [Rs]⟩
theorem o_cat {T T' : TypeId} {x y : Operand} {a b : ByteArray} (h : a.size + b.size≤9223372036854775807) (hx : ev σ.env x = some (.str a)) (hy : ev σ.env y = some (.str b)) :
  OpG P ops ⟨some t,.binOp .add T x y T',ty,pos,af,none⟩ (tm x++tm y) [] σ ⟨[(t,.str (a++b))],[],[]⟩ :=
 OpG.val rfl rfl fun C F γ σ' ac w h1 _ hs=>by
  obtain ⟨k1,k2⟩ := ev2 hs h1 hx hy
  simp only [Rs] at k1 k2
  have e2 : eqGuard .add T x y (.string a) (.string b) = pure ():=rfl
  have e3 : Op.stringOp .add a b = pure (.string (a++b)):=by
   have : ¬ (((a.size + b.size : Nat) : Int) > IntKind.i64.max):=by
    have : IntKind.i64.max = 9223372036854775807:=by decide
    omega
   simp only [Op.stringOp,if_neg this]
  exact ⟨.string (a++b),by simp only [execOp,k1,k2,binOp_string_add,e2,e3,Sem.run_bind,Sem.run_pure,Result.andThen_ok],by simp only [Rs]⟩
end
set_option maxRecDepth 100000
instance : TStr Tryz.prog 9 := ⟨by kernel_rfl⟩
instance : TStr Tryz.prog 10 := ⟨by kernel_rfl⟩
instance : TStr Tryz.prog 11 := ⟨by kernel_rfl⟩
set_option maxHeartbeats 4000000
structure AEv where
 gTick : Int
 gComponent : Int
 gKind : Int
 gPeer : Int
 gN : Int
 gCopy : Int
 gHandler : Int
 gD : Int
 gArgs : List Int
def AEv.cs (x : AEv) : List DV:=[.int .i64 x.gTick,.int .i64 x.gComponent,.int .u8 x.gKind,.int .i64 x.gPeer,.int .i64 x.gN,.int .i64 x.gCopy,.int .i64 x.gHandler,.int .i64 x.gD,.sl 1 (List.map (DV.int .i64) x.gArgs)]
def AEv.dv (x : AEv) : DV:=.agg (AEv.cs x)
structure api_Message where
 gFrom : Int
 gTo : Int
 gN : Int
def api_Message.cs (x : api_Message) : List DV:=[.int .i64 x.gFrom,.int .i64 x.gTo,.int .i64 x.gN]
structure VClk where
 gat : Nat→Int
def VClk.cs (x : VClk) : List DV:=[.int .u64 (x.gat 0),.int .u64 (x.gat 1),.int .u64 (x.gat 2),.int .u64 (x.gat 3),.int .u64 (x.gat 4),.int .u64 (x.gat 5),.int .u64 (x.gat 6),.int .u64 (x.gat 7),.int .u64 (x.gat 8),.int .u64 (x.gat 9),.int .u64 (x.gat 10),.int .u64 (x.gat 11),.int .u64 (x.gat 12),.int .u64 (x.gat 13),.int .u64 (x.gat 14),.int .u64 (x.gat 15)]
def VClk.dv (x : VClk) : DV:=.agg (VClk.cs x)
structure RRec where
 gComponent : Int
 gSeq : Int
 gClock : VClk
 gWhat : Int
 gEvent : AEv
 gCount : Int
def RRec.cs (x : RRec) : List DV:=[.int .i64 x.gComponent,.int .u64 x.gSeq,.int .u64 (x.gClock.gat 0),.int .u64 (x.gClock.gat 1),.int .u64 (x.gClock.gat 2),.int .u64 (x.gClock.gat 3),.int .u64 (x.gClock.gat 4),.int .u64 (x.gClock.gat 5),.int .u64 (x.gClock.gat 6),.int .u64 (x.gClock.gat 7),.int .u64 (x.gClock.gat 8),.int .u64 (x.gClock.gat 9),.int .u64 (x.gClock.gat 10),.int .u64 (x.gClock.gat 11),.int .u64 (x.gClock.gat 12),.int .u64 (x.gClock.gat 13),.int .u64 (x.gClock.gat 14),.int .u64 (x.gClock.gat 15),.int .u8 x.gWhat,.int .i64 x.gEvent.gTick,.int .i64 x.gEvent.gComponent,.int .u8 x.gEvent.gKind,.int .i64 x.gEvent.gPeer,.int .i64 x.gEvent.gN,.int .i64 x.gEvent.gCopy,.int .i64 x.gEvent.gHandler,.int .i64 x.gEvent.gD,.sl 1 (List.map (DV.int .i64) x.gEvent.gArgs),.int .u64 x.gCount]
def RRec.dv (x : RRec) : DV:=.agg (RRec.cs x)
structure frame_Part where
 gOff : Int
 gLen : Int
 gBody : List Int
 gGood : Bool
def frame_Part.cs (x : frame_Part) : List DV:=[.int .i64 x.gOff,.int .i64 x.gLen,.sl 1 (List.map (DV.int .u8) x.gBody),.bool x.gGood]
def frame_Part.dv (x : frame_Part) : DV:=.agg (frame_Part.cs x)
structure recorder_Config where
 gCapacity : Int
 gBudget : Int
def recorder_Config.cs (x : recorder_Config) : List DV:=[.int .i64 x.gCapacity,.int .i64 x.gBudget]
structure rootcauseref24_Rec where
 gWhat : Int
 gComponent : Int
 gSeq : Int
 gCount : Int
 gClock : List Int
 gEvent : AEv
def rootcauseref24_Rec.cs (x : rootcauseref24_Rec) : List DV:=[.int .u8 x.gWhat,.int .i64 x.gComponent,.int .u64 x.gSeq,.int .u64 x.gCount,.sl 1 (List.map (DV.int .u64) x.gClock),.int .i64 x.gEvent.gTick,.int .i64 x.gEvent.gComponent,.int .u8 x.gEvent.gKind,.int .i64 x.gEvent.gPeer,.int .i64 x.gEvent.gN,.int .i64 x.gEvent.gCopy,.int .i64 x.gEvent.gHandler,.int .i64 x.gEvent.gD,.sl 1 (List.map (DV.int .i64) x.gEvent.gArgs)]
def rootcauseref24_Rec.dv (x : rootcauseref24_Rec) : DV:=.agg (rootcauseref24_Rec.cs x)
def array_9_vclock_Clock.cs (x : Nat→VClk) : List DV:=[.int .u64 (((x 0).gat) 0),.int .u64 (((x 0).gat) 1),.int .u64 (((x 0).gat) 2),.int .u64 (((x 0).gat) 3),.int .u64 (((x 0).gat) 4),.int .u64 (((x 0).gat) 5),.int .u64 (((x 0).gat) 6),.int .u64 (((x 0).gat) 7),.int .u64 (((x 0).gat) 8),.int .u64 (((x 0).gat) 9),.int .u64 (((x 0).gat) 10),.int .u64 (((x 0).gat) 11),.int .u64 (((x 0).gat) 12),.int .u64 (((x 0).gat) 13),.int .u64 (((x 0).gat) 14),.int .u64 (((x 0).gat) 15),.int .u64 (((x 1).gat) 0),.int .u64 (((x 1).gat) 1),.int .u64 (((x 1).gat) 2),.int .u64 (((x 1).gat) 3),.int .u64 (((x 1).gat) 4),.int .u64 (((x 1).gat) 5),.int .u64 (((x 1).gat) 6),.int .u64 (((x 1).gat) 7),.int .u64 (((x 1).gat) 8),.int .u64 (((x 1).gat) 9),.int .u64 (((x 1).gat) 10),.int .u64 (((x 1).gat) 11),.int .u64 (((x 1).gat) 12),.int .u64 (((x 1).gat) 13),.int .u64 (((x 1).gat) 14),.int .u64 (((x 1).gat) 15),.int .u64 (((x 2).gat) 0),.int .u64 (((x 2).gat) 1),.int .u64 (((x 2).gat) 2),.int .u64 (((x 2).gat) 3),.int .u64 (((x 2).gat) 4),.int .u64 (((x 2).gat) 5),.int .u64 (((x 2).gat) 6),.int .u64 (((x 2).gat) 7),.int .u64 (((x 2).gat) 8),.int .u64 (((x 2).gat) 9),.int .u64 (((x 2).gat) 10),.int .u64 (((x 2).gat) 11),.int .u64 (((x 2).gat) 12),.int .u64 (((x 2).gat) 13),.int .u64 (((x 2).gat) 14),.int .u64 (((x 2).gat) 15),.int .u64 (((x 3).gat) 0),.int .u64 (((x 3).gat) 1),.int .u64 (((x 3).gat) 2),.int .u64 (((x 3).gat) 3),.int .u64 (((x 3).gat) 4),.int .u64 (((x 3).gat) 5),.int .u64 (((x 3).gat) 6),.int .u64 (((x 3).gat) 7),.int .u64 (((x 3).gat) 8),.int .u64 (((x 3).gat) 9),.int .u64 (((x 3).gat) 10),.int .u64 (((x 3).gat) 11),.int .u64 (((x 3).gat) 12),.int .u64 (((x 3).gat) 13),.int .u64 (((x 3).gat) 14),.int .u64 (((x 3).gat) 15),.int .u64 (((x 4).gat) 0),.int .u64 (((x 4).gat) 1),.int .u64 (((x 4).gat) 2),.int .u64 (((x 4).gat) 3),.int .u64 (((x 4).gat) 4),.int .u64 (((x 4).gat) 5),.int .u64 (((x 4).gat) 6),.int .u64 (((x 4).gat) 7),.int .u64 (((x 4).gat) 8),.int .u64 (((x 4).gat) 9),.int .u64 (((x 4).gat) 10),.int .u64 (((x 4).gat) 11),.int .u64 (((x 4).gat) 12),.int .u64 (((x 4).gat) 13),.int .u64 (((x 4).gat) 14),.int .u64 (((x 4).gat) 15),.int .u64 (((x 5).gat) 0),.int .u64 (((x 5).gat) 1),.int .u64 (((x 5).gat) 2),.int .u64 (((x 5).gat) 3),.int .u64 (((x 5).gat) 4),.int .u64 (((x 5).gat) 5),.int .u64 (((x 5).gat) 6),.int .u64 (((x 5).gat) 7),.int .u64 (((x 5).gat) 8),.int .u64 (((x 5).gat) 9),.int .u64 (((x 5).gat) 10),.int .u64 (((x 5).gat) 11),.int .u64 (((x 5).gat) 12),.int .u64 (((x 5).gat) 13),.int .u64 (((x 5).gat) 14),.int .u64 (((x 5).gat) 15),.int .u64 (((x 6).gat) 0),.int .u64 (((x 6).gat) 1),.int .u64 (((x 6).gat) 2),.int .u64 (((x 6).gat) 3),.int .u64 (((x 6).gat) 4),.int .u64 (((x 6).gat) 5),.int .u64 (((x 6).gat) 6),.int .u64 (((x 6).gat) 7),.int .u64 (((x 6).gat) 8),.int .u64 (((x 6).gat) 9),.int .u64 (((x 6).gat) 10),.int .u64 (((x 6).gat) 11),.int .u64 (((x 6).gat) 12),.int .u64 (((x 6).gat) 13),.int .u64 (((x 6).gat) 14),.int .u64 (((x 6).gat) 15),.int .u64 (((x 7).gat) 0),.int .u64 (((x 7).gat) 1),.int .u64 (((x 7).gat) 2),.int .u64 (((x 7).gat) 3),.int .u64 (((x 7).gat) 4),.int .u64 (((x 7).gat) 5),.int .u64 (((x 7).gat) 6),.int .u64 (((x 7).gat) 7),.int .u64 (((x 7).gat) 8),.int .u64 (((x 7).gat) 9),.int .u64 (((x 7).gat) 10),.int .u64 (((x 7).gat) 11),.int .u64 (((x 7).gat) 12),.int .u64 (((x 7).gat) 13),.int .u64 (((x 7).gat) 14),.int .u64 (((x 7).gat) 15),.int .u64 (((x 8).gat) 0),.int .u64 (((x 8).gat) 1),.int .u64 (((x 8).gat) 2),.int .u64 (((x 8).gat) 3),.int .u64 (((x 8).gat) 4),.int .u64 (((x 8).gat) 5),.int .u64 (((x 8).gat) 6),.int .u64 (((x 8).gat) 7),.int .u64 (((x 8).gat) 8),.int .u64 (((x 8).gat) 9),.int .u64 (((x 8).gat) 10),.int .u64 (((x 8).gat) 11),.int .u64 (((x 8).gat) 12),.int .u64 (((x 8).gat) 13),.int .u64 (((x 8).gat) 14),.int .u64 (((x 8).gat) 15)]
def vclock_Merge_K1 (a1 : Nat→Int) : Option VClk :=
 some (VClk.mk a1)
def vclock_Merge_L2 (x1 : VClk) (k2 : Nat) (a3 : Nat→Int) : Option (Nat→Int) :=
 chk (inA 16 (k2 : Int))<|
 chk (inA 16 (k2 : Int))<|
 chk (inA 16 (k2 : Int))<|
 some (upd a3 (Int.toNat (k2 : Int)) (if (x1.gat (Int.toNat (k2 : Int))) > (a3 (Int.toNat (k2 : Int))) then (x1.gat (Int.toNat (k2 : Int))) else (a3 (Int.toNat (k2 : Int)))))
def vclock_Merge (x0 : VClk) (x1 : VClk) : Option VClk :=
 (foldM' 9223372036854775807 16 (fun k2 s=>vclock_Merge_L2 x1 k2 s) x0.gat).bind fun s=>vclock_Merge_K1 s
theorem vclock_Merge_c {x0 : VClk} {x1 : VClk} {r : VClk} (hM : vclock_Merge x0 x1 = some r) : PCall Tryz.prog 36 [.agg (VClk.cs x0),.agg (VClk.cs x1)] (.agg (VClk.cs r)):=by
 unfold vclock_Merge at hM
 refine PCall.body Tryz.func36 Tryz.ntmps36 rfl rfl rfl rfl ?_
 refine a_seq (ar (.cons (o_box rfl rfl)<|.cons (o_box rfl rfl)<|.cons (o_alloc rfl)<|.nil _) ?_)
 refine a_cut (α:=(Nat→Int)) (fun s=>⟨[(2,.ref 2 0),(4,.ref 4 0)],[(2,some (.blk 44 (VClk.cs (VClk.mk s)))),(4,some (.blk 44 (VClk.cs (VClk.mk (arr 0 [0,0,0,0,0,0,0,0,0,0,0,0,0,0,0,0])))))],[2,4]⟩) (fun s=>vclock_Merge_K1 s = some r) ?_ ?_
 ·refine a_seq (ar (.cons (o_move rfl)<|.nil _) ?_)
  obtain ⟨a3,hL4,hK4⟩ := of_bind hM
  refine a_block ?_
  refine a_fold (fun k2 (s : (Nat→Int))=>⟨[(2,.ref 2 0),(3,.ref 3 0),(4,.ref 4 0),(6,.int .i64 (k2 : Int))],[(2,some (.blk 44 (VClk.cs (VClk.mk s)))),(3,some (.blk 44 (VClk.cs x1))),(4,some (.blk 44 (VClk.cs (VClk.mk (arr 0 [0,0,0,0,0,0,0,0,0,0,0,0,0,0,0,0])))))],[2,3,4]⟩) _ hL4 (Imp.sh (fun i=>i) rfl rfl rfl rfl rfl rfl) ?_ ?_
  ·rintro k2 a3 t5 hk2 hx2 hM
   replace hM : vclock_Merge_L2 x1 k2 a3 = some t5:=hM
   unfold vclock_Merge_L2 at hM
   refine a_seq (ar (.cons (o_int rfl rfl rfl)<|.nil _) ?_)
   refine a_seq ?_
   refine a_cond _ rfl (fun _=>?_) (fun c=>absurd hk2 (of_decide_eq_false c))
   refine a_skip (a_seq (a_block (a_seq (ar (.cons (o_move rfl)<|.cons (o_assign rfl)<|.nil _) ?_))))
   obtain ⟨h7,hM⟩ := of_chk hM
   obtain ⟨h8,hM⟩ := of_chk hM
   obtain ⟨h9,hM⟩ := of_chk hM
   refine ad mixed (.cons (o_move rfl)<|.cons (o_move rfl)<|.cons (o_fieldAddr rfl)<|.cons (t_index_d h7 rfl rfl)<|.cons (o_load_s rfl rfl (arr_get1 (DV.int .u64) a3 h7 rfl))<|.cons (o_move rfl)<|.cons (o_fieldAddr rfl)<|.cons (t_index_d h8 rfl rfl)<|.cons (o_load_s rfl rfl (arr_get1 (DV.int .u64) x1.gat h8 rfl))<|.cons (o_max rfl rfl)<|.cons (o_fieldAddr rfl)<|.cons (t_index_d h9 rfl rfl)<|.cons (o_store rfl rfl rfl rfl rfl (arr_ble (fun x=>[(DV.int .u64) x]) a3 (fun _=>rfl) (by decide) h9 rfl 0 1 (by decide)) (arr_set (ds' := [.int .u64 ((upd a3 (Int.toNat (k2 : Int)) (if (x1.gat (Int.toNat (k2 : Int))) > (a3 (Int.toNat (k2 : Int))) then (x1.gat (Int.toNat (k2 : Int))) else (a3 (Int.toNat (k2 : Int))))) 0),.int .u64 ((upd a3 (Int.toNat (k2 : Int)) (if (x1.gat (Int.toNat (k2 : Int))) > (a3 (Int.toNat (k2 : Int))) then (x1.gat (Int.toNat (k2 : Int))) else (a3 (Int.toNat (k2 : Int))))) 1),.int .u64 ((upd a3 (Int.toNat (k2 : Int)) (if (x1.gat (Int.toNat (k2 : Int))) > (a3 (Int.toNat (k2 : Int))) then (x1.gat (Int.toNat (k2 : Int))) else (a3 (Int.toNat (k2 : Int))))) 2),.int .u64 ((upd a3 (Int.toNat (k2 : Int)) (if (x1.gat (Int.toNat (k2 : Int))) > (a3 (Int.toNat (k2 : Int))) then (x1.gat (Int.toNat (k2 : Int))) else (a3 (Int.toNat (k2 : Int))))) 3),.int .u64 ((upd a3 (Int.toNat (k2 : Int)) (if (x1.gat (Int.toNat (k2 : Int))) > (a3 (Int.toNat (k2 : Int))) then (x1.gat (Int.toNat (k2 : Int))) else (a3 (Int.toNat (k2 : Int))))) 4),.int .u64 ((upd a3 (Int.toNat (k2 : Int)) (if (x1.gat (Int.toNat (k2 : Int))) > (a3 (Int.toNat (k2 : Int))) then (x1.gat (Int.toNat (k2 : Int))) else (a3 (Int.toNat (k2 : Int))))) 5),.int .u64 ((upd a3 (Int.toNat (k2 : Int)) (if (x1.gat (Int.toNat (k2 : Int))) > (a3 (Int.toNat (k2 : Int))) then (x1.gat (Int.toNat (k2 : Int))) else (a3 (Int.toNat (k2 : Int))))) 6),.int .u64 ((upd a3 (Int.toNat (k2 : Int)) (if (x1.gat (Int.toNat (k2 : Int))) > (a3 (Int.toNat (k2 : Int))) then (x1.gat (Int.toNat (k2 : Int))) else (a3 (Int.toNat (k2 : Int))))) 7),.int .u64 ((upd a3 (Int.toNat (k2 : Int)) (if (x1.gat (Int.toNat (k2 : Int))) > (a3 (Int.toNat (k2 : Int))) then (x1.gat (Int.toNat (k2 : Int))) else (a3 (Int.toNat (k2 : Int))))) 8),.int .u64 ((upd a3 (Int.toNat (k2 : Int)) (if (x1.gat (Int.toNat (k2 : Int))) > (a3 (Int.toNat (k2 : Int))) then (x1.gat (Int.toNat (k2 : Int))) else (a3 (Int.toNat (k2 : Int))))) 9),.int .u64 ((upd a3 (Int.toNat (k2 : Int)) (if (x1.gat (Int.toNat (k2 : Int))) > (a3 (Int.toNat (k2 : Int))) then (x1.gat (Int.toNat (k2 : Int))) else (a3 (Int.toNat (k2 : Int))))) 10),.int .u64 ((upd a3 (Int.toNat (k2 : Int)) (if (x1.gat (Int.toNat (k2 : Int))) > (a3 (Int.toNat (k2 : Int))) then (x1.gat (Int.toNat (k2 : Int))) else (a3 (Int.toNat (k2 : Int))))) 11),.int .u64 ((upd a3 (Int.toNat (k2 : Int)) (if (x1.gat (Int.toNat (k2 : Int))) > (a3 (Int.toNat (k2 : Int))) then (x1.gat (Int.toNat (k2 : Int))) else (a3 (Int.toNat (k2 : Int))))) 12),.int .u64 ((upd a3 (Int.toNat (k2 : Int)) (if (x1.gat (Int.toNat (k2 : Int))) > (a3 (Int.toNat (k2 : Int))) then (x1.gat (Int.toNat (k2 : Int))) else (a3 (Int.toNat (k2 : Int))))) 13),.int .u64 ((upd a3 (Int.toNat (k2 : Int)) (if (x1.gat (Int.toNat (k2 : Int))) > (a3 (Int.toNat (k2 : Int))) then (x1.gat (Int.toNat (k2 : Int))) else (a3 (Int.toNat (k2 : Int))))) 14),.int .u64 ((upd a3 (Int.toNat (k2 : Int)) (if (x1.gat (Int.toNat (k2 : Int))) > (a3 (Int.toNat (k2 : Int))) then (x1.gat (Int.toNat (k2 : Int))) else (a3 (Int.toNat (k2 : Int))))) 15)]) (fun x=>[(DV.int .u64) x]) a3 (if (x1.gat (Int.toNat (k2 : Int))) > (a3 (Int.toNat (k2 : Int))) then (x1.gat (Int.toNat (k2 : Int))) else (a3 (Int.toNat (k2 : Int)))) (fun _=>rfl) (by decide) h9 rfl 0 (Nat.le_of_ble_eq_true rfl) rfl rfl rfl rfl))<|.nil _) ?_
   refine ar (.cons (o_add rfl rfl (inR_i64 hk2 hx2))<|.cons (o_move rfl)<|.nil _) ?_
   obtain rfl:=Option.some.inj hM
   exact (Imp.of (fun i=>i) (.cons rfl (DLe.refl _) (.cons rfl (DLe.refl _) (.cons rfl (DLe.refl _) (.cons rfl (DLe.succ _ _) .nil)))) (.cons rfl (.refl _) (.cons rfl (.refl _) (.cons rfl (.refl _) .nil))) rfl rfl rfl)
  ·rintro k2 hk2 hx2
   refine a_seq (ar (.cons (o_int rfl rfl rfl)<|.nil _) ?_)
   refine a_seq ?_
   refine a_cond _ rfl (fun c=>absurd (of_decide_eq_true c) (Int.not_lt.2 hk2)) (fun _=>?_)
   refine a_exit ?_
   exact ⟨a3,hK4,(Imp.sh (fun i=>i) rfl rfl rfl rfl rfl rfl)⟩
 ·rintro a1 hM
  replace hM : vclock_Merge_K1 a1 = some r:=hM
  unfold vclock_Merge_K1 at hM
  refine a_seq (ar (.cons (o_load_r rfl rfl rfl rfl)<|.cons (o_store rfl rfl rfl rfl rfl rfl rfl)<|.nil _) ?_)
  obtain rfl:=Option.some.inj hM
  exact a_ret (a_post (.r1 (.cell rfl rfl (.row _ CRow.h (Nat.le_of_ble_eq_true rfl) rfl))) (DLe.refl _) PostOk.nil.spec)
def VClk_Tick_K1 (a1 : Nat→Int) : Option VClk :=
 some (VClk.mk a1)
def VClk_Tick (x0 : VClk) (x1 : Int) : Option VClk :=
 chk (((decide (0≤x1)) && (decide (x1 < 16))) = true→inA 16 x1)<|
 if (((decide (0≤x1)) && (decide (x1 < 16))) && (decide ((x0.gat (Int.toNat x1)) < 18446744073709551615))) = true then
  chk (inA 16 x1)<|
  chk (inA 16 x1)<|
  VClk_Tick_K1 (upd x0.gat (Int.toNat x1) (IntKind.wrap .u64 ((x0.gat (Int.toNat x1)) + 1)))
 else
  VClk_Tick_K1 x0.gat
theorem VClk_Tick_c {x0 : VClk} {x1 : Int} {r : VClk} (hM : VClk_Tick x0 x1 = some r) : PCall Tryz.prog 37 [.agg (VClk.cs x0),.int .i64 x1] (.agg (VClk.cs r)):=by
 unfold VClk_Tick at hM
 refine PCall.body Tryz.func37 Tryz.ntmps37 rfl rfl rfl rfl ?_
 refine a_seq (ar (.cons (o_box rfl rfl)<|.cons (o_alloc rfl)<|.nil _) ?_)
 refine a_cut (α:=(Nat→Int)) (fun s=>⟨[(2,.ref 2 0),(4,.ref 4 0)],[(2,some (.blk 44 (VClk.cs (VClk.mk s)))),(4,some (.blk 44 (VClk.cs (VClk.mk (arr 0 [0,0,0,0,0,0,0,0,0,0,0,0,0,0,0,0])))))],[2,4]⟩) (fun s=>VClk_Tick_K1 s = some r) ?_ ?_
 ·refine a_seq ?_
  obtain ⟨h2,hM⟩ := of_chk hM
  refine ar (.cons (o_move rfl)<|.cons (o_int rfl rfl rfl)<|.cons (o_move rfl)<|.cons (o_guardG .bT rfl rfl (fun hb=>(.keep .nil)) (fun hb=>o_move rfl))<|.cons (o_guardG .bT rfl rfl (fun hb=>(.strip rfl hb .nil)) (fun hb=>o_int rfl rfl rfl))<|.cons (o_and rfl rfl)<|.cons (o_move rfl)<|.cons (o_guardG .bT rfl rfl (fun hb=>(.keep .nil)) (fun hb=>o_move rfl))<|.cons (o_guardG .bT rfl rfl (fun hb=>(.keep .nil)) (fun hb=>o_fieldAddr rfl))<|.cons (o_guardG .bT rfl rfl (fun hb=>(.strip rfl hb (.strip rfl hb .nil))) (fun hb=>t_index_d (h2 hb) rfl rfl))<|.cons (o_guardG .bT rfl rfl (fun hb=>(.strip rfl hb .nil)) (fun hb=>o_load_s rfl rfl (arr_get1 (DV.int .u64) x0.gat (h2 hb) rfl)))<|.cons (o_guardG .bT rfl rfl (fun hb=>(.strip rfl hb .nil)) (fun hb=>o_int rfl rfl rfl))<|.cons (o_and rfl rfl)<|.nil _) ?_
  refine a_cond _ rfl (fun h3=>?_) (fun h3=>?_)
  ·replace hM:=(of_if hM).1 h3
   obtain ⟨h4,hM⟩ := of_chk hM
   obtain ⟨h5,hM⟩ := of_chk hM
   refine ar (.cons (o_move rfl)<|.cons (o_fieldAddr rfl)<|.cons (t_index_d h4 rfl rfl)<|.cons (o_load_s rfl rfl (arr_get1 (DV.int .u64) x0.gat h4 rfl))<|.cons (o_int rfl rfl rfl)<|.cons (o_fieldAddr rfl)<|.cons (t_index_d h5 rfl rfl)<|.cons (o_store rfl rfl rfl rfl rfl (arr_ble (fun x=>[(DV.int .u64) x]) x0.gat (fun _=>rfl) (by decide) h5 rfl 0 1 (by decide)) (arr_set (ds' := [.int .u64 ((upd x0.gat (Int.toNat x1) (IntKind.wrap .u64 ((x0.gat (Int.toNat x1)) + 1))) 0),.int .u64 ((upd x0.gat (Int.toNat x1) (IntKind.wrap .u64 ((x0.gat (Int.toNat x1)) + 1))) 1),.int .u64 ((upd x0.gat (Int.toNat x1) (IntKind.wrap .u64 ((x0.gat (Int.toNat x1)) + 1))) 2),.int .u64 ((upd x0.gat (Int.toNat x1) (IntKind.wrap .u64 ((x0.gat (Int.toNat x1)) + 1))) 3),.int .u64 ((upd x0.gat (Int.toNat x1) (IntKind.wrap .u64 ((x0.gat (Int.toNat x1)) + 1))) 4),.int .u64 ((upd x0.gat (Int.toNat x1) (IntKind.wrap .u64 ((x0.gat (Int.toNat x1)) + 1))) 5),.int .u64 ((upd x0.gat (Int.toNat x1) (IntKind.wrap .u64 ((x0.gat (Int.toNat x1)) + 1))) 6),.int .u64 ((upd x0.gat (Int.toNat x1) (IntKind.wrap .u64 ((x0.gat (Int.toNat x1)) + 1))) 7),.int .u64 ((upd x0.gat (Int.toNat x1) (IntKind.wrap .u64 ((x0.gat (Int.toNat x1)) + 1))) 8),.int .u64 ((upd x0.gat (Int.toNat x1) (IntKind.wrap .u64 ((x0.gat (Int.toNat x1)) + 1))) 9),.int .u64 ((upd x0.gat (Int.toNat x1) (IntKind.wrap .u64 ((x0.gat (Int.toNat x1)) + 1))) 10),.int .u64 ((upd x0.gat (Int.toNat x1) (IntKind.wrap .u64 ((x0.gat (Int.toNat x1)) + 1))) 11),.int .u64 ((upd x0.gat (Int.toNat x1) (IntKind.wrap .u64 ((x0.gat (Int.toNat x1)) + 1))) 12),.int .u64 ((upd x0.gat (Int.toNat x1) (IntKind.wrap .u64 ((x0.gat (Int.toNat x1)) + 1))) 13),.int .u64 ((upd x0.gat (Int.toNat x1) (IntKind.wrap .u64 ((x0.gat (Int.toNat x1)) + 1))) 14),.int .u64 ((upd x0.gat (Int.toNat x1) (IntKind.wrap .u64 ((x0.gat (Int.toNat x1)) + 1))) 15)]) (fun x=>[(DV.int .u64) x]) x0.gat (IntKind.wrap .u64 ((x0.gat (Int.toNat x1)) + 1)) (fun _=>rfl) (by decide) h5 rfl 0 (Nat.le_of_ble_eq_true rfl) rfl rfl rfl rfl))<|.nil _) ?_
   exact ⟨(upd x0.gat (Int.toNat x1) (IntKind.wrap .u64 ((x0.gat (Int.toNat x1)) + 1))),hM,(Imp.sh (fun i=>i) rfl rfl rfl rfl rfl rfl)⟩
  ·replace hM:=(of_if hM).2 h3
   refine a_skip ?_
   exact ⟨x0.gat,hM,(Imp.sh (fun i=>i) rfl rfl rfl rfl rfl rfl)⟩
 ·rintro a1 hM
  replace hM : VClk_Tick_K1 a1 = some r:=hM
  unfold VClk_Tick_K1 at hM
  refine a_seq (ar (.cons (o_load_r rfl rfl rfl rfl)<|.cons (o_store rfl rfl rfl rfl rfl rfl rfl)<|.nil _) ?_)
  obtain rfl:=Option.some.inj hM
  exact a_ret (a_post (.r1 (.cell rfl rfl (.row _ CRow.h (Nat.le_of_ble_eq_true rfl) rfl))) (DLe.refl _) PostOk.nil.spec)
def VClk_length_K1 (a1 : Int) : Option Int :=
 some a1
def VClk_length_L2 (x0 : VClk) (k2 : Nat) (a3 : Int) : Option Int :=
 chk (inA 16 (k2 : Int))<|
 if ((x0.gat (Int.toNat (k2 : Int))) != 0) = true then
  some ((k2 : Int) + 1)
 else
  some a3
def VClk_length (x0 : VClk) : Option Int :=
 (foldM' 9223372036854775807 16 (fun k2 s=>VClk_length_L2 x0 k2 s) 0).bind fun s=>VClk_length_K1 s
theorem VClk_length_c {x0 : VClk} {r : Int} (hM : VClk_length x0 = some r) : PCall Tryz.prog 38 [.agg (VClk.cs x0)] (.int .i64 r):=by
 unfold VClk_length at hM
 refine PCall.body Tryz.func38 Tryz.ntmps38 rfl rfl rfl rfl ?_
 refine a_seq (ar (.cons (o_box rfl rfl)<|.cons (o_assign rfl)<|.nil _) ?_)
 refine a_seq (ar (.cons (o_assign rfl)<|.nil _) ?_)
 refine a_cut (α:=Int) (fun s=>⟨[(3,.int .i64 s)],[],[]⟩) (fun s=>VClk_length_K1 s = some r) ?_ ?_
 ·refine a_seq (ar (.cons (o_move rfl)<|.nil _) ?_)
  obtain ⟨a3,hL4,hK4⟩ := of_bind hM
  refine a_block ?_
  refine a_fold (fun k2 (s : Int)=>⟨[(1,.ref 1 0),(3,.int .i64 s),(5,.int .i64 (k2 : Int))],[(1,some (.blk 44 (VClk.cs x0)))],[1]⟩) _ hL4 (Imp.sh (fun i=>i) rfl rfl rfl rfl rfl rfl) ?_ ?_
  ·rintro k2 a3 t5 hk2 hx2 hM
   replace hM : VClk_length_L2 x0 k2 a3 = some t5:=hM
   unfold VClk_length_L2 at hM
   refine a_seq (ar (.cons (o_int rfl rfl rfl)<|.nil _) ?_)
   refine a_seq ?_
   refine a_cond _ rfl (fun _=>?_) (fun c=>absurd hk2 (of_decide_eq_false c))
   refine a_skip (a_seq (a_block (a_seq (ar (.cons (o_move rfl)<|.cons (o_assign rfl)<|.nil _) ?_))))
   refine a_seq ?_
   obtain ⟨h7,hM⟩ := of_chk hM
   refine ar (.cons (o_move rfl)<|.cons (o_fieldAddr rfl)<|.cons (t_index_d h7 rfl rfl)<|.cons (o_load_s rfl rfl (arr_get1 (DV.int .u64) x0.gat h7 rfl))<|.cons (o_int rfl rfl rfl)<|.nil _) ?_
   refine a_cond _ rfl (fun h8=>?_) (fun h8=>?_)
   ·replace hM:=(of_if hM).1 h8
    refine ar (.cons (o_move rfl)<|.cons (o_add rfl rfl (inR_i64 hk2 hx2))<|.cons (o_assign rfl)<|.nil _) ?_
    refine ar (.cons (o_add rfl rfl (inR_i64 hk2 hx2))<|.cons (o_move rfl)<|.nil _) ?_
    obtain rfl:=Option.some.inj hM
    exact (Imp.of (fun i=>i) (.cons rfl (DLe.refl _) (.cons rfl (DLe.succ _ _) (.cons rfl (DLe.succ _ _) .nil))) (.cons rfl (.refl _) .nil) rfl rfl rfl)
   ·replace hM:=(of_if hM).2 h8
    refine a_skip (ar (.cons (o_add rfl rfl (inR_i64 hk2 hx2))<|.cons (o_move rfl)<|.nil _) ?_)
    obtain rfl:=Option.some.inj hM
    exact (Imp.of (fun i=>i) (.cons rfl (DLe.refl _) (.cons rfl (DLe.refl _) (.cons rfl (DLe.succ _ _) .nil))) (.cons rfl (.refl _) .nil) rfl rfl rfl)
  ·rintro k2 hk2 hx2
   refine a_seq (ar (.cons (o_int rfl rfl rfl)<|.nil _) ?_)
   refine a_seq ?_
   refine a_cond _ rfl (fun c=>absurd (of_decide_eq_true c) (Int.not_lt.2 hk2)) (fun _=>?_)
   refine a_exit ?_
   exact ⟨a3,hK4,(Imp.sh (fun i=>i) rfl rfl rfl rfl rfl rfl)⟩
 ·rintro a1 hM
  replace hM : VClk_length_K1 a1 = some r:=hM
  unfold VClk_length_K1 at hM
  refine a_seq (ar (.cons (o_move rfl)<|.cons (o_assign rfl)<|.nil _) ?_)
  obtain rfl:=Option.some.inj hM
  exact a_ret (a_post (.r1 (.tmp rfl)) (DLe.refl _) PostOk.nil.spec)
def VClk_Entries (x0 : VClk) : Option (List Int) :=
 (VClk_length x0).bind fun v2=>
 chk (slOk 16 0 v2)<|
 chk (apOk 8 (Int.toNat v2))<|
 some (List.map x0.gat (List.range (Int.toNat v2)))
def recorder_Clocks_K2 (a3 : List VClk) : Option ((List VClk) × Int) :=
 some (a3,0)
def recorder_Clocks_K5 (a6 : List VClk) (a7 : Nat→VClk) (v12 : AEv) (v16 : VClk) (a17 : List (api_Message × VClk)) : Option ((List (api_Message × VClk)) × (List VClk) × (Nat→VClk)) :=
 chk (inA 9 v12.gComponent)<|
 chk (apOk 128 (List.length a6 + List.length [v16]))<|
 some (a17,(a6++[v16]),(upd a7 (Int.toNat v12.gComponent) v16))
def recorder_Clocks_K4 (a5 : List (api_Message × VClk)) (a6 : List VClk) (a7 : Nat→VClk) (v12 : AEv) (a14 : Nat→Int) : Option ((List (api_Message × VClk)) × (List VClk) × (Nat→VClk)) :=
 (VClk_Tick (VClk.mk a14) v12.gComponent).bind fun v16=>
 if (v12.gKind == 8) = true then
  recorder_Clocks_K5 a6 a7 v12 v16 (mput api_Message.cs a5 (api_Message.mk v12.gComponent v12.gPeer v12.gN) v16)
 else
  recorder_Clocks_K5 a6 a7 v12 v16 a5
def recorder_Clocks_L3 (x0 : List AEv) (k4 : Nat) (a5 : List (api_Message × VClk)) (a6 : List VClk) (a7 : Nat→VClk) : Option ((List (api_Message × VClk)) × (List VClk) × (Nat→VClk)) :=
 (idx x0 (k4 : Int)).bind fun v12=>
 chk (inA 9 v12.gComponent)<|
 if ((v12.gKind == 5) || ((v12.gKind == 7) && (v12.gD == 5))) = true then
  (some (mget api_Message.cs a5 (api_Message.mk v12.gPeer v12.gComponent v12.gN) (VClk.mk (arr 0 [])))).bind fun v23=>
  (vclock_Merge (a7 (Int.toNat v12.gComponent)) v23).bind fun v25=>
  recorder_Clocks_K4 a5 a6 a7 v12 v25.gat
 else
  recorder_Clocks_K4 a5 a6 a7 v12 ((a7 (Int.toNat v12.gComponent)).gat)
def recorder_Clocks_K1 (x0 : List AEv) : Option ((List VClk) × Int) :=
 chk (mkOk 128 0 (List.length x0 : Int))<|
 (foldM' 9223372036854775807 (List.length x0 : Int) (fun k4 s=>recorder_Clocks_L3 x0 k4 s.1 s.2.1 s.2.2) (([] : List (api_Message × VClk)),([] : List VClk),(arr (VClk.mk (arr 0 [])) [(VClk.mk (arr 0 [0,0,0,0,0,0,0,0,0,0,0,0,0,0,0,0])),(VClk.mk (arr 0 [0,0,0,0,0,0,0,0,0,0,0,0,0,0,0,0])),(VClk.mk (arr 0 [0,0,0,0,0,0,0,0,0,0,0,0,0,0,0,0])),(VClk.mk (arr 0 [0,0,0,0,0,0,0,0,0,0,0,0,0,0,0,0])),(VClk.mk (arr 0 [0,0,0,0,0,0,0,0,0,0,0,0,0,0,0,0])),(VClk.mk (arr 0 [0,0,0,0,0,0,0,0,0,0,0,0,0,0,0,0])),(VClk.mk (arr 0 [0,0,0,0,0,0,0,0,0,0,0,0,0,0,0,0])),(VClk.mk (arr 0 [0,0,0,0,0,0,0,0,0,0,0,0,0,0,0,0])),(VClk.mk (arr 0 [0,0,0,0,0,0,0,0,0,0,0,0,0,0,0,0]))]))).bind fun s=>recorder_Clocks_K2 s.2.1
def recorder_Clocks_L6 (x0 : List AEv) (x1 : Int) (k26 : Nat) : Option (Ctl Unit ((List VClk) × Int)) :=
 (idx x0 (k26 : Int)).bind fun v31=>
 if ((decide (v31.gComponent < 0)) || (decide (x1 < v31.gComponent))) = true then
  some (.done (([] : List VClk),1))
 else
  some (.next ())
def recorder_Clocks (x0 : List AEv) (x1 : Int) : Option ((List VClk) × Int) :=
 if ((decide (x1 < 1)) || (decide (8 < x1))) = true then
  some (([] : List VClk),1)
 else
  (forM' (E:=(List VClk) × Int) 9223372036854775807 (List.length x0 : Int) (fun k26 s=>recorder_Clocks_L6 x0 x1 k26) ()).bind fun
   | .next s=>recorder_Clocks_K1 x0
   | .done r=>some r
theorem recorder_Clocks_c {x0 : List AEv} {x1 : Int} {r : (List VClk) × Int} (hM : recorder_Clocks x0 x1 = some r) : PCall Tryz.prog 15 [.sl 9 (List.map AEv.dv x0),.int .i64 x1] (.tup [.sl 16 (List.map VClk.dv r.1),.int .i64 r.2]):=by
 unfold recorder_Clocks at hM
 refine PCall.body Tryz.func15 Tryz.ntmps15 rfl rfl rfl rfl ?_
 refine a_seq (ar (.cons (o_assign rfl)<|.cons (o_assign rfl)<|.nil _) ?_)
 refine a_seq (a_seq (ar (.cons (o_move rfl)<|.cons (o_int rfl rfl rfl)<|.cons (o_move rfl)<|.cons (o_guardG .bF rfl rfl (fun hb=>(.keep .nil)) (fun hb=>o_move rfl))<|.cons (o_guardG .bF rfl rfl (fun hb=>(.strip rfl hb .nil)) (fun hb=>o_int rfl rfl rfl))<|.cons (o_or rfl rfl)<|.nil _) ?_))
 refine a_cond _ rfl (fun h1=>?_) (fun h1=>?_)
 ·replace hM:=(of_if hM).1 h1
  refine a_seq (ar (.cons (o_assign rfl)<|.cons (o_assign rfl)<|.nil _) ?_)
  obtain rfl:=Option.some.inj hM
  exact a_ret (a_post (.r2 (.tmp rfl) (.tmp rfl)) (DLe.tup (.cons (DLe.nils _) (.cons (DLe.refl _) .nil))) PostOk.nil.spec)
 ·replace hM:=(of_if hM).2 h1
  refine a_skip ?_
  refine a_cut (α:=Unit) (fun s=>⟨[(0,.sl 9 (List.map AEv.dv x0))],[],[]⟩) (fun s=>recorder_Clocks_K1 x0 = some r) ?_ ?_
  ·refine a_seq (ar (.cons (o_move rfl)<|.cons (t_len rfl)<|.cons (o_move rfl)<|.nil _) ?_)
   obtain ⟨t27,hL27,hK27⟩ := of_bind hM
   refine a_block ?_
   refine a_for (fun k26 (s : Unit)=>⟨[(0,.sl 9 (List.map AEv.dv x0)),(1,.int .i64 x1),(20,.sl 9 (List.map AEv.dv x0)),(21,.int .i64 (List.length x0 : Int)),(22,.int .i64 (k26 : Int))],[],[]⟩) _ hL27 (Imp.sh (fun i=>i) rfl rfl rfl rfl rfl rfl) ?_ ?_
   ·rintro k26 _ t28 hk26 hx26 hM hE27
    replace hM : recorder_Clocks_L6 x0 x1 k26 = some t28:=hM
    unfold recorder_Clocks_L6 at hM
    refine a_seq (ar (.cons (o_int rfl rfl rfl)<|.nil _) ?_)
    refine a_seq ?_
    refine a_cond _ rfl (fun _=>?_) (fun c=>absurd hk26 (of_decide_eq_false c))
    refine a_skip (a_seq (a_block (a_seq ?_)))
    obtain ⟨v31,h30,hM⟩ := of_bind hM
    refine ar (.cons (t_index h30 rfl rfl rfl)<|.cons (o_load_er rfl rfl rfl)<|.cons (o_alloc rfl)<|.cons (o_store rfl rfl rfl rfl rfl rfl rfl)<|.nil _) ?_
    refine a_seq (ar (.cons (o_fieldAddr rfl)<|.cons (o_load_s rfl rfl rfl)<|.cons (o_int rfl rfl rfl)<|.cons (o_move rfl)<|.cons (o_guardG .bF rfl rfl (fun hb=>(.keep .nil)) (fun hb=>o_fieldAddr rfl))<|.cons (o_guardG .bF rfl rfl (fun hb=>(.strip rfl hb .nil)) (fun hb=>o_load_s rfl rfl rfl))<|.cons (o_guardG .bF rfl rfl (fun hb=>(.keep .nil)) (fun hb=>o_move rfl))<|.cons (o_guardG .bF rfl rfl (fun hb=>(.strip rfl hb (.strip rfl hb .nil))) (fun hb=>o_int rfl rfl rfl))<|.cons (o_or rfl rfl)<|.nil _) ?_)
    refine a_cond _ rfl (fun h32=>?_) (fun h32=>?_)
    ·replace hM:=(of_if hM).1 h32
     refine a_seq (ar (.cons (o_assign rfl)<|.cons (o_assign rfl)<|.nil _) ?_)
     obtain rfl:=Option.some.inj hM
     obtain rfl:=hE27 _ rfl
     obtain rfl:=Option.some.inj hK27
     exact a_ret (a_post (.r2 (.tmp rfl) (.tmp rfl)) (DLe.tup (.cons (DLe.nils _) (.cons (DLe.refl _) .nil))) PostOk.nil.spec)
    ·replace hM:=(of_if hM).2 h32
     refine a_skip (ar (.cons (o_add rfl rfl (inR_i64 hk26 hx26))<|.cons (o_move rfl)<|.nil _) ?_)
     obtain rfl:=Option.some.inj hM
     exact ⟨(),rfl,(Imp.of (fun i=>i) (.cons rfl (DLe.refl _) (.cons rfl (DLe.refl _) (.cons rfl (DLe.refl _) (.cons rfl (DLe.refl _) (.cons rfl (DLe.succ _ _) .nil))))) .nil rfl rfl rfl)⟩
   ·rintro k26 _ hk26 hx26 rfl
    refine a_seq (ar (.cons (o_int rfl rfl rfl)<|.nil _) ?_)
    refine a_seq ?_
    refine a_cond _ rfl (fun c=>absurd (of_decide_eq_true c) (Int.not_lt.2 hk26)) (fun _=>?_)
    refine a_exit ?_
    exact ⟨(),hK27,(Imp.sh (fun i=>i) rfl rfl rfl rfl rfl rfl)⟩
  ·rintro _ hM
   replace hM : recorder_Clocks_K1 x0 = some r:=hM
   unfold recorder_Clocks_K1 at hM
   refine a_seq (ar (.cons (o_alloc rfl)<|.nil _) ?_)
   refine a_seq (ar (.cons (t_makeMap api_Message.cs VClk.dv)<|.cons (o_assign rfl)<|.nil _) ?_)
   refine a_seq ?_
   obtain ⟨h2,hM⟩ := of_chk hM
   refine ar (.cons (o_move rfl)<|.cons (t_len rfl)<|.cons (t_make VClk.dv (VClk.mk (arr 0 [])) h2 rfl rfl rfl rfl)<|.cons (o_assign rfl)<|.nil _) ?_
   refine a_cut (α:=(List VClk)) (fun s=>⟨[(10,.sl 16 (List.map VClk.dv s))],[],[]⟩) (fun s=>recorder_Clocks_K2 s = some r) ?_ ?_
   ·refine a_seq (ar (.cons (o_move rfl)<|.cons (t_len rfl)<|.cons (o_move rfl)<|.nil _) ?_)
    obtain ⟨⟨a5,a6,a7⟩,hL8,hK8⟩ := of_bind hM
    refine a_block ?_
    refine a_fold (fun k4 (s : (List (api_Message × VClk)) × (List VClk) × (Nat→VClk))=>⟨[(8,.ref 8 0),(9,.row 10001),(10,.row 10002),(40,.sl 9 (List.map AEv.dv x0)),(41,.int .i64 (List.length x0 : Int)),(42,.int .i64 (k4 : Int))],[(8,some (.blk 93 (array_9_vclock_Clock.cs s.2.2))),(10001,some (.mp (mpL api_Message.cs VClk.dv s.1))),(10002,some (.row 44 16 (List.map VClk.dv s.2.1)))],[8,10001,10002]⟩) _ hL8 (Imp.sh (fun i=>bif Nat.beq i 10002 then 39 else bif Nat.beq i 10001 then 36 else i) rfl rfl rfl rfl rfl rfl) ?_ ?_
    ·rintro k4 ⟨a5,a6,a7⟩ t9 hk4 hx4 hM
     replace hM : recorder_Clocks_L3 x0 k4 a5 a6 a7 = some t9:=hM
     unfold recorder_Clocks_L3 at hM
     refine a_seq (ar (.cons (o_int rfl rfl rfl)<|.nil _) ?_)
     refine a_seq ?_
     refine a_cond _ rfl (fun _=>?_) (fun c=>absurd hk4 (of_decide_eq_false c))
     refine a_skip (a_seq (a_block (a_seq ?_)))
     obtain ⟨v12,h11,hM⟩ := of_bind hM
     refine ar (.cons (t_index h11 rfl rfl rfl)<|.cons (o_load_er rfl rfl rfl)<|.cons (o_alloc rfl)<|.cons (o_store rfl rfl rfl rfl rfl rfl rfl)<|.nil _) ?_
     refine a_seq ?_
     obtain ⟨h13,hM⟩ := of_chk hM
     refine ar (.cons (o_fieldAddr rfl)<|.cons (o_load_s rfl rfl rfl)<|.cons (t_index_d h13 rfl rfl)<|.cons (o_load_r rfl rfl (arr_len VClk.cs a7 (fun _=>rfl) (by decide) h13 rfl) (arr_get VClk.cs a7 (fun _=>rfl) (by decide) h13 rfl))<|.cons (o_alloc rfl)<|.cons (o_store rfl rfl rfl rfl rfl rfl rfl)<|.nil _) ?_
     refine a_cut (α:=(Nat→Int)) (fun s=>⟨[(8,.ref 8 0),(9,.row 10003),(10,.row 10004),(12,.ref 12 0),(13,.ref 13 0),(40,.sl 9 (List.map AEv.dv x0)),(41,.int .i64 (List.length x0 : Int)),(42,.int .i64 (k4 : Int))],[(8,some (.blk 93 (array_9_vclock_Clock.cs a7))),(12,some (.blk 49 (AEv.cs v12))),(13,some (.blk 44 (VClk.cs (VClk.mk s)))),(10003,some (.mp (mpL api_Message.cs VClk.dv a5))),(10004,some (.row 44 16 (List.map VClk.dv a6)))],[8,12,13,10003,10004]⟩) (fun s=>recorder_Clocks_K4 a5 a6 a7 v12 s = some t9) ?_ ?_
     ·refine a_seq (ar (.cons (o_fieldAddr rfl)<|.cons (o_load_s rfl rfl rfl)<|.cons (o_int rfl rfl rfl)<|.cons (o_move rfl)<|.cons (o_guardG .bF rfl rfl (fun hb=>(.keep .nil)) (fun hb=>o_fieldAddr rfl))<|.cons (o_guardG .bF rfl rfl (fun hb=>(.strip rfl hb .nil)) (fun hb=>o_load_s rfl rfl rfl))<|.cons (o_guardG .bF rfl rfl (fun hb=>(.strip rfl hb .nil)) (fun hb=>o_int rfl rfl rfl))<|.cons (o_guardG .bF rfl rfl (fun hb=>(.strip rfl hb .nil)) (fun hb=>o_move rfl))<|.cons (o_guardG .iT rfl rfl (fun hb=>(.keep .nil)) (fun hb=>o_fieldAddr rfl))<|.cons (o_guardG .iT rfl rfl (fun hb=>(.strip rfl hb .nil)) (fun hb=>o_load_s rfl rfl rfl))<|.cons (o_guardG .iT rfl rfl (fun hb=>(.strip rfl hb .nil)) (fun hb=>o_int rfl rfl rfl))<|.cons (o_guardG .bF rfl rfl (fun hb=>(.strip rfl hb (.half rfl hb .nil))) (fun hb=>o_and rfl rfl))<|.cons (o_or rfl rfl)<|.nil _) ?_)
      refine a_cond _ rfl (fun h21=>?_) (fun h21=>?_)
      ·replace hM:=(of_if hM).1 h21
       obtain ⟨v23,h22,hM⟩ := of_bind hM
       obtain ⟨v25,h24,hM⟩ := of_bind hM
       refine ad mixed (.cons (o_load_r rfl rfl rfl rfl)<|.cons (o_move rfl)<|.cons (o_fieldAddr rfl)<|.cons (o_load_s rfl rfl rfl)<|.cons (o_fieldAddr rfl)<|.cons (o_load_s rfl rfl rfl)<|.cons (o_fieldAddr rfl)<|.cons (o_load_s rfl rfl rfl)<|.cons (o_build rfl rfl rfl)<|.cons (t_lookup (fv:=VClk.dv) h22 (fun _=>rfl) rfl rfl rfl rfl)<|.cons (o_call (vclock_Merge_c h24) rfl (DLeL.refl _) rfl)<|.cons (o_store rfl rfl rfl rfl rfl rfl rfl)<|.nil _) ?_
       exact ⟨v25.gat,hM,(Imp.sh (fun i=>bif Nat.beq i 10004 then 10002 else bif Nat.beq i 10003 then 10001 else i) rfl rfl rfl rfl rfl rfl)⟩
      ·replace hM:=(of_if hM).2 h21
       refine a_skip ?_
       exact ⟨((a7 (Int.toNat v12.gComponent)).gat),hM,(Imp.sh (fun i=>bif Nat.beq i 10004 then 10002 else bif Nat.beq i 10003 then 10001 else i) rfl rfl rfl rfl rfl rfl)⟩
     ·rintro a14 hM
      replace hM : recorder_Clocks_K4 a5 a6 a7 v12 a14 = some t9:=hM
      unfold recorder_Clocks_K4 at hM
      refine a_seq ?_
      obtain ⟨v16,h15,hM⟩ := of_bind hM
      refine ar (.cons (o_load_r rfl rfl rfl rfl)<|.cons (o_fieldAddr rfl)<|.cons (o_load_s rfl rfl rfl)<|.cons (o_call (VClk_Tick_c h15) rfl (DLeL.refl _) rfl)<|.cons (o_store rfl rfl rfl rfl rfl rfl rfl)<|.nil _) ?_
      refine a_cut (α:=(List (api_Message × VClk))) (fun s=>⟨[(8,.ref 8 0),(9,.row 10005),(10,.row 10006),(12,.ref 12 0),(13,.ref 13 0),(40,.sl 9 (List.map AEv.dv x0)),(41,.int .i64 (List.length x0 : Int)),(42,.int .i64 (k4 : Int))],[(8,some (.blk 93 (array_9_vclock_Clock.cs a7))),(12,some (.blk 49 (AEv.cs v12))),(13,some (.blk 44 (VClk.cs v16))),(10005,some (.mp (mpL api_Message.cs VClk.dv s))),(10006,some (.row 44 16 (List.map VClk.dv a6)))],[8,12,13,10005,10006]⟩) (fun s=>recorder_Clocks_K5 a6 a7 v12 v16 s = some t9) ?_ ?_
      ·refine a_seq (ar (.cons (o_fieldAddr rfl)<|.cons (o_load_s rfl rfl rfl)<|.cons (o_int rfl rfl rfl)<|.nil _) ?_)
       refine a_cond _ rfl (fun h20=>?_) (fun h20=>?_)
       ·replace hM:=(of_if hM).1 h20
        refine ar (.cons (o_move rfl)<|.cons (o_fieldAddr rfl)<|.cons (o_load_s rfl rfl rfl)<|.cons (o_fieldAddr rfl)<|.cons (o_load_s rfl rfl rfl)<|.cons (o_fieldAddr rfl)<|.cons (o_load_s rfl rfl rfl)<|.cons (o_build rfl rfl rfl)<|.cons (o_load_r rfl rfl rfl rfl)<|.cons (t_mapUpdate (q:=(api_Message.mk v12.gComponent v12.gPeer v12.gN)) (v:=v16) (fun _=>rfl) rfl rfl rfl rfl rfl rfl)<|.nil _) ?_
        exact ⟨(mput api_Message.cs a5 (api_Message.mk v12.gComponent v12.gPeer v12.gN) v16),hM,(Imp.sh (fun i=>bif Nat.beq i 10006 then 10004 else bif Nat.beq i 10005 then 10003 else i) rfl rfl rfl rfl rfl rfl)⟩
       ·replace hM:=(of_if hM).2 h20
        refine a_skip ?_
        exact ⟨a5,hM,(Imp.sh (fun i=>bif Nat.beq i 10006 then 10004 else bif Nat.beq i 10005 then 10003 else i) rfl rfl rfl rfl rfl rfl)⟩
      ·rintro a17 hM
       replace hM : recorder_Clocks_K5 a6 a7 v12 v16 a17 = some t9:=hM
       unfold recorder_Clocks_K5 at hM
       refine a_seq ?_
       obtain ⟨h18,hM⟩ := of_chk hM
       refine ar (.cons (o_fieldAddr rfl)<|.cons (o_load_s rfl rfl rfl)<|.cons (o_load_r rfl rfl rfl rfl)<|.cons (t_index_d h18 rfl rfl)<|.cons (o_store rfl rfl rfl rfl rfl (arr_ble VClk.cs a7 (fun _=>rfl) (by decide) h18 rfl 0 16 (by decide)) (arr_set (ds' := [.int .u64 ((((upd a7 (Int.toNat v12.gComponent) v16) 0).gat) 0),.int .u64 ((((upd a7 (Int.toNat v12.gComponent) v16) 0).gat) 1),.int .u64 ((((upd a7 (Int.toNat v12.gComponent) v16) 0).gat) 2),.int .u64 ((((upd a7 (Int.toNat v12.gComponent) v16) 0).gat) 3),.int .u64 ((((upd a7 (Int.toNat v12.gComponent) v16) 0).gat) 4),.int .u64 ((((upd a7 (Int.toNat v12.gComponent) v16) 0).gat) 5),.int .u64 ((((upd a7 (Int.toNat v12.gComponent) v16) 0).gat) 6),.int .u64 ((((upd a7 (Int.toNat v12.gComponent) v16) 0).gat) 7),.int .u64 ((((upd a7 (Int.toNat v12.gComponent) v16) 0).gat) 8),.int .u64 ((((upd a7 (Int.toNat v12.gComponent) v16) 0).gat) 9),.int .u64 ((((upd a7 (Int.toNat v12.gComponent) v16) 0).gat) 10),.int .u64 ((((upd a7 (Int.toNat v12.gComponent) v16) 0).gat) 11),.int .u64 ((((upd a7 (Int.toNat v12.gComponent) v16) 0).gat) 12),.int .u64 ((((upd a7 (Int.toNat v12.gComponent) v16) 0).gat) 13),.int .u64 ((((upd a7 (Int.toNat v12.gComponent) v16) 0).gat) 14),.int .u64 ((((upd a7 (Int.toNat v12.gComponent) v16) 0).gat) 15),.int .u64 ((((upd a7 (Int.toNat v12.gComponent) v16) 1).gat) 0),.int .u64 ((((upd a7 (Int.toNat v12.gComponent) v16) 1).gat) 1),.int .u64 ((((upd a7 (Int.toNat v12.gComponent) v16) 1).gat) 2),.int .u64 ((((upd a7 (Int.toNat v12.gComponent) v16) 1).gat) 3),.int .u64 ((((upd a7 (Int.toNat v12.gComponent) v16) 1).gat) 4),.int .u64 ((((upd a7 (Int.toNat v12.gComponent) v16) 1).gat) 5),.int .u64 ((((upd a7 (Int.toNat v12.gComponent) v16) 1).gat) 6),.int .u64 ((((upd a7 (Int.toNat v12.gComponent) v16) 1).gat) 7),.int .u64 ((((upd a7 (Int.toNat v12.gComponent) v16) 1).gat) 8),.int .u64 ((((upd a7 (Int.toNat v12.gComponent) v16) 1).gat) 9),.int .u64 ((((upd a7 (Int.toNat v12.gComponent) v16) 1).gat) 10),.int .u64 ((((upd a7 (Int.toNat v12.gComponent) v16) 1).gat) 11),.int .u64 ((((upd a7 (Int.toNat v12.gComponent) v16) 1).gat) 12),.int .u64 ((((upd a7 (Int.toNat v12.gComponent) v16) 1).gat) 13),.int .u64 ((((upd a7 (Int.toNat v12.gComponent) v16) 1).gat) 14),.int .u64 ((((upd a7 (Int.toNat v12.gComponent) v16) 1).gat) 15),.int .u64 ((((upd a7 (Int.toNat v12.gComponent) v16) 2).gat) 0),.int .u64 ((((upd a7 (Int.toNat v12.gComponent) v16) 2).gat) 1),.int .u64 ((((upd a7 (Int.toNat v12.gComponent) v16) 2).gat) 2),.int .u64 ((((upd a7 (Int.toNat v12.gComponent) v16) 2).gat) 3),.int .u64 ((((upd a7 (Int.toNat v12.gComponent) v16) 2).gat) 4),.int .u64 ((((upd a7 (Int.toNat v12.gComponent) v16) 2).gat) 5),.int .u64 ((((upd a7 (Int.toNat v12.gComponent) v16) 2).gat) 6),.int .u64 ((((upd a7 (Int.toNat v12.gComponent) v16) 2).gat) 7),.int .u64 ((((upd a7 (Int.toNat v12.gComponent) v16) 2).gat) 8),.int .u64 ((((upd a7 (Int.toNat v12.gComponent) v16) 2).gat) 9),.int .u64 ((((upd a7 (Int.toNat v12.gComponent) v16) 2).gat) 10),.int .u64 ((((upd a7 (Int.toNat v12.gComponent) v16) 2).gat) 11),.int .u64 ((((upd a7 (Int.toNat v12.gComponent) v16) 2).gat) 12),.int .u64 ((((upd a7 (Int.toNat v12.gComponent) v16) 2).gat) 13),.int .u64 ((((upd a7 (Int.toNat v12.gComponent) v16) 2).gat) 14),.int .u64 ((((upd a7 (Int.toNat v12.gComponent) v16) 2).gat) 15),.int .u64 ((((upd a7 (Int.toNat v12.gComponent) v16) 3).gat) 0),.int .u64 ((((upd a7 (Int.toNat v12.gComponent) v16) 3).gat) 1),.int .u64 ((((upd a7 (Int.toNat v12.gComponent) v16) 3).gat) 2),.int .u64 ((((upd a7 (Int.toNat v12.gComponent) v16) 3).gat) 3),.int .u64 ((((upd a7 (Int.toNat v12.gComponent) v16) 3).gat) 4),.int .u64 ((((upd a7 (Int.toNat v12.gComponent) v16) 3).gat) 5),.int .u64 ((((upd a7 (Int.toNat v12.gComponent) v16) 3).gat) 6),.int .u64 ((((upd a7 (Int.toNat v12.gComponent) v16) 3).gat) 7),.int .u64 ((((upd a7 (Int.toNat v12.gComponent) v16) 3).gat) 8),.int .u64 ((((upd a7 (Int.toNat v12.gComponent) v16) 3).gat) 9),.int .u64 ((((upd a7 (Int.toNat v12.gComponent) v16) 3).gat) 10),.int .u64 ((((upd a7 (Int.toNat v12.gComponent) v16) 3).gat) 11),.int .u64 ((((upd a7 (Int.toNat v12.gComponent) v16) 3).gat) 12),.int .u64 ((((upd a7 (Int.toNat v12.gComponent) v16) 3).gat) 13),.int .u64 ((((upd a7 (Int.toNat v12.gComponent) v16) 3).gat) 14),.int .u64 ((((upd a7 (Int.toNat v12.gComponent) v16) 3).gat) 15),.int .u64 ((((upd a7 (Int.toNat v12.gComponent) v16) 4).gat) 0),.int .u64 ((((upd a7 (Int.toNat v12.gComponent) v16) 4).gat) 1),.int .u64 ((((upd a7 (Int.toNat v12.gComponent) v16) 4).gat) 2),.int .u64 ((((upd a7 (Int.toNat v12.gComponent) v16) 4).gat) 3),.int .u64 ((((upd a7 (Int.toNat v12.gComponent) v16) 4).gat) 4),.int .u64 ((((upd a7 (Int.toNat v12.gComponent) v16) 4).gat) 5),.int .u64 ((((upd a7 (Int.toNat v12.gComponent) v16) 4).gat) 6),.int .u64 ((((upd a7 (Int.toNat v12.gComponent) v16) 4).gat) 7),.int .u64 ((((upd a7 (Int.toNat v12.gComponent) v16) 4).gat) 8),.int .u64 ((((upd a7 (Int.toNat v12.gComponent) v16) 4).gat) 9),.int .u64 ((((upd a7 (Int.toNat v12.gComponent) v16) 4).gat) 10),.int .u64 ((((upd a7 (Int.toNat v12.gComponent) v16) 4).gat) 11),.int .u64 ((((upd a7 (Int.toNat v12.gComponent) v16) 4).gat) 12),.int .u64 ((((upd a7 (Int.toNat v12.gComponent) v16) 4).gat) 13),.int .u64 ((((upd a7 (Int.toNat v12.gComponent) v16) 4).gat) 14),.int .u64 ((((upd a7 (Int.toNat v12.gComponent) v16) 4).gat) 15),.int .u64 ((((upd a7 (Int.toNat v12.gComponent) v16) 5).gat) 0),.int .u64 ((((upd a7 (Int.toNat v12.gComponent) v16) 5).gat) 1),.int .u64 ((((upd a7 (Int.toNat v12.gComponent) v16) 5).gat) 2),.int .u64 ((((upd a7 (Int.toNat v12.gComponent) v16) 5).gat) 3),.int .u64 ((((upd a7 (Int.toNat v12.gComponent) v16) 5).gat) 4),.int .u64 ((((upd a7 (Int.toNat v12.gComponent) v16) 5).gat) 5),.int .u64 ((((upd a7 (Int.toNat v12.gComponent) v16) 5).gat) 6),.int .u64 ((((upd a7 (Int.toNat v12.gComponent) v16) 5).gat) 7),.int .u64 ((((upd a7 (Int.toNat v12.gComponent) v16) 5).gat) 8),.int .u64 ((((upd a7 (Int.toNat v12.gComponent) v16) 5).gat) 9),.int .u64 ((((upd a7 (Int.toNat v12.gComponent) v16) 5).gat) 10),.int .u64 ((((upd a7 (Int.toNat v12.gComponent) v16) 5).gat) 11),.int .u64 ((((upd a7 (Int.toNat v12.gComponent) v16) 5).gat) 12),.int .u64 ((((upd a7 (Int.toNat v12.gComponent) v16) 5).gat) 13),.int .u64 ((((upd a7 (Int.toNat v12.gComponent) v16) 5).gat) 14),.int .u64 ((((upd a7 (Int.toNat v12.gComponent) v16) 5).gat) 15),.int .u64 ((((upd a7 (Int.toNat v12.gComponent) v16) 6).gat) 0),.int .u64 ((((upd a7 (Int.toNat v12.gComponent) v16) 6).gat) 1),.int .u64 ((((upd a7 (Int.toNat v12.gComponent) v16) 6).gat) 2),.int .u64 ((((upd a7 (Int.toNat v12.gComponent) v16) 6).gat) 3),.int .u64 ((((upd a7 (Int.toNat v12.gComponent) v16) 6).gat) 4),.int .u64 ((((upd a7 (Int.toNat v12.gComponent) v16) 6).gat) 5),.int .u64 ((((upd a7 (Int.toNat v12.gComponent) v16) 6).gat) 6),.int .u64 ((((upd a7 (Int.toNat v12.gComponent) v16) 6).gat) 7),.int .u64 ((((upd a7 (Int.toNat v12.gComponent) v16) 6).gat) 8),.int .u64 ((((upd a7 (Int.toNat v12.gComponent) v16) 6).gat) 9),.int .u64 ((((upd a7 (Int.toNat v12.gComponent) v16) 6).gat) 10),.int .u64 ((((upd a7 (Int.toNat v12.gComponent) v16) 6).gat) 11),.int .u64 ((((upd a7 (Int.toNat v12.gComponent) v16) 6).gat) 12),.int .u64 ((((upd a7 (Int.toNat v12.gComponent) v16) 6).gat) 13),.int .u64 ((((upd a7 (Int.toNat v12.gComponent) v16) 6).gat) 14),.int .u64 ((((upd a7 (Int.toNat v12.gComponent) v16) 6).gat) 15),.int .u64 ((((upd a7 (Int.toNat v12.gComponent) v16) 7).gat) 0),.int .u64 ((((upd a7 (Int.toNat v12.gComponent) v16) 7).gat) 1),.int .u64 ((((upd a7 (Int.toNat v12.gComponent) v16) 7).gat) 2),.int .u64 ((((upd a7 (Int.toNat v12.gComponent) v16) 7).gat) 3),.int .u64 ((((upd a7 (Int.toNat v12.gComponent) v16) 7).gat) 4),.int .u64 ((((upd a7 (Int.toNat v12.gComponent) v16) 7).gat) 5),.int .u64 ((((upd a7 (Int.toNat v12.gComponent) v16) 7).gat) 6),.int .u64 ((((upd a7 (Int.toNat v12.gComponent) v16) 7).gat) 7),.int .u64 ((((upd a7 (Int.toNat v12.gComponent) v16) 7).gat) 8),.int .u64 ((((upd a7 (Int.toNat v12.gComponent) v16) 7).gat) 9),.int .u64 ((((upd a7 (Int.toNat v12.gComponent) v16) 7).gat) 10),.int .u64 ((((upd a7 (Int.toNat v12.gComponent) v16) 7).gat) 11),.int .u64 ((((upd a7 (Int.toNat v12.gComponent) v16) 7).gat) 12),.int .u64 ((((upd a7 (Int.toNat v12.gComponent) v16) 7).gat) 13),.int .u64 ((((upd a7 (Int.toNat v12.gComponent) v16) 7).gat) 14),.int .u64 ((((upd a7 (Int.toNat v12.gComponent) v16) 7).gat) 15),.int .u64 ((((upd a7 (Int.toNat v12.gComponent) v16) 8).gat) 0),.int .u64 ((((upd a7 (Int.toNat v12.gComponent) v16) 8).gat) 1),.int .u64 ((((upd a7 (Int.toNat v12.gComponent) v16) 8).gat) 2),.int .u64 ((((upd a7 (Int.toNat v12.gComponent) v16) 8).gat) 3),.int .u64 ((((upd a7 (Int.toNat v12.gComponent) v16) 8).gat) 4),.int .u64 ((((upd a7 (Int.toNat v12.gComponent) v16) 8).gat) 5),.int .u64 ((((upd a7 (Int.toNat v12.gComponent) v16) 8).gat) 6),.int .u64 ((((upd a7 (Int.toNat v12.gComponent) v16) 8).gat) 7),.int .u64 ((((upd a7 (Int.toNat v12.gComponent) v16) 8).gat) 8),.int .u64 ((((upd a7 (Int.toNat v12.gComponent) v16) 8).gat) 9),.int .u64 ((((upd a7 (Int.toNat v12.gComponent) v16) 8).gat) 10),.int .u64 ((((upd a7 (Int.toNat v12.gComponent) v16) 8).gat) 11),.int .u64 ((((upd a7 (Int.toNat v12.gComponent) v16) 8).gat) 12),.int .u64 ((((upd a7 (Int.toNat v12.gComponent) v16) 8).gat) 13),.int .u64 ((((upd a7 (Int.toNat v12.gComponent) v16) 8).gat) 14),.int .u64 ((((upd a7 (Int.toNat v12.gComponent) v16) 8).gat) 15)]) VClk.cs a7 v16 (fun _=>rfl) (by decide) h18 rfl 0 (Nat.le_of_ble_eq_true rfl) rfl rfl rfl rfl))<|.nil _) ?_
       obtain ⟨h19,hM⟩ := of_chk hM
       refine ar (.cons (o_move rfl)<|.cons (o_load_r rfl rfl rfl rfl)<|.cons (t_build VClk.dv ([v16] : List VClk) rfl rfl rfl rfl rfl rfl rfl)<|.cons (t_append [v16] h19 rfl rfl rfl (Src.row rfl))<|.cons (o_assign rfl)<|.nil _) ?_
       refine ar (.cons (o_add rfl rfl (inR_i64 hk4 hx4))<|.cons (o_move rfl)<|.nil _) ?_
       obtain rfl:=Option.some.inj hM
       exact (Imp.of (fun i=>bif Nat.beq i 10002 then 97 else bif Nat.beq i 10001 then 10005 else i) (.cons rfl (DLe.refl _) (.cons rfl (DLe.refl _) (.cons rfl (DLe.refl _) (.cons rfl (DLe.refl _) (.cons rfl (DLe.refl _) (.cons rfl (DLe.succ _ _) .nil)))))) (.cons rfl (.refl _) (.cons rfl (.refl _) (.cons rfl (.refl _) .nil))) rfl rfl rfl)
    ·rintro k4 hk4 hx4
     refine a_seq (ar (.cons (o_int rfl rfl rfl)<|.nil _) ?_)
     refine a_seq ?_
     refine a_cond _ rfl (fun c=>absurd (of_decide_eq_true c) (Int.not_lt.2 hk4)) (fun _=>?_)
     refine a_exit ?_
     exact ⟨a6,hK8,((Imp.freeze (id:=10002) rfl).trans (Imp.sh (fun i=>i) rfl rfl rfl rfl rfl rfl))⟩
   ·rintro a3 hM
    replace hM : recorder_Clocks_K2 a3 = some r:=hM
    unfold recorder_Clocks_K2 at hM
    refine a_seq (ar (.cons (o_move rfl)<|.cons (o_assign rfl)<|.cons (o_assign rfl)<|.nil _) ?_)
    obtain rfl:=Option.some.inj hM
    exact a_ret (a_post (.r2 (.tmp rfl) (.tmp rfl)) (DLe.refl _) PostOk.nil.spec)
def rootcauselaw28_few_K1 (a1 : List AEv) : Option (List AEv) :=
 some a1
def rootcauselaw28_few_L2 (x0 : List AEv) (x1 : Int) (k3 : Nat) (a4 : List AEv) : Option (List AEv) :=
 (idx (List.take (Int.toNat (if x1 < (List.length x0 : Int) then x1 else (List.length x0 : Int))) x0) (k3 : Int)).bind fun v9=>
 chk (slOk (List.length v9.gArgs) 0 (if 5 < (List.length v9.gArgs : Int) then 5 else (List.length v9.gArgs : Int)))<|
 chk (apOk 88 (List.length a4 + List.length [(AEv.mk v9.gTick v9.gComponent v9.gKind v9.gPeer v9.gN v9.gCopy v9.gHandler v9.gD (List.take (Int.toNat (if 5 < (List.length v9.gArgs : Int) then 5 else (List.length v9.gArgs : Int))) v9.gArgs))]))<|
 some (a4++[(AEv.mk v9.gTick v9.gComponent v9.gKind v9.gPeer v9.gN v9.gCopy v9.gHandler v9.gD (List.take (Int.toNat (if 5 < (List.length v9.gArgs : Int) then 5 else (List.length v9.gArgs : Int))) v9.gArgs))])
def rootcauselaw28_few (x0 : List AEv) (x1 : Int) : Option (List AEv) :=
 chk (slOk (List.length x0) 0 (if x1 < (List.length x0 : Int) then x1 else (List.length x0 : Int)))<|
 (foldM' 9223372036854775807 (List.length (List.take (Int.toNat (if x1 < (List.length x0 : Int) then x1 else (List.length x0 : Int))) x0) : Int) (fun k3 s=>rootcauselaw28_few_L2 x0 x1 k3 s) ([] : List AEv)).bind fun s=>rootcauselaw28_few_K1 s
theorem rootcauselaw28_few_c {x0 : List AEv} {x1 : Int} {r : (List AEv)} (hM : rootcauselaw28_few x0 x1 = some r) : PCall Tryz.prog 6 [.sl 9 (List.map AEv.dv x0),.int .i64 x1] (.sl 9 (List.map AEv.dv r)):=by
 unfold rootcauselaw28_few at hM
 refine PCall.body Tryz.func6 Tryz.ntmps6 rfl rfl rfl rfl ?_
 refine a_seq (ar (.cons (o_assign rfl)<|.nil _) ?_)
 refine a_seq (ar (.cons (o_assign rfl)<|.nil _) ?_)
 refine a_cut (α:=(List AEv)) (fun s=>⟨[(5,.sl 9 (List.map AEv.dv s))],[],[]⟩) (fun s=>rootcauselaw28_few_K1 s = some r) ?_ ?_
 ·refine a_seq ?_
  obtain ⟨h2,hM⟩ := of_chk hM
  refine ar (.cons (o_move rfl)<|.cons (o_move rfl)<|.cons (t_len rfl)<|.cons (o_move rfl)<|.cons (o_min rfl rfl)<|.cons (t_slice_h h2 rfl rfl)<|.cons (t_len rfl)<|.cons (o_move rfl)<|.nil _) ?_
  obtain ⟨a4,hL5,hK5⟩ := of_bind hM
  refine a_block ?_
  refine a_fold (fun k3 (s : (List AEv))=>⟨[(5,.row 10001),(13,.sl 9 (List.map AEv.dv (List.take (Int.toNat (if x1 < (List.length x0 : Int) then x1 else (List.length x0 : Int))) x0))),(14,.int .i64 (List.length (List.take (Int.toNat (if x1 < (List.length x0 : Int) then x1 else (List.length x0 : Int))) x0) : Int)),(15,.int .i64 (k3 : Int))],[(10001,some (.row 49 9 (List.map AEv.dv s)))],[10001]⟩) _ hL5 ((Imp.nilRow (t:=5) (id:=10002) 49 9 rfl rfl).trans (Imp.sh (fun i=>bif Nat.beq i 10001 then 10002 else i) rfl rfl rfl rfl rfl rfl)) ?_ ?_
  ·rintro k3 a4 t6 hk3 hx3 hM
   replace hM : rootcauselaw28_few_L2 x0 x1 k3 a4 = some t6:=hM
   unfold rootcauselaw28_few_L2 at hM
   refine a_seq (ar (.cons (o_int rfl rfl rfl)<|.nil _) ?_)
   refine a_seq ?_
   refine a_cond _ rfl (fun _=>?_) (fun c=>absurd hk3 (of_decide_eq_false c))
   refine a_skip (a_seq (a_block (a_seq ?_)))
   obtain ⟨v9,h8,hM⟩ := of_bind hM
   refine ar (.cons (t_index h8 rfl rfl rfl)<|.cons (o_load_er rfl rfl rfl)<|.cons (o_alloc rfl)<|.cons (o_store rfl rfl rfl rfl rfl rfl rfl)<|.nil _) ?_
   refine a_seq ?_
   obtain ⟨h10,hM⟩ := of_chk hM
   refine ar (.cons (o_fieldAddr rfl)<|.cons (o_load_s rfl rfl rfl)<|.cons (o_fieldAddr rfl)<|.cons (o_load_s rfl rfl rfl)<|.cons (t_len rfl)<|.cons (o_min rfl rfl)<|.cons (t_slice_h h10 rfl rfl)<|.cons (o_fieldAddr rfl)<|.cons (o_store_s rfl rfl rfl rfl rfl)<|.nil _) ?_
   obtain ⟨h11,hM⟩ := of_chk hM
   refine ar (.cons (o_move rfl)<|.cons (o_load_r rfl rfl rfl rfl)<|.cons (t_build AEv.dv ([(AEv.mk v9.gTick v9.gComponent v9.gKind v9.gPeer v9.gN v9.gCopy v9.gHandler v9.gD (List.take (Int.toNat (if 5 < (List.length v9.gArgs : Int) then 5 else (List.length v9.gArgs : Int))) v9.gArgs))] : List AEv) rfl rfl rfl rfl rfl rfl rfl)<|.cons (t_append [(AEv.mk v9.gTick v9.gComponent v9.gKind v9.gPeer v9.gN v9.gCopy v9.gHandler v9.gD (List.take (Int.toNat (if 5 < (List.length v9.gArgs : Int) then 5 else (List.length v9.gArgs : Int))) v9.gArgs))] h11 rfl rfl rfl (Src.row rfl))<|.cons (o_assign rfl)<|.nil _) ?_
   refine ar (.cons (o_add rfl rfl (inR_i64 hk3 hx3))<|.cons (o_move rfl)<|.nil _) ?_
   obtain rfl:=Option.some.inj hM
   exact (Imp.of (fun i=>bif Nat.beq i 10001 then 30 else i) (.cons rfl (DLe.refl _) (.cons rfl (DLe.refl _) (.cons rfl (DLe.refl _) (.cons rfl (DLe.succ _ _) .nil)))) (.cons rfl (.refl _) .nil) rfl rfl rfl)
  ·rintro k3 hk3 hx3
   refine a_seq (ar (.cons (o_int rfl rfl rfl)<|.nil _) ?_)
   refine a_seq ?_
   refine a_cond _ rfl (fun c=>absurd (of_decide_eq_true c) (Int.not_lt.2 hk3)) (fun _=>?_)
   refine a_exit ?_
   exact ⟨a4,hK5,((Imp.freeze (id:=10001) rfl).trans (Imp.sh (fun i=>i) rfl rfl rfl rfl rfl rfl))⟩
 ·rintro a1 hM
  replace hM : rootcauselaw28_few_K1 a1 = some r:=hM
  unfold rootcauselaw28_few_K1 at hM
  refine a_seq (ar (.cons (o_move rfl)<|.cons (o_assign rfl)<|.nil _) ?_)
  obtain rfl:=Option.some.inj hM
  exact a_ret (a_post (.r1 (.tmp rfl)) (DLe.refl _) PostOk.nil.spec)
def rootcauseref18_Arrival (x0 : AEv) (x1 : AEv) : Option Bool :=
 some (((((x1.gKind == 8) && ((x0.gKind == 5) || ((x0.gKind == 7) && (x0.gD == 5)))) && (x0.gComponent == x1.gPeer)) && (x0.gPeer == x1.gComponent)) && (x0.gN == x1.gN))
theorem rootcauseref18_Arrival_c {x0 : AEv} {x1 : AEv} {r : Bool} (hM : rootcauseref18_Arrival x0 x1 = some r) : PCall Tryz.prog 78 [.agg (AEv.cs x0),.agg (AEv.cs x1)] (.bool r):=by
 unfold rootcauseref18_Arrival at hM
 refine PCall.body Tryz.func78 Tryz.ntmps78 rfl rfl rfl rfl ?_
 refine a_seq (ar (.cons (o_box rfl rfl)<|.cons (o_box rfl rfl)<|.cons (o_assign rfl)<|.nil _) ?_)
 refine a_seq (ar (.cons (o_fieldAddr rfl)<|.cons (o_load_s rfl rfl rfl)<|.cons (o_int rfl rfl rfl)<|.cons (o_move rfl)<|.cons (o_guardG .bT rfl rfl (fun hb=>(.keep .nil)) (fun hb=>o_fieldAddr rfl))<|.cons (o_guardG .bT rfl rfl (fun hb=>(.strip rfl hb .nil)) (fun hb=>o_load_s rfl rfl rfl))<|.cons (o_guardG .bT rfl rfl (fun hb=>(.strip rfl hb .nil)) (fun hb=>o_int rfl rfl rfl))<|.cons (o_guardG .bT rfl rfl (fun hb=>(.strip rfl hb .nil)) (fun hb=>o_move rfl))<|.cons (o_guardG .iF rfl rfl (fun hb=>(.keep .nil)) (fun hb=>o_fieldAddr rfl))<|.cons (o_guardG .iF rfl rfl (fun hb=>(.strip rfl hb .nil)) (fun hb=>o_load_s rfl rfl rfl))<|.cons (o_guardG .iF rfl rfl (fun hb=>(.strip rfl hb .nil)) (fun hb=>o_int rfl rfl rfl))<|.cons (o_guardG .iF rfl rfl (fun hb=>(.strip rfl hb .nil)) (fun hb=>o_move rfl))<|.cons (o_guardG .iT rfl rfl (fun hb=>(.keep .nil)) (fun hb=>o_fieldAddr rfl))<|.cons (o_guardG .iT rfl rfl (fun hb=>(.strip rfl hb .nil)) (fun hb=>o_load_s rfl rfl rfl))<|.cons (o_guardG .iT rfl rfl (fun hb=>(.strip rfl hb .nil)) (fun hb=>o_int rfl rfl rfl))<|.cons (o_guardG .iF rfl rfl (fun hb=>(.strip rfl hb (.half rfl hb .nil))) (fun hb=>o_and rfl rfl))<|.cons (o_guardG .bT rfl rfl (fun hb=>(.strip rfl hb (.half rfl hb .nil))) (fun hb=>o_or rfl rfl))<|.cons (o_and rfl rfl)<|.cons (o_move rfl)<|.cons (o_guardG .bT rfl rfl (fun hb=>(.keep .nil)) (fun hb=>o_fieldAddr rfl))<|.cons (o_guardG .bT rfl rfl (fun hb=>(.strip rfl hb .nil)) (fun hb=>o_load_s rfl rfl rfl))<|.cons (o_guardG .bT rfl rfl (fun hb=>(.keep .nil)) (fun hb=>o_fieldAddr rfl))<|.cons (o_guardG .bT rfl rfl (fun hb=>(.strip rfl hb .nil)) (fun hb=>o_load_s rfl rfl rfl))<|.cons (o_guardG .bT rfl rfl (fun hb=>(.strip rfl hb (.strip rfl hb .nil))) (fun hb=>o_int rfl rfl rfl))<|.cons (o_and rfl rfl)<|.cons (o_move rfl)<|.cons (o_guardG .bT rfl rfl (fun hb=>(.keep .nil)) (fun hb=>o_fieldAddr rfl))<|.cons (o_guardG .bT rfl rfl (fun hb=>(.strip rfl hb .nil)) (fun hb=>o_load_s rfl rfl rfl))<|.cons (o_guardG .bT rfl rfl (fun hb=>(.keep .nil)) (fun hb=>o_fieldAddr rfl))<|.cons (o_guardG .bT rfl rfl (fun hb=>(.strip rfl hb .nil)) (fun hb=>o_load_s rfl rfl rfl))<|.cons (o_guardG .bT rfl rfl (fun hb=>(.strip rfl hb (.strip rfl hb .nil))) (fun hb=>o_int rfl rfl rfl))<|.cons (o_and rfl rfl)<|.cons (o_move rfl)<|.cons (o_guardG .bT rfl rfl (fun hb=>(.keep .nil)) (fun hb=>o_fieldAddr rfl))<|.cons (o_guardG .bT rfl rfl (fun hb=>(.strip rfl hb .nil)) (fun hb=>o_load_s rfl rfl rfl))<|.cons (o_guardG .bT rfl rfl (fun hb=>(.keep .nil)) (fun hb=>o_fieldAddr rfl))<|.cons (o_guardG .bT rfl rfl (fun hb=>(.strip rfl hb .nil)) (fun hb=>o_load_s rfl rfl rfl))<|.cons (o_guardG .bT rfl rfl (fun hb=>(.strip rfl hb (.strip rfl hb .nil))) (fun hb=>o_int rfl rfl rfl))<|.cons (o_and rfl rfl)<|.cons (o_assign rfl)<|.nil _) ?_)
 obtain rfl:=Option.some.inj hM
 exact a_ret (a_post (.r1 (.tmp rfl)) (DLe.refl _) PostOk.nil.spec)
def rootcauseref28_Past_K1 (a1 : List (List Bool)) : Option (List (List Bool)) :=
 some a1
def rootcauseref28_Past_K3 (a7 : List (List Bool)) : Option (List (List Bool)) :=
 some a7
def rootcauseref28_Past_K5 (a3 : List (List Bool)) (a15 : List Bool) : Option (List (List Bool)) :=
 chk (apOk 24 (List.length a3 + List.length [a15]))<|
 rootcauseref28_Past_K3 (a3++[a15])
def rootcauseref28_Past_K7 (a22 : List Bool) : Option (List Bool) :=
 some a22
def rootcauseref28_Past_L8 (k2 : Nat) (a3 : List (List Bool)) (v24 : Int) (a25 : List Bool) (a26 : Int) : Option (Ctl ((List Bool) × Int) (List Bool)) :=
 if ((decide (0≤v24)) && (decide (a26 < (k2 : Int)))) = true then
  (idx a25 a26).bind fun v31=>
  (gb (!v31) [] (idx a3 v24)).bind fun v33=>
  (gb (!v31) false (idx v33 a26)).bind fun v35=>
  (idx a25 a26).bind fun v37=>
  some (.next ((List.set a25 (Int.toNat a26) (v31 || v35)),(IntKind.wrap .i64 (a26 + 1))))
 else
  some (.done a25)
def rootcauseref28_Past_L6 (k2 : Nat) (a3 : List (List Bool)) (a13 : Int) (a14 : Int) (k17 : Nat) (a18 : List Bool) : Option (List Bool) :=
 (idx [a13,a14] (k17 : Int)).bind fun v24=>
 (whileM (E:=(List Bool)) (fun s=>rootcauseref28_Past_L8 k2 a3 v24 s.1 s.2) (a18,0)).bind fun e=>rootcauseref28_Past_K7 e
def rootcauseref28_Past_K4 (x0 : List AEv) (k2 : Nat) (a3 : List (List Bool)) (a13 : Int) (a14 : Int) : Option (List (List Bool)) :=
 (foldM' 9223372036854775807 (List.length [a13,a14] : Int) (fun k17 s=>rootcauseref28_Past_L6 k2 a3 a13 a14 k17 s) (List.set (List.replicate (Int.toNat (List.length x0 : Int)) false) (Int.toNat (k2 : Int)) true)).bind fun s=>rootcauseref28_Past_K5 a3 s
def rootcauseref28_Past_K10 (x0 : List AEv) (v9 : AEv) (a39 : Int) (a40 : Int) (a44 : Int) : Option (Ctl (Int × Int × Int) (Int × Int)) :=
 (idx x0 a40).bind fun v46=>
 (rootcauseref18_Arrival v9 v46).bind fun v48=>
 if v48 = true then
  some (.next (a44,a40,(IntKind.wrap .i64 (a40 + 1))))
 else
  some (.next (a44,a39,(IntKind.wrap .i64 (a40 + 1))))
def rootcauseref28_Past_L9 (x0 : List AEv) (k2 : Nat) (v9 : AEv) (a38 : Int) (a39 : Int) (a40 : Int) : Option (Ctl (Int × Int × Int) (Int × Int)) :=
 if (decide (a40 < (k2 : Int))) = true then
  (idx x0 a40).bind fun v51=>
  if (v51.gComponent == v9.gComponent) = true then
   rootcauseref28_Past_K10 x0 v9 a39 a40 a40
  else
   rootcauseref28_Past_K10 x0 v9 a39 a40 a38
 else
  some (.done (a38,a39))
def rootcauseref28_Past_L2 (x0 : List AEv) (k2 : Nat) (a3 : List (List Bool)) : Option (List (List Bool)) :=
 (idx x0 (k2 : Int)).bind fun v9=>
 chk (mkOk 1 (List.length x0 : Int) (List.length x0 : Int))<|
 (idx (List.replicate (Int.toNat (List.length x0 : Int)) false) (k2 : Int)).bind fun v12=>
 (whileM (E:=Int × Int) (fun s=>rootcauseref28_Past_L9 x0 k2 v9 s.1 s.2.1 s.2.2) ((-1),(-1),0)).bind fun e=>rootcauseref28_Past_K4 x0 k2 a3 e.1 e.2
def rootcauseref28_Past (x0 : List AEv) : Option (List (List Bool)) :=
 (foldM' 9223372036854775807 (List.length x0 : Int) (fun k2 s=>rootcauseref28_Past_L2 x0 k2 s) ([] : List (List Bool))).bind fun s=>rootcauseref28_Past_K1 s
theorem rootcauseref28_Past_c {x0 : List AEv} {r : (List (List Bool))} (hM : rootcauseref28_Past x0 = some r) : PCall Tryz.prog 46 [.sl 9 (List.map AEv.dv x0)] (.sl 1 (List.map (encSl 1 DV.bool) r)):=by
 unfold rootcauseref28_Past at hM
 refine PCall.body Tryz.func46 Tryz.ntmps46 rfl rfl rfl rfl ?_
 refine a_seq (ar (.cons (o_assign rfl)<|.nil _) ?_)
 refine a_seq (ar (.cons (o_assign rfl)<|.nil _) ?_)
 refine a_cut (α:=(List (List Bool))) (fun s=>⟨[(3,.sl 1 (List.map (encSl 1 DV.bool) s))],[],[]⟩) (fun s=>rootcauseref28_Past_K1 s = some r) ?_ ?_
 ·refine a_seq (ar (.cons (o_move rfl)<|.cons (t_len rfl)<|.cons (o_move rfl)<|.nil _) ?_)
  obtain ⟨a3,hL4,hK4⟩ := of_bind hM
  refine a_block ?_
  refine a_fold (fun k2 (s : (List (List Bool)))=>⟨[(0,.sl 9 (List.map AEv.dv x0)),(3,.row 10001),(13,.sl 9 (List.map AEv.dv x0)),(14,.int .i64 (List.length x0 : Int)),(15,.int .i64 (k2 : Int))],[(10001,some (.row 76 1 (List.map (encSl 1 DV.bool) s)))],[10001]⟩) _ hL4 ((Imp.nilRow (t:=3) (id:=10016) 76 1 rfl rfl).trans (Imp.sh (fun i=>bif Nat.beq i 10001 then 10016 else i) rfl rfl rfl rfl rfl rfl)) ?_ ?_
  ·rintro k2 a3 t5 hk2 hx2 hM
   replace hM : rootcauseref28_Past_L2 x0 k2 a3 = some t5:=hM
   unfold rootcauseref28_Past_L2 at hM
   refine a_seq (ar (.cons (o_int rfl rfl rfl)<|.nil _) ?_)
   refine a_seq ?_
   refine a_cond _ rfl (fun _=>?_) (fun c=>absurd hk2 (of_decide_eq_false c))
   refine a_skip ?_
   refine a_cut (α:=(List (List Bool))) (fun s=>⟨[(0,.sl 9 (List.map AEv.dv x0)),(3,.row 10002),(13,.sl 9 (List.map AEv.dv x0)),(14,.int .i64 (List.length x0 : Int)),(15,.int .i64 (k2 : Int))],[(10002,some (.row 76 1 (List.map (encSl 1 DV.bool) s)))],[10002]⟩) (fun s=>rootcauseref28_Past_K3 s = some t5) ?_ ?_
   ·refine a_block (a_seq ?_)
    obtain ⟨v9,h8,hM⟩ := of_bind hM
    refine ar (.cons (o_move rfl)<|.cons (t_index h8 rfl rfl rfl)<|.cons (o_load_er rfl rfl rfl)<|.cons (o_alloc rfl)<|.cons (o_assign rfl)<|.cons (o_store rfl rfl rfl rfl rfl rfl rfl)<|.nil _) ?_
    refine a_seq ?_
    obtain ⟨h10,hM⟩ := of_chk hM
    refine ar (.cons (o_move rfl)<|.cons (t_len rfl)<|.cons (t_make DV.bool false h10 rfl rfl rfl rfl)<|.cons (o_assign rfl)<|.nil _) ?_
    refine a_seq ?_
    obtain ⟨v12,h11,hM⟩ := of_bind hM
    refine ar (.cons (o_move rfl)<|.cons (o_move rfl)<|.cons (t_index_r h11 rfl rfl rfl)<|.cons (t_store_p true h11 rfl rfl rfl rfl rfl rfl rfl rfl rfl rfl rfl)<|.nil _) ?_
    refine a_seq (ar (.cons (o_assign rfl)<|.cons (o_assign rfl)<|.nil _) ?_)
    refine a_cut (α:=Int × Int) (fun s=>⟨[(0,.sl 9 (List.map AEv.dv x0)),(3,.row 10003),(4,.int .i64 (k2 : Int)),(6,.row 10004),(7,.int .i64 s.1),(8,.int .i64 s.2),(13,.sl 9 (List.map AEv.dv x0)),(14,.int .i64 (List.length x0 : Int)),(15,.int .i64 (k2 : Int))],[(10003,some (.row 76 1 (List.map (encSl 1 DV.bool) a3))),(10004,some (.row 4 1 (List.map DV.bool (List.set (List.replicate (Int.toNat (List.length x0 : Int)) false) (Int.toNat (k2 : Int)) true))))],[10003,10004]⟩) (fun s=>rootcauseref28_Past_K4 x0 k2 a3 s.1 s.2 = some t5) ?_ ?_
    ·refine a_seq (ar (.cons (o_assign rfl)<|.nil _) ?_)
     obtain ⟨e41,hL41,hK41⟩ := of_bind hM
     refine a_block (a_while (fun s : Int × Int × Int=>⟨[(0,.sl 9 (List.map AEv.dv x0)),(3,.row 10012),(4,.int .i64 (k2 : Int)),(5,.ref 5 0),(6,.row 10013),(7,.int .i64 s.1),(8,.int .i64 s.2.1),(9,.int .i64 s.2.2),(13,.sl 9 (List.map AEv.dv x0)),(14,.int .i64 (List.length x0 : Int)),(15,.int .i64 (k2 : Int))],[(5,some (.blk 49 (AEv.cs v9))),(10012,some (.row 76 1 (List.map (encSl 1 DV.bool) a3))),(10013,some (.row 4 1 (List.map DV.bool (List.set (List.replicate (Int.toNat (List.length x0 : Int)) false) (Int.toNat (k2 : Int)) true))))],[5,10012,10013]⟩) _ hL41 (Imp.sh (fun i=>bif Nat.beq i 10013 then 22 else bif Nat.beq i 10012 then 10001 else i) rfl rfl rfl rfl rfl rfl) ?_)
     rintro ⟨a38,a39,a40⟩ t42 hM hE41
     replace hM : rootcauseref28_Past_L9 x0 k2 v9 a38 a39 a40 = some t42:=hM
     unfold rootcauseref28_Past_L9 at hM
     refine a_seq (a_seq (ar (.cons (o_move rfl)<|.cons (o_move rfl)<|.cons (o_int rfl rfl rfl)<|.nil _) ?_))
     refine a_cond _ rfl (fun h43=>?_) (fun h43=>?_)
     ·replace hM:=(of_if hM).1 h43
      refine a_skip (a_seq (a_block ?_))
      refine a_cut (α:=Int) (fun s=>⟨[(0,.sl 9 (List.map AEv.dv x0)),(3,.row 10014),(4,.int .i64 (k2 : Int)),(5,.ref 5 0),(6,.row 10015),(7,.int .i64 s),(8,.int .i64 a39),(9,.int .i64 a40),(13,.sl 9 (List.map AEv.dv x0)),(14,.int .i64 (List.length x0 : Int)),(15,.int .i64 (k2 : Int))],[(5,some (.blk 49 (AEv.cs v9))),(10014,some (.row 76 1 (List.map (encSl 1 DV.bool) a3))),(10015,some (.row 4 1 (List.map DV.bool (List.set (List.replicate (Int.toNat (List.length x0 : Int)) false) (Int.toNat (k2 : Int)) true))))],[5,10014,10015]⟩) (fun s=>rootcauseref28_Past_K10 x0 v9 a39 a40 s = some t42) ?_ ?_
      ·refine a_seq ?_
       obtain ⟨v51,h50,hM⟩ := of_bind hM
       refine ad mixed (.cons (o_move rfl)<|.cons (o_move rfl)<|.cons (t_index h50 rfl rfl rfl)<|.cons (o_fieldAddr_e rfl rfl)<|.cons (o_load_es rfl rfl)<|.cons (o_fieldAddr rfl)<|.cons (o_load_s rfl rfl rfl)<|.cons (o_int rfl rfl rfl)<|.nil _) ?_
       refine a_cond _ rfl (fun h52=>?_) (fun h52=>?_)
       ·replace hM:=(of_if hM).1 h52
        refine ar (.cons (o_move rfl)<|.cons (o_assign rfl)<|.nil _) ?_
        exact ⟨a40,hM,(Imp.sh (fun i=>bif Nat.beq i 10015 then 10013 else bif Nat.beq i 10014 then 10012 else i) rfl rfl rfl rfl rfl rfl)⟩
       ·replace hM:=(of_if hM).2 h52
        refine a_skip ?_
        exact ⟨a38,hM,(Imp.sh (fun i=>bif Nat.beq i 10015 then 10013 else bif Nat.beq i 10014 then 10012 else i) rfl rfl rfl rfl rfl rfl)⟩
      ·rintro a44 hM
       replace hM : rootcauseref28_Past_K10 x0 v9 a39 a40 a44 = some t42:=hM
       unfold rootcauseref28_Past_K10 at hM
       refine a_seq ?_
       obtain ⟨v46,h45,hM⟩ := of_bind hM
       obtain ⟨v48,h47,hM⟩ := of_bind hM
       refine ad mixed (.cons (o_load_r rfl rfl rfl rfl)<|.cons (o_move rfl)<|.cons (o_move rfl)<|.cons (t_index h45 rfl rfl rfl)<|.cons (o_load_er rfl rfl rfl)<|.cons (o_call (rootcauseref18_Arrival_c h47) rfl (DLeL.refl _) rfl)<|.nil _) ?_
       refine a_cond _ rfl (fun h49=>?_) (fun h49=>?_)
       ·replace hM:=(of_if hM).1 h49
        refine ar (.cons (o_move rfl)<|.cons (o_assign rfl)<|.nil _) ?_
        refine ar (.cons (o_move rfl)<|.cons (o_int rfl rfl rfl)<|.cons (o_assign rfl)<|.nil _) ?_
        obtain rfl:=Option.some.inj hM
        exact ⟨(a44,a40,(IntKind.wrap .i64 (a40 + 1))),rfl,(Imp.sh (fun i=>bif Nat.beq i 10013 then 10015 else bif Nat.beq i 10012 then 10014 else i) rfl rfl rfl rfl rfl rfl)⟩
       ·replace hM:=(of_if hM).2 h49
        refine a_skip (ar (.cons (o_move rfl)<|.cons (o_int rfl rfl rfl)<|.cons (o_assign rfl)<|.nil _) ?_)
        obtain rfl:=Option.some.inj hM
        exact ⟨(a44,a39,(IntKind.wrap .i64 (a40 + 1))),rfl,(Imp.sh (fun i=>bif Nat.beq i 10013 then 10015 else bif Nat.beq i 10012 then 10014 else i) rfl rfl rfl rfl rfl rfl)⟩
     ·replace hM:=(of_if hM).2 h43
      refine a_exit ?_
      obtain rfl:=Option.some.inj hM
      obtain rfl:=hE41 _ rfl
      exact ⟨(a38,a39),hK41,(Imp.sh (fun i=>bif Nat.beq i 10004 then 10013 else bif Nat.beq i 10003 then 10012 else i) rfl rfl rfl rfl rfl rfl)⟩
    ·rintro ⟨a13,a14⟩ hM
     replace hM : rootcauseref28_Past_K4 x0 k2 a3 a13 a14 = some t5:=hM
     unfold rootcauseref28_Past_K4 at hM
     refine a_cut (α:=(List Bool)) (fun s=>⟨[(0,.sl 9 (List.map AEv.dv x0)),(3,.row 10005),(6,.sl 1 (List.map DV.bool s)),(13,.sl 9 (List.map AEv.dv x0)),(14,.int .i64 (List.length x0 : Int)),(15,.int .i64 (k2 : Int))],[(10005,some (.row 76 1 (List.map (encSl 1 DV.bool) a3)))],[10005]⟩) (fun s=>rootcauseref28_Past_K5 a3 s = some t5) ?_ ?_
     ·refine a_seq (ar (.cons (o_move rfl)<|.cons (o_move rfl)<|.cons (t_build (DV.int .i64) ([a13,a14] : List Int) rfl rfl rfl rfl rfl rfl rfl)<|.cons (t_len_r rfl rfl)<|.cons (o_move rfl)<|.nil _) ?_)
      obtain ⟨a18,hL19,hK19⟩ := of_bind hM
      refine a_block ?_
      refine a_fold (fun k17 (s : (List Bool))=>⟨[(0,.sl 9 (List.map AEv.dv x0)),(3,.row 10006),(4,.int .i64 (k2 : Int)),(6,.row 10007),(13,.sl 9 (List.map AEv.dv x0)),(14,.int .i64 (List.length x0 : Int)),(15,.int .i64 (k2 : Int)),(49,.sl 1 (List.map (DV.int .i64) [a13,a14])),(50,.int .i64 (List.length [a13,a14] : Int)),(51,.int .i64 (k17 : Int))],[(10006,some (.row 76 1 (List.map (encSl 1 DV.bool) a3))),(10007,some (.row 4 1 (List.map DV.bool s)))],[10006,10007]⟩) _ hL19 ((Imp.freeze (id:=49) rfl).trans (Imp.sh (fun i=>bif Nat.beq i 10007 then 10004 else bif Nat.beq i 10006 then 10003 else i) rfl rfl rfl rfl rfl rfl)) ?_ ?_
      ·rintro k17 a18 t20 hk17 hx17 hM
       replace hM : rootcauseref28_Past_L6 k2 a3 a13 a14 k17 a18 = some t20:=hM
       unfold rootcauseref28_Past_L6 at hM
       refine a_seq (ar (.cons (o_int rfl rfl rfl)<|.nil _) ?_)
       refine a_seq ?_
       refine a_cond _ rfl (fun _=>?_) (fun c=>absurd hk17 (of_decide_eq_false c))
       refine a_skip ?_
       refine a_cut (α:=(List Bool)) (fun s=>⟨[(0,.sl 9 (List.map AEv.dv x0)),(3,.row 10008),(4,.int .i64 (k2 : Int)),(6,.row 10009),(13,.sl 9 (List.map AEv.dv x0)),(14,.int .i64 (List.length x0 : Int)),(15,.int .i64 (k2 : Int)),(49,.sl 1 (List.map (DV.int .i64) [a13,a14])),(50,.int .i64 (List.length [a13,a14] : Int)),(51,.int .i64 (k17 : Int))],[(10008,some (.row 76 1 (List.map (encSl 1 DV.bool) a3))),(10009,some (.row 4 1 (List.map DV.bool s)))],[10008,10009]⟩) (fun s=>rootcauseref28_Past_K7 s = some t20) ?_ ?_
       ·refine a_block (a_seq ?_)
        obtain ⟨v24,h23,hM⟩ := of_bind hM
        refine ar (.cons (t_index h23 rfl rfl rfl)<|.cons (o_load_es rfl rfl)<|.cons (o_assign rfl)<|.nil _) ?_
        refine a_seq (ar (.cons (o_assign rfl)<|.nil _) ?_)
        obtain ⟨e27,hL27,hK27⟩ := of_bind hM
        refine a_block (a_while (fun s : (List Bool) × Int=>⟨[(0,.sl 9 (List.map AEv.dv x0)),(3,.row 10010),(4,.int .i64 (k2 : Int)),(6,.row 10011),(11,.int .i64 v24),(12,.int .i64 s.2),(13,.sl 9 (List.map AEv.dv x0)),(14,.int .i64 (List.length x0 : Int)),(15,.int .i64 (k2 : Int)),(49,.sl 1 (List.map (DV.int .i64) [a13,a14])),(50,.int .i64 (List.length [a13,a14] : Int)),(51,.int .i64 (k17 : Int))],[(10010,some (.row 76 1 (List.map (encSl 1 DV.bool) a3))),(10011,some (.row 4 1 (List.map DV.bool s.1)))],[10010,10011]⟩) _ hL27 (Imp.sh (fun i=>bif Nat.beq i 10011 then 10007 else bif Nat.beq i 10010 then 10006 else i) rfl rfl rfl rfl rfl rfl) ?_)
        rintro ⟨a25,a26⟩ t28 hM hE27
        replace hM : rootcauseref28_Past_L8 k2 a3 v24 a25 a26 = some t28:=hM
        unfold rootcauseref28_Past_L8 at hM
        refine a_seq (a_seq (ar (.cons (o_move rfl)<|.cons (o_int rfl rfl rfl)<|.cons (o_move rfl)<|.cons (o_guardG .bT rfl rfl (fun hb=>(.keep .nil)) (fun hb=>o_move rfl))<|.cons (o_guardG .bT rfl rfl (fun hb=>(.keep .nil)) (fun hb=>o_move rfl))<|.cons (o_guardG .bT rfl rfl (fun hb=>(.strip rfl hb (.strip rfl hb .nil))) (fun hb=>o_int rfl rfl rfl))<|.cons (o_and rfl rfl)<|.nil _) ?_))
        refine a_cond _ rfl (fun h29=>?_) (fun h29=>?_)
        ·replace hM:=(of_if hM).1 h29
         refine a_skip (a_seq (a_block ?_))
         obtain ⟨v31,h30,hM⟩ := of_bind hM
         obtain ⟨v33,h32,hM⟩ := of_bind hM
         obtain ⟨v35,h34,hM⟩ := of_bind hM
         obtain ⟨v37,h36,hM⟩ := of_bind hM
         refine ar (.cons (o_move rfl)<|.cons (o_move rfl)<|.cons (o_move rfl)<|.cons (o_move rfl)<|.cons (t_index_r h30 rfl rfl rfl)<|.cons (t_load_ps h30 rfl rfl rfl rfl)<|.cons (o_move rfl)<|.cons (o_guardG .bF rfl rfl (fun hb=>(.keep .nil)) (fun hb=>o_move rfl))<|.cons (o_guardG .bF rfl rfl (fun hb=>(.keep .nil)) (fun hb=>o_move rfl))<|.cons (o_guardG .bF rfl rfl (fun hb=>(.strip rfl hb (.strip rfl hb .nil))) (fun hb=>t_index_r (of_gb h32 hb) rfl rfl rfl))<|.cons (o_guardG .bF rfl rfl (fun hb=>(.strip rfl hb .nil)) (fun hb=>t_load_ps (of_gb h32 hb) rfl rfl rfl rfl))<|.cons (o_guardG .bF rfl rfl (fun hb=>(.keep .nil)) (fun hb=>o_move rfl))<|.cons (o_guardG .bF rfl rfl (fun hb=>(.strip rfl hb (.strip rfl hb .nil))) (fun hb=>t_index (of_gb h34 hb) rfl rfl rfl))<|.cons (o_guardG .bF rfl rfl (fun hb=>(.strip rfl hb .nil)) (fun hb=>o_load_es rfl rfl))<|.cons (o_or rfl rfl)<|.cons (t_index_r h36 rfl rfl rfl)<|.cons (t_store_p (v31 || v35) h36 rfl rfl rfl rfl rfl rfl rfl rfl rfl rfl rfl)<|.nil _) ?_
         refine ar (.cons (o_move rfl)<|.cons (o_int rfl rfl rfl)<|.cons (o_assign rfl)<|.nil _) ?_
         obtain rfl:=Option.some.inj hM
         exact ⟨((List.set a25 (Int.toNat a26) (v31 || v35)),(IntKind.wrap .i64 (a26 + 1))),rfl,(Imp.sh (fun i=>i) rfl rfl rfl rfl rfl rfl)⟩
        ·replace hM:=(of_if hM).2 h29
         refine a_exit ?_
         obtain rfl:=Option.some.inj hM
         obtain rfl:=hE27 _ rfl
         exact ⟨a25,hK27,(Imp.sh (fun i=>bif Nat.beq i 10009 then 10011 else bif Nat.beq i 10008 then 10010 else i) rfl rfl rfl rfl rfl rfl)⟩
       ·rintro a22 hM
        replace hM : rootcauseref28_Past_K7 a22 = some t20:=hM
        unfold rootcauseref28_Past_K7 at hM
        refine ar (.cons (o_add rfl rfl (inR_i64 hk17 hx17))<|.cons (o_move rfl)<|.nil _) ?_
        obtain rfl:=Option.some.inj hM
        exact (Imp.of (fun i=>bif Nat.beq i 10007 then 10009 else bif Nat.beq i 10006 then 10008 else i) (.cons rfl (DLe.refl _) (.cons rfl (DLe.refl _) (.cons rfl (DLe.refl _) (.cons rfl (DLe.refl _) (.cons rfl (DLe.refl _) (.cons rfl (DLe.refl _) (.cons rfl (DLe.refl _) (.cons rfl (DLe.refl _) (.cons rfl (DLe.refl _) (.cons rfl (DLe.succ _ _) .nil)))))))))) (.cons rfl (.refl _) (.cons rfl (.refl _) .nil)) rfl rfl rfl)
      ·rintro k17 hk17 hx17
       refine a_seq (ar (.cons (o_int rfl rfl rfl)<|.nil _) ?_)
       refine a_seq ?_
       refine a_cond _ rfl (fun c=>absurd (of_decide_eq_true c) (Int.not_lt.2 hk17)) (fun _=>?_)
       refine a_exit ?_
       exact ⟨a18,hK19,((Imp.freeze (id:=10007) rfl).trans (Imp.sh (fun i=>bif Nat.beq i 10005 then 10006 else i) rfl rfl rfl rfl rfl rfl))⟩
     ·rintro a15 hM
      replace hM : rootcauseref28_Past_K5 a3 a15 = some t5:=hM
      unfold rootcauseref28_Past_K5 at hM
      obtain ⟨h16,hM⟩ := of_chk hM
      refine ar (.cons (o_move rfl)<|.cons (o_move rfl)<|.cons (t_build (encSl 1 DV.bool) ([a15] : List (List Bool)) rfl rfl rfl rfl rfl rfl rfl)<|.cons (t_append [a15] h16 rfl rfl rfl (Src.row rfl))<|.cons (o_assign rfl)<|.nil _) ?_
      exact ⟨(a3++[a15]),hM,(Imp.sh (fun i=>bif Nat.beq i 10002 then 84 else i) rfl rfl rfl rfl rfl rfl)⟩
   ·rintro a7 hM
    replace hM : rootcauseref28_Past_K3 a7 = some t5:=hM
    unfold rootcauseref28_Past_K3 at hM
    refine ar (.cons (o_add rfl rfl (inR_i64 hk2 hx2))<|.cons (o_move rfl)<|.nil _) ?_
    obtain rfl:=Option.some.inj hM
    exact (Imp.of (fun i=>bif Nat.beq i 10001 then 10002 else i) (.cons rfl (DLe.refl _) (.cons rfl (DLe.refl _) (.cons rfl (DLe.refl _) (.cons rfl (DLe.refl _) (.cons rfl (DLe.succ _ _) .nil))))) (.cons rfl (.refl _) .nil) rfl rfl rfl)
  ·rintro k2 hk2 hx2
   refine a_seq (ar (.cons (o_int rfl rfl rfl)<|.nil _) ?_)
   refine a_seq ?_
   refine a_cond _ rfl (fun c=>absurd (of_decide_eq_true c) (Int.not_lt.2 hk2)) (fun _=>?_)
   refine a_exit ?_
   exact ⟨a3,hK4,((Imp.freeze (id:=10001) rfl).trans (Imp.sh (fun i=>i) rfl rfl rfl rfl rfl rfl))⟩
 ·rintro a1 hM
  replace hM : rootcauseref28_Past_K1 a1 = some r:=hM
  unfold rootcauseref28_Past_K1 at hM
  refine a_seq (ar (.cons (o_move rfl)<|.cons (o_assign rfl)<|.nil _) ?_)
  obtain rfl:=Option.some.inj hM
  exact a_ret (a_post (.r1 (.tmp rfl)) (DLe.refl _) PostOk.nil.spec)
def rootcauseref28_Clocks_K1 (a1 : List (List Int)) : Option (List (List Int)) :=
 some a1
def rootcauseref28_Clocks_K3 (a9 : List (List Int)) : Option (List (List Int)) :=
 some a9
def rootcauseref28_Clocks_K4 (a5 : List (List Int)) (a13 : List Int) : Option (List (List Int)) :=
 chk (apOk 24 (List.length a5 + List.length [a13]))<|
 rootcauseref28_Clocks_K3 (a5++[a13])
def rootcauseref28_Clocks_L5 (x0 : List AEv) (v11 : List Bool) (k15 : Nat) (a16 : List Int) : Option (List Int) :=
 (idx v11 (k15 : Int)).bind fun v21=>
 if v21 = true then
  (idx x0 (k15 : Int)).bind fun v24=>
  (idx a16 v24.gComponent).bind fun v26=>
  (idx a16 v24.gComponent).bind fun v28=>
  some (List.set a16 (Int.toNat v24.gComponent) (IntKind.wrap .u64 (v26 + 1)))
 else
  some a16
def rootcauseref28_Clocks_L2 (x0 : List AEv) (x1 : Int) (v3 : (List (List Bool))) (k4 : Nat) (a5 : List (List Int)) : Option (List (List Int)) :=
 (idx v3 (k4 : Int)).bind fun v11=>
 chk (mkOk 8 (IntKind.wrap .i64 (x1 + 1)) (IntKind.wrap .i64 (x1 + 1)))<|
 (foldM' 9223372036854775807 (List.length v11 : Int) (fun k15 s=>rootcauseref28_Clocks_L5 x0 v11 k15 s) (List.replicate (Int.toNat (IntKind.wrap .i64 (x1 + 1))) 0)).bind fun s=>rootcauseref28_Clocks_K4 a5 s
def rootcauseref28_Clocks (x0 : List AEv) (x1 : Int) : Option (List (List Int)) :=
 (rootcauseref28_Past x0).bind fun v3=>
 (foldM' 9223372036854775807 (List.length v3 : Int) (fun k4 s=>rootcauseref28_Clocks_L2 x0 x1 v3 k4 s) ([] : List (List Int))).bind fun s=>rootcauseref28_Clocks_K1 s
theorem rootcauseref28_Clocks_c {x0 : List AEv} {x1 : Int} {r : (List (List Int))} (hM : rootcauseref28_Clocks x0 x1 = some r) : PCall Tryz.prog 20 [.sl 9 (List.map AEv.dv x0),.int .i64 x1] (.sl 1 (List.map (encSl 1 (DV.int .u64)) r)):=by
 unfold rootcauseref28_Clocks at hM
 refine PCall.body Tryz.func20 Tryz.ntmps20 rfl rfl rfl rfl ?_
 refine a_seq (ar (.cons (o_assign rfl)<|.nil _) ?_)
 refine a_seq (ar (.cons (o_assign rfl)<|.nil _) ?_)
 refine a_cut (α:=(List (List Int))) (fun s=>⟨[(5,.sl 1 (List.map (encSl 1 (DV.int .u64)) s))],[],[]⟩) (fun s=>rootcauseref28_Clocks_K1 s = some r) ?_ ?_
 ·refine a_seq ?_
  obtain ⟨v3,h2,hM⟩ := of_bind hM
  refine ar (.cons (o_move rfl)<|.cons (o_call (rootcauseref28_Past_c h2) rfl (DLeL.refl _) rfl)<|.cons (t_len rfl)<|.cons (o_move rfl)<|.nil _) ?_
  obtain ⟨a5,hL6,hK6⟩ := of_bind hM
  refine a_block ?_
  refine a_fold (fun k4 (s : (List (List Int)))=>⟨[(0,.sl 9 (List.map AEv.dv x0)),(1,.int .i64 x1),(5,.row 10001),(12,.sl 1 (List.map (encSl 1 DV.bool) v3)),(13,.int .i64 (List.length v3 : Int)),(14,.int .i64 (k4 : Int))],[(10001,some (.row 66 1 (List.map (encSl 1 (DV.int .u64)) s)))],[10001]⟩) _ hL6 ((Imp.nilRow (t:=5) (id:=10006) 66 1 rfl rfl).trans (Imp.sh (fun i=>bif Nat.beq i 10001 then 10006 else i) rfl rfl rfl rfl rfl rfl)) ?_ ?_
  ·rintro k4 a5 t7 hk4 hx4 hM
   replace hM : rootcauseref28_Clocks_L2 x0 x1 v3 k4 a5 = some t7:=hM
   unfold rootcauseref28_Clocks_L2 at hM
   refine a_seq (ar (.cons (o_int rfl rfl rfl)<|.nil _) ?_)
   refine a_seq ?_
   refine a_cond _ rfl (fun _=>?_) (fun c=>absurd hk4 (of_decide_eq_false c))
   refine a_skip ?_
   refine a_cut (α:=(List (List Int))) (fun s=>⟨[(0,.sl 9 (List.map AEv.dv x0)),(1,.int .i64 x1),(5,.row 10002),(12,.sl 1 (List.map (encSl 1 DV.bool) v3)),(13,.int .i64 (List.length v3 : Int)),(14,.int .i64 (k4 : Int))],[(10002,some (.row 66 1 (List.map (encSl 1 (DV.int .u64)) s)))],[10002]⟩) (fun s=>rootcauseref28_Clocks_K3 s = some t7) ?_ ?_
   ·refine a_block (a_seq ?_)
    obtain ⟨v11,h10,hM⟩ := of_bind hM
    refine ar (.cons (t_index h10 rfl rfl rfl)<|.cons (o_load_es rfl rfl)<|.cons (o_assign rfl)<|.nil _) ?_
    refine a_seq ?_
    obtain ⟨h12,hM⟩ := of_chk hM
    refine ar (.cons (o_move rfl)<|.cons (o_int rfl rfl rfl)<|.cons (t_make (DV.int .u64) 0 h12 rfl rfl rfl rfl)<|.cons (o_assign rfl)<|.nil _) ?_
    refine a_cut (α:=(List Int)) (fun s=>⟨[(0,.sl 9 (List.map AEv.dv x0)),(1,.int .i64 x1),(5,.row 10003),(8,.sl 1 (List.map (DV.int .u64) s)),(12,.sl 1 (List.map (encSl 1 DV.bool) v3)),(13,.int .i64 (List.length v3 : Int)),(14,.int .i64 (k4 : Int))],[(10003,some (.row 66 1 (List.map (encSl 1 (DV.int .u64)) a5)))],[10003]⟩) (fun s=>rootcauseref28_Clocks_K4 a5 s = some t7) ?_ ?_
    ·refine a_seq (ar (.cons (o_move rfl)<|.cons (t_len rfl)<|.cons (o_move rfl)<|.nil _) ?_)
     obtain ⟨a16,hL17,hK17⟩ := of_bind hM
     refine a_block ?_
     refine a_fold (fun k15 (s : (List Int))=>⟨[(0,.sl 9 (List.map AEv.dv x0)),(1,.int .i64 x1),(5,.row 10004),(8,.row 10005),(12,.sl 1 (List.map (encSl 1 DV.bool) v3)),(13,.int .i64 (List.length v3 : Int)),(14,.int .i64 (k4 : Int)),(21,.sl 1 (List.map DV.bool v11)),(22,.int .i64 (List.length v11 : Int)),(23,.int .i64 (k15 : Int))],[(10004,some (.row 66 1 (List.map (encSl 1 (DV.int .u64)) a5))),(10005,some (.row 41 1 (List.map (DV.int .u64) s)))],[10004,10005]⟩) _ hL17 (Imp.sh (fun i=>bif Nat.beq i 10005 then 20 else bif Nat.beq i 10004 then 10001 else i) rfl rfl rfl rfl rfl rfl) ?_ ?_
     ·rintro k15 a16 t18 hk15 hx15 hM
      replace hM : rootcauseref28_Clocks_L5 x0 v11 k15 a16 = some t18:=hM
      unfold rootcauseref28_Clocks_L5 at hM
      refine a_seq (ar (.cons (o_int rfl rfl rfl)<|.nil _) ?_)
      refine a_seq ?_
      refine a_cond _ rfl (fun _=>?_) (fun c=>absurd hk15 (of_decide_eq_false c))
      refine a_skip (a_seq (a_block (a_seq ?_)))
      obtain ⟨v21,h20,hM⟩ := of_bind hM
      refine ar (.cons (o_move rfl)<|.cons (t_index h20 rfl rfl rfl)<|.cons (o_load_es rfl rfl)<|.cons (o_assign rfl)<|.cons (o_assign rfl)<|.nil _) ?_
      refine a_seq (ar (.cons (o_move rfl)<|.nil _) ?_)
      refine a_cond _ rfl (fun h22=>?_) (fun h22=>?_)
      ·replace hM:=(of_if hM).1 h22
       obtain ⟨v24,h23,hM⟩ := of_bind hM
       obtain ⟨v26,h25,hM⟩ := of_bind hM
       obtain ⟨v28,h27,hM⟩ := of_bind hM
       refine ar (.cons (o_move rfl)<|.cons (o_move rfl)<|.cons (o_move rfl)<|.cons (t_index h23 rfl rfl rfl)<|.cons (o_fieldAddr_e rfl rfl)<|.cons (o_load_es rfl rfl)<|.cons (t_index_r h25 rfl rfl rfl)<|.cons (t_load_ps h25 rfl rfl rfl rfl)<|.cons (o_int rfl rfl rfl)<|.cons (t_index_r h27 rfl rfl rfl)<|.cons (t_store_p (IntKind.wrap .u64 (v26 + 1)) h27 rfl rfl rfl rfl rfl rfl rfl rfl rfl rfl rfl)<|.nil _) ?_
       refine ar (.cons (o_add rfl rfl (inR_i64 hk15 hx15))<|.cons (o_move rfl)<|.nil _) ?_
       obtain rfl:=Option.some.inj hM
       exact (Imp.of (fun i=>i) (.cons rfl (DLe.refl _) (.cons rfl (DLe.refl _) (.cons rfl (DLe.refl _) (.cons rfl (DLe.refl _) (.cons rfl (DLe.refl _) (.cons rfl (DLe.refl _) (.cons rfl (DLe.refl _) (.cons rfl (DLe.refl _) (.cons rfl (DLe.refl _) (.cons rfl (DLe.succ _ _) .nil)))))))))) (.cons rfl (.refl _) (.cons rfl (.refl _) .nil)) rfl rfl rfl)
      ·replace hM:=(of_if hM).2 h22
       refine a_skip (ar (.cons (o_add rfl rfl (inR_i64 hk15 hx15))<|.cons (o_move rfl)<|.nil _) ?_)
       obtain rfl:=Option.some.inj hM
       exact (Imp.of (fun i=>i) (.cons rfl (DLe.refl _) (.cons rfl (DLe.refl _) (.cons rfl (DLe.refl _) (.cons rfl (DLe.refl _) (.cons rfl (DLe.refl _) (.cons rfl (DLe.refl _) (.cons rfl (DLe.refl _) (.cons rfl (DLe.refl _) (.cons rfl (DLe.refl _) (.cons rfl (DLe.succ _ _) .nil)))))))))) (.cons rfl (.refl _) (.cons rfl (.refl _) .nil)) rfl rfl rfl)
     ·rintro k15 hk15 hx15
      refine a_seq (ar (.cons (o_int rfl rfl rfl)<|.nil _) ?_)
      refine a_seq ?_
      refine a_cond _ rfl (fun c=>absurd (of_decide_eq_true c) (Int.not_lt.2 hk15)) (fun _=>?_)
      refine a_exit ?_
      exact ⟨a16,hK17,((Imp.freeze (id:=10005) rfl).trans (Imp.sh (fun i=>bif Nat.beq i 10003 then 10004 else i) rfl rfl rfl rfl rfl rfl))⟩
    ·rintro a13 hM
     replace hM : rootcauseref28_Clocks_K4 a5 a13 = some t7:=hM
     unfold rootcauseref28_Clocks_K4 at hM
     obtain ⟨h14,hM⟩ := of_chk hM
     refine ar (.cons (o_move rfl)<|.cons (o_move rfl)<|.cons (t_build (encSl 1 (DV.int .u64)) ([a13] : List (List Int)) rfl rfl rfl rfl rfl rfl rfl)<|.cons (t_append [a13] h14 rfl rfl rfl (Src.row rfl))<|.cons (o_assign rfl)<|.nil _) ?_
     exact ⟨(a5++[a13]),hM,(Imp.sh (fun i=>bif Nat.beq i 10002 then 43 else i) rfl rfl rfl rfl rfl rfl)⟩
   ·rintro a9 hM
    replace hM : rootcauseref28_Clocks_K3 a9 = some t7:=hM
    unfold rootcauseref28_Clocks_K3 at hM
    refine ar (.cons (o_add rfl rfl (inR_i64 hk4 hx4))<|.cons (o_move rfl)<|.nil _) ?_
    obtain rfl:=Option.some.inj hM
    exact (Imp.of (fun i=>bif Nat.beq i 10001 then 10002 else i) (.cons rfl (DLe.refl _) (.cons rfl (DLe.refl _) (.cons rfl (DLe.refl _) (.cons rfl (DLe.refl _) (.cons rfl (DLe.refl _) (.cons rfl (DLe.succ _ _) .nil)))))) (.cons rfl (.refl _) .nil) rfl rfl rfl)
  ·rintro k4 hk4 hx4
   refine a_seq (ar (.cons (o_int rfl rfl rfl)<|.nil _) ?_)
   refine a_seq ?_
   refine a_cond _ rfl (fun c=>absurd (of_decide_eq_true c) (Int.not_lt.2 hk4)) (fun _=>?_)
   refine a_exit ?_
   exact ⟨a5,hK6,((Imp.freeze (id:=10001) rfl).trans (Imp.sh (fun i=>i) rfl rfl rfl rfl rfl rfl))⟩
 ·rintro a1 hM
  replace hM : rootcauseref28_Clocks_K1 a1 = some r:=hM
  unfold rootcauseref28_Clocks_K1 at hM
  refine a_seq (ar (.cons (o_move rfl)<|.cons (o_assign rfl)<|.nil _) ?_)
  obtain rfl:=Option.some.inj hM
  exact a_ret (a_post (.r1 (.tmp rfl)) (DLe.refl _) PostOk.nil.spec)
def rootcauseref28_Check_K1 : Option Int :=
 some 0
def rootcauseref28_Check_L2 (x0 : List AEv) (x1 : Int) (k2 : Nat) : Option (Ctl Unit Int) :=
 (idx x0 (k2 : Int)).bind fun v7=>
 if ((decide (v7.gComponent < 0)) || (decide (x1 < v7.gComponent))) = true then
  some (.done 1)
 else
  some (.next ())
def rootcauseref28_Check (x0 : List AEv) (x1 : Int) : Option Int :=
 if ((decide (x1 < 1)) || (decide (8 < x1))) = true then
  some 1
 else
  (forM' (E:=Int) 9223372036854775807 (List.length x0 : Int) (fun k2 s=>rootcauseref28_Check_L2 x0 x1 k2) ()).bind fun
   | .next s=>rootcauseref28_Check_K1
   | .done r=>some r
theorem rootcauseref28_Check_c {x0 : List AEv} {x1 : Int} {r : Int} (hM : rootcauseref28_Check x0 x1 = some r) : PCall Tryz.prog 19 [.sl 9 (List.map AEv.dv x0),.int .i64 x1] (.int .i64 r):=by
 unfold rootcauseref28_Check at hM
 refine PCall.body Tryz.func19 Tryz.ntmps19 rfl rfl rfl rfl ?_
 refine a_seq (ar (.cons (o_assign rfl)<|.nil _) ?_)
 refine a_seq (a_seq (ar (.cons (o_move rfl)<|.cons (o_int rfl rfl rfl)<|.cons (o_move rfl)<|.cons (o_guardG .bF rfl rfl (fun hb=>(.keep .nil)) (fun hb=>o_move rfl))<|.cons (o_guardG .bF rfl rfl (fun hb=>(.strip rfl hb .nil)) (fun hb=>o_int rfl rfl rfl))<|.cons (o_or rfl rfl)<|.nil _) ?_))
 refine a_cond _ rfl (fun h1=>?_) (fun h1=>?_)
 ·replace hM:=(of_if hM).1 h1
  refine a_seq (ar (.cons (o_assign rfl)<|.nil _) ?_)
  obtain rfl:=Option.some.inj hM
  exact a_ret (a_post (.r1 (.tmp rfl)) (DLe.refl _) PostOk.nil.spec)
 ·replace hM:=(of_if hM).2 h1
  refine a_skip ?_
  refine a_cut (α:=Unit) (fun s=>⟨[],[],[]⟩) (fun s=>rootcauseref28_Check_K1 = some r) ?_ ?_
  ·refine a_seq (ar (.cons (o_move rfl)<|.cons (t_len rfl)<|.cons (o_move rfl)<|.nil _) ?_)
   obtain ⟨t3,hL3,hK3⟩ := of_bind hM
   refine a_block ?_
   refine a_for (fun k2 (s : Unit)=>⟨[(1,.int .i64 x1),(13,.sl 9 (List.map AEv.dv x0)),(14,.int .i64 (List.length x0 : Int)),(15,.int .i64 (k2 : Int))],[],[]⟩) _ hL3 (Imp.sh (fun i=>i) rfl rfl rfl rfl rfl rfl) ?_ ?_
   ·rintro k2 _ t4 hk2 hx2 hM hE3
    replace hM : rootcauseref28_Check_L2 x0 x1 k2 = some t4:=hM
    unfold rootcauseref28_Check_L2 at hM
    refine a_seq (ar (.cons (o_int rfl rfl rfl)<|.nil _) ?_)
    refine a_seq ?_
    refine a_cond _ rfl (fun _=>?_) (fun c=>absurd hk2 (of_decide_eq_false c))
    refine a_skip (a_seq (a_block (a_seq ?_)))
    obtain ⟨v7,h6,hM⟩ := of_bind hM
    refine ar (.cons (t_index h6 rfl rfl rfl)<|.cons (o_load_er rfl rfl rfl)<|.cons (o_alloc rfl)<|.cons (o_store rfl rfl rfl rfl rfl rfl rfl)<|.nil _) ?_
    refine a_seq (ar (.cons (o_fieldAddr rfl)<|.cons (o_load_s rfl rfl rfl)<|.cons (o_int rfl rfl rfl)<|.cons (o_move rfl)<|.cons (o_guardG .bF rfl rfl (fun hb=>(.keep .nil)) (fun hb=>o_fieldAddr rfl))<|.cons (o_guardG .bF rfl rfl (fun hb=>(.strip rfl hb .nil)) (fun hb=>o_load_s rfl rfl rfl))<|.cons (o_guardG .bF rfl rfl (fun hb=>(.keep .nil)) (fun hb=>o_move rfl))<|.cons (o_guardG .bF rfl rfl (fun hb=>(.strip rfl hb (.strip rfl hb .nil))) (fun hb=>o_int rfl rfl rfl))<|.cons (o_or rfl rfl)<|.nil _) ?_)
    refine a_cond _ rfl (fun h8=>?_) (fun h8=>?_)
    ·replace hM:=(of_if hM).1 h8
     refine a_seq (ar (.cons (o_assign rfl)<|.nil _) ?_)
     obtain rfl:=Option.some.inj hM
     obtain rfl:=hE3 _ rfl
     obtain rfl:=Option.some.inj hK3
     exact a_ret (a_post (.r1 (.tmp rfl)) (DLe.refl _) PostOk.nil.spec)
    ·replace hM:=(of_if hM).2 h8
     refine a_skip (ar (.cons (o_add rfl rfl (inR_i64 hk2 hx2))<|.cons (o_move rfl)<|.nil _) ?_)
     obtain rfl:=Option.some.inj hM
     exact ⟨(),rfl,(Imp.of (fun i=>i) (.cons rfl (DLe.refl _) (.cons rfl (DLe.refl _) (.cons rfl (DLe.refl _) (.cons rfl (DLe.succ _ _) .nil)))) .nil rfl rfl rfl)⟩
   ·rintro k2 _ hk2 hx2 rfl
    refine a_seq (ar (.cons (o_int rfl rfl rfl)<|.nil _) ?_)
    refine a_seq ?_
    refine a_cond _ rfl (fun c=>absurd (of_decide_eq_true c) (Int.not_lt.2 hk2)) (fun _=>?_)
    refine a_exit ?_
    exact ⟨(),hK3,(Imp.sh (fun i=>i) rfl rfl rfl rfl rfl rfl)⟩
  ·rintro _ hM
   replace hM : rootcauseref28_Check_K1 = some r:=hM
   unfold rootcauseref28_Check_K1 at hM
   refine a_seq (ar (.cons (o_assign rfl)<|.nil _) ?_)
   obtain rfl:=Option.some.inj hM
   exact a_ret (a_post (.r1 (.tmp rfl)) (DLe.refl _) PostOk.nil.spec)
def rootcauseref24_Trim_K1 (x0 : List Int) (a1 : Int) : Option (List Int) :=
 chk (slOk (List.length x0) 0 a1)<|
 some (List.take (Int.toNat a1) x0)
def rootcauseref24_Trim_L2 (x0 : List Int) (a3 : Int) : Option (Ctl Int Int) :=
 (gb (decide (0 < a3)) 0 (idx x0 (IntKind.wrap .i64 (a3 - 1)))).bind fun v7=>
 if ((decide (0 < a3)) && (v7 == 0)) = true then
  some (.next (IntKind.wrap .i64 (a3 - 1)))
 else
  some (.done a3)
def rootcauseref24_Trim (x0 : List Int) : Option (List Int) :=
 (whileM (E:=Int) (fun s=>rootcauseref24_Trim_L2 x0 s) (List.length x0 : Int)).bind fun e=>rootcauseref24_Trim_K1 x0 e
theorem rootcauseref24_Trim_c {x0 : List Int} {r : (List Int)} (hM : rootcauseref24_Trim x0 = some r) : PCall Tryz.prog 49 [.sl 1 (List.map (DV.int .u64) x0)] (.sl 1 (List.map (DV.int .u64) r)):=by
 unfold rootcauseref24_Trim at hM
 refine PCall.body Tryz.func49 Tryz.ntmps49 rfl rfl rfl rfl ?_
 refine a_seq (ar (.cons (o_assign rfl)<|.nil _) ?_)
 refine a_seq (ar (.cons (o_move rfl)<|.cons (t_len rfl)<|.cons (o_assign rfl)<|.nil _) ?_)
 refine a_cut (α:=Int) (fun s=>⟨[(0,.sl 1 (List.map (DV.int .u64) x0)),(3,.int .i64 s)],[],[]⟩) (fun s=>rootcauseref24_Trim_K1 x0 s = some r) ?_ ?_
 ·obtain ⟨e4,hL4,hK4⟩ := of_bind hM
  refine a_block (a_while (fun s : Int=>⟨[(0,.sl 1 (List.map (DV.int .u64) x0)),(3,.int .i64 s)],[],[]⟩) _ hL4 (Imp.sh (fun i=>i) rfl rfl rfl rfl rfl rfl) ?_)
  rintro a3 t5 hM hE4
  replace hM : rootcauseref24_Trim_L2 x0 a3 = some t5:=hM
  unfold rootcauseref24_Trim_L2 at hM
  refine a_seq (a_seq ?_)
  obtain ⟨v7,h6,hM⟩ := of_bind hM
  refine ar (.cons (o_move rfl)<|.cons (o_int rfl rfl rfl)<|.cons (o_move rfl)<|.cons (o_guardG .bT rfl rfl (fun hb=>(.keep .nil)) (fun hb=>o_move rfl))<|.cons (o_guardG .bT rfl rfl (fun hb=>(.keep .nil)) (fun hb=>o_move rfl))<|.cons (o_guardG .bT rfl rfl (fun hb=>(.strip rfl hb .nil)) (fun hb=>o_int rfl rfl rfl))<|.cons (o_guardG .bT rfl rfl (fun hb=>(.strip rfl hb (.strip rfl hb .nil))) (fun hb=>t_index (of_gb h6 hb) rfl rfl rfl))<|.cons (o_guardG .bT rfl rfl (fun hb=>(.strip rfl hb .nil)) (fun hb=>o_load_es rfl rfl))<|.cons (o_guardG .bT rfl rfl (fun hb=>(.strip rfl hb .nil)) (fun hb=>o_int rfl rfl rfl))<|.cons (o_and rfl rfl)<|.nil _) ?_
  refine a_cond _ rfl (fun h8=>?_) (fun h8=>?_)
  ·replace hM:=(of_if hM).1 h8
   refine a_skip (a_block (ar (.cons (o_move rfl)<|.cons (o_int rfl rfl rfl)<|.cons (o_assign rfl)<|.nil _) ?_))
   obtain rfl:=Option.some.inj hM
   exact ⟨(IntKind.wrap .i64 (a3 - 1)),rfl,(Imp.sh (fun i=>i) rfl rfl rfl rfl rfl rfl)⟩
  ·replace hM:=(of_if hM).2 h8
   refine a_exit ?_
   obtain rfl:=Option.some.inj hM
   obtain rfl:=hE4 _ rfl
   exact ⟨a3,hK4,(Imp.sh (fun i=>i) rfl rfl rfl rfl rfl rfl)⟩
 ·rintro a1 hM
  replace hM : rootcauseref24_Trim_K1 x0 a1 = some r:=hM
  unfold rootcauseref24_Trim_K1 at hM
  refine a_seq ?_
  obtain ⟨h2,hM⟩ := of_chk hM
  refine ar (.cons (o_move rfl)<|.cons (o_move rfl)<|.cons (t_slice_h h2 rfl rfl)<|.cons (o_assign rfl)<|.nil _) ?_
  obtain rfl:=Option.some.inj hM
  exact a_ret (a_post (.r1 (.tmp rfl)) (DLe.refl _) PostOk.nil.spec)
end Go.Proofs.YtifaebmmbpkclaaGreatDoor
namespace Go.Proofs.YtifaebmmbpkclaaGreatDoor
theorem past_max (p q : Nat→Bool) (l : List Nat) (h : (∀ k∈l,p k = true→q k = true)∨(∀ k∈l,q k = true→p k = true)) : l.countP (fun k=>p k || q k) = max (l.countP p) (l.countP q):=by
 rcases h with h | h
 ·have e : l.countP (fun k=>p k || q k) = l.countP q:=by
   apply List.countP_congr
   intro k hk
   have:=h k hk
   cases hp : p k <;> simp_all
  have le : l.countP p≤l.countP q:=List.countP_mono_left (fun k hk hp=>h k hk hp)
  omega
 ·have e : l.countP (fun k=>p k || q k) = l.countP p:=by
   apply List.countP_congr
   intro k hk
   have:=h k hk
   cases hp : q k <;> simp_all
  have le : l.countP q≤l.countP p:=List.countP_mono_left (fun k hk hp=>h k hk hp)
  omega
section
variable {n : Nat} {bef snt : Nat→Option Nat} {comp : Nat→Int} {p : Nat→Nat→Bool} {C : Nat→Int→Nat}
structure PastOk (n : Nat) (bef snt : Nat→Option Nat) (comp : Nat→Int) (p : Nat→Nat→Bool) : Prop where
 b1 : ∀ j,j < n→∀ i,bef j = some i→i < j∧comp i = comp j∧∀ k,i < k→k < j→comp k≠comp j
 b0 : ∀ j,j < n→bef j = none→∀ k,k < j→comp k≠comp j
 s1 : ∀ j,j < n→∀ i,snt j = some i→i < j
 p : ∀ j,j < n→∀ k,p j k = (decide (k = j) || (decide (k < j) && ((bef j).any (p · k) || (snt j).any (p · k))))
theorem PastOk.self (H : PastOk n bef snt comp p) {j : Nat} (hj : j < n) : p j j = true:=by rw [H.p j hj]; simp
theorem PastOk.le (H : PastOk n bef snt comp p) {j k : Nat} (hj : j < n) (h : p j k = true) : k≤j:=by
 rw [H.p j hj] at h
 simp only [Bool.or_eq_true,Bool.and_eq_true,decide_eq_true_eq] at h
 omega
theorem PastOk.down (H : PastOk n bef snt comp p) : ∀ j,j < n→∀ k k',p j k = true→k' < k→comp k' = comp k→p j k' = true:=by
 intro j
 induction j using Nat.strongRecOn with
 | ind j ih=>
  intro hj k k' hk hlt hc
  have hle:=H.le hj hk
  rw [H.p j hj] at hk
  rw [H.p j hj]
  simp only [Bool.or_eq_true,Bool.and_eq_true,decide_eq_true_eq] at hk ⊢
  right
  refine ⟨by omega,?_⟩
  rcases hk with rfl | ⟨h1,h2⟩
  ·cases hb : bef k with
   | none=>exact absurd hc (H.b0 k hj hb k' hlt)
   | some i=>
    obtain ⟨a1,a2,a3⟩ := H.b1 k hj i hb
    left
    simp only [Option.any_some]
    rcases Nat.lt_trichotomy k' i with h | h | h
    ·exact ih i a1 (by omega) i k' (H.self (by omega)) h (by rw [hc,a2])
    ·subst h; exact H.self (by omega)
    ·exact absurd hc (a3 k' h hlt)
  ·rcases h2 with h2 | h2
   ·cases hb : bef j with
    | none=>simp [hb] at h2
    | some i=>
     simp only [hb,Option.any_some] at h2 ⊢
     exact .inl (ih i (H.b1 j hj i hb).1 (by have:=(H.b1 j hj i hb).1; omega) k k' h2 hlt hc)
   ·cases hb : snt j with
    | none=>simp [hb] at h2
    | some i=>
     simp only [hb,Option.any_some] at h2 ⊢
     exact .inr (ih i (H.s1 j hj i hb) (by have:=H.s1 j hj i hb; omega) k k' h2 hlt hc)
theorem PastOk.nest (H : PastOk n bef snt comp p) {i j : Nat} (hi : i < n) (hj : j < n) (c : Int) (l : List Nat) :
  (∀ k∈l,(p i k && comp k == c) = true→(p j k && comp k == c) = true)∨(∀ k∈l,(p j k && comp k == c) = true→(p i k && comp k == c) = true):=by
 by_cases h : ∃ k,p i k = true∧comp k = c∧p j k = false
 ·right
  obtain ⟨k,h1,h2,h3⟩ := h
  intro k' _ hk'
  simp only [Bool.and_eq_true,beq_iff_eq] at hk' ⊢
  refine ⟨?_,hk'.2⟩
  rcases Nat.lt_trichotomy k' k with h | h | h
  ·exact H.down i hi k k' h1 h (by rw [hk'.2,h2])
  ·subst h; exact h1
  ·have:=H.down j hj k' k hk'.1 h (by rw [hk'.2,h2])
   rw [h3] at this; cases this
 ·left
  intro k _ hk
  simp only [Bool.and_eq_true,beq_iff_eq] at hk ⊢
  refine ⟨?_,hk.2⟩
  cases hq : p j k with
  | true=>rfl
  | false=>exact absurd ⟨k,hk.1,hk.2,hq⟩ h
def pcnt (comp : Nat→Int) (p : Nat→Nat→Bool) (m j : Nat) (c : Int) : Nat:=(List.range m).countP (fun k=>p j k && comp k == c)
theorem past_lt (f : Nat→Bool) (m m' : Nat) (h : m≤m') (hf : ∀ k,m≤k→f k = false) : (List.range m').countP f = (List.range m).countP f:=by
 induction m' with
 | zero=>
  have : m = 0:=by omega
  subst this; rfl
 | succ q ih=>
  by_cases e : m = q + 1
  ·subst e; rfl
  ·rw [List.range_succ,List.countP_append,ih (by omega)]
   simp [hf q (by omega)]
theorem PastOk.cnt (H : PastOk n bef snt comp p) (hC : ∀ j,j < n→∀ c,C j c = max ((bef j).elim 0 (C · c)) ((snt j).elim 0 (C · c)) + if c = comp j then 1 else 0) :
  ∀ j,j < n→∀ m c,j < m→C j c = pcnt comp p m j c:=by
 intro j
 induction j using Nat.strongRecOn with
 | ind j ih=>
  intro hj m c hm
  rw [hC j hj c]
  have e1 : pcnt comp p m j c = pcnt comp p (j + 1) j c:=by
   refine past_lt _ (j + 1) m hm (fun k hk=>?_)
   cases hp : p j k with
   | false=>rfl
   | true=>exact absurd (H.le hj hp) (by omega)
  rw [e1]
  unfold pcnt
  rw [List.range_succ,List.countP_append]
  have e2 : List.countP (fun k=>p j k && comp k == c) [j] = if c = comp j then 1 else 0:=by
   by_cases hc : c = comp j <;> simp [H.self hj,hc,Ne.symm]
  rw [e2]
  congr 1
  have e3 : (List.range j).countP (fun k=>p j k && comp k == c) = (List.range j).countP (fun k=>((bef j).any (p · k) && comp k == c) || ((snt j).any (p · k) && comp k == c)):=by
   apply List.countP_congr
   intro k hk
   have hk' : k < j:=List.mem_range.1 hk
   rw [H.p j hj k]
   have h1 : decide (k = j) = false:=by simp; omega
   have h2 : decide (k < j) = true:=by simp [hk']
   rw [h1,h2]
   cases (bef j).any (p · k) <;> cases (snt j).any (p · k) <;> cases (comp k == c) <;> rfl
  rw [e3]
  cases hb : bef j with
  | none=>
   cases hs : snt j with
   | none=>simp
   | some i=>
    have hi:=H.s1 j hj i hs
    simp only [Option.any_none,Option.any_some,Bool.false_and,Bool.false_or,Option.elim_none,Option.elim_some]
    rw [ih i hi (by omega) j c hi]
    unfold pcnt
    omega
  | some i=>
   have hi:=(H.b1 j hj i hb).1
   cases hs : snt j with
   | none=>
    simp only [Option.any_none,Option.any_some,Bool.false_and,Bool.or_false,Option.elim_none,Option.elim_some]
    rw [ih i hi (by omega) j c hi]
    unfold pcnt
    omega
   | some i'=>
    have hi' := H.s1 j hj i' hs
    simp only [Option.any_some,Option.elim_some]
    rw [past_max _ _ _ (H.nest (by omega) (by omega) c _),ih i hi (by omega) j c hi,ih i' hi' (by omega) j c hi']
    rfl
end
end Go.Proofs.YtifaebmmbpkclaaGreatDoor
namespace Go.Proofs.YtifaebmmbpkclaaGreatDoor
theorem foldGo_spec {S : Type} {body : Nat→S→Option S} (f : Nat→S) : ∀ (m k : Nat),(∀ j,k≤j→j < k + m→body j (f j) = some (f (j + 1)))→foldGo body m k (f k) = some (f (k + m))
 | 0,k,_=>rfl
 | m + 1,k,h=>by
  unfold foldGo
  rw [h k (Nat.le_refl _) (by omega),Option.bind_some,foldGo_spec f m (k + 1) (fun j h1 h2=>h j (by omega) (by omega)),show k + 1 + m = k + (m + 1) by omega]
theorem foldM_spec {S : Type} {mx n : Int} {body : Nat→S→Option S} {s0 : S} (N : Nat) (f : Nat→S) (h0 : f 0 = s0) (hn : n = (N : Int)) (hx : n≤mx) (h : ∀ j,j < N→body j (f j) = some (f (j + 1))) : foldM' mx n body s0 = some (f N):=by
 unfold foldM'
 rw [chk_pos hx,← h0,hn,Int.toNat_natCast,foldGo_spec f N 0 (fun j _ h2=>h j (by omega)),Nat.zero_add]
theorem forGo_next {S E : Type} {body : Nat→S→Option (Ctl S E)} (f : Nat→S) : ∀ (m k : Nat),(∀ j,k≤j→j < k + m→body j (f j) = some (.next (f (j + 1))))→forGo body m k (f k) = some (.next (f (k + m)))
 | 0,k,_=>rfl
 | m + 1,k,h=>by
  unfold forGo
  rw [h k (Nat.le_refl _) (by omega)]
  show forGo body m (k + 1) (f (k + 1)) = _
  rw [forGo_next f m (k + 1) (fun j h1 h2=>h j (by omega) (by omega)),show k + 1 + m = k + (m + 1) by omega]
theorem forM_next {S E : Type} {mx n : Int} {body : Nat→S→Option (Ctl S E)} {s0 : S} (N : Nat) (f : Nat→S) (h0 : f 0 = s0) (hn : n = (N : Int)) (hx : n≤mx) (h : ∀ j,j < N→body j (f j) = some (.next (f (j + 1)))) : forM' mx n body s0 = some (.next (f N)):=by
 unfold forM'
 rw [chk_pos hx,← h0,hn,Int.toNat_natCast,forGo_next f N 0 (fun j _ h2=>h j (by omega)),Nat.zero_add]
theorem forGo_done {S E : Type} {body : Nat→S→Option (Ctl S E)} (f : Nat→S) (e : E) : ∀ (i m k : Nat),i < m→(∀ j,k≤j→j < k + i→body j (f j) = some (.next (f (j + 1))))→body (k + i) (f (k + i)) = some (.done e)→forGo body m k (f k) = some (.done e)
 | i,0,k,hi,_,_=>by omega
 | 0,m + 1,k,_,_,he=>by
  unfold forGo
  rw [Nat.add_zero] at he
  rw [he]; rfl
 | i + 1,m + 1,k,hi,h,he=>by
  unfold forGo
  rw [h k (Nat.le_refl _) (by omega)]
  show forGo body m (k + 1) (f (k + 1)) = _
  exact forGo_done f e i m (k + 1) (by omega) (fun j h1 h2=>h j (by omega) (by omega)) (by rw [show k + 1 + i = k + (i + 1) by omega]; exact he)
theorem whileGo_spec {S E : Type} {step : S→Option (Ctl S E)} (f : Nat→S) (e : E) : ∀ (m k n : Nat),m < n→(∀ j,k≤j→j < k + m→step (f j) = some (.next (f (j + 1))))→step (f (k + m)) = some (.done e)→whileGo step n (f k) = some e
 | m,k,0,hn,_,_=>by omega
 | 0,k,n + 1,_,_,he=>by
  unfold whileGo
  rw [Nat.add_zero] at he
  rw [he]; rfl
 | m + 1,k,n + 1,hn,h,he=>by
  unfold whileGo
  rw [h k (Nat.le_refl _) (by omega)]
  show whileGo step n (f (k + 1)) = _
  exact whileGo_spec f e m (k + 1) n (by omega) (fun j h1 h2=>h j (by omega) (by omega)) (by rw [show k + 1 + m = k + (m + 1) by omega]; exact he)
theorem whileM_spec {S E : Type} {step : S→Option (Ctl S E)} {s0 : S} {e : E} (m : Nat) (f : Nat→S) (h0 : f 0 = s0) (hm : m < 1180591620717411303424) (h : ∀ j,j < m→step (f j) = some (.next (f (j + 1)))) (he : step (f m) = some (.done e)) : whileM step s0 = some e:=by
 unfold whileM
 rw [← h0]
 exact whileGo_spec f e m 0 _ hm (fun j _ h2=>h j (by omega)) (by rw [Nat.zero_add]; exact he)
theorem whileM_ind {S E : Type} {step : S→Option (Ctl S E)} {s0 : S} (I : S→Prop) (μ : S→Nat) (Q : E→Prop) (hI : I s0) (hb : μ s0 < 1180591620717411303424)
  (h : ∀ s,I s→(∃ s',step s = some (.next s')∧I s'∧μ s' < μ s)∨(∃ e,step s = some (.done e)∧Q e)) : ∃ e,whileM step s0 = some e∧Q e:=by
 unfold whileM
 have : ∀ n s,I s→μ s < n→∃ e,whileGo step n s = some e∧Q e:=by
  intro n
  induction n with
  | zero=>intro s _ h; omega
  | succ n ih=>
   intro s hs hm
   rcases h s hs with ⟨s',h1,h2,h3⟩ | ⟨e,h1,h2⟩
   ·obtain ⟨e,k1,k2⟩ := ih s' h2 (by omega)
    refine ⟨e,?_,k2⟩
    unfold whileGo
    rw [h1]; exact k1
   ·refine ⟨e,?_,h2⟩
    unfold whileGo
    rw [h1]; rfl
 exact this _ s0 hI hb
theorem forM_ind {S E : Type} {mx n : Int} {body : Nat→S→Option (Ctl S E)} {s0 : S} (I : Nat→S→Prop) (Q : Ctl S E→Prop) (hx : n≤mx) (hn : 0≤n) (hI : I 0 s0)
  (h : ∀ (k : Nat) s,(k : Int) < n→I k s→(∃ s',body k s = some (.next s')∧I (k + 1) s')∨(∃ e,body k s = some (.done e)∧Q (.done e))) (hq : ∀ s,I n.toNat s→Q (.next s)) : ∃ t,forM' mx n body s0 = some t∧Q t:=by
 unfold forM'
 rw [chk_pos hx]
 have : ∀ m k s,m + k = n.toNat→I k s→∃ t,forGo body m k s = some t∧Q t:=by
  intro m
  induction m with
  | zero=>intro k s hk hs; exact ⟨_,rfl,hq s (by rw [← hk,Nat.zero_add]; exact hs)⟩
  | succ m ih=>
   intro k s hk hs
   rcases h k s (by omega) hs with ⟨s',h1,h2⟩ | ⟨e,h1,h2⟩
   ·obtain ⟨t,k1,k2⟩ := ih (k + 1) s' (by omega) h2
    refine ⟨t,?_,k2⟩
    unfold forGo
    rw [h1]; exact k1
   ·refine ⟨_,?_,h2⟩
    unfold forGo
    rw [h1]; rfl
 exact this n.toNat 0 s0 (by omega) hI
theorem wrap_i64 {n : Int} (h1 : -9223372036854775808≤n) (h2 : n≤9223372036854775807) : IntKind.wrap .i64 n = n:=wrap_in (k:=.i64) ⟨h1,h2⟩
theorem wrap_u64 {n : Int} (h1 : 0≤n) (h2 : n≤18446744073709551615) : IntKind.wrap .u64 n = n:=wrap_in (k:=.u64) ⟨h1,h2⟩
theorem and_mask {x : Int} (m : Nat) (hm : m≤63) (h : 0≤x) (hx : x < 18446744073709551616) : bitI .and .u64 x (2 ^ m - 1) = x % 2 ^ m:=by
 obtain ⟨n,rfl⟩ := Int.eq_ofNat_of_zero_le h
 have hp : (2 : Nat) ^ m≤2 ^ 63:=Nat.pow_le_pow_right (by omega) hm
 have hpos : 0 < (2 : Nat) ^ m:=Nat.pow_pos (by omega)
 have e1 : ((2 : Int) ^ m - 1) = ((2 ^ m - 1 : Nat) : Int):=by
  rw [Int.natCast_sub (by omega),Int.natCast_pow]; rfl
 have hn : n < 18446744073709551616:=by omega
 have hand : n % 2 ^ m≤n:=Nat.mod_le _ _
 have e2 : ((n : Int) % 2 ^ m) = ((n % 2 ^ m : Nat) : Int):=by
  rw [Int.natCast_emod,Int.natCast_pow]; rfl
 rw [e1,e2]
 have t0 : bitI .and .u64 ((n : Nat) : Int) ((2 ^ m - 1 : Nat) : Int) = IntKind.wrap .u64 (((BitVec.ofInt 64 ((n : Nat) : Int) &&& BitVec.ofInt 64 ((2 ^ m - 1 : Nat) : Int)).toNat : Nat) : Int):=rfl
 rw [t0]
 have t1 : BitVec.ofInt 64 ((n : Nat) : Int) = BitVec.ofNat 64 n:=BitVec.ofInt_natCast 64 n
 have t2 : BitVec.ofInt 64 ((2 ^ m - 1 : Nat) : Int) = BitVec.ofNat 64 (2 ^ m - 1):=BitVec.ofInt_natCast 64 _
 rw [t1,t2,BitVec.toNat_and,BitVec.toNat_ofNat,BitVec.toNat_ofNat,Nat.mod_eq_of_lt (by omega),Nat.mod_eq_of_lt (by omega),Nat.and_two_pow_sub_one_eq_mod]
 exact wrap_u64 (by omega) (by omega)
theorem idx_some {α : Type} {xs : List α} {k : Nat} {x : α} (h : xs[k]? = some x) : idx xs (k : Int) = some x:=by rw [idx_nat]; exact h
theorem idx_lt_some {α : Type} {xs : List α} {i : Int} (h0 : 0≤i) (h1 : i < xs.length) : ∃ x,idx xs i = some x∧xs[i.toNat]? = some x:=by
 have hlt : i.toNat < xs.length:=by omega
 refine ⟨xs[i.toNat],?_,List.getElem?_eq_getElem hlt⟩
 rw [idx,if_pos h0,List.getElem?_eq_getElem hlt]
end Go.Proofs.YtifaebmmbpkclaaGreatDoor
set_option maxRecDepth 100000
namespace Go.Proofs.YtifaebmmbpkclaaGreatDoor
theorem foldC {S : Type} {mx n : Int} {body : Nat→S→Option S} {s0 : S} (N : Nat) (I : Nat→S→Prop) (hn : n = (N : Int)) (hx : n≤mx) (hI : I 0 s0)
  (h : ∀ (k : Nat) s,k < N→I k s→∃ s',body k s = some s'∧I (k + 1) s') : ∃ s,foldM' mx n body s0 = some s∧I N s:=by
 unfold foldM'
 rw [chk_pos hx,hn,Int.toNat_natCast]
 have : ∀ m k s,m + k = N→I k s→∃ t,foldGo body m k s = some t∧I N t:=by
  intro m
  induction m with
  | zero=>intro k s hk hs; rw [Nat.zero_add] at hk; subst hk; exact ⟨s,rfl,hs⟩
  | succ m ih=>
   intro k s hk hs
   obtain ⟨s',h1,h2⟩ := h k s (by omega) hs
   obtain ⟨t,k1,k2⟩ := ih (k + 1) s' (by omega) h2
   refine ⟨t,?_,k2⟩
   unfold foldGo
   rw [h1]; exact k1
 exact this N 0 s0 (by omega) hI
def lastI (q : AEv→Bool) (l : List AEv) : Nat→Option Nat
 | 0=>none
 | k + 1=>if (l[k]?).any q = true then some k else lastI q l k
theorem lastI_some {q : AEv→Bool} {l : List AEv} : ∀ {k i : Nat},lastI q l k = some i→i < k∧(∃ x,l[i]? = some x∧q x = true)∧∀ j,i < j→j < k→∀ x,l[j]? = some x→q x = false
 | 0,i,h=>by cases h
 | k + 1,i,h=>by
  unfold lastI at h
  split at h
  ·rename_i hq
   injection h with h; subst h
   refine ⟨by omega,?_,fun j h1 h2=>by omega⟩
   cases hl : l[k]? with
   | none=>rw [hl] at hq; cases hq
   | some x=>rw [hl] at hq; exact ⟨x,rfl,hq⟩
  ·rename_i hq
   obtain ⟨a1,a2,a3⟩ := lastI_some h
   refine ⟨by omega,a2,fun j h1 h2 x hx=>?_⟩
   by_cases e : j = k
   ·subst e
    rw [hx] at hq
    simpa using hq
   ·exact a3 j h1 (by omega) x hx
theorem lastI_none {q : AEv→Bool} {l : List AEv} : ∀ {k : Nat},lastI q l k = none→∀ j,j < k→∀ x,l[j]? = some x→q x = false
 | 0,_,j,hj,_,_=>by omega
 | k + 1,h,j,hj,x,hx=>by
  unfold lastI at h
  split at h
  ·cases h
  ·rename_i hq
   by_cases e : j = k
   ·subst e; rw [hx] at hq; simpa using hq
   ·exact lastI_none h j (by omega) x hx
theorem lastI_succ {q : AEv→Bool} {l : List AEv} {k : Nat} {x : AEv} (h : l[k]? = some x) : lastI q l (k + 1) = if q x = true then some k else lastI q l k:=by
 show (if (l[k]?).any q = true then some k else lastI q l k) = _
 rw [h]; rfl
def arrB (a s : AEv) : Bool:=((((s.gKind == 8) && ((a.gKind == 5) || ((a.gKind == 7) && (a.gD == 5)))) && (a.gComponent == s.gPeer)) && (a.gPeer == s.gComponent)) && (a.gN == s.gN)
def isArr (a : AEv) : Bool:=(a.gKind == 5) || ((a.gKind == 7) && (a.gD == 5))
abbrev Ck:=VClk
def zc : Ck := ⟨fun _=>0⟩
def mergeF (a b : Ck) : Ck := ⟨fun i=>if i < 16 then (if b.gat i > a.gat i then b.gat i else a.gat i) else a.gat i⟩
def tickF (a : Ck) (c : Int) : Ck := ⟨upd a.gat c.toNat (a.gat c.toNat + 1)⟩
theorem merge_eq (a b : Ck) : vclock_Merge a b = some (mergeF a b):=by
 unfold vclock_Merge
 have h:=foldM_spec (S:=Nat→Int) (mx:=9223372036854775807) (n:=16) (body:=fun k2 s=>vclock_Merge_L2 b k2 s) (s0:=a.gat) 16
  (fun k i=>if i < k then (if b.gat i > a.gat i then b.gat i else a.gat i) else a.gat i) (by funext i; simp) rfl (by decide) (fun j hj=>by
   unfold vclock_Merge_L2
   have hin : inA 16 (j : Int) := ⟨by omega,by omega⟩
   rw [chk_pos hin,chk_pos hin,chk_pos hin]
   congr 1
   funext i
   simp only [upd,Int.toNat_natCast]
   by_cases e : i = j
   ·subst e
    simp
   ·by_cases e2 : i < j
    ·simp [e,e2,show i < j + 1 by omega]
    ·simp [e,e2,show ¬ i < j + 1 by omega])
 rw [h]
 rfl
theorem tick_eq (a : Ck) (c : Int) (h0 : 0≤c) (h1 : c < 16) (h2 : 0≤a.gat c.toNat) (h3 : a.gat c.toNat < 18446744073709551615) : VClk_Tick a c = some (tickF a c):=by
 unfold VClk_Tick
 have hin : inA 16 c := ⟨h0,by omega⟩
 rw [chk_pos (fun _=>hin),if_pos (by simp [h0,h1,h3]),chk_pos hin,chk_pos hin,wrap_u64 (by omega) (by omega)]
 rfl
def ckAt (cs : List Ck) : Option Nat→Ck
 | none=>zc
 | some i=>cs.getD i zc
theorem ckAt_append {cs : List Ck} {c : Ck} {o : Option Nat} (h : ∀ i,o = some i→i < cs.length) : ckAt (cs++[c]) o = ckAt cs o:=by
 cases o with
 | none=>rfl
 | some i=>
  have:=h i rfl
  simp [ckAt,List.getD_eq_getElem?_getD,List.getElem?_append_left this]
def keyOf (e : AEv) : api_Message := ⟨e.gComponent,e.gPeer,e.gN⟩
def befI (l : List AEv) (j : Nat) : Option Nat:=match l[j]? with
 | none=>none
 | some e=>lastI (fun x=>x.gComponent == e.gComponent) l j
def sntI (l : List AEv) (j : Nat) : Option Nat:=match l[j]? with
 | none=>none
 | some e=>lastI (fun x=>arrB e x) l j
def nextC (l : List AEv) (cs : List Ck) (j : Nat) (e : AEv) : Ck:=tickF (mergeF (ckAt cs (befI l j)) (ckAt cs (sntI l j))) e.gComponent
theorem eqK (a b : api_Message) : eqDL a.cs b.cs = true↔a = b:=by
 cases a; cases b
 simp [api_Message.cs,eqDL,eqD]
theorem mfind_none {V : Type} {q : api_Message} : ∀ {xs : List (api_Message × V)} {i : Nat},mfind api_Message.cs q xs i = none→∀ p∈xs,p.1≠q
 | [],i,_,p,hp=>by cases hp
 | x :: xs,i,h,p,hp=>by
  unfold mfind at h
  split at h
  ·cases h
  ·rename_i hq
   cases hp with
   | head=>intro e; exact hq ((eqK _ _).2 e.symm)
   | tail _ hp=>exact mfind_none h p hp
theorem mfind_some {V : Type} {q : api_Message} : ∀ {xs : List (api_Message × V)} {i j : Nat} {v : V},mfind api_Message.cs q xs i = some (j,v)→i≤j∧xs[j - i]? = some (q,v)∧∀ m,m < j - i→∀ p,xs[m]? = some p→p.1≠q
 | [],i,j,v,h=>by cases h
 | x :: xs,i,j,v,h=>by
  unfold mfind at h
  split at h
  ·rename_i hq
   injection h with h; injection h with h1 h2
   subst h1; subst h2
   have:=(eqK _ _).1 hq
   refine ⟨Nat.le_refl _,?_,fun m hm=>by omega⟩
   simp [this]
  ·rename_i hq
   obtain ⟨a1,a2,a3⟩ := mfind_some h
   refine ⟨by omega,?_,fun m hm p hp=>?_⟩
   ·rw [show j - i = (j - (i + 1)) + 1 by omega,List.getElem?_cons_succ]; exact a2
   ·cases m with
    | zero=>
     simp at hp
     subst hp
     exact fun e=>hq ((eqK _ _).2 e.symm)
    | succ m=>exact a3 m (by omega) p (by simpa using hp)
theorem mfind_of {V : Type} {q : api_Message} {v : V} : ∀ {xs : List (api_Message × V)} {i m : Nat},xs[m]? = some (q,v)→(∀ k,k < m→∀ p,xs[k]? = some p→p.1≠q)→mfind api_Message.cs q xs i = some (i + m,v)
 | [],i,m,h,_=>by cases h
 | x :: xs,i,0,h,_=>by
  simp at h
  subst h
  unfold mfind
  rw [if_pos ((eqK _ _).2 rfl)]
  rfl
 | x :: xs,i,m + 1,h,hn=>by
  unfold mfind
  have h0:=hn 0 (by omega) x (by simp)
  rw [if_neg (fun e=>h0 ((eqK _ _).1 e).symm),mfind_of (m:=m) (by simpa using h) (fun k hk p hp=>hn (k + 1) (by omega) p (by simpa using hp))]
  congr 2
  omega
theorem mfind_no {V : Type} {q : api_Message} : ∀ {xs : List (api_Message × V)} {i : Nat},(∀ p∈xs,p.1≠q)→mfind api_Message.cs q xs i = none
 | [],i,_=>rfl
 | x :: xs,i,h=>by
  unfold mfind
  rw [if_neg (fun e=>h x (.head _) ((eqK _ _).1 e).symm)]
  exact mfind_no fun p hp=>h p (.tail _ hp)
theorem mget_mput {V : Type} (xs : List (api_Message × V)) (q r : api_Message) (v z : V) : mget api_Message.cs (mput api_Message.cs xs q v) r z = if eqDL q.cs r.cs = true then v else mget api_Message.cs xs r z:=by
 have K:=eqK q r
 unfold mput
 cases hf : mfind api_Message.cs q xs 0 with
 | none=>
  have hn:=mfind_none hf
  by_cases e : q = r
  ·rw [if_pos (K.2 e)]
   subst e
   have:=mfind_of (xs:=xs++[(q,v)]) (i:=0) (m:=xs.length) (q:=q) (v:=v) (by simp) (fun k hk p hp=>by
    rw [List.getElem?_append_left hk] at hp
    exact hn p (List.mem_of_getElem? hp))
   simp only [mget,this]
  ·rw [if_neg (fun h=>e (K.1 h))]
   unfold mget
   cases hg : mfind api_Message.cs r xs 0 with
   | none=>
    have:=mfind_none hg
    rw [mfind_no (fun p hp=>by
     rcases List.mem_append.1 hp with h | h
     ·exact this p h
     ·simp at h; subst h; exact e)]
   | some t=>
    obtain ⟨j,u⟩ := t
    obtain ⟨a1,a2,a3⟩ := mfind_some hg
    have hj : j - 0 < xs.length:=(List.getElem?_eq_some_iff.1 a2).1
    rw [mfind_of (m:=j) (v:=u) (by rw [List.getElem?_append_left (by omega)]; exact a2) (fun k hk p hp=>by
     rw [List.getElem?_append_left (by omega)] at hp
     exact a3 k (by omega) p hp)]
 | some t=>
  obtain ⟨i,u⟩ := t
  obtain ⟨a1,a2,a3⟩ := mfind_some hf
  have hi : i - 0 < xs.length:=(List.getElem?_eq_some_iff.1 a2).1
  simp only [Nat.sub_zero] at a2 a3 hi
  show mget api_Message.cs (xs.set i (q,v)) r z = _
  by_cases e : q = r
  ·rw [if_pos (K.2 e)]
   subst e
   unfold mget
   rw [mfind_of (m:=i) (v:=v) (by simp [hi]) (fun k hk p hp=>by
    rw [List.getElem?_set_ne (by omega)] at hp
    exact a3 k hk p hp)]
  ·rw [if_neg (fun h=>e (K.1 h))]
   unfold mget
   cases hg : mfind api_Message.cs r xs 0 with
   | none=>
    have:=mfind_none hg
    rw [mfind_no (fun p hp=>by
     rcases List.mem_or_eq_of_mem_set hp with h | h
     ·exact this p h
     ·subst h; exact e)]
   | some t=>
    obtain ⟨j,w⟩ := t
    obtain ⟨b1,b2,b3⟩ := mfind_some hg
    simp only [Nat.sub_zero] at b2 b3
    have hne : i≠j:=by
     intro h; subst h; rw [a2] at b2; injection b2 with b2; injection b2 with b2; exact e b2
    rw [mfind_of (m:=j) (v:=w) (by rw [List.getElem?_set_ne hne]; exact b2) (fun k hk p hp=>by
     by_cases hk2 : i = k
     ·subst hk2
      rw [List.getElem?_set_self hi] at hp
      injection hp with hp; subst hp; exact e
     ·rw [List.getElem?_set_ne hk2] at hp
      exact b3 k hk p hp)]
end Go.Proofs.YtifaebmmbpkclaaGreatDoor
namespace Go.Proofs.YtifaebmmbpkclaaGreatDoor
theorem lastI_congr {q r : AEv→Bool} {l : List AEv} (h : ∀ x,q x = r x) : ∀ k,lastI q l k = lastI r l k:=by
 have : q = r:=funext h
 intro k; rw [this]
theorem lastI_false {q : AEv→Bool} {l : List AEv} (h : ∀ x,q x = false) : ∀ k,lastI q l k = none
 | 0=>rfl
 | k + 1=>by
  unfold lastI
  rw [if_neg]
  ·exact lastI_false h k
  ·cases l[k]? <;> simp [h]
theorem arr0 : arr (0 : Int) [0,0,0,0,0,0,0,0,0,0,0,0,0,0,0,0] = fun _=>0:=by
 funext i
 unfold arr
 rw [List.getD_eq_getElem?_getD]
 cases h : ([0,0,0,0,0,0,0,0,0,0,0,0,0,0,0,0] : List Int)[i]? with
 | none=>rfl
 | some x=>
  have : ∀ y∈([0,0,0,0,0,0,0,0,0,0,0,0,0,0,0,0] : List Int),y = 0:=by decide
  exact this x (List.mem_of_getElem? h)
def keyB (q : api_Message) (x : AEv) : Bool:=(x.gKind == 8) && eqDL (keyOf x).cs q.cs
def compB (c : Nat) (x : AEv) : Bool:=x.gComponent == (c : Int)
structure RInv (l : List AEv) (k : Nat) (s : List (api_Message × Ck) × List Ck × (Nat→Ck)) : Prop where
 len : s.2.1.length = k
 last : ∀ c,c < 9→s.2.2 c = ckAt s.2.1 (lastI (compB c) l k)
 sent : ∀ q,mget api_Message.cs s.1 q zc = ckAt s.2.1 (lastI (keyB q) l k)
 at' : ∀ j e,j < k→l[j]? = some e→s.2.1[j]? = some (nextC l s.2.1 j e)
 bnd : ∀ c∈s.2.1,∀ i,0≤c.gat i∧c.gat i≤k
theorem ckAt_bnd {cs : List Ck} {k : Nat} (h : ∀ c∈cs,∀ i,0≤c.gat i∧c.gat i≤(k : Int)) (o : Option Nat) (i : Nat) : 0≤(ckAt cs o).gat i∧(ckAt cs o).gat i≤(k : Int):=by
 cases o with
 | none=>simp [ckAt,zc]
 | some j=>
  show 0≤(cs.getD j zc).gat i∧(cs.getD j zc).gat i≤(k : Int)
  rw [List.getD_eq_getElem?_getD]
  cases hj : cs[j]? with
  | none=>simp [zc]
  | some c=>exact h c (List.mem_of_getElem? hj) i
theorem merge_zc {a : Ck} (h : ∀ i,0≤a.gat i) : mergeF a zc = a:=by
 cases a with
 | mk g=>
  unfold mergeF zc
  congr 1
  funext i
  have:=h i
  simp only at this ⊢
  split
  ·rw [if_neg (by omega)]
  ·rfl
theorem snt_arr {l : List AEv} {k : Nat} {e : AEv} (h : l[k]? = some e) (ha : isArr e = true) : sntI l k = lastI (keyB ⟨e.gPeer,e.gComponent,e.gN⟩) l k:=by
 unfold sntI
 rw [h]
 refine lastI_congr (fun x=>?_) k
 unfold arrB keyB keyOf isArr at *
 simp only [ha,Bool.and_true,api_Message.cs,eqDL,eqD]
 cases h1 : x.gKind == 8 <;> simp
 rw [Bool.eq_iff_iff]
 simp only [Bool.and_eq_true,beq_iff_eq]
 constructor
 ·rintro ⟨⟨a1,a2⟩,a3⟩; exact ⟨a2.symm,a1.symm,a3.symm⟩
 ·rintro ⟨a1,a2,a3⟩; exact ⟨⟨a2.symm,a1.symm⟩,a3.symm⟩
theorem snt_no {l : List AEv} {k : Nat} {e : AEv} (h : l[k]? = some e) (ha : isArr e = false) : sntI l k = none:=by
 unfold sntI
 rw [h]
 refine lastI_false (fun x=>?_) k
 unfold arrB isArr at *
 simp [ha]
theorem bef_eq {l : List AEv} {k : Nat} {e : AEv} (h : l[k]? = some e) (h0 : 0≤e.gComponent) : befI l k = lastI (compB e.gComponent.toNat) l k:=by
 unfold befI
 rw [h]
 refine lastI_congr (fun x=>?_) k
 unfold compB
 rw [Int.toNat_of_nonneg h0]
theorem nextC_append {l : List AEv} {cs : List Ck} {c : Ck} {j : Nat} {e : AEv} (hj : j≤cs.length) : nextC l (cs++[c]) j e = nextC l cs j e:=by
 unfold nextC
 rw [ckAt_append,ckAt_append]
 ·intro i hi
  unfold sntI at hi
  split at hi
  ·cases hi
  ·have:=(lastI_some hi).1; omega
 ·intro i hi
  unfold befI at hi
  split at hi
  ·cases hi
  ·have:=(lastI_some hi).1; omega
theorem L3_step {l : List AEv} (hl : l.length≤1000) {k : Nat} {e : AEv} (he : l[k]? = some e) (h0 : 0≤e.gComponent) (h8 : e.gComponent≤8) {s : List (api_Message × Ck) × List Ck × (Nat→Ck)} (I : RInv l k s) :
  ∃ s',recorder_Clocks_L3 l k s.1 s.2.1 s.2.2 = some s'∧RInv l (k + 1) s' := by
 obtain ⟨M,cs,last⟩ := s
 obtain ⟨i1,i2,i3,i4,i5⟩ := I
 simp only at i1 i2 i3 i4 i5
 have hk : k < l.length:=(List.getElem?_eq_some_iff.1 he).1
 have hin : inA 9 e.gComponent := ⟨h0,by omega⟩
 have hlast : last e.gComponent.toNat = ckAt cs (befI l k):=by rw [i2 _ (by omega),bef_eq he h0]
 have hb:=ckAt_bnd i5
 have hm : ∀ i,0≤(mergeF (ckAt cs (befI l k)) (ckAt cs (sntI l k))).gat i∧(mergeF (ckAt cs (befI l k)) (ckAt cs (sntI l k))).gat i≤k:=by
  intro i
  have a1:=hb (befI l k) i
  have a2:=hb (sntI l k) i
  unfold mergeF
  simp only
  split
  ·split
   ·exact a2
   ·exact a1
  ·exact a1
 have key : recorder_Clocks_L3 l k M cs last = recorder_Clocks_K4 M cs last e (mergeF (ckAt cs (befI l k)) (ckAt cs (sntI l k))).gat:=by
  unfold recorder_Clocks_L3
  simp only [idx_nat,he,Option.bind_some]
  rw [chk_pos hin]
  by_cases ha : isArr e = true
  ·have ha' := ha
   unfold isArr at ha'
   rw [if_pos ha']
   rw [hlast,merge_eq,Option.bind_some]
   have : mget api_Message.cs M (api_Message.mk e.gPeer e.gComponent e.gN) (VClk.mk (arr 0 [])) = ckAt cs (sntI l k):=by
    rw [snt_arr he ha]
    exact i3 _
   rw [this]
  ·have ha1 : isArr e = false:=by simpa using ha
   have ha' := ha1
   unfold isArr at ha'
   rw [if_neg (by rw [ha']; simp),hlast,snt_no he ha1]
   show recorder_Clocks_K4 M cs last e (ckAt cs (befI l k)).gat = recorder_Clocks_K4 M cs last e (mergeF (ckAt cs (befI l k)) zc).gat
   rw [merge_zc (fun i=>(hb _ i).1)]
 have hK5 : ∀ M',recorder_Clocks_K5 cs last e (nextC l cs k e) M' = some (M',cs++[nextC l cs k e],upd last e.gComponent.toNat (nextC l cs k e)):=by
  intro M'
  unfold recorder_Clocks_K5
  rw [chk_pos hin,chk_pos (by constructor <;> simp [i1] <;> omega)]
 have hK4 : recorder_Clocks_K4 M cs last e (mergeF (ckAt cs (befI l k)) (ckAt cs (sntI l k))).gat = some (if (e.gKind == 8) = true then mput api_Message.cs M (keyOf e) (nextC l cs k e) else M,cs++[nextC l cs k e],upd last e.gComponent.toNat (nextC l cs k e)):=by
  unfold recorder_Clocks_K4
  have ht:=tick_eq (mergeF (ckAt cs (befI l k)) (ckAt cs (sntI l k))) e.gComponent h0 (by omega) (hm _).1 (by have:=(hm e.gComponent.toNat).2; omega)
  rw [show VClk.mk (mergeF (ckAt cs (befI l k)) (ckAt cs (sntI l k))).gat = mergeF (ckAt cs (befI l k)) (ckAt cs (sntI l k)) from rfl,ht,Option.bind_some]
  have : tickF (mergeF (ckAt cs (befI l k)) (ckAt cs (sntI l k))) e.gComponent = nextC l cs k e:=rfl
  rw [this,hK5,hK5]
  split <;> rfl
 rw [key,hK4]
 refine ⟨_,rfl,?_⟩
 have hnew : ckAt (cs++[nextC l cs k e]) (some k) = nextC l cs k e:=by
  subst i1
  simp [ckAt,List.getD_eq_getElem?_getD]
 have hold : ∀ q,ckAt (cs++[nextC l cs k e]) (lastI q l k) = ckAt cs (lastI q l k):=fun q=>ckAt_append fun i hi=>by have:=(lastI_some hi).1; omega
 refine ⟨by simp [i1],fun c hc=>?_,fun q=>?_,fun j e' hj he'=>?_,fun c hc i=>?_⟩
 ·simp only [lastI_succ he,upd]
  by_cases hce : c = e.gComponent.toNat
  ·rw [if_pos hce,if_pos (by unfold compB; rw [hce,Int.toNat_of_nonneg h0]; simp),hnew]
  ·rw [if_neg hce,if_neg (by unfold compB; simp; omega),hold,i2 c hc]
 ·simp only [lastI_succ he]
  by_cases h8' : (e.gKind == 8) = true
  ·rw [if_pos h8',mget_mput]
   by_cases hq : eqDL (keyOf e).cs q.cs = true
   ·rw [if_pos hq,if_pos (by unfold keyB; rw [h8',hq]; rfl),hnew]
   ·rw [if_neg hq,if_neg (by unfold keyB; simp [hq]),hold,i3]
  ·rw [if_neg h8',if_neg (by unfold keyB; simp at h8'; simp [h8']),hold,i3]
 ·rw [nextC_append (by omega)]
  by_cases hjk : j = k
  ·subst hjk
   rw [he] at he'; injection he' with he'; subst he'
   rw [← i1]; simp
  ·rw [List.getElem?_append_left (by omega)]
   exact i4 j e' (by omega) he'
 ·rcases List.mem_append.1 hc with h | h
  ·have:=i5 c h i; exact ⟨this.1,by omega⟩
  ·simp at h
   subst h
   show 0≤(if i = e.gComponent.toNat then _ else _)∧(if i = e.gComponent.toNat then _ else _)≤((k + 1 : Nat) : Int)
   have a1:=hm i
   have a2:=hm e.gComponent.toNat
   split
   ·exact ⟨by omega,by omega⟩
   ·exact ⟨a1.1,by omega⟩
theorem clocks_ok {l : List AEv} {n : Int} (hl : l.length≤1000) (h1 : 1≤n) (h2 : n≤8) (hc : ∀ e∈l,0≤e.gComponent∧e.gComponent≤n) :
  ∃ cs,recorder_Clocks l n = some (cs,0)∧cs.length = l.length∧(∀ j e,l[j]? = some e→cs[j]? = some (nextC l cs j e))∧∀ c∈cs,∀ i,0≤c.gat i∧c.gat i≤l.length:=by
 unfold recorder_Clocks
 rw [if_neg (by simp; omega)]
 rw [forM_next (S:=Unit) l.length (fun _=>()) rfl rfl (by omega) (fun j hj=>by
  unfold recorder_Clocks_L6
  obtain ⟨x,hx⟩ : ∃ x,l[j]? = some x := ⟨l[j],List.getElem?_eq_getElem hj⟩
  have:=hc x (List.mem_of_getElem? hx)
  simp only [idx_nat,hx,Option.bind_some]
  rw [if_neg (by simp; omega)])]
 simp only [Option.bind_some]
 unfold recorder_Clocks_K1
 rw [chk_pos (by refine ⟨?_,?_,?_,?_⟩ <;> omega)]
 obtain ⟨s,e1,I⟩ := foldC (S:=List (api_Message × Ck) × List Ck × (Nat→Ck)) (mx:=9223372036854775807) (n:=(l.length : Int)) (body:=fun k4 s=>recorder_Clocks_L3 l k4 s.1 s.2.1 s.2.2) (s0:=(([] : List (api_Message × VClk)),([] : List VClk),(arr (VClk.mk (arr 0 [])) [(VClk.mk (arr 0 [0,0,0,0,0,0,0,0,0,0,0,0,0,0,0,0])),(VClk.mk (arr 0 [0,0,0,0,0,0,0,0,0,0,0,0,0,0,0,0])),(VClk.mk (arr 0 [0,0,0,0,0,0,0,0,0,0,0,0,0,0,0,0])),(VClk.mk (arr 0 [0,0,0,0,0,0,0,0,0,0,0,0,0,0,0,0])),(VClk.mk (arr 0 [0,0,0,0,0,0,0,0,0,0,0,0,0,0,0,0])),(VClk.mk (arr 0 [0,0,0,0,0,0,0,0,0,0,0,0,0,0,0,0])),(VClk.mk (arr 0 [0,0,0,0,0,0,0,0,0,0,0,0,0,0,0,0])),(VClk.mk (arr 0 [0,0,0,0,0,0,0,0,0,0,0,0,0,0,0,0])),(VClk.mk (arr 0 [0,0,0,0,0,0,0,0,0,0,0,0,0,0,0,0]))]))) l.length (RInv l) rfl (by omega) ⟨rfl,fun c hc=>by
   rw [arr0]
   have : c = 0∨c = 1∨c = 2∨c = 3∨c = 4∨c = 5∨c = 6∨c = 7∨c = 8:=by omega
   rcases this with rfl | rfl | rfl | rfl | rfl | rfl | rfl | rfl | rfl <;> rfl,fun q=>rfl,fun j e hj=>absurd hj (Nat.not_lt_zero _),fun c hc=>absurd hc (by simp)⟩ (fun k s hk I=>by
   have hx : l[k]? = some l[k]:=List.getElem?_eq_getElem hk
   have:=hc l[k] (List.getElem_mem hk)
   exact L3_step hl hx this.1 (by omega) I)
 rw [e1]
 exact ⟨s.2.1,rfl,I.len,fun j e he=>I.at' j e (List.getElem?_eq_some_iff.1 he).1 he,I.bnd⟩
theorem clocks_bad {l : List AEv} {n : Int} (hl : l.length≤1000) (h : n < 1∨8 < n∨∃ e∈l,e.gComponent < 0∨n < e.gComponent) :
  recorder_Clocks l n = some ([],1)∧rootcauseref28_Check l n = some 1:=by
 unfold recorder_Clocks rootcauseref28_Check
 by_cases hn : n < 1∨8 < n
 ·rw [if_pos (by simpa using hn),if_pos (by simpa using hn)]
  exact ⟨rfl,rfl⟩
 ·rw [if_neg (by simpa using hn),if_neg (by simpa using hn)]
  have hbad : ∃ e∈l,e.gComponent < 0∨n < e.gComponent:=by
   rcases h with h | h | h
   ·exact absurd (.inl h) hn
   ·exact absurd (.inr h) hn
   ·exact h
  constructor
  ·obtain ⟨t,e1,e2⟩ := forM_ind (S:=Unit) (E:=List VClk × Int) (mx:=9223372036854775807) (n:=(l.length : Int)) (body:=fun k26 s=>recorder_Clocks_L6 l n k26) (s0:=()) (fun k _=>∀ j,j < k→∀ e,l[j]? = some e→¬ (e.gComponent < 0∨n < e.gComponent)) (fun t=>t = .done ([],1)) (by omega) (by omega) (fun j hj=>absurd hj (Nat.not_lt_zero _))
    (fun k s hk I=>by
     have hk' : k < l.length:=by omega
     have hx : l[k]? = some l[k]:=List.getElem?_eq_getElem hk'
     unfold recorder_Clocks_L6
     simp only [idx_nat,hx,Option.bind_some]
     by_cases hb : (l[k]).gComponent < 0∨n < (l[k]).gComponent
     ·rw [if_pos (by simpa using hb)]
      exact .inr ⟨_,rfl,rfl⟩
     ·rw [if_neg (by simpa using hb)]
      refine .inl ⟨(),rfl,fun j hj e he=>?_⟩
      by_cases e2 : j = k
      ·subst e2; rw [hx] at he; injection he with he; subst he; exact hb
      ·exact I j (by omega) e he)
    (fun s I=>by
     obtain ⟨e,he,hb⟩ := hbad
     obtain ⟨j,hj,rfl⟩ := List.mem_iff_getElem.1 he
     exact absurd hb (I j (by omega) _ (List.getElem?_eq_getElem hj)))
   rw [e1,e2]
   rfl
  ·obtain ⟨t,e1,e2⟩ := forM_ind (S:=Unit) (E:=Int) (mx:=9223372036854775807) (n:=(l.length : Int)) (body:=fun k2 s=>rootcauseref28_Check_L2 l n k2) (s0:=()) (fun k _=>∀ j,j < k→∀ e,l[j]? = some e→¬ (e.gComponent < 0∨n < e.gComponent)) (fun t=>t = .done 1) (by omega) (by omega) (fun j hj=>absurd hj (Nat.not_lt_zero _))
    (fun k s hk I=>by
     have hk' : k < l.length:=by omega
     have hx : l[k]? = some l[k]:=List.getElem?_eq_getElem hk'
     unfold rootcauseref28_Check_L2
     simp only [idx_nat,hx,Option.bind_some]
     by_cases hb : (l[k]).gComponent < 0∨n < (l[k]).gComponent
     ·rw [if_pos (by simpa using hb)]
      exact .inr ⟨_,rfl,rfl⟩
     ·rw [if_neg (by simpa using hb)]
      refine .inl ⟨(),rfl,fun j hj e he=>?_⟩
      by_cases e2 : j = k
      ·subst e2; rw [hx] at he; injection he with he; subst he; exact hb
      ·exact I j (by omega) e he)
    (fun s I=>by
     obtain ⟨e,he,hb⟩ := hbad
     obtain ⟨j,hj,rfl⟩ := List.mem_iff_getElem.1 he
     exact absurd hb (I j (by omega) _ (List.getElem?_eq_getElem hj)))
   rw [e1,e2]
   rfl
theorem check_ok {l : List AEv} {n : Int} (hl : l.length≤1000) (h1 : 1≤n) (h2 : n≤8) (hc : ∀ e∈l,0≤e.gComponent∧e.gComponent≤n) : rootcauseref28_Check l n = some 0:=by
 unfold rootcauseref28_Check
 rw [if_neg (by simp; omega)]
 rw [forM_next (S:=Unit) l.length (fun _=>()) rfl rfl (by omega) (fun j hj=>by
  unfold rootcauseref28_Check_L2
  obtain ⟨x,hx⟩ : ∃ x,l[j]? = some x := ⟨l[j],List.getElem?_eq_getElem hj⟩
  have:=hc x (List.mem_of_getElem? hx)
  simp only [idx_nat,hx,Option.bind_some]
  rw [if_neg (by simp; omega)])]
 rfl
end Go.Proofs.YtifaebmmbpkclaaGreatDoor
namespace Go.Proofs.YtifaebmmbpkclaaGreatDoor
def toI : Option Nat→Int
 | none=>-1
 | some i=>(i : Int)
def rowF (n : Nat) (f : Nat→Bool) : List Bool:=(List.range n).map f
theorem rowF_len (n : Nat) (f : Nat→Bool) : (rowF n f).length = n:=by simp [rowF]
theorem rowF_get {n : Nat} {f : Nat→Bool} {i : Nat} (h : i < n) : (rowF n f)[i]? = some (f i):=by simp [rowF,h]
theorem rowF_getD (n : Nat) (f : Nat→Bool) (i : Nat) : (rowF n f).getD i false = (decide (i < n) && f i):=by
 rw [List.getD_eq_getElem?_getD]
 by_cases h : i < n
 ·rw [rowF_get h]; simp [h]
 ·rw [List.getElem?_eq_none (by rw [rowF_len]; omega)]; simp [h]
theorem rowF_congr {n : Nat} {f g : Nat→Bool} (h : ∀ i,i < n→f i = g i) : rowF n f = rowF n g:=by
 unfold rowF
 exact List.map_congr_left fun i hi=>h i (List.mem_range.1 hi)
theorem rowF_set {n : Nat} {f : Nat→Bool} {i : Nat} {b : Bool} : (rowF n f).set i b = rowF n (fun x=>if x = i then b else f x):=by
 apply List.ext_getElem?
 intro j
 by_cases hj : j < n
 ·rw [rowF_get hj]
  by_cases e : j = i
  ·subst e
   rw [List.getElem?_set_self (by rw [rowF_len]; exact hj)]; simp
  ·rw [List.getElem?_set_ne (by omega),rowF_get hj]; simp [e]
 ·rw [List.getElem?_eq_none (by rw [List.length_set,rowF_len]; omega),List.getElem?_eq_none (by rw [rowF_len]; omega)]
theorem rowF_false (n : Nat) : List.replicate n false = rowF n (fun _=>false):=by
 apply List.ext_getElem?
 intro j
 by_cases hj : j < n
 ·rw [rowF_get hj]; simp [hj]
 ·rw [List.getElem?_eq_none (by simp; omega),List.getElem?_eq_none (by rw [rowF_len]; omega)]
def cell (out : List (List Bool)) (b i : Nat) : Bool:=(out.getD b []).getD i false
theorem pass {l : List AEv} (hl : l.length≤1000) {k : Nat} (hk : k < l.length) {out : List (List Bool)} (hout : ∀ r∈out,r.length = l.length) (ho : out.length = k) (a13 a14 : Int) (k17 : Nat) (o : Option Nat) (hv : ([a13,a14] : List Int)[k17]? = some (toI o)) (hol : ∀ b,o = some b→b < k) (f : Nat→Bool) :
  rootcauseref28_Past_L6 k out a13 a14 k17 (rowF l.length f) = some (rowF l.length (fun i=>f i || (decide (i < k) && o.any (fun b=>cell out b i)))):=by
 unfold rootcauseref28_Past_L6
 rw [idx_nat,hv,Option.bind_some]
 cases o with
 | none=>
  rw [whileM_spec (S:=List Bool × Int) (E:=List Bool) (e:=rowF l.length f) 0 (fun _=>(rowF l.length f,0)) rfl (by decide) (fun j hj=>absurd hj (Nat.not_lt_zero _)) (by
   unfold rootcauseref28_Past_L8
   rw [if_neg (by simp [toI])])]
  simp only [Option.bind_some,Option.any_none,Bool.and_false,Bool.or_false]
  rfl
 | some b=>
  have hb:=hol b rfl
  obtain ⟨row,hrow⟩ : ∃ row,out[b]? = some row := ⟨out[b]'(by omega),List.getElem?_eq_getElem (by omega)⟩
  have hrl:=hout row (List.mem_of_getElem? hrow)
  have hcell : ∀ i,i < l.length→row[i]? = some (cell out b i):=by
   intro i hi
   unfold cell
   rw [List.getD_eq_getElem?_getD (l:=out),hrow]
   simp only [Option.getD_some]
   rw [List.getD_eq_getElem?_getD]
   have : i < row.length:=by omega
   rw [List.getElem?_eq_getElem this]; rfl
  rw [whileM_spec (S:=List Bool × Int) (E:=List Bool) (e:=rowF l.length (fun i=>f i || (decide (i < k) && cell out b i))) k (fun i=>(rowF l.length (fun x=>f x || (decide (x < i) && cell out b x)),(i : Int))) (by simp) (by omega) (fun i hi=>by
   unfold rootcauseref28_Past_L8
   have hi' : i < l.length:=by omega
   rw [if_pos (by simp [toI]; omega)]
   simp only [idx_nat,rowF_get hi',Option.bind_some]
   have e0 : (f i || (decide (i < i) && cell out b i)) = f i:=by simp
   rw [e0]
   have hz : (gb (!f i) [] (idx out (toI (some b)))).bind (fun v33=>(gb (!f i) false (idx v33 (i : Int))).bind fun v35=>(some (f i)).bind fun v37=>some (Ctl.next (E:=List Bool) (List.set (rowF l.length (fun x=>f x || (decide (x < i) && cell out b x))) (Int.toNat (i : Int)) (f i || v35),IntKind.wrap .i64 ((i : Int) + 1)))) = some (Ctl.next (rowF l.length (fun x=>f x || (decide (x < i + 1) && cell out b x)),((i + 1 : Nat) : Int))):=by
    have hfin : ∀ v35,(f i || v35) = (f i || cell out b i)→List.set (rowF l.length (fun x=>f x || (decide (x < i) && cell out b x))) (Int.toNat (i : Int)) (f i || v35) = rowF l.length (fun x=>f x || (decide (x < i + 1) && cell out b x)):=by
     intro v35 hv
     rw [hv,Int.toNat_natCast,rowF_set]
     refine rowF_congr fun x hx=>?_
     by_cases e : x = i
     ·subst e; simp
     ·by_cases e2 : x < i
      ·simp [e,e2,show x < i + 1 by omega]
      ·simp [e,e2,show ¬ x < i + 1 by omega]
    have hw : IntKind.wrap .i64 ((i : Int) + 1) = ((i + 1 : Nat) : Int):=by rw [wrap_i64 (by omega) (by omega)]; rfl
    cases hf : f i with
    | true=>
     rw [hf] at hfin
     have:=hfin false (by simp)
     simp only [gb,Bool.not_true,Bool.false_eq_true,if_false,Option.bind_some]
     rw [hw,this]
    | false=>
     rw [hf] at hfin
     have:=hfin (cell out b i) rfl
     simp only [gb,Bool.not_false,if_true]
     rw [show idx out (toI (some b)) = some row by rw [show toI (some b) = (b : Int) from rfl,idx_nat,hrow],Option.bind_some,idx_nat,hcell i hi',Option.bind_some,Option.bind_some,hw,this]
   exact hz) (by
   unfold rootcauseref28_Past_L8
   rw [if_neg (by simp)])]
  simp only [Option.bind_some,Option.any_some]
  rfl
structure PInv (l : List AEv) (k : Nat) (out : List (List Bool)) : Prop where
 len : out.length = k
 rows : ∀ r∈out,r.length = l.length
 at' : ∀ j,j < k→∀ i,cell out j i = (decide (i = j) || (decide (i < j) && ((befI l j).any (fun b=>cell out b i) || (sntI l j).any (fun b=>cell out b i))))
theorem befI_lt {l : List AEv} {j i : Nat} (h : befI l j = some i) : i < j:=by
 unfold befI at h
 split at h
 ·cases h
 ·exact (lastI_some h).1
theorem sntI_lt {l : List AEv} {j i : Nat} (h : sntI l j = some i) : i < j:=by
 unfold sntI at h
 split at h
 ·cases h
 ·exact (lastI_some h).1
theorem any_congr_opt {o : Option Nat} {f g : Nat→Bool} (h : ∀ b,o = some b→f b = g b) : o.any f = o.any g:=by
 cases o with
 | none=>rfl
 | some b=>exact h b rfl
theorem past_step {l : List AEv} (hl : l.length≤1000) {k : Nat} (hk : k < l.length) {out : List (List Bool)} (I : PInv l k out) :
  ∃ out',rootcauseref28_Past_L2 l k out = some out'∧PInv l (k + 1) out' := by
 have hx : l[k]? = some l[k]:=List.getElem?_eq_getElem hk
 generalize l[k] = e at hx
 unfold rootcauseref28_Past_L2
 rw [idx_nat,hx,Option.bind_some,chk_pos (by refine ⟨?_,?_,?_,?_⟩ <;> omega),Int.toNat_natCast,rowF_false,idx_nat,rowF_get hk,Option.bind_some]
 have hbef : befI l k = lastI (fun x=>x.gComponent == e.gComponent) l k:=by unfold befI; rw [hx]
 have hsnt : sntI l k = lastI (fun x=>arrB e x) l k:=by unfold sntI; rw [hx]
 rw [whileM_spec (S:=Int × Int × Int) (E:=Int × Int) (s0:=((-1),(-1),0)) (e:=(toI (befI l k),toI (sntI l k))) k (fun i=>(toI (lastI (fun x=>x.gComponent == e.gComponent) l i),toI (lastI (fun x=>arrB e x) l i),(i : Int))) rfl (by omega) (fun i hi=>by
  have hi' : i < l.length:=by omega
  have hy : l[i]? = some l[i]:=List.getElem?_eq_getElem hi'
  generalize l[i] = y at hy
  unfold rootcauseref28_Past_L9
  rw [if_pos (by simp; omega)]
  simp only [idx_nat,hy,Option.bind_some]
  have hw : IntKind.wrap .i64 ((i : Int) + 1) = ((i + 1 : Nat) : Int):=by rw [wrap_i64 (by omega) (by omega)]; rfl
  have hK : ∀ a44,rootcauseref28_Past_K10 l e (toI (lastI (fun x=>arrB e x) l i)) (i : Int) a44 = some (.next (a44,toI (lastI (fun x=>arrB e x) l (i + 1)),((i + 1 : Nat) : Int))):=by
   intro a44
   unfold rootcauseref28_Past_K10
   rw [idx_nat,hy,Option.bind_some]
   have : rootcauseref18_Arrival e y = some (arrB e y):=rfl
   rw [this,Option.bind_some,hw,lastI_succ hy]
   split <;> rfl
  rw [hK,hK,lastI_succ (q:=fun x=>x.gComponent == e.gComponent) hy]
  split <;> rfl) (by
  unfold rootcauseref28_Past_L9
  rw [if_neg (by simp),hbef,hsnt])]
 rw [Option.bind_some]
 simp only
 unfold rootcauseref28_Past_K4
 rw [Int.toNat_natCast,Int.toNat_natCast,rowF_false,rowF_set]
 have h0 : rowF l.length (fun x=>if x = k then true else false) = rowF l.length (fun x=>decide (x = k)):=rowF_congr fun i _=>by by_cases h : i = k <;> simp [h]
 rw [h0]
 let f0 : Nat→Bool:=fun x=>decide (x = k)
 let f1 : Nat→Bool:=fun i=>f0 i || (decide (i < k) && (befI l k).any (fun b=>cell out b i))
 let f2 : Nat→Bool:=fun i=>f1 i || (decide (i < k) && (sntI l k).any (fun b=>cell out b i))
 have hf:=foldM_spec (S:=List Bool) (mx:=9223372036854775807) (n:=(([toI (befI l k),toI (sntI l k)] : List Int).length : Int)) (body:=fun k17 s=>rootcauseref28_Past_L6 k out (toI (befI l k)) (toI (sntI l k)) k17 s) (s0:=rowF l.length (fun x=>decide (x = k))) 2
  (fun i=>match i with | 0=>rowF l.length f0 | 1=>rowF l.length f1 | _=>rowF l.length f2) rfl rfl (by simp) (fun j hj=>by
   have : j = 0∨j = 1:=by omega
   rcases this with rfl | rfl
   ·exact pass hl hk I.rows I.len _ _ 0 (befI l k) rfl (fun b hb=>befI_lt hb) f0
   ·exact pass hl hk I.rows I.len _ _ 1 (sntI l k) rfl (fun b hb=>sntI_lt hb) f1)
 replace hf : _ = some (rowF l.length f2):=hf
 rw [hf,Option.bind_some]
 unfold rootcauseref28_Past_K5
 have hlen:=I.len
 rw [chk_pos (by constructor <;> simp [hlen] <;> omega)]
 refine ⟨_,rfl,by simp [hlen],fun r hr=>?_,fun j hj i=>?_⟩
 ·rcases List.mem_append.1 hr with h | h
  ·exact I.rows r h
  ·simp at h; subst h; exact rowF_len _ _
 ·have hold : ∀ b,b < k→∀ i,cell (out++[rowF l.length f2]) b i = cell out b i:=by
   intro b hb i
   unfold cell
   rw [List.getD_eq_getElem?_getD (l:=out++_),List.getElem?_append_left (by omega),← List.getD_eq_getElem?_getD]
  have hany : ∀ m,m≤k→((befI l m).any (fun b=>cell (out++[rowF l.length f2]) b i) || (sntI l m).any (fun b=>cell (out++[rowF l.length f2]) b i)) = ((befI l m).any (fun b=>cell out b i) || (sntI l m).any (fun b=>cell out b i)):=by
   intro m hm
   rw [any_congr_opt (fun b hb=>hold b (by have:=befI_lt hb; omega) i),any_congr_opt (o:=sntI l m) (fun b hb=>hold b (by have:=sntI_lt hb; omega) i)]
  rw [hany j (by omega)]
  by_cases e2 : j = k
  ·subst e2
   have : cell (out++[rowF l.length f2]) j i = (decide (i < l.length) && f2 i):=by
    unfold cell
    rw [List.getD_eq_getElem?_getD (l:=out++_),List.getElem?_append_right (by omega)]
    simp only [hlen,Nat.sub_self,List.getElem?_cons_zero,Option.getD_some]
    exact rowF_getD _ _ _
   rw [this]
   show (decide (i < l.length) && ((decide (i = j) || (decide (i < j) && (befI l j).any (fun b=>cell out b i))) || (decide (i < j) && (sntI l j).any (fun b=>cell out b i)))) = _
   by_cases h1 : i < l.length
   ·simp only [h1,decide_true,Bool.true_and]
    cases decide (i = j) <;> cases decide (i < j) <;> simp
   ·have h2 : ¬ i = j:=by omega
    have h3 : ¬ i < j:=by omega
    simp [h1,h2,h3]
  ·rw [hold j (by omega),I.at' j (by omega)]
theorem past_ok {l : List AEv} (hl : l.length≤1000) : ∃ out,rootcauseref28_Past l = some out∧PInv l l.length out:=by
 unfold rootcauseref28_Past
 obtain ⟨s,e1,I⟩ := foldC (S:=List (List Bool)) (mx:=9223372036854775807) (n:=(l.length : Int)) (body:=fun k2 s=>rootcauseref28_Past_L2 l k2 s) (s0:=[]) l.length (PInv l) rfl (by omega) ⟨rfl,fun r hr=>absurd hr (by simp),fun j hj=>absurd hj (Nat.not_lt_zero _)⟩ (fun k s hk I=>past_step hl hk I)
 rw [e1]
 exact ⟨s,rfl,I⟩
def compOf (l : List AEv) (i : Nat) : Int:=((l[i]?).map (·.gComponent)).getD (-1)
theorem refClocks_ok {l : List AEv} {n : Int} (hl : l.length≤1000) (h1 : 1≤n) (h2 : n≤8) (hc : ∀ e∈l,0≤e.gComponent∧e.gComponent≤n) {out : List (List Bool)} (ho : rootcauseref28_Past l = some out) (I : PInv l l.length out) :
  ∃ ws,rootcauseref28_Clocks l n = some ws∧ws.length = l.length∧∀ j,j < l.length→ws[j]? = some ((List.range (n.toNat + 1)).map fun (c : Nat)=>((pcnt (compOf l) (cell out) l.length j (c : Int) : Nat) : Int)):=by
 unfold rootcauseref28_Clocks
 rw [ho,Option.bind_some]
 have hlen:=I.len
 have hw0 : IntKind.wrap .i64 (n + 1) = n + 1:=wrap_i64 (by omega) (by omega)
 obtain ⟨ws,e1,e2,e3⟩ := foldC (S:=List (List Int)) (mx:=9223372036854775807) (n:=(out.length : Int)) (body:=fun k4 s=>rootcauseref28_Clocks_L2 l n out k4 s) (s0:=[]) l.length (fun k ws=>ws.length = k∧∀ j,j < k→ws[j]? = some ((List.range (n.toNat + 1)).map fun (c : Nat)=>((pcnt (compOf l) (cell out) l.length j (c : Int) : Nat) : Int))) (by rw [hlen]) (by omega) ⟨rfl,fun j hj=>absurd hj (Nat.not_lt_zero _)⟩ (fun k ws hk ⟨i1,i2⟩=>by
  unfold rootcauseref28_Clocks_L2
  obtain ⟨row,hrow⟩ : ∃ row,out[k]? = some row := ⟨out[k]'(by omega),List.getElem?_eq_getElem (by omega)⟩
  have hrl:=I.rows row (List.mem_of_getElem? hrow)
  have hcell : ∀ i,i < l.length→row[i]? = some (cell out k i):=by
   intro i hi
   unfold cell
   rw [List.getD_eq_getElem?_getD (l:=out),hrow]
   simp only [Option.getD_some]
   rw [List.getD_eq_getElem?_getD]
   have : i < row.length:=by omega
   rw [List.getElem?_eq_getElem this]; rfl
  rw [idx_nat,hrow,Option.bind_some,hw0,chk_pos (by refine ⟨?_,?_,?_,?_⟩ <;> omega)]
  have hf:=foldM_spec (S:=List Int) (mx:=9223372036854775807) (n:=(row.length : Int)) (body:=fun k15 s=>rootcauseref28_Clocks_L5 l row k15 s) (s0:=List.replicate (Int.toNat (n + 1)) 0) l.length
   (fun m=>(List.range (n.toNat + 1)).map fun (c : Nat)=>((pcnt (compOf l) (cell out) m k (c : Int) : Nat) : Int)) (by
    rw [show Int.toNat (n + 1) = n.toNat + 1 by omega]
    apply List.ext_getElem?
    intro j
    by_cases hj : j < n.toNat + 1
    ·simp [hj,pcnt]
    ·rw [List.getElem?_eq_none (by simp; omega),List.getElem?_eq_none (by simp; omega)]) (by rw [hrl]) (by omega) (fun m hm=>by
    unfold rootcauseref28_Clocks_L5
    have hx : l[m]? = some l[m]:=List.getElem?_eq_getElem hm
    have hcm:=hc l[m] (List.getElem_mem hm)
    generalize l[m] = e at hx hcm
    rw [idx_nat,hcell m hm,Option.bind_some]
    have hcnt : ∀ c : Int,pcnt (compOf l) (cell out) (m + 1) k c = pcnt (compOf l) (cell out) m k c + if (cell out k m && e.gComponent == c) = true then 1 else 0:=by
     intro c
     unfold pcnt
     rw [List.range_succ,List.countP_append]
     congr 1
     simp only [List.countP_singleton,compOf,hx,Option.map_some,Option.getD_some]
    by_cases hp : cell out k m = true
    ·rw [if_pos hp,idx_nat,hx,Option.bind_some]
     have hcn : e.gComponent.toNat < n.toNat + 1:=by omega
     have hi : idx ((List.range (n.toNat + 1)).map fun (c : Nat)=>((pcnt (compOf l) (cell out) m k (c : Int) : Nat) : Int)) e.gComponent = some ((pcnt (compOf l) (cell out) m k e.gComponent : Nat) : Int):=by
      unfold idx
      rw [if_pos hcm.1]
      simp [hcn,Int.toNat_of_nonneg hcm.1]
     rw [hi,Option.bind_some,Option.bind_some]
     have hle : pcnt (compOf l) (cell out) m k e.gComponent≤m:=by
      unfold pcnt
      exact Nat.le_trans List.countP_le_length (by simp)
     rw [wrap_u64 (by omega) (by omega)]
     congr 1
     apply List.ext_getElem?
     intro j
     by_cases hj : j < n.toNat + 1
     ·by_cases hje : j = e.gComponent.toNat
      ·rw [← hje,List.getElem?_set_self (by simpa using hj)]
       have hje2 : (j : Int) = e.gComponent:=by omega
       simp [hj,hcnt,hp,hje2]
      ·rw [List.getElem?_set_ne (fun h=>hje h.symm)]
       have : ¬ e.gComponent = (j : Int):=by omega
       simp [hj,hcnt,this]
     ·rw [List.getElem?_eq_none (by simp; omega),List.getElem?_eq_none (by simp; omega)]
    ·rw [if_neg hp]
     congr 1
     refine List.map_congr_left fun c _=>?_
     rw [hcnt,if_neg (by simp [hp]),Nat.add_zero])
  rw [hf,Option.bind_some]
  unfold rootcauseref28_Clocks_K4
  rw [chk_pos (by constructor <;> simp [i1] <;> omega)]
  refine ⟨_,rfl,by simp [i1],fun j hj=>?_⟩
  by_cases e : j = k
  ·subst e
   rw [List.getElem?_append_right (by omega)]
   simp [i1]
  ·rw [List.getElem?_append_left (by omega)]
   exact i2 j (by omega))
 rw [e1]
 exact ⟨ws,rfl,e2,e3⟩
end Go.Proofs.YtifaebmmbpkclaaGreatDoor
namespace Go.Proofs.YtifaebmmbpkclaaGreatDoor
theorem pastOk {l : List AEv} {out : List (List Bool)} (I : PInv l l.length out) : PastOk l.length (befI l) (sntI l) (compOf l) (cell out) where
 b1:=fun j hj i h=>by
  unfold befI at h
  have hx : l[j]? = some l[j]:=List.getElem?_eq_getElem hj
  rw [hx] at h
  obtain ⟨a1,⟨x,a2,a3⟩,a4⟩ := lastI_some h
  refine ⟨a1,?_,fun k h1 h2=>?_⟩
  ·simp only [compOf,a2,hx,Option.map_some,Option.getD_some]
   simpa using a3
  ·have hk : l[k]? = some (l[k]'(by omega)):=List.getElem?_eq_getElem (by omega)
   have:=a4 k h1 h2 _ hk
   simp only [compOf,hk,hx,Option.map_some,Option.getD_some]
   simpa using this
 b0:=fun j hj h k hk=>by
  unfold befI at h
  have hx : l[j]? = some l[j]:=List.getElem?_eq_getElem hj
  rw [hx] at h
  have hy : l[k]? = some (l[k]'(by omega)):=List.getElem?_eq_getElem (by omega)
  have:=lastI_none h k hk _ hy
  simp only [compOf,hy,hx,Option.map_some,Option.getD_some]
  simpa using this
 s1:=fun j hj i h=>sntI_lt h
 p:=fun j hj k=>I.at' j hj k
theorem clock_count {l : List AEv} {n : Int} (h1 : 1≤n) (h2 : n≤8) (hc : ∀ e∈l,0≤e.gComponent∧e.gComponent≤n) {cs : List Ck} (c1 : cs.length = l.length) (c2 : ∀ j e,l[j]? = some e→cs[j]? = some (nextC l cs j e)) (c3 : ∀ c∈cs,∀ i,0≤c.gat i∧c.gat i≤(l.length : Int))
  {out : List (List Bool)} (I : PInv l l.length out) {j : Nat} (hj : j < l.length) {i : Nat} (hi : i < 16) : (cs.getD j zc).gat i = ((pcnt (compOf l) (cell out) l.length j (i : Int) : Nat) : Int):=by
 have hb:=ckAt_bnd c3
 have key:=(pastOk I).cnt (C:=fun j c=>if 0≤c∧c < 16 then ((cs.getD j zc).gat c.toNat).toNat else 0) (fun j hj c=>by
  have hx : l[j]? = some l[j]:=List.getElem?_eq_getElem hj
  have hcj:=hc l[j] (List.getElem_mem hj)
  have hcomp : compOf l j = (l[j]).gComponent:=by simp [compOf,hx]
  generalize l[j] = e at hx hcj hcomp
  have hn:=c2 j e hx
  have hg : cs.getD j zc = nextC l cs j e:=by rw [List.getD_eq_getElem?_getD,hn]; rfl
  have hel : ∀ (o : Option Nat) (c : Int),o.elim 0 (fun x=>if 0≤c∧c < 16 then ((cs.getD x zc).gat c.toNat).toNat else 0) = if 0≤c∧c < 16 then ((ckAt cs o).gat c.toNat).toNat else 0:=by
   intro o c
   cases o with
   | none=>simp [ckAt,zc]
   | some x=>rfl
  rw [hel,hel,hg,hcomp]
  by_cases hr : 0≤c∧c < 16
  ·rw [if_pos hr,if_pos hr,if_pos hr]
   have a1:=hb (befI l j) c.toNat
   have a2:=hb (sntI l j) c.toNat
   unfold nextC tickF mergeF
   simp only [upd]
   by_cases e1 : c.toNat = e.gComponent.toNat
   ·rw [if_pos e1,← e1,if_pos (show c.toNat < 16 by omega),if_pos (show c = e.gComponent by omega)]
    split <;> omega
   ·rw [if_neg e1,if_pos (show c.toNat < 16 by omega),if_neg (show ¬ c = e.gComponent by omega)]
    split <;> omega
  ·rw [if_neg hr,if_neg hr,if_neg hr,if_neg (by omega)]
   rfl) j hj l.length (i : Int) hj
 simp only [Int.toNat_natCast] at key
 rw [if_pos (by omega)] at key
 have:=(hb (some j) i).1
 have e : (ckAt cs (some j)) = cs.getD j zc:=rfl
 rw [e] at this
 omega
theorem cnt_above {l : List AEv} {n : Int} (hc : ∀ e∈l,0≤e.gComponent∧e.gComponent≤n) (p : Nat→Nat→Bool) (j : Nat) {c : Int} (h : n < c) : pcnt (compOf l) p l.length j c = 0:=by
 unfold pcnt
 rw [List.countP_eq_zero]
 intro k hk
 have hk' : k < l.length:=List.mem_range.1 hk
 have hx : l[k]? = some l[k]:=List.getElem?_eq_getElem hk'
 have:=hc l[k] (List.getElem_mem hk')
 simp only [compOf,hx,Option.map_some,Option.getD_some,Bool.and_eq_true,beq_iff_eq,not_and]
 intro _
 omega
theorem length_eq (c : Ck) : ∃ m : Nat,VClk_length c = some (m : Int)∧m≤16∧(0 < m→c.gat (m - 1)≠0)∧∀ i,m≤i→i < 16→c.gat i = 0:=by
 unfold VClk_length
 obtain ⟨s,e1,m,e2,e3,e4,e5⟩ := foldC (S:=Int) (mx:=9223372036854775807) (n:=16) (body:=fun k2 s=>VClk_length_L2 c k2 s) (s0:=0) 16 (fun k s=>∃ m : Nat,s = (m : Int)∧m≤k∧(0 < m→c.gat (m - 1)≠0)∧∀ i,m≤i→i < k→c.gat i = 0) rfl (by decide) ⟨0,rfl,Nat.le_refl _,fun h=>absurd h (Nat.lt_irrefl _),fun i _ h=>absurd h (Nat.not_lt_zero _)⟩ (fun k s hk ⟨m,i1,i2,i3,i4⟩=>by
  unfold VClk_length_L2
  rw [chk_pos ⟨by omega,by omega⟩,Int.toNat_natCast]
  by_cases h : (c.gat k != 0) = true
  ·rw [if_pos h]
   exact ⟨_,rfl,k + 1,rfl,Nat.le_refl _,fun _=>by simpa using h,fun i h1 h2=>by omega⟩
  ·rw [if_neg h]
   refine ⟨_,rfl,m,i1,by omega,i3,fun i h1 h2=>?_⟩
   by_cases e : i = k
   ·subst e; simpa using h
   ·exact i4 i h1 (by omega))
 rw [e1,Option.bind_some]
 exact ⟨m,by rw [e2]; rfl,e3,e4,e5⟩
theorem trim_eq (xs : List Int) (hl : xs.length≤1000) : ∃ m : Nat,rootcauseref24_Trim xs = some (xs.take m)∧m≤xs.length∧(0 < m→xs[m - 1]?≠some 0)∧∀ i,m≤i→i < xs.length→xs[i]? = some 0:=by
 unfold rootcauseref24_Trim
 obtain ⟨e,e1,m,rfl,e3,e4,e5⟩ := whileM_ind (S:=Int) (E:=Int) (step:=fun s=>rootcauseref24_Trim_L2 xs s) (s0:=(xs.length : Int)) (fun s=>∃ m : Nat,s = (m : Int)∧m≤xs.length∧∀ i,m≤i→i < xs.length→xs[i]? = some 0) (fun s=>s.toNat)
  (fun e=>∃ m : Nat,e = (m : Int)∧m≤xs.length∧(0 < m→xs[m - 1]?≠some 0)∧∀ i,m≤i→i < xs.length→xs[i]? = some 0) ⟨xs.length,rfl,Nat.le_refl _,fun i h1 h2=>by omega⟩ (by omega) (fun s ⟨m,i1,i2,i3⟩=>by
  subst i1
  unfold rootcauseref24_Trim_L2
  by_cases h0 : 0 < m
  ·have hw : IntKind.wrap .i64 ((m : Int) - 1) = ((m - 1 : Nat) : Int):=by rw [wrap_i64 (by omega) (by omega)]; omega
   have hd : decide ((0 : Int) < (m : Int)) = true:=by simp; omega
   have hx : xs[m - 1]? = some (xs[m - 1]'(by omega)):=List.getElem?_eq_getElem (by omega)
   generalize xs[m - 1]'(by omega) = v at hx
   rw [hw,hd]
   simp only [gb,if_true,idx_nat,hx,Option.bind_some,Bool.true_and]
   by_cases hv : (v == 0) = true
   ·rw [if_pos hv]
    refine .inl ⟨_,rfl,⟨m - 1,rfl,by omega,fun i h1 h2=>?_⟩,by simp; omega⟩
    by_cases e : i = m - 1
    ·subst e; rw [hx]; congr 1; exact eq_of_beq hv
    ·exact i3 i (by omega) h2
   ·rw [if_neg hv]
    refine .inr ⟨_,rfl,m,rfl,i2,fun _=>?_,i3⟩
    rw [hx]
    intro h
    injection h with h
    subst h
    exact hv rfl
  ·have : m = 0:=by omega
   subst this
   refine .inr ⟨((0 : Nat) : Int),?_,0,rfl,Nat.zero_le _,fun h=>absurd h (Nat.lt_irrefl _),i3⟩
   simp [gb])
 rw [e1,Option.bind_some]
 unfold rootcauseref24_Trim_K1
 rw [chk_pos ⟨by omega,by omega,by omega⟩,Int.toNat_natCast]
 exact ⟨m,rfl,e3,e4,e5⟩
theorem same_entries {c : Ck} {xs : List Int} (hl : xs.length≤16) (h1 : ∀ i,i < xs.length→xs[i]? = some (c.gat i)) (h2 : ∀ i,xs.length≤i→i < 16→c.gat i = 0) : ∃ ys,VClk_Entries c = some ys∧rootcauseref24_Trim xs = some ys∧ys.length≤16∧(0 < ys.length→ys[ys.length - 1]?≠some 0):=by
 obtain ⟨m,a1,a2,a3,a4⟩ := length_eq c
 obtain ⟨k,b1,b2,b3,b4⟩ := trim_eq xs (by omega)
 have hmk : m = k:=by
  rcases Nat.lt_trichotomy m k with h | h | h
  ·have q:=h1 (k - 1) (by omega)
   have:=a4 (k - 1) (by omega) (by omega)
   rw [this] at q
   exact absurd q (b3 (by omega))
  ·exact h
  ·have hne:=a3 (by omega)
   by_cases h3 : m - 1 < xs.length
   ·have q:=h1 (m - 1) h3
    have q2:=b4 (m - 1) (by omega) h3
    rw [q] at q2; injection q2 with q2
    exact absurd q2 hne
   ·exact absurd (h2 (m - 1) (by omega) (by omega)) hne
 subst hmk
 refine ⟨xs.take m,?_,b1,by simp; omega,fun h=>?_⟩
 case refine_2=>
  have hlm : (xs.take m).length = m:=by simp; omega
  rw [hlm] at h ⊢
  rw [List.getElem?_take_of_lt (by omega)]
  exact b3 h
 unfold VClk_Entries
 rw [a1,Option.bind_some,chk_pos ⟨by omega,by omega,by omega⟩,Int.toNat_natCast,chk_pos (by constructor <;> omega)]
 congr 1
 apply List.ext_getElem?
 intro i
 by_cases hi : i < m
 ·rw [List.getElem?_take_of_lt hi,h1 i (by omega)]
  simp [hi]
 ·rw [List.getElem?_eq_none (by simp; omega),List.getElem?_eq_none (by simp; omega)]
theorem few_ok (x0 : List AEv) (hl : x0.length≤9223372036854775807) : ∃ l,rootcauselaw28_few x0 20 = some l∧l.length≤20∧∀ e∈l,∃ e0∈x0,∃ n,n≤5∧e = ⟨e0.gTick,e0.gComponent,e0.gKind,e0.gPeer,e0.gN,e0.gCopy,e0.gHandler,e0.gD,e0.gArgs.take n⟩ := by
 unfold rootcauselaw28_few
 generalize hm : (if (20 : Int) < (List.length x0 : Int) then (20 : Int) else (List.length x0 : Int)) = m
 have hm0 : 0≤m∧m≤x0.length∧m≤20:=by subst hm; split <;> omega
 rw [chk_pos ⟨by omega,by omega,by omega⟩]
 have hlen : (List.take m.toNat x0).length = m.toNat:=by simp; omega
 obtain ⟨s,e1,e2,e3⟩ := foldC (S:=List AEv) (mx:=9223372036854775807) (n:=(List.length (List.take m.toNat x0) : Int)) (body:=fun k3 s=>rootcauselaw28_few_L2 x0 20 k3 s) (s0:=[]) m.toNat (fun k s=>s.length = k∧∀ e∈s,∃ e0∈x0,∃ n,n≤5∧e = ⟨e0.gTick,e0.gComponent,e0.gKind,e0.gPeer,e0.gN,e0.gCopy,e0.gHandler,e0.gD,e0.gArgs.take n⟩) (by rw [hlen]) (by omega) ⟨rfl,fun e he=>by cases he⟩ (fun k s hk ⟨I,J⟩=>by
  unfold rootcauselaw28_few_L2
  rw [hm]
  have hx : (List.take m.toNat x0)[k]? = some ((List.take m.toNat x0)[k]'(by omega)):=List.getElem?_eq_getElem (by omega)
  generalize (List.take m.toNat x0)[k]'(by omega) = e at hx
  have hmem : e∈x0:=List.mem_of_mem_take (List.mem_of_getElem? hx)
  simp only [idx_nat,hx,Option.bind_some]
  rw [chk_pos (by refine ⟨by omega,?_,?_⟩ <;> split <;> omega),chk_pos (by constructor <;> simp [I] <;> omega)]
  refine ⟨_,rfl,by simp [I],fun e' he'=>?_⟩
  rcases List.mem_append.1 he' with h | h
  ·exact J e' h
  ·simp only [List.mem_singleton] at h
   exact ⟨e,hmem,_,by split <;> omega,h⟩)
 rw [e1]
 exact ⟨s,rfl,by omega,e3⟩
end Go.Proofs.YtifaebmmbpkclaaGreatDoor
