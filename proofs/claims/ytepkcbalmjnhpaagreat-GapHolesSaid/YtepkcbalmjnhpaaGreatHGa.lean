/-
  Models of functions and the proofs that the code computes them, printed by gm2.py.
-/
import Derived.Test.YtepkcbalmjnhpaaGreatHCp
set_option maxRecDepth 100000
set_option maxHeartbeats 4000000
set_option linter.unusedVariables false
set_option linter.unusedSimpArgs false
namespace Go.Proofs.YtepkcbalmjnhpaaGreat
open Go.RowKit
def array_2_int.cs (x : Nat → Int) : List DV := [.int .i64 (x 0), .int .i64 (x 1)]
def array_2_int.dv (x : Nat → Int) : DV := .agg (array_2_int.cs x)
def collect_Collector_Components_a (o0 : collect_Collector) : Option Int :=
  some (if (IntKind.wrap .i64 ((List.length o0.gparts : Int) - 1)) > 0 then (IntKind.wrap .i64 ((List.length o0.gparts : Int) - 1)) else 0)
theorem collect_Collector_Components_a_c {o0 : collect_Collector} {r : Int} (hM : collect_Collector_Components_a o0 = some r) : ACall Tryz.prog 40 ⟨[.ref 100000 0], [(100000, some (.blk 134 [.row 100001])), (100001, some (.row 137 4 (List.map collect_part.dv o0.gparts)))], .int .i64 r, [(100000, some (.blk 134 [.row 100001])), (100001, some (.row 137 4 (List.map collect_part.dv o0.gparts)))], []⟩ := by
  unfold collect_Collector_Components_a at hM
  refine ACall.body Tryz.func40 Tryz.ntmps40 rfl rfl rfl rfl ?_
  refine a_seq ?_
  refine a_region (.cons (o_assign rfl) <| .nil _) (by kernel_rfl) (by kernel_rfl) ?_
  refine a_seq ?_
  refine a_seq ?_
  refine a_region (.cons (o_move rfl) <| .cons (o_ptr_eq rfl) <| .nil _) (by kernel_rfl) (by kernel_rfl) ?_
  refine a_cond _ rfl (fun c => by cases c) (fun _ => ?_)
  refine a_skip ?_
  refine a_seq ?_
  refine a_region (.cons (o_move rfl) <| .cons (o_nilCheck rfl) <| .cons (o_fieldAddr rfl) <| .cons (o_load_s rfl rfl rfl) <| .cons (t_len_r rfl rfl) <| .cons (o_int rfl rfl rfl) <| .cons (o_max rfl rfl) <| .cons (o_assign rfl) <| .nil _) (by kernel_rfl) (by kernel_rfl) ?_
  obtain rfl := Option.some.inj hM
  refine a_imp (σ' := ⟨[(2, .int .i64 (if (IntKind.wrap .i64 ((List.length o0.gparts : Int) - 1)) > 0 then (IntKind.wrap .i64 ((List.length o0.gparts : Int) - 1)) else 0))], [(100000, some (.blk 134 [.row 100001])), (100001, some (.row 137 4 (List.map collect_part.dv o0.gparts)))], [100000, 100001]⟩) (Imp.of (fun i => i) (.cons rfl (DLe.refl _) .nil) (.cons rfl (.refl _) (.cons rfl (.refl _) .nil)) rfl rfl rfl) ?_
  exact a_ret (a_post (.r1 (.tmp rfl)) (DLe.refl _) (PostOk.spec (.cons rfl (.cons rfl .nil))))

def gap_between_1_a (x0 : Int) (o0 : List record_Record) (o1 : gap_Gap) : Option Bool :=
  (idx o0 x0).bind fun v2 =>
  some (decide (o1.gFirst ≤ v2.gSeq))
theorem gap_between_1_a_c {x0 : Int} {o0 : List record_Record} {o1 : gap_Gap} {r : Bool} (hM : gap_between_1_a x0 o0 o1 = some r) : ACall Tryz.prog 162 ⟨[.int .i64 x0, .ref 100000 0, .ref 100001 0], [(100000, some (.blk 39 [.sl 29 (List.map record_Record.dv o0)])), (100001, some (.blk 85 (gap_Gap.cs o1)))], .bool r, [(100000, some (.blk 39 [.sl 29 (List.map record_Record.dv o0)])), (100001, some (.blk 85 (gap_Gap.cs o1)))], []⟩ := by
  unfold gap_between_1_a at hM
  refine ACall.body Tryz.func162 Tryz.ntmps162 rfl rfl rfl rfl ?_
  refine a_seq ?_
  refine a_region (.cons (o_assign rfl) <| .nil _) (by kernel_rfl) (by kernel_rfl) ?_
  refine a_seq ?_
  obtain ⟨v2, h1, hM⟩ := of_bind hM
  refine a_draw mixed (.cons (o_load_s rfl rfl rfl) <| .cons (o_move rfl) <| .cons (t_index h1 rfl rfl rfl) <| .cons (o_fieldAddr_e rfl rfl) <| .cons (o_load_es rfl rfl) <| .cons (o_fieldAddr rfl) <| .cons (o_load_s rfl rfl rfl) <| .cons (o_int rfl rfl rfl) <| .cons (o_assign rfl) <| .nil _) (by kernel_rfl) (by kernel_rfl) (by kernel_rfl) ?_
  obtain rfl := Option.some.inj hM
  refine a_imp (σ' := ⟨[(4, .bool (decide (o1.gFirst ≤ v2.gSeq)))], [(100000, some (.blk 39 [.sl 29 (List.map record_Record.dv o0)])), (100001, some (.blk 85 (gap_Gap.cs o1)))], [100000, 100001]⟩) (Imp.of (fun i => i) (.cons rfl (DLe.refl _) .nil) (.cons rfl (.refl _) (.cons rfl (.refl _) .nil)) rfl rfl rfl) ?_
  exact a_ret (a_post (.r1 (.tmp rfl)) (DLe.refl _) (PostOk.spec (.cons rfl (.cons rfl .nil))))

def sort_Search_a_K2 (a1 : Int) : Option Int :=
  some a1
def sort_Search_a_L5 (o0 : List record_Record) (o1 : gap_Gap) (a3 : Int) (a4 : Int) : Option (Ctl (Int × Int) Int) :=
  if (decide (a3 < a4)) = true then
    (gap_between_1_a (IntKind.wrap .i64 (Int.fdiv (IntKind.wrap .u64 (IntKind.wrap .i64 (a3 + a4))) (2 ^ min (Int.toNat 1) (IntKind.bits .u64)))) o0 o1).bind fun v9 =>
    if (!v9) = true then
      some (.next ((IntKind.wrap .i64 ((IntKind.wrap .i64 (Int.fdiv (IntKind.wrap .u64 (IntKind.wrap .i64 (a3 + a4))) (2 ^ min (Int.toNat 1) (IntKind.bits .u64)))) + 1)), a4))
    else
      some (.next (a3, (IntKind.wrap .i64 (Int.fdiv (IntKind.wrap .u64 (IntKind.wrap .i64 (a3 + a4))) (2 ^ min (Int.toNat 1) (IntKind.bits .u64))))))
  else
    some (.done a3)
def sort_Search_a (x0 : Int) (o0 : List record_Record) (o1 : gap_Gap) : Option Int :=
  (whileM (E := Int) (fun s => sort_Search_a_L5 o0 o1 s.1 s.2) (0, x0)).bind fun e => sort_Search_a_K2 e
theorem sort_Search_a_c {x0 : Int} {o0 : List record_Record} {o1 : gap_Gap} {r : Int} (hM : sort_Search_a x0 o0 o1 = some r) : ACall Tryz.prog 161 ⟨[.int .i64 x0, .clo 162 [.ref 100000 0, .ref 100001 0]], [(100000, some (.blk 39 [.sl 29 (List.map record_Record.dv o0)])), (100001, some (.blk 85 (gap_Gap.cs o1)))], .int .i64 r, [(100000, some (.blk 39 [.sl 29 (List.map record_Record.dv o0)])), (100001, some (.blk 85 (gap_Gap.cs o1)))], []⟩ := by
  unfold sort_Search_a at hM
  refine ACall.body Tryz.func161 Tryz.ntmps161 rfl rfl rfl rfl ?_
  refine a_seq ?_
  refine a_region (.cons (o_assign rfl) <| .nil _) (by kernel_rfl) (by kernel_rfl) ?_
  refine a_seq ?_
  refine a_region (.cons (o_move rfl) <| .cons (o_assign rfl) <| .cons (o_assign rfl) <| .nil _) (by kernel_rfl) (by kernel_rfl) ?_
  refine a_cut (α := Int) (fun s => ⟨[(5, .int .i64 s)], [(100000, some (.blk 39 [.sl 29 (List.map record_Record.dv o0)])), (100001, some (.blk 85 (gap_Gap.cs o1)))], [100000, 100001]⟩) (fun s => sort_Search_a_K2 s = some r) ?_ ?_
  · obtain ⟨e5, hL5, hK5⟩ := of_bind hM
    refine a_block ?_
    refine a_while (fun s : Int × Int => ⟨[(1, .clo 162 [.ref 100000 0, .ref 100001 0]), (5, .int .i64 s.1), (6, .int .i64 s.2)], [(100000, some (.blk 39 [.sl 29 (List.map record_Record.dv o0)])), (100001, some (.blk 85 (gap_Gap.cs o1)))], [100000, 100001]⟩) _ hL5 (Imp.of (fun i => i) (.cons rfl (DLe.refl _) (.cons rfl (DLe.refl _) (.cons rfl (DLe.refl _) .nil))) (.cons rfl (.refl _) (.cons rfl (.refl _) .nil)) rfl rfl rfl) ?_
    rintro ⟨a3, a4⟩ t6 hM hE5
    replace hM : sort_Search_a_L5 o0 o1 a3 a4 = some t6 := hM
    unfold sort_Search_a_L5 at hM
    refine a_seq ?_
    refine a_seq ?_
    refine a_region (.cons (o_move rfl) <| .cons (o_move rfl) <| .cons (o_int rfl rfl rfl) <| .nil _) (by kernel_rfl) (by kernel_rfl) ?_
    refine a_cond _ rfl (fun h7 => ?_) (fun h7 => ?_)
    · replace hM := (of_if hM).1 h7
      refine a_skip ?_
      refine a_block ?_
      refine a_seq ?_
      refine a_region (.cons (o_move rfl) <| .cons (o_move rfl) <| .cons (o_int rfl rfl rfl) <| .cons (o_conv_w rfl) <| .cons (o_shr rfl rfl (by decide)) <| .cons (o_conv_w rfl) <| .cons (o_assign rfl) <| .nil _) (by kernel_rfl) (by kernel_rfl) ?_
      refine a_seq ?_
      obtain ⟨v9, h8, hM⟩ := of_bind hM
      refine a_region (.cons (o_move rfl) <| .cons (o_move rfl) <| .cons (o_callV (fun i => bif Nat.beq i 100000 then 100000 else bif Nat.beq i 100001 then 100001 else i) 0 (gap_between_1_a_c h8) rfl rfl (DLeL.refl _) (.cons rfl (.cons rfl .nil)) rfl (.cons rfl (.cons rfl .nil))) <| .cons (o_not rfl) <| .nil _) (by kernel_rfl) (by kernel_rfl) ?_
      refine a_cond _ rfl (fun h10 => ?_) (fun h10 => ?_)
      · replace hM := (of_if hM).1 h10
        refine a_region (.cons (o_move rfl) <| .cons (o_int rfl rfl rfl) <| .cons (o_assign rfl) <| .nil _) (by kernel_rfl) (by kernel_rfl) ?_
        obtain rfl := Option.some.inj hM
        exact ⟨((IntKind.wrap .i64 ((IntKind.wrap .i64 (Int.fdiv (IntKind.wrap .u64 (IntKind.wrap .i64 (a3 + a4))) (2 ^ min (Int.toNat 1) (IntKind.bits .u64)))) + 1)), a4), rfl, (Imp.of (fun i => i) (.cons rfl (DLe.refl _) (.cons rfl (DLe.refl _) (.cons rfl (DLe.refl _) .nil))) (.cons rfl (.refl _) (.cons rfl (.refl _) .nil)) rfl rfl rfl)⟩
      · replace hM := (of_if hM).2 h10
        refine a_region (.cons (o_move rfl) <| .cons (o_assign rfl) <| .nil _) (by kernel_rfl) (by kernel_rfl) ?_
        obtain rfl := Option.some.inj hM
        exact ⟨(a3, (IntKind.wrap .i64 (Int.fdiv (IntKind.wrap .u64 (IntKind.wrap .i64 (a3 + a4))) (2 ^ min (Int.toNat 1) (IntKind.bits .u64))))), rfl, (Imp.of (fun i => i) (.cons rfl (DLe.refl _) (.cons rfl (DLe.refl _) (.cons rfl (DLe.refl _) .nil))) (.cons rfl (.refl _) (.cons rfl (.refl _) .nil)) rfl rfl rfl)⟩
    · replace hM := (of_if hM).2 h7
      refine a_exit ?_
      obtain rfl := Option.some.inj hM
      obtain rfl := hE5 _ rfl
      exact ⟨a3, hK5, (Imp.of (fun i => i) (.cons rfl (DLe.refl _) .nil) (.cons rfl (.refl _) (.cons rfl (.refl _) .nil)) rfl rfl rfl)⟩
  · rintro a1 hM
    replace hM : sort_Search_a_K2 a1 = some r := hM
    unfold sort_Search_a_K2 at hM
    refine a_seq ?_
    refine a_region (.cons (o_move rfl) <| .cons (o_assign rfl) <| .nil _) (by kernel_rfl) (by kernel_rfl) ?_
    obtain rfl := Option.some.inj hM
    refine a_imp (σ' := ⟨[(4, .int .i64 a1)], [(100000, some (.blk 39 [.sl 29 (List.map record_Record.dv o0)])), (100001, some (.blk 85 (gap_Gap.cs o1)))], [100000, 100001]⟩) (Imp.of (fun i => i) (.cons rfl (DLe.refl _) .nil) (.cons rfl (.refl _) (.cons rfl (.refl _) .nil)) rfl rfl rfl) ?_
    exact a_ret (a_post (.r1 (.tmp rfl)) (DLe.refl _) (PostOk.spec (.cons rfl (.cons rfl .nil))))

def gap_between_K6 (x1 : gap_Gap) (a3 : Int) (a5 : Int) : Option gap_Gap :=
  some (gap_Gap.mk x1.gComponent x1.gFirst x1.gCount x1.gOpen a3 a5)
def gap_between_K4 (x0 : List record_Record) (x1 : gap_Gap) (x2 : Int) (v2 : Int) (a3 : Int) : Option gap_Gap :=
  if (decide (v2 < (List.length x0 : Int))) = true then
    (idx x0 v2).bind fun v9 =>
    gap_between_K6 x1 a3 v9.gEvent.gTick
  else
    gap_between_K6 x1 a3 x2
def gap_between (x0 : List record_Record) (x1 : gap_Gap) (x2 : Int) : Option gap_Gap :=
  (sort_Search_a (List.length x0 : Int) x0 (gap_Gap.mk x1.gComponent x1.gFirst x1.gCount x1.gOpen 0 x2)).bind fun v2 =>
  if (decide (0 < v2)) = true then
    (idx x0 (IntKind.wrap .i64 (v2 - 1))).bind fun v12 =>
    gap_between_K4 x0 x1 x2 v2 v12.gEvent.gTick
  else
    gap_between_K4 x0 x1 x2 v2 0
theorem gap_between_c {x0 : List record_Record} {x1 : gap_Gap} {x2 : Int} {r : gap_Gap} (hM : gap_between x0 x1 x2 = some r) : PCall Tryz.prog 127 [.sl 29 (List.map record_Record.dv x0), .agg (gap_Gap.cs x1), .int .i64 x2] (.agg (gap_Gap.cs r)) := by
  unfold gap_between at hM
  refine PCall.body Tryz.func127 Tryz.ntmps127 rfl rfl rfl rfl ?_
  refine a_seq ?_
  refine a_region (.cons (o_box rfl rfl) <| .cons (o_box rfl rfl) <| .cons (o_alloc rfl) <| .nil _) (by kernel_rfl) (by kernel_rfl) ?_
  refine a_seq ?_
  refine a_region (.cons (o_move rfl) <| .cons (o_fieldAddr rfl) <| .cons (o_store_s rfl rfl rfl rfl rfl) <| .cons (o_fieldAddr rfl) <| .cons (o_store_s rfl rfl rfl rfl rfl) <| .nil _) (by kernel_rfl) (by kernel_rfl) ?_
  refine a_seq ?_
  obtain ⟨v2, h1, hM⟩ := of_bind hM
  refine a_region (.cons (o_load_s rfl rfl rfl) <| .cons (t_len rfl) <| .cons (o_makeFunc rfl) <| .cons (o_callN (fun i => bif Nat.beq i 100000 then 3 else bif Nat.beq i 100001 then 4 else i) 0 (sort_Search_a_c h1) rfl (DLeL.refl _) (.cons rfl (.cons rfl .nil)) rfl (.cons rfl (.cons rfl .nil))) <| .cons (o_assign rfl) <| .nil _) (by kernel_rfl) (by kernel_rfl) ?_
  refine a_cut (α := Int) (fun s => ⟨[(3, .ref 3 0), (4, .ref 4 0), (6, .ref 6 0), (7, .int .i64 v2)], [(3, some (.blk 39 [.sl 29 (List.map record_Record.dv x0)])), (4, some (.blk 85 [.int .i64 x1.gComponent, .int .u64 x1.gFirst, .int .u64 x1.gCount, .bool x1.gOpen, .int .i64 s, .int .i64 x2])), (6, some (.blk 85 [.int .i64 0, .int .u64 0, .int .u64 0, .bool false, .int .i64 0, .int .i64 0]))], [3, 4, 6]⟩) (fun s => gap_between_K4 x0 x1 x2 v2 s = some r) ?_ ?_
  · refine a_seq ?_
    refine a_region (.cons (o_move rfl) <| .cons (o_int rfl rfl rfl) <| .nil _) (by kernel_rfl) (by kernel_rfl) ?_
    refine a_cond _ rfl (fun h10 => ?_) (fun h10 => ?_)
    · replace hM := (of_if hM).1 h10
      obtain ⟨v12, h11, hM⟩ := of_bind hM
      refine a_region (.cons (o_load_s rfl rfl rfl) <| .cons (o_move rfl) <| .cons (o_int rfl rfl rfl) <| .cons (t_index h11 rfl rfl rfl) <| .cons (o_fieldAddr_e rfl rfl) <| .cons (o_fieldAddr_e rfl rfl) <| .cons (o_load_es rfl rfl) <| .cons (o_fieldAddr rfl) <| .cons (o_store_s rfl rfl rfl rfl rfl) <| .nil _) (by kernel_rfl) (by kernel_rfl) ?_
      exact ⟨v12.gEvent.gTick, hM, (Imp.of (fun i => i) (.cons rfl (DLe.refl _) (.cons rfl (DLe.refl _) (.cons rfl (DLe.refl _) (.cons rfl (DLe.refl _) .nil)))) (.cons rfl (.refl _) (.cons rfl (.refl _) (.cons rfl (.refl _) .nil))) rfl rfl rfl)⟩
    · replace hM := (of_if hM).2 h10
      refine a_skip ?_
      exact ⟨0, hM, (Imp.of (fun i => i) (.cons rfl (DLe.refl _) (.cons rfl (DLe.refl _) (.cons rfl (DLe.refl _) (.cons rfl (DLe.refl _) .nil)))) (.cons rfl (.refl _) (.cons rfl (.refl _) (.cons rfl (.refl _) .nil))) rfl rfl rfl)⟩
  · rintro a3 hM
    replace hM : gap_between_K4 x0 x1 x2 v2 a3 = some r := hM
    unfold gap_between_K4 at hM
    refine a_cut (α := Int) (fun s => ⟨[(4, .ref 4 0), (6, .ref 6 0)], [(4, some (.blk 85 [.int .i64 x1.gComponent, .int .u64 x1.gFirst, .int .u64 x1.gCount, .bool x1.gOpen, .int .i64 a3, .int .i64 s])), (6, some (.blk 85 [.int .i64 0, .int .u64 0, .int .u64 0, .bool false, .int .i64 0, .int .i64 0]))], [4, 6]⟩) (fun s => gap_between_K6 x1 a3 s = some r) ?_ ?_
    · refine a_seq ?_
      refine a_region (.cons (o_move rfl) <| .cons (o_load_s rfl rfl rfl) <| .cons (t_len rfl) <| .cons (o_int rfl rfl rfl) <| .nil _) (by kernel_rfl) (by kernel_rfl) ?_
      refine a_cond _ rfl (fun h7 => ?_) (fun h7 => ?_)
      · replace hM := (of_if hM).1 h7
        obtain ⟨v9, h8, hM⟩ := of_bind hM
        refine a_region (.cons (o_load_s rfl rfl rfl) <| .cons (o_move rfl) <| .cons (t_index h8 rfl rfl rfl) <| .cons (o_fieldAddr_e rfl rfl) <| .cons (o_fieldAddr_e rfl rfl) <| .cons (o_load_es rfl rfl) <| .cons (o_fieldAddr rfl) <| .cons (o_store_s rfl rfl rfl rfl rfl) <| .nil _) (by kernel_rfl) (by kernel_rfl) ?_
        exact ⟨v9.gEvent.gTick, hM, (Imp.of (fun i => i) (.cons rfl (DLe.refl _) (.cons rfl (DLe.refl _) .nil)) (.cons rfl (.refl _) (.cons rfl (.refl _) .nil)) rfl rfl rfl)⟩
      · replace hM := (of_if hM).2 h7
        refine a_skip ?_
        exact ⟨x2, hM, (Imp.of (fun i => i) (.cons rfl (DLe.refl _) (.cons rfl (DLe.refl _) .nil)) (.cons rfl (.refl _) (.cons rfl (.refl _) .nil)) rfl rfl rfl)⟩
    · rintro a5 hM
      replace hM : gap_between_K6 x1 a3 a5 = some r := hM
      unfold gap_between_K6 at hM
      refine a_seq ?_
      refine a_region (.cons (o_load_r rfl rfl rfl rfl) <| .cons (o_store rfl rfl rfl rfl rfl rfl rfl) <| .nil _) (by kernel_rfl) (by kernel_rfl) ?_
      obtain rfl := Option.some.inj hM
      exact a_ret (a_post (.r1 (.cell rfl rfl (.row _ CRow.h (Nat.le_of_ble_eq_true rfl) rfl))) (DLe.refl _) PostOk.nil.spec)

def collect_Collector_Total_a (x1 : Int) (o0 : collect_Collector) : Option (Int × Bool) :=
  (collect_Collector_part_a x1 o0).bind fun v2 =>
  some (v2.gtotal, v2.gknown)
theorem collect_Collector_Total_a_c {x1 : Int} {o0 : collect_Collector} {r : Int × Bool} (hM : collect_Collector_Total_a x1 o0 = some r) : ACall Tryz.prog 30 ⟨[.ref 100000 0, .int .i64 x1], [(100000, some (.blk 134 [.row 100001])), (100001, some (.row 137 4 (List.map collect_part.dv o0.gparts)))], .tup [.int .u64 r.1, .bool r.2], [(100000, some (.blk 134 [.row 100001])), (100001, some (.row 137 4 (List.map collect_part.dv o0.gparts)))], []⟩ := by
  unfold collect_Collector_Total_a at hM
  refine ACall.body Tryz.func30 Tryz.ntmps30 rfl rfl rfl rfl ?_
  refine a_seq ?_
  refine a_region (.cons (o_assign rfl) <| .cons (o_assign rfl) <| .nil _) (by kernel_rfl) (by kernel_rfl) ?_
  refine a_seq ?_
  obtain ⟨v2, h1, hM⟩ := of_bind hM
  refine a_region (.cons (o_move rfl) <| .cons (o_move rfl) <| .cons (o_callN (fun i => bif Nat.beq i 100000 then 100000 else bif Nat.beq i 100001 then 100001 else i) 0 (collect_Collector_part_a_c h1) rfl (DLeL.refl _) (.cons rfl (.cons rfl .nil)) rfl (.cons rfl (.cons rfl .nil))) <| .cons (o_alloc rfl) <| .cons (o_store rfl rfl rfl rfl rfl rfl rfl) <| .nil _) (by kernel_rfl) (by kernel_rfl) ?_
  refine a_seq ?_
  refine a_draw mixed (.cons (o_fieldAddr rfl) <| .cons (o_load_s rfl rfl rfl) <| .cons (o_fieldAddr rfl) <| .cons (o_load_s rfl rfl rfl) <| .cons (o_assign rfl) <| .cons (o_assign rfl) <| .nil _) (by kernel_rfl) (by kernel_rfl) (by kernel_rfl) ?_
  obtain rfl := Option.some.inj hM
  refine a_imp (σ' := ⟨[(4, .int .u64 v2.gtotal), (5, .bool v2.gknown)], [(100000, some (.blk 134 [.row 100001])), (100001, some (.row 137 4 (List.map collect_part.dv o0.gparts)))], [100000, 100001]⟩) (Imp.of (fun i => i) (.cons rfl (DLe.refl _) (.cons rfl (DLe.refl _) .nil)) (.cons rfl (.refl _) (.cons rfl (.refl _) .nil)) rfl rfl rfl) ?_
  exact a_ret (a_post (.r2 (.tmp rfl) (.tmp rfl)) (DLe.refl _) (PostOk.spec (.cons rfl (.cons rfl .nil))))

def gap_Of_v1_K3 (a2 : List gap_Gap) : Option (List gap_Gap) :=
  some a2
def gap_Of_v1_K12 (a11 : List gap_Gap) : Option (List gap_Gap) :=
  some a11
def gap_Of_v1_K19 (x1 : Int) (o0 : collect_Collector) (k6 : Nat) (v14 : (List record_Record)) (a17 : List gap_Gap) (a18 : Int) : Option (List gap_Gap) :=
  (collect_Collector_Total_a (k6 : Int) o0).bind fun v21 =>
  if (!v21.2) = true then
    (gap_between v14 (gap_Gap.mk (k6 : Int) a18 0 true 0 0) x1).bind fun v24 =>
    chk (apOk 48 (List.length a17 + List.length [v24])) <|
    gap_Of_v1_K12 (a17 ++ [v24])
  else
    gap_Of_v1_K12 a17
def gap_Of_v1_L31 (x1 : Int) (k6 : Nat) (v14 : (List record_Record)) (v27 : (List (Nat → Int))) (k28 : Nat) (a29 : List gap_Gap) (a30 : Int) : Option ((List gap_Gap) × Int) :=
  (idx v27 (k28 : Int)).bind fun v35 =>
  (gap_between v14 (gap_Gap.mk (k6 : Int) (v35 0) (v35 1) false 0 0) x1).bind fun v37 =>
  chk (apOk 48 (List.length a29 + List.length [v37])) <|
  some ((a29 ++ [v37]), (if (IntKind.wrap .u64 ((v35 0) + (v35 1))) > a30 then (IntKind.wrap .u64 ((v35 0) + (v35 1))) else a30))
def gap_Of_v1_K16 (x1 : Int) (o0 : collect_Collector) (k6 : Nat) (a7 : List gap_Gap) (v14 : (List record_Record)) (a15 : Int) : Option (List gap_Gap) :=
  (collect_Collector_Missing_a (k6 : Int) o0).bind fun v27 =>
  (foldM' 9223372036854775807 (List.length v27 : Int) (fun k28 s => gap_Of_v1_L31 x1 k6 v14 v27 k28 s.1 s.2) (a7, a15)).bind fun s => gap_Of_v1_K19 x1 o0 k6 v14 s.1 s.2
def gap_Of_v1_L8 (x1 : Int) (o0 : collect_Collector) (k6 : Nat) (a7 : List gap_Gap) : Option (List gap_Gap) :=
  (collect_Collector_Records_a (k6 : Int) o0).bind fun v14 =>
  if (decide (0 < (List.length v14 : Int))) = true then
    (idx v14 (IntKind.wrap .i64 ((List.length v14 : Int) - 1))).bind fun v41 =>
    gap_Of_v1_K16 x1 o0 k6 a7 v14 (IntKind.wrap .u64 (v41.gSeq + 1))
  else
    gap_Of_v1_K16 x1 o0 k6 a7 v14 0
def gap_Of_v1 (x1 : Int) (o0 : collect_Collector) : Option (List gap_Gap) :=
  (collect_Collector_Components_a o0).bind fun v5 =>
  (foldM' 9223372036854775807 (IntKind.wrap .i64 (v5 + 1)) (fun k6 s => gap_Of_v1_L8 x1 o0 k6 s) ([] : List gap_Gap)).bind fun s => gap_Of_v1_K3 s
theorem gap_Of_v1_c {x1 : Int} {o0 : collect_Collector} {r : (List gap_Gap)} (hM : gap_Of_v1 x1 o0 = some r) : ACall Tryz.prog 81 ⟨[.ref 100000 0, .int .i64 x1], [(100000, some (.blk 134 [.row 100001])), (100001, some (.row 137 4 (List.map collect_part.dv o0.gparts)))], .sl 6 (List.map gap_Gap.dv r), [(100000, some (.blk 134 [.row 100001])), (100001, some (.row 137 4 (List.map collect_part.dv o0.gparts)))], []⟩ := by
  unfold gap_Of_v1 at hM
  refine ACall.body Tryz.func81 Tryz.ntmps81 rfl rfl rfl rfl ?_
  refine a_seq ?_
  refine a_region (.cons (o_assign rfl) <| .nil _) (by kernel_rfl) (by kernel_rfl) ?_
  refine a_seq ?_
  refine a_seq ?_
  refine a_region (.cons (o_move rfl) <| .cons (o_ptr_eq rfl) <| .nil _) (by kernel_rfl) (by kernel_rfl) ?_
  refine a_cond _ rfl (fun c => by cases c) (fun _ => ?_)
  refine a_skip ?_
  refine a_seq ?_
  refine a_region (.cons (o_assign rfl) <| .nil _) (by kernel_rfl) (by kernel_rfl) ?_
  refine a_cut (α := (List gap_Gap)) (fun s => ⟨[(5, .sl 6 (List.map gap_Gap.dv s))], [(100000, some (.blk 134 [.row 100001])), (100001, some (.row 137 4 (List.map collect_part.dv o0.gparts)))], [100000, 100001]⟩) (fun s => gap_Of_v1_K3 s = some r) ?_ ?_
  · refine a_seq ?_
    obtain ⟨v5, h4, hM⟩ := of_bind hM
    refine a_region (.cons (o_move rfl) <| .cons (o_callN (fun i => bif Nat.beq i 100000 then 100000 else bif Nat.beq i 100001 then 100001 else i) 0 (collect_Collector_Components_a_c h4) rfl (DLeL.refl _) (.cons rfl (.cons rfl .nil)) rfl (.cons rfl (.cons rfl .nil))) <| .cons (o_int rfl rfl rfl) <| .cons (o_move rfl) <| .nil _) (by kernel_rfl) (by kernel_rfl) ?_
    obtain ⟨a7, hL8, hK8⟩ := of_bind hM
    refine a_block ?_
    refine a_fold (fun k6 (s : (List gap_Gap)) => ⟨[(0, .ref 100000 0), (1, .int .i64 x1), (5, .row 10001), (18, .int .i64 (IntKind.wrap .i64 (v5 + 1))), (19, .int .i64 (k6 : Int))], [(10001, some (.row 85 6 (List.map gap_Gap.dv s))), (100000, some (.blk 134 [.row 100001])), (100001, some (.row 137 4 (List.map collect_part.dv o0.gparts)))], [10001, 100000, 100001]⟩) _ hL8 ((Imp.nilRow (t := 5) (id := 10006) 85 6 rfl rfl).trans (Imp.of (fun i => bif Nat.beq i 10001 then 10006 else i) (.cons rfl (DLe.refl _) (.cons rfl (DLe.refl _) (.cons rfl (DLe.refl _) (.cons rfl (DLe.refl _) (.cons rfl (DLe.refl _) .nil))))) (.cons rfl (.refl _) (.cons rfl (.refl _) (.cons rfl (.refl _) .nil))) rfl rfl rfl)) ?_ ?_
    · rintro k6 a7 t9 hk6 hx6 hM
      replace hM : gap_Of_v1_L8 x1 o0 k6 a7 = some t9 := hM
      unfold gap_Of_v1_L8 at hM
      refine a_seq ?_
      refine a_region (.cons (o_int rfl rfl rfl) <| .nil _) (by kernel_rfl) (by kernel_rfl) ?_
      refine a_seq ?_
      refine a_cond _ rfl (fun _ => ?_) (fun c => absurd hk6 (of_decide_eq_false c))
      refine a_skip ?_
      refine a_cut (α := (List gap_Gap)) (fun s => ⟨[(0, .ref 100000 0), (1, .int .i64 x1), (5, .row 10002), (18, .int .i64 (IntKind.wrap .i64 (v5 + 1))), (19, .int .i64 (k6 : Int))], [(10002, some (.row 85 6 (List.map gap_Gap.dv s))), (100000, some (.blk 134 [.row 100001])), (100001, some (.row 137 4 (List.map collect_part.dv o0.gparts)))], [10002, 100000, 100001]⟩) (fun s => gap_Of_v1_K12 s = some t9) ?_ ?_
      · refine a_block ?_
        refine a_seq ?_
        refine a_region (.cons (o_move rfl) <| .cons (o_assign rfl) <| .nil _) (by kernel_rfl) (by kernel_rfl) ?_
        refine a_seq ?_
        obtain ⟨v14, h13, hM⟩ := of_bind hM
        refine a_region (.cons (o_move rfl) <| .cons (o_move rfl) <| .cons (o_callN (fun i => bif Nat.beq i 100000 then 100000 else bif Nat.beq i 100001 then 100001 else i) 0 (collect_Collector_Records_a_c h13) rfl (DLeL.refl _) (.cons rfl (.cons rfl .nil)) rfl (.cons rfl (.cons rfl .nil))) <| .cons (o_assign rfl) <| .nil _) (by kernel_rfl) (by kernel_rfl) ?_
        refine a_seq ?_
        refine a_region (.cons (o_assign rfl) <| .nil _) (by kernel_rfl) (by kernel_rfl) ?_
        refine a_cut (α := Int) (fun s => ⟨[(0, .ref 100000 0), (1, .int .i64 x1), (5, .row 10003), (6, .int .i64 (k6 : Int)), (7, .sl 29 (List.map record_Record.dv v14)), (8, .int .u64 s), (18, .int .i64 (IntKind.wrap .i64 (v5 + 1))), (19, .int .i64 (k6 : Int))], [(10003, some (.row 85 6 (List.map gap_Gap.dv a7))), (100000, some (.blk 134 [.row 100001])), (100001, some (.row 137 4 (List.map collect_part.dv o0.gparts)))], [10003, 100000, 100001]⟩) (fun s => gap_Of_v1_K16 x1 o0 k6 a7 v14 s = some t9) ?_ ?_
        · refine a_seq ?_
          refine a_region (.cons (o_move rfl) <| .cons (t_len rfl) <| .cons (o_assign rfl) <| .nil _) (by kernel_rfl) (by kernel_rfl) ?_
          refine a_seq ?_
          refine a_region (.cons (o_move rfl) <| .cons (o_int rfl rfl rfl) <| .nil _) (by kernel_rfl) (by kernel_rfl) ?_
          refine a_cond _ rfl (fun h39 => ?_) (fun h39 => ?_)
          · replace hM := (of_if hM).1 h39
            obtain ⟨v41, h40, hM⟩ := of_bind hM
            refine a_region (.cons (o_move rfl) <| .cons (o_move rfl) <| .cons (o_int rfl rfl rfl) <| .cons (t_index h40 rfl rfl rfl) <| .cons (o_fieldAddr_e rfl rfl) <| .cons (o_load_es rfl rfl) <| .cons (o_int rfl rfl rfl) <| .cons (o_assign rfl) <| .nil _) (by kernel_rfl) (by kernel_rfl) ?_
            exact ⟨(IntKind.wrap .u64 (v41.gSeq + 1)), hM, (Imp.of (fun i => bif Nat.beq i 10003 then 10001 else i) (.cons rfl (DLe.refl _) (.cons rfl (DLe.refl _) (.cons rfl (DLe.refl _) (.cons rfl (DLe.refl _) (.cons rfl (DLe.refl _) (.cons rfl (DLe.refl _) (.cons rfl (DLe.refl _) (.cons rfl (DLe.refl _) .nil)))))))) (.cons rfl (.refl _) (.cons rfl (.refl _) (.cons rfl (.refl _) .nil))) rfl rfl rfl)⟩
          · replace hM := (of_if hM).2 h39
            refine a_skip ?_
            exact ⟨0, hM, (Imp.of (fun i => bif Nat.beq i 10003 then 10001 else i) (.cons rfl (DLe.refl _) (.cons rfl (DLe.refl _) (.cons rfl (DLe.refl _) (.cons rfl (DLe.refl _) (.cons rfl (DLe.refl _) (.cons rfl (DLe.refl _) (.cons rfl (DLe.refl _) (.cons rfl (DLe.refl _) .nil)))))))) (.cons rfl (.refl _) (.cons rfl (.refl _) (.cons rfl (.refl _) .nil))) rfl rfl rfl)⟩
        · rintro a15 hM
          replace hM : gap_Of_v1_K16 x1 o0 k6 a7 v14 a15 = some t9 := hM
          unfold gap_Of_v1_K16 at hM
          refine a_cut (α := (List gap_Gap) × Int) (fun s => ⟨[(0, .ref 100000 0), (1, .int .i64 x1), (5, .row 10004), (6, .int .i64 (k6 : Int)), (7, .sl 29 (List.map record_Record.dv v14)), (8, .int .u64 s.2), (18, .int .i64 (IntKind.wrap .i64 (v5 + 1))), (19, .int .i64 (k6 : Int))], [(10004, some (.row 85 6 (List.map gap_Gap.dv s.1))), (100000, some (.blk 134 [.row 100001])), (100001, some (.row 137 4 (List.map collect_part.dv o0.gparts)))], [10004, 100000, 100001]⟩) (fun s => gap_Of_v1_K19 x1 o0 k6 v14 s.1 s.2 = some t9) ?_ ?_
          · refine a_seq ?_
            obtain ⟨v27, h26, hM⟩ := of_bind hM
            refine a_region (.cons (o_move rfl) <| .cons (o_move rfl) <| .cons (o_callN (fun i => bif Nat.beq i 100000 then 100000 else bif Nat.beq i 100001 then 100001 else i) 0 (collect_Collector_Missing_a_c h26) rfl (DLeL.refl _) (.cons rfl (.cons rfl .nil)) rfl (.cons rfl (.cons rfl .nil))) <| .cons (t_len rfl) <| .cons (o_move rfl) <| .nil _) (by kernel_rfl) (by kernel_rfl) ?_
            obtain ⟨⟨a29, a30⟩, hL31, hK31⟩ := of_bind hM
            refine a_block ?_
            refine a_fold (fun k28 (s : (List gap_Gap) × Int) => ⟨[(0, .ref 100000 0), (1, .int .i64 x1), (5, .row 10005), (6, .int .i64 (k6 : Int)), (7, .sl 29 (List.map record_Record.dv v14)), (8, .int .u64 s.2), (18, .int .i64 (IntKind.wrap .i64 (v5 + 1))), (19, .int .i64 (k6 : Int)), (38, .sl 2 (List.map array_2_uint64.dv v27)), (39, .int .i64 (List.length v27 : Int)), (40, .int .i64 (k28 : Int))], [(10005, some (.row 85 6 (List.map gap_Gap.dv s.1))), (100000, some (.blk 134 [.row 100001])), (100001, some (.row 137 4 (List.map collect_part.dv o0.gparts)))], [10005, 100000, 100001]⟩) _ hL31 (Imp.of (fun i => bif Nat.beq i 10005 then 10003 else i) (.cons rfl (DLe.refl _) (.cons rfl (DLe.refl _) (.cons rfl (DLe.refl _) (.cons rfl (DLe.refl _) (.cons rfl (DLe.refl _) (.cons rfl (DLe.refl _) (.cons rfl (DLe.refl _) (.cons rfl (DLe.refl _) (.cons rfl (DLe.refl _) (.cons rfl (DLe.refl _) (.cons rfl (DLe.refl _) .nil))))))))))) (.cons rfl (.refl _) (.cons rfl (.refl _) (.cons rfl (.refl _) .nil))) rfl rfl rfl) ?_ ?_
            · rintro k28 ⟨a29, a30⟩ t32 hk28 hx28 hM
              replace hM : gap_Of_v1_L31 x1 k6 v14 v27 k28 a29 a30 = some t32 := hM
              unfold gap_Of_v1_L31 at hM
              refine a_seq ?_
              refine a_region (.cons (o_int rfl rfl rfl) <| .nil _) (by kernel_rfl) (by kernel_rfl) ?_
              refine a_seq ?_
              refine a_cond _ rfl (fun _ => ?_) (fun c => absurd hk28 (of_decide_eq_false c))
              refine a_skip ?_
              refine a_seq ?_
              refine a_block ?_
              refine a_seq ?_
              obtain ⟨v35, h34, hM⟩ := of_bind hM
              refine a_region (.cons (t_index h34 rfl rfl rfl) <| .cons (o_load_er rfl rfl rfl) <| .cons (o_alloc rfl) <| .cons (o_store rfl rfl rfl rfl rfl rfl rfl) <| .nil _) (by kernel_rfl) (by kernel_rfl) ?_
              refine a_seq ?_
              obtain ⟨v37, h36, hM⟩ := of_bind hM
              obtain ⟨h38, hM⟩ := of_chk hM
              refine a_region (.cons (o_move rfl) <| .cons (o_move rfl) <| .cons (o_move rfl) <| .cons (o_indexAddr_a 0 rfl rfl rfl (by decide)) <| .cons (o_load_s rfl rfl rfl) <| .cons (o_indexAddr_a 1 rfl rfl rfl (by decide)) <| .cons (o_load_s rfl rfl rfl) <| .cons (o_build rfl rfl rfl) <| .cons (o_move rfl) <| .cons (o_call (gap_between_c h36) rfl (DLeL.refl _) rfl) <| .cons (t_build gap_Gap.dv ([v37] : List gap_Gap) rfl rfl rfl rfl rfl rfl rfl) <| .cons (t_append [v37] h38 rfl rfl rfl (Src.row rfl)) <| .cons (o_assign rfl) <| .nil _) (by kernel_rfl) (by kernel_rfl) ?_
              refine a_region (.cons (o_move rfl) <| .cons (o_indexAddr_a 0 rfl rfl rfl (by decide)) <| .cons (o_load_s rfl rfl rfl) <| .cons (o_indexAddr_a 1 rfl rfl rfl (by decide)) <| .cons (o_load_s rfl rfl rfl) <| .cons (o_int rfl rfl rfl) <| .cons (o_max rfl rfl) <| .cons (o_assign rfl) <| .nil _) (by kernel_rfl) (by kernel_rfl) ?_
              refine a_region (.cons (o_add rfl rfl (inR_i64 hk28 hx28)) <| .cons (o_move rfl) <| .nil _) (by kernel_rfl) (by kernel_rfl) ?_
              obtain rfl := Option.some.inj hM
              exact (Imp.of (fun i => bif Nat.beq i 10005 then 55 else i) (.cons rfl (DLe.refl _) (.cons rfl (DLe.refl _) (.cons rfl (DLe.refl _) (.cons rfl (DLe.refl _) (.cons rfl (DLe.refl _) (.cons rfl (DLe.refl _) (.cons rfl (DLe.refl _) (.cons rfl (DLe.refl _) (.cons rfl (DLe.refl _) (.cons rfl (DLe.refl _) (.cons rfl (DLe.succ _ _) .nil))))))))))) (.cons rfl (.refl _) (.cons rfl (.refl _) (.cons rfl (.refl _) .nil))) rfl rfl rfl)
            · rintro k28 hk28 hx28
              refine a_seq ?_
              refine a_region (.cons (o_int rfl rfl rfl) <| .nil _) (by kernel_rfl) (by kernel_rfl) ?_
              refine a_seq ?_
              refine a_cond _ rfl (fun c => absurd (of_decide_eq_true c) (Int.not_lt.2 hk28)) (fun _ => ?_)
              refine a_exit ?_
              exact ⟨(a29, a30), hK31, (Imp.of (fun i => bif Nat.beq i 10004 then 10005 else i) (.cons rfl (DLe.refl _) (.cons rfl (DLe.refl _) (.cons rfl (DLe.refl _) (.cons rfl (DLe.refl _) (.cons rfl (DLe.refl _) (.cons rfl (DLe.refl _) (.cons rfl (DLe.refl _) (.cons rfl (DLe.refl _) .nil)))))))) (.cons rfl (.refl _) (.cons rfl (.refl _) (.cons rfl (.refl _) .nil))) rfl rfl rfl)⟩
          · rintro ⟨a17, a18⟩ hM
            replace hM : gap_Of_v1_K19 x1 o0 k6 v14 a17 a18 = some t9 := hM
            unfold gap_Of_v1_K19 at hM
            refine a_seq ?_
            obtain ⟨v21, h20, hM⟩ := of_bind hM
            refine a_region (.cons (o_move rfl) <| .cons (o_move rfl) <| .cons (o_callN (fun i => bif Nat.beq i 100000 then 100000 else bif Nat.beq i 100001 then 100001 else i) 0 (collect_Collector_Total_a_c h20) rfl (DLeL.refl _) (.cons rfl (.cons rfl .nil)) rfl (.cons rfl (.cons rfl .nil))) <| .cons (o_move rfl) <| .cons (o_extract rfl rfl) <| .cons (o_extract rfl rfl) <| .cons (o_assign rfl) <| .cons (o_assign rfl) <| .nil _) (by kernel_rfl) (by kernel_rfl) ?_
            refine a_seq ?_
            refine a_region (.cons (o_move rfl) <| .cons (o_not rfl) <| .nil _) (by kernel_rfl) (by kernel_rfl) ?_
            refine a_cond _ rfl (fun h22 => ?_) (fun h22 => ?_)
            · replace hM := (of_if hM).1 h22
              obtain ⟨v24, h23, hM⟩ := of_bind hM
              obtain ⟨h25, hM⟩ := of_chk hM
              refine a_region (.cons (o_move rfl) <| .cons (o_move rfl) <| .cons (o_move rfl) <| .cons (o_move rfl) <| .cons (o_build rfl rfl rfl) <| .cons (o_move rfl) <| .cons (o_call (gap_between_c h23) rfl (DLeL.refl _) rfl) <| .cons (t_build gap_Gap.dv ([v24] : List gap_Gap) rfl rfl rfl rfl rfl rfl rfl) <| .cons (t_append [v24] h25 rfl rfl rfl (Src.row rfl)) <| .cons (o_assign rfl) <| .nil _) (by kernel_rfl) (by kernel_rfl) ?_
              exact ⟨(a17 ++ [v24]), hM, (Imp.of (fun i => bif Nat.beq i 10002 then 80 else i) (.cons rfl (DLe.refl _) (.cons rfl (DLe.refl _) (.cons rfl (DLe.refl _) (.cons rfl (DLe.refl _) (.cons rfl (DLe.refl _) .nil))))) (.cons rfl (.refl _) (.cons rfl (.refl _) (.cons rfl (.refl _) .nil))) rfl rfl rfl)⟩
            · replace hM := (of_if hM).2 h22
              refine a_skip ?_
              exact ⟨a17, hM, (Imp.of (fun i => bif Nat.beq i 10002 then 10004 else i) (.cons rfl (DLe.refl _) (.cons rfl (DLe.refl _) (.cons rfl (DLe.refl _) (.cons rfl (DLe.refl _) (.cons rfl (DLe.refl _) .nil))))) (.cons rfl (.refl _) (.cons rfl (.refl _) (.cons rfl (.refl _) .nil))) rfl rfl rfl)⟩
      · rintro a11 hM
        replace hM : gap_Of_v1_K12 a11 = some t9 := hM
        unfold gap_Of_v1_K12 at hM
        refine a_region (.cons (o_add rfl rfl (inR_i64 hk6 hx6)) <| .cons (o_move rfl) <| .nil _) (by kernel_rfl) (by kernel_rfl) ?_
        obtain rfl := Option.some.inj hM
        exact (Imp.of (fun i => bif Nat.beq i 10001 then 10002 else i) (.cons rfl (DLe.refl _) (.cons rfl (DLe.refl _) (.cons rfl (DLe.refl _) (.cons rfl (DLe.refl _) (.cons rfl (DLe.succ _ _) .nil))))) (.cons rfl (.refl _) (.cons rfl (.refl _) (.cons rfl (.refl _) .nil))) rfl rfl rfl)
    · rintro k6 hk6 hx6
      refine a_seq ?_
      refine a_region (.cons (o_int rfl rfl rfl) <| .nil _) (by kernel_rfl) (by kernel_rfl) ?_
      refine a_seq ?_
      refine a_cond _ rfl (fun c => absurd (of_decide_eq_true c) (Int.not_lt.2 hk6)) (fun _ => ?_)
      refine a_exit ?_
      exact ⟨a7, hK8, ((Imp.freeze (id := 10001) rfl).trans (Imp.of (fun i => i) (.cons rfl (DLe.refl _) .nil) (.cons rfl (.refl _) (.cons rfl (.refl _) .nil)) rfl rfl rfl))⟩
  · rintro a2 hM
    replace hM : gap_Of_v1_K3 a2 = some r := hM
    unfold gap_Of_v1_K3 at hM
    refine a_seq ?_
    refine a_region (.cons (o_move rfl) <| .cons (o_assign rfl) <| .nil _) (by kernel_rfl) (by kernel_rfl) ?_
    obtain rfl := Option.some.inj hM
    refine a_imp (σ' := ⟨[(4, .sl 6 (List.map gap_Gap.dv a2))], [(100000, some (.blk 134 [.row 100001])), (100001, some (.row 137 4 (List.map collect_part.dv o0.gparts)))], [100000, 100001]⟩) (Imp.of (fun i => i) (.cons rfl (DLe.refl _) .nil) (.cons rfl (.refl _) (.cons rfl (.refl _) .nil)) rfl rfl rfl) ?_
    exact a_ret (a_post (.r1 (.tmp rfl)) (DLe.refl _) (PostOk.spec (.cons rfl (.cons rfl .nil))))

def gap_Until_K2 (a1 : Int) : Option Int :=
  some a1
def gap_Until_L5 (x0 : List gap_Gap) (x1 : Int) (k3 : Nat) (a4 : Int) : Option Int :=
  (idx x0 (k3 : Int)).bind fun v9 =>
  if ((v9.gComponent != x1) || (v9.gFrom == (-9223372036854775808))) = true then
    some a4
  else
    some (if (IntKind.wrap .i64 (v9.gFrom - 1)) < a4 then (IntKind.wrap .i64 (v9.gFrom - 1)) else a4)
def gap_Until (x0 : List gap_Gap) (x1 : Int) (x2 : Int) : Option Int :=
  (foldM' 9223372036854775807 (List.length x0 : Int) (fun k3 s => gap_Until_L5 x0 x1 k3 s) x2).bind fun s => gap_Until_K2 s
theorem gap_Until_c {x0 : List gap_Gap} {x1 : Int} {x2 : Int} {r : Int} (hM : gap_Until x0 x1 x2 = some r) : PCall Tryz.prog 38 [.sl 6 (List.map gap_Gap.dv x0), .int .i64 x1, .int .i64 x2] (.int .i64 r) := by
  unfold gap_Until at hM
  refine PCall.body Tryz.func38 Tryz.ntmps38 rfl rfl rfl rfl ?_
  refine a_seq ?_
  refine a_region (.cons (o_assign rfl) <| .nil _) (by kernel_rfl) (by kernel_rfl) ?_
  refine a_seq ?_
  refine a_region (.cons (o_move rfl) <| .cons (o_assign rfl) <| .nil _) (by kernel_rfl) (by kernel_rfl) ?_
  refine a_cut (α := Int) (fun s => ⟨[(7, .int .i64 s)], [], []⟩) (fun s => gap_Until_K2 s = some r) ?_ ?_
  · refine a_seq ?_
    refine a_region (.cons (o_move rfl) <| .cons (t_len rfl) <| .cons (o_move rfl) <| .nil _) (by kernel_rfl) (by kernel_rfl) ?_
    obtain ⟨a4, hL5, hK5⟩ := of_bind hM
    refine a_block ?_
    refine a_fold (fun k3 (s : Int) => ⟨[(1, .int .i64 x1), (7, .int .i64 s), (11, .sl 6 (List.map gap_Gap.dv x0)), (12, .int .i64 (List.length x0 : Int)), (13, .int .i64 (k3 : Int))], [], []⟩) _ hL5 (Imp.of (fun i => i) (.cons rfl (DLe.refl _) (.cons rfl (DLe.refl _) (.cons rfl (DLe.refl _) (.cons rfl (DLe.refl _) (.cons rfl (DLe.refl _) .nil))))) .nil rfl rfl rfl) ?_ ?_
    · rintro k3 a4 t6 hk3 hx3 hM
      replace hM : gap_Until_L5 x0 x1 k3 a4 = some t6 := hM
      unfold gap_Until_L5 at hM
      refine a_seq ?_
      refine a_region (.cons (o_int rfl rfl rfl) <| .nil _) (by kernel_rfl) (by kernel_rfl) ?_
      refine a_seq ?_
      refine a_cond _ rfl (fun _ => ?_) (fun c => absurd hk3 (of_decide_eq_false c))
      refine a_skip ?_
      refine a_seq ?_
      refine a_block ?_
      refine a_seq ?_
      obtain ⟨v9, h8, hM⟩ := of_bind hM
      refine a_region (.cons (t_index h8 rfl rfl rfl) <| .cons (o_load_er rfl rfl rfl) <| .cons (o_alloc rfl) <| .cons (o_store rfl rfl rfl rfl rfl rfl rfl) <| .nil _) (by kernel_rfl) (by kernel_rfl) ?_
      refine a_seq ?_
      refine a_seq ?_
      refine a_region (.cons (o_fieldAddr rfl) <| .cons (o_load_s rfl rfl rfl) <| .cons (o_move rfl) <| .cons (o_int rfl rfl rfl) <| .cons (o_move rfl) <| .cons (o_guardG .bF rfl rfl (fun hb => (.keep .nil)) (fun hb => o_fieldAddr rfl)) <| .cons (o_guardG .bF rfl rfl (fun hb => (.strip rfl hb .nil)) (fun hb => o_load_s rfl rfl rfl)) <| .cons (o_guardG .bF rfl rfl (fun hb => (.strip rfl hb .nil)) (fun hb => o_int rfl rfl rfl)) <| .cons (o_or rfl rfl) <| .nil _) (by kernel_rfl) (by kernel_rfl) ?_
      refine a_cond _ rfl (fun h10 => ?_) (fun h10 => ?_)
      · replace hM := (of_if hM).1 h10
        refine a_exit ?_
        refine a_region (.cons (o_add rfl rfl (inR_i64 hk3 hx3)) <| .cons (o_move rfl) <| .nil _) (by kernel_rfl) (by kernel_rfl) ?_
        obtain rfl := Option.some.inj hM
        exact (Imp.of (fun i => i) (.cons rfl (DLe.refl _) (.cons rfl (DLe.refl _) (.cons rfl (DLe.refl _) (.cons rfl (DLe.refl _) (.cons rfl (DLe.succ _ _) .nil))))) .nil rfl rfl rfl)
      · replace hM := (of_if hM).2 h10
        refine a_skip ?_
        refine a_region (.cons (o_move rfl) <| .cons (o_fieldAddr rfl) <| .cons (o_load_s rfl rfl rfl) <| .cons (o_int rfl rfl rfl) <| .cons (o_min rfl rfl) <| .cons (o_assign rfl) <| .nil _) (by kernel_rfl) (by kernel_rfl) ?_
        refine a_region (.cons (o_add rfl rfl (inR_i64 hk3 hx3)) <| .cons (o_move rfl) <| .nil _) (by kernel_rfl) (by kernel_rfl) ?_
        obtain rfl := Option.some.inj hM
        exact (Imp.of (fun i => i) (.cons rfl (DLe.refl _) (.cons rfl (DLe.refl _) (.cons rfl (DLe.refl _) (.cons rfl (DLe.refl _) (.cons rfl (DLe.succ _ _) .nil))))) .nil rfl rfl rfl)
    · rintro k3 hk3 hx3
      refine a_seq ?_
      refine a_region (.cons (o_int rfl rfl rfl) <| .nil _) (by kernel_rfl) (by kernel_rfl) ?_
      refine a_seq ?_
      refine a_cond _ rfl (fun c => absurd (of_decide_eq_true c) (Int.not_lt.2 hk3)) (fun _ => ?_)
      refine a_exit ?_
      exact ⟨a4, hK5, (Imp.of (fun i => i) (.cons rfl (DLe.refl _) .nil) .nil rfl rfl rfl)⟩
  · rintro a1 hM
    replace hM : gap_Until_K2 a1 = some r := hM
    unfold gap_Until_K2 at hM
    refine a_seq ?_
    refine a_region (.cons (o_move rfl) <| .cons (o_assign rfl) <| .nil _) (by kernel_rfl) (by kernel_rfl) ?_
    obtain rfl := Option.some.inj hM
    exact a_ret (a_post (.r1 (.tmp rfl)) (DLe.refl _) PostOk.nil.spec)

def rootcauselaw32_awake_K5 (v2_0 : collect_Collector) (a4 : List Int) : Option Bool :=
  (collect_Collector_Add_a 0 a4 v2_0).bind fun v7 =>
  if (v7.1 != 0) = true then
    some false
  else
    (gap_Of_v1 20 v7.2).bind fun v10 =>
    (record_Record_Bytes (record_Record.mk 0 8 (vclock_Clock.mk (arr 0 [0, 0, 0, 0, 0, 0, 0, 0, 0, 0, 0, 0, 0, 0, 0, 0])) 3 (api_Event.mk 0 0 0 0 0 0 0 0 []) 0)).bind fun v12 =>
    (frame_Append a4 v12).bind fun v14 =>
    (gb (!((List.length v10 : Int) != 3)) (gap_Gap.mk 0 0 0 false 0 0) (idx v10 0)).bind fun v16 =>
    (gb (!(((List.length v10 : Int) != 3) || (!((v16.gComponent == 0) && ((v16.gFirst == 2) && ((v16.gCount == 3) && ((v16.gOpen == false) && ((v16.gFrom == 4) && ((v16.gTo == 9) && true))))))))) (gap_Gap.mk 0 0 0 false 0 0) (idx v10 1)).bind fun v18 =>
    if (!((((List.length v10 : Int) != 3) || (!((v16.gComponent == 0) && ((v16.gFirst == 2) && ((v16.gCount == 3) && ((v16.gOpen == false) && ((v16.gFrom == 4) && ((v16.gTo == 9) && true)))))))) || (!((v18.gComponent == 0) && ((v18.gFirst == 6) && ((v18.gCount == 0) && ((v18.gOpen == true) && ((v18.gFrom == 9) && ((v18.gTo == 20) && true))))))))) = true then
      (collect_Collector_Add_a 0 v14.1 v7.2).bind fun v20 =>
      if (((((List.length v10 : Int) != 3) || (!((v16.gComponent == 0) && ((v16.gFirst == 2) && ((v16.gCount == 3) && ((v16.gOpen == false) && ((v16.gFrom == 4) && ((v16.gTo == 9) && true)))))))) || (!((v18.gComponent == 0) && ((v18.gFirst == 6) && ((v18.gCount == 0) && ((v18.gOpen == true) && ((v18.gFrom == 9) && ((v18.gTo == 20) && true)))))))) || (v20.1 != 0)) = true then
        some false
      else
        (gap_Of_v1 20 v20.2).bind fun v23 =>
        (gb ((List.length v23 : Int) == 3) (gap_Gap.mk 0 0 0 false 0 0) (idx v23 1)).bind fun v25 =>
        (gb (((List.length v23 : Int) == 3) && ((v25.gComponent == 0) && ((v25.gFirst == 6) && ((v25.gCount == 2) && ((v25.gOpen == false) && ((v25.gFrom == 9) && ((v25.gTo == 20) && true))))))) (0) (gap_Until v23 0 20)).bind fun v27 =>
        some ((((List.length v23 : Int) == 3) && ((v25.gComponent == 0) && ((v25.gFirst == 6) && ((v25.gCount == 2) && ((v25.gOpen == false) && ((v25.gFrom == 9) && ((v25.gTo == 20) && true))))))) && (v27 == 3))
    else
      if (((((List.length v10 : Int) != 3) || (!((v16.gComponent == 0) && ((v16.gFirst == 2) && ((v16.gCount == 3) && ((v16.gOpen == false) && ((v16.gFrom == 4) && ((v16.gTo == 9) && true)))))))) || (!((v18.gComponent == 0) && ((v18.gFirst == 6) && ((v18.gCount == 0) && ((v18.gOpen == true) && ((v18.gFrom == 9) && ((v18.gTo == 20) && true)))))))) || false) = true then
        some false
      else
        (gap_Of_v1 20 v7.2).bind fun v21 =>
        (gb ((List.length v21 : Int) == 3) (gap_Gap.mk 0 0 0 false 0 0) (idx v21 1)).bind fun v23 =>
        (gb (((List.length v21 : Int) == 3) && ((v23.gComponent == 0) && ((v23.gFirst == 6) && ((v23.gCount == 2) && ((v23.gOpen == false) && ((v23.gFrom == 9) && ((v23.gTo == 20) && true))))))) (0) (gap_Until v21 0 20)).bind fun v25 =>
        some ((((List.length v21 : Int) == 3) && ((v23.gComponent == 0) && ((v23.gFirst == 6) && ((v23.gCount == 2) && ((v23.gOpen == false) && ((v23.gFrom == 9) && ((v23.gTo == 20) && true))))))) && (v25 == 3))
def rootcauselaw32_awake_L30 (k28 : Nat) (a29 : List Int) : Option (List Int) :=
  (idx [(arr 0 [0, 2]), (arr 0 [1, 4]), (arr 0 [5, 9])] (k28 : Int)).bind fun v34 =>
  (record_Record_Bytes (record_Record.mk 0 (IntKind.wrap .u64 (v34 0)) (vclock_Clock.mk (arr 0 [0, 0, 0, 0, 0, 0, 0, 0, 0, 0, 0, 0, 0, 0, 0, 0])) 1 (api_Event.mk (v34 1) 0 3 0 0 0 0 0 []) 0)).bind fun v36 =>
  (frame_Append a29 v36).bind fun v38 =>
  some v38.1
def rootcauselaw32_awake : Option Bool :=
  (collect_New 1).bind fun v2 =>
  match v2 with
  | .inl v2_0 =>
    (foldM' 9223372036854775807 (List.length [(arr 0 [0, 2]), (arr 0 [1, 4]), (arr 0 [5, 9])] : Int) (fun k28 s => rootcauselaw32_awake_L30 k28 s) ([] : List Int)).bind fun s => rootcauselaw32_awake_K5 v2_0 s
  | .inr v2_1 =>
    some false
theorem rootcauselaw32_awake_c {r : Bool} (hM : rootcauselaw32_awake = some r) : PCall Tryz.prog 32 [] (.bool r) := by
  unfold rootcauselaw32_awake at hM
  refine PCall.body Tryz.func32 Tryz.ntmps32 rfl rfl rfl rfl ?_
  refine a_seq ?_
  refine a_region (.cons (o_assign rfl) <| .nil _) (by kernel_rfl) (by kernel_rfl) ?_
  refine a_seq ?_
  obtain ⟨v2, h1, hM⟩ := of_bind hM
  rcases v2 with v2_0 | v2_1
  · refine a_region (.cons (o_callN (fun i => bif Nat.beq i 50001 then 10002 else bif Nat.beq i 50000 then 10001 else i) 2 (collect_New_c0 h1) rfl (DLeL.refl _) .nil rfl .nil) <| .cons (o_move rfl) <| .cons (o_extract rfl rfl) <| .cons (o_extract rfl rfl) <| .cons (o_assign rfl) <| .cons (o_assign rfl) <| .nil _) (by kernel_rfl) (by kernel_rfl) ?_
    refine a_seq ?_
    refine a_seq ?_
    refine a_region (.cons (o_move rfl) <| .cons (o_int rfl rfl rfl) <| .cons (o_move rfl) <| .cons (o_guardOn .bF rfl rfl rfl (.keep .nil) (o_move rfl)) <| .cons (o_guardOn .bF rfl rfl rfl (.strip rfl rfl .nil) (o_ptr_eq rfl)) <| .cons (o_or rfl rfl) <| .nil _) (by kernel_rfl) (by kernel_rfl) ?_
    refine a_cond _ rfl (fun c => by cases c) (fun _ => ?_)
    refine a_skip ?_
    refine a_seq ?_
    refine a_region (.cons (o_assign rfl) <| .nil _) (by kernel_rfl) (by kernel_rfl) ?_
    refine a_cut (α := (List Int)) (fun s => ⟨[(1, .ref 10001 0), (3, .sl 1 (List.map (DV.int .u8) s))], [(10001, some (.blk 134 [.row 10003])), (10003, some (.row 137 4 (List.map collect_part.dv v2_0.gparts)))], [10001, 10003]⟩) (fun s => rootcauselaw32_awake_K5 v2_0 s = some r) ?_ ?_
    · refine a_seq ?_
      refine a_region (.cons (o_build rfl rfl rfl) <| .cons (o_build rfl rfl rfl) <| .cons (o_build rfl rfl rfl) <| .cons (t_build array_2_int.dv ([(arr 0 [0, 2]), (arr 0 [1, 4]), (arr 0 [5, 9])] : List (Nat → Int)) rfl rfl rfl rfl rfl rfl rfl) <| .cons (t_len_r rfl rfl) <| .cons (o_move rfl) <| .nil _) (by kernel_rfl) (by kernel_rfl) ?_
      obtain ⟨a29, hL30, hK30⟩ := of_bind hM
      refine a_block ?_
      refine a_fold (fun k28 (s : (List Int)) => ⟨[(1, .ref 10001 0), (3, .sl 1 (List.map (DV.int .u8) s)), (20, .sl 2 (List.map array_2_int.dv [(arr 0 [0, 2]), (arr 0 [1, 4]), (arr 0 [5, 9])])), (21, .int .i64 (List.length [(arr 0 [0, 2]), (arr 0 [1, 4]), (arr 0 [5, 9])] : Int)), (22, .int .i64 (k28 : Int))], [(10001, some (.blk 134 [.row 10005])), (10005, some (.row 137 4 (List.map collect_part.dv v2_0.gparts)))], [10001, 10005]⟩) _ hL30 ((Imp.freeze (id := 20) rfl).trans (Imp.of (fun i => bif Nat.beq i 10005 then 10002 else i) (.cons rfl (DLe.refl _) (.cons rfl (DLe.nils _) (.cons rfl (DLe.refl _) (.cons rfl (DLe.refl _) (.cons rfl (DLe.refl _) .nil))))) (.cons rfl (.refl _) (.cons rfl (.refl _) .nil)) rfl rfl rfl)) ?_ ?_
      · rintro k28 a29 t31 hk28 hx28 hM
        replace hM : rootcauselaw32_awake_L30 k28 a29 = some t31 := hM
        unfold rootcauselaw32_awake_L30 at hM
        refine a_seq ?_
        refine a_region (.cons (o_int rfl rfl rfl) <| .nil _) (by kernel_rfl) (by kernel_rfl) ?_
        refine a_seq ?_
        refine a_cond _ rfl (fun _ => ?_) (fun c => absurd hk28 (of_decide_eq_false c))
        refine a_skip ?_
        refine a_seq ?_
        refine a_block ?_
        refine a_seq ?_
        obtain ⟨v34, h33, hM⟩ := of_bind hM
        refine a_region (.cons (t_index h33 rfl rfl rfl) <| .cons (o_load_er rfl rfl rfl) <| .cons (o_alloc rfl) <| .cons (o_store rfl rfl rfl rfl rfl rfl rfl) <| .nil _) (by kernel_rfl) (by kernel_rfl) ?_
        obtain ⟨v36, h35, hM⟩ := of_bind hM
        obtain ⟨v38, h37, hM⟩ := of_bind hM
        refine a_region (.cons (o_move rfl) <| .cons (o_indexAddr_a 0 rfl rfl rfl (by decide)) <| .cons (o_load_s rfl rfl rfl) <| .cons (o_conv_w rfl) <| .cons (o_indexAddr_a 1 rfl rfl rfl (by decide)) <| .cons (o_load_s rfl rfl rfl) <| .cons (o_build rfl rfl rfl) <| .cons (o_build rfl rfl rfl) <| .cons (o_call (record_Record_Bytes_c h35) rfl (.cons (DLe.agg (.cons (DLe.refl _) (.cons (DLe.refl _) (.cons (DLe.refl _) (.cons (DLe.refl _) (.cons (DLe.refl _) (.cons (DLe.refl _) (.cons (DLe.refl _) (.cons (DLe.refl _) (.cons (DLe.refl _) (.cons (DLe.refl _) (.cons (DLe.refl _) (.cons (DLe.refl _) (.cons (DLe.refl _) (.cons (DLe.refl _) (.cons (DLe.refl _) (.cons (DLe.refl _) (.cons (DLe.refl _) (.cons (DLe.refl _) (.cons (DLe.refl _) (.cons (DLe.refl _) (.cons (DLe.refl _) (.cons (DLe.refl _) (.cons (DLe.refl _) (.cons (DLe.refl _) (.cons (DLe.refl _) (.cons (DLe.refl _) (.cons (DLe.refl _) (.cons (DLe.nils _) (.cons (DLe.refl _) .nil)))))))))))))))))))))))))))))) .nil) rfl) <| .cons (o_call (frame_Append_c h37) rfl (DLeL.refl _) rfl) <| .cons (o_move rfl) <| .cons (o_extract rfl rfl) <| .cons (o_extract rfl rfl) <| .cons (o_assign rfl) <| .nil _) (by kernel_rfl) (by kernel_rfl) ?_
        refine a_region (.cons (o_add rfl rfl (inR_i64 hk28 hx28)) <| .cons (o_move rfl) <| .nil _) (by kernel_rfl) (by kernel_rfl) ?_
        obtain rfl := Option.some.inj hM
        exact (Imp.of (fun i => i) (.cons rfl (DLe.refl _) (.cons rfl (DLe.refl _) (.cons rfl (DLe.refl _) (.cons rfl (DLe.refl _) (.cons rfl (DLe.succ _ _) .nil))))) (.cons rfl (.refl _) (.cons rfl (.refl _) .nil)) rfl rfl rfl)
      · rintro k28 hk28 hx28
        refine a_seq ?_
        refine a_region (.cons (o_int rfl rfl rfl) <| .nil _) (by kernel_rfl) (by kernel_rfl) ?_
        refine a_seq ?_
        refine a_cond _ rfl (fun c => absurd (of_decide_eq_true c) (Int.not_lt.2 hk28)) (fun _ => ?_)
        refine a_exit ?_
        exact ⟨a29, hK30, (Imp.of (fun i => bif Nat.beq i 10003 then 10005 else i) (.cons rfl (DLe.refl _) (.cons rfl (DLe.refl _) .nil)) (.cons rfl (.refl _) (.cons rfl (.refl _) .nil)) rfl rfl rfl)⟩
    · rintro a4 hM
      replace hM : rootcauselaw32_awake_K5 v2_0 a4 = some r := hM
      unfold rootcauselaw32_awake_K5 at hM
      refine a_seq ?_
      refine a_seq ?_
      obtain ⟨v7, h6, hM⟩ := of_bind hM
      refine a_region (.cons (o_move rfl) <| .cons (o_move rfl) <| .cons (o_callN (fun i => bif Nat.beq i 50000 then 10004 else bif Nat.beq i 100000 then 10001 else bif Nat.beq i 100001 then 10003 else i) 3 (collect_Collector_Add_a_c h6) rfl (DLeL.refl _) (.cons rfl (.cons rfl .nil)) rfl .nil) <| .cons (o_int rfl rfl rfl) <| .nil _) (by kernel_rfl) (by kernel_rfl) ?_
      refine a_cond _ rfl (fun h8 => ?_) (fun h8 => ?_)
      · replace hM := (of_if hM).1 h8
        refine a_seq ?_
        refine a_region (.cons (o_assign rfl) <| .nil _) (by kernel_rfl) (by kernel_rfl) ?_
        obtain rfl := Option.some.inj hM
        exact a_ret (a_post (.r1 (.tmp rfl)) (DLe.refl _) PostOk.nil.spec)
      · replace hM := (of_if hM).2 h8
        refine a_skip ?_
        refine a_seq ?_
        obtain ⟨v10, h9, hM⟩ := of_bind hM
        refine a_region (.cons (o_move rfl) <| .cons (o_callN (fun i => bif Nat.beq i 100000 then 10001 else bif Nat.beq i 100001 then 10004 else i) 0 (gap_Of_v1_c h9) rfl (DLeL.refl _) (.cons rfl (.cons rfl .nil)) rfl (.cons rfl (.cons rfl .nil))) <| .cons (o_assign rfl) <| .nil _) (by kernel_rfl) (by kernel_rfl) ?_
        refine a_seq ?_
        obtain ⟨v12, h11, hM⟩ := of_bind hM
        obtain ⟨v14, h13, hM⟩ := of_bind hM
        refine a_region (.cons (o_move rfl) <| .cons (o_build rfl rfl rfl) <| .cons (o_call (record_Record_Bytes_c h11) rfl (.cons (DLe.agg (.cons (DLe.refl _) (.cons (DLe.refl _) (.cons (DLe.refl _) (.cons (DLe.refl _) (.cons (DLe.refl _) (.cons (DLe.refl _) (.cons (DLe.refl _) (.cons (DLe.refl _) (.cons (DLe.refl _) (.cons (DLe.refl _) (.cons (DLe.refl _) (.cons (DLe.refl _) (.cons (DLe.refl _) (.cons (DLe.refl _) (.cons (DLe.refl _) (.cons (DLe.refl _) (.cons (DLe.refl _) (.cons (DLe.refl _) (.cons (DLe.refl _) (.cons (DLe.refl _) (.cons (DLe.refl _) (.cons (DLe.refl _) (.cons (DLe.refl _) (.cons (DLe.refl _) (.cons (DLe.refl _) (.cons (DLe.refl _) (.cons (DLe.refl _) (.cons (DLe.nils _) (.cons (DLe.refl _) .nil)))))))))))))))))))))))))))))) .nil) rfl) <| .cons (o_call (frame_Append_c h13) rfl (DLeL.refl _) rfl) <| .cons (o_move rfl) <| .cons (o_extract rfl rfl) <| .cons (o_extract rfl rfl) <| .cons (o_assign rfl) <| .nil _) (by kernel_rfl) (by kernel_rfl) ?_
        refine a_seq ?_
        refine a_seq ?_
        obtain ⟨v16, h15, hM⟩ := of_bind hM
        obtain ⟨v18, h17, hM⟩ := of_bind hM
        by_cases hd19 : (!((((List.length v10 : Int) != 3) || (!((v16.gComponent == 0) && ((v16.gFirst == 2) && ((v16.gCount == 3) && ((v16.gOpen == false) && ((v16.gFrom == 4) && ((v16.gTo == 9) && true)))))))) || (!((v18.gComponent == 0) && ((v18.gFirst == 6) && ((v18.gCount == 0) && ((v18.gOpen == true) && ((v18.gFrom == 9) && ((v18.gTo == 20) && true))))))))) = true
        · replace hM := (of_if hM).1 hd19
          obtain ⟨v20, h19, hM⟩ := of_bind hM
          refine a_region (.cons (o_move rfl) <| .cons (t_len rfl) <| .cons (o_int rfl rfl rfl) <| .cons (o_move rfl) <| .cons (o_guardG .bF rfl rfl (fun hb => (.keep .nil)) (fun hb => o_move rfl)) <| .cons (o_guardG .bF rfl rfl (fun hb => (.strip rfl hb .nil)) (fun hb => t_index (of_gb h15 hb) rfl rfl rfl)) <| .cons (o_guardG .bF rfl rfl (fun hb => (.strip rfl hb .nil)) (fun hb => o_load_er rfl rfl rfl)) <| .cons (o_guardG .bF rfl rfl (fun hb => .nil) (fun hb => o_build rfl rfl rfl)) <| .cons (o_guardG .bF rfl rfl (fun hb => (.strip rfl hb (.strip rfl hb .nil))) (fun hb => o_neS (b := ((v16.gComponent == 0) && ((v16.gFirst == 2) && ((v16.gCount == 3) && ((v16.gOpen == false) && ((v16.gFrom == 4) && ((v16.gTo == 9) && true))))))) rfl rfl rfl rfl rfl)) <| .cons (o_or rfl rfl) <| .cons (o_move rfl) <| .cons (o_guardG .bF rfl rfl (fun hb => (.keep .nil)) (fun hb => o_move rfl)) <| .cons (o_guardG .bF rfl rfl (fun hb => (.strip rfl hb .nil)) (fun hb => t_index (of_gb h17 hb) rfl rfl rfl)) <| .cons (o_guardG .bF rfl rfl (fun hb => (.strip rfl hb .nil)) (fun hb => o_load_er rfl rfl rfl)) <| .cons (o_guardG .bF rfl rfl (fun hb => .nil) (fun hb => o_build rfl rfl rfl)) <| .cons (o_guardG .bF rfl rfl (fun hb => (.strip rfl hb (.strip rfl hb .nil))) (fun hb => o_neS (b := ((v18.gComponent == 0) && ((v18.gFirst == 6) && ((v18.gCount == 0) && ((v18.gOpen == true) && ((v18.gFrom == 9) && ((v18.gTo == 20) && true))))))) rfl rfl rfl rfl rfl)) <| .cons (o_or rfl rfl) <| .cons (o_move rfl) <| .cons (o_guardG .bF rfl rfl (fun hb => (.keep .nil)) (fun hb => o_move rfl)) <| .cons (o_guardG .bF rfl rfl (fun hb => (.keep .nil)) (fun hb => o_move rfl)) <| .cons (o_guardOn .bF rfl rfl hd19 (.strip rfl hd19 (.strip rfl hd19 .nil)) (o_callN (fun i => bif Nat.beq i 50000 then 10005 else bif Nat.beq i 100000 then 10001 else bif Nat.beq i 100001 then 10004 else i) 3 (collect_Collector_Add_a_c h19) rfl (DLeL.refl _) (.cons rfl (.cons rfl .nil)) rfl .nil)) <| .cons (o_guardOn .bF rfl rfl hd19 (.strip rfl hd19 .nil) (o_int rfl rfl rfl)) <| .cons (o_or rfl rfl) <| .nil _) (by kernel_rfl) (by kernel_rfl) ?_
          refine a_cond _ rfl (fun h21 => ?_) (fun h21 => ?_)
          · replace hM := (of_if hM).1 h21
            refine a_seq ?_
            refine a_region (.cons (o_assign rfl) <| .nil _) (by kernel_rfl) (by kernel_rfl) ?_
            obtain rfl := Option.some.inj hM
            exact a_ret (a_post (.r1 (.tmp rfl)) (DLe.refl _) PostOk.nil.spec)
          · replace hM := (of_if hM).2 h21
            refine a_skip ?_
            refine a_seq ?_
            obtain ⟨v23, h22, hM⟩ := of_bind hM
            refine a_region (.cons (o_move rfl) <| .cons (o_callN (fun i => bif Nat.beq i 100000 then 10001 else bif Nat.beq i 100001 then 10005 else i) 0 (gap_Of_v1_c h22) rfl (DLeL.refl _) (.cons rfl (.cons rfl .nil)) rfl (.cons rfl (.cons rfl .nil))) <| .cons (o_assign rfl) <| .nil _) (by kernel_rfl) (by kernel_rfl) ?_
            refine a_seq ?_
            obtain ⟨v25, h24, hM⟩ := of_bind hM
            obtain ⟨v27, h26, hM⟩ := of_bind hM
            refine a_region (.cons (o_move rfl) <| .cons (t_len rfl) <| .cons (o_int rfl rfl rfl) <| .cons (o_move rfl) <| .cons (o_guardG .bT rfl rfl (fun hb => (.keep .nil)) (fun hb => o_move rfl)) <| .cons (o_guardG .bT rfl rfl (fun hb => (.strip rfl hb .nil)) (fun hb => t_index (of_gb h24 hb) rfl rfl rfl)) <| .cons (o_guardG .bT rfl rfl (fun hb => (.strip rfl hb .nil)) (fun hb => o_load_er rfl rfl rfl)) <| .cons (o_guardG .bT rfl rfl (fun hb => .nil) (fun hb => o_build rfl rfl rfl)) <| .cons (o_guardG .bT rfl rfl (fun hb => (.strip rfl hb (.strip rfl hb .nil))) (fun hb => o_eqS (b := ((v25.gComponent == 0) && ((v25.gFirst == 6) && ((v25.gCount == 2) && ((v25.gOpen == false) && ((v25.gFrom == 9) && ((v25.gTo == 20) && true))))))) rfl rfl rfl rfl rfl)) <| .cons (o_and rfl rfl) <| .cons (o_move rfl) <| .cons (o_guardG .bT rfl rfl (fun hb => (.keep .nil)) (fun hb => o_move rfl)) <| .cons (o_guardG .bT rfl rfl (fun hb => (.strip rfl hb .nil)) (fun hb => o_call (gap_Until_c (of_gb h26 hb)) rfl (DLeL.refl _) rfl)) <| .cons (o_guardG .bT rfl rfl (fun hb => (.strip rfl hb .nil)) (fun hb => o_int rfl rfl rfl)) <| .cons (o_and rfl rfl) <| .cons (o_assign rfl) <| .nil _) (by kernel_rfl) (by kernel_rfl) ?_
            obtain rfl := Option.some.inj hM
            exact a_ret (a_post (.r1 (.tmp rfl)) (DLe.refl _) PostOk.nil.spec)
        · replace hd19 := Bool.eq_false_iff.2 hd19
          replace hM := (of_if hM).2 hd19
          refine a_region (.cons (o_move rfl) <| .cons (t_len rfl) <| .cons (o_int rfl rfl rfl) <| .cons (o_move rfl) <| .cons (o_guardG .bF rfl rfl (fun hb => (.keep .nil)) (fun hb => o_move rfl)) <| .cons (o_guardG .bF rfl rfl (fun hb => (.strip rfl hb .nil)) (fun hb => t_index (of_gb h15 hb) rfl rfl rfl)) <| .cons (o_guardG .bF rfl rfl (fun hb => (.strip rfl hb .nil)) (fun hb => o_load_er rfl rfl rfl)) <| .cons (o_guardG .bF rfl rfl (fun hb => .nil) (fun hb => o_build rfl rfl rfl)) <| .cons (o_guardG .bF rfl rfl (fun hb => (.strip rfl hb (.strip rfl hb .nil))) (fun hb => o_neS (b := ((v16.gComponent == 0) && ((v16.gFirst == 2) && ((v16.gCount == 3) && ((v16.gOpen == false) && ((v16.gFrom == 4) && ((v16.gTo == 9) && true))))))) rfl rfl rfl rfl rfl)) <| .cons (o_or rfl rfl) <| .cons (o_move rfl) <| .cons (o_guardG .bF rfl rfl (fun hb => (.keep .nil)) (fun hb => o_move rfl)) <| .cons (o_guardG .bF rfl rfl (fun hb => (.strip rfl hb .nil)) (fun hb => t_index (of_gb h17 hb) rfl rfl rfl)) <| .cons (o_guardG .bF rfl rfl (fun hb => (.strip rfl hb .nil)) (fun hb => o_load_er rfl rfl rfl)) <| .cons (o_guardG .bF rfl rfl (fun hb => .nil) (fun hb => o_build rfl rfl rfl)) <| .cons (o_guardG .bF rfl rfl (fun hb => (.strip rfl hb (.strip rfl hb .nil))) (fun hb => o_neS (b := ((v18.gComponent == 0) && ((v18.gFirst == 6) && ((v18.gCount == 0) && ((v18.gOpen == true) && ((v18.gFrom == 9) && ((v18.gTo == 20) && true))))))) rfl rfl rfl rfl rfl)) <| .cons (o_or rfl rfl) <| .cons (o_move rfl) <| .cons (o_guardG .bF rfl rfl (fun hb => (.keep .nil)) (fun hb => o_move rfl)) <| .cons (o_guardG .bF rfl rfl (fun hb => (.keep .nil)) (fun hb => o_move rfl)) <| .cons (o_guardOff (.int .i64 0) .bF rfl rfl hd19) <| .cons (o_guardOff (.bool false) .bF rfl rfl hd19) <| .cons (o_or rfl rfl) <| .nil _) (by kernel_rfl) (by kernel_rfl) ?_
          refine a_cond _ rfl (fun h19 => ?_) (fun h19 => ?_)
          · replace hM := (of_if hM).1 h19
            refine a_seq ?_
            refine a_region (.cons (o_assign rfl) <| .nil _) (by kernel_rfl) (by kernel_rfl) ?_
            obtain rfl := Option.some.inj hM
            exact a_ret (a_post (.r1 (.tmp rfl)) (DLe.refl _) PostOk.nil.spec)
          · replace hM := (of_if hM).2 h19
            refine a_skip ?_
            refine a_seq ?_
            obtain ⟨v21, h20, hM⟩ := of_bind hM
            refine a_region (.cons (o_move rfl) <| .cons (o_callN (fun i => bif Nat.beq i 100000 then 10001 else bif Nat.beq i 100001 then 10004 else i) 0 (gap_Of_v1_c h20) rfl (DLeL.refl _) (.cons rfl (.cons rfl .nil)) rfl (.cons rfl (.cons rfl .nil))) <| .cons (o_assign rfl) <| .nil _) (by kernel_rfl) (by kernel_rfl) ?_
            refine a_seq ?_
            obtain ⟨v23, h22, hM⟩ := of_bind hM
            obtain ⟨v25, h24, hM⟩ := of_bind hM
            refine a_region (.cons (o_move rfl) <| .cons (t_len rfl) <| .cons (o_int rfl rfl rfl) <| .cons (o_move rfl) <| .cons (o_guardG .bT rfl rfl (fun hb => (.keep .nil)) (fun hb => o_move rfl)) <| .cons (o_guardG .bT rfl rfl (fun hb => (.strip rfl hb .nil)) (fun hb => t_index (of_gb h22 hb) rfl rfl rfl)) <| .cons (o_guardG .bT rfl rfl (fun hb => (.strip rfl hb .nil)) (fun hb => o_load_er rfl rfl rfl)) <| .cons (o_guardG .bT rfl rfl (fun hb => .nil) (fun hb => o_build rfl rfl rfl)) <| .cons (o_guardG .bT rfl rfl (fun hb => (.strip rfl hb (.strip rfl hb .nil))) (fun hb => o_eqS (b := ((v23.gComponent == 0) && ((v23.gFirst == 6) && ((v23.gCount == 2) && ((v23.gOpen == false) && ((v23.gFrom == 9) && ((v23.gTo == 20) && true))))))) rfl rfl rfl rfl rfl)) <| .cons (o_and rfl rfl) <| .cons (o_move rfl) <| .cons (o_guardG .bT rfl rfl (fun hb => (.keep .nil)) (fun hb => o_move rfl)) <| .cons (o_guardG .bT rfl rfl (fun hb => (.strip rfl hb .nil)) (fun hb => o_call (gap_Until_c (of_gb h24 hb)) rfl (DLeL.refl _) rfl)) <| .cons (o_guardG .bT rfl rfl (fun hb => (.strip rfl hb .nil)) (fun hb => o_int rfl rfl rfl)) <| .cons (o_and rfl rfl) <| .cons (o_assign rfl) <| .nil _) (by kernel_rfl) (by kernel_rfl) ?_
            obtain rfl := Option.some.inj hM
            exact a_ret (a_post (.r1 (.tmp rfl)) (DLe.refl _) PostOk.nil.spec)
  · refine a_region (.cons (o_callN (fun i => i) 0 (collect_New_c1 h1) rfl (DLeL.refl _) .nil rfl .nil) <| .cons (o_move rfl) <| .cons (o_extract rfl rfl) <| .cons (o_extract rfl rfl) <| .cons (o_assign rfl) <| .cons (o_assign rfl) <| .nil _) (by kernel_rfl) (by kernel_rfl) ?_
    refine a_seq ?_
    refine a_seq ?_
    refine a_region (.cons (o_move rfl) <| .cons (o_int rfl rfl rfl) <| .cons (o_move rfl) <| .cons (o_guardOff (.val (.pointer none)) .bF rfl rfl rfl) <| .cons (o_guardOff (.bool false) .bF rfl rfl rfl) <| .cons (o_or rfl rfl) <| .nil _) (by kernel_rfl) (by kernel_rfl) ?_
    refine a_cond _ rfl (fun _ => ?_) (fun c => by cases c)
    refine a_seq ?_
    refine a_region (.cons (o_assign rfl) <| .nil _) (by kernel_rfl) (by kernel_rfl) ?_
    obtain rfl := Option.some.inj hM
    exact a_ret (a_post (.r1 (.tmp rfl)) (DLe.refl _) PostOk.nil.spec)

end Go.Proofs.YtepkcbalmjnhpaaGreat
