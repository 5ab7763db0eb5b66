/-
  What the claim leans on, part 12.
-/
import Derived.Test.YtepkcbalmjnhpaaGreatCEr11
set_option maxRecDepth 100000
set_option maxHeartbeats 4000000
set_option linter.unusedVariables false
set_option linter.unusedSimpArgs false
namespace Go.Proofs.YtepkcbalmjnhpaaGreat
open Go.RowKit
def CColl_Merge_a1 (o0 : CColl) : Option Int :=
  some 1
theorem CColl_Merge_a1_c {o0 : CColl} {r : Int} (hM : CColl_Merge_a1 o0 = some r) : ACall Tryz.prog 24 ⟨[.ref 100000 0, .val (.pointer none)], [(100000, some (.blk 134 [.row 100001])), (100001, some (.row 137 4 (List.map CPart.dv o0.gparts)))], .int .i64 r, [(100000, some (.blk 134 [.row 100001])), (100001, some (.row 137 4 (List.map CPart.dv o0.gparts)))], []⟩ := by
  unfold CColl_Merge_a1 at hM
  refine ACall.body Tryz.func24 Tryz.ntmps24 rfl rfl rfl rfl ?_
  refine a_seq (ar (.cons (o_assign rfl) <| .nil _) ?_)
  refine a_seq (a_seq (ad mixed (.cons (o_move rfl) <| .cons (o_ptr_eq rfl) <| .cons (o_move rfl) <| .cons (o_guardOn .bF rfl rfl rfl (.keep .nil) (o_move rfl)) <| .cons (o_guardOn .bF rfl rfl rfl (.strip rfl rfl .nil) (o_nil_eq rfl)) <| .cons (o_or rfl rfl) <| .cons (o_move rfl) <| .cons (o_guardOff (.val (.pointer none)) .bF rfl rfl rfl) <| .cons (o_guardOff (.val (.pointer none)) .bF rfl rfl rfl) <| .cons (o_guardOff (.val (.pointer none)) .bF rfl rfl rfl) <| .cons (o_guardOff (.nils) .bF rfl rfl rfl) <| .cons (o_guardOff (.int .i64 0) .bF rfl rfl rfl) <| .cons (o_guardOff (.val (.pointer none)) .bF rfl rfl rfl) <| .cons (o_guardOff (.val (.pointer none)) .bF rfl rfl rfl) <| .cons (o_guardOff (.val (.pointer none)) .bF rfl rfl rfl) <| .cons (o_guardOff (.nils) .bF rfl rfl rfl) <| .cons (o_guardOff (.int .i64 0) .bF rfl rfl rfl) <| .cons (o_guardOff (.bool false) .bF rfl rfl rfl) <| .cons (o_or rfl rfl) <| .nil _) ?_))
  refine a_cond _ rfl (fun _ => ?_) (fun c => by cases c)
  refine a_seq (ar (.cons (o_assign rfl) <| .nil _) ?_)
  obtain rfl := Option.some.inj hM
  refine a_imp (σ' := ⟨[(4, .int .i64 1)], [(100000, some (.blk 134 [.row 100001])), (100001, some (.row 137 4 (List.map CPart.dv o0.gparts)))], [100000, 100001]⟩) (Imp.sh (fun i => i) rfl rfl rfl rfl rfl rfl) ?_
  exact a_ret (a_post (.r1 (.tmp rfl)) (DLe.refl _) (PostOk.spec (.cons rfl (.cons rfl .nil))))
def CColl_part_a1 (x1 : Int) : Option CPart :=
  some (CPart.mk [] [] false 0)
theorem CColl_part_a1_c {x1 : Int} {r : CPart} (hM : CColl_part_a1 x1 = some r) : ACall Tryz.prog 76 ⟨[.val (.pointer none), .int .i64 x1], [], .agg (CPart.cs r), [], []⟩ := by
  unfold CColl_part_a1 at hM
  refine ACall.body Tryz.func76 Tryz.ntmps76 rfl rfl rfl rfl ?_
  refine a_seq (ar (.cons (o_alloc rfl) <| .nil _) ?_)
  refine a_seq (a_seq (ar (.cons (o_move rfl) <| .cons (o_nil_eq rfl) <| .cons (o_move rfl) <| .cons (o_guardOff (.int .i64 0) .bF rfl rfl rfl) <| .cons (o_guardOff (.bool false) .bF rfl rfl rfl) <| .cons (o_or rfl rfl) <| .cons (o_move rfl) <| .cons (o_guardOff (.int .i64 0) .bF rfl rfl rfl) <| .cons (o_guardOff (.val (.pointer none)) .bF rfl rfl rfl) <| .cons (o_guardOff (.val (.pointer none)) .bF rfl rfl rfl) <| .cons (o_guardOff (.val (.pointer none)) .bF rfl rfl rfl) <| .cons (o_guardOff (.nils) .bF rfl rfl rfl) <| .cons (o_guardOff (.int .i64 0) .bF rfl rfl rfl) <| .cons (o_guardOff (.bool false) .bF rfl rfl rfl) <| .cons (o_or rfl rfl) <| .nil _) ?_))
  refine a_cond _ rfl (fun _ => ?_) (fun c => by cases c)
  refine a_seq (ar (.cons (o_build rfl rfl rfl) <| .cons (o_store rfl rfl rfl rfl rfl rfl rfl) <| .nil _) ?_)
  obtain rfl := Option.some.inj hM
  refine a_imp (σ' := ⟨[(4, .ref 4 0)], [(4, some (.blk 137 [.nils, .nils, .bool false, .int .u64 0]))], [4]⟩) (Imp.sh (fun i => i) rfl rfl rfl rfl rfl rfl) ?_
  exact a_ret (a_post (.r1 (.cell rfl rfl (.row _ CRow.h (Nat.le_of_ble_eq_true rfl) rfl))) (DLe.agg (.cons (DLe.nils _) (.cons (DLe.nils _) (.cons (DLe.refl _) (.cons (DLe.refl _) .nil))))) (PostOk.spec .nil))
def CColl_Total_a1 (x1 : Int) : Option (Int × Bool) :=
  (CColl_part_a1 x1).bind fun v2 =>
  some (v2.gtotal, v2.gknown)
theorem CColl_Total_a1_c {x1 : Int} {r : Int × Bool} (hM : CColl_Total_a1 x1 = some r) : ACall Tryz.prog 30 ⟨[.val (.pointer none), .int .i64 x1], [], .tup [.int .u64 r.1, .bool r.2], [], []⟩ := by
  unfold CColl_Total_a1 at hM
  refine ACall.body Tryz.func30 Tryz.ntmps30 rfl rfl rfl rfl ?_
  refine a_seq (ar (.cons (o_assign rfl) <| .cons (o_assign rfl) <| .nil _) ?_)
  refine a_seq ?_
  obtain ⟨v2, h1, hM⟩ := of_bind hM
  refine ar (.cons (o_move rfl) <| .cons (o_move rfl) <| .cons (o_callN (fun i => i) 0 (CColl_part_a1_c h1) rfl (DLeL.refl _) .nil rfl .nil) <| .cons (o_alloc rfl) <| .cons (o_store rfl rfl rfl rfl rfl rfl rfl) <| .nil _) ?_
  refine a_seq (ad mixed (.cons (o_fieldAddr rfl) <| .cons (o_load_s rfl rfl rfl) <| .cons (o_fieldAddr rfl) <| .cons (o_load_s rfl rfl rfl) <| .cons (o_assign rfl) <| .cons (o_assign rfl) <| .nil _) ?_)
  obtain rfl := Option.some.inj hM
  refine a_imp (σ' := ⟨[(4, .int .u64 v2.gtotal), (5, .bool v2.gknown)], [], []⟩) (Imp.sh (fun i => i) rfl rfl rfl rfl rfl rfl) ?_
  exact a_ret (a_post (.r2 (.tmp rfl) (.tmp rfl)) (DLe.refl _) (PostOk.spec .nil))
def CColl_Add_a1 (x1 : Int) (x2 : List Int) : Option Int :=
  some 1
theorem CColl_Add_a1_c {x1 : Int} {x2 : List Int} {r : Int} (hM : CColl_Add_a1 x1 x2 = some r) : ACall Tryz.prog 20 ⟨[.val (.pointer none), .int .i64 x1, .sl 1 (List.map (DV.int .u8) x2)], [], .int .i64 r, [], []⟩ := by
  unfold CColl_Add_a1 at hM
  refine ACall.body Tryz.func20 Tryz.ntmps20 rfl rfl rfl rfl ?_
  refine a_seq (ar (.cons (o_assign rfl) <| .nil _) ?_)
  refine a_seq (a_seq (ar (.cons (o_move rfl) <| .cons (o_nil_eq rfl) <| .cons (o_move rfl) <| .cons (o_guardOff (.int .i64 0) .bF rfl rfl rfl) <| .cons (o_guardOff (.bool false) .bF rfl rfl rfl) <| .cons (o_or rfl rfl) <| .cons (o_move rfl) <| .cons (o_guardOff (.int .i64 0) .bF rfl rfl rfl) <| .cons (o_guardOff (.val (.pointer none)) .bF rfl rfl rfl) <| .cons (o_guardOff (.val (.pointer none)) .bF rfl rfl rfl) <| .cons (o_guardOff (.val (.pointer none)) .bF rfl rfl rfl) <| .cons (o_guardOff (.nils) .bF rfl rfl rfl) <| .cons (o_guardOff (.int .i64 0) .bF rfl rfl rfl) <| .cons (o_guardOff (.bool false) .bF rfl rfl rfl) <| .cons (o_or rfl rfl) <| .nil _) ?_))
  refine a_cond _ rfl (fun _ => ?_) (fun c => by cases c)
  refine a_seq (ar (.cons (o_assign rfl) <| .nil _) ?_)
  obtain rfl := Option.some.inj hM
  refine a_imp (σ' := ⟨[(6, .int .i64 1)], [], []⟩) (Imp.sh (fun i => i) rfl rfl rfl rfl rfl rfl) ?_
  exact a_ret (a_post (.r1 (.tmp rfl)) (DLe.refl _) (PostOk.spec .nil))
def CColl_Merge_a2 (o0 : CColl) : Option Int :=
  some 1
theorem CColl_Merge_a2_c {o0 : CColl} {r : Int} (hM : CColl_Merge_a2 o0 = some r) : ACall Tryz.prog 24 ⟨[.val (.pointer none), .ref 100000 0], [(100000, some (.blk 134 [.row 100001])), (100001, some (.row 137 4 (List.map CPart.dv o0.gparts)))], .int .i64 r, [(100000, some (.blk 134 [.row 100001])), (100001, some (.row 137 4 (List.map CPart.dv o0.gparts)))], []⟩ := by
  unfold CColl_Merge_a2 at hM
  refine ACall.body Tryz.func24 Tryz.ntmps24 rfl rfl rfl rfl ?_
  refine a_seq (ar (.cons (o_assign rfl) <| .nil _) ?_)
  refine a_seq (a_seq (ad mixed (.cons (o_move rfl) <| .cons (o_nil_eq rfl) <| .cons (o_move rfl) <| .cons (o_guardOff (.val (.pointer none)) .bF rfl rfl rfl) <| .cons (o_guardOff (.bool false) .bF rfl rfl rfl) <| .cons (o_or rfl rfl) <| .cons (o_move rfl) <| .cons (o_guardOff (.val (.pointer none)) .bF rfl rfl rfl) <| .cons (o_guardOff (.val (.pointer none)) .bF rfl rfl rfl) <| .cons (o_guardOff (.val (.pointer none)) .bF rfl rfl rfl) <| .cons (o_guardOff (.nils) .bF rfl rfl rfl) <| .cons (o_guardOff (.int .i64 0) .bF rfl rfl rfl) <| .cons (o_guardOff (.val (.pointer none)) .bF rfl rfl rfl) <| .cons (o_guardOff (.val (.pointer none)) .bF rfl rfl rfl) <| .cons (o_guardOff (.val (.pointer none)) .bF rfl rfl rfl) <| .cons (o_guardOff (.nils) .bF rfl rfl rfl) <| .cons (o_guardOff (.int .i64 0) .bF rfl rfl rfl) <| .cons (o_guardOff (.bool false) .bF rfl rfl rfl) <| .cons (o_or rfl rfl) <| .nil _) ?_))
  refine a_cond _ rfl (fun _ => ?_) (fun c => by cases c)
  refine a_seq (ar (.cons (o_assign rfl) <| .nil _) ?_)
  obtain rfl := Option.some.inj hM
  refine a_imp (σ' := ⟨[(4, .int .i64 1)], [(100000, some (.blk 134 [.row 100001])), (100001, some (.row 137 4 (List.map CPart.dv o0.gparts)))], [100000, 100001]⟩) (Imp.sh (fun i => i) rfl rfl rfl rfl rfl rfl) ?_
  exact a_ret (a_post (.r1 (.tmp rfl)) (DLe.refl _) (PostOk.spec (.cons rfl (.cons rfl .nil))))
def CColl_Components_a1 : Option Int :=
  some 0
theorem CColl_Components_a1_c {r : Int} (hM : CColl_Components_a1 = some r) : ACall Tryz.prog 40 ⟨[.val (.pointer none)], [], .int .i64 r, [], []⟩ := by
  unfold CColl_Components_a1 at hM
  refine ACall.body Tryz.func40 Tryz.ntmps40 rfl rfl rfl rfl ?_
  refine a_seq (ar (.cons (o_assign rfl) <| .nil _) ?_)
  refine a_seq (a_seq (ar (.cons (o_move rfl) <| .cons (o_nil_eq rfl) <| .nil _) ?_))
  refine a_cond _ rfl (fun _ => ?_) (fun c => by cases c)
  refine a_seq (ar (.cons (o_assign rfl) <| .nil _) ?_)
  obtain rfl := Option.some.inj hM
  refine a_imp (σ' := ⟨[(2, .int .i64 0)], [], []⟩) (Imp.sh (fun i => i) rfl rfl rfl rfl rfl rfl) ?_
  exact a_ret (a_post (.r1 (.tmp rfl)) (DLe.refl _) (PostOk.spec .nil))
def CColl_Records_a1 (x1 : Int) : Option (List RRec) :=
  (CColl_part_a1 x1).bind fun v2 =>
  (collect_cloneAll v2.gentries).bind fun v4 =>
  some v4
theorem CColl_Records_a1_c {x1 : Int} {r : (List RRec)} (hM : CColl_Records_a1 x1 = some r) : ACall Tryz.prog 28 ⟨[.val (.pointer none), .int .i64 x1], [], .sl 29 (List.map RRec.dv r), [], []⟩ := by
  unfold CColl_Records_a1 at hM
  refine ACall.body Tryz.func28 Tryz.ntmps28 rfl rfl rfl rfl ?_
  refine a_seq (ar (.cons (o_assign rfl) <| .nil _) ?_)
  refine a_seq ?_
  obtain ⟨v2, h1, hM⟩ := of_bind hM
  obtain ⟨v4, h3, hM⟩ := of_bind hM
  refine ar (.cons (o_move rfl) <| .cons (o_move rfl) <| .cons (o_callN (fun i => i) 0 (CColl_part_a1_c h1) rfl (DLeL.refl _) .nil rfl .nil) <| .cons (o_field_s rfl rfl) <| .cons (o_call (collect_cloneAll_c h3) rfl (DLeL.refl _) rfl) <| .cons (o_assign rfl) <| .nil _) ?_
  obtain rfl := Option.some.inj hM
  refine a_imp (σ' := ⟨[(4, .sl 29 (List.map RRec.dv v4))], [], []⟩) (Imp.sh (fun i => i) rfl rfl rfl rfl rfl rfl) ?_
  exact a_ret (a_post (.r1 (.tmp rfl)) (DLe.refl _) (PostOk.spec .nil))
def CColl_Missing_a1 (x1 : Int) : Option (List (Nat → Int)) :=
  (CColl_part_a1 x1).bind fun v2 =>
  (CPart_missing v2).bind fun v4 =>
  (collect_pairs v4).bind fun v6 =>
  some v6
theorem CColl_Missing_a1_c {x1 : Int} {r : (List (Nat → Int))} (hM : CColl_Missing_a1 x1 = some r) : ACall Tryz.prog 31 ⟨[.val (.pointer none), .int .i64 x1], [], .sl 2 (List.map array_2_uint64.dv r), [], []⟩ := by
  unfold CColl_Missing_a1 at hM
  refine ACall.body Tryz.func31 Tryz.ntmps31 rfl rfl rfl rfl ?_
  refine a_seq (ar (.cons (o_assign rfl) <| .nil _) ?_)
  refine a_seq ?_
  obtain ⟨v2, h1, hM⟩ := of_bind hM
  obtain ⟨v4, h3, hM⟩ := of_bind hM
  obtain ⟨v6, h5, hM⟩ := of_bind hM
  refine ar (.cons (o_move rfl) <| .cons (o_move rfl) <| .cons (o_callN (fun i => i) 0 (CColl_part_a1_c h1) rfl (DLeL.refl _) .nil rfl .nil) <| .cons (o_call (CPart_missing_c h3) rfl (DLeL.refl _) rfl) <| .cons (o_call (collect_pairs_c h5) rfl (DLeL.refl _) rfl) <| .cons (o_assign rfl) <| .nil _) ?_
  obtain rfl := Option.some.inj hM
  refine a_imp (σ' := ⟨[(4, .sl 2 (List.map array_2_uint64.dv v6))], [], []⟩) (Imp.sh (fun i => i) rfl rfl rfl rfl rfl rfl) ?_
  exact a_ret (a_post (.r1 (.tmp rfl)) (DLe.refl _) (PostOk.spec .nil))
def CColl_Lost_a1 (x1 : Int) : Option (List (Nat → Int)) :=
  (CColl_part_a1 x1).bind fun v2 =>
  (collect_pairs v2.glost).bind fun v4 =>
  some v4
theorem CColl_Lost_a1_c {x1 : Int} {r : (List (Nat → Int))} (hM : CColl_Lost_a1 x1 = some r) : ACall Tryz.prog 42 ⟨[.val (.pointer none), .int .i64 x1], [], .sl 2 (List.map array_2_uint64.dv r), [], []⟩ := by
  unfold CColl_Lost_a1 at hM
  refine ACall.body Tryz.func42 Tryz.ntmps42 rfl rfl rfl rfl ?_
  refine a_seq (ar (.cons (o_assign rfl) <| .nil _) ?_)
  refine a_seq ?_
  obtain ⟨v2, h1, hM⟩ := of_bind hM
  obtain ⟨v4, h3, hM⟩ := of_bind hM
  refine ar (.cons (o_move rfl) <| .cons (o_move rfl) <| .cons (o_callN (fun i => i) 0 (CColl_part_a1_c h1) rfl (DLeL.refl _) .nil rfl .nil) <| .cons (o_field_s rfl rfl) <| .cons (o_call (collect_pairs_c h3) rfl (DLeL.refl _) rfl) <| .cons (o_assign rfl) <| .nil _) ?_
  obtain rfl := Option.some.inj hM
  refine a_imp (σ' := ⟨[(4, .sl 2 (List.map array_2_uint64.dv v4))], [], []⟩) (Imp.sh (fun i => i) rfl rfl rfl rfl rfl rfl) ?_
  exact a_ret (a_post (.r1 (.tmp rfl)) (DLe.refl _) (PostOk.spec .nil))
def CColl_Complete_a1 : Option Bool :=
  some false
theorem CColl_Complete_a1_c {r : Bool} (hM : CColl_Complete_a1 = some r) : ACall Tryz.prog 41 ⟨[.val (.pointer none)], [], .bool r, [], []⟩ := by
  unfold CColl_Complete_a1 at hM
  refine ACall.body Tryz.func41 Tryz.ntmps41 rfl rfl rfl rfl ?_
  refine a_seq (ar (.cons (o_assign rfl) <| .nil _) ?_)
  refine a_seq (a_seq (ar (.cons (o_move rfl) <| .cons (o_nil_eq rfl) <| .cons (o_move rfl) <| .cons (o_guardOff (.val (.pointer none)) .bF rfl rfl rfl) <| .cons (o_guardOff (.val (.pointer none)) .bF rfl rfl rfl) <| .cons (o_guardOff (.val (.pointer none)) .bF rfl rfl rfl) <| .cons (o_guardOff (.nils) .bF rfl rfl rfl) <| .cons (o_guardOff (.int .i64 0) .bF rfl rfl rfl) <| .cons (o_guardOff (.bool false) .bF rfl rfl rfl) <| .cons (o_or rfl rfl) <| .nil _) ?_))
  refine a_cond _ rfl (fun _ => ?_) (fun c => by cases c)
  refine a_seq (ar (.cons (o_assign rfl) <| .nil _) ?_)
  obtain rfl := Option.some.inj hM
  refine a_imp (σ' := ⟨[(2, .bool false)], [], []⟩) (Imp.sh (fun i => i) rfl rfl rfl rfl rfl rfl) ?_
  exact a_ret (a_post (.r1 (.tmp rfl)) (DLe.refl _) (PostOk.spec .nil))
def CColl_Copy_a1 : Option Unit :=
  some ()
theorem CColl_Copy_a1_c {r : Unit} (hM : CColl_Copy_a1 = some r) : ACall Tryz.prog 27 ⟨[.val (.pointer none)], [], .val (.pointer none), [], []⟩ := by
  unfold CColl_Copy_a1 at hM
  refine ACall.body Tryz.func27 Tryz.ntmps27 rfl rfl rfl rfl ?_
  refine a_seq (ar (.cons (o_assign rfl) <| .nil _) ?_)
  refine a_seq (a_seq (ar (.cons (o_move rfl) <| .cons (o_nil_eq rfl) <| .nil _) ?_))
  refine a_cond _ rfl (fun _ => ?_) (fun c => by cases c)
  refine a_seq (ar (.cons (o_assign rfl) <| .nil _) ?_)
  obtain rfl := Option.some.inj hM
  refine a_imp (σ' := ⟨[(2, .val (.pointer none))], [], []⟩) (Imp.sh (fun i => i) rfl rfl rfl rfl rfl rfl) ?_
  exact a_ret (a_post (.r1 (.tmp rfl)) (DLe.refl _) (PostOk.spec .nil))
def CColl_Equal_a1 : Option Bool :=
  some true
theorem CColl_Equal_a1_c {r : Bool} (hM : CColl_Equal_a1 = some r) : ACall Tryz.prog 26 ⟨[.val (.pointer none), .val (.pointer none)], [], .bool r, [], []⟩ := by
  unfold CColl_Equal_a1 at hM
  refine ACall.body Tryz.func26 Tryz.ntmps26 rfl rfl rfl rfl ?_
  refine a_seq (ar (.cons (o_assign rfl) <| .nil _) ?_)
  refine a_seq (a_seq (ar (.cons (o_move rfl) <| .cons (o_nil_eq rfl) <| .cons (o_move rfl) <| .cons (o_guardOff (.val (.pointer none)) .bF rfl rfl rfl) <| .cons (o_guardOff (.bool false) .bF rfl rfl rfl) <| .cons (o_or rfl rfl) <| .nil _) ?_))
  refine a_cond _ rfl (fun _ => ?_) (fun c => by cases c)
  refine a_seq (ar (.cons (o_move rfl) <| .cons (o_nil_eq rfl) <| .cons (o_move rfl) <| .cons (o_guardOn .bT rfl rfl rfl (.keep .nil) (o_move rfl)) <| .cons (o_guardOn .bT rfl rfl rfl (.strip rfl rfl .nil) (o_nil_eq rfl)) <| .cons (o_and rfl rfl) <| .cons (o_assign rfl) <| .nil _) ?_)
  obtain rfl := Option.some.inj hM
  refine a_imp (σ' := ⟨[(4, .bool true)], [], []⟩) (Imp.sh (fun i => i) rfl rfl rfl rfl rfl rfl) ?_
  exact a_ret (a_post (.r1 (.tmp rfl)) (DLe.refl _) (PostOk.spec .nil))
def CColl_Equal_a2 (o0 : CColl) : Option Bool :=
  some false
theorem CColl_Equal_a2_c {o0 : CColl} {r : Bool} (hM : CColl_Equal_a2 o0 = some r) : ACall Tryz.prog 26 ⟨[.val (.pointer none), .ref 100000 0], [(100000, some (.blk 134 [.row 100001])), (100001, some (.row 137 4 (List.map CPart.dv o0.gparts)))], .bool r, [(100000, some (.blk 134 [.row 100001])), (100001, some (.row 137 4 (List.map CPart.dv o0.gparts)))], []⟩ := by
  unfold CColl_Equal_a2 at hM
  refine ACall.body Tryz.func26 Tryz.ntmps26 rfl rfl rfl rfl ?_
  refine a_seq (ar (.cons (o_assign rfl) <| .nil _) ?_)
  refine a_seq (a_seq (ar (.cons (o_move rfl) <| .cons (o_nil_eq rfl) <| .cons (o_move rfl) <| .cons (o_guardOff (.val (.pointer none)) .bF rfl rfl rfl) <| .cons (o_guardOff (.bool false) .bF rfl rfl rfl) <| .cons (o_or rfl rfl) <| .nil _) ?_))
  refine a_cond _ rfl (fun _ => ?_) (fun c => by cases c)
  refine a_seq (ar (.cons (o_move rfl) <| .cons (o_nil_eq rfl) <| .cons (o_move rfl) <| .cons (o_guardOn .bT rfl rfl rfl (.keep .nil) (o_move rfl)) <| .cons (o_guardOn .bT rfl rfl rfl (.strip rfl rfl .nil) (o_ptr_eq rfl)) <| .cons (o_and rfl rfl) <| .cons (o_assign rfl) <| .nil _) ?_)
  obtain rfl := Option.some.inj hM
  refine a_imp (σ' := ⟨[(4, .bool false)], [(100000, some (.blk 134 [.row 100001])), (100001, some (.row 137 4 (List.map CPart.dv o0.gparts)))], [100000, 100001]⟩) (Imp.sh (fun i => i) rfl rfl rfl rfl rfl rfl) ?_
  exact a_ret (a_post (.r1 (.tmp rfl)) (DLe.refl _) (PostOk.spec (.cons rfl (.cons rfl .nil))))
def CColl_Equal_a3 (o0 : CColl) : Option Bool :=
  some false
theorem CColl_Equal_a3_c {o0 : CColl} {r : Bool} (hM : CColl_Equal_a3 o0 = some r) : ACall Tryz.prog 26 ⟨[.ref 100000 0, .val (.pointer none)], [(100000, some (.blk 134 [.row 100001])), (100001, some (.row 137 4 (List.map CPart.dv o0.gparts)))], .bool r, [(100000, some (.blk 134 [.row 100001])), (100001, some (.row 137 4 (List.map CPart.dv o0.gparts)))], []⟩ := by
  unfold CColl_Equal_a3 at hM
  refine ACall.body Tryz.func26 Tryz.ntmps26 rfl rfl rfl rfl ?_
  refine a_seq (ar (.cons (o_assign rfl) <| .nil _) ?_)
  refine a_seq (a_seq (ar (.cons (o_move rfl) <| .cons (o_ptr_eq rfl) <| .cons (o_move rfl) <| .cons (o_guardOn .bF rfl rfl rfl (.keep .nil) (o_move rfl)) <| .cons (o_guardOn .bF rfl rfl rfl (.strip rfl rfl .nil) (o_nil_eq rfl)) <| .cons (o_or rfl rfl) <| .nil _) ?_))
  refine a_cond _ rfl (fun _ => ?_) (fun c => by cases c)
  refine a_seq (ar (.cons (o_move rfl) <| .cons (o_ptr_eq rfl) <| .cons (o_move rfl) <| .cons (o_guardOff (.val (.pointer none)) .bT rfl rfl rfl) <| .cons (o_guardOff (.bool false) .bT rfl rfl rfl) <| .cons (o_and rfl rfl) <| .cons (o_assign rfl) <| .nil _) ?_)
  obtain rfl := Option.some.inj hM
  refine a_imp (σ' := ⟨[(4, .bool false)], [(100000, some (.blk 134 [.row 100001])), (100001, some (.row 137 4 (List.map CPart.dv o0.gparts)))], [100000, 100001]⟩) (Imp.sh (fun i => i) rfl rfl rfl rfl rfl rfl) ?_
  exact a_ret (a_post (.r1 (.tmp rfl)) (DLe.refl _) (PostOk.spec (.cons rfl (.cons rfl .nil))))
def CColl_Bytes_a : Option (List Int) :=
  some ([] : List Int)
theorem CColl_Bytes_a_c {r : (List Int)} (hM : CColl_Bytes_a = some r) : ACall Tryz.prog 43 ⟨[.val (.pointer none)], [], .row 50000, [(50000, some (.row 5 1 (List.map (DV.int .u8) r)))], [50000]⟩ := by
  unfold CColl_Bytes_a at hM
  refine ACall.body Tryz.func43 Tryz.ntmps43 rfl rfl rfl rfl ?_
  refine a_seq (ar (.cons (o_assign rfl) <| .nil _) ?_)
  refine a_seq (a_seq (ar (.cons (o_move rfl) <| .cons (o_nil_eq rfl) <| .nil _) ?_))
  refine a_cond _ rfl (fun _ => ?_) (fun c => by cases c)
  refine a_seq (ar (.cons (o_assign rfl) <| .nil _) ?_)
  obtain rfl := Option.some.inj hM
  refine a_imp (Imp.nilRow (t := 2) (id := 49002) 5 1 rfl rfl) ?_
  refine a_imp (σ' := ⟨[(2, .row 50000)], [(50000, some (.row 5 1 (List.map (DV.int .u8) ([] : List Int))))], [50000]⟩) (Imp.sh (fun i => bif Nat.beq i 50000 then 49002 else i) rfl rfl rfl rfl rfl rfl) ?_
  exact a_ret (a_post (.r1 (.tmp rfl)) (DLe.refl _) (PostOk.spec (.cons rfl .nil)))
def w30_CollectErrs_K2 (a17 : List CPart) : Option Bool :=
  (CColl_Total_a1 0).bind fun v19 =>
  (CColl_Add_a1 0 ([] : List Int)).bind fun v21 =>
  (gb (v21 == 1) (0) (CColl_Merge_a2 (CColl.mk a17))).bind fun v23 =>
  (gb ((v21 == 1) && (v23 == 1)) (0) CColl_Components_a1).bind fun v25 =>
  (gb (((v21 == 1) && (v23 == 1)) && (v25 == 0)) (([] : List RRec)) (CColl_Records_a1 0)).bind fun v27 =>
  (gb ((((((v21 == 1) && (v23 == 1)) && (v25 == 0)) && ((List.length v27 : Int) == 0)) && (v19.1 == 0)) && (!v19.2)) (([] : List (Nat → Int))) (CColl_Missing_a1 0)).bind fun v29 =>
  (gb (((((((v21 == 1) && (v23 == 1)) && (v25 == 0)) && ((List.length v27 : Int) == 0)) && (v19.1 == 0)) && (!v19.2)) && ((List.length v29 : Int) == 0)) (([] : List (Nat → Int))) (CColl_Lost_a1 0)).bind fun v31 =>
  (gb ((((((((v21 == 1) && (v23 == 1)) && (v25 == 0)) && ((List.length v27 : Int) == 0)) && (v19.1 == 0)) && (!v19.2)) && ((List.length v29 : Int) == 0)) && ((List.length v31 : Int) == 0)) (false) CColl_Complete_a1).bind fun v33 =>
  (gb (((((((((v21 == 1) && (v23 == 1)) && (v25 == 0)) && ((List.length v27 : Int) == 0)) && (v19.1 == 0)) && (!v19.2)) && ((List.length v29 : Int) == 0)) && ((List.length v31 : Int) == 0)) && (!v33)) () CColl_Copy_a1).bind fun v35 =>
  (gb ((((((((((v21 == 1) && (v23 == 1)) && (v25 == 0)) && ((List.length v27 : Int) == 0)) && (v19.1 == 0)) && (!v19.2)) && ((List.length v29 : Int) == 0)) && ((List.length v31 : Int) == 0)) && (!v33)) && true) (false) CColl_Equal_a1).bind fun v37 =>
  (gb (((((((((((v21 == 1) && (v23 == 1)) && (v25 == 0)) && ((List.length v27 : Int) == 0)) && (v19.1 == 0)) && (!v19.2)) && ((List.length v29 : Int) == 0)) && ((List.length v31 : Int) == 0)) && (!v33)) && true) && v37) (false) (CColl_Equal_a2 (CColl.mk a17))).bind fun v39 =>
  (gb ((((((((((((v21 == 1) && (v23 == 1)) && (v25 == 0)) && ((List.length v27 : Int) == 0)) && (v19.1 == 0)) && (!v19.2)) && ((List.length v29 : Int) == 0)) && ((List.length v31 : Int) == 0)) && (!v33)) && true) && v37) && (!v39)) (false) (CColl_Equal_a3 (CColl.mk a17))).bind fun v41 =>
  if (((((((((((((v21 == 1) && (v23 == 1)) && (v25 == 0)) && ((List.length v27 : Int) == 0)) && (v19.1 == 0)) && (!v19.2)) && ((List.length v29 : Int) == 0)) && ((List.length v31 : Int) == 0)) && (!v33)) && true) && v37) && (!v39)) && (!v41)) = true then
    (CColl_Bytes_a).bind fun v43 =>
    some ((((((((((((((v21 == 1) && (v23 == 1)) && (v25 == 0)) && ((List.length v27 : Int) == 0)) && (v19.1 == 0)) && (!v19.2)) && ((List.length v29 : Int) == 0)) && ((List.length v31 : Int) == 0)) && (!v33)) && true) && v37) && (!v39)) && (!v41)) && ((List.length v43 : Int) == 0))
  else
    some ((((((((((((((v21 == 1) && (v23 == 1)) && (v25 == 0)) && ((List.length v27 : Int) == 0)) && (v19.1 == 0)) && (!v19.2)) && ((List.length v29 : Int) == 0)) && ((List.length v31 : Int) == 0)) && (!v33)) && true) && v37) && (!v39)) && (!v41)) && false)
def w30_CollectErrs_K1 (x1 : Int) (x2 : List w30_File) : Option Bool :=
  (w30_collected 0 x2).bind fun v4 =>
  match v4 with
  | .inl v4_0 =>
    (w30_awake).bind fun v6 =>
    if ((!v6) || false) = true then
      some false
    else
      (collect_New (List.length v4_0.2 : Int)).bind fun v9 =>
      match v9 with
      | .inl v9_0 =>
        (CColl_Merge_a v4_0.1 v9_0).bind fun v11 =>
        (gb (!(v11.1 != 1)) (0) (CColl_Merge_a1 v11.2)).bind fun v13 =>
        (gb (!((v11.1 != 1) || (v13 != 1))) (false) (w30_agrees_a v11.2 v4_0.2)).bind fun v15 =>
        if (((v11.1 != 1) || (v13 != 1)) || (!v15)) = true then
          some false
        else
          if ((decide (x1 < 0)) || (decide (1 < x1))) = true then
            (CColl_Total_a x1 v11.2).bind fun v46 =>
            (CColl_Add_a x1 ([] : List Int) v11.2).bind fun v48 =>
            (gb (!(v48.1 != 1)) (([] : List RRec)) (CColl_Records_a x1 v48.2)).bind fun v50 =>
            (gb (!((((v48.1 != 1) || ((List.length v50 : Int) != 0)) || (v46.1 != 0)) || v46.2)) (([] : List (Nat → Int))) (CColl_Missing_a x1 v48.2)).bind fun v52 =>
            (gb (!(((((v48.1 != 1) || ((List.length v50 : Int) != 0)) || (v46.1 != 0)) || v46.2) || ((List.length v52 : Int) != 0))) (([] : List (Nat → Int))) (CColl_Lost_a x1 v48.2)).bind fun v54 =>
            if ((((((v48.1 != 1) || ((List.length v50 : Int) != 0)) || (v46.1 != 0)) || v46.2) || ((List.length v52 : Int) != 0)) || ((List.length v54 : Int) != 0)) = true then
              some false
            else
              w30_CollectErrs_K2 v48.2.gparts
          else
            w30_CollectErrs_K2 v11.2.gparts
      | .inr v9_1 =>
        none
  | .inr v4_1 =>
    none
def w30_CollectErrs_K4 (a17 : List CPart) : Option Bool :=
  (CColl_Total_a1 0).bind fun v19 =>
  (CColl_Add_a1 0 ([] : List Int)).bind fun v21 =>
  (gb (v21 == 1) (0) (CColl_Merge_a2 (CColl.mk a17))).bind fun v23 =>
  (gb ((v21 == 1) && (v23 == 1)) (0) CColl_Components_a1).bind fun v25 =>
  (gb (((v21 == 1) && (v23 == 1)) && (v25 == 0)) (([] : List RRec)) (CColl_Records_a1 0)).bind fun v27 =>
  (gb ((((((v21 == 1) && (v23 == 1)) && (v25 == 0)) && ((List.length v27 : Int) == 0)) && (v19.1 == 0)) && (!v19.2)) (([] : List (Nat → Int))) (CColl_Missing_a1 0)).bind fun v29 =>
  (gb (((((((v21 == 1) && (v23 == 1)) && (v25 == 0)) && ((List.length v27 : Int) == 0)) && (v19.1 == 0)) && (!v19.2)) && ((List.length v29 : Int) == 0)) (([] : List (Nat → Int))) (CColl_Lost_a1 0)).bind fun v31 =>
  (gb ((((((((v21 == 1) && (v23 == 1)) && (v25 == 0)) && ((List.length v27 : Int) == 0)) && (v19.1 == 0)) && (!v19.2)) && ((List.length v29 : Int) == 0)) && ((List.length v31 : Int) == 0)) (false) CColl_Complete_a1).bind fun v33 =>
  (gb (((((((((v21 == 1) && (v23 == 1)) && (v25 == 0)) && ((List.length v27 : Int) == 0)) && (v19.1 == 0)) && (!v19.2)) && ((List.length v29 : Int) == 0)) && ((List.length v31 : Int) == 0)) && (!v33)) () CColl_Copy_a1).bind fun v35 =>
  (gb ((((((((((v21 == 1) && (v23 == 1)) && (v25 == 0)) && ((List.length v27 : Int) == 0)) && (v19.1 == 0)) && (!v19.2)) && ((List.length v29 : Int) == 0)) && ((List.length v31 : Int) == 0)) && (!v33)) && true) (false) CColl_Equal_a1).bind fun v37 =>
  (gb (((((((((((v21 == 1) && (v23 == 1)) && (v25 == 0)) && ((List.length v27 : Int) == 0)) && (v19.1 == 0)) && (!v19.2)) && ((List.length v29 : Int) == 0)) && ((List.length v31 : Int) == 0)) && (!v33)) && true) && v37) (false) (CColl_Equal_a2 (CColl.mk a17))).bind fun v39 =>
  (gb ((((((((((((v21 == 1) && (v23 == 1)) && (v25 == 0)) && ((List.length v27 : Int) == 0)) && (v19.1 == 0)) && (!v19.2)) && ((List.length v29 : Int) == 0)) && ((List.length v31 : Int) == 0)) && (!v33)) && true) && v37) && (!v39)) (false) (CColl_Equal_a3 (CColl.mk a17))).bind fun v41 =>
  if (((((((((((((v21 == 1) && (v23 == 1)) && (v25 == 0)) && ((List.length v27 : Int) == 0)) && (v19.1 == 0)) && (!v19.2)) && ((List.length v29 : Int) == 0)) && ((List.length v31 : Int) == 0)) && (!v33)) && true) && v37) && (!v39)) && (!v41)) = true then
    (CColl_Bytes_a).bind fun v43 =>
    some ((((((((((((((v21 == 1) && (v23 == 1)) && (v25 == 0)) && ((List.length v27 : Int) == 0)) && (v19.1 == 0)) && (!v19.2)) && ((List.length v29 : Int) == 0)) && ((List.length v31 : Int) == 0)) && (!v33)) && true) && v37) && (!v39)) && (!v41)) && ((List.length v43 : Int) == 0))
  else
    some ((((((((((((((v21 == 1) && (v23 == 1)) && (v25 == 0)) && ((List.length v27 : Int) == 0)) && (v19.1 == 0)) && (!v19.2)) && ((List.length v29 : Int) == 0)) && ((List.length v31 : Int) == 0)) && (!v33)) && true) && v37) && (!v39)) && (!v41)) && false)
def w30_CollectErrs_K3 (x1 : Int) (x2 : List w30_File) : Option Bool :=
  (w30_collected 0 x2).bind fun v4 =>
  match v4 with
  | .inl v4_0 =>
    (w30_awake).bind fun v6 =>
    if ((!v6) || false) = true then
      some false
    else
      (collect_New (List.length v4_0.2 : Int)).bind fun v9 =>
      match v9 with
      | .inl v9_0 =>
        (CColl_Merge_a v4_0.1 v9_0).bind fun v11 =>
        (gb (!(v11.1 != 1)) (0) (CColl_Merge_a1 v11.2)).bind fun v13 =>
        (gb (!((v11.1 != 1) || (v13 != 1))) (false) (w30_agrees_a v11.2 v4_0.2)).bind fun v15 =>
        if (((v11.1 != 1) || (v13 != 1)) || (!v15)) = true then
          some false
        else
          if ((decide (x1 < 0)) || (decide (1 < x1))) = true then
            (CColl_Total_a x1 v11.2).bind fun v46 =>
            (CColl_Add_a x1 ([] : List Int) v11.2).bind fun v48 =>
            (gb (!(v48.1 != 1)) (([] : List RRec)) (CColl_Records_a x1 v48.2)).bind fun v50 =>
            (gb (!((((v48.1 != 1) || ((List.length v50 : Int) != 0)) || (v46.1 != 0)) || v46.2)) (([] : List (Nat → Int))) (CColl_Missing_a x1 v48.2)).bind fun v52 =>
            (gb (!(((((v48.1 != 1) || ((List.length v50 : Int) != 0)) || (v46.1 != 0)) || v46.2) || ((List.length v52 : Int) != 0))) (([] : List (Nat → Int))) (CColl_Lost_a x1 v48.2)).bind fun v54 =>
            if ((((((v48.1 != 1) || ((List.length v50 : Int) != 0)) || (v46.1 != 0)) || v46.2) || ((List.length v52 : Int) != 0)) || ((List.length v54 : Int) != 0)) = true then
              some false
            else
              w30_CollectErrs_K4 v48.2.gparts
          else
            w30_CollectErrs_K4 v11.2.gparts
      | .inr v9_1 =>
        none
  | .inr v4_1 =>
    none
def w30_CollectErrs (x0 : Int) (x1 : Int) (x2 : List w30_File) : Option Bool :=
  (collect_New x0).bind fun v2 =>
  match v2 with
  | .inl v2_0 =>
    if ((decide (x0 < 1)) || (decide (8 < x0))) = true then
      some false
    else
      (CColl_Components_a v2_0).bind fun v59 =>
      (gb (!(v59 != x0)) (false) (CColl_Complete_a v2_0)).bind fun v61 =>
      if ((v59 != x0) || v61) = true then
        some false
      else
        w30_CollectErrs_K1 x1 x2
  | .inr v2_1 =>
    if ((decide (x0 < 1)) || (decide (8 < x0))) = true then
      w30_CollectErrs_K3 x1 x2
    else
      some false
theorem w30_CollectErrs_c {x0 : Int} {x1 : Int} {x2 : List w30_File} {r : Bool} (hM : w30_CollectErrs x0 x1 x2 = some r) : PCall Tryz.prog 10 [.int .i64 x0, .int .i64 x1, .sl 2 (List.map w30_File.dv x2)] (.bool r) := by
  unfold w30_CollectErrs at hM
  refine PCall.body Tryz.func10 Tryz.ntmps10 rfl rfl rfl rfl ?_
  refine a_seq (ar (.cons (o_assign rfl) <| .nil _) ?_)
  refine a_seq ?_
  obtain ⟨v2, h1, hM⟩ := of_bind hM
  rcases v2 with v2_0 | v2_1
  · refine ar (.cons (o_move rfl) <| .cons (o_callN (fun i => bif Nat.beq i 50001 then 10002 else bif Nat.beq i 50000 then 10001 else i) 2 (collect_New_c0 h1) rfl (DLeL.refl _) .nil rfl .nil) <| .cons (o_move rfl) <| .cons (o_extract rfl rfl) <| .cons (o_extract rfl rfl) <| .cons (o_assign rfl) <| .cons (o_assign rfl) <| .nil _) ?_
    refine a_cut (α := Unit) (fun s => ⟨[(1, .int .i64 x1), (2, .sl 2 (List.map w30_File.dv x2))], [], []⟩) (fun s => w30_CollectErrs_K1 x1 x2 = some r) ?_ ?_
    · refine a_seq (ar (.cons (o_move rfl) <| .cons (o_int rfl rfl rfl) <| .cons (o_move rfl) <| .cons (o_guardG .bF rfl rfl (fun hb => (.keep .nil)) (fun hb => o_move rfl)) <| .cons (o_guardG .bF rfl rfl (fun hb => (.strip rfl hb .nil)) (fun hb => o_int rfl rfl rfl)) <| .cons (o_or rfl rfl) <| .nil _) ?_)
      refine a_cond _ rfl (fun h56 => ?_) (fun h56 => ?_)
      · replace hM := (of_if hM).1 h56
        refine a_seq (ar (.cons (o_move rfl) <| .cons (o_int rfl rfl rfl) <| .cons (o_move rfl) <| .cons (o_guardOff (.val (.pointer none)) .bF rfl rfl rfl) <| .cons (o_guardOff (.bool false) .bF rfl rfl rfl) <| .cons (o_or rfl rfl) <| .nil _) ?_)
        refine a_cond _ rfl (fun _ => ?_) (fun c => by cases c)
        refine a_seq (ar (.cons (o_assign rfl) <| .nil _) ?_)
        obtain rfl := Option.some.inj hM
        exact a_ret (a_post (.r1 (.tmp rfl)) (DLe.refl _) PostOk.nil.spec)
      · replace hM := (of_if hM).2 h56
        refine a_seq ?_
        obtain ⟨v59, h58, hM⟩ := of_bind hM
        obtain ⟨v61, h60, hM⟩ := of_bind hM
        refine ar (.cons (o_move rfl) <| .cons (o_int rfl rfl rfl) <| .cons (o_move rfl) <| .cons (o_guardOn .bF rfl rfl rfl (.keep .nil) (o_move rfl)) <| .cons (o_guardOn .bF rfl rfl rfl (.strip rfl rfl .nil) (o_callN (fun i => bif Nat.beq i 100000 then 10001 else bif Nat.beq i 100001 then 10002 else i) 0 (CColl_Components_a_c h58) rfl (DLeL.refl _) (.cons rfl (.cons rfl .nil)) rfl (.cons rfl (.cons rfl .nil)))) <| .cons (o_guardOn .bF rfl rfl rfl (.keep .nil) (o_move rfl)) <| .cons (o_guardOn .bF rfl rfl rfl (.strip rfl rfl (.strip rfl rfl .nil)) (o_int rfl rfl rfl)) <| .cons (o_or rfl rfl) <| .cons (o_move rfl) <| .cons (o_guardG .bF rfl rfl (fun hb => (.keep .nil)) (fun hb => o_move rfl)) <| .cons (o_guardG .bF rfl rfl (fun hb => (.strip rfl hb .nil)) (fun hb => o_callN (fun i => bif Nat.beq i 100000 then 10001 else bif Nat.beq i 100001 then 10002 else i) 0 (CColl_Complete_a_c (of_gb h60 hb)) rfl (DLeL.refl _) (.cons rfl (.cons rfl .nil)) rfl (.cons rfl (.cons rfl .nil)))) <| .cons (o_or rfl rfl) <| .nil _) ?_
        refine a_cond _ rfl (fun h62 => ?_) (fun h62 => ?_)
        · replace hM := (of_if hM).1 h62
          refine a_seq (ar (.cons (o_assign rfl) <| .nil _) ?_)
          obtain rfl := Option.some.inj hM
          exact a_ret (a_post (.r1 (.tmp rfl)) (DLe.refl _) PostOk.nil.spec)
        · replace hM := (of_if hM).2 h62
          refine a_skip ?_
          exact ⟨(), hM, (Imp.sh (fun i => i) rfl rfl rfl rfl rfl rfl)⟩
    · rintro _ hM
      replace hM : w30_CollectErrs_K1 x1 x2 = some r := hM
      unfold w30_CollectErrs_K1 at hM
      refine a_seq ?_
      obtain ⟨v4, h3, hM⟩ := of_bind hM
      rcases v4 with v4_0 | v4_1
      · refine ar (.cons (o_move rfl) <| .cons (o_callN (fun i => bif Nat.beq i 50002 then 10005 else bif Nat.beq i 50001 then 10004 else bif Nat.beq i 50000 then 10003 else i) 3 (w30_collected_c0 h3) rfl (DLeL.refl _) .nil rfl .nil) <| .cons (o_move rfl) <| .cons (o_extract rfl rfl) <| .cons (o_extract rfl rfl) <| .cons (o_assign rfl) <| .cons (o_assign rfl) <| .nil _) ?_
        refine a_seq (a_seq ?_)
        obtain ⟨v6, h5, hM⟩ := of_bind hM
        refine ar (.cons (o_call (w30_awake_c h5) rfl (DLeL.refl _) rfl) <| .cons (o_not rfl) <| .cons (o_move rfl) <| .cons (o_guardG .bF rfl rfl (fun hb => (.keep .nil)) (fun hb => o_move rfl)) <| .cons (o_guardG .bF rfl rfl (fun hb => (.strip rfl hb .nil)) (fun hb => o_ptr_eq rfl)) <| .cons (o_or rfl rfl) <| .nil _) ?_
        refine a_cond _ rfl (fun h7 => ?_) (fun h7 => ?_)
        · replace hM := (of_if hM).1 h7
          refine a_seq (ar (.cons (o_assign rfl) <| .nil _) ?_)
          obtain rfl := Option.some.inj hM
          exact a_ret (a_post (.r1 (.tmp rfl)) (DLe.refl _) PostOk.nil.spec)
        · replace hM := (of_if hM).2 h7
          refine a_skip (a_seq ?_)
          obtain ⟨v9, h8, hM⟩ := of_bind hM
          rcases v9 with v9_0 | v9_1
          · refine ar (.cons (o_move rfl) <| .cons (t_len_r rfl rfl) <| .cons (o_callN (fun i => bif Nat.beq i 50001 then 10007 else bif Nat.beq i 50000 then 10006 else i) 2 (collect_New_c0 h8) rfl (DLeL.refl _) .nil rfl .nil) <| .cons (o_move rfl) <| .cons (o_extract rfl rfl) <| .cons (o_extract rfl rfl) <| .cons (o_assign rfl) <| .cons (o_assign rfl) <| .nil _) ?_
            refine a_seq (a_seq ?_)
            obtain ⟨v11, h10, hM⟩ := of_bind hM
            obtain ⟨v13, h12, hM⟩ := of_bind hM
            obtain ⟨v15, h14, hM⟩ := of_bind hM
            refine ar (.cons (o_move rfl) <| .cons (o_move rfl) <| .cons (o_callN (fun i => bif Nat.beq i 50000 then 10008 else bif Nat.beq i 100000 then 10003 else bif Nat.beq i 100001 then 10004 else bif Nat.beq i 100002 then 10006 else bif Nat.beq i 100003 then 10007 else i) 3 (CColl_Merge_a_c h10) rfl (DLeL.refl _) (.cons rfl (.cons rfl (.cons rfl (.cons rfl .nil)))) rfl (.cons rfl (.cons rfl .nil))) <| .cons (o_int rfl rfl rfl) <| .cons (o_move rfl) <| .cons (o_guardG .bF rfl rfl (fun hb => (.keep .nil)) (fun hb => o_move rfl)) <| .cons (o_guardG .bF rfl rfl (fun hb => (.strip rfl hb .nil)) (fun hb => o_callN (fun i => bif Nat.beq i 100000 then 10003 else bif Nat.beq i 100001 then 10008 else i) 0 (CColl_Merge_a1_c (of_gb h12 hb)) rfl (DLeL.refl _) (.cons rfl (.cons rfl .nil)) rfl (.cons rfl (.cons rfl .nil)))) <| .cons (o_guardG .bF rfl rfl (fun hb => (.strip rfl hb .nil)) (fun hb => o_int rfl rfl rfl)) <| .cons (o_or rfl rfl) <| .cons (o_move rfl) <| .cons (o_guardG .bF rfl rfl (fun hb => (.keep .nil)) (fun hb => o_move rfl)) <| .cons (o_guardG .bF rfl rfl (fun hb => (.keep .nil)) (fun hb => o_move rfl)) <| .cons (o_guardG .bF rfl rfl (fun hb => (.strip rfl hb (.strip rfl hb .nil))) (fun hb => o_callN (fun i => bif Nat.beq i 100000 then 10003 else bif Nat.beq i 100001 then 10008 else bif Nat.beq i 100002 then 10005 else i) 0 (w30_agrees_a_c (of_gb h14 hb)) rfl (DLeL.refl _) (.cons rfl (.cons rfl (.cons rfl .nil))) rfl (.cons rfl (.cons rfl (.cons rfl .nil))))) <| .cons (o_guardG .bF rfl rfl (fun hb => (.strip rfl hb .nil)) (fun hb => o_not rfl)) <| .cons (o_or rfl rfl) <| .nil _) ?_
            refine a_cond _ rfl (fun h16 => ?_) (fun h16 => ?_)
            · replace hM := (of_if hM).1 h16
              refine a_seq (ar (.cons (o_assign rfl) <| .nil _) ?_)
              obtain rfl := Option.some.inj hM
              exact a_ret (a_post (.r1 (.tmp rfl)) (DLe.refl _) PostOk.nil.spec)
            · replace hM := (of_if hM).2 h16
              refine a_skip ?_
              refine a_cut (α := (List CPart)) (fun s => ⟨[(9, .ref 10003 0)], [(10003, some (.blk 134 [.row 10009])), (10009, some (.row 137 4 (List.map CPart.dv s)))], [10003, 10009]⟩) (fun s => w30_CollectErrs_K2 s = some r) ?_ ?_
              · refine a_seq (ar (.cons (o_move rfl) <| .cons (o_int rfl rfl rfl) <| .cons (o_move rfl) <| .cons (o_guardG .bF rfl rfl (fun hb => (.keep .nil)) (fun hb => o_move rfl)) <| .cons (o_guardG .bF rfl rfl (fun hb => (.strip rfl hb .nil)) (fun hb => o_int rfl rfl rfl)) <| .cons (o_or rfl rfl) <| .nil _) ?_)
                refine a_cond _ rfl (fun h44 => ?_) (fun h44 => ?_)
                · replace hM := (of_if hM).1 h44
                  refine a_seq ?_
                  obtain ⟨v46, h45, hM⟩ := of_bind hM
                  refine ar (.cons (o_move rfl) <| .cons (o_move rfl) <| .cons (o_callN (fun i => bif Nat.beq i 100000 then 10003 else bif Nat.beq i 100001 then 10008 else i) 0 (CColl_Total_a_c h45) rfl (DLeL.refl _) (.cons rfl (.cons rfl .nil)) rfl (.cons rfl (.cons rfl .nil))) <| .cons (o_move rfl) <| .cons (o_extract rfl rfl) <| .cons (o_extract rfl rfl) <| .cons (o_assign rfl) <| .cons (o_assign rfl) <| .nil _) ?_
                  refine a_seq ?_
                  obtain ⟨v48, h47, hM⟩ := of_bind hM
                  obtain ⟨v50, h49, hM⟩ := of_bind hM
                  obtain ⟨v52, h51, hM⟩ := of_bind hM
                  obtain ⟨v54, h53, hM⟩ := of_bind hM
                  refine ar (.cons (o_move rfl) <| .cons (o_move rfl) <| .cons (o_callN (fun i => bif Nat.beq i 50000 then 10010 else bif Nat.beq i 100000 then 10003 else bif Nat.beq i 100001 then 10008 else i) 3 (CColl_Add_a_c h47) rfl (.cons (DLe.refl _) (.cons (DLe.refl _) (.cons (DLe.nils _) .nil))) (.cons rfl (.cons rfl .nil)) rfl .nil) <| .cons (o_int rfl rfl rfl) <| .cons (o_move rfl) <| .cons (o_guardG .bF rfl rfl (fun hb => (.keep .nil)) (fun hb => o_move rfl)) <| .cons (o_guardG .bF rfl rfl (fun hb => (.keep .nil)) (fun hb => o_move rfl)) <| .cons (o_guardG .bF rfl rfl (fun hb => (.strip rfl hb (.strip rfl hb .nil))) (fun hb => o_callN (fun i => bif Nat.beq i 100000 then 10003 else bif Nat.beq i 100001 then 10010 else i) 0 (CColl_Records_a_c (of_gb h49 hb)) rfl (DLeL.refl _) (.cons rfl (.cons rfl .nil)) rfl (.cons rfl (.cons rfl .nil)))) <| .cons (o_guardG .bF rfl rfl (fun hb => (.strip rfl hb .nil)) (fun hb => t_len rfl)) <| .cons (o_guardG .bF rfl rfl (fun hb => (.strip rfl hb .nil)) (fun hb => o_int rfl rfl rfl)) <| .cons (o_or rfl rfl) <| .cons (o_move rfl) <| .cons (o_guardG .bF rfl rfl (fun hb => (.keep .nil)) (fun hb => o_move rfl)) <| .cons (o_guardG .bF rfl rfl (fun hb => (.strip rfl hb .nil)) (fun hb => o_int rfl rfl rfl)) <| .cons (o_or rfl rfl) <| .cons (o_move rfl) <| .cons (o_guardG .bF rfl rfl (fun hb => (.keep .nil)) (fun hb => o_move rfl)) <| .cons (o_or rfl rfl) <| .cons (o_move rfl) <| .cons (o_guardG .bF rfl rfl (fun hb => (.keep .nil)) (fun hb => o_move rfl)) <| .cons (o_guardG .bF rfl rfl (fun hb => (.keep .nil)) (fun hb => o_move rfl)) <| .cons (o_guardG .bF rfl rfl (fun hb => (.strip rfl hb (.strip rfl hb .nil))) (fun hb => o_callN (fun i => bif Nat.beq i 100000 then 10003 else bif Nat.beq i 100001 then 10010 else i) 0 (CColl_Missing_a_c (of_gb h51 hb)) rfl (DLeL.refl _) (.cons rfl (.cons rfl .nil)) rfl (.cons rfl (.cons rfl .nil)))) <| .cons (o_guardG .bF rfl rfl (fun hb => (.strip rfl hb .nil)) (fun hb => t_len rfl)) <| .cons (o_guardG .bF rfl rfl (fun hb => (.strip rfl hb .nil)) (fun hb => o_int rfl rfl rfl)) <| .cons (o_or rfl rfl) <| .cons (o_move rfl) <| .cons (o_guardG .bF rfl rfl (fun hb => (.keep .nil)) (fun hb => o_move rfl)) <| .cons (o_guardG .bF rfl rfl (fun hb => (.keep .nil)) (fun hb => o_move rfl)) <| .cons (o_guardG .bF rfl rfl (fun hb => (.strip rfl hb (.strip rfl hb .nil))) (fun hb => o_callN (fun i => bif Nat.beq i 100000 then 10003 else bif Nat.beq i 100001 then 10010 else i) 0 (CColl_Lost_a_c (of_gb h53 hb)) rfl (DLeL.refl _) (.cons rfl (.cons rfl .nil)) rfl (.cons rfl (.cons rfl .nil)))) <| .cons (o_guardG .bF rfl rfl (fun hb => (.strip rfl hb .nil)) (fun hb => t_len rfl)) <| .cons (o_guardG .bF rfl rfl (fun hb => (.strip rfl hb .nil)) (fun hb => o_int rfl rfl rfl)) <| .cons (o_or rfl rfl) <| .nil _) ?_
                  refine a_cond _ rfl (fun h55 => ?_) (fun h55 => ?_)
                  · replace hM := (of_if hM).1 h55
                    refine a_seq (ar (.cons (o_assign rfl) <| .nil _) ?_)
                    obtain rfl := Option.some.inj hM
                    exact a_ret (a_post (.r1 (.tmp rfl)) (DLe.refl _) PostOk.nil.spec)
                  · replace hM := (of_if hM).2 h55
                    refine a_skip ?_
                    exact ⟨v48.2.gparts, hM, (Imp.sh (fun i => bif Nat.beq i 10009 then 10010 else i) rfl rfl rfl rfl rfl rfl)⟩
                · replace hM := (of_if hM).2 h44
                  refine a_skip ?_
                  exact ⟨v11.2.gparts, hM, (Imp.sh (fun i => bif Nat.beq i 10009 then 10008 else i) rfl rfl rfl rfl rfl rfl)⟩
              · rintro a17 hM
                replace hM : w30_CollectErrs_K2 a17 = some r := hM
                unfold w30_CollectErrs_K2 at hM
                refine a_seq (ar (.cons (o_assign rfl) <| .nil _) ?_)
                refine a_seq ?_
                obtain ⟨v19, h18, hM⟩ := of_bind hM
                refine ar (.cons (o_move rfl) <| .cons (o_callN (fun i => i) 0 (CColl_Total_a1_c h18) rfl (DLeL.refl _) .nil rfl .nil) <| .cons (o_move rfl) <| .cons (o_extract rfl rfl) <| .cons (o_extract rfl rfl) <| .cons (o_assign rfl) <| .cons (o_assign rfl) <| .nil _) ?_
                refine a_seq ?_
                obtain ⟨v21, h20, hM⟩ := of_bind hM
                obtain ⟨v23, h22, hM⟩ := of_bind hM
                obtain ⟨v25, h24, hM⟩ := of_bind hM
                obtain ⟨v27, h26, hM⟩ := of_bind hM
                obtain ⟨v29, h28, hM⟩ := of_bind hM
                obtain ⟨v31, h30, hM⟩ := of_bind hM
                obtain ⟨v33, h32, hM⟩ := of_bind hM
                obtain ⟨v35, h34, hM⟩ := of_bind hM
                obtain ⟨v37, h36, hM⟩ := of_bind hM
                obtain ⟨v39, h38, hM⟩ := of_bind hM
                obtain ⟨v41, h40, hM⟩ := of_bind hM
                by_cases hd42 : (((((((((((((v21 == 1) && (v23 == 1)) && (v25 == 0)) && ((List.length v27 : Int) == 0)) && (v19.1 == 0)) && (!v19.2)) && ((List.length v29 : Int) == 0)) && ((List.length v31 : Int) == 0)) && (!v33)) && true) && v37) && (!v39)) && (!v41)) = true
                · replace hM := (of_if hM).1 hd42
                  obtain ⟨v43, h42, hM⟩ := of_bind hM
                  refine ar (.cons (o_move rfl) <| .cons (o_callN (fun i => i) 0 (CColl_Add_a1_c h20) rfl (.cons (DLe.refl _) (.cons (DLe.refl _) (.cons (DLe.nils _) .nil))) .nil rfl .nil) <| .cons (o_int rfl rfl rfl) <| .cons (o_move rfl) <| .cons (o_guardG .bT rfl rfl (fun hb => (.keep .nil)) (fun hb => o_move rfl)) <| .cons (o_guardG .bT rfl rfl (fun hb => (.keep .nil)) (fun hb => o_move rfl)) <| .cons (o_guardG .bT rfl rfl (fun hb => (.strip rfl hb (.strip rfl hb .nil))) (fun hb => o_callN (fun i => bif Nat.beq i 100000 then 10003 else bif Nat.beq i 100001 then 10009 else i) 0 (CColl_Merge_a2_c (of_gb h22 hb)) rfl (DLeL.refl _) (.cons rfl (.cons rfl .nil)) rfl (.cons rfl (.cons rfl .nil)))) <| .cons (o_guardG .bT rfl rfl (fun hb => (.strip rfl hb .nil)) (fun hb => o_int rfl rfl rfl)) <| .cons (o_and rfl rfl) <| .cons (o_move rfl) <| .cons (o_guardG .bT rfl rfl (fun hb => (.keep .nil)) (fun hb => o_move rfl)) <| .cons (o_guardG .bT rfl rfl (fun hb => (.strip rfl hb .nil)) (fun hb => o_callN (fun i => i) 0 (CColl_Components_a1_c (of_gb h24 hb)) rfl (DLeL.refl _) .nil rfl .nil)) <| .cons (o_guardG .bT rfl rfl (fun hb => (.strip rfl hb .nil)) (fun hb => o_int rfl rfl rfl)) <| .cons (o_and rfl rfl) <| .cons (o_move rfl) <| .cons (o_guardG .bT rfl rfl (fun hb => (.keep .nil)) (fun hb => o_move rfl)) <| .cons (o_guardG .bT rfl rfl (fun hb => (.strip rfl hb .nil)) (fun hb => o_callN (fun i => i) 0 (CColl_Records_a1_c (of_gb h26 hb)) rfl (DLeL.refl _) .nil rfl .nil)) <| .cons (o_guardG .bT rfl rfl (fun hb => (.strip rfl hb .nil)) (fun hb => t_len rfl)) <| .cons (o_guardG .bT rfl rfl (fun hb => (.strip rfl hb .nil)) (fun hb => o_int rfl rfl rfl)) <| .cons (o_and rfl rfl) <| .cons (o_move rfl) <| .cons (o_guardG .bT rfl rfl (fun hb => (.keep .nil)) (fun hb => o_move rfl)) <| .cons (o_guardG .bT rfl rfl (fun hb => (.strip rfl hb .nil)) (fun hb => o_int rfl rfl rfl)) <| .cons (o_and rfl rfl) <| .cons (o_move rfl) <| .cons (o_guardG .bT rfl rfl (fun hb => (.keep .nil)) (fun hb => o_move rfl)) <| .cons (o_guardG .bT rfl rfl (fun hb => (.strip rfl hb .nil)) (fun hb => o_not rfl)) <| .cons (o_and rfl rfl) <| .cons (o_move rfl) <| .cons (o_guardG .bT rfl rfl (fun hb => (.keep .nil)) (fun hb => o_move rfl)) <| .cons (o_guardG .bT rfl rfl (fun hb => (.strip rfl hb .nil)) (fun hb => o_callN (fun i => i) 0 (CColl_Missing_a1_c (of_gb h28 hb)) rfl (DLeL.refl _) .nil rfl .nil)) <| .cons (o_guardG .bT rfl rfl (fun hb => (.strip rfl hb .nil)) (fun hb => t_len rfl)) <| .cons (o_guardG .bT rfl rfl (fun hb => (.strip rfl hb .nil)) (fun hb => o_int rfl rfl rfl)) <| .cons (o_and rfl rfl) <| .cons (o_move rfl) <| .cons (o_guardG .bT rfl rfl (fun hb => (.keep .nil)) (fun hb => o_move rfl)) <| .cons (o_guardG .bT rfl rfl (fun hb => (.strip rfl hb .nil)) (fun hb => o_callN (fun i => i) 0 (CColl_Lost_a1_c (of_gb h30 hb)) rfl (DLeL.refl _) .nil rfl .nil)) <| .cons (o_guardG .bT rfl rfl (fun hb => (.strip rfl hb .nil)) (fun hb => t_len rfl)) <| .cons (o_guardG .bT rfl rfl (fun hb => (.strip rfl hb .nil)) (fun hb => o_int rfl rfl rfl)) <| .cons (o_and rfl rfl) <| .cons (o_move rfl) <| .cons (o_guardG .bT rfl rfl (fun hb => (.keep .nil)) (fun hb => o_move rfl)) <| .cons (o_guardG .bT rfl rfl (fun hb => (.strip rfl hb .nil)) (fun hb => o_callN (fun i => i) 0 (CColl_Complete_a1_c (of_gb h32 hb)) rfl (DLeL.refl _) .nil rfl .nil)) <| .cons (o_guardG .bT rfl rfl (fun hb => (.strip rfl hb .nil)) (fun hb => o_not rfl)) <| .cons (o_and rfl rfl) <| .cons (o_move rfl) <| .cons (o_guardG .bT rfl rfl (fun hb => (.keep .nil)) (fun hb => o_move rfl)) <| .cons (o_guardG .bT rfl rfl (fun hb => (.strip rfl hb .nil)) (fun hb => o_callN (fun i => i) 0 (CColl_Copy_a1_c (of_gb h34 hb)) rfl (DLeL.refl _) .nil rfl .nil)) <| .cons (o_guardG .bT rfl rfl (fun hb => (.strip rfl hb .nil)) (fun hb => o_nil_eq rfl)) <| .cons (o_and rfl rfl) <| .cons (o_move rfl) <| .cons (o_guardG .bT rfl rfl (fun hb => (.keep .nil)) (fun hb => o_move rfl)) <| .cons (o_guardG .bT rfl rfl (fun hb => (.strip rfl hb .nil)) (fun hb => o_callN (fun i => i) 0 (CColl_Equal_a1_c (of_gb h36 hb)) rfl (DLeL.refl _) .nil rfl .nil)) <| .cons (o_and rfl rfl) <| .cons (o_move rfl) <| .cons (o_guardG .bT rfl rfl (fun hb => (.keep .nil)) (fun hb => o_move rfl)) <| .cons (o_guardG .bT rfl rfl (fun hb => (.keep .nil)) (fun hb => o_move rfl)) <| .cons (o_guardG .bT rfl rfl (fun hb => (.strip rfl hb (.strip rfl hb .nil))) (fun hb => o_callN (fun i => bif Nat.beq i 100000 then 10003 else bif Nat.beq i 100001 then 10009 else i) 0 (CColl_Equal_a2_c (of_gb h38 hb)) rfl (DLeL.refl _) (.cons rfl (.cons rfl .nil)) rfl (.cons rfl (.cons rfl .nil)))) <| .cons (o_guardG .bT rfl rfl (fun hb => (.strip rfl hb .nil)) (fun hb => o_not rfl)) <| .cons (o_and rfl rfl) <| .cons (o_move rfl) <| .cons (o_guardG .bT rfl rfl (fun hb => (.keep .nil)) (fun hb => o_move rfl)) <| .cons (o_guardG .bT rfl rfl (fun hb => (.strip rfl hb .nil)) (fun hb => o_callN (fun i => bif Nat.beq i 100000 then 10003 else bif Nat.beq i 100001 then 10009 else i) 0 (CColl_Equal_a3_c (of_gb h40 hb)) rfl (DLeL.refl _) (.cons rfl (.cons rfl .nil)) rfl (.cons rfl (.cons rfl .nil)))) <| .cons (o_guardG .bT rfl rfl (fun hb => (.strip rfl hb .nil)) (fun hb => o_not rfl)) <| .cons (o_and rfl rfl) <| .cons (o_move rfl) <| .cons (o_guardG .bT rfl rfl (fun hb => (.keep .nil)) (fun hb => o_move rfl)) <| .cons (o_guardOn .bT rfl rfl hd42 (.strip rfl hd42 .nil) (o_callN (fun i => bif Nat.beq i 50000 then 195 else i) 1 (CColl_Bytes_a_c h42) rfl (DLeL.refl _) .nil rfl .nil)) <| .cons (o_guardOn .bT rfl rfl hd42 (.strip rfl hd42 .nil) (t_len_r rfl rfl)) <| .cons (o_guardOn .bT rfl rfl hd42 (.strip rfl hd42 .nil) (o_int rfl rfl rfl)) <| .cons (o_and rfl rfl) <| .cons (o_assign rfl) <| .nil _) ?_
                  obtain rfl := Option.some.inj hM
                  exact a_ret (a_post (.r1 (.tmp rfl)) (DLe.refl _) PostOk.nil.spec)
                · replace hd42 := Bool.eq_false_iff.2 hd42
                  replace hM := (of_if hM).2 hd42
                  refine ar (.cons (o_move rfl) <| .cons (o_callN (fun i => i) 0 (CColl_Add_a1_c h20) rfl (.cons (DLe.refl _) (.cons (DLe.refl _) (.cons (DLe.nils _) .nil))) .nil rfl .nil) <| .cons (o_int rfl rfl rfl) <| .cons (o_move rfl) <| .cons (o_guardG .bT rfl rfl (fun hb => (.keep .nil)) (fun hb => o_move rfl)) <| .cons (o_guardG .bT rfl rfl (fun hb => (.keep .nil)) (fun hb => o_move rfl)) <| .cons (o_guardG .bT rfl rfl (fun hb => (.strip rfl hb (.strip rfl hb .nil))) (fun hb => o_callN (fun i => bif Nat.beq i 100000 then 10003 else bif Nat.beq i 100001 then 10009 else i) 0 (CColl_Merge_a2_c (of_gb h22 hb)) rfl (DLeL.refl _) (.cons rfl (.cons rfl .nil)) rfl (.cons rfl (.cons rfl .nil)))) <| .cons (o_guardG .bT rfl rfl (fun hb => (.strip rfl hb .nil)) (fun hb => o_int rfl rfl rfl)) <| .cons (o_and rfl rfl) <| .cons (o_move rfl) <| .cons (o_guardG .bT rfl rfl (fun hb => (.keep .nil)) (fun hb => o_move rfl)) <| .cons (o_guardG .bT rfl rfl (fun hb => (.strip rfl hb .nil)) (fun hb => o_callN (fun i => i) 0 (CColl_Components_a1_c (of_gb h24 hb)) rfl (DLeL.refl _) .nil rfl .nil)) <| .cons (o_guardG .bT rfl rfl (fun hb => (.strip rfl hb .nil)) (fun hb => o_int rfl rfl rfl)) <| .cons (o_and rfl rfl) <| .cons (o_move rfl) <| .cons (o_guardG .bT rfl rfl (fun hb => (.keep .nil)) (fun hb => o_move rfl)) <| .cons (o_guardG .bT rfl rfl (fun hb => (.strip rfl hb .nil)) (fun hb => o_callN (fun i => i) 0 (CColl_Records_a1_c (of_gb h26 hb)) rfl (DLeL.refl _) .nil rfl .nil)) <| .cons (o_guardG .bT rfl rfl (fun hb => (.strip rfl hb .nil)) (fun hb => t_len rfl)) <| .cons (o_guardG .bT rfl rfl (fun hb => (.strip rfl hb .nil)) (fun hb => o_int rfl rfl rfl)) <| .cons (o_and rfl rfl) <| .cons (o_move rfl) <| .cons (o_guardG .bT rfl rfl (fun hb => (.keep .nil)) (fun hb => o_move rfl)) <| .cons (o_guardG .bT rfl rfl (fun hb => (.strip rfl hb .nil)) (fun hb => o_int rfl rfl rfl)) <| .cons (o_and rfl rfl) <| .cons (o_move rfl) <| .cons (o_guardG .bT rfl rfl (fun hb => (.keep .nil)) (fun hb => o_move rfl)) <| .cons (o_guardG .bT rfl rfl (fun hb => (.strip rfl hb .nil)) (fun hb => o_not rfl)) <| .cons (o_and rfl rfl) <| .cons (o_move rfl) <| .cons (o_guardG .bT rfl rfl (fun hb => (.keep .nil)) (fun hb => o_move rfl)) <| .cons (o_guardG .bT rfl rfl (fun hb => (.strip rfl hb .nil)) (fun hb => o_callN (fun i => i) 0 (CColl_Missing_a1_c (of_gb h28 hb)) rfl (DLeL.refl _) .nil rfl .nil)) <| .cons (o_guardG .bT rfl rfl (fun hb => (.strip rfl hb .nil)) (fun hb => t_len rfl)) <| .cons (o_guardG .bT rfl rfl (fun hb => (.strip rfl hb .nil)) (fun hb => o_int rfl rfl rfl)) <| .cons (o_and rfl rfl) <| .cons (o_move rfl) <| .cons (o_guardG .bT rfl rfl (fun hb => (.keep .nil)) (fun hb => o_move rfl)) <| .cons (o_guardG .bT rfl rfl (fun hb => (.strip rfl hb .nil)) (fun hb => o_callN (fun i => i) 0 (CColl_Lost_a1_c (of_gb h30 hb)) rfl (DLeL.refl _) .nil rfl .nil)) <| .cons (o_guardG .bT rfl rfl (fun hb => (.strip rfl hb .nil)) (fun hb => t_len rfl)) <| .cons (o_guardG .bT rfl rfl (fun hb => (.strip rfl hb .nil)) (fun hb => o_int rfl rfl rfl)) <| .cons (o_and rfl rfl) <| .cons (o_move rfl) <| .cons (o_guardG .bT rfl rfl (fun hb => (.keep .nil)) (fun hb => o_move rfl)) <| .cons (o_guardG .bT rfl rfl (fun hb => (.strip rfl hb .nil)) (fun hb => o_callN (fun i => i) 0 (CColl_Complete_a1_c (of_gb h32 hb)) rfl (DLeL.refl _) .nil rfl .nil)) <| .cons (o_guardG .bT rfl rfl (fun hb => (.strip rfl hb .nil)) (fun hb => o_not rfl)) <| .cons (o_and rfl rfl) <| .cons (o_move rfl) <| .cons (o_guardG .bT rfl rfl (fun hb => (.keep .nil)) (fun hb => o_move rfl)) <| .cons (o_guardG .bT rfl rfl (fun hb => (.strip rfl hb .nil)) (fun hb => o_callN (fun i => i) 0 (CColl_Copy_a1_c (of_gb h34 hb)) rfl (DLeL.refl _) .nil rfl .nil)) <| .cons (o_guardG .bT rfl rfl (fun hb => (.strip rfl hb .nil)) (fun hb => o_nil_eq rfl)) <| .cons (o_and rfl rfl) <| .cons (o_move rfl) <| .cons (o_guardG .bT rfl rfl (fun hb => (.keep .nil)) (fun hb => o_move rfl)) <| .cons (o_guardG .bT rfl rfl (fun hb => (.strip rfl hb .nil)) (fun hb => o_callN (fun i => i) 0 (CColl_Equal_a1_c (of_gb h36 hb)) rfl (DLeL.refl _) .nil rfl .nil)) <| .cons (o_and rfl rfl) <| .cons (o_move rfl) <| .cons (o_guardG .bT rfl rfl (fun hb => (.keep .nil)) (fun hb => o_move rfl)) <| .cons (o_guardG .bT rfl rfl (fun hb => (.keep .nil)) (fun hb => o_move rfl)) <| .cons (o_guardG .bT rfl rfl (fun hb => (.strip rfl hb (.strip rfl hb .nil))) (fun hb => o_callN (fun i => bif Nat.beq i 100000 then 10003 else bif Nat.beq i 100001 then 10009 else i) 0 (CColl_Equal_a2_c (of_gb h38 hb)) rfl (DLeL.refl _) (.cons rfl (.cons rfl .nil)) rfl (.cons rfl (.cons rfl .nil)))) <| .cons (o_guardG .bT rfl rfl (fun hb => (.strip rfl hb .nil)) (fun hb => o_not rfl)) <| .cons (o_and rfl rfl) <| .cons (o_move rfl) <| .cons (o_guardG .bT rfl rfl (fun hb => (.keep .nil)) (fun hb => o_move rfl)) <| .cons (o_guardG .bT rfl rfl (fun hb => (.strip rfl hb .nil)) (fun hb => o_callN (fun i => bif Nat.beq i 100000 then 10003 else bif Nat.beq i 100001 then 10009 else i) 0 (CColl_Equal_a3_c (of_gb h40 hb)) rfl (DLeL.refl _) (.cons rfl (.cons rfl .nil)) rfl (.cons rfl (.cons rfl .nil)))) <| .cons (o_guardG .bT rfl rfl (fun hb => (.strip rfl hb .nil)) (fun hb => o_not rfl)) <| .cons (o_and rfl rfl) <| .cons (o_move rfl) <| .cons (o_guardG .bT rfl rfl (fun hb => (.keep .nil)) (fun hb => o_move rfl)) <| .cons (o_guardOff (.nils) .bT rfl rfl hd42) <| .cons (o_guardOff (.int .i64 0) .bT rfl rfl hd42) <| .cons (o_guardOff (.bool false) .bT rfl rfl hd42) <| .cons (o_and rfl rfl) <| .cons (o_assign rfl) <| .nil _) ?_
                  obtain rfl := Option.some.inj hM
                  exact a_ret (a_post (.r1 (.tmp rfl)) (DLe.refl _) PostOk.nil.spec)
          · cases hM
      · cases hM
  · refine ar (.cons (o_move rfl) <| .cons (o_callN (fun i => i) 0 (collect_New_c1 h1) rfl (DLeL.refl _) .nil rfl .nil) <| .cons (o_move rfl) <| .cons (o_extract rfl rfl) <| .cons (o_extract rfl rfl) <| .cons (o_assign rfl) <| .cons (o_assign rfl) <| .nil _) ?_
    refine a_cut (α := Unit) (fun s => ⟨[(1, .int .i64 x1), (2, .sl 2 (List.map w30_File.dv x2))], [], []⟩) (fun s => w30_CollectErrs_K3 x1 x2 = some r) ?_ ?_
    · refine a_seq (ar (.cons (o_move rfl) <| .cons (o_int rfl rfl rfl) <| .cons (o_move rfl) <| .cons (o_guardG .bF rfl rfl (fun hb => (.keep .nil)) (fun hb => o_move rfl)) <| .cons (o_guardG .bF rfl rfl (fun hb => (.strip rfl hb .nil)) (fun hb => o_int rfl rfl rfl)) <| .cons (o_or rfl rfl) <| .nil _) ?_)
      refine a_cond _ rfl (fun h56 => ?_) (fun h56 => ?_)
      · replace hM := (of_if hM).1 h56
        refine a_seq (ar (.cons (o_move rfl) <| .cons (o_int rfl rfl rfl) <| .cons (o_move rfl) <| .cons (o_guardOn .bF rfl rfl rfl (.keep .nil) (o_move rfl)) <| .cons (o_guardOn .bF rfl rfl rfl (.strip rfl rfl .nil) (o_nil_ne rfl)) <| .cons (o_or rfl rfl) <| .nil _) ?_)
        refine a_cond _ rfl (fun c => by cases c) (fun _ => ?_)
        refine a_skip ?_
        exact ⟨(), hM, (Imp.sh (fun i => i) rfl rfl rfl rfl rfl rfl)⟩
      · replace hM := (of_if hM).2 h56
        refine a_seq (ar (.cons (o_move rfl) <| .cons (o_int rfl rfl rfl) <| .cons (o_move rfl) <| .cons (o_guardOff (.val (.pointer none)) .bF rfl rfl rfl) <| .cons (o_guardOff (.int .i64 0) .bF rfl rfl rfl) <| .cons (o_guardOff (.int .i64 0) .bF rfl rfl rfl) <| .cons (o_guardOff (.bool false) .bF rfl rfl rfl) <| .cons (o_or rfl rfl) <| .cons (o_move rfl) <| .cons (o_guardOff (.val (.pointer none)) .bF rfl rfl rfl) <| .cons (o_guardOff (.bool false) .bF rfl rfl rfl) <| .cons (o_or rfl rfl) <| .nil _) ?_)
        refine a_cond _ rfl (fun _ => ?_) (fun c => by cases c)
        refine a_seq (ar (.cons (o_assign rfl) <| .nil _) ?_)
        obtain rfl := Option.some.inj hM
        exact a_ret (a_post (.r1 (.tmp rfl)) (DLe.refl _) PostOk.nil.spec)
    · rintro _ hM
      replace hM : w30_CollectErrs_K3 x1 x2 = some r := hM
      unfold w30_CollectErrs_K3 at hM
      refine a_seq ?_
      obtain ⟨v4, h3, hM⟩ := of_bind hM
      rcases v4 with v4_0 | v4_1
      · refine ar (.cons (o_move rfl) <| .cons (o_callN (fun i => bif Nat.beq i 50002 then 10003 else bif Nat.beq i 50001 then 10002 else bif Nat.beq i 50000 then 10001 else i) 3 (w30_collected_c0 h3) rfl (DLeL.refl _) .nil rfl .nil) <| .cons (o_move rfl) <| .cons (o_extract rfl rfl) <| .cons (o_extract rfl rfl) <| .cons (o_assign rfl) <| .cons (o_assign rfl) <| .nil _) ?_
        refine a_seq (a_seq ?_)
        obtain ⟨v6, h5, hM⟩ := of_bind hM
        refine ar (.cons (o_call (w30_awake_c h5) rfl (DLeL.refl _) rfl) <| .cons (o_not rfl) <| .cons (o_move rfl) <| .cons (o_guardG .bF rfl rfl (fun hb => (.keep .nil)) (fun hb => o_move rfl)) <| .cons (o_guardG .bF rfl rfl (fun hb => (.strip rfl hb .nil)) (fun hb => o_ptr_eq rfl)) <| .cons (o_or rfl rfl) <| .nil _) ?_
        refine a_cond _ rfl (fun h7 => ?_) (fun h7 => ?_)
        · replace hM := (of_if hM).1 h7
          refine a_seq (ar (.cons (o_assign rfl) <| .nil _) ?_)
          obtain rfl := Option.some.inj hM
          exact a_ret (a_post (.r1 (.tmp rfl)) (DLe.refl _) PostOk.nil.spec)
        · replace hM := (of_if hM).2 h7
          refine a_skip (a_seq ?_)
          obtain ⟨v9, h8, hM⟩ := of_bind hM
          rcases v9 with v9_0 | v9_1
          · refine ar (.cons (o_move rfl) <| .cons (t_len_r rfl rfl) <| .cons (o_callN (fun i => bif Nat.beq i 50001 then 10005 else bif Nat.beq i 50000 then 10004 else i) 2 (collect_New_c0 h8) rfl (DLeL.refl _) .nil rfl .nil) <| .cons (o_move rfl) <| .cons (o_extract rfl rfl) <| .cons (o_extract rfl rfl) <| .cons (o_assign rfl) <| .cons (o_assign rfl) <| .nil _) ?_
            refine a_seq (a_seq ?_)
            obtain ⟨v11, h10, hM⟩ := of_bind hM
            obtain ⟨v13, h12, hM⟩ := of_bind hM
            obtain ⟨v15, h14, hM⟩ := of_bind hM
            refine ar (.cons (o_move rfl) <| .cons (o_move rfl) <| .cons (o_callN (fun i => bif Nat.beq i 50000 then 10006 else bif Nat.beq i 100000 then 10001 else bif Nat.beq i 100001 then 10002 else bif Nat.beq i 100002 then 10004 else bif Nat.beq i 100003 then 10005 else i) 3 (CColl_Merge_a_c h10) rfl (DLeL.refl _) (.cons rfl (.cons rfl (.cons rfl (.cons rfl .nil)))) rfl (.cons rfl (.cons rfl .nil))) <| .cons (o_int rfl rfl rfl) <| .cons (o_move rfl) <| .cons (o_guardG .bF rfl rfl (fun hb => (.keep .nil)) (fun hb => o_move rfl)) <| .cons (o_guardG .bF rfl rfl (fun hb => (.strip rfl hb .nil)) (fun hb => o_callN (fun i => bif Nat.beq i 100000 then 10001 else bif Nat.beq i 100001 then 10006 else i) 0 (CColl_Merge_a1_c (of_gb h12 hb)) rfl (DLeL.refl _) (.cons rfl (.cons rfl .nil)) rfl (.cons rfl (.cons rfl .nil)))) <| .cons (o_guardG .bF rfl rfl (fun hb => (.strip rfl hb .nil)) (fun hb => o_int rfl rfl rfl)) <| .cons (o_or rfl rfl) <| .cons (o_move rfl) <| .cons (o_guardG .bF rfl rfl (fun hb => (.keep .nil)) (fun hb => o_move rfl)) <| .cons (o_guardG .bF rfl rfl (fun hb => (.keep .nil)) (fun hb => o_move rfl)) <| .cons (o_guardG .bF rfl rfl (fun hb => (.strip rfl hb (.strip rfl hb .nil))) (fun hb => o_callN (fun i => bif Nat.beq i 100000 then 10001 else bif Nat.beq i 100001 then 10006 else bif Nat.beq i 100002 then 10003 else i) 0 (w30_agrees_a_c (of_gb h14 hb)) rfl (DLeL.refl _) (.cons rfl (.cons rfl (.cons rfl .nil))) rfl (.cons rfl (.cons rfl (.cons rfl .nil))))) <| .cons (o_guardG .bF rfl rfl (fun hb => (.strip rfl hb .nil)) (fun hb => o_not rfl)) <| .cons (o_or rfl rfl) <| .nil _) ?_
            refine a_cond _ rfl (fun h16 => ?_) (fun h16 => ?_)
            · replace hM := (of_if hM).1 h16
              refine a_seq (ar (.cons (o_assign rfl) <| .nil _) ?_)
              obtain rfl := Option.some.inj hM
              exact a_ret (a_post (.r1 (.tmp rfl)) (DLe.refl _) PostOk.nil.spec)
            · replace hM := (of_if hM).2 h16
              refine a_skip ?_
              refine a_cut (α := (List CPart)) (fun s => ⟨[(9, .ref 10001 0)], [(10001, some (.blk 134 [.row 10007])), (10007, some (.row 137 4 (List.map CPart.dv s)))], [10001, 10007]⟩) (fun s => w30_CollectErrs_K4 s = some r) ?_ ?_
              · refine a_seq (ar (.cons (o_move rfl) <| .cons (o_int rfl rfl rfl) <| .cons (o_move rfl) <| .cons (o_guardG .bF rfl rfl (fun hb => (.keep .nil)) (fun hb => o_move rfl)) <| .cons (o_guardG .bF rfl rfl (fun hb => (.strip rfl hb .nil)) (fun hb => o_int rfl rfl rfl)) <| .cons (o_or rfl rfl) <| .nil _) ?_)
                refine a_cond _ rfl (fun h44 => ?_) (fun h44 => ?_)
                · replace hM := (of_if hM).1 h44
                  refine a_seq ?_
                  obtain ⟨v46, h45, hM⟩ := of_bind hM
                  refine ar (.cons (o_move rfl) <| .cons (o_move rfl) <| .cons (o_callN (fun i => bif Nat.beq i 100000 then 10001 else bif Nat.beq i 100001 then 10006 else i) 0 (CColl_Total_a_c h45) rfl (DLeL.refl _) (.cons rfl (.cons rfl .nil)) rfl (.cons rfl (.cons rfl .nil))) <| .cons (o_move rfl) <| .cons (o_extract rfl rfl) <| .cons (o_extract rfl rfl) <| .cons (o_assign rfl) <| .cons (o_assign rfl) <| .nil _) ?_
                  refine a_seq ?_
                  obtain ⟨v48, h47, hM⟩ := of_bind hM
                  obtain ⟨v50, h49, hM⟩ := of_bind hM
                  obtain ⟨v52, h51, hM⟩ := of_bind hM
                  obtain ⟨v54, h53, hM⟩ := of_bind hM
                  refine ar (.cons (o_move rfl) <| .cons (o_move rfl) <| .cons (o_callN (fun i => bif Nat.beq i 50000 then 10008 else bif Nat.beq i 100000 then 10001 else bif Nat.beq i 100001 then 10006 else i) 3 (CColl_Add_a_c h47) rfl (.cons (DLe.refl _) (.cons (DLe.refl _) (.cons (DLe.nils _) .nil))) (.cons rfl (.cons rfl .nil)) rfl .nil) <| .cons (o_int rfl rfl rfl) <| .cons (o_move rfl) <| .cons (o_guardG .bF rfl rfl (fun hb => (.keep .nil)) (fun hb => o_move rfl)) <| .cons (o_guardG .bF rfl rfl (fun hb => (.keep .nil)) (fun hb => o_move rfl)) <| .cons (o_guardG .bF rfl rfl (fun hb => (.strip rfl hb (.strip rfl hb .nil))) (fun hb => o_callN (fun i => bif Nat.beq i 100000 then 10001 else bif Nat.beq i 100001 then 10008 else i) 0 (CColl_Records_a_c (of_gb h49 hb)) rfl (DLeL.refl _) (.cons rfl (.cons rfl .nil)) rfl (.cons rfl (.cons rfl .nil)))) <| .cons (o_guardG .bF rfl rfl (fun hb => (.strip rfl hb .nil)) (fun hb => t_len rfl)) <| .cons (o_guardG .bF rfl rfl (fun hb => (.strip rfl hb .nil)) (fun hb => o_int rfl rfl rfl)) <| .cons (o_or rfl rfl) <| .cons (o_move rfl) <| .cons (o_guardG .bF rfl rfl (fun hb => (.keep .nil)) (fun hb => o_move rfl)) <| .cons (o_guardG .bF rfl rfl (fun hb => (.strip rfl hb .nil)) (fun hb => o_int rfl rfl rfl)) <| .cons (o_or rfl rfl) <| .cons (o_move rfl) <| .cons (o_guardG .bF rfl rfl (fun hb => (.keep .nil)) (fun hb => o_move rfl)) <| .cons (o_or rfl rfl) <| .cons (o_move rfl) <| .cons (o_guardG .bF rfl rfl (fun hb => (.keep .nil)) (fun hb => o_move rfl)) <| .cons (o_guardG .bF rfl rfl (fun hb => (.keep .nil)) (fun hb => o_move rfl)) <| .cons (o_guardG .bF rfl rfl (fun hb => (.strip rfl hb (.strip rfl hb .nil))) (fun hb => o_callN (fun i => bif Nat.beq i 100000 then 10001 else bif Nat.beq i 100001 then 10008 else i) 0 (CColl_Missing_a_c (of_gb h51 hb)) rfl (DLeL.refl _) (.cons rfl (.cons rfl .nil)) rfl (.cons rfl (.cons rfl .nil)))) <| .cons (o_guardG .bF rfl rfl (fun hb => (.strip rfl hb .nil)) (fun hb => t_len rfl)) <| .cons (o_guardG .bF rfl rfl (fun hb => (.strip rfl hb .nil)) (fun hb => o_int rfl rfl rfl)) <| .cons (o_or rfl rfl) <| .cons (o_move rfl) <| .cons (o_guardG .bF rfl rfl (fun hb => (.keep .nil)) (fun hb => o_move rfl)) <| .cons (o_guardG .bF rfl rfl (fun hb => (.keep .nil)) (fun hb => o_move rfl)) <| .cons (o_guardG .bF rfl rfl (fun hb => (.strip rfl hb (.strip rfl hb .nil))) (fun hb => o_callN (fun i => bif Nat.beq i 100000 then 10001 else bif Nat.beq i 100001 then 10008 else i) 0 (CColl_Lost_a_c (of_gb h53 hb)) rfl (DLeL.refl _) (.cons rfl (.cons rfl .nil)) rfl (.cons rfl (.cons rfl .nil)))) <| .cons (o_guardG .bF rfl rfl (fun hb => (.strip rfl hb .nil)) (fun hb => t_len rfl)) <| .cons (o_guardG .bF rfl rfl (fun hb => (.strip rfl hb .nil)) (fun hb => o_int rfl rfl rfl)) <| .cons (o_or rfl rfl) <| .nil _) ?_
                  refine a_cond _ rfl (fun h55 => ?_) (fun h55 => ?_)
                  · replace hM := (of_if hM).1 h55
                    refine a_seq (ar (.cons (o_assign rfl) <| .nil _) ?_)
                    obtain rfl := Option.some.inj hM
                    exact a_ret (a_post (.r1 (.tmp rfl)) (DLe.refl _) PostOk.nil.spec)
                  · replace hM := (of_if hM).2 h55
                    refine a_skip ?_
                    exact ⟨v48.2.gparts, hM, (Imp.sh (fun i => bif Nat.beq i 10007 then 10008 else i) rfl rfl rfl rfl rfl rfl)⟩
                · replace hM := (of_if hM).2 h44
                  refine a_skip ?_
                  exact ⟨v11.2.gparts, hM, (Imp.sh (fun i => bif Nat.beq i 10007 then 10006 else i) rfl rfl rfl rfl rfl rfl)⟩
              · rintro a17 hM
                replace hM : w30_CollectErrs_K4 a17 = some r := hM
                unfold w30_CollectErrs_K4 at hM
                refine a_seq (ar (.cons (o_assign rfl) <| .nil _) ?_)
                refine a_seq ?_
                obtain ⟨v19, h18, hM⟩ := of_bind hM
                refine ar (.cons (o_move rfl) <| .cons (o_callN (fun i => i) 0 (CColl_Total_a1_c h18) rfl (DLeL.refl _) .nil rfl .nil) <| .cons (o_move rfl) <| .cons (o_extract rfl rfl) <| .cons (o_extract rfl rfl) <| .cons (o_assign rfl) <| .cons (o_assign rfl) <| .nil _) ?_
                refine a_seq ?_
                obtain ⟨v21, h20, hM⟩ := of_bind hM
                obtain ⟨v23, h22, hM⟩ := of_bind hM
                obtain ⟨v25, h24, hM⟩ := of_bind hM
                obtain ⟨v27, h26, hM⟩ := of_bind hM
                obtain ⟨v29, h28, hM⟩ := of_bind hM
                obtain ⟨v31, h30, hM⟩ := of_bind hM
                obtain ⟨v33, h32, hM⟩ := of_bind hM
                obtain ⟨v35, h34, hM⟩ := of_bind hM
                obtain ⟨v37, h36, hM⟩ := of_bind hM
                obtain ⟨v39, h38, hM⟩ := of_bind hM
                obtain ⟨v41, h40, hM⟩ := of_bind hM
                by_cases hd42 : (((((((((((((v21 == 1) && (v23 == 1)) && (v25 == 0)) && ((List.length v27 : Int) == 0)) && (v19.1 == 0)) && (!v19.2)) && ((List.length v29 : Int) == 0)) && ((List.length v31 : Int) == 0)) && (!v33)) && true) && v37) && (!v39)) && (!v41)) = true
                · replace hM := (of_if hM).1 hd42
                  obtain ⟨v43, h42, hM⟩ := of_bind hM
                  refine ar (.cons (o_move rfl) <| .cons (o_callN (fun i => i) 0 (CColl_Add_a1_c h20) rfl (.cons (DLe.refl _) (.cons (DLe.refl _) (.cons (DLe.nils _) .nil))) .nil rfl .nil) <| .cons (o_int rfl rfl rfl) <| .cons (o_move rfl) <| .cons (o_guardG .bT rfl rfl (fun hb => (.keep .nil)) (fun hb => o_move rfl)) <| .cons (o_guardG .bT rfl rfl (fun hb => (.keep .nil)) (fun hb => o_move rfl)) <| .cons (o_guardG .bT rfl rfl (fun hb => (.strip rfl hb (.strip rfl hb .nil))) (fun hb => o_callN (fun i => bif Nat.beq i 100000 then 10001 else bif Nat.beq i 100001 then 10007 else i) 0 (CColl_Merge_a2_c (of_gb h22 hb)) rfl (DLeL.refl _) (.cons rfl (.cons rfl .nil)) rfl (.cons rfl (.cons rfl .nil)))) <| .cons (o_guardG .bT rfl rfl (fun hb => (.strip rfl hb .nil)) (fun hb => o_int rfl rfl rfl)) <| .cons (o_and rfl rfl) <| .cons (o_move rfl) <| .cons (o_guardG .bT rfl rfl (fun hb => (.keep .nil)) (fun hb => o_move rfl)) <| .cons (o_guardG .bT rfl rfl (fun hb => (.strip rfl hb .nil)) (fun hb => o_callN (fun i => i) 0 (CColl_Components_a1_c (of_gb h24 hb)) rfl (DLeL.refl _) .nil rfl .nil)) <| .cons (o_guardG .bT rfl rfl (fun hb => (.strip rfl hb .nil)) (fun hb => o_int rfl rfl rfl)) <| .cons (o_and rfl rfl) <| .cons (o_move rfl) <| .cons (o_guardG .bT rfl rfl (fun hb => (.keep .nil)) (fun hb => o_move rfl)) <| .cons (o_guardG .bT rfl rfl (fun hb => (.strip rfl hb .nil)) (fun hb => o_callN (fun i => i) 0 (CColl_Records_a1_c (of_gb h26 hb)) rfl (DLeL.refl _) .nil rfl .nil)) <| .cons (o_guardG .bT rfl rfl (fun hb => (.strip rfl hb .nil)) (fun hb => t_len rfl)) <| .cons (o_guardG .bT rfl rfl (fun hb => (.strip rfl hb .nil)) (fun hb => o_int rfl rfl rfl)) <| .cons (o_and rfl rfl) <| .cons (o_move rfl) <| .cons (o_guardG .bT rfl rfl (fun hb => (.keep .nil)) (fun hb => o_move rfl)) <| .cons (o_guardG .bT rfl rfl (fun hb => (.strip rfl hb .nil)) (fun hb => o_int rfl rfl rfl)) <| .cons (o_and rfl rfl) <| .cons (o_move rfl) <| .cons (o_guardG .bT rfl rfl (fun hb => (.keep .nil)) (fun hb => o_move rfl)) <| .cons (o_guardG .bT rfl rfl (fun hb => (.strip rfl hb .nil)) (fun hb => o_not rfl)) <| .cons (o_and rfl rfl) <| .cons (o_move rfl) <| .cons (o_guardG .bT rfl rfl (fun hb => (.keep .nil)) (fun hb => o_move rfl)) <| .cons (o_guardG .bT rfl rfl (fun hb => (.strip rfl hb .nil)) (fun hb => o_callN (fun i => i) 0 (CColl_Missing_a1_c (of_gb h28 hb)) rfl (DLeL.refl _) .nil rfl .nil)) <| .cons (o_guardG .bT rfl rfl (fun hb => (.strip rfl hb .nil)) (fun hb => t_len rfl)) <| .cons (o_guardG .bT rfl rfl (fun hb => (.strip rfl hb .nil)) (fun hb => o_int rfl rfl rfl)) <| .cons (o_and rfl rfl) <| .cons (o_move rfl) <| .cons (o_guardG .bT rfl rfl (fun hb => (.keep .nil)) (fun hb => o_move rfl)) <| .cons (o_guardG .bT rfl rfl (fun hb => (.strip rfl hb .nil)) (fun hb => o_callN (fun i => i) 0 (CColl_Lost_a1_c (of_gb h30 hb)) rfl (DLeL.refl _) .nil rfl .nil)) <| .cons (o_guardG .bT rfl rfl (fun hb => (.strip rfl hb .nil)) (fun hb => t_len rfl)) <| .cons (o_guardG .bT rfl rfl (fun hb => (.strip rfl hb .nil)) (fun hb => o_int rfl rfl rfl)) <| .cons (o_and rfl rfl) <| .cons (o_move rfl) <| .cons (o_guardG .bT rfl rfl (fun hb => (.keep .nil)) (fun hb => o_move rfl)) <| .cons (o_guardG .bT rfl rfl (fun hb => (.strip rfl hb .nil)) (fun hb => o_callN (fun i => i) 0 (CColl_Complete_a1_c (of_gb h32 hb)) rfl (DLeL.refl _) .nil rfl .nil)) <| .cons (o_guardG .bT rfl rfl (fun hb => (.strip rfl hb .nil)) (fun hb => o_not rfl)) <| .cons (o_and rfl rfl) <| .cons (o_move rfl) <| .cons (o_guardG .bT rfl rfl (fun hb => (.keep .nil)) (fun hb => o_move rfl)) <| .cons (o_guardG .bT rfl rfl (fun hb => (.strip rfl hb .nil)) (fun hb => o_callN (fun i => i) 0 (CColl_Copy_a1_c (of_gb h34 hb)) rfl (DLeL.refl _) .nil rfl .nil)) <| .cons (o_guardG .bT rfl rfl (fun hb => (.strip rfl hb .nil)) (fun hb => o_nil_eq rfl)) <| .cons (o_and rfl rfl) <| .cons (o_move rfl) <| .cons (o_guardG .bT rfl rfl (fun hb => (.keep .nil)) (fun hb => o_move rfl)) <| .cons (o_guardG .bT rfl rfl (fun hb => (.strip rfl hb .nil)) (fun hb => o_callN (fun i => i) 0 (CColl_Equal_a1_c (of_gb h36 hb)) rfl (DLeL.refl _) .nil rfl .nil)) <| .cons (o_and rfl rfl) <| .cons (o_move rfl) <| .cons (o_guardG .bT rfl rfl (fun hb => (.keep .nil)) (fun hb => o_move rfl)) <| .cons (o_guardG .bT rfl rfl (fun hb => (.keep .nil)) (fun hb => o_move rfl)) <| .cons (o_guardG .bT rfl rfl (fun hb => (.strip rfl hb (.strip rfl hb .nil))) (fun hb => o_callN (fun i => bif Nat.beq i 100000 then 10001 else bif Nat.beq i 100001 then 10007 else i) 0 (CColl_Equal_a2_c (of_gb h38 hb)) rfl (DLeL.refl _) (.cons rfl (.cons rfl .nil)) rfl (.cons rfl (.cons rfl .nil)))) <| .cons (o_guardG .bT rfl rfl (fun hb => (.strip rfl hb .nil)) (fun hb => o_not rfl)) <| .cons (o_and rfl rfl) <| .cons (o_move rfl) <| .cons (o_guardG .bT rfl rfl (fun hb => (.keep .nil)) (fun hb => o_move rfl)) <| .cons (o_guardG .bT rfl rfl (fun hb => (.strip rfl hb .nil)) (fun hb => o_callN (fun i => bif Nat.beq i 100000 then 10001 else bif Nat.beq i 100001 then 10007 else i) 0 (CColl_Equal_a3_c (of_gb h40 hb)) rfl (DLeL.refl _) (.cons rfl (.cons rfl .nil)) rfl (.cons rfl (.cons rfl .nil)))) <| .cons (o_guardG .bT rfl rfl (fun hb => (.strip rfl hb .nil)) (fun hb => o_not rfl)) <| .cons (o_and rfl rfl) <| .cons (o_move rfl) <| .cons (o_guardG .bT rfl rfl (fun hb => (.keep .nil)) (fun hb => o_move rfl)) <| .cons (o_guardOn .bT rfl rfl hd42 (.strip rfl hd42 .nil) (o_callN (fun i => bif Nat.beq i 50000 then 195 else i) 1 (CColl_Bytes_a_c h42) rfl (DLeL.refl _) .nil rfl .nil)) <| .cons (o_guardOn .bT rfl rfl hd42 (.strip rfl hd42 .nil) (t_len_r rfl rfl)) <| .cons (o_guardOn .bT rfl rfl hd42 (.strip rfl hd42 .nil) (o_int rfl rfl rfl)) <| .cons (o_and rfl rfl) <| .cons (o_assign rfl) <| .nil _) ?_
                  obtain rfl := Option.some.inj hM
                  exact a_ret (a_post (.r1 (.tmp rfl)) (DLe.refl _) PostOk.nil.spec)
                · replace hd42 := Bool.eq_false_iff.2 hd42
                  replace hM := (of_if hM).2 hd42
                  refine ar (.cons (o_move rfl) <| .cons (o_callN (fun i => i) 0 (CColl_Add_a1_c h20) rfl (.cons (DLe.refl _) (.cons (DLe.refl _) (.cons (DLe.nils _) .nil))) .nil rfl .nil) <| .cons (o_int rfl rfl rfl) <| .cons (o_move rfl) <| .cons (o_guardG .bT rfl rfl (fun hb => (.keep .nil)) (fun hb => o_move rfl)) <| .cons (o_guardG .bT rfl rfl (fun hb => (.keep .nil)) (fun hb => o_move rfl)) <| .cons (o_guardG .bT rfl rfl (fun hb => (.strip rfl hb (.strip rfl hb .nil))) (fun hb => o_callN (fun i => bif Nat.beq i 100000 then 10001 else bif Nat.beq i 100001 then 10007 else i) 0 (CColl_Merge_a2_c (of_gb h22 hb)) rfl (DLeL.refl _) (.cons rfl (.cons rfl .nil)) rfl (.cons rfl (.cons rfl .nil)))) <| .cons (o_guardG .bT rfl rfl (fun hb => (.strip rfl hb .nil)) (fun hb => o_int rfl rfl rfl)) <| .cons (o_and rfl rfl) <| .cons (o_move rfl) <| .cons (o_guardG .bT rfl rfl (fun hb => (.keep .nil)) (fun hb => o_move rfl)) <| .cons (o_guardG .bT rfl rfl (fun hb => (.strip rfl hb .nil)) (fun hb => o_callN (fun i => i) 0 (CColl_Components_a1_c (of_gb h24 hb)) rfl (DLeL.refl _) .nil rfl .nil)) <| .cons (o_guardG .bT rfl rfl (fun hb => (.strip rfl hb .nil)) (fun hb => o_int rfl rfl rfl)) <| .cons (o_and rfl rfl) <| .cons (o_move rfl) <| .cons (o_guardG .bT rfl rfl (fun hb => (.keep .nil)) (fun hb => o_move rfl)) <| .cons (o_guardG .bT rfl rfl (fun hb => (.strip rfl hb .nil)) (fun hb => o_callN (fun i => i) 0 (CColl_Records_a1_c (of_gb h26 hb)) rfl (DLeL.refl _) .nil rfl .nil)) <| .cons (o_guardG .bT rfl rfl (fun hb => (.strip rfl hb .nil)) (fun hb => t_len rfl)) <| .cons (o_guardG .bT rfl rfl (fun hb => (.strip rfl hb .nil)) (fun hb => o_int rfl rfl rfl)) <| .cons (o_and rfl rfl) <| .cons (o_move rfl) <| .cons (o_guardG .bT rfl rfl (fun hb => (.keep .nil)) (fun hb => o_move rfl)) <| .cons (o_guardG .bT rfl rfl (fun hb => (.strip rfl hb .nil)) (fun hb => o_int rfl rfl rfl)) <| .cons (o_and rfl rfl) <| .cons (o_move rfl) <| .cons (o_guardG .bT rfl rfl (fun hb => (.keep .nil)) (fun hb => o_move rfl)) <| .cons (o_guardG .bT rfl rfl (fun hb => (.strip rfl hb .nil)) (fun hb => o_not rfl)) <| .cons (o_and rfl rfl) <| .cons (o_move rfl) <| .cons (o_guardG .bT rfl rfl (fun hb => (.keep .nil)) (fun hb => o_move rfl)) <| .cons (o_guardG .bT rfl rfl (fun hb => (.strip rfl hb .nil)) (fun hb => o_callN (fun i => i) 0 (CColl_Missing_a1_c (of_gb h28 hb)) rfl (DLeL.refl _) .nil rfl .nil)) <| .cons (o_guardG .bT rfl rfl (fun hb => (.strip rfl hb .nil)) (fun hb => t_len rfl)) <| .cons (o_guardG .bT rfl rfl (fun hb => (.strip rfl hb .nil)) (fun hb => o_int rfl rfl rfl)) <| .cons (o_and rfl rfl) <| .cons (o_move rfl) <| .cons (o_guardG .bT rfl rfl (fun hb => (.keep .nil)) (fun hb => o_move rfl)) <| .cons (o_guardG .bT rfl rfl (fun hb => (.strip rfl hb .nil)) (fun hb => o_callN (fun i => i) 0 (CColl_Lost_a1_c (of_gb h30 hb)) rfl (DLeL.refl _) .nil rfl .nil)) <| .cons (o_guardG .bT rfl rfl (fun hb => (.strip rfl hb .nil)) (fun hb => t_len rfl)) <| .cons (o_guardG .bT rfl rfl (fun hb => (.strip rfl hb .nil)) (fun hb => o_int rfl rfl rfl)) <| .cons (o_and rfl rfl) <| .cons (o_move rfl) <| .cons (o_guardG .bT rfl rfl (fun hb => (.keep .nil)) (fun hb => o_move rfl)) <| .cons (o_guardG .bT rfl rfl (fun hb => (.strip rfl hb .nil)) (fun hb => o_callN (fun i => i) 0 (CColl_Complete_a1_c (of_gb h32 hb)) rfl (DLeL.refl _) .nil rfl .nil)) <| .cons (o_guardG .bT rfl rfl (fun hb => (.strip rfl hb .nil)) (fun hb => o_not rfl)) <| .cons (o_and rfl rfl) <| .cons (o_move rfl) <| .cons (o_guardG .bT rfl rfl (fun hb => (.keep .nil)) (fun hb => o_move rfl)) <| .cons (o_guardG .bT rfl rfl (fun hb => (.strip rfl hb .nil)) (fun hb => o_callN (fun i => i) 0 (CColl_Copy_a1_c (of_gb h34 hb)) rfl (DLeL.refl _) .nil rfl .nil)) <| .cons (o_guardG .bT rfl rfl (fun hb => (.strip rfl hb .nil)) (fun hb => o_nil_eq rfl)) <| .cons (o_and rfl rfl) <| .cons (o_move rfl) <| .cons (o_guardG .bT rfl rfl (fun hb => (.keep .nil)) (fun hb => o_move rfl)) <| .cons (o_guardG .bT rfl rfl (fun hb => (.strip rfl hb .nil)) (fun hb => o_callN (fun i => i) 0 (CColl_Equal_a1_c (of_gb h36 hb)) rfl (DLeL.refl _) .nil rfl .nil)) <| .cons (o_and rfl rfl) <| .cons (o_move rfl) <| .cons (o_guardG .bT rfl rfl (fun hb => (.keep .nil)) (fun hb => o_move rfl)) <| .cons (o_guardG .bT rfl rfl (fun hb => (.keep .nil)) (fun hb => o_move rfl)) <| .cons (o_guardG .bT rfl rfl (fun hb => (.strip rfl hb (.strip rfl hb .nil))) (fun hb => o_callN (fun i => bif Nat.beq i 100000 then 10001 else bif Nat.beq i 100001 then 10007 else i) 0 (CColl_Equal_a2_c (of_gb h38 hb)) rfl (DLeL.refl _) (.cons rfl (.cons rfl .nil)) rfl (.cons rfl (.cons rfl .nil)))) <| .cons (o_guardG .bT rfl rfl (fun hb => (.strip rfl hb .nil)) (fun hb => o_not rfl)) <| .cons (o_and rfl rfl) <| .cons (o_move rfl) <| .cons (o_guardG .bT rfl rfl (fun hb => (.keep .nil)) (fun hb => o_move rfl)) <| .cons (o_guardG .bT rfl rfl (fun hb => (.strip rfl hb .nil)) (fun hb => o_callN (fun i => bif Nat.beq i 100000 then 10001 else bif Nat.beq i 100001 then 10007 else i) 0 (CColl_Equal_a3_c (of_gb h40 hb)) rfl (DLeL.refl _) (.cons rfl (.cons rfl .nil)) rfl (.cons rfl (.cons rfl .nil)))) <| .cons (o_guardG .bT rfl rfl (fun hb => (.strip rfl hb .nil)) (fun hb => o_not rfl)) <| .cons (o_and rfl rfl) <| .cons (o_move rfl) <| .cons (o_guardG .bT rfl rfl (fun hb => (.keep .nil)) (fun hb => o_move rfl)) <| .cons (o_guardOff (.nils) .bT rfl rfl hd42) <| .cons (o_guardOff (.int .i64 0) .bT rfl rfl hd42) <| .cons (o_guardOff (.bool false) .bT rfl rfl hd42) <| .cons (o_and rfl rfl) <| .cons (o_assign rfl) <| .nil _) ?_
                  obtain rfl := Option.some.inj hM
                  exact a_ret (a_post (.r1 (.tmp rfl)) (DLe.refl _) PostOk.nil.spec)
          · cases hM
      · cases hM
end Go.Proofs.YtepkcbalmjnhpaaGreat
set_option maxRecDepth 100000
set_option maxHeartbeats 1000000
set_option linter.unusedVariables false
set_option linter.unusedSimpArgs false
namespace Go.Proofs.YtepkcbalmjnhpaaGreat
open Go.RowKit
theorem miss0 : CPart_missing part0 = some [] := by kernel_rfl
theorem pairs0 : collect_pairs [] = some [] := by kernel_rfl
theorem cloneAll0 : collect_cloneAll [] = some [] := by kernel_rfl
theorem nil_knows (a : List CPart) : w30_CollectErrs_K2 a = some true := by
  have t : CColl_Total_a1 0 = some (0, false) := rfl
  have r : CColl_Records_a1 0 = some [] := by
    unfold CColl_Records_a1 CColl_part_a1
    rw [Option.bind_some, cloneAll0]; rfl
  have m : CColl_Missing_a1 0 = some [] := by
    unfold CColl_Missing_a1 CColl_part_a1
    rw [Option.bind_some, show CPart.mk [] [] false 0 = part0 from rfl, miss0, Option.bind_some, pairs0]; rfl
  have l : CColl_Lost_a1 0 = some [] := by
    unfold CColl_Lost_a1 CColl_part_a1
    rw [Option.bind_some, pairs0]; rfl
  have ad : CColl_Add_a1 0 [] = some 1 := rfl
  have me : CColl_Merge_a2 (CColl.mk a) = some 1 := rfl
  have co : CColl_Components_a1 = some 0 := rfl
  have cm : CColl_Complete_a1 = some false := rfl
  have cp : CColl_Copy_a1 = some () := rfl
  have e1 : CColl_Equal_a1 = some true := rfl
  have e2 : CColl_Equal_a2 (CColl.mk a) = some false := rfl
  have e3 : CColl_Equal_a3 (CColl.mk a) = some false := rfl
  have by0 : CColl_Bytes_a = some [] := rfl
  unfold w30_CollectErrs_K2
  simp only [t, r, m, l, ad, me, co, cm, cp, e1, e2, e3, by0, Option.bind_some, gb, beq_self_eq_true, Bool.and_self, if_true, List.length_nil, Int.ofNat_zero, Bool.not_false, Bool.and_true, Int.cast_ofNat_Int]
theorem outside (x1 : Int) (P : List CPart) (h : P.length = 2) (hx : x1 < 0 ∨ 1 < x1) : ((decide (x1 < 0)) || (decide ((List.length P : Int) ≤ x1))) = true := by
  simp only [Bool.or_eq_true, decide_eq_true_eq]; omega
theorem errs_rest (x1 : Int) (x2 : List Fi) (h2 : ∀ f ∈ x2, FileOk f) : w30_CollectErrs_K1 x1 x2 = some true := by
  have hx : (0 : Int) ≤ 0 ∧ (0 : Int) ≤ 255 := by decide
  have hn : 1 ≤ nOf 0 ∧ nOf 0 ≤ 8 := by decide
  obtain ⟨φ, hφ⟩ := files_fun (nOf 0) hn
  obtain ⟨P, Ks, Rs, p1, sp, _⟩ := collected2 0 hx hφ x2 h2
  have hk : Ks.length = 2 := sp.inv.lenK
  have hl : P.length = 2 := sp.inv.len
  unfold w30_CollectErrs_K1
  rw [p1, Option.bind_some]
  dsimp only
  rw [awake30, Option.bind_some]
  simp only [Bool.not_true, Bool.or_self, Bool.false_eq_true, if_false]
  rw [hk, new_eq 2 (by decide), Option.bind_some]
  dsimp only
  have mg : CColl_Merge_a ⟨P⟩ ⟨List.replicate (2 + 1) part0⟩ = some (1, ⟨P⟩) := by
    unfold CColl_Merge_a
    dsimp only
    rw [if_pos (by rw [hl]; rfl)]
  have ag := sp.inv.agrees hn.2
  have mn : CColl_Merge_a1 ⟨P⟩ = some 1 := rfl
  rw [mg, Option.bind_some]
  simp only [bne_self_eq_false, Bool.not_false, gb, if_true, mn, Option.bind_some, Bool.or_self, ag, Bool.not_true, Bool.false_eq_true, if_false]
  by_cases ho : x1 < 0 ∨ 1 < x1
  · have hd : ((decide (x1 < 0)) || (decide (1 < x1))) = true := by
      simp only [Bool.or_eq_true, decide_eq_true_eq]; omega
    have hp := outside x1 P hl ho
    have pt : CColl_part_a x1 ⟨P⟩ = some part0 := by
      unfold CColl_part_a
      dsimp only
      rw [if_pos hp]; rfl
    have t : CColl_Total_a x1 ⟨P⟩ = some (0, false) := by
      unfold CColl_Total_a
      rw [pt]; rfl
    have ad : CColl_Add_a x1 [] ⟨P⟩ = some (1, ⟨P⟩) := by
      unfold CColl_Add_a
      dsimp only
      rw [if_pos hp]
    have r : CColl_Records_a x1 ⟨P⟩ = some [] := by
      unfold CColl_Records_a
      rw [pt, Option.bind_some, show part0.gentries = [] from rfl, cloneAll0]; rfl
    have m : CColl_Missing_a x1 ⟨P⟩ = some [] := by
      unfold CColl_Missing_a
      rw [pt, Option.bind_some, miss0, Option.bind_some, pairs0]; rfl
    have l : CColl_Lost_a x1 ⟨P⟩ = some [] := by
      unfold CColl_Lost_a
      rw [pt, Option.bind_some, show part0.glost = [] from rfl, pairs0]; rfl
    rw [hd, if_pos rfl, t, Option.bind_some, ad, Option.bind_some]
    dsimp only
    simp only [bne_self_eq_false, Bool.not_false, gb, if_true, r, Option.bind_some, List.length_nil, m, l, Bool.or_self, Int.ofNat_zero, Int.cast_ofNat_Int, Bool.or_false]
    exact nil_knows P
  · have hd : ((decide (x1 < 0)) || (decide (1 < x1))) = false := by
      simp only [Bool.or_eq_false_iff, decide_eq_false_iff_not]; omega
    rw [hd]
    simp only [Bool.false_eq_true, if_false]
    exact nil_knows P
theorem errs_law (x0 x1 : Int) (x2 : List Fi) (hx : -9223372036854775808 ≤ x0 ∧ x0 ≤ 9223372036854775807) (h2 : ∀ f ∈ x2, FileOk f) : w30_CollectErrs x0 x1 x2 = some true := by
  unfold w30_CollectErrs
  by_cases hc : x0 < 1 ∨ 8 < x0
  · have hd : ((decide (x0 < 1)) || (decide (8 < x0))) = true := by
      simp only [Bool.or_eq_true, decide_eq_true_eq]; omega
    have hnew : collect_New x0 = some (.inr ()) := by
      unfold collect_New
      rw [if_pos hd]
    rw [hnew, Option.bind_some]
    dsimp only
    rw [if_pos hd]
    exact errs_rest x1 x2 h2
  · have hd : ((decide (x0 < 1)) || (decide (8 < x0))) = false := by
      simp only [Bool.or_eq_false_iff, decide_eq_false_iff_not]; omega
    obtain ⟨n, rfl⟩ : ∃ n : Nat, x0 = (n : Int) := ⟨x0.toNat, by omega⟩
    have hn : 1 ≤ n ∧ n ≤ 8 := by omega
    rw [new_eq n hn, Option.bind_some]
    dsimp only
    rw [hd]
    simp only [Bool.false_eq_true, if_false]
    have cm : CColl_Components_a ⟨List.replicate (n + 1) part0⟩ = some (n : Int) := by
      unfold CColl_Components_a
      dsimp only
      rw [List.length_replicate, show ((n + 1 : Nat) : Int) - 1 = (n : Int) by omega, wrap_i64 (by omega) (by omega), if_pos (by omega)]
    have cp : CColl_Complete_a ⟨List.replicate (n + 1) part0⟩ = some false := by
      unfold CColl_Complete_a
      dsimp only
      have h0 : ¬ ((List.length (List.replicate (n + 1) part0) : Int) == 0) = true := by
        rw [List.length_replicate]; simp; omega
      rw [if_neg h0]
      obtain ⟨k, rfl⟩ : ∃ k, n = k + 1 := ⟨n - 1, by omega⟩
      rw [forM_done (S := Unit) (E := Bool) (s0 := ()) (e := false) (k + 1 + 1) 0 (fun _ => ()) rfl (by rw [List.length_replicate]) (by rw [List.length_replicate]; omega) (by omega) (fun j hj => absurd hj (Nat.not_lt_zero _)) ?_]
      · rfl
      · unfold CColl_Complete_a_L2
        rfl
    rw [cm, Option.bind_some]
    simp only [bne_self_eq_false, Bool.not_false, gb, if_true, cp, Option.bind_some, Bool.or_self, Bool.false_eq_true, if_false]
    exact errs_rest x1 x2 h2
end Go.Proofs.YtepkcbalmjnhpaaGreat
