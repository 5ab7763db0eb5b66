/-
  Models of functions and the proofs that the code computes them, printed by gm2.py.
-/
import Derived.Test.YtepkcbalmjnhpaaGreatTyE
import Derived.Test.YtepkcbalmjnhpaaGreatRcd
import Derived.Test.YtepkcbalmjnhpaaGreatFrm
import Derived.Test.YtepkcbalmjnhpaaGreatHSl
set_option maxRecDepth 100000
set_option maxHeartbeats 4000000
set_option linter.unusedVariables false
set_option linter.unusedSimpArgs false
namespace Go.Proofs.YtepkcbalmjnhpaaGreat
open Go.RowKit
def array_2_uint64.cs (x : Nat → Int) : List DV := [.int .u64 (x 0), .int .u64 (x 1)]
def array_2_uint64.dv (x : Nat → Int) : DV := .agg (array_2_uint64.cs x)
def collect_New (x0 : Int) : Option ((collect_Collector) ⊕ (Unit)) :=
  if ((decide (x0 < 1)) || (decide (8 < x0))) = true then
    some (.inr ())
  else
    chk (mkOk 64 (IntKind.wrap .i64 (x0 + 1)) (IntKind.wrap .i64 (x0 + 1))) <|
    some (.inl (collect_Collector.mk (List.replicate (Int.toNat (IntKind.wrap .i64 (x0 + 1))) (collect_part.mk [] [] false 0))))
theorem collect_New_c0 {x0 : Int} {r : collect_Collector} (hM : collect_New x0 = some (.inl r)) : ACall Tryz.prog 25 ⟨[.int .i64 x0], [], .tup [.ref 50000 0, .int .i64 0], [(50000, some (.blk 134 [.row 50001])), (50001, some (.row 137 4 (List.map collect_part.dv r.gparts)))], [50000, 50001]⟩ := by
  unfold collect_New at hM
  refine ACall.body Tryz.func25 Tryz.ntmps25 rfl rfl rfl rfl ?_
  refine a_seq ?_
  refine a_region (.cons (o_assign rfl) <| .cons (o_assign rfl) <| .nil _) (by kernel_rfl) (by kernel_rfl) ?_
  refine a_seq ?_
  refine a_seq ?_
  refine a_region (.cons (o_move rfl) <| .cons (o_int rfl rfl rfl) <| .cons (o_move rfl) <| .cons (o_guardG .bF rfl rfl (fun hb => (.keep .nil)) (fun hb => o_move rfl)) <| .cons (o_guardG .bF rfl rfl (fun hb => (.strip rfl hb .nil)) (fun hb => o_int rfl rfl rfl)) <| .cons (o_or rfl rfl) <| .nil _) (by kernel_rfl) (by kernel_rfl) ?_
  refine a_cond _ rfl (fun h1 => ?_) (fun h1 => ?_)
  · replace hM := (of_if hM).1 h1
    refine a_seq ?_
    refine a_region (.cons (o_assign rfl) <| .cons (o_assign rfl) <| .nil _) (by kernel_rfl) (by kernel_rfl) ?_
    cases hM
  · replace hM := (of_if hM).2 h1
    refine a_skip ?_
    refine a_seq ?_
    obtain ⟨h2, hM⟩ := of_chk hM
    refine a_region (.cons (o_move rfl) <| .cons (o_int rfl rfl rfl) <| .cons (t_makeW collect_part.dv (collect_part.mk [] [] false 0) h2 rfl rfl rfl (DLe.agg (.cons (DLe.nils _) (.cons (DLe.nils _) (.cons (DLe.refl _) (.cons (DLe.refl _) .nil)))))) <| .cons (o_build rfl rfl rfl) <| .cons (o_box rfl rfl) <| .cons (o_assign rfl) <| .cons (o_assign rfl) <| .nil _) (by kernel_rfl) (by kernel_rfl) ?_
    obtain rfl := Sum.inl.inj (Option.some.inj hM)
    refine a_imp (σ' := ⟨[(2, .ref 50000 0), (3, .int .i64 0)], [(50000, some (.blk 134 [.row 50001])), (50001, some (.row 137 4 (List.map collect_part.dv ((collect_Collector.mk (List.replicate (Int.toNat (IntKind.wrap .i64 (x0 + 1))) (collect_part.mk [] [] false 0))).gparts))))], [50000, 50001]⟩) (Imp.of (fun i => bif Nat.beq i 50001 then 12 else bif Nat.beq i 50000 then 14 else i) (.cons rfl (DLe.refl _) (.cons rfl (DLe.refl _) .nil)) (.cons rfl (.refl _) (.cons rfl (.refl _) .nil)) rfl rfl rfl) ?_
    exact a_ret (a_post (.r2 (.tmp rfl) (.tmp rfl)) (DLe.refl _) (PostOk.spec (.cons rfl (.cons rfl .nil))))
theorem collect_New_c1 {x0 : Int} {r : Unit} (hM : collect_New x0 = some (.inr r)) : ACall Tryz.prog 25 ⟨[.int .i64 x0], [], .tup [.val (.pointer none), .int .i64 1], [], []⟩ := by
  unfold collect_New at hM
  refine ACall.body Tryz.func25 Tryz.ntmps25 rfl rfl rfl rfl ?_
  refine a_seq ?_
  refine a_region (.cons (o_assign rfl) <| .cons (o_assign rfl) <| .nil _) (by kernel_rfl) (by kernel_rfl) ?_
  refine a_seq ?_
  refine a_seq ?_
  refine a_region (.cons (o_move rfl) <| .cons (o_int rfl rfl rfl) <| .cons (o_move rfl) <| .cons (o_guardG .bF rfl rfl (fun hb => (.keep .nil)) (fun hb => o_move rfl)) <| .cons (o_guardG .bF rfl rfl (fun hb => (.strip rfl hb .nil)) (fun hb => o_int rfl rfl rfl)) <| .cons (o_or rfl rfl) <| .nil _) (by kernel_rfl) (by kernel_rfl) ?_
  refine a_cond _ rfl (fun h1 => ?_) (fun h1 => ?_)
  · replace hM := (of_if hM).1 h1
    refine a_seq ?_
    refine a_region (.cons (o_assign rfl) <| .cons (o_assign rfl) <| .nil _) (by kernel_rfl) (by kernel_rfl) ?_
    obtain rfl := Sum.inr.inj (Option.some.inj hM)
    refine a_imp (σ' := ⟨[(2, .val (.pointer none)), (3, .int .i64 1)], [], []⟩) (Imp.of (fun i => i) (.cons rfl (DLe.refl _) (.cons rfl (DLe.refl _) .nil)) .nil rfl rfl rfl) ?_
    exact a_ret (a_post (.r2 (.tmp rfl) (.tmp rfl)) (DLe.refl _) (PostOk.spec .nil))
  · replace hM := (of_if hM).2 h1
    refine a_skip ?_
    refine a_seq ?_
    obtain ⟨h2, hM⟩ := of_chk hM
    refine a_region (.cons (o_move rfl) <| .cons (o_int rfl rfl rfl) <| .cons (t_makeW collect_part.dv (collect_part.mk [] [] false 0) h2 rfl rfl rfl (DLe.agg (.cons (DLe.nils _) (.cons (DLe.nils _) (.cons (DLe.refl _) (.cons (DLe.refl _) .nil)))))) <| .cons (o_build rfl rfl rfl) <| .cons (o_box rfl rfl) <| .cons (o_assign rfl) <| .cons (o_assign rfl) <| .nil _) (by kernel_rfl) (by kernel_rfl) ?_
    cases hM

def collect_clone (x0 : record_Record) : Option record_Record :=
  (slices_Clone_int64_int64 x0.gEvent.gArgs).bind fun v2 =>
  some (record_Record.mk x0.gComponent x0.gSeq x0.gClock x0.gWhat (api_Event.mk x0.gEvent.gTick x0.gEvent.gComponent x0.gEvent.gKind x0.gEvent.gPeer x0.gEvent.gN x0.gEvent.gCopy x0.gEvent.gHandler x0.gEvent.gD v2) x0.gCount)
theorem collect_clone_c {x0 : record_Record} {r : record_Record} (hM : collect_clone x0 = some r) : PCall Tryz.prog 120 [.agg (record_Record.cs x0)] (.agg (record_Record.cs r)) := by
  unfold collect_clone at hM
  refine PCall.body Tryz.func120 Tryz.ntmps120 rfl rfl rfl rfl ?_
  refine a_seq ?_
  refine a_region (.cons (o_box rfl rfl) <| .cons (o_alloc rfl) <| .nil _) (by kernel_rfl) (by kernel_rfl) ?_
  refine a_seq ?_
  obtain ⟨v2, h1, hM⟩ := of_bind hM
  refine a_region (.cons (o_fieldAddr rfl) <| .cons (o_fieldAddr rfl) <| .cons (o_load_s rfl rfl rfl) <| .cons (o_callN (fun i => bif Nat.beq i 50000 then 10001 else i) 1 (slices_Clone_int64_int64_c h1) rfl (DLeL.refl _) .nil rfl .nil) <| .cons (o_fieldAddr rfl) <| .cons (o_fieldAddr rfl) <| .cons (o_store_s rfl rfl rfl rfl rfl) <| .nil _) (by kernel_rfl) (by kernel_rfl) ?_
  refine a_seq ?_
  refine a_region (.cons (o_load_r rfl rfl rfl rfl) <| .cons (o_store rfl rfl rfl rfl rfl rfl rfl) <| .nil _) (by kernel_rfl) (by kernel_rfl) ?_
  obtain rfl := Option.some.inj hM
  refine a_imp (Imp.freeze (id := 10001) rfl) ?_
  exact a_ret (a_post (.r1 (.cell rfl rfl (.row _ CRow.h (Nat.le_of_ble_eq_true rfl) rfl))) (DLe.refl _) PostOk.nil.spec)

def collect_cloneAll_K2 (a1 : List record_Record) : Option (List record_Record) :=
  some a1
def collect_cloneAll_L5 (x0 : List record_Record) (k3 : Nat) (a4 : List record_Record) : Option (List record_Record) :=
  (idx x0 (k3 : Int)).bind fun v9 =>
  (collect_clone v9).bind fun v11 =>
  chk (apOk 248 (List.length a4 + List.length [v11])) <|
  some (a4 ++ [v11])
def collect_cloneAll (x0 : List record_Record) : Option (List record_Record) :=
  (foldM' 9223372036854775807 (List.length x0 : Int) (fun k3 s => collect_cloneAll_L5 x0 k3 s) ([] : List record_Record)).bind fun s => collect_cloneAll_K2 s
theorem collect_cloneAll_c {x0 : List record_Record} {r : (List record_Record)} (hM : collect_cloneAll x0 = some r) : PCall Tryz.prog 69 [.sl 29 (List.map record_Record.dv x0)] (.sl 29 (List.map record_Record.dv r)) := by
  unfold collect_cloneAll at hM
  refine PCall.body Tryz.func69 Tryz.ntmps69 rfl rfl rfl rfl ?_
  refine a_seq ?_
  refine a_region (.cons (o_assign rfl) <| .nil _) (by kernel_rfl) (by kernel_rfl) ?_
  refine a_seq ?_
  refine a_region (.cons (o_assign rfl) <| .nil _) (by kernel_rfl) (by kernel_rfl) ?_
  refine a_cut (α := (List record_Record)) (fun s => ⟨[(3, .sl 29 (List.map record_Record.dv s))], [], []⟩) (fun s => collect_cloneAll_K2 s = some r) ?_ ?_
  · refine a_seq ?_
    refine a_region (.cons (o_move rfl) <| .cons (t_len rfl) <| .cons (o_move rfl) <| .nil _) (by kernel_rfl) (by kernel_rfl) ?_
    obtain ⟨a4, hL5, hK5⟩ := of_bind hM
    refine a_block ?_
    refine a_fold (fun k3 (s : (List record_Record)) => ⟨[(3, .row 10001), (6, .sl 29 (List.map record_Record.dv x0)), (7, .int .i64 (List.length x0 : Int)), (8, .int .i64 (k3 : Int))], [(10001, some (.row 52 29 (List.map record_Record.dv s)))], [10001]⟩) _ hL5 ((Imp.nilRow (t := 3) (id := 10002) 52 29 rfl rfl).trans (Imp.of (fun i => bif Nat.beq i 10001 then 10002 else i) (.cons rfl (DLe.refl _) (.cons rfl (DLe.refl _) (.cons rfl (DLe.refl _) (.cons rfl (DLe.refl _) .nil)))) (.cons rfl (.refl _) .nil) rfl rfl rfl)) ?_ ?_
    · rintro k3 a4 t6 hk3 hx3 hM
      replace hM : collect_cloneAll_L5 x0 k3 a4 = some t6 := hM
      unfold collect_cloneAll_L5 at hM
      refine a_seq ?_
      refine a_region (.cons (o_int rfl rfl rfl) <| .nil _) (by kernel_rfl) (by kernel_rfl) ?_
      refine a_seq ?_
      refine a_cond _ rfl (fun _ => ?_) (fun c => absurd hk3 (of_decide_eq_false c))
      refine a_skip ?_
      refine a_seq ?_
      refine a_block ?_
      refine a_seq ?_
      obtain ⟨v9, h8, hM⟩ := of_bind hM
      refine a_region (.cons (t_index h8 rfl rfl rfl) <| .cons (o_load_er rfl rfl rfl) <| .cons (o_alloc rfl) <| .cons (o_store rfl rfl rfl rfl rfl rfl rfl) <| .nil _) (by kernel_rfl) (by kernel_rfl) ?_
      obtain ⟨v11, h10, hM⟩ := of_bind hM
      obtain ⟨h12, hM⟩ := of_chk hM
      refine a_region (.cons (o_move rfl) <| .cons (o_load_r rfl rfl rfl rfl) <| .cons (o_call (collect_clone_c h10) rfl (DLeL.refl _) rfl) <| .cons (t_build record_Record.dv ([v11] : List record_Record) rfl rfl rfl rfl rfl rfl rfl) <| .cons (t_append [v11] h12 rfl rfl rfl (Src.row rfl)) <| .cons (o_assign rfl) <| .nil _) (by kernel_rfl) (by kernel_rfl) ?_
      refine a_region (.cons (o_add rfl rfl (inR_i64 hk3 hx3)) <| .cons (o_move rfl) <| .nil _) (by kernel_rfl) (by kernel_rfl) ?_
      obtain rfl := Option.some.inj hM
      exact (Imp.of (fun i => bif Nat.beq i 10001 then 16 else i) (.cons rfl (DLe.refl _) (.cons rfl (DLe.refl _) (.cons rfl (DLe.refl _) (.cons rfl (DLe.succ _ _) .nil)))) (.cons rfl (.refl _) .nil) rfl rfl rfl)
    · rintro k3 hk3 hx3
      refine a_seq ?_
      refine a_region (.cons (o_int rfl rfl rfl) <| .nil _) (by kernel_rfl) (by kernel_rfl) ?_
      refine a_seq ?_
      refine a_cond _ rfl (fun c => absurd (of_decide_eq_true c) (Int.not_lt.2 hk3)) (fun _ => ?_)
      refine a_exit ?_
      exact ⟨a4, hK5, ((Imp.freeze (id := 10001) rfl).trans (Imp.of (fun i => i) (.cons rfl (DLe.refl _) .nil) .nil rfl rfl rfl))⟩
  · rintro a1 hM
    replace hM : collect_cloneAll_K2 a1 = some r := hM
    unfold collect_cloneAll_K2 at hM
    refine a_seq ?_
    refine a_region (.cons (o_move rfl) <| .cons (o_assign rfl) <| .nil _) (by kernel_rfl) (by kernel_rfl) ?_
    obtain rfl := Option.some.inj hM
    exact a_ret (a_post (.r1 (.tmp rfl)) (DLe.refl _) PostOk.nil.spec)

def collect_without_K2 (a1 : List collect_span) : Option (List collect_span) :=
  some a1
def collect_without_K11 (a9 : List collect_span) (a10 : Int) : Option ((List collect_span) × Int) :=
  some (a9, a10)
def collect_without_K19 (v13 : collect_span) (a16 : List collect_span) (a17 : Int) (a18 : Int) : Option ((List collect_span) × Int) :=
  if (decide (a18 < v13.gto)) = true then
    chk (apOk 16 (List.length a16 + List.length [(collect_span.mk a18 v13.gto)])) <|
    collect_without_K11 (a16 ++ [(collect_span.mk a18 v13.gto)]) a17
  else
    collect_without_K11 a16 a17
def collect_without_K31 (x1 : List record_Record) (a23 : Int) (a30 : List collect_span) : Option (Ctl ((List collect_span) × Int × Int) ((List collect_span) × Int × Int)) :=
  (idx x1 a23).bind fun v33 =>
  some (.next (a30, (IntKind.wrap .i64 (a23 + 1)), (IntKind.wrap .u64 (v33.gSeq + 1))))
def collect_without_L25 (x1 : List record_Record) (v13 : collect_span) (a22 : List collect_span) (a23 : Int) (a24 : Int) : Option (Ctl ((List collect_span) × Int × Int) ((List collect_span) × Int × Int)) :=
  (gb (decide (a23 < (List.length x1 : Int))) (record_Record.mk 0 0 (vclock_Clock.mk (arr 0 [])) 0 (api_Event.mk 0 0 0 0 0 0 0 0 []) 0) (idx x1 a23)).bind fun v28 =>
  if ((decide (a23 < (List.length x1 : Int))) && (decide (v28.gSeq < v13.gto))) = true then
    (idx x1 a23).bind fun v35 =>
    if (decide (a24 < v35.gSeq)) = true then
      (idx x1 a23).bind fun v38 =>
      chk (apOk 16 (List.length a22 + List.length [(collect_span.mk a24 v38.gSeq)])) <|
      collect_without_K31 x1 a23 (a22 ++ [(collect_span.mk a24 v38.gSeq)])
    else
      collect_without_K31 x1 a23 a22
  else
    some (.done (a22, a23, a24))
def collect_without_K15 (x1 : List record_Record) (a4 : List collect_span) (v13 : collect_span) (a14 : Int) : Option ((List collect_span) × Int) :=
  (whileM (E := (List collect_span) × Int × Int) (fun s => collect_without_L25 x1 v13 s.1 s.2.1 s.2.2) (a4, a14, v13.gfrom)).bind fun e => collect_without_K19 v13 e.1 e.2.1 e.2.2
def collect_without_L41 (x1 : List record_Record) (v13 : collect_span) (a40 : Int) : Option (Ctl Int Int) :=
  (gb (decide (a40 < (List.length x1 : Int))) (record_Record.mk 0 0 (vclock_Clock.mk (arr 0 [])) 0 (api_Event.mk 0 0 0 0 0 0 0 0 []) 0) (idx x1 a40)).bind fun v44 =>
  if ((decide (a40 < (List.length x1 : Int))) && (decide (v44.gSeq < v13.gfrom))) = true then
    some (.next (IntKind.wrap .i64 (a40 + 1)))
  else
    some (.done a40)
def collect_without_L6 (x0 : List collect_span) (x1 : List record_Record) (k3 : Nat) (a4 : List collect_span) (a5 : Int) : Option ((List collect_span) × Int) :=
  (idx x0 (k3 : Int)).bind fun v13 =>
  (whileM (E := Int) (fun s => collect_without_L41 x1 v13 s) a5).bind fun e => collect_without_K15 x1 a4 v13 e
def collect_without (x0 : List collect_span) (x1 : List record_Record) : Option (List collect_span) :=
  (foldM' 9223372036854775807 (List.length x0 : Int) (fun k3 s => collect_without_L6 x0 x1 k3 s.1 s.2) (([] : List collect_span), 0)).bind fun s => collect_without_K2 s.1
theorem collect_without_c {x0 : List collect_span} {x1 : List record_Record} {r : (List collect_span)} (hM : collect_without x0 x1 = some r) : PCall Tryz.prog 123 [.sl 2 (List.map collect_span.dv x0), .sl 29 (List.map record_Record.dv x1)] (.sl 2 (List.map collect_span.dv r)) := by
  unfold collect_without at hM
  refine PCall.body Tryz.func123 Tryz.ntmps123 rfl rfl rfl rfl ?_
  refine a_seq ?_
  refine a_region (.cons (o_assign rfl) <| .nil _) (by kernel_rfl) (by kernel_rfl) ?_
  refine a_seq ?_
  refine a_region (.cons (o_assign rfl) <| .nil _) (by kernel_rfl) (by kernel_rfl) ?_
  refine a_seq ?_
  refine a_region (.cons (o_assign rfl) <| .nil _) (by kernel_rfl) (by kernel_rfl) ?_
  refine a_cut (α := (List collect_span)) (fun s => ⟨[(5, .sl 2 (List.map collect_span.dv s))], [], []⟩) (fun s => collect_without_K2 s = some r) ?_ ?_
  · refine a_seq ?_
    refine a_region (.cons (o_move rfl) <| .cons (t_len rfl) <| .cons (o_move rfl) <| .nil _) (by kernel_rfl) (by kernel_rfl) ?_
    obtain ⟨⟨a4, a5⟩, hL6, hK6⟩ := of_bind hM
    refine a_block ?_
    refine a_fold (fun k3 (s : (List collect_span) × Int) => ⟨[(1, .sl 29 (List.map record_Record.dv x1)), (5, .row 10001), (6, .int .i64 s.2), (10, .sl 2 (List.map collect_span.dv x0)), (11, .int .i64 (List.length x0 : Int)), (12, .int .i64 (k3 : Int))], [(10001, some (.row 146 2 (List.map collect_span.dv s.1)))], [10001]⟩) _ hL6 ((Imp.nilRow (t := 5) (id := 10008) 146 2 rfl rfl).trans (Imp.of (fun i => bif Nat.beq i 10001 then 10008 else i) (.cons rfl (DLe.refl _) (.cons rfl (DLe.refl _) (.cons rfl (DLe.refl _) (.cons rfl (DLe.refl _) (.cons rfl (DLe.refl _) (.cons rfl (DLe.refl _) .nil)))))) (.cons rfl (.refl _) .nil) rfl rfl rfl)) ?_ ?_
    · rintro k3 ⟨a4, a5⟩ t7 hk3 hx3 hM
      replace hM : collect_without_L6 x0 x1 k3 a4 a5 = some t7 := hM
      unfold collect_without_L6 at hM
      refine a_seq ?_
      refine a_region (.cons (o_int rfl rfl rfl) <| .nil _) (by kernel_rfl) (by kernel_rfl) ?_
      refine a_seq ?_
      refine a_cond _ rfl (fun _ => ?_) (fun c => absurd hk3 (of_decide_eq_false c))
      refine a_skip ?_
      refine a_cut (α := (List collect_span) × Int) (fun s => ⟨[(1, .sl 29 (List.map record_Record.dv x1)), (5, .row 10002), (6, .int .i64 s.2), (10, .sl 2 (List.map collect_span.dv x0)), (11, .int .i64 (List.length x0 : Int)), (12, .int .i64 (k3 : Int))], [(10002, some (.row 146 2 (List.map collect_span.dv s.1)))], [10002]⟩) (fun s => collect_without_K11 s.1 s.2 = some t7) ?_ ?_
      · refine a_block ?_
        refine a_seq ?_
        obtain ⟨v13, h12, hM⟩ := of_bind hM
        refine a_region (.cons (t_index h12 rfl rfl rfl) <| .cons (o_load_er rfl rfl rfl) <| .cons (o_alloc rfl) <| .cons (o_store rfl rfl rfl rfl rfl rfl rfl) <| .nil _) (by kernel_rfl) (by kernel_rfl) ?_
        refine a_cut (α := Int) (fun s => ⟨[(1, .sl 29 (List.map record_Record.dv x1)), (5, .row 10003), (6, .int .i64 s), (8, .ref 8 0), (10, .sl 2 (List.map collect_span.dv x0)), (11, .int .i64 (List.length x0 : Int)), (12, .int .i64 (k3 : Int))], [(8, some (.blk 146 (collect_span.cs v13))), (10003, some (.row 146 2 (List.map collect_span.dv a4)))], [8, 10003]⟩) (fun s => collect_without_K15 x1 a4 v13 s = some t7) ?_ ?_
        · obtain ⟨e41, hL41, hK41⟩ := of_bind hM
          refine a_block ?_
          refine a_while (fun s : Int => ⟨[(1, .sl 29 (List.map record_Record.dv x1)), (5, .row 10007), (6, .int .i64 s), (8, .ref 8 0), (10, .sl 2 (List.map collect_span.dv x0)), (11, .int .i64 (List.length x0 : Int)), (12, .int .i64 (k3 : Int))], [(8, some (.blk 146 (collect_span.cs v13))), (10007, some (.row 146 2 (List.map collect_span.dv a4)))], [8, 10007]⟩) _ hL41 (Imp.of (fun i => bif Nat.beq i 10007 then 10001 else i) (.cons rfl (DLe.refl _) (.cons rfl (DLe.refl _) (.cons rfl (DLe.refl _) (.cons rfl (DLe.refl _) (.cons rfl (DLe.refl _) (.cons rfl (DLe.refl _) (.cons rfl (DLe.refl _) .nil))))))) (.cons rfl (.refl _) (.cons rfl (.refl _) .nil)) rfl rfl rfl) ?_
          rintro a40 t42 hM hE41
          replace hM : collect_without_L41 x1 v13 a40 = some t42 := hM
          unfold collect_without_L41 at hM
          refine a_seq ?_
          refine a_seq ?_
          obtain ⟨v44, h43, hM⟩ := of_bind hM
          refine a_draw mixed (.cons (o_move rfl) <| .cons (o_move rfl) <| .cons (t_len rfl) <| .cons (o_int rfl rfl rfl) <| .cons (o_move rfl) <| .cons (o_guardG .bT rfl rfl (fun hb => (.keep .nil)) (fun hb => o_move rfl)) <| .cons (o_guardG .bT rfl rfl (fun hb => (.keep .nil)) (fun hb => o_move rfl)) <| .cons (o_guardG .bT rfl rfl (fun hb => (.strip rfl hb (.strip rfl hb .nil))) (fun hb => t_index (of_gb h43 hb) rfl rfl rfl)) <| .cons (o_guardG .bT rfl rfl (fun hb => (.strip rfl hb .nil)) (fun hb => o_fieldAddr_e rfl rfl)) <| .cons (o_guardG .bT rfl rfl (fun hb => (.strip rfl hb .nil)) (fun hb => o_load_es rfl rfl)) <| .cons (o_guardG .bT rfl rfl (fun hb => (.keep .nil)) (fun hb => o_fieldAddr rfl)) <| .cons (o_guardG .bT rfl rfl (fun hb => (.strip rfl hb .nil)) (fun hb => o_load_s rfl rfl rfl)) <| .cons (o_guardG .bT rfl rfl (fun hb => (.strip rfl hb (.strip rfl hb .nil))) (fun hb => o_int rfl rfl rfl)) <| .cons (o_and rfl rfl) <| .nil _) (by kernel_rfl) (by kernel_rfl) (by kernel_rfl) ?_
          refine a_cond _ rfl (fun h45 => ?_) (fun h45 => ?_)
          · replace hM := (of_if hM).1 h45
            refine a_skip ?_
            refine a_block ?_
            refine a_region (.cons (o_move rfl) <| .cons (o_int rfl rfl rfl) <| .cons (o_assign rfl) <| .nil _) (by kernel_rfl) (by kernel_rfl) ?_
            obtain rfl := Option.some.inj hM
            exact ⟨(IntKind.wrap .i64 (a40 + 1)), rfl, (Imp.of (fun i => i) (.cons rfl (DLe.refl _) (.cons rfl (DLe.refl _) (.cons rfl (DLe.refl _) (.cons rfl (DLe.refl _) (.cons rfl (DLe.refl _) (.cons rfl (DLe.refl _) (.cons rfl (DLe.refl _) .nil))))))) (.cons rfl (.refl _) (.cons rfl (.refl _) .nil)) rfl rfl rfl)⟩
          · replace hM := (of_if hM).2 h45
            refine a_exit ?_
            obtain rfl := Option.some.inj hM
            obtain rfl := hE41 _ rfl
            exact ⟨a40, hK41, (Imp.of (fun i => bif Nat.beq i 10003 then 10007 else i) (.cons rfl (DLe.refl _) (.cons rfl (DLe.refl _) (.cons rfl (DLe.refl _) (.cons rfl (DLe.refl _) (.cons rfl (DLe.refl _) (.cons rfl (DLe.refl _) (.cons rfl (DLe.refl _) .nil))))))) (.cons rfl (.refl _) (.cons rfl (.refl _) .nil)) rfl rfl rfl)⟩
        · rintro a14 hM
          replace hM : collect_without_K15 x1 a4 v13 a14 = some t7 := hM
          unfold collect_without_K15 at hM
          refine a_seq ?_
          refine a_region (.cons (o_fieldAddr rfl) <| .cons (o_load_s rfl rfl rfl) <| .cons (o_assign rfl) <| .nil _) (by kernel_rfl) (by kernel_rfl) ?_
          refine a_cut (α := (List collect_span) × Int × Int) (fun s => ⟨[(1, .sl 29 (List.map record_Record.dv x1)), (5, .row 10004), (6, .int .i64 s.2.1), (8, .ref 8 0), (9, .int .u64 s.2.2), (10, .sl 2 (List.map collect_span.dv x0)), (11, .int .i64 (List.length x0 : Int)), (12, .int .i64 (k3 : Int))], [(8, some (.blk 146 (collect_span.cs v13))), (10004, some (.row 146 2 (List.map collect_span.dv s.1)))], [8, 10004]⟩) (fun s => collect_without_K19 v13 s.1 s.2.1 s.2.2 = some t7) ?_ ?_
          · obtain ⟨e25, hL25, hK25⟩ := of_bind hM
            refine a_block ?_
            refine a_while (fun s : (List collect_span) × Int × Int => ⟨[(1, .sl 29 (List.map record_Record.dv x1)), (5, .row 10005), (6, .int .i64 s.2.1), (8, .ref 8 0), (9, .int .u64 s.2.2), (10, .sl 2 (List.map collect_span.dv x0)), (11, .int .i64 (List.length x0 : Int)), (12, .int .i64 (k3 : Int))], [(8, some (.blk 146 (collect_span.cs v13))), (10005, some (.row 146 2 (List.map collect_span.dv s.1)))], [8, 10005]⟩) _ hL25 (Imp.of (fun i => bif Nat.beq i 10005 then 10003 else i) (.cons rfl (DLe.refl _) (.cons rfl (DLe.refl _) (.cons rfl (DLe.refl _) (.cons rfl (DLe.refl _) (.cons rfl (DLe.refl _) (.cons rfl (DLe.refl _) (.cons rfl (DLe.refl _) (.cons rfl (DLe.refl _) .nil)))))))) (.cons rfl (.refl _) (.cons rfl (.refl _) .nil)) rfl rfl rfl) ?_
            rintro ⟨a22, a23, a24⟩ t26 hM hE25
            replace hM : collect_without_L25 x1 v13 a22 a23 a24 = some t26 := hM
            unfold collect_without_L25 at hM
            refine a_seq ?_
            refine a_seq ?_
            obtain ⟨v28, h27, hM⟩ := of_bind hM
            refine a_draw mixed (.cons (o_move rfl) <| .cons (o_move rfl) <| .cons (t_len rfl) <| .cons (o_int rfl rfl rfl) <| .cons (o_move rfl) <| .cons (o_guardG .bT rfl rfl (fun hb => (.keep .nil)) (fun hb => o_move rfl)) <| .cons (o_guardG .bT rfl rfl (fun hb => (.keep .nil)) (fun hb => o_move rfl)) <| .cons (o_guardG .bT rfl rfl (fun hb => (.strip rfl hb (.strip rfl hb .nil))) (fun hb => t_index (of_gb h27 hb) rfl rfl rfl)) <| .cons (o_guardG .bT rfl rfl (fun hb => (.strip rfl hb .nil)) (fun hb => o_fieldAddr_e rfl rfl)) <| .cons (o_guardG .bT rfl rfl (fun hb => (.strip rfl hb .nil)) (fun hb => o_load_es rfl rfl)) <| .cons (o_guardG .bT rfl rfl (fun hb => (.keep .nil)) (fun hb => o_fieldAddr rfl)) <| .cons (o_guardG .bT rfl rfl (fun hb => (.strip rfl hb .nil)) (fun hb => o_load_s rfl rfl rfl)) <| .cons (o_guardG .bT rfl rfl (fun hb => (.strip rfl hb (.strip rfl hb .nil))) (fun hb => o_int rfl rfl rfl)) <| .cons (o_and rfl rfl) <| .nil _) (by kernel_rfl) (by kernel_rfl) (by kernel_rfl) ?_
            refine a_cond _ rfl (fun h29 => ?_) (fun h29 => ?_)
            · replace hM := (of_if hM).1 h29
              refine a_skip ?_
              refine a_block ?_
              refine a_cut (α := (List collect_span)) (fun s => ⟨[(1, .sl 29 (List.map record_Record.dv x1)), (5, .row 10006), (6, .int .i64 a23), (8, .ref 8 0), (10, .sl 2 (List.map collect_span.dv x0)), (11, .int .i64 (List.length x0 : Int)), (12, .int .i64 (k3 : Int))], [(8, some (.blk 146 (collect_span.cs v13))), (10006, some (.row 146 2 (List.map collect_span.dv s)))], [8, 10006]⟩) (fun s => collect_without_K31 x1 a23 s = some t26) ?_ ?_
              · refine a_seq ?_
                obtain ⟨v35, h34, hM⟩ := of_bind hM
                refine a_region (.cons (o_move rfl) <| .cons (o_move rfl) <| .cons (o_move rfl) <| .cons (t_index h34 rfl rfl rfl) <| .cons (o_fieldAddr_e rfl rfl) <| .cons (o_load_es rfl rfl) <| .cons (o_int rfl rfl rfl) <| .nil _) (by kernel_rfl) (by kernel_rfl) ?_
                refine a_cond _ rfl (fun h36 => ?_) (fun h36 => ?_)
                · replace hM := (of_if hM).1 h36
                  obtain ⟨v38, h37, hM⟩ := of_bind hM
                  obtain ⟨h39, hM⟩ := of_chk hM
                  refine a_region (.cons (o_move rfl) <| .cons (o_move rfl) <| .cons (o_move rfl) <| .cons (o_move rfl) <| .cons (t_index h37 rfl rfl rfl) <| .cons (o_fieldAddr_e rfl rfl) <| .cons (o_load_es rfl rfl) <| .cons (o_build rfl rfl rfl) <| .cons (t_build collect_span.dv ([(collect_span.mk a24 v38.gSeq)] : List collect_span) rfl rfl rfl rfl rfl rfl rfl) <| .cons (t_append [(collect_span.mk a24 v38.gSeq)] h39 rfl rfl rfl (Src.row rfl)) <| .cons (o_assign rfl) <| .nil _) (by kernel_rfl) (by kernel_rfl) ?_
                  exact ⟨(a22 ++ [(collect_span.mk a24 v38.gSeq)]), hM, (Imp.of (fun i => bif Nat.beq i 10006 then 64 else i) (.cons rfl (DLe.refl _) (.cons rfl (DLe.refl _) (.cons rfl (DLe.refl _) (.cons rfl (DLe.refl _) (.cons rfl (DLe.refl _) (.cons rfl (DLe.refl _) (.cons rfl (DLe.refl _) .nil))))))) (.cons rfl (.refl _) (.cons rfl (.refl _) .nil)) rfl rfl rfl)⟩
                · replace hM := (of_if hM).2 h36
                  refine a_skip ?_
                  exact ⟨a22, hM, (Imp.of (fun i => bif Nat.beq i 10006 then 10005 else i) (.cons rfl (DLe.refl _) (.cons rfl (DLe.refl _) (.cons rfl (DLe.refl _) (.cons rfl (DLe.refl _) (.cons rfl (DLe.refl _) (.cons rfl (DLe.refl _) (.cons rfl (DLe.refl _) .nil))))))) (.cons rfl (.refl _) (.cons rfl (.refl _) .nil)) rfl rfl rfl)⟩
              · rintro a30 hM
                replace hM : collect_without_K31 x1 a23 a30 = some t26 := hM
                unfold collect_without_K31 at hM
                refine a_seq ?_
                obtain ⟨v33, h32, hM⟩ := of_bind hM
                refine a_region (.cons (o_move rfl) <| .cons (o_move rfl) <| .cons (t_index h32 rfl rfl rfl) <| .cons (o_fieldAddr_e rfl rfl) <| .cons (o_load_es rfl rfl) <| .cons (o_int rfl rfl rfl) <| .cons (o_assign rfl) <| .nil _) (by kernel_rfl) (by kernel_rfl) ?_
                refine a_region (.cons (o_move rfl) <| .cons (o_int rfl rfl rfl) <| .cons (o_assign rfl) <| .nil _) (by kernel_rfl) (by kernel_rfl) ?_
                obtain rfl := Option.some.inj hM
                exact ⟨(a30, (IntKind.wrap .i64 (a23 + 1)), (IntKind.wrap .u64 (v33.gSeq + 1))), rfl, (Imp.of (fun i => bif Nat.beq i 10005 then 10006 else i) (.cons rfl (DLe.refl _) (.cons rfl (DLe.refl _) (.cons rfl (DLe.refl _) (.cons rfl (DLe.refl _) (.cons rfl (DLe.refl _) (.cons rfl (DLe.refl _) (.cons rfl (DLe.refl _) (.cons rfl (DLe.refl _) .nil)))))))) (.cons rfl (.refl _) (.cons rfl (.refl _) .nil)) rfl rfl rfl)⟩
            · replace hM := (of_if hM).2 h29
              refine a_exit ?_
              obtain rfl := Option.some.inj hM
              obtain rfl := hE25 _ rfl
              exact ⟨(a22, a23, a24), hK25, (Imp.of (fun i => bif Nat.beq i 10004 then 10005 else i) (.cons rfl (DLe.refl _) (.cons rfl (DLe.refl _) (.cons rfl (DLe.refl _) (.cons rfl (DLe.refl _) (.cons rfl (DLe.refl _) (.cons rfl (DLe.refl _) (.cons rfl (DLe.refl _) (.cons rfl (DLe.refl _) .nil)))))))) (.cons rfl (.refl _) (.cons rfl (.refl _) .nil)) rfl rfl rfl)⟩
          · rintro ⟨a16, a17, a18⟩ hM
            replace hM : collect_without_K19 v13 a16 a17 a18 = some t7 := hM
            unfold collect_without_K19 at hM
            refine a_seq ?_
            refine a_region (.cons (o_move rfl) <| .cons (o_fieldAddr rfl) <| .cons (o_load_s rfl rfl rfl) <| .cons (o_int rfl rfl rfl) <| .nil _) (by kernel_rfl) (by kernel_rfl) ?_
            refine a_cond _ rfl (fun h20 => ?_) (fun h20 => ?_)
            · replace hM := (of_if hM).1 h20
              obtain ⟨h21, hM⟩ := of_chk hM
              refine a_region (.cons (o_move rfl) <| .cons (o_move rfl) <| .cons (o_fieldAddr rfl) <| .cons (o_load_s rfl rfl rfl) <| .cons (o_build rfl rfl rfl) <| .cons (t_build collect_span.dv ([(collect_span.mk a18 v13.gto)] : List collect_span) rfl rfl rfl rfl rfl rfl rfl) <| .cons (t_append [(collect_span.mk a18 v13.gto)] h21 rfl rfl rfl (Src.row rfl)) <| .cons (o_assign rfl) <| .nil _) (by kernel_rfl) (by kernel_rfl) ?_
              exact ⟨((a16 ++ [(collect_span.mk a18 v13.gto)]), a17), hM, (Imp.of (fun i => bif Nat.beq i 10002 then 83 else i) (.cons rfl (DLe.refl _) (.cons rfl (DLe.refl _) (.cons rfl (DLe.refl _) (.cons rfl (DLe.refl _) (.cons rfl (DLe.refl _) (.cons rfl (DLe.refl _) .nil)))))) (.cons rfl (.refl _) .nil) rfl rfl rfl)⟩
            · replace hM := (of_if hM).2 h20
              refine a_skip ?_
              exact ⟨(a16, a17), hM, (Imp.of (fun i => bif Nat.beq i 10002 then 10004 else i) (.cons rfl (DLe.refl _) (.cons rfl (DLe.refl _) (.cons rfl (DLe.refl _) (.cons rfl (DLe.refl _) (.cons rfl (DLe.refl _) (.cons rfl (DLe.refl _) .nil)))))) (.cons rfl (.refl _) .nil) rfl rfl rfl)⟩
      · rintro ⟨a9, a10⟩ hM
        replace hM : collect_without_K11 a9 a10 = some t7 := hM
        unfold collect_without_K11 at hM
        refine a_region (.cons (o_add rfl rfl (inR_i64 hk3 hx3)) <| .cons (o_move rfl) <| .nil _) (by kernel_rfl) (by kernel_rfl) ?_
        obtain rfl := Option.some.inj hM
        exact (Imp.of (fun i => bif Nat.beq i 10001 then 10002 else i) (.cons rfl (DLe.refl _) (.cons rfl (DLe.refl _) (.cons rfl (DLe.refl _) (.cons rfl (DLe.refl _) (.cons rfl (DLe.refl _) (.cons rfl (DLe.succ _ _) .nil)))))) (.cons rfl (.refl _) .nil) rfl rfl rfl)
    · rintro k3 hk3 hx3
      refine a_seq ?_
      refine a_region (.cons (o_int rfl rfl rfl) <| .nil _) (by kernel_rfl) (by kernel_rfl) ?_
      refine a_seq ?_
      refine a_cond _ rfl (fun c => absurd (of_decide_eq_true c) (Int.not_lt.2 hk3)) (fun _ => ?_)
      refine a_exit ?_
      exact ⟨a4, hK6, ((Imp.freeze (id := 10001) rfl).trans (Imp.of (fun i => i) (.cons rfl (DLe.refl _) .nil) .nil rfl rfl rfl))⟩
  · rintro a1 hM
    replace hM : collect_without_K2 a1 = some r := hM
    unfold collect_without_K2 at hM
    refine a_seq ?_
    refine a_region (.cons (o_move rfl) <| .cons (o_assign rfl) <| .nil _) (by kernel_rfl) (by kernel_rfl) ?_
    obtain rfl := Option.some.inj hM
    exact a_ret (a_post (.r1 (.tmp rfl)) (DLe.refl _) PostOk.nil.spec)

def collect_partOf_K5 (a1 : List record_Record) (a2 : List collect_span) (a3 : Bool) (a4 : Int) : Option (collect_part × Bool) :=
  some ((collect_part.mk a1 a2 a3 a4), true)
def collect_partOf_L11 (x0 : List record_Record) (x1 : Int) (k6 : Nat) (a7 : List record_Record) (a8 : List collect_span) (a9 : Bool) (a10 : Int) : Option (Ctl ((List record_Record) × (List collect_span) × Bool × Int) (collect_part × Bool)) :=
  (idx x0 (k6 : Int)).bind fun v15 =>
  if (v15.gComponent != x1) = true then
    some (.done ((collect_part.mk [] [] false 0), false))
  else
    if (v15.gWhat == 1) = true then
      (collect_clone v15).bind fun v19 =>
      chk (apOk 248 (List.length a7 + List.length [v19])) <|
      some (.next ((a7 ++ [v19]), a8, a9, a10))
    else
      if (v15.gWhat == 2) = true then
        chk (apOk 16 (List.length a8 + List.length [(collect_span.mk v15.gSeq (IntKind.wrap .u64 (v15.gSeq + v15.gCount)))])) <|
        some (.next (a7, (a8 ++ [(collect_span.mk v15.gSeq (IntKind.wrap .u64 (v15.gSeq + v15.gCount)))]), a9, a10))
      else
        if (v15.gWhat == 3) = true then
          if (a9 && (a10 != v15.gSeq)) = true then
            some (.done ((collect_part.mk [] [] false 0), false))
          else
            some (.next (a7, a8, true, v15.gSeq))
        else
          some (.next (a7, a8, a9, a10))
def collect_partOf (x0 : List record_Record) (x1 : Int) : Option (collect_part × Bool) :=
  (forM' (E := collect_part × Bool) 9223372036854775807 (List.length x0 : Int) (fun k6 s => collect_partOf_L11 x0 x1 k6 s.1 s.2.1 s.2.2.1 s.2.2.2) (([] : List record_Record), ([] : List collect_span), false, 0)).bind fun
    | .next s => collect_partOf_K5 s.1 s.2.1 s.2.2.1 s.2.2.2
    | .done r => some r
theorem collect_partOf_c {x0 : List record_Record} {x1 : Int} {r : collect_part × Bool} (hM : collect_partOf x0 x1 = some r) : PCall Tryz.prog 65 [.sl 29 (List.map record_Record.dv x0), .int .i64 x1] (.tup [.agg (collect_part.cs r.1), .bool r.2]) := by
  unfold collect_partOf at hM
  refine PCall.body Tryz.func65 Tryz.ntmps65 rfl rfl rfl rfl ?_
  refine a_seq ?_
  refine a_region (.cons (o_alloc rfl) <| .cons (o_assign rfl) <| .nil _) (by kernel_rfl) (by kernel_rfl) ?_
  refine a_seq ?_
  refine a_region (.cons (o_alloc rfl) <| .nil _) (by kernel_rfl) (by kernel_rfl) ?_
  refine a_cut (α := (List record_Record) × (List collect_span) × Bool × Int) (fun s => ⟨[(4, .ref 4 0), (6, .ref 6 0)], [(4, some (.blk 137 [.nils, .nils, .bool false, .int .u64 0])), (6, some (.blk 137 [.row 10001, .row 10002, .bool s.2.2.1, .int .u64 s.2.2.2])), (10001, some (.row 52 29 (List.map record_Record.dv s.1))), (10002, some (.row 146 2 (List.map collect_span.dv s.2.1)))], [4, 6, 10001, 10002]⟩) (fun s => collect_partOf_K5 s.1 s.2.1 s.2.2.1 s.2.2.2 = some r) ?_ ?_
  · refine a_seq ?_
    refine a_region (.cons (o_move rfl) <| .cons (t_len rfl) <| .cons (o_move rfl) <| .nil _) (by kernel_rfl) (by kernel_rfl) ?_
    obtain ⟨t11, hL11, hK11⟩ := of_bind hM
    refine a_block ?_
    refine a_for (fun k6 (s : (List record_Record) × (List collect_span) × Bool × Int) => ⟨[(1, .int .i64 x1), (4, .ref 4 0), (6, .ref 6 0), (9, .sl 29 (List.map record_Record.dv x0)), (10, .int .i64 (List.length x0 : Int)), (11, .int .i64 (k6 : Int))], [(4, some (.blk 137 [.nils, .nils, .bool false, .int .u64 0])), (6, some (.blk 137 [.row 10003, .row 10004, .bool s.2.2.1, .int .u64 s.2.2.2])), (10003, some (.row 52 29 (List.map record_Record.dv s.1))), (10004, some (.row 146 2 (List.map collect_span.dv s.2.1)))], [4, 6, 10003, 10004]⟩) _ hL11 ((Imp.nilC (id := 6) (rid := 10005) (j := 0) 52 29 rfl rfl rfl rfl).trans ((Imp.nilC (id := 6) (rid := 10006) (j := 1) 146 2 rfl rfl rfl rfl).trans (Imp.of (fun i => bif Nat.beq i 10004 then 10006 else bif Nat.beq i 10003 then 10005 else i) (.cons rfl (DLe.refl _) (.cons rfl (DLe.refl _) (.cons rfl (DLe.refl _) (.cons rfl (DLe.refl _) (.cons rfl (DLe.refl _) (.cons rfl (DLe.refl _) .nil)))))) (.cons rfl (.refl _) (.cons rfl (.refl _) (.cons rfl (.refl _) (.cons rfl (.refl _) .nil)))) rfl rfl rfl))) ?_ ?_
    · rintro k6 ⟨a7, a8, a9, a10⟩ t12 hk6 hx6 hM hE11
      replace hM : collect_partOf_L11 x0 x1 k6 a7 a8 a9 a10 = some t12 := hM
      unfold collect_partOf_L11 at hM
      refine a_seq ?_
      refine a_region (.cons (o_int rfl rfl rfl) <| .nil _) (by kernel_rfl) (by kernel_rfl) ?_
      refine a_seq ?_
      refine a_cond _ rfl (fun _ => ?_) (fun c => absurd hk6 (of_decide_eq_false c))
      refine a_skip ?_
      refine a_seq ?_
      refine a_block ?_
      refine a_seq ?_
      obtain ⟨v15, h14, hM⟩ := of_bind hM
      refine a_region (.cons (t_index h14 rfl rfl rfl) <| .cons (o_load_er rfl rfl rfl) <| .cons (o_alloc rfl) <| .cons (o_store rfl rfl rfl rfl rfl rfl rfl) <| .nil _) (by kernel_rfl) (by kernel_rfl) ?_
      refine a_seq ?_
      refine a_seq ?_
      refine a_region (.cons (o_fieldAddr rfl) <| .cons (o_load_s rfl rfl rfl) <| .cons (o_move rfl) <| .cons (o_int rfl rfl rfl) <| .nil _) (by kernel_rfl) (by kernel_rfl) ?_
      refine a_cond _ rfl (fun h16 => ?_) (fun h16 => ?_)
      · replace hM := (of_if hM).1 h16
        refine a_seq ?_
        refine a_region (.cons (o_build rfl rfl rfl) <| .cons (o_store rfl rfl rfl rfl rfl rfl rfl) <| .cons (o_assign rfl) <| .nil _) (by kernel_rfl) (by kernel_rfl) ?_
        obtain rfl := Option.some.inj hM
        obtain rfl := hE11 _ rfl
        obtain rfl := Option.some.inj hK11
        exact a_ret (a_post (.r2 (.cell rfl rfl (.row _ CRow.h (Nat.le_of_ble_eq_true rfl) rfl)) (.tmp rfl)) (DLe.tup (.cons (DLe.agg (.cons (DLe.nils _) (.cons (DLe.nils _) (.cons (DLe.refl _) (.cons (DLe.refl _) .nil))))) (.cons (DLe.refl _) .nil))) PostOk.nil.spec)
      · replace hM := (of_if hM).2 h16
        refine a_skip ?_
        refine a_seq ?_
        refine a_region (.cons (o_fieldAddr rfl) <| .cons (o_load_s rfl rfl rfl) <| .nil _) (by kernel_rfl) (by kernel_rfl) ?_
        refine a_block ?_
        refine a_seq ?_
        refine a_region (.cons (o_int rfl rfl rfl) <| .cons (o_assign rfl) <| .nil _) (by kernel_rfl) (by kernel_rfl) ?_
        refine a_cond _ rfl (fun h17 => ?_) (fun h17 => ?_)
        · replace hM := (of_if hM).1 h17
          obtain ⟨v19, h18, hM⟩ := of_bind hM
          obtain ⟨h20, hM⟩ := of_chk hM
          refine a_draw mixed (.cons (o_fieldAddr rfl) <| .cons (o_load_s rfl rfl rfl) <| .cons (o_load_r rfl rfl rfl rfl) <| .cons (o_call (collect_clone_c h18) rfl (DLeL.refl _) rfl) <| .cons (t_build record_Record.dv ([v19] : List record_Record) rfl rfl rfl rfl rfl rfl rfl) <| .cons (t_append [v19] h20 rfl rfl rfl (Src.row rfl)) <| .cons (o_fieldAddr rfl) <| .cons (o_store_s rfl rfl rfl rfl rfl) <| .nil _) (by kernel_rfl) (by kernel_rfl) (by kernel_rfl) ?_
          refine a_region (.cons (o_add rfl rfl (inR_i64 hk6 hx6)) <| .cons (o_move rfl) <| .nil _) (by kernel_rfl) (by kernel_rfl) ?_
          obtain rfl := Option.some.inj hM
          exact ⟨((a7 ++ [v19]), a8, a9, a10), rfl, (Imp.of (fun i => bif Nat.beq i 10003 then 29 else i) (.cons rfl (DLe.refl _) (.cons rfl (DLe.refl _) (.cons rfl (DLe.refl _) (.cons rfl (DLe.refl _) (.cons rfl (DLe.refl _) (.cons rfl (DLe.succ _ _) .nil)))))) (.cons rfl (.refl _) (.cons rfl (.refl _) (.cons rfl (.refl _) (.cons rfl (.refl _) .nil)))) rfl rfl rfl)⟩
        · replace hM := (of_if hM).2 h17
          refine a_seq ?_
          refine a_region (.cons (o_int rfl rfl rfl) <| .cons (o_assign rfl) <| .nil _) (by kernel_rfl) (by kernel_rfl) ?_
          refine a_cond _ rfl (fun h21 => ?_) (fun h21 => ?_)
          · replace hM := (of_if hM).1 h21
            obtain ⟨h22, hM⟩ := of_chk hM
            refine a_region (.cons (o_fieldAddr rfl) <| .cons (o_load_s rfl rfl rfl) <| .cons (o_fieldAddr rfl) <| .cons (o_load_s rfl rfl rfl) <| .cons (o_fieldAddr rfl) <| .cons (o_load_s rfl rfl rfl) <| .cons (o_fieldAddr rfl) <| .cons (o_load_s rfl rfl rfl) <| .cons (o_int rfl rfl rfl) <| .cons (o_build rfl rfl rfl) <| .cons (t_build collect_span.dv ([(collect_span.mk v15.gSeq (IntKind.wrap .u64 (v15.gSeq + v15.gCount)))] : List collect_span) rfl rfl rfl rfl rfl rfl rfl) <| .cons (t_append [(collect_span.mk v15.gSeq (IntKind.wrap .u64 (v15.gSeq + v15.gCount)))] h22 rfl rfl rfl (Src.row rfl)) <| .cons (o_fieldAddr rfl) <| .cons (o_store_s rfl rfl rfl rfl rfl) <| .nil _) (by kernel_rfl) (by kernel_rfl) ?_
            refine a_region (.cons (o_add rfl rfl (inR_i64 hk6 hx6)) <| .cons (o_move rfl) <| .nil _) (by kernel_rfl) (by kernel_rfl) ?_
            obtain rfl := Option.some.inj hM
            exact ⟨(a7, (a8 ++ [(collect_span.mk v15.gSeq (IntKind.wrap .u64 (v15.gSeq + v15.gCount)))]), a9, a10), rfl, (Imp.of (fun i => bif Nat.beq i 10004 then 44 else i) (.cons rfl (DLe.refl _) (.cons rfl (DLe.refl _) (.cons rfl (DLe.refl _) (.cons rfl (DLe.refl _) (.cons rfl (DLe.refl _) (.cons rfl (DLe.succ _ _) .nil)))))) (.cons rfl (.refl _) (.cons rfl (.refl _) (.cons rfl (.refl _) (.cons rfl (.refl _) .nil)))) rfl rfl rfl)⟩
          · replace hM := (of_if hM).2 h21
            refine a_seq ?_
            refine a_region (.cons (o_int rfl rfl rfl) <| .cons (o_assign rfl) <| .nil _) (by kernel_rfl) (by kernel_rfl) ?_
            refine a_cond _ rfl (fun h23 => ?_) (fun h23 => ?_)
            · replace hM := (of_if hM).1 h23
              refine a_seq ?_
              refine a_seq ?_
              refine a_region (.cons (o_fieldAddr rfl) <| .cons (o_load_s rfl rfl rfl) <| .cons (o_move rfl) <| .cons (o_guardG .bT rfl rfl (fun hb => (.keep .nil)) (fun hb => o_fieldAddr rfl)) <| .cons (o_guardG .bT rfl rfl (fun hb => (.strip rfl hb .nil)) (fun hb => o_load_s rfl rfl rfl)) <| .cons (o_guardG .bT rfl rfl (fun hb => (.keep .nil)) (fun hb => o_fieldAddr rfl)) <| .cons (o_guardG .bT rfl rfl (fun hb => (.strip rfl hb .nil)) (fun hb => o_load_s rfl rfl rfl)) <| .cons (o_guardG .bT rfl rfl (fun hb => (.strip rfl hb (.strip rfl hb .nil))) (fun hb => o_int rfl rfl rfl)) <| .cons (o_and rfl rfl) <| .nil _) (by kernel_rfl) (by kernel_rfl) ?_
              refine a_cond _ rfl (fun h24 => ?_) (fun h24 => ?_)
              · replace hM := (of_if hM).1 h24
                refine a_seq ?_
                refine a_region (.cons (o_build rfl rfl rfl) <| .cons (o_store rfl rfl rfl rfl rfl rfl rfl) <| .cons (o_assign rfl) <| .nil _) (by kernel_rfl) (by kernel_rfl) ?_
                obtain rfl := Option.some.inj hM
                obtain rfl := hE11 _ rfl
                obtain rfl := Option.some.inj hK11
                exact a_ret (a_post (.r2 (.cell rfl rfl (.row _ CRow.h (Nat.le_of_ble_eq_true rfl) rfl)) (.tmp rfl)) (DLe.tup (.cons (DLe.agg (.cons (DLe.nils _) (.cons (DLe.nils _) (.cons (DLe.refl _) (.cons (DLe.refl _) .nil))))) (.cons (DLe.refl _) .nil))) PostOk.nil.spec)
              · replace hM := (of_if hM).2 h24
                refine a_skip ?_
                refine a_draw mixed (.cons (o_fieldAddr rfl) <| .cons (o_load_s rfl rfl rfl) <| .cons (o_fieldAddr rfl) <| .cons (o_store_s rfl rfl rfl rfl rfl) <| .cons (o_fieldAddr rfl) <| .cons (o_store_s rfl rfl rfl rfl rfl) <| .nil _) (by kernel_rfl) (by kernel_rfl) (by kernel_rfl) ?_
                refine a_region (.cons (o_add rfl rfl (inR_i64 hk6 hx6)) <| .cons (o_move rfl) <| .nil _) (by kernel_rfl) (by kernel_rfl) ?_
                obtain rfl := Option.some.inj hM
                exact ⟨(a7, a8, true, v15.gSeq), rfl, (Imp.of (fun i => i) (.cons rfl (DLe.refl _) (.cons rfl (DLe.refl _) (.cons rfl (DLe.refl _) (.cons rfl (DLe.refl _) (.cons rfl (DLe.refl _) (.cons rfl (DLe.succ _ _) .nil)))))) (.cons rfl (.refl _) (.cons rfl (.refl _) (.cons rfl (.refl _) (.cons rfl (.refl _) .nil)))) rfl rfl rfl)⟩
            · replace hM := (of_if hM).2 h23
              refine a_skip ?_
              refine a_region (.cons (o_add rfl rfl (inR_i64 hk6 hx6)) <| .cons (o_move rfl) <| .nil _) (by kernel_rfl) (by kernel_rfl) ?_
              obtain rfl := Option.some.inj hM
              exact ⟨(a7, a8, a9, a10), rfl, (Imp.of (fun i => i) (.cons rfl (DLe.refl _) (.cons rfl (DLe.refl _) (.cons rfl (DLe.refl _) (.cons rfl (DLe.refl _) (.cons rfl (DLe.refl _) (.cons rfl (DLe.succ _ _) .nil)))))) (.cons rfl (.refl _) (.cons rfl (.refl _) (.cons rfl (.refl _) (.cons rfl (.refl _) .nil)))) rfl rfl rfl)⟩
    · rintro k6 ⟨a7, a8, a9, a10⟩ hk6 hx6 rfl
      refine a_seq ?_
      refine a_region (.cons (o_int rfl rfl rfl) <| .nil _) (by kernel_rfl) (by kernel_rfl) ?_
      refine a_seq ?_
      refine a_cond _ rfl (fun c => absurd (of_decide_eq_true c) (Int.not_lt.2 hk6)) (fun _ => ?_)
      refine a_exit ?_
      exact ⟨(a7, a8, a9, a10), hK11, (Imp.of (fun i => bif Nat.beq i 10002 then 10004 else bif Nat.beq i 10001 then 10003 else i) (.cons rfl (DLe.refl _) (.cons rfl (DLe.refl _) .nil)) (.cons rfl (.refl _) (.cons rfl (.refl _) (.cons rfl (.refl _) (.cons rfl (.refl _) .nil)))) rfl rfl rfl)⟩
  · rintro ⟨a1, a2, a3, a4⟩ hM
    replace hM : collect_partOf_K5 a1 a2 a3 a4 = some r := hM
    unfold collect_partOf_K5 at hM
    refine a_seq ?_
    refine a_region (.cons (o_load_r rfl rfl rfl rfl) <| .cons (o_store rfl rfl rfl rfl rfl rfl rfl) <| .cons (o_assign rfl) <| .nil _) (by kernel_rfl) (by kernel_rfl) ?_
    obtain rfl := Option.some.inj hM
    refine a_imp (Imp.freeze (id := 10001) rfl) ?_
    refine a_imp (Imp.freeze (id := 10002) rfl) ?_
    exact a_ret (a_post (.r2 (.cell rfl rfl (.row _ CRow.h (Nat.le_of_ble_eq_true rfl) rfl)) (.tmp rfl)) (DLe.refl _) PostOk.nil.spec)

def collect_pairs_K2 (a1 : List (Nat → Int)) : Option (List (Nat → Int)) :=
  some a1
def collect_pairs_L5 (x0 : List collect_span) (k3 : Nat) (a4 : List (Nat → Int)) : Option (List (Nat → Int)) :=
  (idx x0 (k3 : Int)).bind fun v9 =>
  chk (apOk 16 (List.length a4 + List.length [(arr 0 [v9.gfrom, (IntKind.wrap .u64 (v9.gto - v9.gfrom))])])) <|
  some (a4 ++ [(arr 0 [v9.gfrom, (IntKind.wrap .u64 (v9.gto - v9.gfrom))])])
def collect_pairs (x0 : List collect_span) : Option (List (Nat → Int)) :=
  (foldM' 9223372036854775807 (List.length x0 : Int) (fun k3 s => collect_pairs_L5 x0 k3 s) ([] : List (Nat → Int))).bind fun s => collect_pairs_K2 s
theorem collect_pairs_c {x0 : List collect_span} {r : (List (Nat → Int))} (hM : collect_pairs x0 = some r) : PCall Tryz.prog 79 [.sl 2 (List.map collect_span.dv x0)] (.sl 2 (List.map array_2_uint64.dv r)) := by
  unfold collect_pairs at hM
  refine PCall.body Tryz.func79 Tryz.ntmps79 rfl rfl rfl rfl ?_
  refine a_seq ?_
  refine a_region (.cons (o_assign rfl) <| .nil _) (by kernel_rfl) (by kernel_rfl) ?_
  refine a_seq ?_
  refine a_region (.cons (o_assign rfl) <| .nil _) (by kernel_rfl) (by kernel_rfl) ?_
  refine a_cut (α := (List (Nat → Int))) (fun s => ⟨[(3, .sl 2 (List.map array_2_uint64.dv s))], [], []⟩) (fun s => collect_pairs_K2 s = some r) ?_ ?_
  · refine a_seq ?_
    refine a_region (.cons (o_move rfl) <| .cons (t_len rfl) <| .cons (o_move rfl) <| .nil _) (by kernel_rfl) (by kernel_rfl) ?_
    obtain ⟨a4, hL5, hK5⟩ := of_bind hM
    refine a_block ?_
    refine a_fold (fun k3 (s : (List (Nat → Int))) => ⟨[(3, .row 10001), (6, .sl 2 (List.map collect_span.dv x0)), (7, .int .i64 (List.length x0 : Int)), (8, .int .i64 (k3 : Int))], [(10001, some (.row 80 2 (List.map array_2_uint64.dv s)))], [10001]⟩) _ hL5 ((Imp.nilRow (t := 3) (id := 10002) 80 2 rfl rfl).trans (Imp.of (fun i => bif Nat.beq i 10001 then 10002 else i) (.cons rfl (DLe.refl _) (.cons rfl (DLe.refl _) (.cons rfl (DLe.refl _) (.cons rfl (DLe.refl _) .nil)))) (.cons rfl (.refl _) .nil) rfl rfl rfl)) ?_ ?_
    · rintro k3 a4 t6 hk3 hx3 hM
      replace hM : collect_pairs_L5 x0 k3 a4 = some t6 := hM
      unfold collect_pairs_L5 at hM
      refine a_seq ?_
      refine a_region (.cons (o_int rfl rfl rfl) <| .nil _) (by kernel_rfl) (by kernel_rfl) ?_
      refine a_seq ?_
      refine a_cond _ rfl (fun _ => ?_) (fun c => absurd hk3 (of_decide_eq_false c))
      refine a_skip ?_
      refine a_seq ?_
      refine a_block ?_
      refine a_seq ?_
      obtain ⟨v9, h8, hM⟩ := of_bind hM
      refine a_region (.cons (t_index h8 rfl rfl rfl) <| .cons (o_load_er rfl rfl rfl) <| .cons (o_alloc rfl) <| .cons (o_store rfl rfl rfl rfl rfl rfl rfl) <| .nil _) (by kernel_rfl) (by kernel_rfl) ?_
      obtain ⟨h10, hM⟩ := of_chk hM
      refine a_region (.cons (o_move rfl) <| .cons (o_fieldAddr rfl) <| .cons (o_load_s rfl rfl rfl) <| .cons (o_fieldAddr rfl) <| .cons (o_load_s rfl rfl rfl) <| .cons (o_fieldAddr rfl) <| .cons (o_load_s rfl rfl rfl) <| .cons (o_int rfl rfl rfl) <| .cons (o_build rfl rfl rfl) <| .cons (t_build array_2_uint64.dv ([(arr 0 [v9.gfrom, (IntKind.wrap .u64 (v9.gto - v9.gfrom))])] : List (Nat → Int)) rfl rfl rfl rfl rfl rfl rfl) <| .cons (t_append [(arr 0 [v9.gfrom, (IntKind.wrap .u64 (v9.gto - v9.gfrom))])] h10 rfl rfl rfl (Src.row rfl)) <| .cons (o_assign rfl) <| .nil _) (by kernel_rfl) (by kernel_rfl) ?_
      refine a_region (.cons (o_add rfl rfl (inR_i64 hk3 hx3)) <| .cons (o_move rfl) <| .nil _) (by kernel_rfl) (by kernel_rfl) ?_
      obtain rfl := Option.some.inj hM
      exact (Imp.of (fun i => bif Nat.beq i 10001 then 22 else i) (.cons rfl (DLe.refl _) (.cons rfl (DLe.refl _) (.cons rfl (DLe.refl _) (.cons rfl (DLe.succ _ _) .nil)))) (.cons rfl (.refl _) .nil) rfl rfl rfl)
    · rintro k3 hk3 hx3
      refine a_seq ?_
      refine a_region (.cons (o_int rfl rfl rfl) <| .nil _) (by kernel_rfl) (by kernel_rfl) ?_
      refine a_seq ?_
      refine a_cond _ rfl (fun c => absurd (of_decide_eq_true c) (Int.not_lt.2 hk3)) (fun _ => ?_)
      refine a_exit ?_
      exact ⟨a4, hK5, ((Imp.freeze (id := 10001) rfl).trans (Imp.of (fun i => i) (.cons rfl (DLe.refl _) .nil) .nil rfl rfl rfl))⟩
  · rintro a1 hM
    replace hM : collect_pairs_K2 a1 = some r := hM
    unfold collect_pairs_K2 at hM
    refine a_seq ?_
    refine a_region (.cons (o_move rfl) <| .cons (o_assign rfl) <| .nil _) (by kernel_rfl) (by kernel_rfl) ?_
    obtain rfl := Option.some.inj hM
    exact a_ret (a_post (.r1 (.tmp rfl)) (DLe.refl _) PostOk.nil.spec)

def collect_part_end_K5 (a4 : Int) : Option Int :=
  some a4
def collect_part_end_K3 (x0 : collect_part) (a2 : Int) : Option Int :=
  if (decide (0 < (List.length x0.glost : Int))) = true then
    (idx x0.glost (IntKind.wrap .i64 ((List.length x0.glost : Int) - 1))).bind fun v8 =>
    collect_part_end_K5 (if v8.gto > a2 then v8.gto else a2)
  else
    collect_part_end_K5 a2
def collect_part_end (x0 : collect_part) : Option Int :=
  if x0.gknown = true then
    some x0.gtotal
  else
    if (decide (0 < (List.length x0.gentries : Int))) = true then
      (idx x0.gentries (IntKind.wrap .i64 ((List.length x0.gentries : Int) - 1))).bind fun v11 =>
      collect_part_end_K3 x0 (IntKind.wrap .u64 (v11.gSeq + 1))
    else
      collect_part_end_K3 x0 0
theorem collect_part_end_c {x0 : collect_part} {r : Int} (hM : collect_part_end x0 = some r) : PCall Tryz.prog 126 [.agg (collect_part.cs x0)] (.int .u64 r) := by
  unfold collect_part_end at hM
  refine PCall.body Tryz.func126 Tryz.ntmps126 rfl rfl rfl rfl ?_
  refine a_seq ?_
  refine a_region (.cons (o_box rfl rfl) <| .cons (o_assign rfl) <| .nil _) (by kernel_rfl) (by kernel_rfl) ?_
  refine a_seq ?_
  refine a_seq ?_
  refine a_region (.cons (o_fieldAddr rfl) <| .cons (o_load_s rfl rfl rfl) <| .nil _) (by kernel_rfl) (by kernel_rfl) ?_
  refine a_cond _ rfl (fun h1 => ?_) (fun h1 => ?_)
  · replace hM := (of_if hM).1 h1
    refine a_seq ?_
    refine a_region (.cons (o_fieldAddr rfl) <| .cons (o_load_s rfl rfl rfl) <| .cons (o_assign rfl) <| .nil _) (by kernel_rfl) (by kernel_rfl) ?_
    obtain rfl := Option.some.inj hM
    exact a_ret (a_post (.r1 (.tmp rfl)) (DLe.refl _) PostOk.nil.spec)
  · replace hM := (of_if hM).2 h1
    refine a_skip ?_
    refine a_seq ?_
    refine a_region (.cons (o_assign rfl) <| .nil _) (by kernel_rfl) (by kernel_rfl) ?_
    refine a_cut (α := Int) (fun s => ⟨[(1, .ref 1 0), (3, .int .u64 s)], [(1, some (.blk 137 (collect_part.cs x0)))], [1]⟩) (fun s => collect_part_end_K3 x0 s = some r) ?_ ?_
    · refine a_seq ?_
      refine a_region (.cons (o_fieldAddr rfl) <| .cons (o_load_s rfl rfl rfl) <| .cons (t_len rfl) <| .cons (o_assign rfl) <| .nil _) (by kernel_rfl) (by kernel_rfl) ?_
      refine a_seq ?_
      refine a_region (.cons (o_move rfl) <| .cons (o_int rfl rfl rfl) <| .nil _) (by kernel_rfl) (by kernel_rfl) ?_
      refine a_cond _ rfl (fun h9 => ?_) (fun h9 => ?_)
      · replace hM := (of_if hM).1 h9
        obtain ⟨v11, h10, hM⟩ := of_bind hM
        refine a_region (.cons (o_fieldAddr rfl) <| .cons (o_load_s rfl rfl rfl) <| .cons (o_move rfl) <| .cons (o_int rfl rfl rfl) <| .cons (t_index h10 rfl rfl rfl) <| .cons (o_fieldAddr_e rfl rfl) <| .cons (o_load_es rfl rfl) <| .cons (o_int rfl rfl rfl) <| .cons (o_assign rfl) <| .nil _) (by kernel_rfl) (by kernel_rfl) ?_
        exact ⟨(IntKind.wrap .u64 (v11.gSeq + 1)), hM, (Imp.of (fun i => i) (.cons rfl (DLe.refl _) (.cons rfl (DLe.refl _) .nil)) (.cons rfl (.refl _) .nil) rfl rfl rfl)⟩
      · replace hM := (of_if hM).2 h9
        refine a_skip ?_
        exact ⟨0, hM, (Imp.of (fun i => i) (.cons rfl (DLe.refl _) (.cons rfl (DLe.refl _) .nil)) (.cons rfl (.refl _) .nil) rfl rfl rfl)⟩
    · rintro a2 hM
      replace hM : collect_part_end_K3 x0 a2 = some r := hM
      unfold collect_part_end_K3 at hM
      refine a_cut (α := Int) (fun s => ⟨[(3, .int .u64 s)], [], []⟩) (fun s => collect_part_end_K5 s = some r) ?_ ?_
      · refine a_seq ?_
        refine a_region (.cons (o_fieldAddr rfl) <| .cons (o_load_s rfl rfl rfl) <| .cons (t_len rfl) <| .cons (o_assign rfl) <| .nil _) (by kernel_rfl) (by kernel_rfl) ?_
        refine a_seq ?_
        refine a_region (.cons (o_move rfl) <| .cons (o_int rfl rfl rfl) <| .nil _) (by kernel_rfl) (by kernel_rfl) ?_
        refine a_cond _ rfl (fun h6 => ?_) (fun h6 => ?_)
        · replace hM := (of_if hM).1 h6
          obtain ⟨v8, h7, hM⟩ := of_bind hM
          refine a_region (.cons (o_move rfl) <| .cons (o_fieldAddr rfl) <| .cons (o_load_s rfl rfl rfl) <| .cons (o_move rfl) <| .cons (o_int rfl rfl rfl) <| .cons (t_index h7 rfl rfl rfl) <| .cons (o_fieldAddr_e rfl rfl) <| .cons (o_load_es rfl rfl) <| .cons (o_max rfl rfl) <| .cons (o_assign rfl) <| .nil _) (by kernel_rfl) (by kernel_rfl) ?_
          exact ⟨(if v8.gto > a2 then v8.gto else a2), hM, (Imp.of (fun i => i) (.cons rfl (DLe.refl _) .nil) .nil rfl rfl rfl)⟩
        · replace hM := (of_if hM).2 h6
          refine a_skip ?_
          exact ⟨a2, hM, (Imp.of (fun i => i) (.cons rfl (DLe.refl _) .nil) .nil rfl rfl rfl)⟩
      · rintro a4 hM
        replace hM : collect_part_end_K5 a4 = some r := hM
        unfold collect_part_end_K5 at hM
        refine a_seq ?_
        refine a_region (.cons (o_move rfl) <| .cons (o_assign rfl) <| .nil _) (by kernel_rfl) (by kernel_rfl) ?_
        obtain rfl := Option.some.inj hM
        exact a_ret (a_post (.r1 (.tmp rfl)) (DLe.refl _) PostOk.nil.spec)

def collect_part_missing (x0 : collect_part) : Option (List collect_span) :=
  (collect_part_end x0).bind fun v2 =>
  if (v2 == 0) = true then
    some ([] : List collect_span)
  else
    (collect_part_end x0).bind fun v5 =>
    (collect_without [(collect_span.mk 0 v5)] x0.gentries).bind fun v7 =>
    some v7
theorem collect_part_missing_c {x0 : collect_part} {r : (List collect_span)} (hM : collect_part_missing x0 = some r) : PCall Tryz.prog 80 [.agg (collect_part.cs x0)] (.sl 2 (List.map collect_span.dv r)) := by
  unfold collect_part_missing at hM
  refine PCall.body Tryz.func80 Tryz.ntmps80 rfl rfl rfl rfl ?_
  refine a_seq ?_
  refine a_region (.cons (o_box rfl rfl) <| .cons (o_assign rfl) <| .nil _) (by kernel_rfl) (by kernel_rfl) ?_
  refine a_seq ?_
  refine a_seq ?_
  obtain ⟨v2, h1, hM⟩ := of_bind hM
  refine a_region (.cons (o_load_r rfl rfl rfl rfl) <| .cons (o_call (collect_part_end_c h1) rfl (DLeL.refl _) rfl) <| .cons (o_int rfl rfl rfl) <| .nil _) (by kernel_rfl) (by kernel_rfl) ?_
  refine a_cond _ rfl (fun h3 => ?_) (fun h3 => ?_)
  · replace hM := (of_if hM).1 h3
    refine a_seq ?_
    refine a_region (.cons (o_assign rfl) <| .nil _) (by kernel_rfl) (by kernel_rfl) ?_
    obtain rfl := Option.some.inj hM
    exact a_ret (a_post (.r1 (.tmp rfl)) (DLe.nils _) PostOk.nil.spec)
  · replace hM := (of_if hM).2 h3
    refine a_skip ?_
    refine a_seq ?_
    obtain ⟨v5, h4, hM⟩ := of_bind hM
    obtain ⟨v7, h6, hM⟩ := of_bind hM
    refine a_draw mixed (.cons (o_load_r rfl rfl rfl rfl) <| .cons (o_call (collect_part_end_c h4) rfl (DLeL.refl _) rfl) <| .cons (o_build rfl rfl rfl) <| .cons (o_frz (t_build collect_span.dv ([(collect_span.mk 0 v5)] : List collect_span) rfl rfl rfl rfl rfl rfl rfl)) <| .cons (o_fieldAddr rfl) <| .cons (o_load_s rfl rfl rfl) <| .cons (o_call (collect_without_c h6) rfl (DLeL.refl _) rfl) <| .cons (o_assign rfl) <| .nil _) (by kernel_rfl) (by kernel_rfl) (by kernel_rfl) ?_
    obtain rfl := Option.some.inj hM
    exact a_ret (a_post (.r1 (.tmp rfl)) (DLe.refl _) PostOk.nil.spec)

end Go.Proofs.YtepkcbalmjnhpaaGreat
