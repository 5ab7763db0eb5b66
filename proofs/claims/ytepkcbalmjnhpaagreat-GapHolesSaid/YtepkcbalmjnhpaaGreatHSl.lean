/-
  Models of functions and the proofs that the code computes them, printed by gm2.py.
-/
import Derived.Test.YtepkcbalmjnhpaaGreatEngW
import Derived.Test.YtepkcbalmjnhpaaGreatGTy
import Derived.Test.YtepkcbalmjnhpaaGreatHdRd
set_option maxRecDepth 100000
set_option maxHeartbeats 4000000
set_option linter.unusedVariables false
set_option linter.unusedSimpArgs false
namespace Go.Proofs.YtepkcbalmjnhpaaGreat
open Go.RowKit
def slices_Clone_int64_int64 (x0 : List Int) : Option (List Int) := chk (apOk 8 (List.length ([] : List Int) + List.length x0)) (some (([] : List Int) ++ x0))
theorem slices_Clone_int64_int64_c {x0 : List Int} {r : List Int} (hM : slices_Clone_int64_int64 x0 = some r) : ACall Tryz.prog 136 ⟨[.sl 1 (List.map (DV.int .i64) x0)], [], .row 50000, [(50000, some (.row 2 1 (List.map (DV.int .i64) r)))], [50000]⟩ := by
  unfold slices_Clone_int64_int64 at hM
  obtain ⟨h, hM⟩ := of_chk hM
  obtain rfl := Option.some.inj hM
  refine ACall.body Tryz.func136 Tryz.ntmps136 rfl rfl rfl rfl ?_
  refine a_seq ?_
  refine a_region (.cons (o_assign rfl) <| .nil _) (by kernel_rfl) (by kernel_rfl) ?_
  refine a_seq ?_
  refine a_seq ?_
  refine a_isnil rfl (by decide) (by decide) (fun b hb => ?_)
  refine a_cond _ rfl (fun c => ?_) (fun c => ?_)
  · have h0 : x0 = [] := List.map_eq_nil_iff.1 (hb c)
    subst h0
    refine a_seq ?_
    refine a_region (.cons (o_assign rfl) <| .nil _) (by kernel_rfl) (by kernel_rfl) ?_
    refine a_imp (Imp.nilRow (t := 2) (id := 50000) 2 1 rfl rfl) ?_
    exact a_ret (a_post (.r1 (.tmp rfl)) (DLe.refl _) (PostOk.spec (.cons rfl .nil)))
  · refine a_skip ?_
    refine a_seq ?_
    refine a_region (.cons (t_build (DV.int .i64) ([] : List Int) rfl rfl rfl rfl rfl rfl rfl) <| .cons (o_move rfl) <| .cons (t_append x0 h rfl rfl rfl Src.sl) <| .cons (o_assign rfl) <| .nil _) (by kernel_rfl) (by kernel_rfl) ?_
    refine a_imp (σ' := ⟨[(2, .row 50000)], [(50000, some (.row 2 1 (List.map (DV.int .i64) (([] : List Int) ++ x0))))], [50000]⟩) (Imp.of (fun i => bif Nat.beq i 50000 then 7 else i) (.cons rfl (DLe.refl _) .nil) (.cons rfl (.refl _) .nil) rfl rfl rfl) ?_
    exact a_ret (a_post (.r1 (.tmp rfl)) (DLe.refl _) (PostOk.spec (.cons rfl .nil)))

def slices_Clone_collect_span_collect_span (x0 : List collect_span) : Option (List collect_span) := chk (apOk 16 (List.length ([] : List collect_span) + List.length x0)) (some (([] : List collect_span) ++ x0))
theorem slices_Clone_collect_span_collect_span_c {x0 : List collect_span} {r : List collect_span} (hM : slices_Clone_collect_span_collect_span x0 = some r) : ACall Tryz.prog 75 ⟨[.sl 2 (List.map collect_span.dv x0)], [], .row 50000, [(50000, some (.row 146 2 (List.map collect_span.dv r)))], [50000]⟩ := by
  unfold slices_Clone_collect_span_collect_span at hM
  obtain ⟨h, hM⟩ := of_chk hM
  obtain rfl := Option.some.inj hM
  refine ACall.body Tryz.func75 Tryz.ntmps75 rfl rfl rfl rfl ?_
  refine a_seq ?_
  refine a_region (.cons (o_assign rfl) <| .nil _) (by kernel_rfl) (by kernel_rfl) ?_
  refine a_seq ?_
  refine a_seq ?_
  refine a_isnil rfl (by decide) (by decide) (fun b hb => ?_)
  refine a_cond _ rfl (fun c => ?_) (fun c => ?_)
  · have h0 : x0 = [] := List.map_eq_nil_iff.1 (hb c)
    subst h0
    refine a_seq ?_
    refine a_region (.cons (o_assign rfl) <| .nil _) (by kernel_rfl) (by kernel_rfl) ?_
    refine a_imp (Imp.nilRow (t := 2) (id := 50000) 146 2 rfl rfl) ?_
    exact a_ret (a_post (.r1 (.tmp rfl)) (DLe.refl _) (PostOk.spec (.cons rfl .nil)))
  · refine a_skip ?_
    refine a_seq ?_
    refine a_region (.cons (t_build collect_span.dv ([] : List collect_span) rfl rfl rfl rfl rfl rfl rfl) <| .cons (o_move rfl) <| .cons (t_append x0 h rfl rfl rfl Src.sl) <| .cons (o_assign rfl) <| .nil _) (by kernel_rfl) (by kernel_rfl) ?_
    refine a_imp (σ' := ⟨[(2, .row 50000)], [(50000, some (.row 146 2 (List.map collect_span.dv (([] : List collect_span) ++ x0))))], [50000]⟩) (Imp.of (fun i => bif Nat.beq i 50000 then 7 else i) (.cons rfl (DLe.refl _) .nil) (.cons rfl (.refl _) .nil) rfl rfl rfl) ?_
    exact a_ret (a_post (.r1 (.tmp rfl)) (DLe.refl _) (PostOk.spec (.cons rfl .nil)))

def slices_Clone_collect_part_collect_part (x0 : List collect_part) : Option (List collect_part) := chk (apOk 64 (List.length ([] : List collect_part) + List.length x0)) (some (([] : List collect_part) ++ x0))
theorem slices_Clone_collect_part_collect_part_c {x0 : List collect_part} {r : List collect_part} (hM : slices_Clone_collect_part_collect_part x0 = some r) : ACall Tryz.prog 74 ⟨[.sl 4 (List.map collect_part.dv x0)], [], .row 50000, [(50000, some (.row 137 4 (List.map collect_part.dv r)))], [50000]⟩ := by
  unfold slices_Clone_collect_part_collect_part at hM
  obtain ⟨h, hM⟩ := of_chk hM
  obtain rfl := Option.some.inj hM
  refine ACall.body Tryz.func74 Tryz.ntmps74 rfl rfl rfl rfl ?_
  refine a_seq ?_
  refine a_region (.cons (o_assign rfl) <| .nil _) (by kernel_rfl) (by kernel_rfl) ?_
  refine a_seq ?_
  refine a_seq ?_
  refine a_isnil rfl (by decide) (by decide) (fun b hb => ?_)
  refine a_cond _ rfl (fun c => ?_) (fun c => ?_)
  · have h0 : x0 = [] := List.map_eq_nil_iff.1 (hb c)
    subst h0
    refine a_seq ?_
    refine a_region (.cons (o_assign rfl) <| .nil _) (by kernel_rfl) (by kernel_rfl) ?_
    refine a_imp (Imp.nilRow (t := 2) (id := 50000) 137 4 rfl rfl) ?_
    exact a_ret (a_post (.r1 (.tmp rfl)) (DLe.refl _) (PostOk.spec (.cons rfl .nil)))
  · refine a_skip ?_
    refine a_seq ?_
    refine a_region (.cons (t_build collect_part.dv ([] : List collect_part) rfl rfl rfl rfl rfl rfl rfl) <| .cons (o_move rfl) <| .cons (t_append x0 h rfl rfl rfl Src.sl) <| .cons (o_assign rfl) <| .nil _) (by kernel_rfl) (by kernel_rfl) ?_
    refine a_imp (σ' := ⟨[(2, .row 50000)], [(50000, some (.row 137 4 (List.map collect_part.dv (([] : List collect_part) ++ x0))))], [50000]⟩) (Imp.of (fun i => bif Nat.beq i 50000 then 7 else i) (.cons rfl (DLe.refl _) .nil) (.cons rfl (.refl _) .nil) rfl rfl rfl) ?_
    exact a_ret (a_post (.r1 (.tmp rfl)) (DLe.refl _) (PostOk.spec (.cons rfl .nil)))

def slices_Clone_gap_Gap_gap_Gap (x0 : List gap_Gap) : Option (List gap_Gap) := chk (apOk 48 (List.length ([] : List gap_Gap) + List.length x0)) (some (([] : List gap_Gap) ++ x0))
theorem slices_Clone_gap_Gap_gap_Gap_c {x0 : List gap_Gap} {r : List gap_Gap} (hM : slices_Clone_gap_Gap_gap_Gap x0 = some r) : ACall Tryz.prog 33 ⟨[.sl 6 (List.map gap_Gap.dv x0)], [], .row 50000, [(50000, some (.row 85 6 (List.map gap_Gap.dv r)))], [50000]⟩ := by
  unfold slices_Clone_gap_Gap_gap_Gap at hM
  obtain ⟨h, hM⟩ := of_chk hM
  obtain rfl := Option.some.inj hM
  refine ACall.body Tryz.func33 Tryz.ntmps33 rfl rfl rfl rfl ?_
  refine a_seq ?_
  refine a_region (.cons (o_assign rfl) <| .nil _) (by kernel_rfl) (by kernel_rfl) ?_
  refine a_seq ?_
  refine a_seq ?_
  refine a_isnil rfl (by decide) (by decide) (fun b hb => ?_)
  refine a_cond _ rfl (fun c => ?_) (fun c => ?_)
  · have h0 : x0 = [] := List.map_eq_nil_iff.1 (hb c)
    subst h0
    refine a_seq ?_
    refine a_region (.cons (o_assign rfl) <| .nil _) (by kernel_rfl) (by kernel_rfl) ?_
    refine a_imp (Imp.nilRow (t := 2) (id := 50000) 85 6 rfl rfl) ?_
    exact a_ret (a_post (.r1 (.tmp rfl)) (DLe.refl _) (PostOk.spec (.cons rfl .nil)))
  · refine a_skip ?_
    refine a_seq ?_
    refine a_region (.cons (t_build gap_Gap.dv ([] : List gap_Gap) rfl rfl rfl rfl rfl rfl rfl) <| .cons (o_move rfl) <| .cons (t_append x0 h rfl rfl rfl Src.sl) <| .cons (o_assign rfl) <| .nil _) (by kernel_rfl) (by kernel_rfl) ?_
    refine a_imp (σ' := ⟨[(2, .row 50000)], [(50000, some (.row 85 6 (List.map gap_Gap.dv (([] : List gap_Gap) ++ x0))))], [50000]⟩) (Imp.of (fun i => bif Nat.beq i 50000 then 7 else i) (.cons rfl (DLe.refl _) .nil) (.cons rfl (.refl _) .nil) rfl rfl rfl) ?_
    exact a_ret (a_post (.r1 (.tmp rfl)) (DLe.refl _) (PostOk.spec (.cons rfl .nil)))

def slices_Grow_collect_span_collect_span_a_K3 (a2 : List collect_span) : Option (List collect_span) :=
  some a2
def slices_Grow_collect_span_collect_span_a_K1 (x1 : Int) : Option (List collect_span) :=
  if (decide (0 < (IntKind.wrap .i64 (x1 - (IntKind.wrap .i64 (0 - 0)))))) = true then
    chk (0 < (IntKind.wrap .i64 (x1 - (IntKind.wrap .i64 (0 - 0)))) ∧ apOk 16 (Int.toNat (IntKind.wrap .i64 (x1 - (IntKind.wrap .i64 (0 - 0)))))) <|
    chk (slOk (List.length (List.replicate (Int.toNat (IntKind.wrap .i64 (x1 - (IntKind.wrap .i64 (0 - 0))))) (collect_span.mk 0 0))) 0 0) <|
    slices_Grow_collect_span_collect_span_a_K3 (List.take (Int.toNat 0) (List.replicate (Int.toNat (IntKind.wrap .i64 (x1 - (IntKind.wrap .i64 (0 - 0))))) (collect_span.mk 0 0)))
  else
    slices_Grow_collect_span_collect_span_a_K3 ([] : List collect_span)
def slices_Grow_collect_span_collect_span_a (x1 : Int) : Option (List collect_span) :=
  if (decide (x1 < 0)) = true then
    none
  else
    slices_Grow_collect_span_collect_span_a_K1 x1
theorem slices_Grow_collect_span_collect_span_a_c {x1 : Int} {r : (List collect_span)} (hM : slices_Grow_collect_span_collect_span_a x1 = some r) : ACall Tryz.prog 183 ⟨[.nils, .int .i64 x1], [], .row 50000, [(50000, some (.row 146 2 (List.map collect_span.dv r)))], [50000]⟩ := by
  unfold slices_Grow_collect_span_collect_span_a at hM
  refine ACall.body Tryz.func183 Tryz.ntmps183 rfl rfl rfl rfl ?_
  refine a_seq ?_
  refine a_region (.cons (o_assign rfl) <| .nil _) (by kernel_rfl) (by kernel_rfl) ?_
  refine a_cut (α := Unit) (fun s => ⟨[(0, .nils), (1, .int .i64 x1)], [], []⟩) (fun s => slices_Grow_collect_span_collect_span_a_K1 x1 = some r) ?_ ?_
  · refine a_seq ?_
    refine a_region (.cons (o_move rfl) <| .cons (o_int rfl rfl rfl) <| .nil _) (by kernel_rfl) (by kernel_rfl) ?_
    refine a_cond _ rfl (fun h7 => ?_) (fun h7 => ?_)
    · replace hM := (of_if hM).1 h7
      cases hM
    · replace hM := (of_if hM).2 h7
      refine a_skip ?_
      exact ⟨(), hM, (Imp.of (fun i => i) (.cons rfl (DLe.refl _) (.cons rfl (DLe.refl _) .nil)) .nil rfl rfl rfl)⟩
  · rintro _ hM
    replace hM : slices_Grow_collect_span_collect_span_a_K1 x1 = some r := hM
    unfold slices_Grow_collect_span_collect_span_a_K1 at hM
    refine a_cut (α := (List collect_span)) (fun s => ⟨[(0, .row 10001)], [(10001, some (.row 146 2 (List.map collect_span.dv s)))], [10001]⟩) (fun s => slices_Grow_collect_span_collect_span_a_K3 s = some r) ?_ ?_
    · refine a_seq ?_
      refine a_region (.cons (o_move rfl) <| .cons (o_move rfl) <| .cons (o_cap_n rfl) <| .cons (o_move rfl) <| .cons (o_len_n rfl) <| .cons (o_int rfl rfl rfl) <| .cons (o_int rfl rfl rfl) <| .cons (o_assign rfl) <| .nil _) (by kernel_rfl) (by kernel_rfl) ?_
      refine a_seq ?_
      refine a_region (.cons (o_move rfl) <| .cons (o_int rfl rfl rfl) <| .nil _) (by kernel_rfl) (by kernel_rfl) ?_
      refine a_cond _ rfl (fun h4 => ?_) (fun h4 => ?_)
      · replace hM := (of_if hM).1 h4
        obtain ⟨h5, hM⟩ := of_chk hM
        obtain ⟨h6, hM⟩ := of_chk hM
        refine a_region (.cons (o_move rfl) <| .cons (o_move rfl) <| .cons (o_cap_n rfl) <| .cons (o_slice_nn rfl rfl) <| .cons (o_move rfl) <| .cons (t_append_zn collect_span.dv (collect_span.mk 0 0) h5 rfl rfl rfl rfl) <| .cons (o_move rfl) <| .cons (o_len_n rfl) <| .cons (t_slice_r h6 rfl rfl rfl) <| .cons (o_assign rfl) <| .nil _) (by kernel_rfl) (by kernel_rfl) ?_
        exact ⟨(List.take (Int.toNat 0) (List.replicate (Int.toNat (IntKind.wrap .i64 (x1 - (IntKind.wrap .i64 (0 - 0))))) (collect_span.mk 0 0))), hM, (Imp.of (fun i => bif Nat.beq i 10001 then 25 else i) (.cons rfl (DLe.refl _) .nil) (.cons rfl (.refl _) .nil) rfl rfl rfl)⟩
      · replace hM := (of_if hM).2 h4
        refine a_skip ?_
        exact ⟨([] : List collect_span), hM, ((Imp.nilRow (t := 0) (id := 10002) 146 2 rfl rfl).trans (Imp.of (fun i => bif Nat.beq i 10001 then 10002 else i) (.cons rfl (DLe.refl _) .nil) (.cons rfl (.refl _) .nil) rfl rfl rfl))⟩
    · rintro a2 hM
      replace hM : slices_Grow_collect_span_collect_span_a_K3 a2 = some r := hM
      unfold slices_Grow_collect_span_collect_span_a_K3 at hM
      refine a_seq ?_
      refine a_region (.cons (o_move rfl) <| .cons (o_assign rfl) <| .nil _) (by kernel_rfl) (by kernel_rfl) ?_
      obtain rfl := Option.some.inj hM
      refine a_imp (σ' := ⟨[(4, .row 50000)], [(50000, some (.row 146 2 (List.map collect_span.dv a2)))], [50000]⟩) (Imp.of (fun i => bif Nat.beq i 50000 then 10001 else i) (.cons rfl (DLe.refl _) .nil) (.cons rfl (.refl _) .nil) rfl rfl rfl) ?_
      exact a_ret (a_post (.r1 (.tmp rfl)) (DLe.refl _) (PostOk.spec (.cons rfl .nil)))

def slices_Concat_collect_span_collect_span_K6 (a5 : List collect_span) : Option (List collect_span) :=
  some a5
def slices_Concat_collect_span_collect_span_L9 (x0 : List (List collect_span)) (k7 : Nat) (a8 : List collect_span) : Option (List collect_span) :=
  (idx x0 (k7 : Int)).bind fun v13 =>
  chk (apOk 16 (List.length a8 + List.length v13)) <|
  some (a8 ++ v13)
def slices_Concat_collect_span_collect_span_K2 (x0 : List (List collect_span)) (a1 : Int) : Option (List collect_span) :=
  (slices_Grow_collect_span_collect_span_a a1).bind fun v4 =>
  (foldM' 9223372036854775807 (List.length x0 : Int) (fun k7 s => slices_Concat_collect_span_collect_span_L9 x0 k7 s) v4).bind fun s => slices_Concat_collect_span_collect_span_K6 s
def slices_Concat_collect_span_collect_span_L17 (x0 : List (List collect_span)) (k15 : Nat) (a16 : Int) : Option Int :=
  (idx x0 (k15 : Int)).bind fun v21 =>
  if (decide ((IntKind.wrap .i64 (a16 + (List.length v21 : Int))) < 0)) = true then
    none
  else
    some (IntKind.wrap .i64 (a16 + (List.length v21 : Int)))
def slices_Concat_collect_span_collect_span (x0 : List (List collect_span)) : Option (List collect_span) :=
  (foldM' 9223372036854775807 (List.length x0 : Int) (fun k15 s => slices_Concat_collect_span_collect_span_L17 x0 k15 s) 0).bind fun s => slices_Concat_collect_span_collect_span_K2 x0 s
theorem slices_Concat_collect_span_collect_span_c {x0 : List (List collect_span)} {r : (List collect_span)} (hM : slices_Concat_collect_span_collect_span x0 = some r) : ACall Tryz.prog 158 ⟨[.sl 1 (List.map (encSl 2 collect_span.dv) x0)], [], .row 50000, [(50000, some (.row 146 2 (List.map collect_span.dv r)))], [50000]⟩ := by
  unfold slices_Concat_collect_span_collect_span at hM
  refine ACall.body Tryz.func158 Tryz.ntmps158 rfl rfl rfl rfl ?_
  refine a_seq ?_
  refine a_region (.cons (o_assign rfl) <| .nil _) (by kernel_rfl) (by kernel_rfl) ?_
  refine a_seq ?_
  refine a_region (.cons (o_assign rfl) <| .nil _) (by kernel_rfl) (by kernel_rfl) ?_
  refine a_cut (α := Int) (fun s => ⟨[(0, .sl 1 (List.map (encSl 2 collect_span.dv) x0)), (3, .int .i64 s)], [], []⟩) (fun s => slices_Concat_collect_span_collect_span_K2 x0 s = some r) ?_ ?_
  · refine a_seq ?_
    refine a_region (.cons (o_move rfl) <| .cons (t_len rfl) <| .cons (o_move rfl) <| .nil _) (by kernel_rfl) (by kernel_rfl) ?_
    obtain ⟨a16, hL17, hK17⟩ := of_bind hM
    refine a_block ?_
    refine a_fold (fun k15 (s : Int) => ⟨[(0, .sl 1 (List.map (encSl 2 collect_span.dv) x0)), (3, .int .i64 s), (9, .sl 1 (List.map (encSl 2 collect_span.dv) x0)), (10, .int .i64 (List.length x0 : Int)), (11, .int .i64 (k15 : Int))], [], []⟩) _ hL17 (Imp.of (fun i => i) (.cons rfl (DLe.refl _) (.cons rfl (DLe.refl _) (.cons rfl (DLe.refl _) (.cons rfl (DLe.refl _) (.cons rfl (DLe.refl _) .nil))))) .nil rfl rfl rfl) ?_ ?_
    · rintro k15 a16 t18 hk15 hx15 hM
      replace hM : slices_Concat_collect_span_collect_span_L17 x0 k15 a16 = some t18 := hM
      unfold slices_Concat_collect_span_collect_span_L17 at hM
      refine a_seq ?_
      refine a_region (.cons (o_int rfl rfl rfl) <| .nil _) (by kernel_rfl) (by kernel_rfl) ?_
      refine a_seq ?_
      refine a_cond _ rfl (fun _ => ?_) (fun c => absurd hk15 (of_decide_eq_false c))
      refine a_skip ?_
      refine a_seq ?_
      refine a_block ?_
      refine a_seq ?_
      obtain ⟨v21, h20, hM⟩ := of_bind hM
      refine a_region (.cons (t_index h20 rfl rfl rfl) <| .cons (o_load_es rfl rfl) <| .cons (o_assign rfl) <| .nil _) (by kernel_rfl) (by kernel_rfl) ?_
      refine a_seq ?_
      refine a_region (.cons (o_move rfl) <| .cons (o_move rfl) <| .cons (t_len rfl) <| .cons (o_int rfl rfl rfl) <| .cons (o_assign rfl) <| .nil _) (by kernel_rfl) (by kernel_rfl) ?_
      refine a_seq ?_
      refine a_region (.cons (o_move rfl) <| .cons (o_int rfl rfl rfl) <| .nil _) (by kernel_rfl) (by kernel_rfl) ?_
      refine a_cond _ rfl (fun h22 => ?_) (fun h22 => ?_)
      · replace hM := (of_if hM).1 h22
        cases hM
      · replace hM := (of_if hM).2 h22
        refine a_skip ?_
        refine a_region (.cons (o_add rfl rfl (inR_i64 hk15 hx15)) <| .cons (o_move rfl) <| .nil _) (by kernel_rfl) (by kernel_rfl) ?_
        obtain rfl := Option.some.inj hM
        exact (Imp.of (fun i => i) (.cons rfl (DLe.refl _) (.cons rfl (DLe.refl _) (.cons rfl (DLe.refl _) (.cons rfl (DLe.refl _) (.cons rfl (DLe.succ _ _) .nil))))) .nil rfl rfl rfl)
    · rintro k15 hk15 hx15
      refine a_seq ?_
      refine a_region (.cons (o_int rfl rfl rfl) <| .nil _) (by kernel_rfl) (by kernel_rfl) ?_
      refine a_seq ?_
      refine a_cond _ rfl (fun c => absurd (of_decide_eq_true c) (Int.not_lt.2 hk15)) (fun _ => ?_)
      refine a_exit ?_
      exact ⟨a16, hK17, (Imp.of (fun i => i) (.cons rfl (DLe.refl _) (.cons rfl (DLe.refl _) .nil)) .nil rfl rfl rfl)⟩
  · rintro a1 hM
    replace hM : slices_Concat_collect_span_collect_span_K2 x0 a1 = some r := hM
    unfold slices_Concat_collect_span_collect_span_K2 at hM
    refine a_seq ?_
    obtain ⟨v4, h3, hM⟩ := of_bind hM
    refine a_region (.cons (o_move rfl) <| .cons (o_callN (fun i => bif Nat.beq i 50000 then 10001 else i) 1 (slices_Grow_collect_span_collect_span_a_c h3) rfl (DLeL.refl _) .nil rfl .nil) <| .cons (o_assign rfl) <| .nil _) (by kernel_rfl) (by kernel_rfl) ?_
    refine a_cut (α := (List collect_span)) (fun s => ⟨[(6, .row 10002)], [(10002, some (.row 146 2 (List.map collect_span.dv s)))], [10002]⟩) (fun s => slices_Concat_collect_span_collect_span_K6 s = some r) ?_ ?_
    · refine a_seq ?_
      refine a_region (.cons (o_move rfl) <| .cons (t_len rfl) <| .cons (o_move rfl) <| .nil _) (by kernel_rfl) (by kernel_rfl) ?_
      obtain ⟨a8, hL9, hK9⟩ := of_bind hM
      refine a_block ?_
      refine a_fold (fun k7 (s : (List collect_span)) => ⟨[(6, .row 10003), (25, .sl 1 (List.map (encSl 2 collect_span.dv) x0)), (26, .int .i64 (List.length x0 : Int)), (27, .int .i64 (k7 : Int))], [(10003, some (.row 146 2 (List.map collect_span.dv s)))], [10003]⟩) _ hL9 (Imp.of (fun i => bif Nat.beq i 10003 then 10001 else i) (.cons rfl (DLe.refl _) (.cons rfl (DLe.refl _) (.cons rfl (DLe.refl _) (.cons rfl (DLe.refl _) .nil)))) (.cons rfl (.refl _) .nil) rfl rfl rfl) ?_ ?_
      · rintro k7 a8 t10 hk7 hx7 hM
        replace hM : slices_Concat_collect_span_collect_span_L9 x0 k7 a8 = some t10 := hM
        unfold slices_Concat_collect_span_collect_span_L9 at hM
        refine a_seq ?_
        refine a_region (.cons (o_int rfl rfl rfl) <| .nil _) (by kernel_rfl) (by kernel_rfl) ?_
        refine a_seq ?_
        refine a_cond _ rfl (fun _ => ?_) (fun c => absurd hk7 (of_decide_eq_false c))
        refine a_skip ?_
        refine a_seq ?_
        refine a_block ?_
        refine a_seq ?_
        obtain ⟨v13, h12, hM⟩ := of_bind hM
        refine a_region (.cons (t_index h12 rfl rfl rfl) <| .cons (o_load_es rfl rfl) <| .cons (o_assign rfl) <| .nil _) (by kernel_rfl) (by kernel_rfl) ?_
        obtain ⟨h14, hM⟩ := of_chk hM
        refine a_region (.cons (o_move rfl) <| .cons (o_move rfl) <| .cons (t_append v13 h14 rfl rfl rfl Src.sl) <| .cons (o_assign rfl) <| .nil _) (by kernel_rfl) (by kernel_rfl) ?_
        refine a_region (.cons (o_add rfl rfl (inR_i64 hk7 hx7)) <| .cons (o_move rfl) <| .nil _) (by kernel_rfl) (by kernel_rfl) ?_
        obtain rfl := Option.some.inj hM
        exact (Imp.of (fun i => bif Nat.beq i 10003 then 33 else i) (.cons rfl (DLe.refl _) (.cons rfl (DLe.refl _) (.cons rfl (DLe.refl _) (.cons rfl (DLe.succ _ _) .nil)))) (.cons rfl (.refl _) .nil) rfl rfl rfl)
      · rintro k7 hk7 hx7
        refine a_seq ?_
        refine a_region (.cons (o_int rfl rfl rfl) <| .nil _) (by kernel_rfl) (by kernel_rfl) ?_
        refine a_seq ?_
        refine a_cond _ rfl (fun c => absurd (of_decide_eq_true c) (Int.not_lt.2 hk7)) (fun _ => ?_)
        refine a_exit ?_
        exact ⟨a8, hK9, (Imp.of (fun i => bif Nat.beq i 10002 then 10003 else i) (.cons rfl (DLe.refl _) .nil) (.cons rfl (.refl _) .nil) rfl rfl rfl)⟩
    · rintro a5 hM
      replace hM : slices_Concat_collect_span_collect_span_K6 a5 = some r := hM
      unfold slices_Concat_collect_span_collect_span_K6 at hM
      refine a_seq ?_
      refine a_region (.cons (o_move rfl) <| .cons (o_assign rfl) <| .nil _) (by kernel_rfl) (by kernel_rfl) ?_
      obtain rfl := Option.some.inj hM
      refine a_imp (σ' := ⟨[(2, .row 50000)], [(50000, some (.row 146 2 (List.map collect_span.dv a5)))], [50000]⟩) (Imp.of (fun i => bif Nat.beq i 50000 then 10002 else i) (.cons rfl (DLe.refl _) .nil) (.cons rfl (.refl _) .nil) rfl rfl rfl) ?_
      exact a_ret (a_post (.r1 (.tmp rfl)) (DLe.refl _) (PostOk.spec (.cons rfl .nil)))

def slices_Grow_record_Record_record_Record_a_K3 (a2 : List record_Record) : Option (List record_Record) :=
  some a2
def slices_Grow_record_Record_record_Record_a_K1 (x1 : Int) : Option (List record_Record) :=
  if (decide (0 < (IntKind.wrap .i64 (x1 - (IntKind.wrap .i64 (0 - 0)))))) = true then
    chk (0 < (IntKind.wrap .i64 (x1 - (IntKind.wrap .i64 (0 - 0)))) ∧ apOk 248 (Int.toNat (IntKind.wrap .i64 (x1 - (IntKind.wrap .i64 (0 - 0)))))) <|
    chk (slOk (List.length (List.replicate (Int.toNat (IntKind.wrap .i64 (x1 - (IntKind.wrap .i64 (0 - 0))))) (record_Record.mk 0 0 (vclock_Clock.mk (arr 0 [])) 0 (api_Event.mk 0 0 0 0 0 0 0 0 []) 0))) 0 0) <|
    slices_Grow_record_Record_record_Record_a_K3 (List.take (Int.toNat 0) (List.replicate (Int.toNat (IntKind.wrap .i64 (x1 - (IntKind.wrap .i64 (0 - 0))))) (record_Record.mk 0 0 (vclock_Clock.mk (arr 0 [])) 0 (api_Event.mk 0 0 0 0 0 0 0 0 []) 0)))
  else
    slices_Grow_record_Record_record_Record_a_K3 ([] : List record_Record)
def slices_Grow_record_Record_record_Record_a (x1 : Int) : Option (List record_Record) :=
  if (decide (x1 < 0)) = true then
    none
  else
    slices_Grow_record_Record_record_Record_a_K1 x1
theorem slices_Grow_record_Record_record_Record_a_c {x1 : Int} {r : (List record_Record)} (hM : slices_Grow_record_Record_record_Record_a x1 = some r) : ACall Tryz.prog 181 ⟨[.nils, .int .i64 x1], [], .row 50000, [(50000, some (.row 52 29 (List.map record_Record.dv r)))], [50000]⟩ := by
  unfold slices_Grow_record_Record_record_Record_a at hM
  refine ACall.body Tryz.func181 Tryz.ntmps181 rfl rfl rfl rfl ?_
  refine a_seq ?_
  refine a_region (.cons (o_assign rfl) <| .nil _) (by kernel_rfl) (by kernel_rfl) ?_
  refine a_cut (α := Unit) (fun s => ⟨[(0, .nils), (1, .int .i64 x1)], [], []⟩) (fun s => slices_Grow_record_Record_record_Record_a_K1 x1 = some r) ?_ ?_
  · refine a_seq ?_
    refine a_region (.cons (o_move rfl) <| .cons (o_int rfl rfl rfl) <| .nil _) (by kernel_rfl) (by kernel_rfl) ?_
    refine a_cond _ rfl (fun h7 => ?_) (fun h7 => ?_)
    · replace hM := (of_if hM).1 h7
      cases hM
    · replace hM := (of_if hM).2 h7
      refine a_skip ?_
      exact ⟨(), hM, (Imp.of (fun i => i) (.cons rfl (DLe.refl _) (.cons rfl (DLe.refl _) .nil)) .nil rfl rfl rfl)⟩
  · rintro _ hM
    replace hM : slices_Grow_record_Record_record_Record_a_K1 x1 = some r := hM
    unfold slices_Grow_record_Record_record_Record_a_K1 at hM
    refine a_cut (α := (List record_Record)) (fun s => ⟨[(0, .row 10001)], [(10001, some (.row 52 29 (List.map record_Record.dv s)))], [10001]⟩) (fun s => slices_Grow_record_Record_record_Record_a_K3 s = some r) ?_ ?_
    · refine a_seq ?_
      refine a_region (.cons (o_move rfl) <| .cons (o_move rfl) <| .cons (o_cap_n rfl) <| .cons (o_move rfl) <| .cons (o_len_n rfl) <| .cons (o_int rfl rfl rfl) <| .cons (o_int rfl rfl rfl) <| .cons (o_assign rfl) <| .nil _) (by kernel_rfl) (by kernel_rfl) ?_
      refine a_seq ?_
      refine a_region (.cons (o_move rfl) <| .cons (o_int rfl rfl rfl) <| .nil _) (by kernel_rfl) (by kernel_rfl) ?_
      refine a_cond _ rfl (fun h4 => ?_) (fun h4 => ?_)
      · replace hM := (of_if hM).1 h4
        obtain ⟨h5, hM⟩ := of_chk hM
        obtain ⟨h6, hM⟩ := of_chk hM
        refine a_region (.cons (o_move rfl) <| .cons (o_move rfl) <| .cons (o_cap_n rfl) <| .cons (o_slice_nn rfl rfl) <| .cons (o_move rfl) <| .cons (t_append_znW record_Record.dv (record_Record.mk 0 0 (vclock_Clock.mk (arr 0 [])) 0 (api_Event.mk 0 0 0 0 0 0 0 0 []) 0) h5 rfl rfl rfl (DLe.agg (.cons (DLe.refl _) (.cons (DLe.refl _) (.cons (DLe.refl _) (.cons (DLe.refl _) (.cons (DLe.refl _) (.cons (DLe.refl _) (.cons (DLe.refl _) (.cons (DLe.refl _) (.cons (DLe.refl _) (.cons (DLe.refl _) (.cons (DLe.refl _) (.cons (DLe.refl _) (.cons (DLe.refl _) (.cons (DLe.refl _) (.cons (DLe.refl _) (.cons (DLe.refl _) (.cons (DLe.refl _) (.cons (DLe.refl _) (.cons (DLe.refl _) (.cons (DLe.refl _) (.cons (DLe.refl _) (.cons (DLe.refl _) (.cons (DLe.refl _) (.cons (DLe.refl _) (.cons (DLe.refl _) (.cons (DLe.refl _) (.cons (DLe.refl _) (.cons (DLe.nils _) (.cons (DLe.refl _) .nil))))))))))))))))))))))))))))))) <| .cons (o_move rfl) <| .cons (o_len_n rfl) <| .cons (t_slice_r h6 rfl rfl rfl) <| .cons (o_assign rfl) <| .nil _) (by kernel_rfl) (by kernel_rfl) ?_
        exact ⟨(List.take (Int.toNat 0) (List.replicate (Int.toNat (IntKind.wrap .i64 (x1 - (IntKind.wrap .i64 (0 - 0))))) (record_Record.mk 0 0 (vclock_Clock.mk (arr 0 [])) 0 (api_Event.mk 0 0 0 0 0 0 0 0 []) 0))), hM, (Imp.of (fun i => bif Nat.beq i 10001 then 25 else i) (.cons rfl (DLe.refl _) .nil) (.cons rfl (.refl _) .nil) rfl rfl rfl)⟩
      · replace hM := (of_if hM).2 h4
        refine a_skip ?_
        exact ⟨([] : List record_Record), hM, ((Imp.nilRow (t := 0) (id := 10002) 52 29 rfl rfl).trans (Imp.of (fun i => bif Nat.beq i 10001 then 10002 else i) (.cons rfl (DLe.refl _) .nil) (.cons rfl (.refl _) .nil) rfl rfl rfl))⟩
    · rintro a2 hM
      replace hM : slices_Grow_record_Record_record_Record_a_K3 a2 = some r := hM
      unfold slices_Grow_record_Record_record_Record_a_K3 at hM
      refine a_seq ?_
      refine a_region (.cons (o_move rfl) <| .cons (o_assign rfl) <| .nil _) (by kernel_rfl) (by kernel_rfl) ?_
      obtain rfl := Option.some.inj hM
      refine a_imp (σ' := ⟨[(4, .row 50000)], [(50000, some (.row 52 29 (List.map record_Record.dv a2)))], [50000]⟩) (Imp.of (fun i => bif Nat.beq i 50000 then 10001 else i) (.cons rfl (DLe.refl _) .nil) (.cons rfl (.refl _) .nil) rfl rfl rfl) ?_
      exact a_ret (a_post (.r1 (.tmp rfl)) (DLe.refl _) (PostOk.spec (.cons rfl .nil)))

def slices_Concat_record_Record_record_Record_K6 (a5 : List record_Record) : Option (List record_Record) :=
  some a5
def slices_Concat_record_Record_record_Record_L9 (x0 : List (List record_Record)) (k7 : Nat) (a8 : List record_Record) : Option (List record_Record) :=
  (idx x0 (k7 : Int)).bind fun v13 =>
  chk (apOk 248 (List.length a8 + List.length v13)) <|
  some (a8 ++ v13)
def slices_Concat_record_Record_record_Record_K2 (x0 : List (List record_Record)) (a1 : Int) : Option (List record_Record) :=
  (slices_Grow_record_Record_record_Record_a a1).bind fun v4 =>
  (foldM' 9223372036854775807 (List.length x0 : Int) (fun k7 s => slices_Concat_record_Record_record_Record_L9 x0 k7 s) v4).bind fun s => slices_Concat_record_Record_record_Record_K6 s
def slices_Concat_record_Record_record_Record_L17 (x0 : List (List record_Record)) (k15 : Nat) (a16 : Int) : Option Int :=
  (idx x0 (k15 : Int)).bind fun v21 =>
  if (decide ((IntKind.wrap .i64 (a16 + (List.length v21 : Int))) < 0)) = true then
    none
  else
    some (IntKind.wrap .i64 (a16 + (List.length v21 : Int)))
def slices_Concat_record_Record_record_Record (x0 : List (List record_Record)) : Option (List record_Record) :=
  (foldM' 9223372036854775807 (List.length x0 : Int) (fun k15 s => slices_Concat_record_Record_record_Record_L17 x0 k15 s) 0).bind fun s => slices_Concat_record_Record_record_Record_K2 x0 s
theorem slices_Concat_record_Record_record_Record_c {x0 : List (List record_Record)} {r : (List record_Record)} (hM : slices_Concat_record_Record_record_Record x0 = some r) : ACall Tryz.prog 155 ⟨[.sl 1 (List.map (encSl 29 record_Record.dv) x0)], [], .row 50000, [(50000, some (.row 52 29 (List.map record_Record.dv r)))], [50000]⟩ := by
  unfold slices_Concat_record_Record_record_Record at hM
  refine ACall.body Tryz.func155 Tryz.ntmps155 rfl rfl rfl rfl ?_
  refine a_seq ?_
  refine a_region (.cons (o_assign rfl) <| .nil _) (by kernel_rfl) (by kernel_rfl) ?_
  refine a_seq ?_
  refine a_region (.cons (o_assign rfl) <| .nil _) (by kernel_rfl) (by kernel_rfl) ?_
  refine a_cut (α := Int) (fun s => ⟨[(0, .sl 1 (List.map (encSl 29 record_Record.dv) x0)), (3, .int .i64 s)], [], []⟩) (fun s => slices_Concat_record_Record_record_Record_K2 x0 s = some r) ?_ ?_
  · refine a_seq ?_
    refine a_region (.cons (o_move rfl) <| .cons (t_len rfl) <| .cons (o_move rfl) <| .nil _) (by kernel_rfl) (by kernel_rfl) ?_
    obtain ⟨a16, hL17, hK17⟩ := of_bind hM
    refine a_block ?_
    refine a_fold (fun k15 (s : Int) => ⟨[(0, .sl 1 (List.map (encSl 29 record_Record.dv) x0)), (3, .int .i64 s), (9, .sl 1 (List.map (encSl 29 record_Record.dv) x0)), (10, .int .i64 (List.length x0 : Int)), (11, .int .i64 (k15 : Int))], [], []⟩) _ hL17 (Imp.of (fun i => i) (.cons rfl (DLe.refl _) (.cons rfl (DLe.refl _) (.cons rfl (DLe.refl _) (.cons rfl (DLe.refl _) (.cons rfl (DLe.refl _) .nil))))) .nil rfl rfl rfl) ?_ ?_
    · rintro k15 a16 t18 hk15 hx15 hM
      replace hM : slices_Concat_record_Record_record_Record_L17 x0 k15 a16 = some t18 := hM
      unfold slices_Concat_record_Record_record_Record_L17 at hM
      refine a_seq ?_
      refine a_region (.cons (o_int rfl rfl rfl) <| .nil _) (by kernel_rfl) (by kernel_rfl) ?_
      refine a_seq ?_
      refine a_cond _ rfl (fun _ => ?_) (fun c => absurd hk15 (of_decide_eq_false c))
      refine a_skip ?_
      refine a_seq ?_
      refine a_block ?_
      refine a_seq ?_
      obtain ⟨v21, h20, hM⟩ := of_bind hM
      refine a_region (.cons (t_index h20 rfl rfl rfl) <| .cons (o_load_es rfl rfl) <| .cons (o_assign rfl) <| .nil _) (by kernel_rfl) (by kernel_rfl) ?_
      refine a_seq ?_
      refine a_region (.cons (o_move rfl) <| .cons (o_move rfl) <| .cons (t_len rfl) <| .cons (o_int rfl rfl rfl) <| .cons (o_assign rfl) <| .nil _) (by kernel_rfl) (by kernel_rfl) ?_
      refine a_seq ?_
      refine a_region (.cons (o_move rfl) <| .cons (o_int rfl rfl rfl) <| .nil _) (by kernel_rfl) (by kernel_rfl) ?_
      refine a_cond _ rfl (fun h22 => ?_) (fun h22 => ?_)
      · replace hM := (of_if hM).1 h22
        cases hM
      · replace hM := (of_if hM).2 h22
        refine a_skip ?_
        refine a_region (.cons (o_add rfl rfl (inR_i64 hk15 hx15)) <| .cons (o_move rfl) <| .nil _) (by kernel_rfl) (by kernel_rfl) ?_
        obtain rfl := Option.some.inj hM
        exact (Imp.of (fun i => i) (.cons rfl (DLe.refl _) (.cons rfl (DLe.refl _) (.cons rfl (DLe.refl _) (.cons rfl (DLe.refl _) (.cons rfl (DLe.succ _ _) .nil))))) .nil rfl rfl rfl)
    · rintro k15 hk15 hx15
      refine a_seq ?_
      refine a_region (.cons (o_int rfl rfl rfl) <| .nil _) (by kernel_rfl) (by kernel_rfl) ?_
      refine a_seq ?_
      refine a_cond _ rfl (fun c => absurd (of_decide_eq_true c) (Int.not_lt.2 hk15)) (fun _ => ?_)
      refine a_exit ?_
      exact ⟨a16, hK17, (Imp.of (fun i => i) (.cons rfl (DLe.refl _) (.cons rfl (DLe.refl _) .nil)) .nil rfl rfl rfl)⟩
  · rintro a1 hM
    replace hM : slices_Concat_record_Record_record_Record_K2 x0 a1 = some r := hM
    unfold slices_Concat_record_Record_record_Record_K2 at hM
    refine a_seq ?_
    obtain ⟨v4, h3, hM⟩ := of_bind hM
    refine a_region (.cons (o_move rfl) <| .cons (o_callN (fun i => bif Nat.beq i 50000 then 10001 else i) 1 (slices_Grow_record_Record_record_Record_a_c h3) rfl (DLeL.refl _) .nil rfl .nil) <| .cons (o_assign rfl) <| .nil _) (by kernel_rfl) (by kernel_rfl) ?_
    refine a_cut (α := (List record_Record)) (fun s => ⟨[(6, .row 10002)], [(10002, some (.row 52 29 (List.map record_Record.dv s)))], [10002]⟩) (fun s => slices_Concat_record_Record_record_Record_K6 s = some r) ?_ ?_
    · refine a_seq ?_
      refine a_region (.cons (o_move rfl) <| .cons (t_len rfl) <| .cons (o_move rfl) <| .nil _) (by kernel_rfl) (by kernel_rfl) ?_
      obtain ⟨a8, hL9, hK9⟩ := of_bind hM
      refine a_block ?_
      refine a_fold (fun k7 (s : (List record_Record)) => ⟨[(6, .row 10003), (25, .sl 1 (List.map (encSl 29 record_Record.dv) x0)), (26, .int .i64 (List.length x0 : Int)), (27, .int .i64 (k7 : Int))], [(10003, some (.row 52 29 (List.map record_Record.dv s)))], [10003]⟩) _ hL9 (Imp.of (fun i => bif Nat.beq i 10003 then 10001 else i) (.cons rfl (DLe.refl _) (.cons rfl (DLe.refl _) (.cons rfl (DLe.refl _) (.cons rfl (DLe.refl _) .nil)))) (.cons rfl (.refl _) .nil) rfl rfl rfl) ?_ ?_
      · rintro k7 a8 t10 hk7 hx7 hM
        replace hM : slices_Concat_record_Record_record_Record_L9 x0 k7 a8 = some t10 := hM
        unfold slices_Concat_record_Record_record_Record_L9 at hM
        refine a_seq ?_
        refine a_region (.cons (o_int rfl rfl rfl) <| .nil _) (by kernel_rfl) (by kernel_rfl) ?_
        refine a_seq ?_
        refine a_cond _ rfl (fun _ => ?_) (fun c => absurd hk7 (of_decide_eq_false c))
        refine a_skip ?_
        refine a_seq ?_
        refine a_block ?_
        refine a_seq ?_
        obtain ⟨v13, h12, hM⟩ := of_bind hM
        refine a_region (.cons (t_index h12 rfl rfl rfl) <| .cons (o_load_es rfl rfl) <| .cons (o_assign rfl) <| .nil _) (by kernel_rfl) (by kernel_rfl) ?_
        obtain ⟨h14, hM⟩ := of_chk hM
        refine a_region (.cons (o_move rfl) <| .cons (o_move rfl) <| .cons (t_append v13 h14 rfl rfl rfl Src.sl) <| .cons (o_assign rfl) <| .nil _) (by kernel_rfl) (by kernel_rfl) ?_
        refine a_region (.cons (o_add rfl rfl (inR_i64 hk7 hx7)) <| .cons (o_move rfl) <| .nil _) (by kernel_rfl) (by kernel_rfl) ?_
        obtain rfl := Option.some.inj hM
        exact (Imp.of (fun i => bif Nat.beq i 10003 then 33 else i) (.cons rfl (DLe.refl _) (.cons rfl (DLe.refl _) (.cons rfl (DLe.refl _) (.cons rfl (DLe.succ _ _) .nil)))) (.cons rfl (.refl _) .nil) rfl rfl rfl)
      · rintro k7 hk7 hx7
        refine a_seq ?_
        refine a_region (.cons (o_int rfl rfl rfl) <| .nil _) (by kernel_rfl) (by kernel_rfl) ?_
        refine a_seq ?_
        refine a_cond _ rfl (fun c => absurd (of_decide_eq_true c) (Int.not_lt.2 hk7)) (fun _ => ?_)
        refine a_exit ?_
        exact ⟨a8, hK9, (Imp.of (fun i => bif Nat.beq i 10002 then 10003 else i) (.cons rfl (DLe.refl _) .nil) (.cons rfl (.refl _) .nil) rfl rfl rfl)⟩
    · rintro a5 hM
      replace hM : slices_Concat_record_Record_record_Record_K6 a5 = some r := hM
      unfold slices_Concat_record_Record_record_Record_K6 at hM
      refine a_seq ?_
      refine a_region (.cons (o_move rfl) <| .cons (o_assign rfl) <| .nil _) (by kernel_rfl) (by kernel_rfl) ?_
      obtain rfl := Option.some.inj hM
      refine a_imp (σ' := ⟨[(2, .row 50000)], [(50000, some (.row 52 29 (List.map record_Record.dv a5)))], [50000]⟩) (Imp.of (fun i => bif Nat.beq i 50000 then 10002 else i) (.cons rfl (DLe.refl _) .nil) (.cons rfl (.refl _) .nil) rfl rfl rfl) ?_
      exact a_ret (a_post (.r1 (.tmp rfl)) (DLe.refl _) (PostOk.spec (.cons rfl .nil)))

def collect_bySeq (x0 : record_Record) (x1 : record_Record) : Option Int :=
  if (decide (x0.gSeq < x1.gSeq)) = true then
    some (-1)
  else
    if (decide (x1.gSeq < x0.gSeq)) = true then
      some 1
    else
      some 0
theorem collect_bySeq_c {x0 : record_Record} {x1 : record_Record} {r : Int} (hM : collect_bySeq x0 x1 = some r) : PCall Tryz.prog 157 [.agg (record_Record.cs x0), .agg (record_Record.cs x1)] (.int .i64 r) := by
  unfold collect_bySeq at hM
  refine PCall.body Tryz.func157 Tryz.ntmps157 rfl rfl rfl rfl ?_
  refine a_seq ?_
  refine a_region (.cons (o_box rfl rfl) <| .cons (o_box rfl rfl) <| .cons (o_assign rfl) <| .nil _) (by kernel_rfl) (by kernel_rfl) ?_
  refine a_seq ?_
  refine a_block ?_
  refine a_seq ?_
  refine a_region (.cons (o_fieldAddr rfl) <| .cons (o_load_s rfl rfl rfl) <| .cons (o_fieldAddr rfl) <| .cons (o_load_s rfl rfl rfl) <| .cons (o_int rfl rfl rfl) <| .cons (o_assign rfl) <| .nil _) (by kernel_rfl) (by kernel_rfl) ?_
  refine a_cond _ rfl (fun h1 => ?_) (fun h1 => ?_)
  · replace hM := (of_if hM).1 h1
    refine a_seq ?_
    refine a_region (.cons (o_assign rfl) <| .nil _) (by kernel_rfl) (by kernel_rfl) ?_
    obtain rfl := Option.some.inj hM
    exact a_ret (a_post (.r1 (.tmp rfl)) (DLe.refl _) PostOk.nil.spec)
  · replace hM := (of_if hM).2 h1
    refine a_seq ?_
    refine a_region (.cons (o_fieldAddr rfl) <| .cons (o_load_s rfl rfl rfl) <| .cons (o_fieldAddr rfl) <| .cons (o_load_s rfl rfl rfl) <| .cons (o_int rfl rfl rfl) <| .cons (o_assign rfl) <| .nil _) (by kernel_rfl) (by kernel_rfl) ?_
    refine a_cond _ rfl (fun h2 => ?_) (fun h2 => ?_)
    · replace hM := (of_if hM).1 h2
      refine a_seq ?_
      refine a_region (.cons (o_assign rfl) <| .nil _) (by kernel_rfl) (by kernel_rfl) ?_
      obtain rfl := Option.some.inj hM
      exact a_ret (a_post (.r1 (.tmp rfl)) (DLe.refl _) PostOk.nil.spec)
    · replace hM := (of_if hM).2 h2
      refine a_skip ?_
      refine a_seq ?_
      refine a_region (.cons (o_assign rfl) <| .nil _) (by kernel_rfl) (by kernel_rfl) ?_
      obtain rfl := Option.some.inj hM
      exact a_ret (a_post (.r1 (.tmp rfl)) (DLe.refl _) PostOk.nil.spec)

def slices_insertionSortCmpFunc_record_Record_a_K2 (a1 : List record_Record) : Option (List record_Record) :=
  some a1
def slices_insertionSortCmpFunc_record_Record_a_K9 (a4 : Int) (a8 : List record_Record) : Option (Ctl ((List record_Record) × Int) (List record_Record)) :=
  some (.next (a8, (IntKind.wrap .i64 (a4 + 1))))
def slices_insertionSortCmpFunc_record_Record_a_L12 (x1 : Int) (a10 : List record_Record) (a11 : Int) : Option (Ctl ((List record_Record) × Int) (List record_Record)) :=
  (gb (decide (x1 < a11)) (record_Record.mk 0 0 (vclock_Clock.mk (arr 0 [])) 0 (api_Event.mk 0 0 0 0 0 0 0 0 []) 0) (idx a10 a11)).bind fun v15 =>
  (gb (decide (x1 < a11)) (record_Record.mk 0 0 (vclock_Clock.mk (arr 0 [])) 0 (api_Event.mk 0 0 0 0 0 0 0 0 []) 0) (idx a10 (IntKind.wrap .i64 (a11 - 1)))).bind fun v17 =>
  (gb (decide (x1 < a11)) (0) (collect_bySeq v15 v17)).bind fun v19 =>
  if ((decide (x1 < a11)) && (decide (v19 < 0))) = true then
    (idx a10 (IntKind.wrap .i64 (a11 - 1))).bind fun v22 =>
    (idx a10 a11).bind fun v24 =>
    (idx a10 a11).bind fun v26 =>
    (idx (List.set a10 (Int.toNat a11) v22) (IntKind.wrap .i64 (a11 - 1))).bind fun v28 =>
    some (.next ((List.set (List.set a10 (Int.toNat a11) v22) (Int.toNat (IntKind.wrap .i64 (a11 - 1))) v24), (IntKind.wrap .i64 (a11 - 1))))
  else
    some (.done a10)
def slices_insertionSortCmpFunc_record_Record_a_L5 (x1 : Int) (x2 : Int) (a3 : List record_Record) (a4 : Int) : Option (Ctl ((List record_Record) × Int) (List record_Record)) :=
  if (decide (a4 < x2)) = true then
    (whileM (E := (List record_Record)) (fun s => slices_insertionSortCmpFunc_record_Record_a_L12 x1 s.1 s.2) (a3, a4)).bind fun e => slices_insertionSortCmpFunc_record_Record_a_K9 a4 e
  else
    some (.done a3)
def slices_insertionSortCmpFunc_record_Record_a (x1 : Int) (x2 : Int) (o0 : List record_Record) : Option (List record_Record) :=
  (whileM (E := (List record_Record)) (fun s => slices_insertionSortCmpFunc_record_Record_a_L5 x1 x2 s.1 s.2) (o0, (IntKind.wrap .i64 (x1 + 1)))).bind fun e => slices_insertionSortCmpFunc_record_Record_a_K2 e
theorem slices_insertionSortCmpFunc_record_Record_a_c {x1 : Int} {x2 : Int} {o0 : List record_Record} {r : (List record_Record)} (hM : slices_insertionSortCmpFunc_record_Record_a x1 x2 o0 = some r) : ACall Tryz.prog 170 ⟨[.row 100000, .int .i64 x1, .int .i64 x2, .val (.func (.func 157) #[] #[])], [(100000, some (.row 52 29 (List.map record_Record.dv o0)))], .tup [], [(100000, some (.row 52 29 (List.map record_Record.dv r)))], []⟩ := by
  unfold slices_insertionSortCmpFunc_record_Record_a at hM
  refine ACall.body Tryz.func170 Tryz.ntmps170 rfl rfl rfl rfl ?_
  refine a_end ?_
  refine a_seq ?_
  refine a_region (.cons (o_move rfl) <| .cons (o_int rfl rfl rfl) <| .cons (o_assign rfl) <| .nil _) (by kernel_rfl) (by kernel_rfl) ?_
  refine a_tail (α := (List record_Record)) (fun s => ⟨[], [(100000, some (.row 52 29 (List.map record_Record.dv s)))], [100000]⟩) (fun s => slices_insertionSortCmpFunc_record_Record_a_K2 s = some r) ?_ ?_
  · obtain ⟨e5, hL5, hK5⟩ := of_bind hM
    refine a_block ?_
    refine a_while (fun s : (List record_Record) × Int => ⟨[(0, .row 100000), (1, .int .i64 x1), (2, .int .i64 x2), (3, .val (.func (.func 157) #[] #[])), (8, .int .i64 s.2)], [(100000, some (.row 52 29 (List.map record_Record.dv s.1)))], [100000]⟩) _ hL5 (Imp.of (fun i => i) (.cons rfl (DLe.refl _) (.cons rfl (DLe.refl _) (.cons rfl (DLe.refl _) (.cons rfl (DLe.refl _) (.cons rfl (DLe.refl _) .nil))))) (.cons rfl (.refl _) .nil) rfl rfl rfl) ?_
    rintro ⟨a3, a4⟩ t6 hM hE5
    replace hM : slices_insertionSortCmpFunc_record_Record_a_L5 x1 x2 a3 a4 = some t6 := hM
    unfold slices_insertionSortCmpFunc_record_Record_a_L5 at hM
    refine a_seq ?_
    refine a_seq ?_
    refine a_region (.cons (o_move rfl) <| .cons (o_move rfl) <| .cons (o_int rfl rfl rfl) <| .nil _) (by kernel_rfl) (by kernel_rfl) ?_
    refine a_cond _ rfl (fun h7 => ?_) (fun h7 => ?_)
    · replace hM := (of_if hM).1 h7
      refine a_skip ?_
      refine a_cut (α := (List record_Record)) (fun s => ⟨[(0, .row 100000), (1, .int .i64 x1), (2, .int .i64 x2), (3, .val (.func (.func 157) #[] #[])), (8, .int .i64 a4)], [(100000, some (.row 52 29 (List.map record_Record.dv s)))], [100000]⟩) (fun s => slices_insertionSortCmpFunc_record_Record_a_K9 a4 s = some t6) ?_ ?_
      · refine a_block ?_
        refine a_seq ?_
        refine a_region (.cons (o_move rfl) <| .cons (o_assign rfl) <| .nil _) (by kernel_rfl) (by kernel_rfl) ?_
        obtain ⟨e12, hL12, hK12⟩ := of_bind hM
        refine a_block ?_
        refine a_while (fun s : (List record_Record) × Int => ⟨[(0, .row 100000), (1, .int .i64 x1), (2, .int .i64 x2), (3, .val (.func (.func 157) #[] #[])), (8, .int .i64 a4), (9, .int .i64 s.2)], [(100000, some (.row 52 29 (List.map record_Record.dv s.1)))], [100000]⟩) _ hL12 (Imp.of (fun i => i) (.cons rfl (DLe.refl _) (.cons rfl (DLe.refl _) (.cons rfl (DLe.refl _) (.cons rfl (DLe.refl _) (.cons rfl (DLe.refl _) (.cons rfl (DLe.refl _) .nil)))))) (.cons rfl (.refl _) .nil) rfl rfl rfl) ?_
        rintro ⟨a10, a11⟩ t13 hM hE12
        replace hM : slices_insertionSortCmpFunc_record_Record_a_L12 x1 a10 a11 = some t13 := hM
        unfold slices_insertionSortCmpFunc_record_Record_a_L12 at hM
        refine a_seq ?_
        refine a_seq ?_
        obtain ⟨v15, h14, hM⟩ := of_bind hM
        obtain ⟨v17, h16, hM⟩ := of_bind hM
        obtain ⟨v19, h18, hM⟩ := of_bind hM
        refine a_draw mixed (.cons (o_move rfl) <| .cons (o_move rfl) <| .cons (o_int rfl rfl rfl) <| .cons (o_move rfl) <| .cons (o_guardG .bT rfl rfl (fun hb => (.keep .nil)) (fun hb => o_move rfl)) <| .cons (o_guardG .bT rfl rfl (fun hb => (.keep .nil)) (fun hb => o_move rfl)) <| .cons (o_guardG .bT rfl rfl (fun hb => (.keep .nil)) (fun hb => o_move rfl)) <| .cons (o_guardG .bT rfl rfl (fun hb => (.strip rfl hb (.strip rfl hb .nil))) (fun hb => t_index_r (of_gb h14 hb) rfl rfl rfl)) <| .cons (o_guardG .bT rfl rfl (fun hb => (.strip rfl hb .nil)) (fun hb => t_load_pr (of_gb h14 hb) rfl rfl rfl rfl rfl)) <| .cons (o_guardG .bT rfl rfl (fun hb => (.keep .nil)) (fun hb => o_move rfl)) <| .cons (o_guardG .bT rfl rfl (fun hb => (.keep .nil)) (fun hb => o_move rfl)) <| .cons (o_guardG .bT rfl rfl (fun hb => (.strip rfl hb .nil)) (fun hb => o_int rfl rfl rfl)) <| .cons (o_guardG .bT rfl rfl (fun hb => (.strip rfl hb (.strip rfl hb .nil))) (fun hb => t_index_r (of_gb h16 hb) rfl rfl rfl)) <| .cons (o_guardG .bT rfl rfl (fun hb => (.strip rfl hb .nil)) (fun hb => t_load_pr (of_gb h16 hb) rfl rfl rfl rfl rfl)) <| .cons (o_guardG .bT rfl rfl (fun hb => (.strip rfl hb (.strip rfl hb (.strip rfl hb .nil)))) (fun hb => o_callF (collect_bySeq_c (of_gb h18 hb)) rfl rfl (DLeL.refl _) rfl)) <| .cons (o_guardG .bT rfl rfl (fun hb => (.strip rfl hb .nil)) (fun hb => o_int rfl rfl rfl)) <| .cons (o_and rfl rfl) <| .nil _) (by kernel_rfl) (by kernel_rfl) (by kernel_rfl) ?_
        refine a_cond _ rfl (fun h20 => ?_) (fun h20 => ?_)
        · replace hM := (of_if hM).1 h20
          refine a_skip ?_
          refine a_seq ?_
          refine a_block ?_
          obtain ⟨v22, h21, hM⟩ := of_bind hM
          obtain ⟨v24, h23, hM⟩ := of_bind hM
          obtain ⟨v26, h25, hM⟩ := of_bind hM
          obtain ⟨v28, h27, hM⟩ := of_bind hM
          refine a_draw mixed (.cons (o_move rfl) <| .cons (o_move rfl) <| .cons (o_move rfl) <| .cons (o_move rfl) <| .cons (o_int rfl rfl rfl) <| .cons (o_move rfl) <| .cons (o_move rfl) <| .cons (o_int rfl rfl rfl) <| .cons (t_index_r h21 rfl rfl rfl) <| .cons (t_load_pr h21 rfl rfl rfl rfl rfl) <| .cons (o_move rfl) <| .cons (o_move rfl) <| .cons (t_index_r h23 rfl rfl rfl) <| .cons (t_load_pr h23 rfl rfl rfl rfl rfl) <| .cons (t_index_r h25 rfl rfl rfl) <| .cons (t_store_p v22 h25 rfl rfl rfl rfl rfl rfl rfl rfl rfl rfl rfl) <| .cons (t_index_r h27 rfl rfl rfl) <| .cons (t_store_p v24 h27 rfl rfl rfl rfl rfl rfl rfl rfl rfl rfl rfl) <| .nil _) (by kernel_rfl) (by kernel_rfl) (by kernel_rfl) ?_
          refine a_region (.cons (o_move rfl) <| .cons (o_int rfl rfl rfl) <| .cons (o_assign rfl) <| .nil _) (by kernel_rfl) (by kernel_rfl) ?_
          obtain rfl := Option.some.inj hM
          exact ⟨((List.set (List.set a10 (Int.toNat a11) v22) (Int.toNat (IntKind.wrap .i64 (a11 - 1))) v24), (IntKind.wrap .i64 (a11 - 1))), rfl, (Imp.of (fun i => i) (.cons rfl (DLe.refl _) (.cons rfl (DLe.refl _) (.cons rfl (DLe.refl _) (.cons rfl (DLe.refl _) (.cons rfl (DLe.refl _) (.cons rfl (DLe.refl _) .nil)))))) (.cons rfl (.refl _) .nil) rfl rfl rfl)⟩
        · replace hM := (of_if hM).2 h20
          refine a_exit ?_
          obtain rfl := Option.some.inj hM
          obtain rfl := hE12 _ rfl
          exact ⟨a10, hK12, (Imp.of (fun i => i) (.cons rfl (DLe.refl _) (.cons rfl (DLe.refl _) (.cons rfl (DLe.refl _) (.cons rfl (DLe.refl _) (.cons rfl (DLe.refl _) .nil))))) (.cons rfl (.refl _) .nil) rfl rfl rfl)⟩
      · rintro a8 hM
        replace hM : slices_insertionSortCmpFunc_record_Record_a_K9 a4 a8 = some t6 := hM
        unfold slices_insertionSortCmpFunc_record_Record_a_K9 at hM
        refine a_region (.cons (o_move rfl) <| .cons (o_int rfl rfl rfl) <| .cons (o_assign rfl) <| .nil _) (by kernel_rfl) (by kernel_rfl) ?_
        obtain rfl := Option.some.inj hM
        exact ⟨(a8, (IntKind.wrap .i64 (a4 + 1))), rfl, (Imp.of (fun i => i) (.cons rfl (DLe.refl _) (.cons rfl (DLe.refl _) (.cons rfl (DLe.refl _) (.cons rfl (DLe.refl _) (.cons rfl (DLe.refl _) .nil))))) (.cons rfl (.refl _) .nil) rfl rfl rfl)⟩
    · replace hM := (of_if hM).2 h7
      refine a_exit ?_
      obtain rfl := Option.some.inj hM
      obtain rfl := hE5 _ rfl
      exact ⟨a3, hK5, (Imp.of (fun i => i) .nil (.cons rfl (.refl _) .nil) rfl rfl rfl)⟩
  · rintro a1 hM
    replace hM : slices_insertionSortCmpFunc_record_Record_a_K2 a1 = some r := hM
    unfold slices_insertionSortCmpFunc_record_Record_a_K2 at hM
    obtain rfl := Option.some.inj hM
    refine n_imp (σ' := ⟨[], [(100000, some (.row 52 29 (List.map record_Record.dv a1)))], [100000]⟩) (Imp.of (fun i => i) .nil (.cons rfl (.refl _) .nil) rfl rfl rfl) ?_
    exact n_done (a_postN (.r0 ) (DLe.refl _) (PostOk.spec (.cons rfl .nil)))

def slices_swapRangeCmpFunc_record_Record_a_K2 (a1 : List record_Record) : Option (List record_Record) :=
  some a1
def slices_swapRangeCmpFunc_record_Record_a_L5 (x1 : Int) (x2 : Int) (x3 : Int) (a3 : List record_Record) (a4 : Int) : Option (Ctl ((List record_Record) × Int) (List record_Record)) :=
  if (decide (a4 < x3)) = true then
    (idx a3 (IntKind.wrap .i64 (x2 + a4))).bind fun v9 =>
    (idx a3 (IntKind.wrap .i64 (x1 + a4))).bind fun v11 =>
    (idx a3 (IntKind.wrap .i64 (x1 + a4))).bind fun v13 =>
    (idx (List.set a3 (Int.toNat (IntKind.wrap .i64 (x1 + a4))) v9) (IntKind.wrap .i64 (x2 + a4))).bind fun v15 =>
    some (.next ((List.set (List.set a3 (Int.toNat (IntKind.wrap .i64 (x1 + a4))) v9) (Int.toNat (IntKind.wrap .i64 (x2 + a4))) v11), (IntKind.wrap .i64 (a4 + 1))))
  else
    some (.done a3)
def slices_swapRangeCmpFunc_record_Record_a (x1 : Int) (x2 : Int) (x3 : Int) (o0 : List record_Record) : Option (List record_Record) :=
  (whileM (E := (List record_Record)) (fun s => slices_swapRangeCmpFunc_record_Record_a_L5 x1 x2 x3 s.1 s.2) (o0, 0)).bind fun e => slices_swapRangeCmpFunc_record_Record_a_K2 e
theorem slices_swapRangeCmpFunc_record_Record_a_c {x1 : Int} {x2 : Int} {x3 : Int} {o0 : List record_Record} {r : (List record_Record)} (hM : slices_swapRangeCmpFunc_record_Record_a x1 x2 x3 o0 = some r) : ACall Tryz.prog 227 ⟨[.row 100000, .int .i64 x1, .int .i64 x2, .int .i64 x3, .val (.func (.func 157) #[] #[])], [(100000, some (.row 52 29 (List.map record_Record.dv o0)))], .tup [], [(100000, some (.row 52 29 (List.map record_Record.dv r)))], []⟩ := by
  unfold slices_swapRangeCmpFunc_record_Record_a at hM
  refine ACall.body Tryz.func227 Tryz.ntmps227 rfl rfl rfl rfl ?_
  refine a_end ?_
  refine a_seq ?_
  refine a_region (.cons (o_assign rfl) <| .nil _) (by kernel_rfl) (by kernel_rfl) ?_
  refine a_tail (α := (List record_Record)) (fun s => ⟨[], [(100000, some (.row 52 29 (List.map record_Record.dv s)))], [100000]⟩) (fun s => slices_swapRangeCmpFunc_record_Record_a_K2 s = some r) ?_ ?_
  · obtain ⟨e5, hL5, hK5⟩ := of_bind hM
    refine a_block ?_
    refine a_while (fun s : (List record_Record) × Int => ⟨[(0, .row 100000), (1, .int .i64 x1), (2, .int .i64 x2), (3, .int .i64 x3), (10, .int .i64 s.2)], [(100000, some (.row 52 29 (List.map record_Record.dv s.1)))], [100000]⟩) _ hL5 (Imp.of (fun i => i) (.cons rfl (DLe.refl _) (.cons rfl (DLe.refl _) (.cons rfl (DLe.refl _) (.cons rfl (DLe.refl _) (.cons rfl (DLe.refl _) .nil))))) (.cons rfl (.refl _) .nil) rfl rfl rfl) ?_
    rintro ⟨a3, a4⟩ t6 hM hE5
    replace hM : slices_swapRangeCmpFunc_record_Record_a_L5 x1 x2 x3 a3 a4 = some t6 := hM
    unfold slices_swapRangeCmpFunc_record_Record_a_L5 at hM
    refine a_seq ?_
    refine a_seq ?_
    refine a_region (.cons (o_move rfl) <| .cons (o_move rfl) <| .cons (o_int rfl rfl rfl) <| .nil _) (by kernel_rfl) (by kernel_rfl) ?_
    refine a_cond _ rfl (fun h7 => ?_) (fun h7 => ?_)
    · replace hM := (of_if hM).1 h7
      refine a_skip ?_
      refine a_seq ?_
      refine a_block ?_
      obtain ⟨v9, h8, hM⟩ := of_bind hM
      obtain ⟨v11, h10, hM⟩ := of_bind hM
      obtain ⟨v13, h12, hM⟩ := of_bind hM
      obtain ⟨v15, h14, hM⟩ := of_bind hM
      refine a_draw mixed (.cons (o_move rfl) <| .cons (o_move rfl) <| .cons (o_move rfl) <| .cons (o_int rfl rfl rfl) <| .cons (o_move rfl) <| .cons (o_move rfl) <| .cons (o_move rfl) <| .cons (o_int rfl rfl rfl) <| .cons (o_move rfl) <| .cons (o_move rfl) <| .cons (o_move rfl) <| .cons (o_int rfl rfl rfl) <| .cons (t_index_r h8 rfl rfl rfl) <| .cons (t_load_pr h8 rfl rfl rfl rfl rfl) <| .cons (o_move rfl) <| .cons (o_move rfl) <| .cons (o_move rfl) <| .cons (o_int rfl rfl rfl) <| .cons (t_index_r h10 rfl rfl rfl) <| .cons (t_load_pr h10 rfl rfl rfl rfl rfl) <| .cons (t_index_r h12 rfl rfl rfl) <| .cons (t_store_p v9 h12 rfl rfl rfl rfl rfl rfl rfl rfl rfl rfl rfl) <| .cons (t_index_r h14 rfl rfl rfl) <| .cons (t_store_p v11 h14 rfl rfl rfl rfl rfl rfl rfl rfl rfl rfl rfl) <| .nil _) (by kernel_rfl) (by kernel_rfl) (by kernel_rfl) ?_
      refine a_region (.cons (o_move rfl) <| .cons (o_int rfl rfl rfl) <| .cons (o_assign rfl) <| .nil _) (by kernel_rfl) (by kernel_rfl) ?_
      obtain rfl := Option.some.inj hM
      exact ⟨((List.set (List.set a3 (Int.toNat (IntKind.wrap .i64 (x1 + a4))) v9) (Int.toNat (IntKind.wrap .i64 (x2 + a4))) v11), (IntKind.wrap .i64 (a4 + 1))), rfl, (Imp.of (fun i => i) (.cons rfl (DLe.refl _) (.cons rfl (DLe.refl _) (.cons rfl (DLe.refl _) (.cons rfl (DLe.refl _) (.cons rfl (DLe.refl _) .nil))))) (.cons rfl (.refl _) .nil) rfl rfl rfl)⟩
    · replace hM := (of_if hM).2 h7
      refine a_exit ?_
      obtain rfl := Option.some.inj hM
      obtain rfl := hE5 _ rfl
      exact ⟨a3, hK5, (Imp.of (fun i => i) .nil (.cons rfl (.refl _) .nil) rfl rfl rfl)⟩
  · rintro a1 hM
    replace hM : slices_swapRangeCmpFunc_record_Record_a_K2 a1 = some r := hM
    unfold slices_swapRangeCmpFunc_record_Record_a_K2 at hM
    obtain rfl := Option.some.inj hM
    refine n_imp (σ' := ⟨[], [(100000, some (.row 52 29 (List.map record_Record.dv a1)))], [100000]⟩) (Imp.of (fun i => i) .nil (.cons rfl (.refl _) .nil) rfl rfl rfl) ?_
    exact n_done (a_postN (.r0 ) (DLe.refl _) (PostOk.spec (.cons rfl .nil)))

def slices_rotateCmpFunc_record_Record_a_K3 (x2 : Int) (a1 : List record_Record) (a2 : Int) : Option (List record_Record) :=
  (slices_swapRangeCmpFunc_record_Record_a (IntKind.wrap .i64 (x2 - a2)) x2 a2 a1).bind fun v5 =>
  some v5
def slices_rotateCmpFunc_record_Record_a_L9 (x2 : Int) (a6 : List record_Record) (a7 : Int) (a8 : Int) : Option (Ctl ((List record_Record) × Int × Int) ((List record_Record) × Int)) :=
  if (a7 != a8) = true then
    if (decide (a8 < a7)) = true then
      (slices_swapRangeCmpFunc_record_Record_a (IntKind.wrap .i64 (x2 - a7)) x2 a8 a6).bind fun v14 =>
      some (.next (v14, (IntKind.wrap .i64 (a7 - a8)), a8))
    else
      (slices_swapRangeCmpFunc_record_Record_a (IntKind.wrap .i64 (x2 - a7)) (IntKind.wrap .i64 ((IntKind.wrap .i64 (x2 + a8)) - a7)) a7 a6).bind fun v16 =>
      some (.next (v16, a7, (IntKind.wrap .i64 (a8 - a7))))
  else
    some (.done (a6, a7))
def slices_rotateCmpFunc_record_Record_a (x1 : Int) (x2 : Int) (x3 : Int) (o0 : List record_Record) : Option (List record_Record) :=
  (whileM (E := (List record_Record) × Int) (fun s => slices_rotateCmpFunc_record_Record_a_L9 x2 s.1 s.2.1 s.2.2) (o0, (IntKind.wrap .i64 (x2 - x1)), (IntKind.wrap .i64 (x3 - x2)))).bind fun e => slices_rotateCmpFunc_record_Record_a_K3 x2 e.1 e.2
theorem slices_rotateCmpFunc_record_Record_a_c {x1 : Int} {x2 : Int} {x3 : Int} {o0 : List record_Record} {r : (List record_Record)} (hM : slices_rotateCmpFunc_record_Record_a x1 x2 x3 o0 = some r) : ACall Tryz.prog 220 ⟨[.row 100000, .int .i64 x1, .int .i64 x2, .int .i64 x3, .val (.func (.func 157) #[] #[])], [(100000, some (.row 52 29 (List.map record_Record.dv o0)))], .tup [], [(100000, some (.row 52 29 (List.map record_Record.dv r)))], []⟩ := by
  unfold slices_rotateCmpFunc_record_Record_a at hM
  refine ACall.body Tryz.func220 Tryz.ntmps220 rfl rfl rfl rfl ?_
  refine a_end ?_
  refine a_seq ?_
  refine a_region (.cons (o_move rfl) <| .cons (o_move rfl) <| .cons (o_int rfl rfl rfl) <| .cons (o_assign rfl) <| .nil _) (by kernel_rfl) (by kernel_rfl) ?_
  refine a_seq ?_
  refine a_region (.cons (o_move rfl) <| .cons (o_move rfl) <| .cons (o_int rfl rfl rfl) <| .cons (o_assign rfl) <| .nil _) (by kernel_rfl) (by kernel_rfl) ?_
  refine a_cut (α := (List record_Record) × Int) (fun s => ⟨[(0, .row 100000), (2, .int .i64 x2), (4, .val (.func (.func 157) #[] #[])), (10, .int .i64 s.2)], [(100000, some (.row 52 29 (List.map record_Record.dv s.1)))], [100000]⟩) (fun s => slices_rotateCmpFunc_record_Record_a_K3 x2 s.1 s.2 = some r) ?_ ?_
  · obtain ⟨e9, hL9, hK9⟩ := of_bind hM
    refine a_block ?_
    refine a_while (fun s : (List record_Record) × Int × Int => ⟨[(0, .row 100000), (2, .int .i64 x2), (4, .val (.func (.func 157) #[] #[])), (10, .int .i64 s.2.1), (11, .int .i64 s.2.2)], [(100000, some (.row 52 29 (List.map record_Record.dv s.1)))], [100000]⟩) _ hL9 (Imp.of (fun i => i) (.cons rfl (DLe.refl _) (.cons rfl (DLe.refl _) (.cons rfl (DLe.refl _) (.cons rfl (DLe.refl _) (.cons rfl (DLe.refl _) .nil))))) (.cons rfl (.refl _) .nil) rfl rfl rfl) ?_
    rintro ⟨a6, a7, a8⟩ t10 hM hE9
    replace hM : slices_rotateCmpFunc_record_Record_a_L9 x2 a6 a7 a8 = some t10 := hM
    unfold slices_rotateCmpFunc_record_Record_a_L9 at hM
    refine a_seq ?_
    refine a_seq ?_
    refine a_region (.cons (o_move rfl) <| .cons (o_move rfl) <| .cons (o_int rfl rfl rfl) <| .nil _) (by kernel_rfl) (by kernel_rfl) ?_
    refine a_cond _ rfl (fun h11 => ?_) (fun h11 => ?_)
    · replace hM := (of_if hM).1 h11
      refine a_skip ?_
      refine a_block ?_
      refine a_seq ?_
      refine a_region (.cons (o_move rfl) <| .cons (o_move rfl) <| .cons (o_int rfl rfl rfl) <| .nil _) (by kernel_rfl) (by kernel_rfl) ?_
      refine a_cond _ rfl (fun h12 => ?_) (fun h12 => ?_)
      · replace hM := (of_if hM).1 h12
        refine a_seq ?_
        obtain ⟨v14, h13, hM⟩ := of_bind hM
        refine a_region (.cons (o_move rfl) <| .cons (o_move rfl) <| .cons (o_move rfl) <| .cons (o_int rfl rfl rfl) <| .cons (o_move rfl) <| .cons (o_move rfl) <| .cons (o_move rfl) <| .cons (o_callN (fun i => bif Nat.beq i 100000 then 100000 else i) 1 (slices_swapRangeCmpFunc_record_Record_a_c h13) rfl (DLeL.refl _) (.cons rfl .nil) rfl .nil) <| .nil _) (by kernel_rfl) (by kernel_rfl) ?_
        refine a_region (.cons (o_move rfl) <| .cons (o_move rfl) <| .cons (o_int rfl rfl rfl) <| .cons (o_assign rfl) <| .nil _) (by kernel_rfl) (by kernel_rfl) ?_
        obtain rfl := Option.some.inj hM
        exact ⟨(v14, (IntKind.wrap .i64 (a7 - a8)), a8), rfl, (Imp.of (fun i => i) (.cons rfl (DLe.refl _) (.cons rfl (DLe.refl _) (.cons rfl (DLe.refl _) (.cons rfl (DLe.refl _) (.cons rfl (DLe.refl _) .nil))))) (.cons rfl (.refl _) .nil) rfl rfl rfl)⟩
      · replace hM := (of_if hM).2 h12
        refine a_seq ?_
        obtain ⟨v16, h15, hM⟩ := of_bind hM
        refine a_region (.cons (o_move rfl) <| .cons (o_move rfl) <| .cons (o_move rfl) <| .cons (o_int rfl rfl rfl) <| .cons (o_move rfl) <| .cons (o_move rfl) <| .cons (o_int rfl rfl rfl) <| .cons (o_move rfl) <| .cons (o_int rfl rfl rfl) <| .cons (o_move rfl) <| .cons (o_move rfl) <| .cons (o_callN (fun i => bif Nat.beq i 100000 then 100000 else i) 1 (slices_swapRangeCmpFunc_record_Record_a_c h15) rfl (DLeL.refl _) (.cons rfl .nil) rfl .nil) <| .nil _) (by kernel_rfl) (by kernel_rfl) ?_
        refine a_region (.cons (o_move rfl) <| .cons (o_move rfl) <| .cons (o_int rfl rfl rfl) <| .cons (o_assign rfl) <| .nil _) (by kernel_rfl) (by kernel_rfl) ?_
        obtain rfl := Option.some.inj hM
        exact ⟨(v16, a7, (IntKind.wrap .i64 (a8 - a7))), rfl, (Imp.of (fun i => i) (.cons rfl (DLe.refl _) (.cons rfl (DLe.refl _) (.cons rfl (DLe.refl _) (.cons rfl (DLe.refl _) (.cons rfl (DLe.refl _) .nil))))) (.cons rfl (.refl _) .nil) rfl rfl rfl)⟩
    · replace hM := (of_if hM).2 h11
      refine a_exit ?_
      obtain rfl := Option.some.inj hM
      obtain rfl := hE9 _ rfl
      exact ⟨(a6, a7), hK9, (Imp.of (fun i => i) (.cons rfl (DLe.refl _) (.cons rfl (DLe.refl _) (.cons rfl (DLe.refl _) (.cons rfl (DLe.refl _) .nil)))) (.cons rfl (.refl _) .nil) rfl rfl rfl)⟩
  · rintro ⟨a1, a2⟩ hM
    replace hM : slices_rotateCmpFunc_record_Record_a_K3 x2 a1 a2 = some r := hM
    unfold slices_rotateCmpFunc_record_Record_a_K3 at hM
    obtain ⟨v5, h4, hM⟩ := of_bind hM
    refine a_region (.cons (o_move rfl) <| .cons (o_move rfl) <| .cons (o_move rfl) <| .cons (o_int rfl rfl rfl) <| .cons (o_move rfl) <| .cons (o_move rfl) <| .cons (o_move rfl) <| .cons (o_callN (fun i => bif Nat.beq i 100000 then 100000 else i) 1 (slices_swapRangeCmpFunc_record_Record_a_c h4) rfl (DLeL.refl _) (.cons rfl .nil) rfl .nil) <| .nil _) (by kernel_rfl) (by kernel_rfl) ?_
    obtain rfl := Option.some.inj hM
    refine n_imp (σ' := ⟨[], [(100000, some (.row 52 29 (List.map record_Record.dv v5)))], [100000]⟩) (Imp.of (fun i => i) .nil (.cons rfl (.refl _) .nil) rfl rfl rfl) ?_
    exact n_done (a_postN (.r0 ) (DLe.refl _) (PostOk.spec (.cons rfl .nil)))

def slices_symMergeCmpFunc_record_Record_a_K11 (x1 : Int) (x2 : Int) (x3 : Int) (self : Int → Int → Int → (List record_Record) → Option (List record_Record)) (a6 : Int) (a10 : List record_Record) : Option (List record_Record) :=
  if ((decide ((IntKind.wrap .i64 (Int.fdiv (IntKind.wrap .u64 (IntKind.wrap .i64 (x1 + x3))) (2 ^ min (Int.toNat 1) (IntKind.bits .u64)))) < (IntKind.wrap .i64 ((IntKind.wrap .i64 ((IntKind.wrap .i64 (Int.fdiv (IntKind.wrap .u64 (IntKind.wrap .i64 (x1 + x3))) (2 ^ min (Int.toNat 1) (IntKind.bits .u64)))) + x2)) - a6)))) && (decide ((IntKind.wrap .i64 ((IntKind.wrap .i64 ((IntKind.wrap .i64 (Int.fdiv (IntKind.wrap .u64 (IntKind.wrap .i64 (x1 + x3))) (2 ^ min (Int.toNat 1) (IntKind.bits .u64)))) + x2)) - a6)) < x3))) = true then
    (self (IntKind.wrap .i64 (Int.fdiv (IntKind.wrap .u64 (IntKind.wrap .i64 (x1 + x3))) (2 ^ min (Int.toNat 1) (IntKind.bits .u64)))) (IntKind.wrap .i64 ((IntKind.wrap .i64 ((IntKind.wrap .i64 (Int.fdiv (IntKind.wrap .u64 (IntKind.wrap .i64 (x1 + x3))) (2 ^ min (Int.toNat 1) (IntKind.bits .u64)))) + x2)) - a6)) x3 a10).bind fun v14 =>
    some v14
  else
    some a10
def slices_symMergeCmpFunc_record_Record_a_K9 (x1 : Int) (x2 : Int) (x3 : Int) (self : Int → Int → Int → (List record_Record) → Option (List record_Record)) (a6 : Int) (a8 : List record_Record) : Option (List record_Record) :=
  if ((decide (x1 < a6)) && (decide (a6 < (IntKind.wrap .i64 (Int.fdiv (IntKind.wrap .u64 (IntKind.wrap .i64 (x1 + x3))) (2 ^ min (Int.toNat 1) (IntKind.bits .u64))))))) = true then
    (self x1 a6 (IntKind.wrap .i64 (Int.fdiv (IntKind.wrap .u64 (IntKind.wrap .i64 (x1 + x3))) (2 ^ min (Int.toNat 1) (IntKind.bits .u64)))) a8).bind fun v17 =>
    slices_symMergeCmpFunc_record_Record_a_K11 x1 x2 x3 self a6 v17
  else
    slices_symMergeCmpFunc_record_Record_a_K11 x1 x2 x3 self a6 a8
def slices_symMergeCmpFunc_record_Record_a_K7 (x1 : Int) (x2 : Int) (x3 : Int) (o0 : List record_Record) (self : Int → Int → Int → (List record_Record) → Option (List record_Record)) (a6 : Int) : Option (List record_Record) :=
  if ((decide (a6 < x2)) && (decide (x2 < (IntKind.wrap .i64 ((IntKind.wrap .i64 ((IntKind.wrap .i64 (Int.fdiv (IntKind.wrap .u64 (IntKind.wrap .i64 (x1 + x3))) (2 ^ min (Int.toNat 1) (IntKind.bits .u64)))) + x2)) - a6))))) = true then
    (slices_rotateCmpFunc_record_Record_a a6 x2 (IntKind.wrap .i64 ((IntKind.wrap .i64 ((IntKind.wrap .i64 (Int.fdiv (IntKind.wrap .u64 (IntKind.wrap .i64 (x1 + x3))) (2 ^ min (Int.toNat 1) (IntKind.bits .u64)))) + x2)) - a6)) o0).bind fun v20 =>
    slices_symMergeCmpFunc_record_Record_a_K9 x1 x2 x3 self a6 v20
  else
    slices_symMergeCmpFunc_record_Record_a_K9 x1 x2 x3 self a6 o0
def slices_symMergeCmpFunc_record_Record_a_L23 (x1 : Int) (x2 : Int) (x3 : Int) (o0 : List record_Record) (a21 : Int) (a22 : Int) : Option (Ctl (Int × Int) Int) :=
  if (decide (a21 < a22)) = true then
    (idx o0 (IntKind.wrap .i64 ((IntKind.wrap .i64 ((IntKind.wrap .i64 ((IntKind.wrap .i64 (Int.fdiv (IntKind.wrap .u64 (IntKind.wrap .i64 (x1 + x3))) (2 ^ min (Int.toNat 1) (IntKind.bits .u64)))) + x2)) - 1)) - (IntKind.wrap .i64 (Int.fdiv (IntKind.wrap .u64 (IntKind.wrap .i64 (a21 + a22))) (2 ^ min (Int.toNat 1) (IntKind.bits .u64))))))).bind fun v27 =>
    (idx o0 (IntKind.wrap .i64 (Int.fdiv (IntKind.wrap .u64 (IntKind.wrap .i64 (a21 + a22))) (2 ^ min (Int.toNat 1) (IntKind.bits .u64))))).bind fun v29 =>
    (collect_bySeq v27 v29).bind fun v31 =>
    if (!(decide (v31 < 0))) = true then
      some (.next ((IntKind.wrap .i64 ((IntKind.wrap .i64 (Int.fdiv (IntKind.wrap .u64 (IntKind.wrap .i64 (a21 + a22))) (2 ^ min (Int.toNat 1) (IntKind.bits .u64)))) + 1)), a22))
    else
      some (.next (a21, (IntKind.wrap .i64 (Int.fdiv (IntKind.wrap .u64 (IntKind.wrap .i64 (a21 + a22))) (2 ^ min (Int.toNat 1) (IntKind.bits .u64))))))
  else
    some (.done a21)
def slices_symMergeCmpFunc_record_Record_a_K5 (x1 : Int) (x2 : Int) (x3 : Int) (o0 : List record_Record) (self : Int → Int → Int → (List record_Record) → Option (List record_Record)) (a3 : Int) (a4 : Int) : Option (List record_Record) :=
  (whileM (E := Int) (fun s => slices_symMergeCmpFunc_record_Record_a_L23 x1 x2 x3 o0 s.1 s.2) (a3, a4)).bind fun e => slices_symMergeCmpFunc_record_Record_a_K7 x1 x2 x3 o0 self e
def slices_symMergeCmpFunc_record_Record_a_K2 (x1 : Int) (x2 : Int) (x3 : Int) (o0 : List record_Record) (self : Int → Int → Int → (List record_Record) → Option (List record_Record)) : Option (List record_Record) :=
  if (decide ((IntKind.wrap .i64 (Int.fdiv (IntKind.wrap .u64 (IntKind.wrap .i64 (x1 + x3))) (2 ^ min (Int.toNat 1) (IntKind.bits .u64)))) < x2)) = true then
    slices_symMergeCmpFunc_record_Record_a_K5 x1 x2 x3 o0 self (IntKind.wrap .i64 ((IntKind.wrap .i64 ((IntKind.wrap .i64 (Int.fdiv (IntKind.wrap .u64 (IntKind.wrap .i64 (x1 + x3))) (2 ^ min (Int.toNat 1) (IntKind.bits .u64)))) + x2)) - x3)) (IntKind.wrap .i64 (Int.fdiv (IntKind.wrap .u64 (IntKind.wrap .i64 (x1 + x3))) (2 ^ min (Int.toNat 1) (IntKind.bits .u64))))
  else
    slices_symMergeCmpFunc_record_Record_a_K5 x1 x2 x3 o0 self x1 x2
def slices_symMergeCmpFunc_record_Record_a_K38 (a37 : List record_Record) : Option (List record_Record) :=
  some a37
def slices_symMergeCmpFunc_record_Record_a_L41 (a35 : Int) (a39 : List record_Record) (a40 : Int) : Option (Ctl ((List record_Record) × Int) (List record_Record)) :=
  if (decide (a35 < a40)) = true then
    (idx a39 (IntKind.wrap .i64 (a40 - 1))).bind fun v45 =>
    (idx a39 a40).bind fun v47 =>
    (idx a39 a40).bind fun v49 =>
    (idx (List.set a39 (Int.toNat a40) v45) (IntKind.wrap .i64 (a40 - 1))).bind fun v51 =>
    some (.next ((List.set (List.set a39 (Int.toNat a40) v45) (Int.toNat (IntKind.wrap .i64 (a40 - 1))) v47), (IntKind.wrap .i64 (a40 - 1))))
  else
    some (.done a39)
def slices_symMergeCmpFunc_record_Record_a_K36 (x2 : Int) (o0 : List record_Record) (a35 : Int) : Option (List record_Record) :=
  (whileM (E := (List record_Record)) (fun s => slices_symMergeCmpFunc_record_Record_a_L41 a35 s.1 s.2) (o0, x2)).bind fun e => slices_symMergeCmpFunc_record_Record_a_K38 e
def slices_symMergeCmpFunc_record_Record_a_L54 (x2 : Int) (o0 : List record_Record) (a52 : Int) (a53 : Int) : Option (Ctl (Int × Int) Int) :=
  if (decide (a52 < a53)) = true then
    (idx o0 x2).bind fun v58 =>
    (idx o0 (IntKind.wrap .i64 (Int.fdiv (IntKind.wrap .u64 (IntKind.wrap .i64 (a52 + a53))) (2 ^ min (Int.toNat 1) (IntKind.bits .u64))))).bind fun v60 =>
    (collect_bySeq v58 v60).bind fun v62 =>
    if (!(decide (v62 < 0))) = true then
      some (.next ((IntKind.wrap .i64 ((IntKind.wrap .i64 (Int.fdiv (IntKind.wrap .u64 (IntKind.wrap .i64 (a52 + a53))) (2 ^ min (Int.toNat 1) (IntKind.bits .u64)))) + 1)), a53))
    else
      some (.next (a52, (IntKind.wrap .i64 (Int.fdiv (IntKind.wrap .u64 (IntKind.wrap .i64 (a52 + a53))) (2 ^ min (Int.toNat 1) (IntKind.bits .u64))))))
  else
    some (.done a52)
def slices_symMergeCmpFunc_record_Record_a_K1 (x1 : Int) (x2 : Int) (x3 : Int) (o0 : List record_Record) (self : Int → Int → Int → (List record_Record) → Option (List record_Record)) : Option (List record_Record) :=
  if ((IntKind.wrap .i64 (x3 - x2)) == 1) = true then
    (whileM (E := Int) (fun s => slices_symMergeCmpFunc_record_Record_a_L54 x2 o0 s.1 s.2) (x1, x2)).bind fun e => slices_symMergeCmpFunc_record_Record_a_K36 x2 o0 e
  else
    slices_symMergeCmpFunc_record_Record_a_K2 x1 x2 x3 o0 self
def slices_symMergeCmpFunc_record_Record_a_K68 (a67 : List record_Record) : Option (List record_Record) :=
  some a67
def slices_symMergeCmpFunc_record_Record_a_L71 (a65 : Int) (a69 : List record_Record) (a70 : Int) : Option (Ctl ((List record_Record) × Int) (List record_Record)) :=
  if (decide (a70 < (IntKind.wrap .i64 (a65 - 1)))) = true then
    (idx a69 (IntKind.wrap .i64 (a70 + 1))).bind fun v75 =>
    (idx a69 a70).bind fun v77 =>
    (idx a69 a70).bind fun v79 =>
    (idx (List.set a69 (Int.toNat a70) v75) (IntKind.wrap .i64 (a70 + 1))).bind fun v81 =>
    some (.next ((List.set (List.set a69 (Int.toNat a70) v75) (Int.toNat (IntKind.wrap .i64 (a70 + 1))) v77), (IntKind.wrap .i64 (a70 + 1))))
  else
    some (.done a69)
def slices_symMergeCmpFunc_record_Record_a_K66 (x1 : Int) (o0 : List record_Record) (a65 : Int) : Option (List record_Record) :=
  (whileM (E := (List record_Record)) (fun s => slices_symMergeCmpFunc_record_Record_a_L71 a65 s.1 s.2) (o0, x1)).bind fun e => slices_symMergeCmpFunc_record_Record_a_K68 e
def slices_symMergeCmpFunc_record_Record_a_L84 (x1 : Int) (o0 : List record_Record) (a82 : Int) (a83 : Int) : Option (Ctl (Int × Int) Int) :=
  if (decide (a82 < a83)) = true then
    (idx o0 (IntKind.wrap .i64 (Int.fdiv (IntKind.wrap .u64 (IntKind.wrap .i64 (a82 + a83))) (2 ^ min (Int.toNat 1) (IntKind.bits .u64))))).bind fun v88 =>
    (idx o0 x1).bind fun v90 =>
    (collect_bySeq v88 v90).bind fun v92 =>
    if (decide (v92 < 0)) = true then
      some (.next ((IntKind.wrap .i64 ((IntKind.wrap .i64 (Int.fdiv (IntKind.wrap .u64 (IntKind.wrap .i64 (a82 + a83))) (2 ^ min (Int.toNat 1) (IntKind.bits .u64)))) + 1)), a83))
    else
      some (.next (a82, (IntKind.wrap .i64 (Int.fdiv (IntKind.wrap .u64 (IntKind.wrap .i64 (a82 + a83))) (2 ^ min (Int.toNat 1) (IntKind.bits .u64))))))
  else
    some (.done a82)
def slices_symMergeCmpFunc_record_Record_a_B (self : Int → Int → Int → (List record_Record) → Option (List record_Record)) (x1 : Int) (x2 : Int) (x3 : Int) (o0 : List record_Record) : Option (List record_Record) :=
  if ((IntKind.wrap .i64 (x2 - x1)) == 1) = true then
    (whileM (E := Int) (fun s => slices_symMergeCmpFunc_record_Record_a_L84 x1 o0 s.1 s.2) (x2, x3)).bind fun e => slices_symMergeCmpFunc_record_Record_a_K66 x1 o0 e
  else
    slices_symMergeCmpFunc_record_Record_a_K1 x1 x2 x3 o0 self
def slices_symMergeCmpFunc_record_Record_a : Nat → Int → Int → Int → (List record_Record) → Option (List record_Record)
  | 0, _, _, _, _ => none
  | fu + 1, x1, x2, x3, o0 => slices_symMergeCmpFunc_record_Record_a_B (slices_symMergeCmpFunc_record_Record_a fu) x1 x2 x3 o0
theorem slices_symMergeCmpFunc_record_Record_a_c : ∀ (fu : Nat) {x1 : Int} {x2 : Int} {x3 : Int} {o0 : List record_Record} {r : (List record_Record)} (hM : slices_symMergeCmpFunc_record_Record_a fu x1 x2 x3 o0 = some r), ACall Tryz.prog 206 ⟨[.row 100000, .int .i64 x1, .int .i64 x2, .int .i64 x3, .val (.func (.func 157) #[] #[])], [(100000, some (.row 52 29 (List.map record_Record.dv o0)))], .tup [], [(100000, some (.row 52 29 (List.map record_Record.dv r)))], []⟩ := by
  intro fu
  induction fu with
  | zero => intro x1 x2 x3 o0 r hM; cases hM
  | succ fu ih =>
    intro x1 x2 x3 o0 r hM
    replace hM : slices_symMergeCmpFunc_record_Record_a_B (slices_symMergeCmpFunc_record_Record_a fu) x1 x2 x3 o0 = some r := hM
    unfold slices_symMergeCmpFunc_record_Record_a_B at hM
    refine ACall.body Tryz.func206 Tryz.ntmps206 rfl rfl rfl rfl ?_
    refine a_end ?_
    refine a_cut (α := Unit) (fun s => ⟨[(0, .row 100000), (1, .int .i64 x1), (2, .int .i64 x2), (3, .int .i64 x3), (4, .val (.func (.func 157) #[] #[]))], [(100000, some (.row 52 29 (List.map record_Record.dv o0)))], [100000]⟩) (fun s => slices_symMergeCmpFunc_record_Record_a_K1 x1 x2 x3 o0 (slices_symMergeCmpFunc_record_Record_a fu) = some r) ?_ ?_
    · refine a_seq ?_
      refine a_region (.cons (o_move rfl) <| .cons (o_move rfl) <| .cons (o_int rfl rfl rfl) <| .cons (o_int rfl rfl rfl) <| .nil _) (by kernel_rfl) (by kernel_rfl) ?_
      refine a_cond _ rfl (fun h64 => ?_) (fun h64 => ?_)
      · replace hM := (of_if hM).1 h64
        refine a_seq ?_
        refine a_region (.cons (o_move rfl) <| .cons (o_assign rfl) <| .nil _) (by kernel_rfl) (by kernel_rfl) ?_
        refine a_seq ?_
        refine a_region (.cons (o_move rfl) <| .cons (o_assign rfl) <| .nil _) (by kernel_rfl) (by kernel_rfl) ?_
        refine a_cut (α := Int) (fun s => ⟨[(0, .row 100000), (1, .int .i64 x1), (10, .int .i64 s)], [(100000, some (.row 52 29 (List.map record_Record.dv o0)))], [100000]⟩) (fun s => slices_symMergeCmpFunc_record_Record_a_K66 x1 o0 s = some r) ?_ ?_
        · obtain ⟨e84, hL84, hK84⟩ := of_bind hM
          refine a_block ?_
          refine a_while (fun s : Int × Int => ⟨[(0, .row 100000), (1, .int .i64 x1), (4, .val (.func (.func 157) #[] #[])), (10, .int .i64 s.1), (11, .int .i64 s.2)], [(100000, some (.row 52 29 (List.map record_Record.dv o0)))], [100000]⟩) _ hL84 (Imp.of (fun i => i) (.cons rfl (DLe.refl _) (.cons rfl (DLe.refl _) (.cons rfl (DLe.refl _) (.cons rfl (DLe.refl _) (.cons rfl (DLe.refl _) .nil))))) (.cons rfl (.refl _) .nil) rfl rfl rfl) ?_
          rintro ⟨a82, a83⟩ t85 hM hE84
          replace hM : slices_symMergeCmpFunc_record_Record_a_L84 x1 o0 a82 a83 = some t85 := hM
          unfold slices_symMergeCmpFunc_record_Record_a_L84 at hM
          refine a_seq ?_
          refine a_seq ?_
          refine a_region (.cons (o_move rfl) <| .cons (o_move rfl) <| .cons (o_int rfl rfl rfl) <| .nil _) (by kernel_rfl) (by kernel_rfl) ?_
          refine a_cond _ rfl (fun h86 => ?_) (fun h86 => ?_)
          · replace hM := (of_if hM).1 h86
            refine a_skip ?_
            refine a_block ?_
            refine a_seq ?_
            refine a_region (.cons (o_move rfl) <| .cons (o_move rfl) <| .cons (o_int rfl rfl rfl) <| .cons (o_conv_w rfl) <| .cons (o_shr rfl rfl (by decide)) <| .cons (o_conv_w rfl) <| .cons (o_assign rfl) <| .nil _) (by kernel_rfl) (by kernel_rfl) ?_
            refine a_seq ?_
            obtain ⟨v88, h87, hM⟩ := of_bind hM
            obtain ⟨v90, h89, hM⟩ := of_bind hM
            obtain ⟨v92, h91, hM⟩ := of_bind hM
            refine a_draw mixed (.cons (o_move rfl) <| .cons (o_move rfl) <| .cons (o_move rfl) <| .cons (t_index_r h87 rfl rfl rfl) <| .cons (t_load_pr h87 rfl rfl rfl rfl rfl) <| .cons (o_move rfl) <| .cons (o_move rfl) <| .cons (t_index_r h89 rfl rfl rfl) <| .cons (t_load_pr h89 rfl rfl rfl rfl rfl) <| .cons (o_callF (collect_bySeq_c h91) rfl rfl (DLeL.refl _) rfl) <| .cons (o_int rfl rfl rfl) <| .nil _) (by kernel_rfl) (by kernel_rfl) (by kernel_rfl) ?_
            refine a_cond _ rfl (fun h93 => ?_) (fun h93 => ?_)
            · replace hM := (of_if hM).1 h93
              refine a_region (.cons (o_move rfl) <| .cons (o_int rfl rfl rfl) <| .cons (o_assign rfl) <| .nil _) (by kernel_rfl) (by kernel_rfl) ?_
              obtain rfl := Option.some.inj hM
              exact ⟨((IntKind.wrap .i64 ((IntKind.wrap .i64 (Int.fdiv (IntKind.wrap .u64 (IntKind.wrap .i64 (a82 + a83))) (2 ^ min (Int.toNat 1) (IntKind.bits .u64)))) + 1)), a83), rfl, (Imp.of (fun i => i) (.cons rfl (DLe.refl _) (.cons rfl (DLe.refl _) (.cons rfl (DLe.refl _) (.cons rfl (DLe.refl _) (.cons rfl (DLe.refl _) .nil))))) (.cons rfl (.refl _) .nil) rfl rfl rfl)⟩
            · replace hM := (of_if hM).2 h93
              refine a_region (.cons (o_move rfl) <| .cons (o_assign rfl) <| .nil _) (by kernel_rfl) (by kernel_rfl) ?_
              obtain rfl := Option.some.inj hM
              exact ⟨(a82, (IntKind.wrap .i64 (Int.fdiv (IntKind.wrap .u64 (IntKind.wrap .i64 (a82 + a83))) (2 ^ min (Int.toNat 1) (IntKind.bits .u64))))), rfl, (Imp.of (fun i => i) (.cons rfl (DLe.refl _) (.cons rfl (DLe.refl _) (.cons rfl (DLe.refl _) (.cons rfl (DLe.refl _) (.cons rfl (DLe.refl _) .nil))))) (.cons rfl (.refl _) .nil) rfl rfl rfl)⟩
          · replace hM := (of_if hM).2 h86
            refine a_exit ?_
            obtain rfl := Option.some.inj hM
            obtain rfl := hE84 _ rfl
            exact ⟨a82, hK84, (Imp.of (fun i => i) (.cons rfl (DLe.refl _) (.cons rfl (DLe.refl _) (.cons rfl (DLe.refl _) .nil))) (.cons rfl (.refl _) .nil) rfl rfl rfl)⟩
        · rintro a65 hM
          replace hM : slices_symMergeCmpFunc_record_Record_a_K66 x1 o0 a65 = some r := hM
          unfold slices_symMergeCmpFunc_record_Record_a_K66 at hM
          refine a_cut (α := (List record_Record)) (fun s => ⟨[], [(100000, some (.row 52 29 (List.map record_Record.dv s)))], [100000]⟩) (fun s => slices_symMergeCmpFunc_record_Record_a_K68 s = some r) ?_ ?_
          · refine a_seq ?_
            refine a_region (.cons (o_move rfl) <| .cons (o_assign rfl) <| .nil _) (by kernel_rfl) (by kernel_rfl) ?_
            obtain ⟨e71, hL71, hK71⟩ := of_bind hM
            refine a_block ?_
            refine a_while (fun s : (List record_Record) × Int => ⟨[(0, .row 100000), (10, .int .i64 a65), (13, .int .i64 s.2)], [(100000, some (.row 52 29 (List.map record_Record.dv s.1)))], [100000]⟩) _ hL71 (Imp.of (fun i => i) (.cons rfl (DLe.refl _) (.cons rfl (DLe.refl _) (.cons rfl (DLe.refl _) .nil))) (.cons rfl (.refl _) .nil) rfl rfl rfl) ?_
            rintro ⟨a69, a70⟩ t72 hM hE71
            replace hM : slices_symMergeCmpFunc_record_Record_a_L71 a65 a69 a70 = some t72 := hM
            unfold slices_symMergeCmpFunc_record_Record_a_L71 at hM
            refine a_seq ?_
            refine a_seq ?_
            refine a_region (.cons (o_move rfl) <| .cons (o_move rfl) <| .cons (o_int rfl rfl rfl) <| .cons (o_int rfl rfl rfl) <| .nil _) (by kernel_rfl) (by kernel_rfl) ?_
            refine a_cond _ rfl (fun h73 => ?_) (fun h73 => ?_)
            · replace hM := (of_if hM).1 h73
              refine a_skip ?_
              refine a_seq ?_
              refine a_block ?_
              obtain ⟨v75, h74, hM⟩ := of_bind hM
              obtain ⟨v77, h76, hM⟩ := of_bind hM
              obtain ⟨v79, h78, hM⟩ := of_bind hM
              obtain ⟨v81, h80, hM⟩ := of_bind hM
              refine a_draw mixed (.cons (o_move rfl) <| .cons (o_move rfl) <| .cons (o_move rfl) <| .cons (o_move rfl) <| .cons (o_int rfl rfl rfl) <| .cons (o_move rfl) <| .cons (o_move rfl) <| .cons (o_int rfl rfl rfl) <| .cons (t_index_r h74 rfl rfl rfl) <| .cons (t_load_pr h74 rfl rfl rfl rfl rfl) <| .cons (o_move rfl) <| .cons (o_move rfl) <| .cons (t_index_r h76 rfl rfl rfl) <| .cons (t_load_pr h76 rfl rfl rfl rfl rfl) <| .cons (t_index_r h78 rfl rfl rfl) <| .cons (t_store_p v75 h78 rfl rfl rfl rfl rfl rfl rfl rfl rfl rfl rfl) <| .cons (t_index_r h80 rfl rfl rfl) <| .cons (t_store_p v77 h80 rfl rfl rfl rfl rfl rfl rfl rfl rfl rfl rfl) <| .nil _) (by kernel_rfl) (by kernel_rfl) (by kernel_rfl) ?_
              refine a_region (.cons (o_move rfl) <| .cons (o_int rfl rfl rfl) <| .cons (o_assign rfl) <| .nil _) (by kernel_rfl) (by kernel_rfl) ?_
              obtain rfl := Option.some.inj hM
              exact ⟨((List.set (List.set a69 (Int.toNat a70) v75) (Int.toNat (IntKind.wrap .i64 (a70 + 1))) v77), (IntKind.wrap .i64 (a70 + 1))), rfl, (Imp.of (fun i => i) (.cons rfl (DLe.refl _) (.cons rfl (DLe.refl _) (.cons rfl (DLe.refl _) .nil))) (.cons rfl (.refl _) .nil) rfl rfl rfl)⟩
            · replace hM := (of_if hM).2 h73
              refine a_exit ?_
              obtain rfl := Option.some.inj hM
              obtain rfl := hE71 _ rfl
              exact ⟨a69, hK71, (Imp.of (fun i => i) .nil (.cons rfl (.refl _) .nil) rfl rfl rfl)⟩
          · rintro a67 hM
            replace hM : slices_symMergeCmpFunc_record_Record_a_K68 a67 = some r := hM
            unfold slices_symMergeCmpFunc_record_Record_a_K68 at hM
            obtain rfl := Option.some.inj hM
            refine a_imp (σ' := ⟨[], [(100000, some (.row 52 29 (List.map record_Record.dv a67)))], [100000]⟩) (Imp.of (fun i => i) .nil (.cons rfl (.refl _) .nil) rfl rfl rfl) ?_
            exact a_ret (a_post (.r0 ) (DLe.refl _) (PostOk.spec (.cons rfl .nil)))
      · replace hM := (of_if hM).2 h64
        refine a_skip ?_
        exact ⟨(), hM, (Imp.of (fun i => i) (.cons rfl (DLe.refl _) (.cons rfl (DLe.refl _) (.cons rfl (DLe.refl _) (.cons rfl (DLe.refl _) (.cons rfl (DLe.refl _) .nil))))) (.cons rfl (.refl _) .nil) rfl rfl rfl)⟩
    · rintro _ hM
      replace hM : slices_symMergeCmpFunc_record_Record_a_K1 x1 x2 x3 o0 (slices_symMergeCmpFunc_record_Record_a fu) = some r := hM
      unfold slices_symMergeCmpFunc_record_Record_a_K1 at hM
      refine a_cut (α := Unit) (fun s => ⟨[(0, .row 100000), (1, .int .i64 x1), (2, .int .i64 x2), (3, .int .i64 x3), (4, .val (.func (.func 157) #[] #[]))], [(100000, some (.row 52 29 (List.map record_Record.dv o0)))], [100000]⟩) (fun s => slices_symMergeCmpFunc_record_Record_a_K2 x1 x2 x3 o0 (slices_symMergeCmpFunc_record_Record_a fu) = some r) ?_ ?_
      · refine a_seq ?_
        refine a_region (.cons (o_move rfl) <| .cons (o_move rfl) <| .cons (o_int rfl rfl rfl) <| .cons (o_int rfl rfl rfl) <| .nil _) (by kernel_rfl) (by kernel_rfl) ?_
        refine a_cond _ rfl (fun h34 => ?_) (fun h34 => ?_)
        · replace hM := (of_if hM).1 h34
          refine a_seq ?_
          refine a_region (.cons (o_move rfl) <| .cons (o_assign rfl) <| .nil _) (by kernel_rfl) (by kernel_rfl) ?_
          refine a_seq ?_
          refine a_region (.cons (o_move rfl) <| .cons (o_assign rfl) <| .nil _) (by kernel_rfl) (by kernel_rfl) ?_
          refine a_cut (α := Int) (fun s => ⟨[(0, .row 100000), (2, .int .i64 x2), (14, .int .i64 s)], [(100000, some (.row 52 29 (List.map record_Record.dv o0)))], [100000]⟩) (fun s => slices_symMergeCmpFunc_record_Record_a_K36 x2 o0 s = some r) ?_ ?_
          · obtain ⟨e54, hL54, hK54⟩ := of_bind hM
            refine a_block ?_
            refine a_while (fun s : Int × Int => ⟨[(0, .row 100000), (2, .int .i64 x2), (4, .val (.func (.func 157) #[] #[])), (14, .int .i64 s.1), (15, .int .i64 s.2)], [(100000, some (.row 52 29 (List.map record_Record.dv o0)))], [100000]⟩) _ hL54 (Imp.of (fun i => i) (.cons rfl (DLe.refl _) (.cons rfl (DLe.refl _) (.cons rfl (DLe.refl _) (.cons rfl (DLe.refl _) (.cons rfl (DLe.refl _) .nil))))) (.cons rfl (.refl _) .nil) rfl rfl rfl) ?_
            rintro ⟨a52, a53⟩ t55 hM hE54
            replace hM : slices_symMergeCmpFunc_record_Record_a_L54 x2 o0 a52 a53 = some t55 := hM
            unfold slices_symMergeCmpFunc_record_Record_a_L54 at hM
            refine a_seq ?_
            refine a_seq ?_
            refine a_region (.cons (o_move rfl) <| .cons (o_move rfl) <| .cons (o_int rfl rfl rfl) <| .nil _) (by kernel_rfl) (by kernel_rfl) ?_
            refine a_cond _ rfl (fun h56 => ?_) (fun h56 => ?_)
            · replace hM := (of_if hM).1 h56
              refine a_skip ?_
              refine a_block ?_
              refine a_seq ?_
              refine a_region (.cons (o_move rfl) <| .cons (o_move rfl) <| .cons (o_int rfl rfl rfl) <| .cons (o_conv_w rfl) <| .cons (o_shr rfl rfl (by decide)) <| .cons (o_conv_w rfl) <| .cons (o_assign rfl) <| .nil _) (by kernel_rfl) (by kernel_rfl) ?_
              refine a_seq ?_
              obtain ⟨v58, h57, hM⟩ := of_bind hM
              obtain ⟨v60, h59, hM⟩ := of_bind hM
              obtain ⟨v62, h61, hM⟩ := of_bind hM
              refine a_draw mixed (.cons (o_move rfl) <| .cons (o_move rfl) <| .cons (o_move rfl) <| .cons (t_index_r h57 rfl rfl rfl) <| .cons (t_load_pr h57 rfl rfl rfl rfl rfl) <| .cons (o_move rfl) <| .cons (o_move rfl) <| .cons (t_index_r h59 rfl rfl rfl) <| .cons (t_load_pr h59 rfl rfl rfl rfl rfl) <| .cons (o_callF (collect_bySeq_c h61) rfl rfl (DLeL.refl _) rfl) <| .cons (o_int rfl rfl rfl) <| .cons (o_not rfl) <| .nil _) (by kernel_rfl) (by kernel_rfl) (by kernel_rfl) ?_
              refine a_cond _ rfl (fun h63 => ?_) (fun h63 => ?_)
              · replace hM := (of_if hM).1 h63
                refine a_region (.cons (o_move rfl) <| .cons (o_int rfl rfl rfl) <| .cons (o_assign rfl) <| .nil _) (by kernel_rfl) (by kernel_rfl) ?_
                obtain rfl := Option.some.inj hM
                exact ⟨((IntKind.wrap .i64 ((IntKind.wrap .i64 (Int.fdiv (IntKind.wrap .u64 (IntKind.wrap .i64 (a52 + a53))) (2 ^ min (Int.toNat 1) (IntKind.bits .u64)))) + 1)), a53), rfl, (Imp.of (fun i => i) (.cons rfl (DLe.refl _) (.cons rfl (DLe.refl _) (.cons rfl (DLe.refl _) (.cons rfl (DLe.refl _) (.cons rfl (DLe.refl _) .nil))))) (.cons rfl (.refl _) .nil) rfl rfl rfl)⟩
              · replace hM := (of_if hM).2 h63
                refine a_region (.cons (o_move rfl) <| .cons (o_assign rfl) <| .nil _) (by kernel_rfl) (by kernel_rfl) ?_
                obtain rfl := Option.some.inj hM
                exact ⟨(a52, (IntKind.wrap .i64 (Int.fdiv (IntKind.wrap .u64 (IntKind.wrap .i64 (a52 + a53))) (2 ^ min (Int.toNat 1) (IntKind.bits .u64))))), rfl, (Imp.of (fun i => i) (.cons rfl (DLe.refl _) (.cons rfl (DLe.refl _) (.cons rfl (DLe.refl _) (.cons rfl (DLe.refl _) (.cons rfl (DLe.refl _) .nil))))) (.cons rfl (.refl _) .nil) rfl rfl rfl)⟩
            · replace hM := (of_if hM).2 h56
              refine a_exit ?_
              obtain rfl := Option.some.inj hM
              obtain rfl := hE54 _ rfl
              exact ⟨a52, hK54, (Imp.of (fun i => i) (.cons rfl (DLe.refl _) (.cons rfl (DLe.refl _) (.cons rfl (DLe.refl _) .nil))) (.cons rfl (.refl _) .nil) rfl rfl rfl)⟩
          · rintro a35 hM
            replace hM : slices_symMergeCmpFunc_record_Record_a_K36 x2 o0 a35 = some r := hM
            unfold slices_symMergeCmpFunc_record_Record_a_K36 at hM
            refine a_cut (α := (List record_Record)) (fun s => ⟨[], [(100000, some (.row 52 29 (List.map record_Record.dv s)))], [100000]⟩) (fun s => slices_symMergeCmpFunc_record_Record_a_K38 s = some r) ?_ ?_
            · refine a_seq ?_
              refine a_region (.cons (o_move rfl) <| .cons (o_assign rfl) <| .nil _) (by kernel_rfl) (by kernel_rfl) ?_
              obtain ⟨e41, hL41, hK41⟩ := of_bind hM
              refine a_block ?_
              refine a_while (fun s : (List record_Record) × Int => ⟨[(0, .row 100000), (14, .int .i64 a35), (17, .int .i64 s.2)], [(100000, some (.row 52 29 (List.map record_Record.dv s.1)))], [100000]⟩) _ hL41 (Imp.of (fun i => i) (.cons rfl (DLe.refl _) (.cons rfl (DLe.refl _) (.cons rfl (DLe.refl _) .nil))) (.cons rfl (.refl _) .nil) rfl rfl rfl) ?_
              rintro ⟨a39, a40⟩ t42 hM hE41
              replace hM : slices_symMergeCmpFunc_record_Record_a_L41 a35 a39 a40 = some t42 := hM
              unfold slices_symMergeCmpFunc_record_Record_a_L41 at hM
              refine a_seq ?_
              refine a_seq ?_
              refine a_region (.cons (o_move rfl) <| .cons (o_move rfl) <| .cons (o_int rfl rfl rfl) <| .nil _) (by kernel_rfl) (by kernel_rfl) ?_
              refine a_cond _ rfl (fun h43 => ?_) (fun h43 => ?_)
              · replace hM := (of_if hM).1 h43
                refine a_skip ?_
                refine a_seq ?_
                refine a_block ?_
                obtain ⟨v45, h44, hM⟩ := of_bind hM
                obtain ⟨v47, h46, hM⟩ := of_bind hM
                obtain ⟨v49, h48, hM⟩ := of_bind hM
                obtain ⟨v51, h50, hM⟩ := of_bind hM
                refine a_draw mixed (.cons (o_move rfl) <| .cons (o_move rfl) <| .cons (o_move rfl) <| .cons (o_move rfl) <| .cons (o_int rfl rfl rfl) <| .cons (o_move rfl) <| .cons (o_move rfl) <| .cons (o_int rfl rfl rfl) <| .cons (t_index_r h44 rfl rfl rfl) <| .cons (t_load_pr h44 rfl rfl rfl rfl rfl) <| .cons (o_move rfl) <| .cons (o_move rfl) <| .cons (t_index_r h46 rfl rfl rfl) <| .cons (t_load_pr h46 rfl rfl rfl rfl rfl) <| .cons (t_index_r h48 rfl rfl rfl) <| .cons (t_store_p v45 h48 rfl rfl rfl rfl rfl rfl rfl rfl rfl rfl rfl) <| .cons (t_index_r h50 rfl rfl rfl) <| .cons (t_store_p v47 h50 rfl rfl rfl rfl rfl rfl rfl rfl rfl rfl rfl) <| .nil _) (by kernel_rfl) (by kernel_rfl) (by kernel_rfl) ?_
                refine a_region (.cons (o_move rfl) <| .cons (o_int rfl rfl rfl) <| .cons (o_assign rfl) <| .nil _) (by kernel_rfl) (by kernel_rfl) ?_
                obtain rfl := Option.some.inj hM
                exact ⟨((List.set (List.set a39 (Int.toNat a40) v45) (Int.toNat (IntKind.wrap .i64 (a40 - 1))) v47), (IntKind.wrap .i64 (a40 - 1))), rfl, (Imp.of (fun i => i) (.cons rfl (DLe.refl _) (.cons rfl (DLe.refl _) (.cons rfl (DLe.refl _) .nil))) (.cons rfl (.refl _) .nil) rfl rfl rfl)⟩
              · replace hM := (of_if hM).2 h43
                refine a_exit ?_
                obtain rfl := Option.some.inj hM
                obtain rfl := hE41 _ rfl
                exact ⟨a39, hK41, (Imp.of (fun i => i) .nil (.cons rfl (.refl _) .nil) rfl rfl rfl)⟩
            · rintro a37 hM
              replace hM : slices_symMergeCmpFunc_record_Record_a_K38 a37 = some r := hM
              unfold slices_symMergeCmpFunc_record_Record_a_K38 at hM
              obtain rfl := Option.some.inj hM
              refine a_imp (σ' := ⟨[], [(100000, some (.row 52 29 (List.map record_Record.dv a37)))], [100000]⟩) (Imp.of (fun i => i) .nil (.cons rfl (.refl _) .nil) rfl rfl rfl) ?_
              exact a_ret (a_post (.r0 ) (DLe.refl _) (PostOk.spec (.cons rfl .nil)))
        · replace hM := (of_if hM).2 h34
          refine a_skip ?_
          exact ⟨(), hM, (Imp.of (fun i => i) (.cons rfl (DLe.refl _) (.cons rfl (DLe.refl _) (.cons rfl (DLe.refl _) (.cons rfl (DLe.refl _) (.cons rfl (DLe.refl _) .nil))))) (.cons rfl (.refl _) .nil) rfl rfl rfl)⟩
      · rintro _ hM
        replace hM : slices_symMergeCmpFunc_record_Record_a_K2 x1 x2 x3 o0 (slices_symMergeCmpFunc_record_Record_a fu) = some r := hM
        unfold slices_symMergeCmpFunc_record_Record_a_K2 at hM
        refine a_seq ?_
        refine a_region (.cons (o_move rfl) <| .cons (o_move rfl) <| .cons (o_int rfl rfl rfl) <| .cons (o_conv_w rfl) <| .cons (o_shr rfl rfl (by decide)) <| .cons (o_conv_w rfl) <| .cons (o_assign rfl) <| .nil _) (by kernel_rfl) (by kernel_rfl) ?_
        refine a_seq ?_
        refine a_region (.cons (o_move rfl) <| .cons (o_move rfl) <| .cons (o_int rfl rfl rfl) <| .cons (o_assign rfl) <| .nil _) (by kernel_rfl) (by kernel_rfl) ?_
        refine a_seq ?_
        refine a_region (.cons (o_assign rfl) <| .cons (o_assign rfl) <| .nil _) (by kernel_rfl) (by kernel_rfl) ?_
        refine a_cut (α := Int × Int) (fun s => ⟨[(0, .row 100000), (1, .int .i64 x1), (2, .int .i64 x2), (3, .int .i64 x3), (4, .val (.func (.func 157) #[] #[])), (18, .int .i64 (IntKind.wrap .i64 (Int.fdiv (IntKind.wrap .u64 (IntKind.wrap .i64 (x1 + x3))) (2 ^ min (Int.toNat 1) (IntKind.bits .u64))))), (19, .int .i64 (IntKind.wrap .i64 ((IntKind.wrap .i64 (Int.fdiv (IntKind.wrap .u64 (IntKind.wrap .i64 (x1 + x3))) (2 ^ min (Int.toNat 1) (IntKind.bits .u64)))) + x2))), (20, .int .i64 s.1), (21, .int .i64 s.2)], [(100000, some (.row 52 29 (List.map record_Record.dv o0)))], [100000]⟩) (fun s => slices_symMergeCmpFunc_record_Record_a_K5 x1 x2 x3 o0 (slices_symMergeCmpFunc_record_Record_a fu) s.1 s.2 = some r) ?_ ?_
        · refine a_seq ?_
          refine a_region (.cons (o_move rfl) <| .cons (o_move rfl) <| .cons (o_int rfl rfl rfl) <| .nil _) (by kernel_rfl) (by kernel_rfl) ?_
          refine a_cond _ rfl (fun h33 => ?_) (fun h33 => ?_)
          · replace hM := (of_if hM).1 h33
            refine a_seq ?_
            refine a_region (.cons (o_move rfl) <| .cons (o_move rfl) <| .cons (o_int rfl rfl rfl) <| .cons (o_assign rfl) <| .nil _) (by kernel_rfl) (by kernel_rfl) ?_
            refine a_region (.cons (o_move rfl) <| .cons (o_assign rfl) <| .nil _) (by kernel_rfl) (by kernel_rfl) ?_
            exact ⟨((IntKind.wrap .i64 ((IntKind.wrap .i64 ((IntKind.wrap .i64 (Int.fdiv (IntKind.wrap .u64 (IntKind.wrap .i64 (x1 + x3))) (2 ^ min (Int.toNat 1) (IntKind.bits .u64)))) + x2)) - x3)), (IntKind.wrap .i64 (Int.fdiv (IntKind.wrap .u64 (IntKind.wrap .i64 (x1 + x3))) (2 ^ min (Int.toNat 1) (IntKind.bits .u64))))), hM, (Imp.of (fun i => i) (.cons rfl (DLe.refl _) (.cons rfl (DLe.refl _) (.cons rfl (DLe.refl _) (.cons rfl (DLe.refl _) (.cons rfl (DLe.refl _) (.cons rfl (DLe.refl _) (.cons rfl (DLe.refl _) (.cons rfl (DLe.refl _) (.cons rfl (DLe.refl _) .nil))))))))) (.cons rfl (.refl _) .nil) rfl rfl rfl)⟩
          · replace hM := (of_if hM).2 h33
            refine a_seq ?_
            refine a_region (.cons (o_move rfl) <| .cons (o_assign rfl) <| .nil _) (by kernel_rfl) (by kernel_rfl) ?_
            refine a_region (.cons (o_move rfl) <| .cons (o_assign rfl) <| .nil _) (by kernel_rfl) (by kernel_rfl) ?_
            exact ⟨(x1, x2), hM, (Imp.of (fun i => i) (.cons rfl (DLe.refl _) (.cons rfl (DLe.refl _) (.cons rfl (DLe.refl _) (.cons rfl (DLe.refl _) (.cons rfl (DLe.refl _) (.cons rfl (DLe.refl _) (.cons rfl (DLe.refl _) (.cons rfl (DLe.refl _) (.cons rfl (DLe.refl _) .nil))))))))) (.cons rfl (.refl _) .nil) rfl rfl rfl)⟩
        · rintro ⟨a3, a4⟩ hM
          replace hM : slices_symMergeCmpFunc_record_Record_a_K5 x1 x2 x3 o0 (slices_symMergeCmpFunc_record_Record_a fu) a3 a4 = some r := hM
          unfold slices_symMergeCmpFunc_record_Record_a_K5 at hM
          refine a_seq ?_
          refine a_region (.cons (o_move rfl) <| .cons (o_int rfl rfl rfl) <| .cons (o_assign rfl) <| .nil _) (by kernel_rfl) (by kernel_rfl) ?_
          refine a_cut (α := Int) (fun s => ⟨[(0, .row 100000), (1, .int .i64 x1), (2, .int .i64 x2), (3, .int .i64 x3), (4, .val (.func (.func 157) #[] #[])), (18, .int .i64 (IntKind.wrap .i64 (Int.fdiv (IntKind.wrap .u64 (IntKind.wrap .i64 (x1 + x3))) (2 ^ min (Int.toNat 1) (IntKind.bits .u64))))), (19, .int .i64 (IntKind.wrap .i64 ((IntKind.wrap .i64 (Int.fdiv (IntKind.wrap .u64 (IntKind.wrap .i64 (x1 + x3))) (2 ^ min (Int.toNat 1) (IntKind.bits .u64)))) + x2))), (20, .int .i64 s)], [(100000, some (.row 52 29 (List.map record_Record.dv o0)))], [100000]⟩) (fun s => slices_symMergeCmpFunc_record_Record_a_K7 x1 x2 x3 o0 (slices_symMergeCmpFunc_record_Record_a fu) s = some r) ?_ ?_
          · obtain ⟨e23, hL23, hK23⟩ := of_bind hM
            refine a_block ?_
            refine a_while (fun s : Int × Int => ⟨[(0, .row 100000), (1, .int .i64 x1), (2, .int .i64 x2), (3, .int .i64 x3), (4, .val (.func (.func 157) #[] #[])), (18, .int .i64 (IntKind.wrap .i64 (Int.fdiv (IntKind.wrap .u64 (IntKind.wrap .i64 (x1 + x3))) (2 ^ min (Int.toNat 1) (IntKind.bits .u64))))), (19, .int .i64 (IntKind.wrap .i64 ((IntKind.wrap .i64 (Int.fdiv (IntKind.wrap .u64 (IntKind.wrap .i64 (x1 + x3))) (2 ^ min (Int.toNat 1) (IntKind.bits .u64)))) + x2))), (20, .int .i64 s.1), (21, .int .i64 s.2), (22, .int .i64 (IntKind.wrap .i64 ((IntKind.wrap .i64 ((IntKind.wrap .i64 (Int.fdiv (IntKind.wrap .u64 (IntKind.wrap .i64 (x1 + x3))) (2 ^ min (Int.toNat 1) (IntKind.bits .u64)))) + x2)) - 1)))], [(100000, some (.row 52 29 (List.map record_Record.dv o0)))], [100000]⟩) _ hL23 (Imp.of (fun i => i) (.cons rfl (DLe.refl _) (.cons rfl (DLe.refl _) (.cons rfl (DLe.refl _) (.cons rfl (DLe.refl _) (.cons rfl (DLe.refl _) (.cons rfl (DLe.refl _) (.cons rfl (DLe.refl _) (.cons rfl (DLe.refl _) (.cons rfl (DLe.refl _) (.cons rfl (DLe.refl _) .nil)))))))))) (.cons rfl (.refl _) .nil) rfl rfl rfl) ?_
            rintro ⟨a21, a22⟩ t24 hM hE23
            replace hM : slices_symMergeCmpFunc_record_Record_a_L23 x1 x2 x3 o0 a21 a22 = some t24 := hM
            unfold slices_symMergeCmpFunc_record_Record_a_L23 at hM
            refine a_seq ?_
            refine a_seq ?_
            refine a_region (.cons (o_move rfl) <| .cons (o_move rfl) <| .cons (o_int rfl rfl rfl) <| .nil _) (by kernel_rfl) (by kernel_rfl) ?_
            refine a_cond _ rfl (fun h25 => ?_) (fun h25 => ?_)
            · replace hM := (of_if hM).1 h25
              refine a_skip ?_
              refine a_block ?_
              refine a_seq ?_
              refine a_region (.cons (o_move rfl) <| .cons (o_move rfl) <| .cons (o_int rfl rfl rfl) <| .cons (o_conv_w rfl) <| .cons (o_shr rfl rfl (by decide)) <| .cons (o_conv_w rfl) <| .cons (o_assign rfl) <| .nil _) (by kernel_rfl) (by kernel_rfl) ?_
              refine a_seq ?_
              obtain ⟨v27, h26, hM⟩ := of_bind hM
              obtain ⟨v29, h28, hM⟩ := of_bind hM
              obtain ⟨v31, h30, hM⟩ := of_bind hM
              refine a_draw mixed (.cons (o_move rfl) <| .cons (o_move rfl) <| .cons (o_move rfl) <| .cons (o_move rfl) <| .cons (o_int rfl rfl rfl) <| .cons (t_index_r h26 rfl rfl rfl) <| .cons (t_load_pr h26 rfl rfl rfl rfl rfl) <| .cons (o_move rfl) <| .cons (o_move rfl) <| .cons (t_index_r h28 rfl rfl rfl) <| .cons (t_load_pr h28 rfl rfl rfl rfl rfl) <| .cons (o_callF (collect_bySeq_c h30) rfl rfl (DLeL.refl _) rfl) <| .cons (o_int rfl rfl rfl) <| .cons (o_not rfl) <| .nil _) (by kernel_rfl) (by kernel_rfl) (by kernel_rfl) ?_
              refine a_cond _ rfl (fun h32 => ?_) (fun h32 => ?_)
              · replace hM := (of_if hM).1 h32
                refine a_region (.cons (o_move rfl) <| .cons (o_int rfl rfl rfl) <| .cons (o_assign rfl) <| .nil _) (by kernel_rfl) (by kernel_rfl) ?_
                obtain rfl := Option.some.inj hM
                exact ⟨((IntKind.wrap .i64 ((IntKind.wrap .i64 (Int.fdiv (IntKind.wrap .u64 (IntKind.wrap .i64 (a21 + a22))) (2 ^ min (Int.toNat 1) (IntKind.bits .u64)))) + 1)), a22), rfl, (Imp.of (fun i => i) (.cons rfl (DLe.refl _) (.cons rfl (DLe.refl _) (.cons rfl (DLe.refl _) (.cons rfl (DLe.refl _) (.cons rfl (DLe.refl _) (.cons rfl (DLe.refl _) (.cons rfl (DLe.refl _) (.cons rfl (DLe.refl _) (.cons rfl (DLe.refl _) (.cons rfl (DLe.refl _) .nil)))))))))) (.cons rfl (.refl _) .nil) rfl rfl rfl)⟩
              · replace hM := (of_if hM).2 h32
                refine a_region (.cons (o_move rfl) <| .cons (o_assign rfl) <| .nil _) (by kernel_rfl) (by kernel_rfl) ?_
                obtain rfl := Option.some.inj hM
                exact ⟨(a21, (IntKind.wrap .i64 (Int.fdiv (IntKind.wrap .u64 (IntKind.wrap .i64 (a21 + a22))) (2 ^ min (Int.toNat 1) (IntKind.bits .u64))))), rfl, (Imp.of (fun i => i) (.cons rfl (DLe.refl _) (.cons rfl (DLe.refl _) (.cons rfl (DLe.refl _) (.cons rfl (DLe.refl _) (.cons rfl (DLe.refl _) (.cons rfl (DLe.refl _) (.cons rfl (DLe.refl _) (.cons rfl (DLe.refl _) (.cons rfl (DLe.refl _) (.cons rfl (DLe.refl _) .nil)))))))))) (.cons rfl (.refl _) .nil) rfl rfl rfl)⟩
            · replace hM := (of_if hM).2 h25
              refine a_exit ?_
              obtain rfl := Option.some.inj hM
              obtain rfl := hE23 _ rfl
              exact ⟨a21, hK23, (Imp.of (fun i => i) (.cons rfl (DLe.refl _) (.cons rfl (DLe.refl _) (.cons rfl (DLe.refl _) (.cons rfl (DLe.refl _) (.cons rfl (DLe.refl _) (.cons rfl (DLe.refl _) (.cons rfl (DLe.refl _) (.cons rfl (DLe.refl _) .nil)))))))) (.cons rfl (.refl _) .nil) rfl rfl rfl)⟩
          · rintro a6 hM
            replace hM : slices_symMergeCmpFunc_record_Record_a_K7 x1 x2 x3 o0 (slices_symMergeCmpFunc_record_Record_a fu) a6 = some r := hM
            unfold slices_symMergeCmpFunc_record_Record_a_K7 at hM
            refine a_seq ?_
            refine a_region (.cons (o_move rfl) <| .cons (o_move rfl) <| .cons (o_int rfl rfl rfl) <| .cons (o_assign rfl) <| .nil _) (by kernel_rfl) (by kernel_rfl) ?_
            refine a_cut (α := (List record_Record)) (fun s => ⟨[(0, .row 100000), (1, .int .i64 x1), (3, .int .i64 x3), (4, .val (.func (.func 157) #[] #[])), (18, .int .i64 (IntKind.wrap .i64 (Int.fdiv (IntKind.wrap .u64 (IntKind.wrap .i64 (x1 + x3))) (2 ^ min (Int.toNat 1) (IntKind.bits .u64))))), (20, .int .i64 a6), (24, .int .i64 (IntKind.wrap .i64 ((IntKind.wrap .i64 ((IntKind.wrap .i64 (Int.fdiv (IntKind.wrap .u64 (IntKind.wrap .i64 (x1 + x3))) (2 ^ min (Int.toNat 1) (IntKind.bits .u64)))) + x2)) - a6)))], [(100000, some (.row 52 29 (List.map record_Record.dv s)))], [100000]⟩) (fun s => slices_symMergeCmpFunc_record_Record_a_K9 x1 x2 x3 (slices_symMergeCmpFunc_record_Record_a fu) a6 s = some r) ?_ ?_
            · refine a_seq ?_
              refine a_region (.cons (o_move rfl) <| .cons (o_move rfl) <| .cons (o_int rfl rfl rfl) <| .cons (o_move rfl) <| .cons (o_guardG .bT rfl rfl (fun hb => (.keep .nil)) (fun hb => o_move rfl)) <| .cons (o_guardG .bT rfl rfl (fun hb => (.keep .nil)) (fun hb => o_move rfl)) <| .cons (o_guardG .bT rfl rfl (fun hb => (.strip rfl hb (.strip rfl hb .nil))) (fun hb => o_int rfl rfl rfl)) <| .cons (o_and rfl rfl) <| .nil _) (by kernel_rfl) (by kernel_rfl) ?_
              refine a_cond _ rfl (fun h18 => ?_) (fun h18 => ?_)
              · replace hM := (of_if hM).1 h18
                obtain ⟨v20, h19, hM⟩ := of_bind hM
                refine a_region (.cons (o_move rfl) <| .cons (o_move rfl) <| .cons (o_move rfl) <| .cons (o_move rfl) <| .cons (o_move rfl) <| .cons (o_callN (fun i => bif Nat.beq i 100000 then 100000 else i) 1 (slices_rotateCmpFunc_record_Record_a_c h19) rfl (DLeL.refl _) (.cons rfl .nil) rfl .nil) <| .nil _) (by kernel_rfl) (by kernel_rfl) ?_
                exact ⟨v20, hM, (Imp.of (fun i => i) (.cons rfl (DLe.refl _) (.cons rfl (DLe.refl _) (.cons rfl (DLe.refl _) (.cons rfl (DLe.refl _) (.cons rfl (DLe.refl _) (.cons rfl (DLe.refl _) (.cons rfl (DLe.refl _) .nil))))))) (.cons rfl (.refl _) .nil) rfl rfl rfl)⟩
              · replace hM := (of_if hM).2 h18
                refine a_skip ?_
                exact ⟨o0, hM, (Imp.of (fun i => i) (.cons rfl (DLe.refl _) (.cons rfl (DLe.refl _) (.cons rfl (DLe.refl _) (.cons rfl (DLe.refl _) (.cons rfl (DLe.refl _) (.cons rfl (DLe.refl _) (.cons rfl (DLe.refl _) .nil))))))) (.cons rfl (.refl _) .nil) rfl rfl rfl)⟩
            · rintro a8 hM
              replace hM : slices_symMergeCmpFunc_record_Record_a_K9 x1 x2 x3 (slices_symMergeCmpFunc_record_Record_a fu) a6 a8 = some r := hM
              unfold slices_symMergeCmpFunc_record_Record_a_K9 at hM
              refine a_cut (α := (List record_Record)) (fun s => ⟨[(0, .row 100000), (3, .int .i64 x3), (4, .val (.func (.func 157) #[] #[])), (18, .int .i64 (IntKind.wrap .i64 (Int.fdiv (IntKind.wrap .u64 (IntKind.wrap .i64 (x1 + x3))) (2 ^ min (Int.toNat 1) (IntKind.bits .u64))))), (24, .int .i64 (IntKind.wrap .i64 ((IntKind.wrap .i64 ((IntKind.wrap .i64 (Int.fdiv (IntKind.wrap .u64 (IntKind.wrap .i64 (x1 + x3))) (2 ^ min (Int.toNat 1) (IntKind.bits .u64)))) + x2)) - a6)))], [(100000, some (.row 52 29 (List.map record_Record.dv s)))], [100000]⟩) (fun s => slices_symMergeCmpFunc_record_Record_a_K11 x1 x2 x3 (slices_symMergeCmpFunc_record_Record_a fu) a6 s = some r) ?_ ?_
              · refine a_seq ?_
                refine a_region (.cons (o_move rfl) <| .cons (o_move rfl) <| .cons (o_int rfl rfl rfl) <| .cons (o_move rfl) <| .cons (o_guardG .bT rfl rfl (fun hb => (.keep .nil)) (fun hb => o_move rfl)) <| .cons (o_guardG .bT rfl rfl (fun hb => (.keep .nil)) (fun hb => o_move rfl)) <| .cons (o_guardG .bT rfl rfl (fun hb => (.strip rfl hb (.strip rfl hb .nil))) (fun hb => o_int rfl rfl rfl)) <| .cons (o_and rfl rfl) <| .nil _) (by kernel_rfl) (by kernel_rfl) ?_
                refine a_cond _ rfl (fun h15 => ?_) (fun h15 => ?_)
                · replace hM := (of_if hM).1 h15
                  obtain ⟨v17, h16, hM⟩ := of_bind hM
                  refine a_region (.cons (o_move rfl) <| .cons (o_move rfl) <| .cons (o_move rfl) <| .cons (o_move rfl) <| .cons (o_move rfl) <| .cons (o_callN (fun i => bif Nat.beq i 100000 then 100000 else i) 1 (ih h16) rfl (DLeL.refl _) (.cons rfl .nil) rfl .nil) <| .nil _) (by kernel_rfl) (by kernel_rfl) ?_
                  exact ⟨v17, hM, (Imp.of (fun i => i) (.cons rfl (DLe.refl _) (.cons rfl (DLe.refl _) (.cons rfl (DLe.refl _) (.cons rfl (DLe.refl _) (.cons rfl (DLe.refl _) .nil))))) (.cons rfl (.refl _) .nil) rfl rfl rfl)⟩
                · replace hM := (of_if hM).2 h15
                  refine a_skip ?_
                  exact ⟨a8, hM, (Imp.of (fun i => i) (.cons rfl (DLe.refl _) (.cons rfl (DLe.refl _) (.cons rfl (DLe.refl _) (.cons rfl (DLe.refl _) (.cons rfl (DLe.refl _) .nil))))) (.cons rfl (.refl _) .nil) rfl rfl rfl)⟩
              · rintro a10 hM
                replace hM : slices_symMergeCmpFunc_record_Record_a_K11 x1 x2 x3 (slices_symMergeCmpFunc_record_Record_a fu) a6 a10 = some r := hM
                unfold slices_symMergeCmpFunc_record_Record_a_K11 at hM
                refine a_seq ?_
                refine a_region (.cons (o_move rfl) <| .cons (o_move rfl) <| .cons (o_int rfl rfl rfl) <| .cons (o_move rfl) <| .cons (o_guardG .bT rfl rfl (fun hb => (.keep .nil)) (fun hb => o_move rfl)) <| .cons (o_guardG .bT rfl rfl (fun hb => (.keep .nil)) (fun hb => o_move rfl)) <| .cons (o_guardG .bT rfl rfl (fun hb => (.strip rfl hb (.strip rfl hb .nil))) (fun hb => o_int rfl rfl rfl)) <| .cons (o_and rfl rfl) <| .nil _) (by kernel_rfl) (by kernel_rfl) ?_
                refine a_cond _ rfl (fun h12 => ?_) (fun h12 => ?_)
                · replace hM := (of_if hM).1 h12
                  obtain ⟨v14, h13, hM⟩ := of_bind hM
                  refine a_region (.cons (o_move rfl) <| .cons (o_move rfl) <| .cons (o_move rfl) <| .cons (o_move rfl) <| .cons (o_move rfl) <| .cons (o_callN (fun i => bif Nat.beq i 100000 then 100000 else i) 1 (ih h13) rfl (DLeL.refl _) (.cons rfl .nil) rfl .nil) <| .nil _) (by kernel_rfl) (by kernel_rfl) ?_
                  obtain rfl := Option.some.inj hM
                  refine n_imp (σ' := ⟨[], [(100000, some (.row 52 29 (List.map record_Record.dv v14)))], [100000]⟩) (Imp.of (fun i => i) .nil (.cons rfl (.refl _) .nil) rfl rfl rfl) ?_
                  exact n_done (a_postN (.r0 ) (DLe.refl _) (PostOk.spec (.cons rfl .nil)))
                · replace hM := (of_if hM).2 h12
                  refine a_skip ?_
                  obtain rfl := Option.some.inj hM
                  refine n_imp (σ' := ⟨[], [(100000, some (.row 52 29 (List.map record_Record.dv a10)))], [100000]⟩) (Imp.of (fun i => i) .nil (.cons rfl (.refl _) .nil) rfl rfl rfl) ?_
                  exact n_done (a_postN (.r0 ) (DLe.refl _) (PostOk.spec (.cons rfl .nil)))

def slices_stableCmpFunc_record_Record_a_K7 (a6 : List record_Record) : Option (List record_Record) :=
  some a6
def slices_stableCmpFunc_record_Record_a_K15 (x1 : Int) (a9 : Int) (a13 : List record_Record) (a14 : Int) : Option (Ctl ((List record_Record) × Int) (List record_Record)) :=
  if (decide ((IntKind.wrap .i64 (a14 + a9)) < x1)) = true then
    (slices_symMergeCmpFunc_record_Record_a 64 a14 (IntKind.wrap .i64 (a14 + a9)) x1 a13).bind fun v18 =>
    some (.next (v18, (IntKind.wrap .i64 (a9 * 2))))
  else
    some (.next (a13, (IntKind.wrap .i64 (a9 * 2))))
def slices_stableCmpFunc_record_Record_a_L22 (x1 : Int) (a9 : Int) (a19 : List record_Record) (a20 : Int) (a21 : Int) : Option (Ctl ((List record_Record) × Int × Int) ((List record_Record) × Int)) :=
  if (decide (a21 ≤ x1)) = true then
    (slices_symMergeCmpFunc_record_Record_a 64 a20 (IntKind.wrap .i64 (a20 + a9)) a21 a19).bind fun v26 =>
    some (.next (v26, a21, (IntKind.wrap .i64 (a21 + (IntKind.wrap .i64 (2 * a9))))))
  else
    some (.done (a19, a20))
def slices_stableCmpFunc_record_Record_a_L10 (x1 : Int) (a8 : List record_Record) (a9 : Int) : Option (Ctl ((List record_Record) × Int) (List record_Record)) :=
  if (decide (a9 < x1)) = true then
    (whileM (E := (List record_Record) × Int) (fun s => slices_stableCmpFunc_record_Record_a_L22 x1 a9 s.1 s.2.1 s.2.2) (a8, 0, (IntKind.wrap .i64 (2 * a9)))).bind fun e => slices_stableCmpFunc_record_Record_a_K15 x1 a9 e.1 e.2
  else
    some (.done a8)
def slices_stableCmpFunc_record_Record_a_K3 (x1 : Int) (a1 : List record_Record) (a2 : Int) : Option (List record_Record) :=
  (slices_insertionSortCmpFunc_record_Record_a a2 x1 a1).bind fun v5 =>
  (whileM (E := (List record_Record)) (fun s => slices_stableCmpFunc_record_Record_a_L10 x1 s.1 s.2) (v5, 20)).bind fun e => slices_stableCmpFunc_record_Record_a_K7 e
def slices_stableCmpFunc_record_Record_a_L30 (x1 : Int) (a27 : List record_Record) (a28 : Int) (a29 : Int) : Option (Ctl ((List record_Record) × Int × Int) ((List record_Record) × Int)) :=
  if (decide (a29 ≤ x1)) = true then
    (slices_insertionSortCmpFunc_record_Record_a a28 a29 a27).bind fun v34 =>
    some (.next (v34, a29, (IntKind.wrap .i64 (a29 + 20))))
  else
    some (.done (a27, a28))
def slices_stableCmpFunc_record_Record_a (x1 : Int) (o0 : List record_Record) : Option (List record_Record) :=
  (whileM (E := (List record_Record) × Int) (fun s => slices_stableCmpFunc_record_Record_a_L30 x1 s.1 s.2.1 s.2.2) (o0, 0, 20)).bind fun e => slices_stableCmpFunc_record_Record_a_K3 x1 e.1 e.2
theorem slices_stableCmpFunc_record_Record_a_c {x1 : Int} {o0 : List record_Record} {r : (List record_Record)} (hM : slices_stableCmpFunc_record_Record_a x1 o0 = some r) : ACall Tryz.prog 182 ⟨[.row 100000, .int .i64 x1, .val (.func (.func 157) #[] #[])], [(100000, some (.row 52 29 (List.map record_Record.dv o0)))], .tup [], [(100000, some (.row 52 29 (List.map record_Record.dv r)))], []⟩ := by
  unfold slices_stableCmpFunc_record_Record_a at hM
  refine ACall.body Tryz.func182 Tryz.ntmps182 rfl rfl rfl rfl ?_
  refine a_end ?_
  refine a_seq ?_
  refine a_region (.cons (o_assign rfl) <| .nil _) (by kernel_rfl) (by kernel_rfl) ?_
  refine a_seq ?_
  refine a_region (.cons (o_move rfl) <| .cons (o_assign rfl) <| .cons (o_assign rfl) <| .nil _) (by kernel_rfl) (by kernel_rfl) ?_
  refine a_cut (α := (List record_Record) × Int) (fun s => ⟨[(0, .row 100000), (1, .int .i64 x1), (2, .val (.func (.func 157) #[] #[])), (6, .int .i64 20), (7, .int .i64 s.2)], [(100000, some (.row 52 29 (List.map record_Record.dv s.1)))], [100000]⟩) (fun s => slices_stableCmpFunc_record_Record_a_K3 x1 s.1 s.2 = some r) ?_ ?_
  · obtain ⟨e30, hL30, hK30⟩ := of_bind hM
    refine a_block ?_
    refine a_while (fun s : (List record_Record) × Int × Int => ⟨[(0, .row 100000), (1, .int .i64 x1), (2, .val (.func (.func 157) #[] #[])), (6, .int .i64 20), (7, .int .i64 s.2.1), (8, .int .i64 s.2.2)], [(100000, some (.row 52 29 (List.map record_Record.dv s.1)))], [100000]⟩) _ hL30 (Imp.of (fun i => i) (.cons rfl (DLe.refl _) (.cons rfl (DLe.refl _) (.cons rfl (DLe.refl _) (.cons rfl (DLe.refl _) (.cons rfl (DLe.refl _) (.cons rfl (DLe.refl _) .nil)))))) (.cons rfl (.refl _) .nil) rfl rfl rfl) ?_
    rintro ⟨a27, a28, a29⟩ t31 hM hE30
    replace hM : slices_stableCmpFunc_record_Record_a_L30 x1 a27 a28 a29 = some t31 := hM
    unfold slices_stableCmpFunc_record_Record_a_L30 at hM
    refine a_seq ?_
    refine a_seq ?_
    refine a_region (.cons (o_move rfl) <| .cons (o_move rfl) <| .cons (o_int rfl rfl rfl) <| .nil _) (by kernel_rfl) (by kernel_rfl) ?_
    refine a_cond _ rfl (fun h32 => ?_) (fun h32 => ?_)
    · replace hM := (of_if hM).1 h32
      refine a_skip ?_
      refine a_block ?_
      refine a_seq ?_
      obtain ⟨v34, h33, hM⟩ := of_bind hM
      refine a_region (.cons (o_move rfl) <| .cons (o_move rfl) <| .cons (o_move rfl) <| .cons (o_move rfl) <| .cons (o_callN (fun i => bif Nat.beq i 100000 then 100000 else i) 1 (slices_insertionSortCmpFunc_record_Record_a_c h33) rfl (DLeL.refl _) (.cons rfl .nil) rfl .nil) <| .nil _) (by kernel_rfl) (by kernel_rfl) ?_
      refine a_seq ?_
      refine a_region (.cons (o_move rfl) <| .cons (o_assign rfl) <| .nil _) (by kernel_rfl) (by kernel_rfl) ?_
      refine a_region (.cons (o_move rfl) <| .cons (o_move rfl) <| .cons (o_int rfl rfl rfl) <| .cons (o_assign rfl) <| .nil _) (by kernel_rfl) (by kernel_rfl) ?_
      obtain rfl := Option.some.inj hM
      exact ⟨(v34, a29, (IntKind.wrap .i64 (a29 + 20))), rfl, (Imp.of (fun i => i) (.cons rfl (DLe.refl _) (.cons rfl (DLe.refl _) (.cons rfl (DLe.refl _) (.cons rfl (DLe.refl _) (.cons rfl (DLe.refl _) (.cons rfl (DLe.refl _) .nil)))))) (.cons rfl (.refl _) .nil) rfl rfl rfl)⟩
    · replace hM := (of_if hM).2 h32
      refine a_exit ?_
      obtain rfl := Option.some.inj hM
      obtain rfl := hE30 _ rfl
      exact ⟨(a27, a28), hK30, (Imp.of (fun i => i) (.cons rfl (DLe.refl _) (.cons rfl (DLe.refl _) (.cons rfl (DLe.refl _) (.cons rfl (DLe.refl _) (.cons rfl (DLe.refl _) .nil))))) (.cons rfl (.refl _) .nil) rfl rfl rfl)⟩
  · rintro ⟨a1, a2⟩ hM
    replace hM : slices_stableCmpFunc_record_Record_a_K3 x1 a1 a2 = some r := hM
    unfold slices_stableCmpFunc_record_Record_a_K3 at hM
    refine a_seq ?_
    obtain ⟨v5, h4, hM⟩ := of_bind hM
    refine a_region (.cons (o_move rfl) <| .cons (o_move rfl) <| .cons (o_move rfl) <| .cons (o_move rfl) <| .cons (o_callN (fun i => bif Nat.beq i 100000 then 100000 else i) 1 (slices_insertionSortCmpFunc_record_Record_a_c h4) rfl (DLeL.refl _) (.cons rfl .nil) rfl .nil) <| .nil _) (by kernel_rfl) (by kernel_rfl) ?_
    refine a_tail (α := (List record_Record)) (fun s => ⟨[], [(100000, some (.row 52 29 (List.map record_Record.dv s)))], [100000]⟩) (fun s => slices_stableCmpFunc_record_Record_a_K7 s = some r) ?_ ?_
    · obtain ⟨e10, hL10, hK10⟩ := of_bind hM
      refine a_block ?_
      refine a_while (fun s : (List record_Record) × Int => ⟨[(0, .row 100000), (1, .int .i64 x1), (2, .val (.func (.func 157) #[] #[])), (6, .int .i64 s.2)], [(100000, some (.row 52 29 (List.map record_Record.dv s.1)))], [100000]⟩) _ hL10 (Imp.of (fun i => i) (.cons rfl (DLe.refl _) (.cons rfl (DLe.refl _) (.cons rfl (DLe.refl _) (.cons rfl (DLe.refl _) .nil)))) (.cons rfl (.refl _) .nil) rfl rfl rfl) ?_
      rintro ⟨a8, a9⟩ t11 hM hE10
      replace hM : slices_stableCmpFunc_record_Record_a_L10 x1 a8 a9 = some t11 := hM
      unfold slices_stableCmpFunc_record_Record_a_L10 at hM
      refine a_seq ?_
      refine a_seq ?_
      refine a_region (.cons (o_move rfl) <| .cons (o_move rfl) <| .cons (o_int rfl rfl rfl) <| .nil _) (by kernel_rfl) (by kernel_rfl) ?_
      refine a_cond _ rfl (fun h12 => ?_) (fun h12 => ?_)
      · replace hM := (of_if hM).1 h12
        refine a_skip ?_
        refine a_block ?_
        refine a_seq ?_
        refine a_region (.cons (o_move rfl) <| .cons (o_int rfl rfl rfl) <| .cons (o_assign rfl) <| .cons (o_assign rfl) <| .nil _) (by kernel_rfl) (by kernel_rfl) ?_
        refine a_cut (α := (List record_Record) × Int) (fun s => ⟨[(0, .row 100000), (1, .int .i64 x1), (2, .val (.func (.func 157) #[] #[])), (6, .int .i64 a9), (7, .int .i64 s.2)], [(100000, some (.row 52 29 (List.map record_Record.dv s.1)))], [100000]⟩) (fun s => slices_stableCmpFunc_record_Record_a_K15 x1 a9 s.1 s.2 = some t11) ?_ ?_
        · obtain ⟨e22, hL22, hK22⟩ := of_bind hM
          refine a_block ?_
          refine a_while (fun s : (List record_Record) × Int × Int => ⟨[(0, .row 100000), (1, .int .i64 x1), (2, .val (.func (.func 157) #[] #[])), (6, .int .i64 a9), (7, .int .i64 s.2.1), (8, .int .i64 s.2.2)], [(100000, some (.row 52 29 (List.map record_Record.dv s.1)))], [100000]⟩) _ hL22 (Imp.of (fun i => i) (.cons rfl (DLe.refl _) (.cons rfl (DLe.refl _) (.cons rfl (DLe.refl _) (.cons rfl (DLe.refl _) (.cons rfl (DLe.refl _) (.cons rfl (DLe.refl _) .nil)))))) (.cons rfl (.refl _) .nil) rfl rfl rfl) ?_
          rintro ⟨a19, a20, a21⟩ t23 hM hE22
          replace hM : slices_stableCmpFunc_record_Record_a_L22 x1 a9 a19 a20 a21 = some t23 := hM
          unfold slices_stableCmpFunc_record_Record_a_L22 at hM
          refine a_seq ?_
          refine a_seq ?_
          refine a_region (.cons (o_move rfl) <| .cons (o_move rfl) <| .cons (o_int rfl rfl rfl) <| .nil _) (by kernel_rfl) (by kernel_rfl) ?_
          refine a_cond _ rfl (fun h24 => ?_) (fun h24 => ?_)
          · replace hM := (of_if hM).1 h24
            refine a_skip ?_
            refine a_block ?_
            refine a_seq ?_
            obtain ⟨v26, h25, hM⟩ := of_bind hM
            refine a_region (.cons (o_move rfl) <| .cons (o_move rfl) <| .cons (o_move rfl) <| .cons (o_move rfl) <| .cons (o_int rfl rfl rfl) <| .cons (o_move rfl) <| .cons (o_move rfl) <| .cons (o_callN (fun i => bif Nat.beq i 100000 then 100000 else i) 1 (slices_symMergeCmpFunc_record_Record_a_c 64 h25) rfl (DLeL.refl _) (.cons rfl .nil) rfl .nil) <| .nil _) (by kernel_rfl) (by kernel_rfl) ?_
            refine a_seq ?_
            refine a_region (.cons (o_move rfl) <| .cons (o_assign rfl) <| .nil _) (by kernel_rfl) (by kernel_rfl) ?_
            refine a_region (.cons (o_move rfl) <| .cons (o_move rfl) <| .cons (o_int rfl rfl rfl) <| .cons (o_int rfl rfl rfl) <| .cons (o_assign rfl) <| .nil _) (by kernel_rfl) (by kernel_rfl) ?_
            obtain rfl := Option.some.inj hM
            exact ⟨(v26, a21, (IntKind.wrap .i64 (a21 + (IntKind.wrap .i64 (2 * a9))))), rfl, (Imp.of (fun i => i) (.cons rfl (DLe.refl _) (.cons rfl (DLe.refl _) (.cons rfl (DLe.refl _) (.cons rfl (DLe.refl _) (.cons rfl (DLe.refl _) (.cons rfl (DLe.refl _) .nil)))))) (.cons rfl (.refl _) .nil) rfl rfl rfl)⟩
          · replace hM := (of_if hM).2 h24
            refine a_exit ?_
            obtain rfl := Option.some.inj hM
            obtain rfl := hE22 _ rfl
            exact ⟨(a19, a20), hK22, (Imp.of (fun i => i) (.cons rfl (DLe.refl _) (.cons rfl (DLe.refl _) (.cons rfl (DLe.refl _) (.cons rfl (DLe.refl _) (.cons rfl (DLe.refl _) .nil))))) (.cons rfl (.refl _) .nil) rfl rfl rfl)⟩
        · rintro ⟨a13, a14⟩ hM
          replace hM : slices_stableCmpFunc_record_Record_a_K15 x1 a9 a13 a14 = some t11 := hM
          unfold slices_stableCmpFunc_record_Record_a_K15 at hM
          refine a_seq ?_
          refine a_seq ?_
          refine a_region (.cons (o_move rfl) <| .cons (o_move rfl) <| .cons (o_int rfl rfl rfl) <| .cons (o_assign rfl) <| .nil _) (by kernel_rfl) (by kernel_rfl) ?_
          refine a_seq ?_
          refine a_region (.cons (o_move rfl) <| .cons (o_move rfl) <| .cons (o_int rfl rfl rfl) <| .nil _) (by kernel_rfl) (by kernel_rfl) ?_
          refine a_cond _ rfl (fun h16 => ?_) (fun h16 => ?_)
          · replace hM := (of_if hM).1 h16
            obtain ⟨v18, h17, hM⟩ := of_bind hM
            refine a_region (.cons (o_move rfl) <| .cons (o_move rfl) <| .cons (o_move rfl) <| .cons (o_move rfl) <| .cons (o_move rfl) <| .cons (o_callN (fun i => bif Nat.beq i 100000 then 100000 else i) 1 (slices_symMergeCmpFunc_record_Record_a_c 64 h17) rfl (DLeL.refl _) (.cons rfl .nil) rfl .nil) <| .nil _) (by kernel_rfl) (by kernel_rfl) ?_
            refine a_region (.cons (o_move rfl) <| .cons (o_int rfl rfl rfl) <| .cons (o_assign rfl) <| .nil _) (by kernel_rfl) (by kernel_rfl) ?_
            obtain rfl := Option.some.inj hM
            exact ⟨(v18, (IntKind.wrap .i64 (a9 * 2))), rfl, (Imp.of (fun i => i) (.cons rfl (DLe.refl _) (.cons rfl (DLe.refl _) (.cons rfl (DLe.refl _) (.cons rfl (DLe.refl _) .nil)))) (.cons rfl (.refl _) .nil) rfl rfl rfl)⟩
          · replace hM := (of_if hM).2 h16
            refine a_skip ?_
            refine a_region (.cons (o_move rfl) <| .cons (o_int rfl rfl rfl) <| .cons (o_assign rfl) <| .nil _) (by kernel_rfl) (by kernel_rfl) ?_
            obtain rfl := Option.some.inj hM
            exact ⟨(a13, (IntKind.wrap .i64 (a9 * 2))), rfl, (Imp.of (fun i => i) (.cons rfl (DLe.refl _) (.cons rfl (DLe.refl _) (.cons rfl (DLe.refl _) (.cons rfl (DLe.refl _) .nil)))) (.cons rfl (.refl _) .nil) rfl rfl rfl)⟩
      · replace hM := (of_if hM).2 h12
        refine a_exit ?_
        obtain rfl := Option.some.inj hM
        obtain rfl := hE10 _ rfl
        exact ⟨a8, hK10, (Imp.of (fun i => i) .nil (.cons rfl (.refl _) .nil) rfl rfl rfl)⟩
    · rintro a6 hM
      replace hM : slices_stableCmpFunc_record_Record_a_K7 a6 = some r := hM
      unfold slices_stableCmpFunc_record_Record_a_K7 at hM
      obtain rfl := Option.some.inj hM
      refine n_imp (σ' := ⟨[], [(100000, some (.row 52 29 (List.map record_Record.dv a6)))], [100000]⟩) (Imp.of (fun i => i) .nil (.cons rfl (.refl _) .nil) rfl rfl rfl) ?_
      exact n_done (a_postN (.r0 ) (DLe.refl _) (PostOk.spec (.cons rfl .nil)))

def slices_SortStableFunc_record_Record_record_Record_a (o0 : List record_Record) : Option (List record_Record) :=
  (slices_stableCmpFunc_record_Record_a (List.length o0 : Int) o0).bind fun v2 =>
  some v2
theorem slices_SortStableFunc_record_Record_record_Record_a_c {o0 : List record_Record} {r : (List record_Record)} (hM : slices_SortStableFunc_record_Record_record_Record_a o0 = some r) : ACall Tryz.prog 156 ⟨[.row 100000, .val (.func (.func 157) #[] #[])], [(100000, some (.row 52 29 (List.map record_Record.dv o0)))], .tup [], [(100000, some (.row 52 29 (List.map record_Record.dv r)))], []⟩ := by
  unfold slices_SortStableFunc_record_Record_record_Record_a at hM
  refine ACall.body Tryz.func156 Tryz.ntmps156 rfl rfl rfl rfl ?_
  refine a_end ?_
  obtain ⟨v2, h1, hM⟩ := of_bind hM
  refine a_region (.cons (o_move rfl) <| .cons (o_move rfl) <| .cons (t_len_r rfl rfl) <| .cons (o_move rfl) <| .cons (o_callN (fun i => bif Nat.beq i 100000 then 100000 else i) 1 (slices_stableCmpFunc_record_Record_a_c h1) rfl (DLeL.refl _) (.cons rfl .nil) rfl .nil) <| .nil _) (by kernel_rfl) (by kernel_rfl) ?_
  obtain rfl := Option.some.inj hM
  refine n_imp (σ' := ⟨[], [(100000, some (.row 52 29 (List.map record_Record.dv v2)))], [100000]⟩) (Imp.of (fun i => i) .nil (.cons rfl (.refl _) .nil) rfl rfl rfl) ?_
  exact n_done (a_postN (.r0 ) (DLe.refl _) (PostOk.spec (.cons rfl .nil)))

def collect_mergeEntries_K7 (a5 : List record_Record) (a6 : Int) : Option ((List record_Record) × Bool) :=
  chk (slOk (List.length a5) 0 a6) <|
  some ((List.take (Int.toNat a6) a5), true)
def collect_mergeEntries_L12 (k9 : Nat) (a10 : List record_Record) (a11 : Int) : Option (Ctl ((List record_Record) × Int) ((List record_Record) × Bool)) :=
  (idx a10 (k9 : Int)).bind fun v16 =>
  (gb (decide (0 < (k9 : Int))) (record_Record.mk 0 0 (vclock_Clock.mk (arr 0 [])) 0 (api_Event.mk 0 0 0 0 0 0 0 0 []) 0) (idx a10 (IntKind.wrap .i64 (a11 - 1)))).bind fun v18 =>
  if ((decide (0 < (k9 : Int))) && (v18.gSeq == v16.gSeq)) = true then
    (idx a10 (IntKind.wrap .i64 (a11 - 1))).bind fun v21 =>
    (record_Equal v21 v16).bind fun v23 =>
    if (!v23) = true then
      some (.done (([] : List record_Record), false))
    else
      some (.next (a10, a11))
  else
    (idx a10 a11).bind fun v26 =>
    some (.next ((List.set a10 (Int.toNat a11) v16), (IntKind.wrap .i64 (a11 + 1))))
def collect_mergeEntries (x0 : List record_Record) (x1 : List record_Record) : Option ((List record_Record) × Bool) :=
  (slices_Concat_record_Record_record_Record [x0, x1]).bind fun v2 =>
  (slices_SortStableFunc_record_Record_record_Record_a v2).bind fun v4 =>
  (forM' (E := (List record_Record) × Bool) 9223372036854775807 (List.length v4 : Int) (fun k9 s => collect_mergeEntries_L12 k9 s.1 s.2) (v4, 0)).bind fun
    | .next s => collect_mergeEntries_K7 s.1 s.2
    | .done r => some r
theorem collect_mergeEntries_c {x0 : List record_Record} {x1 : List record_Record} {r : (List record_Record) × Bool} (hM : collect_mergeEntries x0 x1 = some r) : PCall Tryz.prog 121 [.sl 29 (List.map record_Record.dv x0), .sl 29 (List.map record_Record.dv x1)] (.tup [.sl 29 (List.map record_Record.dv r.1), .bool r.2]) := by
  unfold collect_mergeEntries at hM
  refine PCall.body Tryz.func121 Tryz.ntmps121 rfl rfl rfl rfl ?_
  refine a_seq ?_
  refine a_region (.cons (o_assign rfl) <| .cons (o_assign rfl) <| .nil _) (by kernel_rfl) (by kernel_rfl) ?_
  refine a_seq ?_
  obtain ⟨v2, h1, hM⟩ := of_bind hM
  refine a_region (.cons (o_move rfl) <| .cons (o_move rfl) <| .cons (o_frz (t_build (encSl 29 record_Record.dv) ([x0, x1] : List (List record_Record)) rfl rfl rfl rfl rfl rfl rfl)) <| .cons (o_callN (fun i => bif Nat.beq i 50000 then 10001 else i) 1 (slices_Concat_record_Record_record_Record_c h1) rfl (DLeL.refl _) .nil rfl .nil) <| .cons (o_assign rfl) <| .nil _) (by kernel_rfl) (by kernel_rfl) ?_
  refine a_seq ?_
  obtain ⟨v4, h3, hM⟩ := of_bind hM
  refine a_region (.cons (o_move rfl) <| .cons (o_callN (fun i => bif Nat.beq i 100000 then 10001 else i) 1 (slices_SortStableFunc_record_Record_record_Record_a_c h3) rfl (DLeL.refl _) (.cons rfl .nil) rfl .nil) <| .nil _) (by kernel_rfl) (by kernel_rfl) ?_
  refine a_seq ?_
  refine a_region (.cons (o_assign rfl) <| .nil _) (by kernel_rfl) (by kernel_rfl) ?_
  refine a_cut (α := (List record_Record) × Int) (fun s => ⟨[(6, .sl 29 (List.map record_Record.dv s.1)), (7, .int .i64 s.2)], [], []⟩) (fun s => collect_mergeEntries_K7 s.1 s.2 = some r) ?_ ?_
  · refine a_seq ?_
    refine a_region (.cons (o_move rfl) <| .cons (t_len_r rfl rfl) <| .cons (o_move rfl) <| .nil _) (by kernel_rfl) (by kernel_rfl) ?_
    obtain ⟨t12, hL12, hK12⟩ := of_bind hM
    refine a_block ?_
    refine a_for (fun k9 (s : (List record_Record) × Int) => ⟨[(6, .row 10002), (7, .int .i64 s.2), (16, .row 10002), (17, .int .i64 (List.length v4 : Int)), (18, .int .i64 (k9 : Int))], [(10002, some (.row 52 29 (List.map record_Record.dv s.1)))], [10002]⟩) _ hL12 (Imp.of (fun i => bif Nat.beq i 10002 then 10001 else i) (.cons rfl (DLe.refl _) (.cons rfl (DLe.refl _) (.cons rfl (DLe.refl _) (.cons rfl (DLe.refl _) (.cons rfl (DLe.refl _) .nil))))) (.cons rfl (.refl _) .nil) rfl rfl rfl) ?_ ?_
    · rintro k9 ⟨a10, a11⟩ t13 hk9 hx9 hM hE12
      replace hM : collect_mergeEntries_L12 k9 a10 a11 = some t13 := hM
      unfold collect_mergeEntries_L12 at hM
      refine a_seq ?_
      refine a_region (.cons (o_int rfl rfl rfl) <| .nil _) (by kernel_rfl) (by kernel_rfl) ?_
      refine a_seq ?_
      refine a_cond _ rfl (fun _ => ?_) (fun c => absurd hk9 (of_decide_eq_false c))
      refine a_skip ?_
      refine a_seq ?_
      refine a_block ?_
      refine a_seq ?_
      obtain ⟨v16, h15, hM⟩ := of_bind hM
      refine a_region (.cons (o_move rfl) <| .cons (t_index_r h15 rfl rfl rfl) <| .cons (t_load_pr h15 rfl rfl rfl rfl rfl) <| .cons (o_alloc rfl) <| .cons (o_assign rfl) <| .cons (o_store rfl rfl rfl rfl rfl rfl rfl) <| .nil _) (by kernel_rfl) (by kernel_rfl) ?_
      refine a_seq ?_
      refine a_seq ?_
      obtain ⟨v18, h17, hM⟩ := of_bind hM
      refine a_draw mixed (.cons (o_move rfl) <| .cons (o_int rfl rfl rfl) <| .cons (o_move rfl) <| .cons (o_guardG .bT rfl rfl (fun hb => (.keep .nil)) (fun hb => o_move rfl)) <| .cons (o_guardG .bT rfl rfl (fun hb => (.keep .nil)) (fun hb => o_move rfl)) <| .cons (o_guardG .bT rfl rfl (fun hb => (.strip rfl hb .nil)) (fun hb => o_int rfl rfl rfl)) <| .cons (o_guardG .bT rfl rfl (fun hb => (.strip rfl hb (.strip rfl hb .nil))) (fun hb => t_index_r (of_gb h17 hb) rfl rfl rfl)) <| .cons (o_guardG .bT rfl rfl (fun hb => (.strip rfl hb .nil)) (fun hb => o_fieldAddr_p rfl)) <| .cons (o_guardG .bT rfl rfl (fun hb => (.strip rfl hb .nil)) (fun hb => t_load_ps (of_gb h17 hb) rfl rfl rfl rfl)) <| .cons (o_guardG .bT rfl rfl (fun hb => (.keep .nil)) (fun hb => o_fieldAddr rfl)) <| .cons (o_guardG .bT rfl rfl (fun hb => (.strip rfl hb .nil)) (fun hb => o_load_s rfl rfl rfl)) <| .cons (o_guardG .bT rfl rfl (fun hb => (.strip rfl hb (.strip rfl hb .nil))) (fun hb => o_int rfl rfl rfl)) <| .cons (o_and rfl rfl) <| .nil _) (by kernel_rfl) (by kernel_rfl) (by kernel_rfl) ?_
      refine a_cond _ rfl (fun h19 => ?_) (fun h19 => ?_)
      · replace hM := (of_if hM).1 h19
        refine a_seq ?_
        refine a_seq ?_
        obtain ⟨v21, h20, hM⟩ := of_bind hM
        obtain ⟨v23, h22, hM⟩ := of_bind hM
        refine a_draw mixed (.cons (o_move rfl) <| .cons (o_move rfl) <| .cons (o_int rfl rfl rfl) <| .cons (t_index_r h20 rfl rfl rfl) <| .cons (t_load_pr h20 rfl rfl rfl rfl rfl) <| .cons (o_load_r rfl rfl rfl rfl) <| .cons (o_call (record_Equal_c h22) rfl (DLeL.refl _) rfl) <| .cons (o_not rfl) <| .nil _) (by kernel_rfl) (by kernel_rfl) (by kernel_rfl) ?_
        refine a_cond _ rfl (fun h24 => ?_) (fun h24 => ?_)
        · replace hM := (of_if hM).1 h24
          refine a_seq ?_
          refine a_region (.cons (o_assign rfl) <| .cons (o_assign rfl) <| .nil _) (by kernel_rfl) (by kernel_rfl) ?_
          obtain rfl := Option.some.inj hM
          obtain rfl := hE12 _ rfl
          obtain rfl := Option.some.inj hK12
          exact a_ret (a_post (.r2 (.tmp rfl) (.tmp rfl)) (DLe.tup (.cons (DLe.nils _) (.cons (DLe.refl _) .nil))) PostOk.nil.spec)
        · replace hM := (of_if hM).2 h24
          refine a_skip ?_
          refine a_exit ?_
          refine a_region (.cons (o_add rfl rfl (inR_i64 hk9 hx9)) <| .cons (o_move rfl) <| .nil _) (by kernel_rfl) (by kernel_rfl) ?_
          obtain rfl := Option.some.inj hM
          exact ⟨(a10, a11), rfl, (Imp.of (fun i => i) (.cons rfl (DLe.refl _) (.cons rfl (DLe.refl _) (.cons rfl (DLe.refl _) (.cons rfl (DLe.refl _) (.cons rfl (DLe.succ _ _) .nil))))) (.cons rfl (.refl _) .nil) rfl rfl rfl)⟩
      · replace hM := (of_if hM).2 h19
        refine a_skip ?_
        refine a_seq ?_
        obtain ⟨v26, h25, hM⟩ := of_bind hM
        refine a_region (.cons (o_move rfl) <| .cons (o_move rfl) <| .cons (o_load_r rfl rfl rfl rfl) <| .cons (t_index_r h25 rfl rfl rfl) <| .cons (t_store_p v16 h25 rfl rfl rfl rfl rfl rfl rfl rfl rfl rfl rfl) <| .nil _) (by kernel_rfl) (by kernel_rfl) ?_
        refine a_region (.cons (o_move rfl) <| .cons (o_int rfl rfl rfl) <| .cons (o_assign rfl) <| .nil _) (by kernel_rfl) (by kernel_rfl) ?_
        refine a_region (.cons (o_add rfl rfl (inR_i64 hk9 hx9)) <| .cons (o_move rfl) <| .nil _) (by kernel_rfl) (by kernel_rfl) ?_
        obtain rfl := Option.some.inj hM
        exact ⟨((List.set a10 (Int.toNat a11) v16), (IntKind.wrap .i64 (a11 + 1))), rfl, (Imp.of (fun i => i) (.cons rfl (DLe.refl _) (.cons rfl (DLe.refl _) (.cons rfl (DLe.refl _) (.cons rfl (DLe.refl _) (.cons rfl (DLe.succ _ _) .nil))))) (.cons rfl (.refl _) .nil) rfl rfl rfl)⟩
    · rintro k9 ⟨a10, a11⟩ hk9 hx9 rfl
      refine a_seq ?_
      refine a_region (.cons (o_int rfl rfl rfl) <| .nil _) (by kernel_rfl) (by kernel_rfl) ?_
      refine a_seq ?_
      refine a_cond _ rfl (fun c => absurd (of_decide_eq_true c) (Int.not_lt.2 hk9)) (fun _ => ?_)
      refine a_exit ?_
      exact ⟨(a10, a11), hK12, ((Imp.freeze (id := 10002) rfl).trans (Imp.of (fun i => i) (.cons rfl (DLe.refl _) (.cons rfl (DLe.refl _) .nil)) .nil rfl rfl rfl))⟩
  · rintro ⟨a5, a6⟩ hM
    replace hM : collect_mergeEntries_K7 a5 a6 = some r := hM
    unfold collect_mergeEntries_K7 at hM
    refine a_seq ?_
    obtain ⟨h8, hM⟩ := of_chk hM
    refine a_region (.cons (o_move rfl) <| .cons (o_move rfl) <| .cons (t_slice_h h8 rfl rfl) <| .cons (o_assign rfl) <| .cons (o_assign rfl) <| .nil _) (by kernel_rfl) (by kernel_rfl) ?_
    obtain rfl := Option.some.inj hM
    exact a_ret (a_post (.r2 (.tmp rfl) (.tmp rfl)) (DLe.refl _) PostOk.nil.spec)

end Go.Proofs.YtepkcbalmjnhpaaGreat
