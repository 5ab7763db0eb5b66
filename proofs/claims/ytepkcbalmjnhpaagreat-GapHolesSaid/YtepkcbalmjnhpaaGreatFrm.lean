/-
  Models of functions and the proofs that the code computes them, printed by gm2.py.
-/
import Derived.Test.YtepkcbalmjnhpaaGreatEngY
import Derived.Test.YtepkcbalmjnhpaaGreatGTy
set_option maxRecDepth 100000
set_option maxHeartbeats 4000000
set_option linter.unusedVariables false
set_option linter.unusedSimpArgs false
namespace Go.Proofs.YtepkcbalmjnhpaaGreat
open Go.RowKit
def frame_update_K2 (a1 : Int) : Option Int :=
  some a1
def frame_update_K9 (a8 : Int) : Option Int :=
  some a8
def frame_update_L14 (k12 : Nat) (a13 : Int) : Option Int :=
  if ((bitI .and .u32 a13 1) == 1) = true then
    some (bitI .xor .u32 (Int.fdiv a13 (2 ^ min (Int.toNat 1) (IntKind.bits .u32))) 2197175160)
  else
    some (Int.fdiv a13 (2 ^ min (Int.toNat 1) (IntKind.bits .u32)))
def frame_update_L5 (x1 : List Int) (k3 : Nat) (a4 : Int) : Option Int :=
  (idx x1 (k3 : Int)).bind fun v11 =>
  (foldM' 9223372036854775807 8 (fun k12 s => frame_update_L14 k12 s) (bitI .xor .u32 a4 (IntKind.wrap .u32 v11))).bind fun s => frame_update_K9 s
def frame_update (x0 : Int) (x1 : List Int) : Option Int :=
  (foldM' 9223372036854775807 (List.length x1 : Int) (fun k3 s => frame_update_L5 x1 k3 s) x0).bind fun s => frame_update_K2 s
theorem frame_update_c {x0 : Int} {x1 : List Int} {r : Int} (hM : frame_update x0 x1 = some r) : PCall Tryz.prog 146 [.int .u32 x0, .sl 1 (List.map (DV.int .u8) x1)] (.int .u32 r) := by
  unfold frame_update at hM
  refine PCall.body Tryz.func146 Tryz.ntmps146 rfl rfl rfl rfl ?_
  refine a_seq ?_
  refine a_region (.cons (o_assign rfl) <| .nil _) (by kernel_rfl) (by kernel_rfl) ?_
  refine a_cut (α := Int) (fun s => ⟨[(0, .int .u32 s)], [], []⟩) (fun s => frame_update_K2 s = some r) ?_ ?_
  · refine a_seq ?_
    refine a_region (.cons (o_move rfl) <| .cons (t_len rfl) <| .cons (o_move rfl) <| .nil _) (by kernel_rfl) (by kernel_rfl) ?_
    obtain ⟨a4, hL5, hK5⟩ := of_bind hM
    refine a_block ?_
    refine a_fold (fun k3 (s : Int) => ⟨[(0, .int .u32 s), (8, .sl 1 (List.map (DV.int .u8) x1)), (9, .int .i64 (List.length x1 : Int)), (10, .int .i64 (k3 : Int))], [], []⟩) _ hL5 (Imp.of (fun i => i) (.cons rfl (DLe.refl _) (.cons rfl (DLe.refl _) (.cons rfl (DLe.refl _) (.cons rfl (DLe.refl _) .nil)))) .nil rfl rfl rfl) ?_ ?_
    · rintro k3 a4 t6 hk3 hx3 hM
      replace hM : frame_update_L5 x1 k3 a4 = some t6 := hM
      unfold frame_update_L5 at hM
      refine a_seq ?_
      refine a_region (.cons (o_int rfl rfl rfl) <| .nil _) (by kernel_rfl) (by kernel_rfl) ?_
      refine a_seq ?_
      refine a_cond _ rfl (fun _ => ?_) (fun c => absurd hk3 (of_decide_eq_false c))
      refine a_skip ?_
      refine a_cut (α := Int) (fun s => ⟨[(0, .int .u32 s), (8, .sl 1 (List.map (DV.int .u8) x1)), (9, .int .i64 (List.length x1 : Int)), (10, .int .i64 (k3 : Int))], [], []⟩) (fun s => frame_update_K9 s = some t6) ?_ ?_
      · refine a_block ?_
        refine a_seq ?_
        obtain ⟨v11, h10, hM⟩ := of_bind hM
        refine a_region (.cons (t_index h10 rfl rfl rfl) <| .cons (o_load_es rfl rfl) <| .cons (o_assign rfl) <| .nil _) (by kernel_rfl) (by kernel_rfl) ?_
        refine a_seq ?_
        refine a_region (.cons (o_move rfl) <| .cons (o_move rfl) <| .cons (o_conv_w rfl) <| .cons (o_int rfl rfl rfl) <| .cons (o_assign rfl) <| .nil _) (by kernel_rfl) (by kernel_rfl) ?_
        refine a_seq ?_
        refine a_region (.cons (o_move rfl) <| .nil _) (by kernel_rfl) (by kernel_rfl) ?_
        obtain ⟨a13, hL14, hK14⟩ := of_bind hM
        refine a_block ?_
        refine a_fold (fun k12 (s : Int) => ⟨[(0, .int .u32 s), (8, .sl 1 (List.map (DV.int .u8) x1)), (9, .int .i64 (List.length x1 : Int)), (10, .int .i64 (k3 : Int)), (18, .int .i64 (k12 : Int))], [], []⟩) _ hL14 (Imp.of (fun i => i) (.cons rfl (DLe.refl _) (.cons rfl (DLe.refl _) (.cons rfl (DLe.refl _) (.cons rfl (DLe.refl _) (.cons rfl (DLe.refl _) .nil))))) .nil rfl rfl rfl) ?_ ?_
        · rintro k12 a13 t15 hk12 hx12 hM
          replace hM : frame_update_L14 k12 a13 = some t15 := hM
          unfold frame_update_L14 at hM
          refine a_seq ?_
          refine a_region (.cons (o_int rfl rfl rfl) <| .nil _) (by kernel_rfl) (by kernel_rfl) ?_
          refine a_seq ?_
          refine a_cond _ rfl (fun _ => ?_) (fun c => absurd hk12 (of_decide_eq_false c))
          refine a_skip ?_
          refine a_seq ?_
          refine a_block ?_
          refine a_seq ?_
          refine a_region (.cons (o_move rfl) <| .cons (o_int rfl rfl rfl) <| .cons (o_assign rfl) <| .nil _) (by kernel_rfl) (by kernel_rfl) ?_
          refine a_seq ?_
          refine a_region (.cons (o_move rfl) <| .cons (o_shr rfl rfl (by decide)) <| .cons (o_assign rfl) <| .nil _) (by kernel_rfl) (by kernel_rfl) ?_
          refine a_seq ?_
          refine a_region (.cons (o_move rfl) <| .cons (o_int rfl rfl rfl) <| .nil _) (by kernel_rfl) (by kernel_rfl) ?_
          refine a_cond _ rfl (fun h17 => ?_) (fun h17 => ?_)
          · replace hM := (of_if hM).1 h17
            refine a_region (.cons (o_move rfl) <| .cons (o_int rfl rfl rfl) <| .cons (o_assign rfl) <| .nil _) (by kernel_rfl) (by kernel_rfl) ?_
            refine a_region (.cons (o_add rfl rfl (inR_i64 hk12 hx12)) <| .cons (o_move rfl) <| .nil _) (by kernel_rfl) (by kernel_rfl) ?_
            obtain rfl := Option.some.inj hM
            exact (Imp.of (fun i => i) (.cons rfl (DLe.refl _) (.cons rfl (DLe.refl _) (.cons rfl (DLe.refl _) (.cons rfl (DLe.refl _) (.cons rfl (DLe.succ _ _) .nil))))) .nil rfl rfl rfl)
          · replace hM := (of_if hM).2 h17
            refine a_skip ?_
            refine a_region (.cons (o_add rfl rfl (inR_i64 hk12 hx12)) <| .cons (o_move rfl) <| .nil _) (by kernel_rfl) (by kernel_rfl) ?_
            obtain rfl := Option.some.inj hM
            exact (Imp.of (fun i => i) (.cons rfl (DLe.refl _) (.cons rfl (DLe.refl _) (.cons rfl (DLe.refl _) (.cons rfl (DLe.refl _) (.cons rfl (DLe.succ _ _) .nil))))) .nil rfl rfl rfl)
        · rintro k12 hk12 hx12
          refine a_seq ?_
          refine a_region (.cons (o_int rfl rfl rfl) <| .nil _) (by kernel_rfl) (by kernel_rfl) ?_
          refine a_seq ?_
          refine a_cond _ rfl (fun c => absurd (of_decide_eq_true c) (Int.not_lt.2 hk12)) (fun _ => ?_)
          refine a_exit ?_
          exact ⟨a13, hK14, (Imp.of (fun i => i) (.cons rfl (DLe.refl _) (.cons rfl (DLe.refl _) (.cons rfl (DLe.refl _) (.cons rfl (DLe.refl _) .nil)))) .nil rfl rfl rfl)⟩
      · rintro a8 hM
        replace hM : frame_update_K9 a8 = some t6 := hM
        unfold frame_update_K9 at hM
        refine a_region (.cons (o_add rfl rfl (inR_i64 hk3 hx3)) <| .cons (o_move rfl) <| .nil _) (by kernel_rfl) (by kernel_rfl) ?_
        obtain rfl := Option.some.inj hM
        exact (Imp.of (fun i => i) (.cons rfl (DLe.refl _) (.cons rfl (DLe.refl _) (.cons rfl (DLe.refl _) (.cons rfl (DLe.succ _ _) .nil)))) .nil rfl rfl rfl)
    · rintro k3 hk3 hx3
      refine a_seq ?_
      refine a_region (.cons (o_int rfl rfl rfl) <| .nil _) (by kernel_rfl) (by kernel_rfl) ?_
      refine a_seq ?_
      refine a_cond _ rfl (fun c => absurd (of_decide_eq_true c) (Int.not_lt.2 hk3)) (fun _ => ?_)
      refine a_exit ?_
      exact ⟨a4, hK5, (Imp.of (fun i => i) (.cons rfl (DLe.refl _) .nil) .nil rfl rfl rfl)⟩
  · rintro a1 hM
    replace hM : frame_update_K2 a1 = some r := hM
    unfold frame_update_K2 at hM
    refine a_seq ?_
    refine a_region (.cons (o_move rfl) <| .cons (o_assign rfl) <| .nil _) (by kernel_rfl) (by kernel_rfl) ?_
    obtain rfl := Option.some.inj hM
    exact a_ret (a_post (.r1 (.tmp rfl)) (DLe.refl _) PostOk.nil.spec)

def frame_checksum (x0 : List Int) (x1 : List Int) : Option Int :=
  (frame_update 4294967295 x0).bind fun v2 =>
  (frame_update v2 x1).bind fun v4 =>
  some (bitI .xor .u32 (if IntKind.signed .u32 = true then -1 else IntKind.max .u32) v4)
theorem frame_checksum_c {x0 : List Int} {x1 : List Int} {r : Int} (hM : frame_checksum x0 x1 = some r) : PCall Tryz.prog 109 [.sl 1 (List.map (DV.int .u8) x0), .sl 1 (List.map (DV.int .u8) x1)] (.int .u32 r) := by
  unfold frame_checksum at hM
  refine PCall.body Tryz.func109 Tryz.ntmps109 rfl rfl rfl rfl ?_
  refine a_seq ?_
  refine a_region (.cons (o_assign rfl) <| .nil _) (by kernel_rfl) (by kernel_rfl) ?_
  refine a_seq ?_
  obtain ⟨v2, h1, hM⟩ := of_bind hM
  obtain ⟨v4, h3, hM⟩ := of_bind hM
  refine a_region (.cons (o_move rfl) <| .cons (o_call (frame_update_c h1) rfl (DLeL.refl _) rfl) <| .cons (o_move rfl) <| .cons (o_call (frame_update_c h3) rfl (DLeL.refl _) rfl) <| .cons (o_xor rfl) <| .cons (o_assign rfl) <| .nil _) (by kernel_rfl) (by kernel_rfl) ?_
  obtain rfl := Option.some.inj hM
  exact a_ret (a_post (.r1 (.tmp rfl)) (DLe.refl _) PostOk.nil.spec)

def frame_stands (x0 : List Int) : Option (Int × Bool) :=
  (gb (!(decide ((List.length x0 : Int) < 8))) 0 (idx x0 0)).bind fun v2 =>
  (gb (!((decide ((List.length x0 : Int) < 8)) || (v2 != 165))) 0 (idx x0 1)).bind fun v4 =>
  if (((decide ((List.length x0 : Int) < 8)) || (v2 != 165)) || (v4 != 90)) = true then
    some (0, false)
  else
    (idx x0 2).bind fun v7 =>
    (idx x0 3).bind fun v9 =>
    if ((decide (4000 < (bitI .or .i64 (IntKind.wrap .i64 v7) (IntKind.wrap .i64 ((IntKind.wrap .i64 v9) * 2 ^ min (Int.toNat 8) (IntKind.bits .i64)))))) || (decide ((IntKind.wrap .i64 ((List.length x0 : Int) - 8)) < (bitI .or .i64 (IntKind.wrap .i64 v7) (IntKind.wrap .i64 ((IntKind.wrap .i64 v9) * 2 ^ min (Int.toNat 8) (IntKind.bits .i64))))))) = true then
      some (0, false)
    else
      (idx x0 4).bind fun v12 =>
      (idx x0 5).bind fun v14 =>
      (idx x0 6).bind fun v16 =>
      (idx x0 7).bind fun v18 =>
      chk (slOk (List.length x0) 2 4) <|
      chk (slOk (List.length x0) 8 (IntKind.wrap .i64 (8 + (bitI .or .i64 (IntKind.wrap .i64 v7) (IntKind.wrap .i64 ((IntKind.wrap .i64 v9) * 2 ^ min (Int.toNat 8) (IntKind.bits .i64))))))) <|
      (frame_checksum (slc x0 2 4) (slc x0 8 (IntKind.wrap .i64 (8 + (bitI .or .i64 (IntKind.wrap .i64 v7) (IntKind.wrap .i64 ((IntKind.wrap .i64 v9) * 2 ^ min (Int.toNat 8) (IntKind.bits .i64)))))))).bind fun v22 =>
      if ((bitI .or .u32 (bitI .or .u32 (bitI .or .u32 (IntKind.wrap .u32 v12) (IntKind.wrap .u32 ((IntKind.wrap .u32 v14) * 2 ^ min (Int.toNat 8) (IntKind.bits .u32)))) (IntKind.wrap .u32 ((IntKind.wrap .u32 v16) * 2 ^ min (Int.toNat 16) (IntKind.bits .u32)))) (IntKind.wrap .u32 ((IntKind.wrap .u32 v18) * 2 ^ min (Int.toNat 24) (IntKind.bits .u32)))) != v22) = true then
        some (0, false)
      else
        some ((IntKind.wrap .i64 (8 + (bitI .or .i64 (IntKind.wrap .i64 v7) (IntKind.wrap .i64 ((IntKind.wrap .i64 v9) * 2 ^ min (Int.toNat 8) (IntKind.bits .i64)))))), true)
theorem frame_stands_c {x0 : List Int} {r : Int × Bool} (hM : frame_stands x0 = some r) : PCall Tryz.prog 152 [.sl 1 (List.map (DV.int .u8) x0)] (.tup [.int .i64 r.1, .bool r.2]) := by
  unfold frame_stands at hM
  refine PCall.body Tryz.func152 Tryz.ntmps152 rfl rfl rfl rfl ?_
  refine a_seq ?_
  refine a_region (.cons (o_assign rfl) <| .cons (o_assign rfl) <| .nil _) (by kernel_rfl) (by kernel_rfl) ?_
  refine a_seq ?_
  refine a_seq ?_
  obtain ⟨v2, h1, hM⟩ := of_bind hM
  obtain ⟨v4, h3, hM⟩ := of_bind hM
  refine a_region (.cons (o_move rfl) <| .cons (t_len rfl) <| .cons (o_int rfl rfl rfl) <| .cons (o_move rfl) <| .cons (o_guardG .bF rfl rfl (fun hb => (.keep .nil)) (fun hb => o_move rfl)) <| .cons (o_guardG .bF rfl rfl (fun hb => (.strip rfl hb .nil)) (fun hb => t_index (of_gb h1 hb) rfl rfl rfl)) <| .cons (o_guardG .bF rfl rfl (fun hb => (.strip rfl hb .nil)) (fun hb => o_load_es rfl rfl)) <| .cons (o_guardG .bF rfl rfl (fun hb => (.strip rfl hb .nil)) (fun hb => o_int rfl rfl rfl)) <| .cons (o_or rfl rfl) <| .cons (o_move rfl) <| .cons (o_guardG .bF rfl rfl (fun hb => (.keep .nil)) (fun hb => o_move rfl)) <| .cons (o_guardG .bF rfl rfl (fun hb => (.strip rfl hb .nil)) (fun hb => t_index (of_gb h3 hb) rfl rfl rfl)) <| .cons (o_guardG .bF rfl rfl (fun hb => (.strip rfl hb .nil)) (fun hb => o_load_es rfl rfl)) <| .cons (o_guardG .bF rfl rfl (fun hb => (.strip rfl hb .nil)) (fun hb => o_int rfl rfl rfl)) <| .cons (o_or rfl rfl) <| .nil _) (by kernel_rfl) (by kernel_rfl) ?_
  refine a_cond _ rfl (fun h5 => ?_) (fun h5 => ?_)
  · replace hM := (of_if hM).1 h5
    refine a_seq ?_
    refine a_region (.cons (o_assign rfl) <| .cons (o_assign rfl) <| .nil _) (by kernel_rfl) (by kernel_rfl) ?_
    obtain rfl := Option.some.inj hM
    exact a_ret (a_post (.r2 (.tmp rfl) (.tmp rfl)) (DLe.refl _) PostOk.nil.spec)
  · replace hM := (of_if hM).2 h5
    refine a_skip ?_
    refine a_seq ?_
    obtain ⟨v7, h6, hM⟩ := of_bind hM
    obtain ⟨v9, h8, hM⟩ := of_bind hM
    refine a_draw mixed (.cons (o_move rfl) <| .cons (t_index h6 rfl rfl rfl) <| .cons (o_load_es rfl rfl) <| .cons (o_conv_w rfl) <| .cons (o_move rfl) <| .cons (t_index h8 rfl rfl rfl) <| .cons (o_load_es rfl rfl) <| .cons (o_conv_w rfl) <| .cons (o_shl rfl rfl (by decide)) <| .cons (o_int rfl rfl rfl) <| .cons (o_assign rfl) <| .nil _) (by kernel_rfl) (by kernel_rfl) (by kernel_rfl) ?_
    refine a_seq ?_
    refine a_seq ?_
    refine a_region (.cons (o_move rfl) <| .cons (o_int rfl rfl rfl) <| .cons (o_move rfl) <| .cons (o_guardG .bF rfl rfl (fun hb => (.keep .nil)) (fun hb => o_move rfl)) <| .cons (o_guardG .bF rfl rfl (fun hb => (.keep .nil)) (fun hb => o_move rfl)) <| .cons (o_guardG .bF rfl rfl (fun hb => (.strip rfl hb .nil)) (fun hb => t_len rfl)) <| .cons (o_guardG .bF rfl rfl (fun hb => (.strip rfl hb .nil)) (fun hb => o_int rfl rfl rfl)) <| .cons (o_guardG .bF rfl rfl (fun hb => (.strip rfl hb (.strip rfl hb .nil))) (fun hb => o_int rfl rfl rfl)) <| .cons (o_or rfl rfl) <| .nil _) (by kernel_rfl) (by kernel_rfl) ?_
    refine a_cond _ rfl (fun h10 => ?_) (fun h10 => ?_)
    · replace hM := (of_if hM).1 h10
      refine a_seq ?_
      refine a_region (.cons (o_assign rfl) <| .cons (o_assign rfl) <| .nil _) (by kernel_rfl) (by kernel_rfl) ?_
      obtain rfl := Option.some.inj hM
      exact a_ret (a_post (.r2 (.tmp rfl) (.tmp rfl)) (DLe.refl _) PostOk.nil.spec)
    · replace hM := (of_if hM).2 h10
      refine a_skip ?_
      refine a_seq ?_
      obtain ⟨v12, h11, hM⟩ := of_bind hM
      obtain ⟨v14, h13, hM⟩ := of_bind hM
      obtain ⟨v16, h15, hM⟩ := of_bind hM
      obtain ⟨v18, h17, hM⟩ := of_bind hM
      refine a_draw mixed (.cons (o_move rfl) <| .cons (t_index h11 rfl rfl rfl) <| .cons (o_load_es rfl rfl) <| .cons (o_conv_w rfl) <| .cons (o_move rfl) <| .cons (t_index h13 rfl rfl rfl) <| .cons (o_load_es rfl rfl) <| .cons (o_conv_w rfl) <| .cons (o_shl rfl rfl (by decide)) <| .cons (o_int rfl rfl rfl) <| .cons (o_move rfl) <| .cons (t_index h15 rfl rfl rfl) <| .cons (o_load_es rfl rfl) <| .cons (o_conv_w rfl) <| .cons (o_shl rfl rfl (by decide)) <| .cons (o_int rfl rfl rfl) <| .cons (o_move rfl) <| .cons (t_index h17 rfl rfl rfl) <| .cons (o_load_es rfl rfl) <| .cons (o_conv_w rfl) <| .cons (o_shl rfl rfl (by decide)) <| .cons (o_int rfl rfl rfl) <| .cons (o_assign rfl) <| .nil _) (by kernel_rfl) (by kernel_rfl) (by kernel_rfl) ?_
      refine a_seq ?_
      refine a_seq ?_
      obtain ⟨h19, hM⟩ := of_chk hM
      obtain ⟨h20, hM⟩ := of_chk hM
      obtain ⟨v22, h21, hM⟩ := of_bind hM
      refine a_draw mixed (.cons (o_move rfl) <| .cons (o_move rfl) <| .cons (t_slice h19 rfl rfl rfl) <| .cons (o_move rfl) <| .cons (o_move rfl) <| .cons (o_int rfl rfl rfl) <| .cons (t_slice h20 rfl rfl rfl) <| .cons (o_call (frame_checksum_c h21) rfl (DLeL.refl _) rfl) <| .cons (o_int rfl rfl rfl) <| .nil _) (by kernel_rfl) (by kernel_rfl) (by kernel_rfl) ?_
      refine a_cond _ rfl (fun h23 => ?_) (fun h23 => ?_)
      · replace hM := (of_if hM).1 h23
        refine a_seq ?_
        refine a_region (.cons (o_assign rfl) <| .cons (o_assign rfl) <| .nil _) (by kernel_rfl) (by kernel_rfl) ?_
        obtain rfl := Option.some.inj hM
        exact a_ret (a_post (.r2 (.tmp rfl) (.tmp rfl)) (DLe.refl _) PostOk.nil.spec)
      · replace hM := (of_if hM).2 h23
        refine a_skip ?_
        refine a_seq ?_
        refine a_region (.cons (o_move rfl) <| .cons (o_int rfl rfl rfl) <| .cons (o_assign rfl) <| .cons (o_assign rfl) <| .nil _) (by kernel_rfl) (by kernel_rfl) ?_
        obtain rfl := Option.some.inj hM
        exact a_ret (a_post (.r2 (.tmp rfl) (.tmp rfl)) (DLe.refl _) PostOk.nil.spec)

def frame_Append (x0 : List Int) (x1 : List Int) : Option ((List Int) × Int) :=
  if (decide (4000 < (List.length x1 : Int))) = true then
    some (([] : List Int), 3)
  else
    (frame_checksum [(IntKind.wrap .u8 (List.length x1 : Int)), (IntKind.wrap .u8 (Int.fdiv (List.length x1 : Int) (2 ^ min (Int.toNat 8) (IntKind.bits .i64))))] x1).bind fun v3 =>
    chk (mkOk 1 0 (IntKind.wrap .i64 ((IntKind.wrap .i64 ((List.length x0 : Int) + 8)) + (List.length x1 : Int)))) <|
    chk (apOk 1 (List.length ([] : List Int) + List.length x0)) <|
    (idx [(IntKind.wrap .u8 (List.length x1 : Int)), (IntKind.wrap .u8 (Int.fdiv (List.length x1 : Int) (2 ^ min (Int.toNat 8) (IntKind.bits .i64))))] 0).bind fun v7 =>
    (idx [(IntKind.wrap .u8 (List.length x1 : Int)), (IntKind.wrap .u8 (Int.fdiv (List.length x1 : Int) (2 ^ min (Int.toNat 8) (IntKind.bits .i64))))] 1).bind fun v9 =>
    chk (apOk 1 (List.length (([] : List Int) ++ x0) + List.length [165, 90, v7, v9])) <|
    chk (apOk 1 (List.length ((([] : List Int) ++ x0) ++ [165, 90, v7, v9]) + List.length [(IntKind.wrap .u8 v3), (IntKind.wrap .u8 (Int.fdiv v3 (2 ^ min (Int.toNat 8) (IntKind.bits .u32)))), (IntKind.wrap .u8 (Int.fdiv v3 (2 ^ min (Int.toNat 16) (IntKind.bits .u32)))), (IntKind.wrap .u8 (Int.fdiv v3 (2 ^ min (Int.toNat 24) (IntKind.bits .u32))))])) <|
    chk (apOk 1 (List.length (((([] : List Int) ++ x0) ++ [165, 90, v7, v9]) ++ [(IntKind.wrap .u8 v3), (IntKind.wrap .u8 (Int.fdiv v3 (2 ^ min (Int.toNat 8) (IntKind.bits .u32)))), (IntKind.wrap .u8 (Int.fdiv v3 (2 ^ min (Int.toNat 16) (IntKind.bits .u32)))), (IntKind.wrap .u8 (Int.fdiv v3 (2 ^ min (Int.toNat 24) (IntKind.bits .u32))))]) + List.length x1)) <|
    some (((((([] : List Int) ++ x0) ++ [165, 90, v7, v9]) ++ [(IntKind.wrap .u8 v3), (IntKind.wrap .u8 (Int.fdiv v3 (2 ^ min (Int.toNat 8) (IntKind.bits .u32)))), (IntKind.wrap .u8 (Int.fdiv v3 (2 ^ min (Int.toNat 16) (IntKind.bits .u32)))), (IntKind.wrap .u8 (Int.fdiv v3 (2 ^ min (Int.toNat 24) (IntKind.bits .u32))))]) ++ x1), 0)
theorem frame_Append_c {x0 : List Int} {x1 : List Int} {r : (List Int) × Int} (hM : frame_Append x0 x1 = some r) : PCall Tryz.prog 61 [.sl 1 (List.map (DV.int .u8) x0), .sl 1 (List.map (DV.int .u8) x1)] (.tup [.sl 1 (List.map (DV.int .u8) r.1), .int .i64 r.2]) := by
  unfold frame_Append at hM
  refine PCall.body Tryz.func61 Tryz.ntmps61 rfl rfl rfl rfl ?_
  refine a_seq ?_
  refine a_region (.cons (o_assign rfl) <| .cons (o_assign rfl) <| .nil _) (by kernel_rfl) (by kernel_rfl) ?_
  refine a_seq ?_
  refine a_seq ?_
  refine a_region (.cons (o_move rfl) <| .cons (t_len rfl) <| .cons (o_int rfl rfl rfl) <| .nil _) (by kernel_rfl) (by kernel_rfl) ?_
  refine a_cond _ rfl (fun h1 => ?_) (fun h1 => ?_)
  · replace hM := (of_if hM).1 h1
    refine a_seq ?_
    refine a_region (.cons (o_assign rfl) <| .cons (o_assign rfl) <| .nil _) (by kernel_rfl) (by kernel_rfl) ?_
    obtain rfl := Option.some.inj hM
    exact a_ret (a_post (.r2 (.tmp rfl) (.tmp rfl)) (DLe.tup (.cons (DLe.nils _) (.cons (DLe.refl _) .nil))) PostOk.nil.spec)
  · replace hM := (of_if hM).2 h1
    refine a_skip ?_
    refine a_seq ?_
    refine a_region (.cons (o_move rfl) <| .cons (t_len rfl) <| .cons (o_conv_w rfl) <| .cons (o_move rfl) <| .cons (t_len rfl) <| .cons (o_shr rfl rfl (by decide)) <| .cons (o_conv_w rfl) <| .cons (t_build (DV.int .u8) ([(IntKind.wrap .u8 (List.length x1 : Int)), (IntKind.wrap .u8 (Int.fdiv (List.length x1 : Int) (2 ^ min (Int.toNat 8) (IntKind.bits .i64))))] : List Int) rfl rfl rfl rfl rfl rfl rfl) <| .cons (o_assign rfl) <| .nil _) (by kernel_rfl) (by kernel_rfl) ?_
    refine a_seq ?_
    refine a_imp (Imp.freeze (id := 19) rfl) ?_
    obtain ⟨v3, h2, hM⟩ := of_bind hM
    refine a_region (.cons (o_move rfl) <| .cons (o_move rfl) <| .cons (o_call (frame_checksum_c h2) rfl (DLeL.refl _) rfl) <| .cons (o_assign rfl) <| .nil _) (by kernel_rfl) (by kernel_rfl) ?_
    refine a_seq ?_
    obtain ⟨h4, hM⟩ := of_chk hM
    refine a_region (.cons (o_move rfl) <| .cons (t_len rfl) <| .cons (o_int rfl rfl rfl) <| .cons (o_move rfl) <| .cons (t_len rfl) <| .cons (o_int rfl rfl rfl) <| .cons (t_make (DV.int .u8) 0 h4 rfl rfl rfl rfl) <| .cons (o_assign rfl) <| .nil _) (by kernel_rfl) (by kernel_rfl) ?_
    refine a_seq ?_
    obtain ⟨h5, hM⟩ := of_chk hM
    obtain ⟨v7, h6, hM⟩ := of_bind hM
    obtain ⟨v9, h8, hM⟩ := of_bind hM
    obtain ⟨h10, hM⟩ := of_chk hM
    refine a_draw mixed (.cons (o_move rfl) <| .cons (o_move rfl) <| .cons (t_append x0 h5 rfl rfl rfl Src.sl) <| .cons (o_move rfl) <| .cons (t_index h6 rfl rfl rfl) <| .cons (o_load_es rfl rfl) <| .cons (o_move rfl) <| .cons (t_index h8 rfl rfl rfl) <| .cons (o_load_es rfl rfl) <| .cons (t_build (DV.int .u8) ([165, 90, v7, v9] : List Int) rfl rfl rfl rfl rfl rfl rfl) <| .cons (t_append [165, 90, v7, v9] h10 rfl rfl rfl (Src.row rfl)) <| .cons (o_assign rfl) <| .nil _) (by kernel_rfl) (by kernel_rfl) (by kernel_rfl) ?_
    refine a_seq ?_
    obtain ⟨h11, hM⟩ := of_chk hM
    refine a_region (.cons (o_move rfl) <| .cons (o_move rfl) <| .cons (o_conv_w rfl) <| .cons (o_move rfl) <| .cons (o_shr rfl rfl (by decide)) <| .cons (o_conv_w rfl) <| .cons (o_move rfl) <| .cons (o_shr rfl rfl (by decide)) <| .cons (o_conv_w rfl) <| .cons (o_move rfl) <| .cons (o_shr rfl rfl (by decide)) <| .cons (o_conv_w rfl) <| .cons (t_build (DV.int .u8) ([(IntKind.wrap .u8 v3), (IntKind.wrap .u8 (Int.fdiv v3 (2 ^ min (Int.toNat 8) (IntKind.bits .u32)))), (IntKind.wrap .u8 (Int.fdiv v3 (2 ^ min (Int.toNat 16) (IntKind.bits .u32)))), (IntKind.wrap .u8 (Int.fdiv v3 (2 ^ min (Int.toNat 24) (IntKind.bits .u32))))] : List Int) rfl rfl rfl rfl rfl rfl rfl) <| .cons (t_append [(IntKind.wrap .u8 v3), (IntKind.wrap .u8 (Int.fdiv v3 (2 ^ min (Int.toNat 8) (IntKind.bits .u32)))), (IntKind.wrap .u8 (Int.fdiv v3 (2 ^ min (Int.toNat 16) (IntKind.bits .u32)))), (IntKind.wrap .u8 (Int.fdiv v3 (2 ^ min (Int.toNat 24) (IntKind.bits .u32))))] h11 rfl rfl rfl (Src.row rfl)) <| .cons (o_assign rfl) <| .nil _) (by kernel_rfl) (by kernel_rfl) ?_
    refine a_seq ?_
    obtain ⟨h12, hM⟩ := of_chk hM
    refine a_region (.cons (o_move rfl) <| .cons (o_move rfl) <| .cons (t_append x1 h12 rfl rfl rfl Src.sl) <| .cons (o_assign rfl) <| .cons (o_assign rfl) <| .nil _) (by kernel_rfl) (by kernel_rfl) ?_
    obtain rfl := Option.some.inj hM
    refine a_imp (Imp.freeze (id := 57) rfl) ?_
    exact a_ret (a_post (.r2 (.tmp rfl) (.tmp rfl)) (DLe.refl _) PostOk.nil.spec)

end Go.Proofs.YtepkcbalmjnhpaaGreat
