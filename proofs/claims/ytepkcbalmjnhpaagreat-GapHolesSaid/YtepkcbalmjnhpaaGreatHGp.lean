/-
  Models of functions and the proofs that the code computes them, printed by gm2.py.
-/
import Derived.Test.YtepkcbalmjnhpaaGreatHGa
set_option maxRecDepth 100000
set_option maxHeartbeats 4000000
set_option linter.unusedVariables false
set_option linter.unusedSimpArgs false
namespace Go.Proofs.YtepkcbalmjnhpaaGreat
open Go.RowKit
def rootcauselaw32_told_K2 (a1 : List rootcauseref32_Gap) : Option (List rootcauseref32_Gap) :=
  some a1
def rootcauselaw32_told_L5 (x0 : List gap_Gap) (k3 : Nat) (a4 : List rootcauseref32_Gap) : Option (List rootcauseref32_Gap) :=
  (idx x0 (k3 : Int)).bind fun v9 =>
  chk (apOk 48 (List.length a4 + List.length [(rootcauseref32_Gap.mk v9.gComponent v9.gFirst v9.gCount v9.gOpen v9.gFrom v9.gTo)])) <|
  some (a4 ++ [(rootcauseref32_Gap.mk v9.gComponent v9.gFirst v9.gCount v9.gOpen v9.gFrom v9.gTo)])
def rootcauselaw32_told (x0 : List gap_Gap) : Option (List rootcauseref32_Gap) :=
  (foldM' 9223372036854775807 (List.length x0 : Int) (fun k3 s => rootcauselaw32_told_L5 x0 k3 s) ([] : List rootcauseref32_Gap)).bind fun s => rootcauselaw32_told_K2 s
theorem rootcauselaw32_told_c {x0 : List gap_Gap} {r : (List rootcauseref32_Gap)} (hM : rootcauselaw32_told x0 = some r) : PCall Tryz.prog 34 [.sl 6 (List.map gap_Gap.dv x0)] (.sl 6 (List.map rootcauseref32_Gap.dv r)) := by
  unfold rootcauselaw32_told at hM
  refine PCall.body Tryz.func34 Tryz.ntmps34 rfl rfl rfl rfl ?_
  refine a_seq ?_
  refine a_region (.cons (o_assign rfl) <| .nil _) (by kernel_rfl) (by kernel_rfl) ?_
  refine a_seq ?_
  refine a_region (.cons (o_assign rfl) <| .nil _) (by kernel_rfl) (by kernel_rfl) ?_
  refine a_cut (α := (List rootcauseref32_Gap)) (fun s => ⟨[(3, .sl 6 (List.map rootcauseref32_Gap.dv s))], [], []⟩) (fun s => rootcauselaw32_told_K2 s = some r) ?_ ?_
  · refine a_seq ?_
    refine a_region (.cons (o_move rfl) <| .cons (t_len rfl) <| .cons (o_move rfl) <| .nil _) (by kernel_rfl) (by kernel_rfl) ?_
    obtain ⟨a4, hL5, hK5⟩ := of_bind hM
    refine a_block ?_
    refine a_fold (fun k3 (s : (List rootcauseref32_Gap)) => ⟨[(3, .row 10001), (6, .sl 6 (List.map gap_Gap.dv x0)), (7, .int .i64 (List.length x0 : Int)), (8, .int .i64 (k3 : Int))], [(10001, some (.row 160 6 (List.map rootcauseref32_Gap.dv s)))], [10001]⟩) _ hL5 ((Imp.nilRow (t := 3) (id := 10002) 160 6 rfl rfl).trans (Imp.of (fun i => bif Nat.beq i 10001 then 10002 else i) (.cons rfl (DLe.refl _) (.cons rfl (DLe.refl _) (.cons rfl (DLe.refl _) (.cons rfl (DLe.refl _) .nil)))) (.cons rfl (.refl _) .nil) rfl rfl rfl)) ?_ ?_
    · rintro k3 a4 t6 hk3 hx3 hM
      replace hM : rootcauselaw32_told_L5 x0 k3 a4 = some t6 := hM
      unfold rootcauselaw32_told_L5 at hM
      refine a_seq ?_
      refine a_region (.cons (o_int rfl rfl rfl) <| .nil _) (by kernel_rfl) (by kernel_rfl) ?_
      refine a_seq ?_
      refine a_cond _ rfl (fun _ => ?_) (fun c => absurd hk3 (of_decide_eq_false c))
      refine a_skip ?_
      refine a_seq ?_
      refine a_block ?_
      refine a_seq ?_
      obtain ⟨v9, h8, hM⟩ := of_bind hM
      refine a_region (.cons (t_index h8 rfl rfl rfl) <| .cons (o_load_er rfl rfl rfl) <| .cons (o_alloc rfl) <| .cons (o_store rfl rfl rfl rfl rfl rfl rfl) <| .nil _) (by kernel_rfl) (by kernel_rfl) ?_
      obtain ⟨h10, hM⟩ := of_chk hM
      refine a_region (.cons (o_move rfl) <| .cons (o_load_r rfl rfl rfl rfl) <| .cons (t_build rootcauseref32_Gap.dv ([(rootcauseref32_Gap.mk v9.gComponent v9.gFirst v9.gCount v9.gOpen v9.gFrom v9.gTo)] : List rootcauseref32_Gap) rfl rfl rfl rfl rfl rfl rfl) <| .cons (t_append [(rootcauseref32_Gap.mk v9.gComponent v9.gFirst v9.gCount v9.gOpen v9.gFrom v9.gTo)] h10 rfl rfl rfl (Src.row rfl)) <| .cons (o_assign rfl) <| .nil _) (by kernel_rfl) (by kernel_rfl) ?_
      refine a_region (.cons (o_add rfl rfl (inR_i64 hk3 hx3)) <| .cons (o_move rfl) <| .nil _) (by kernel_rfl) (by kernel_rfl) ?_
      obtain rfl := Option.some.inj hM
      exact (Imp.of (fun i => bif Nat.beq i 10001 then 15 else i) (.cons rfl (DLe.refl _) (.cons rfl (DLe.refl _) (.cons rfl (DLe.refl _) (.cons rfl (DLe.succ _ _) .nil)))) (.cons rfl (.refl _) .nil) rfl rfl rfl)
    · rintro k3 hk3 hx3
      refine a_seq ?_
      refine a_region (.cons (o_int rfl rfl rfl) <| .nil _) (by kernel_rfl) (by kernel_rfl) ?_
      refine a_seq ?_
      refine a_cond _ rfl (fun c => absurd (of_decide_eq_true c) (Int.not_lt.2 hk3)) (fun _ => ?_)
      refine a_exit ?_
      exact ⟨a4, hK5, ((Imp.freeze (id := 10001) rfl).trans (Imp.of (fun i => i) (.cons rfl (DLe.refl _) .nil) .nil rfl rfl rfl))⟩
  · rintro a1 hM
    replace hM : rootcauselaw32_told_K2 a1 = some r := hM
    unfold rootcauselaw32_told_K2 at hM
    refine a_seq ?_
    refine a_region (.cons (o_move rfl) <| .cons (o_assign rfl) <| .nil _) (by kernel_rfl) (by kernel_rfl) ?_
    obtain rfl := Option.some.inj hM
    exact a_ret (a_post (.r1 (.tmp rfl)) (DLe.refl _) PostOk.nil.spec)

def rootcauseref32_Holes_K1 : Option Bool :=
  some false
def rootcauseref32_Holes_L3 (x0 : List rootcauseref32_Gap) (x1 : Int) (x2 : Int) (k2 : Nat) : Option (Ctl Unit Bool) :=
  (idx x0 (k2 : Int)).bind fun v7 =>
  if (((v7.gComponent == x1) && (decide (v7.gFrom ≤ x2))) && (decide (x2 ≤ v7.gTo))) = true then
    some (.done true)
  else
    some (.next ())
def rootcauseref32_Holes (x0 : List rootcauseref32_Gap) (x1 : Int) (x2 : Int) : Option Bool :=
  (forM' (E := Bool) 9223372036854775807 (List.length x0 : Int) (fun k2 s => rootcauseref32_Holes_L3 x0 x1 x2 k2) ()).bind fun
    | .next s => rootcauseref32_Holes_K1
    | .done r => some r
theorem rootcauseref32_Holes_c {x0 : List rootcauseref32_Gap} {x1 : Int} {x2 : Int} {r : Bool} (hM : rootcauseref32_Holes x0 x1 x2 = some r) : PCall Tryz.prog 35 [.sl 6 (List.map rootcauseref32_Gap.dv x0), .int .i64 x1, .int .i64 x2] (.bool r) := by
  unfold rootcauseref32_Holes at hM
  refine PCall.body Tryz.func35 Tryz.ntmps35 rfl rfl rfl rfl ?_
  refine a_seq ?_
  refine a_region (.cons (o_assign rfl) <| .nil _) (by kernel_rfl) (by kernel_rfl) ?_
  refine a_cut (α := Unit) (fun s => ⟨[], [], []⟩) (fun s => rootcauseref32_Holes_K1 = some r) ?_ ?_
  · refine a_seq ?_
    refine a_region (.cons (o_move rfl) <| .cons (t_len rfl) <| .cons (o_move rfl) <| .nil _) (by kernel_rfl) (by kernel_rfl) ?_
    obtain ⟨t3, hL3, hK3⟩ := of_bind hM
    refine a_block ?_
    refine a_for (fun k2 (s : Unit) => ⟨[(1, .int .i64 x1), (2, .int .i64 x2), (9, .sl 6 (List.map rootcauseref32_Gap.dv x0)), (10, .int .i64 (List.length x0 : Int)), (11, .int .i64 (k2 : Int))], [], []⟩) _ hL3 (Imp.of (fun i => i) (.cons rfl (DLe.refl _) (.cons rfl (DLe.refl _) (.cons rfl (DLe.refl _) (.cons rfl (DLe.refl _) (.cons rfl (DLe.refl _) .nil))))) .nil rfl rfl rfl) ?_ ?_
    · rintro k2 _ t4 hk2 hx2 hM hE3
      replace hM : rootcauseref32_Holes_L3 x0 x1 x2 k2 = some t4 := hM
      unfold rootcauseref32_Holes_L3 at hM
      refine a_seq ?_
      refine a_region (.cons (o_int rfl rfl rfl) <| .nil _) (by kernel_rfl) (by kernel_rfl) ?_
      refine a_seq ?_
      refine a_cond _ rfl (fun _ => ?_) (fun c => absurd hk2 (of_decide_eq_false c))
      refine a_skip ?_
      refine a_seq ?_
      refine a_block ?_
      refine a_seq ?_
      obtain ⟨v7, h6, hM⟩ := of_bind hM
      refine a_region (.cons (t_index h6 rfl rfl rfl) <| .cons (o_load_er rfl rfl rfl) <| .cons (o_alloc rfl) <| .cons (o_store rfl rfl rfl rfl rfl rfl rfl) <| .nil _) (by kernel_rfl) (by kernel_rfl) ?_
      refine a_seq ?_
      refine a_region (.cons (o_fieldAddr rfl) <| .cons (o_load_s rfl rfl rfl) <| .cons (o_move rfl) <| .cons (o_int rfl rfl rfl) <| .cons (o_move rfl) <| .cons (o_guardG .bT rfl rfl (fun hb => (.keep .nil)) (fun hb => o_fieldAddr rfl)) <| .cons (o_guardG .bT rfl rfl (fun hb => (.strip rfl hb .nil)) (fun hb => o_load_s rfl rfl rfl)) <| .cons (o_guardG .bT rfl rfl (fun hb => (.keep .nil)) (fun hb => o_move rfl)) <| .cons (o_guardG .bT rfl rfl (fun hb => (.strip rfl hb (.strip rfl hb .nil))) (fun hb => o_int rfl rfl rfl)) <| .cons (o_and rfl rfl) <| .cons (o_move rfl) <| .cons (o_guardG .bT rfl rfl (fun hb => (.keep .nil)) (fun hb => o_move rfl)) <| .cons (o_guardG .bT rfl rfl (fun hb => (.keep .nil)) (fun hb => o_fieldAddr rfl)) <| .cons (o_guardG .bT rfl rfl (fun hb => (.strip rfl hb .nil)) (fun hb => o_load_s rfl rfl rfl)) <| .cons (o_guardG .bT rfl rfl (fun hb => (.strip rfl hb (.strip rfl hb .nil))) (fun hb => o_int rfl rfl rfl)) <| .cons (o_and rfl rfl) <| .nil _) (by kernel_rfl) (by kernel_rfl) ?_
      refine a_cond _ rfl (fun h8 => ?_) (fun h8 => ?_)
      · replace hM := (of_if hM).1 h8
        refine a_seq ?_
        refine a_region (.cons (o_assign rfl) <| .nil _) (by kernel_rfl) (by kernel_rfl) ?_
        obtain rfl := Option.some.inj hM
        obtain rfl := hE3 _ rfl
        obtain rfl := Option.some.inj hK3
        exact a_ret (a_post (.r1 (.tmp rfl)) (DLe.refl _) PostOk.nil.spec)
      · replace hM := (of_if hM).2 h8
        refine a_skip ?_
        refine a_region (.cons (o_add rfl rfl (inR_i64 hk2 hx2)) <| .cons (o_move rfl) <| .nil _) (by kernel_rfl) (by kernel_rfl) ?_
        obtain rfl := Option.some.inj hM
        exact ⟨(), rfl, (Imp.of (fun i => i) (.cons rfl (DLe.refl _) (.cons rfl (DLe.refl _) (.cons rfl (DLe.refl _) (.cons rfl (DLe.refl _) (.cons rfl (DLe.succ _ _) .nil))))) .nil rfl rfl rfl)⟩
    · rintro k2 _ hk2 hx2 rfl
      refine a_seq ?_
      refine a_region (.cons (o_int rfl rfl rfl) <| .nil _) (by kernel_rfl) (by kernel_rfl) ?_
      refine a_seq ?_
      refine a_cond _ rfl (fun c => absurd (of_decide_eq_true c) (Int.not_lt.2 hk2)) (fun _ => ?_)
      refine a_exit ?_
      exact ⟨(), hK3, (Imp.of (fun i => i) .nil .nil rfl rfl rfl)⟩
  · rintro _ hM
    replace hM : rootcauseref32_Holes_K1 = some r := hM
    unfold rootcauseref32_Holes_K1 at hM
    refine a_seq ?_
    refine a_region (.cons (o_assign rfl) <| .nil _) (by kernel_rfl) (by kernel_rfl) ?_
    obtain rfl := Option.some.inj hM
    exact a_ret (a_post (.r1 (.tmp rfl)) (DLe.refl _) PostOk.nil.spec)

def gap_Holes_K1 : Option Bool :=
  some false
def gap_Holes_L3 (x0 : List gap_Gap) (x1 : Int) (x2 : Int) (k2 : Nat) : Option (Ctl Unit Bool) :=
  (idx x0 (k2 : Int)).bind fun v7 =>
  if (((v7.gComponent == x1) && (decide (v7.gFrom ≤ x2))) && (decide (x2 ≤ v7.gTo))) = true then
    some (.done true)
  else
    some (.next ())
def gap_Holes (x0 : List gap_Gap) (x1 : Int) (x2 : Int) : Option Bool :=
  (forM' (E := Bool) 9223372036854775807 (List.length x0 : Int) (fun k2 s => gap_Holes_L3 x0 x1 x2 k2) ()).bind fun
    | .next s => gap_Holes_K1
    | .done r => some r
theorem gap_Holes_c {x0 : List gap_Gap} {x1 : Int} {x2 : Int} {r : Bool} (hM : gap_Holes x0 x1 x2 = some r) : PCall Tryz.prog 36 [.sl 6 (List.map gap_Gap.dv x0), .int .i64 x1, .int .i64 x2] (.bool r) := by
  unfold gap_Holes at hM
  refine PCall.body Tryz.func36 Tryz.ntmps36 rfl rfl rfl rfl ?_
  refine a_seq ?_
  refine a_region (.cons (o_assign rfl) <| .nil _) (by kernel_rfl) (by kernel_rfl) ?_
  refine a_cut (α := Unit) (fun s => ⟨[], [], []⟩) (fun s => gap_Holes_K1 = some r) ?_ ?_
  · refine a_seq ?_
    refine a_region (.cons (o_move rfl) <| .cons (t_len rfl) <| .cons (o_move rfl) <| .nil _) (by kernel_rfl) (by kernel_rfl) ?_
    obtain ⟨t3, hL3, hK3⟩ := of_bind hM
    refine a_block ?_
    refine a_for (fun k2 (s : Unit) => ⟨[(1, .int .i64 x1), (2, .int .i64 x2), (9, .sl 6 (List.map gap_Gap.dv x0)), (10, .int .i64 (List.length x0 : Int)), (11, .int .i64 (k2 : Int))], [], []⟩) _ hL3 (Imp.of (fun i => i) (.cons rfl (DLe.refl _) (.cons rfl (DLe.refl _) (.cons rfl (DLe.refl _) (.cons rfl (DLe.refl _) (.cons rfl (DLe.refl _) .nil))))) .nil rfl rfl rfl) ?_ ?_
    · rintro k2 _ t4 hk2 hx2 hM hE3
      replace hM : gap_Holes_L3 x0 x1 x2 k2 = some t4 := hM
      unfold gap_Holes_L3 at hM
      refine a_seq ?_
      refine a_region (.cons (o_int rfl rfl rfl) <| .nil _) (by kernel_rfl) (by kernel_rfl) ?_
      refine a_seq ?_
      refine a_cond _ rfl (fun _ => ?_) (fun c => absurd hk2 (of_decide_eq_false c))
      refine a_skip ?_
      refine a_seq ?_
      refine a_block ?_
      refine a_seq ?_
      obtain ⟨v7, h6, hM⟩ := of_bind hM
      refine a_region (.cons (t_index h6 rfl rfl rfl) <| .cons (o_load_er rfl rfl rfl) <| .cons (o_alloc rfl) <| .cons (o_store rfl rfl rfl rfl rfl rfl rfl) <| .nil _) (by kernel_rfl) (by kernel_rfl) ?_
      refine a_seq ?_
      refine a_region (.cons (o_fieldAddr rfl) <| .cons (o_load_s rfl rfl rfl) <| .cons (o_move rfl) <| .cons (o_int rfl rfl rfl) <| .cons (o_move rfl) <| .cons (o_guardG .bT rfl rfl (fun hb => (.keep .nil)) (fun hb => o_fieldAddr rfl)) <| .cons (o_guardG .bT rfl rfl (fun hb => (.strip rfl hb .nil)) (fun hb => o_load_s rfl rfl rfl)) <| .cons (o_guardG .bT rfl rfl (fun hb => (.keep .nil)) (fun hb => o_move rfl)) <| .cons (o_guardG .bT rfl rfl (fun hb => (.strip rfl hb (.strip rfl hb .nil))) (fun hb => o_int rfl rfl rfl)) <| .cons (o_and rfl rfl) <| .cons (o_move rfl) <| .cons (o_guardG .bT rfl rfl (fun hb => (.keep .nil)) (fun hb => o_move rfl)) <| .cons (o_guardG .bT rfl rfl (fun hb => (.keep .nil)) (fun hb => o_fieldAddr rfl)) <| .cons (o_guardG .bT rfl rfl (fun hb => (.strip rfl hb .nil)) (fun hb => o_load_s rfl rfl rfl)) <| .cons (o_guardG .bT rfl rfl (fun hb => (.strip rfl hb (.strip rfl hb .nil))) (fun hb => o_int rfl rfl rfl)) <| .cons (o_and rfl rfl) <| .nil _) (by kernel_rfl) (by kernel_rfl) ?_
      refine a_cond _ rfl (fun h8 => ?_) (fun h8 => ?_)
      · replace hM := (of_if hM).1 h8
        refine a_seq ?_
        refine a_region (.cons (o_assign rfl) <| .nil _) (by kernel_rfl) (by kernel_rfl) ?_
        obtain rfl := Option.some.inj hM
        obtain rfl := hE3 _ rfl
        obtain rfl := Option.some.inj hK3
        exact a_ret (a_post (.r1 (.tmp rfl)) (DLe.refl _) PostOk.nil.spec)
      · replace hM := (of_if hM).2 h8
        refine a_skip ?_
        refine a_region (.cons (o_add rfl rfl (inR_i64 hk2 hx2)) <| .cons (o_move rfl) <| .nil _) (by kernel_rfl) (by kernel_rfl) ?_
        obtain rfl := Option.some.inj hM
        exact ⟨(), rfl, (Imp.of (fun i => i) (.cons rfl (DLe.refl _) (.cons rfl (DLe.refl _) (.cons rfl (DLe.refl _) (.cons rfl (DLe.refl _) (.cons rfl (DLe.succ _ _) .nil))))) .nil rfl rfl rfl)⟩
    · rintro k2 _ hk2 hx2 rfl
      refine a_seq ?_
      refine a_region (.cons (o_int rfl rfl rfl) <| .nil _) (by kernel_rfl) (by kernel_rfl) ?_
      refine a_seq ?_
      refine a_cond _ rfl (fun c => absurd (of_decide_eq_true c) (Int.not_lt.2 hk2)) (fun _ => ?_)
      refine a_exit ?_
      exact ⟨(), hK3, (Imp.of (fun i => i) .nil .nil rfl rfl rfl)⟩
  · rintro _ hM
    replace hM : gap_Holes_K1 = some r := hM
    unfold gap_Holes_K1 at hM
    refine a_seq ?_
    refine a_region (.cons (o_assign rfl) <| .nil _) (by kernel_rfl) (by kernel_rfl) ?_
    obtain rfl := Option.some.inj hM
    exact a_ret (a_post (.r1 (.tmp rfl)) (DLe.refl _) PostOk.nil.spec)

def gap_Could (x0 : List gap_Gap) (x1 : api_Event) : Option Bool :=
  (gap_Holes x0 x1.gComponent x1.gTick).bind fun v2 =>
  some v2
theorem gap_Could_c {x0 : List gap_Gap} {x1 : api_Event} {r : Bool} (hM : gap_Could x0 x1 = some r) : PCall Tryz.prog 37 [.sl 6 (List.map gap_Gap.dv x0), .agg (api_Event.cs x1)] (.bool r) := by
  unfold gap_Could at hM
  refine PCall.body Tryz.func37 Tryz.ntmps37 rfl rfl rfl rfl ?_
  refine a_seq ?_
  refine a_region (.cons (o_box rfl rfl) <| .cons (o_assign rfl) <| .nil _) (by kernel_rfl) (by kernel_rfl) ?_
  refine a_seq ?_
  obtain ⟨v2, h1, hM⟩ := of_bind hM
  refine a_region (.cons (o_move rfl) <| .cons (o_fieldAddr rfl) <| .cons (o_load_s rfl rfl rfl) <| .cons (o_fieldAddr rfl) <| .cons (o_load_s rfl rfl rfl) <| .cons (o_call (gap_Holes_c h1) rfl (DLeL.refl _) rfl) <| .cons (o_assign rfl) <| .nil _) (by kernel_rfl) (by kernel_rfl) ?_
  obtain rfl := Option.some.inj hM
  exact a_ret (a_post (.r1 (.tmp rfl)) (DLe.refl _) PostOk.nil.spec)

def rootcauseref32_Until_K2 (a1 : Int) : Option Int :=
  some a1
def rootcauseref32_Until_L5 (x0 : List rootcauseref32_Gap) (x1 : Int) (k3 : Nat) (a4 : Int) : Option Int :=
  (idx x0 (k3 : Int)).bind fun v9 =>
  if ((v9.gComponent == x1) && (decide (v9.gFrom ≤ a4))) = true then
    some (IntKind.wrap .i64 (v9.gFrom - 1))
  else
    some a4
def rootcauseref32_Until (x0 : List rootcauseref32_Gap) (x1 : Int) (x2 : Int) : Option Int :=
  (foldM' 9223372036854775807 (List.length x0 : Int) (fun k3 s => rootcauseref32_Until_L5 x0 x1 k3 s) x2).bind fun s => rootcauseref32_Until_K2 s
theorem rootcauseref32_Until_c {x0 : List rootcauseref32_Gap} {x1 : Int} {x2 : Int} {r : Int} (hM : rootcauseref32_Until x0 x1 x2 = some r) : PCall Tryz.prog 39 [.sl 6 (List.map rootcauseref32_Gap.dv x0), .int .i64 x1, .int .i64 x2] (.int .i64 r) := by
  unfold rootcauseref32_Until at hM
  refine PCall.body Tryz.func39 Tryz.ntmps39 rfl rfl rfl rfl ?_
  refine a_seq ?_
  refine a_region (.cons (o_assign rfl) <| .nil _) (by kernel_rfl) (by kernel_rfl) ?_
  refine a_seq ?_
  refine a_region (.cons (o_move rfl) <| .cons (o_assign rfl) <| .nil _) (by kernel_rfl) (by kernel_rfl) ?_
  refine a_cut (α := Int) (fun s => ⟨[(7, .int .i64 s)], [], []⟩) (fun s => rootcauseref32_Until_K2 s = some r) ?_ ?_
  · refine a_seq ?_
    refine a_region (.cons (o_move rfl) <| .cons (t_len rfl) <| .cons (o_move rfl) <| .nil _) (by kernel_rfl) (by kernel_rfl) ?_
    obtain ⟨a4, hL5, hK5⟩ := of_bind hM
    refine a_block ?_
    refine a_fold (fun k3 (s : Int) => ⟨[(1, .int .i64 x1), (7, .int .i64 s), (11, .sl 6 (List.map rootcauseref32_Gap.dv x0)), (12, .int .i64 (List.length x0 : Int)), (13, .int .i64 (k3 : Int))], [], []⟩) _ hL5 (Imp.of (fun i => i) (.cons rfl (DLe.refl _) (.cons rfl (DLe.refl _) (.cons rfl (DLe.refl _) (.cons rfl (DLe.refl _) (.cons rfl (DLe.refl _) .nil))))) .nil rfl rfl rfl) ?_ ?_
    · rintro k3 a4 t6 hk3 hx3 hM
      replace hM : rootcauseref32_Until_L5 x0 x1 k3 a4 = some t6 := hM
      unfold rootcauseref32_Until_L5 at hM
      refine a_seq ?_
      refine a_region (.cons (o_int rfl rfl rfl) <| .nil _) (by kernel_rfl) (by kernel_rfl) ?_
      refine a_seq ?_
      refine a_cond _ rfl (fun _ => ?_) (fun c => absurd hk3 (of_decide_eq_false c))
      refine a_skip ?_
      refine a_seq ?_
      refine a_block ?_
      refine a_seq ?_
      obtain ⟨v9, h8, hM⟩ := of_bind hM
      refine a_region (.cons (t_index h8 rfl rfl rfl) <| .cons (o_load_er rfl rfl rfl) <| .cons (o_alloc rfl) <| .cons (o_store rfl rfl rfl rfl rfl rfl rfl) <| .nil _) (by kernel_rfl) (by kernel_rfl) ?_
      refine a_seq ?_
      refine a_region (.cons (o_fieldAddr rfl) <| .cons (o_load_s rfl rfl rfl) <| .cons (o_move rfl) <| .cons (o_int rfl rfl rfl) <| .cons (o_move rfl) <| .cons (o_guardG .bT rfl rfl (fun hb => (.keep .nil)) (fun hb => o_fieldAddr rfl)) <| .cons (o_guardG .bT rfl rfl (fun hb => (.strip rfl hb .nil)) (fun hb => o_load_s rfl rfl rfl)) <| .cons (o_guardG .bT rfl rfl (fun hb => (.keep .nil)) (fun hb => o_move rfl)) <| .cons (o_guardG .bT rfl rfl (fun hb => (.strip rfl hb (.strip rfl hb .nil))) (fun hb => o_int rfl rfl rfl)) <| .cons (o_and rfl rfl) <| .nil _) (by kernel_rfl) (by kernel_rfl) ?_
      refine a_cond _ rfl (fun h10 => ?_) (fun h10 => ?_)
      · replace hM := (of_if hM).1 h10
        refine a_region (.cons (o_fieldAddr rfl) <| .cons (o_load_s rfl rfl rfl) <| .cons (o_int rfl rfl rfl) <| .cons (o_assign rfl) <| .nil _) (by kernel_rfl) (by kernel_rfl) ?_
        refine a_region (.cons (o_add rfl rfl (inR_i64 hk3 hx3)) <| .cons (o_move rfl) <| .nil _) (by kernel_rfl) (by kernel_rfl) ?_
        obtain rfl := Option.some.inj hM
        exact (Imp.of (fun i => i) (.cons rfl (DLe.refl _) (.cons rfl (DLe.refl _) (.cons rfl (DLe.refl _) (.cons rfl (DLe.refl _) (.cons rfl (DLe.succ _ _) .nil))))) .nil rfl rfl rfl)
      · replace hM := (of_if hM).2 h10
        refine a_skip ?_
        refine a_region (.cons (o_add rfl rfl (inR_i64 hk3 hx3)) <| .cons (o_move rfl) <| .nil _) (by kernel_rfl) (by kernel_rfl) ?_
        obtain rfl := Option.some.inj hM
        exact (Imp.of (fun i => i) (.cons rfl (DLe.refl _) (.cons rfl (DLe.refl _) (.cons rfl (DLe.refl _) (.cons rfl (DLe.refl _) (.cons rfl (DLe.succ _ _) .nil))))) .nil rfl rfl rfl)
    · rintro k3 hk3 hx3
      refine a_seq ?_
      refine a_region (.cons (o_int rfl rfl rfl) <| .nil _) (by kernel_rfl) (by kernel_rfl) ?_
      refine a_seq ?_
      refine a_cond _ rfl (fun c => absurd (of_decide_eq_true c) (Int.not_lt.2 hk3)) (fun _ => ?_)
      refine a_exit ?_
      exact ⟨a4, hK5, (Imp.of (fun i => i) (.cons rfl (DLe.refl _) .nil) .nil rfl rfl rfl)⟩
  · rintro a1 hM
    replace hM : rootcauseref32_Until_K2 a1 = some r := hM
    unfold rootcauseref32_Until_K2 at hM
    refine a_seq ?_
    refine a_region (.cons (o_move rfl) <| .cons (o_assign rfl) <| .nil _) (by kernel_rfl) (by kernel_rfl) ?_
    obtain rfl := Option.some.inj hM
    exact a_ret (a_post (.r1 (.tmp rfl)) (DLe.refl _) PostOk.nil.spec)

def rootcauselaw32_GapHoles_K8 (x1 : api_Event) (x2 : Int) (a7 : List gap_Gap) : Option Bool :=
  (rootcauselaw32_told a7).bind fun v10 =>
  (rootcauseref32_Holes v10 x1.gComponent x1.gTick).bind fun v12 =>
  (gap_Holes a7 x1.gComponent x1.gTick).bind fun v14 =>
  (gb (v14 == v12) (false) (gap_Could a7 x1)).bind fun v16 =>
  (gb ((v14 == v12) && (v16 == v12)) (0) (gap_Until a7 x1.gComponent x2)).bind fun v18 =>
  (gb ((v14 == v12) && (v16 == v12)) (0) (rootcauseref32_Until v10 x1.gComponent x2)).bind fun v20 =>
  some (((v14 == v12) && (v16 == v12)) && (v18 == v20))
def rootcauselaw32_GapHoles_L23 (k21 : Nat) (a22 : List gap_Gap) : Option (List gap_Gap) :=
  (idx a22 (k21 : Int)).bind fun v27 =>
  (idx a22 (k21 : Int)).bind fun v29 =>
  some (List.set a22 (Int.toNat (k21 : Int)) (gap_Gap.mk v29.gComponent v29.gFirst v29.gCount v29.gOpen (if (-1099511627776) > v27.gFrom then (-1099511627776) else v27.gFrom) v29.gTo))
def rootcauselaw32_GapHoles (x0 : List gap_Gap) (x1 : api_Event) (x2 : Int) : Option Bool :=
  (rootcauselaw32_awake).bind fun v2 =>
  if (!v2) = true then
    some false
  else
    chk (slOk (List.length x0) 0 (if 12 < (List.length x0 : Int) then 12 else (List.length x0 : Int))) <|
    (slices_Clone_gap_Gap_gap_Gap (List.take (Int.toNat (if 12 < (List.length x0 : Int) then 12 else (List.length x0 : Int))) x0)).bind fun v6 =>
    (foldM' 9223372036854775807 (List.length v6 : Int) (fun k21 s => rootcauselaw32_GapHoles_L23 k21 s) v6).bind fun s => rootcauselaw32_GapHoles_K8 x1 x2 s
theorem rootcauselaw32_GapHoles_c {x0 : List gap_Gap} {x1 : api_Event} {x2 : Int} {r : Bool} (hM : rootcauselaw32_GapHoles x0 x1 x2 = some r) : PCall Tryz.prog 9 [.sl 6 (List.map gap_Gap.dv x0), .agg (api_Event.cs x1), .int .i64 x2] (.bool r) := by
  unfold rootcauselaw32_GapHoles at hM
  refine PCall.body Tryz.func9 Tryz.ntmps9 rfl rfl rfl rfl ?_
  refine a_seq ?_
  refine a_region (.cons (o_box rfl rfl) <| .cons (o_assign rfl) <| .nil _) (by kernel_rfl) (by kernel_rfl) ?_
  refine a_seq ?_
  refine a_seq ?_
  obtain ⟨v2, h1, hM⟩ := of_bind hM
  refine a_region (.cons (o_call (rootcauselaw32_awake_c h1) rfl (DLeL.refl _) rfl) <| .cons (o_not rfl) <| .nil _) (by kernel_rfl) (by kernel_rfl) ?_
  refine a_cond _ rfl (fun h3 => ?_) (fun h3 => ?_)
  · replace hM := (of_if hM).1 h3
    refine a_seq ?_
    refine a_region (.cons (o_assign rfl) <| .nil _) (by kernel_rfl) (by kernel_rfl) ?_
    obtain rfl := Option.some.inj hM
    exact a_ret (a_post (.r1 (.tmp rfl)) (DLe.refl _) PostOk.nil.spec)
  · replace hM := (of_if hM).2 h3
    refine a_skip ?_
    refine a_seq ?_
    obtain ⟨h4, hM⟩ := of_chk hM
    obtain ⟨v6, h5, hM⟩ := of_bind hM
    refine a_region (.cons (o_move rfl) <| .cons (o_move rfl) <| .cons (t_len rfl) <| .cons (o_min rfl rfl) <| .cons (t_slice_h h4 rfl rfl) <| .cons (o_callN (fun i => bif Nat.beq i 50000 then 10001 else i) 1 (slices_Clone_gap_Gap_gap_Gap_c h5) rfl (DLeL.refl _) .nil rfl .nil) <| .cons (o_assign rfl) <| .nil _) (by kernel_rfl) (by kernel_rfl) ?_
    refine a_cut (α := (List gap_Gap)) (fun s => ⟨[(0, .sl 6 (List.map gap_Gap.dv s)), (2, .int .i64 x2), (4, .ref 4 0)], [(4, some (.blk 50 (api_Event.cs x1)))], [4]⟩) (fun s => rootcauselaw32_GapHoles_K8 x1 x2 s = some r) ?_ ?_
    · refine a_seq ?_
      refine a_region (.cons (o_move rfl) <| .cons (t_len_r rfl rfl) <| .cons (o_move rfl) <| .nil _) (by kernel_rfl) (by kernel_rfl) ?_
      obtain ⟨a22, hL23, hK23⟩ := of_bind hM
      refine a_block ?_
      refine a_fold (fun k21 (s : (List gap_Gap)) => ⟨[(0, .row 10002), (2, .int .i64 x2), (4, .ref 4 0), (19, .int .i64 (List.length v6 : Int)), (20, .int .i64 (k21 : Int))], [(4, some (.blk 50 (api_Event.cs x1))), (10002, some (.row 85 6 (List.map gap_Gap.dv s)))], [4, 10002]⟩) _ hL23 (Imp.of (fun i => bif Nat.beq i 10002 then 10001 else i) (.cons rfl (DLe.refl _) (.cons rfl (DLe.refl _) (.cons rfl (DLe.refl _) (.cons rfl (DLe.refl _) (.cons rfl (DLe.refl _) .nil))))) (.cons rfl (.refl _) (.cons rfl (.refl _) .nil)) rfl rfl rfl) ?_ ?_
      · rintro k21 a22 t24 hk21 hx21 hM
        replace hM : rootcauselaw32_GapHoles_L23 k21 a22 = some t24 := hM
        unfold rootcauselaw32_GapHoles_L23 at hM
        refine a_seq ?_
        refine a_region (.cons (o_int rfl rfl rfl) <| .nil _) (by kernel_rfl) (by kernel_rfl) ?_
        refine a_seq ?_
        refine a_cond _ rfl (fun _ => ?_) (fun c => absurd hk21 (of_decide_eq_false c))
        refine a_skip ?_
        refine a_seq ?_
        refine a_block ?_
        refine a_seq ?_
        refine a_region (.cons (o_move rfl) <| .cons (o_assign rfl) <| .nil _) (by kernel_rfl) (by kernel_rfl) ?_
        obtain ⟨v27, h26, hM⟩ := of_bind hM
        obtain ⟨v29, h28, hM⟩ := of_bind hM
        refine a_region (.cons (o_move rfl) <| .cons (o_move rfl) <| .cons (o_move rfl) <| .cons (o_move rfl) <| .cons (t_index_r h26 rfl rfl rfl) <| .cons (o_fieldAddr_p rfl) <| .cons (t_load_ps h26 rfl rfl rfl rfl) <| .cons (o_max rfl rfl) <| .cons (t_index_r h28 rfl rfl rfl) <| .cons (o_fieldAddr_p rfl) <| .cons (t_store_p (gap_Gap.mk v29.gComponent v29.gFirst v29.gCount v29.gOpen (if (-1099511627776) > v27.gFrom then (-1099511627776) else v27.gFrom) v29.gTo) h28 rfl rfl rfl rfl rfl rfl rfl rfl rfl rfl rfl) <| .nil _) (by kernel_rfl) (by kernel_rfl) ?_
        refine a_region (.cons (o_add rfl rfl (inR_i64 hk21 hx21)) <| .cons (o_move rfl) <| .nil _) (by kernel_rfl) (by kernel_rfl) ?_
        obtain rfl := Option.some.inj hM
        exact (Imp.of (fun i => i) (.cons rfl (DLe.refl _) (.cons rfl (DLe.refl _) (.cons rfl (DLe.refl _) (.cons rfl (DLe.refl _) (.cons rfl (DLe.succ _ _) .nil))))) (.cons rfl (.refl _) (.cons rfl (.refl _) .nil)) rfl rfl rfl)
      · rintro k21 hk21 hx21
        refine a_seq ?_
        refine a_region (.cons (o_int rfl rfl rfl) <| .nil _) (by kernel_rfl) (by kernel_rfl) ?_
        refine a_seq ?_
        refine a_cond _ rfl (fun c => absurd (of_decide_eq_true c) (Int.not_lt.2 hk21)) (fun _ => ?_)
        refine a_exit ?_
        exact ⟨a22, hK23, ((Imp.freeze (id := 10002) rfl).trans (Imp.of (fun i => i) (.cons rfl (DLe.refl _) (.cons rfl (DLe.refl _) (.cons rfl (DLe.refl _) .nil))) (.cons rfl (.refl _) .nil) rfl rfl rfl))⟩
    · rintro a7 hM
      replace hM : rootcauselaw32_GapHoles_K8 x1 x2 a7 = some r := hM
      unfold rootcauselaw32_GapHoles_K8 at hM
      refine a_seq ?_
      obtain ⟨v10, h9, hM⟩ := of_bind hM
      refine a_region (.cons (o_move rfl) <| .cons (o_call (rootcauselaw32_told_c h9) rfl (DLeL.refl _) rfl) <| .cons (o_assign rfl) <| .nil _) (by kernel_rfl) (by kernel_rfl) ?_
      refine a_seq ?_
      obtain ⟨v12, h11, hM⟩ := of_bind hM
      refine a_region (.cons (o_move rfl) <| .cons (o_fieldAddr rfl) <| .cons (o_load_s rfl rfl rfl) <| .cons (o_fieldAddr rfl) <| .cons (o_load_s rfl rfl rfl) <| .cons (o_call (rootcauseref32_Holes_c h11) rfl (DLeL.refl _) rfl) <| .cons (o_assign rfl) <| .nil _) (by kernel_rfl) (by kernel_rfl) ?_
      refine a_seq ?_
      obtain ⟨v14, h13, hM⟩ := of_bind hM
      obtain ⟨v16, h15, hM⟩ := of_bind hM
      obtain ⟨v18, h17, hM⟩ := of_bind hM
      obtain ⟨v20, h19, hM⟩ := of_bind hM
      refine a_draw mixed (.cons (o_move rfl) <| .cons (o_fieldAddr rfl) <| .cons (o_load_s rfl rfl rfl) <| .cons (o_fieldAddr rfl) <| .cons (o_load_s rfl rfl rfl) <| .cons (o_call (gap_Holes_c h13) rfl (DLeL.refl _) rfl) <| .cons (o_move rfl) <| .cons (o_booleq rfl rfl) <| .cons (o_move rfl) <| .cons (o_guardG .bT rfl rfl (fun hb => (.keep .nil)) (fun hb => o_move rfl)) <| .cons (o_guardG .bT rfl rfl (fun hb => (.keep .nil)) (fun hb => o_load_r rfl rfl rfl rfl)) <| .cons (o_guardG .bT rfl rfl (fun hb => (.strip rfl hb (.strip rfl hb .nil))) (fun hb => o_call (gap_Could_c (of_gb h15 hb)) rfl (DLeL.refl _) rfl)) <| .cons (o_guardG .bT rfl rfl (fun hb => (.keep .nil)) (fun hb => o_move rfl)) <| .cons (o_guardG .bT rfl rfl (fun hb => (.strip rfl hb (.strip rfl hb .nil))) (fun hb => o_booleq rfl rfl)) <| .cons (o_and rfl rfl) <| .cons (o_move rfl) <| .cons (o_guardG .bT rfl rfl (fun hb => (.keep .nil)) (fun hb => o_move rfl)) <| .cons (o_guardG .bT rfl rfl (fun hb => (.keep .nil)) (fun hb => o_fieldAddr rfl)) <| .cons (o_guardG .bT rfl rfl (fun hb => (.strip rfl hb .nil)) (fun hb => o_load_s rfl rfl rfl)) <| .cons (o_guardG .bT rfl rfl (fun hb => (.keep .nil)) (fun hb => o_move rfl)) <| .cons (o_guardG .bT rfl rfl (fun hb => (.strip rfl hb (.strip rfl hb (.strip rfl hb .nil)))) (fun hb => o_call (gap_Until_c (of_gb h17 hb)) rfl (DLeL.refl _) rfl)) <| .cons (o_guardG .bT rfl rfl (fun hb => (.keep .nil)) (fun hb => o_move rfl)) <| .cons (o_guardG .bT rfl rfl (fun hb => (.keep .nil)) (fun hb => o_fieldAddr rfl)) <| .cons (o_guardG .bT rfl rfl (fun hb => (.strip rfl hb .nil)) (fun hb => o_load_s rfl rfl rfl)) <| .cons (o_guardG .bT rfl rfl (fun hb => (.keep .nil)) (fun hb => o_move rfl)) <| .cons (o_guardG .bT rfl rfl (fun hb => (.strip rfl hb (.strip rfl hb (.strip rfl hb .nil)))) (fun hb => o_call (rootcauseref32_Until_c (of_gb h19 hb)) rfl (DLeL.refl _) rfl)) <| .cons (o_guardG .bT rfl rfl (fun hb => (.strip rfl hb (.strip rfl hb .nil))) (fun hb => o_int rfl rfl rfl)) <| .cons (o_and rfl rfl) <| .cons (o_assign rfl) <| .nil _) (by kernel_rfl) (by kernel_rfl) (by kernel_rfl) ?_
      obtain rfl := Option.some.inj hM
      exact a_ret (a_post (.r1 (.tmp rfl)) (DLe.refl _) PostOk.nil.spec)

end Go.Proofs.YtepkcbalmjnhpaaGreat
