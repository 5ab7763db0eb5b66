/-
  Models of functions and the proofs that the code computes them, printed by gm.py.
-/
import Derived.Test.YtkadjbpmnpcfhaaGBuA
import Derived.Test.YtkadjbpmnpcfhaaHdRec
set_option maxRecDepth 100000
set_option maxHeartbeats 4000000
set_option linter.unusedVariables false
set_option linter.unusedSimpArgs false
namespace Go.Proofs.Ytkadjbpmnpcfhaa
open Go.RowKit
def math_bits_Mul64 (x0 : Int) (x1 : Int) : Option (Int × Int) :=
  some ((IntKind.wrap .u64 ((IntKind.wrap .u64 ((IntKind.wrap .u64 ((Int.fdiv x0 (2 ^ min (Int.toNat 32) (IntKind.bits .u64))) * (Int.fdiv x1 (2 ^ min (Int.toNat 32) (IntKind.bits .u64))))) + (Int.fdiv (IntKind.wrap .u64 ((IntKind.wrap .u64 ((Int.fdiv x0 (2 ^ min (Int.toNat 32) (IntKind.bits .u64))) * (bitI .and .u64 x1 4294967295))) + (Int.fdiv (IntKind.wrap .u64 ((bitI .and .u64 x0 4294967295) * (bitI .and .u64 x1 4294967295))) (2 ^ min (Int.toNat 32) (IntKind.bits .u64))))) (2 ^ min (Int.toNat 32) (IntKind.bits .u64))))) + (Int.fdiv (IntKind.wrap .u64 ((bitI .and .u64 (IntKind.wrap .u64 ((IntKind.wrap .u64 ((Int.fdiv x0 (2 ^ min (Int.toNat 32) (IntKind.bits .u64))) * (bitI .and .u64 x1 4294967295))) + (Int.fdiv (IntKind.wrap .u64 ((bitI .and .u64 x0 4294967295) * (bitI .and .u64 x1 4294967295))) (2 ^ min (Int.toNat 32) (IntKind.bits .u64))))) 4294967295) + (IntKind.wrap .u64 ((bitI .and .u64 x0 4294967295) * (Int.fdiv x1 (2 ^ min (Int.toNat 32) (IntKind.bits .u64))))))) (2 ^ min (Int.toNat 32) (IntKind.bits .u64))))), (IntKind.wrap .u64 (x0 * x1)))
theorem math_bits_Mul64_c {x0 : Int} {x1 : Int} {r : Int × Int} (hM : math_bits_Mul64 x0 x1 = some r) : PCall Try.prog 79 [.int .u64 x0, .int .u64 x1] (.tup [.int .u64 r.1, .int .u64 r.2]) := by
  unfold math_bits_Mul64 at hM
  refine PCall.body Try.func79 Try.ntmps79 rfl rfl rfl rfl ?_
  refine a_seq ?_
  refine a_region (.cons (o_assign rfl) <| .cons (o_assign rfl) <| .nil _) (by kernel_rfl) (by kernel_rfl) ?_
  refine a_seq ?_
  refine a_region (.cons (o_move rfl) <| .cons (o_int rfl rfl rfl) <| .cons (o_assign rfl) <| .nil _) (by kernel_rfl) (by kernel_rfl) ?_
  refine a_seq ?_
  refine a_region (.cons (o_move rfl) <| .cons (o_shr rfl rfl (by decide)) <| .cons (o_assign rfl) <| .nil _) (by kernel_rfl) (by kernel_rfl) ?_
  refine a_seq ?_
  refine a_region (.cons (o_move rfl) <| .cons (o_int rfl rfl rfl) <| .cons (o_assign rfl) <| .nil _) (by kernel_rfl) (by kernel_rfl) ?_
  refine a_seq ?_
  refine a_region (.cons (o_move rfl) <| .cons (o_shr rfl rfl (by decide)) <| .cons (o_assign rfl) <| .nil _) (by kernel_rfl) (by kernel_rfl) ?_
  refine a_seq ?_
  refine a_region (.cons (o_move rfl) <| .cons (o_move rfl) <| .cons (o_int rfl rfl rfl) <| .cons (o_assign rfl) <| .nil _) (by kernel_rfl) (by kernel_rfl) ?_
  refine a_seq ?_
  refine a_region (.cons (o_move rfl) <| .cons (o_move rfl) <| .cons (o_int rfl rfl rfl) <| .cons (o_move rfl) <| .cons (o_shr rfl rfl (by decide)) <| .cons (o_int rfl rfl rfl) <| .cons (o_assign rfl) <| .nil _) (by kernel_rfl) (by kernel_rfl) ?_
  refine a_seq ?_
  refine a_region (.cons (o_move rfl) <| .cons (o_int rfl rfl rfl) <| .cons (o_assign rfl) <| .nil _) (by kernel_rfl) (by kernel_rfl) ?_
  refine a_seq ?_
  refine a_region (.cons (o_move rfl) <| .cons (o_shr rfl rfl (by decide)) <| .cons (o_assign rfl) <| .nil _) (by kernel_rfl) (by kernel_rfl) ?_
  refine a_seq ?_
  refine a_region (.cons (o_move rfl) <| .cons (o_move rfl) <| .cons (o_move rfl) <| .cons (o_int rfl rfl rfl) <| .cons (o_int rfl rfl rfl) <| .cons (o_assign rfl) <| .nil _) (by kernel_rfl) (by kernel_rfl) ?_
  refine a_seq ?_
  refine a_region (.cons (o_move rfl) <| .cons (o_move rfl) <| .cons (o_int rfl rfl rfl) <| .cons (o_move rfl) <| .cons (o_int rfl rfl rfl) <| .cons (o_move rfl) <| .cons (o_shr rfl rfl (by decide)) <| .cons (o_int rfl rfl rfl) <| .cons (o_assign rfl) <| .nil _) (by kernel_rfl) (by kernel_rfl) ?_
  refine a_seq ?_
  refine a_region (.cons (o_move rfl) <| .cons (o_move rfl) <| .cons (o_int rfl rfl rfl) <| .cons (o_assign rfl) <| .nil _) (by kernel_rfl) (by kernel_rfl) ?_
  obtain rfl := Option.some.inj hM
  exact a_ret (a_post (.r2 (.tmp rfl) (.tmp rfl)) (DLe.refl _) PostOk.nil.spec)

def math_bits_Div64_K2 (x0 : Int) (x1 : Int) (x2 : Int) : Option (Int × Int) :=
  if (x0 == 0) = true then
    chk (dvOk .u64 x1 x2) <|
    chk ((0 : Int) ≤ x1 ∧ (0 : Int) < x2) <|
    some ((x1 / x2), (x1 % x2))
  else
    none
def math_bits_Div64_K1 (x0 : Int) (x1 : Int) (x2 : Int) : Option (Int × Int) :=
  if (decide (x2 ≤ x0)) = true then
    none
  else
    math_bits_Div64_K2 x0 x1 x2
def math_bits_Div64 (x0 : Int) (x1 : Int) (x2 : Int) : Option (Int × Int) :=
  if (x2 == 0) = true then
    none
  else
    math_bits_Div64_K1 x0 x1 x2
theorem math_bits_Div64_c {x0 : Int} {x1 : Int} {x2 : Int} {r : Int × Int} (hM : math_bits_Div64 x0 x1 x2 = some r) : PCall Try.prog 80 [.int .u64 x0, .int .u64 x1, .int .u64 x2] (.tup [.int .u64 r.1, .int .u64 r.2]) := by
  unfold math_bits_Div64 at hM
  refine PCall.body Try.func80 Try.ntmps80 rfl rfl rfl rfl ?_
  refine a_seq ?_
  refine a_region (.cons (o_assign rfl) <| .cons (o_assign rfl) <| .nil _) (by kernel_rfl) (by kernel_rfl) ?_
  refine a_cut (α := Unit) (fun s => ⟨[(0, .int .u64 x0), (1, .int .u64 x1), (2, .int .u64 x2)], [], []⟩) (fun s => math_bits_Div64_K1 x0 x1 x2 = some r) ?_ ?_
  · refine a_seq ?_
    refine a_region (.cons (o_move rfl) <| .cons (o_int rfl rfl rfl) <| .nil _) (by kernel_rfl) (by kernel_rfl) ?_
    refine a_cond _ rfl (fun h7 => ?_) (fun h7 => ?_)
    · replace hM := (of_if hM).1 h7
      cases hM
    · replace hM := (of_if hM).2 h7
      refine a_skip ?_
      exact ⟨(), hM, (Imp.of (fun i => i) (.cons rfl (DLe.refl _) (.cons rfl (DLe.refl _) (.cons rfl (DLe.refl _) .nil))) .nil rfl rfl rfl)⟩
  · rintro _ hM
    replace hM : math_bits_Div64_K1 x0 x1 x2 = some r := hM
    unfold math_bits_Div64_K1 at hM
    refine a_cut (α := Unit) (fun s => ⟨[(0, .int .u64 x0), (1, .int .u64 x1), (2, .int .u64 x2)], [], []⟩) (fun s => math_bits_Div64_K2 x0 x1 x2 = some r) ?_ ?_
    · refine a_seq ?_
      refine a_region (.cons (o_move rfl) <| .cons (o_move rfl) <| .cons (o_int rfl rfl rfl) <| .nil _) (by kernel_rfl) (by kernel_rfl) ?_
      refine a_cond _ rfl (fun h6 => ?_) (fun h6 => ?_)
      · replace hM := (of_if hM).1 h6
        cases hM
      · replace hM := (of_if hM).2 h6
        refine a_skip ?_
        exact ⟨(), hM, (Imp.of (fun i => i) (.cons rfl (DLe.refl _) (.cons rfl (DLe.refl _) (.cons rfl (DLe.refl _) .nil))) .nil rfl rfl rfl)⟩
    · rintro _ hM
      replace hM : math_bits_Div64_K2 x0 x1 x2 = some r := hM
      unfold math_bits_Div64_K2 at hM
      refine a_seq ?_
      refine a_seq ?_
      refine a_region (.cons (o_move rfl) <| .cons (o_int rfl rfl rfl) <| .nil _) (by kernel_rfl) (by kernel_rfl) ?_
      refine a_cond _ rfl (fun h3 => ?_) (fun h3 => ?_)
      · replace hM := (of_if hM).1 h3
        refine a_seq ?_
        obtain ⟨h4, hM⟩ := of_chk hM
        obtain ⟨h5, hM⟩ := of_chk hM
        refine a_draw mixed (.cons (o_move rfl) <| .cons (o_move rfl) <| .cons (o_quo rfl rfl h4) <| .cons (o_move rfl) <| .cons (o_move rfl) <| .cons (o_rem rfl rfl h5) <| .cons (o_assign rfl) <| .cons (o_assign rfl) <| .nil _) (by kernel_rfl) (by kernel_rfl) (by kernel_rfl) ?_
        obtain rfl := Option.some.inj hM
        exact a_ret (a_post (.r2 (.tmp rfl) (.tmp rfl)) (DLe.refl _) PostOk.nil.spec)
      · replace hM := (of_if hM).2 h3
        refine a_skip ?_
        refine a_seq ?_
        cases hM

def budget_share (x0 : Int) (x1 : Int) (x2 : Int) : Option Int :=
  (math_bits_Mul64 (IntKind.wrap .u64 x0) (IntKind.wrap .u64 x1)).bind fun v2 =>
  (math_bits_Div64 v2.1 v2.2 (IntKind.wrap .u64 x2)).bind fun v4 =>
  some (IntKind.wrap .i64 v4.1)
theorem budget_share_c {x0 : Int} {x1 : Int} {x2 : Int} {r : Int} (hM : budget_share x0 x1 x2 = some r) : PCall Try.prog 66 [.int .i64 x0, .int .i64 x1, .int .i64 x2] (.int .i64 r) := by
  unfold budget_share at hM
  refine PCall.body Try.func66 Try.ntmps66 rfl rfl rfl rfl ?_
  refine a_seq ?_
  refine a_region (.cons (o_assign rfl) <| .nil _) (by kernel_rfl) (by kernel_rfl) ?_
  refine a_seq ?_
  obtain ⟨v2, h1, hM⟩ := of_bind hM
  refine a_region (.cons (o_move rfl) <| .cons (o_conv_w rfl) <| .cons (o_move rfl) <| .cons (o_conv_w rfl) <| .cons (o_call (math_bits_Mul64_c h1) rfl (DLeL.refl _) rfl) <| .cons (o_move rfl) <| .cons (o_extract rfl rfl) <| .cons (o_extract rfl rfl) <| .cons (o_assign rfl) <| .cons (o_assign rfl) <| .nil _) (by kernel_rfl) (by kernel_rfl) ?_
  refine a_seq ?_
  obtain ⟨v4, h3, hM⟩ := of_bind hM
  refine a_region (.cons (o_move rfl) <| .cons (o_move rfl) <| .cons (o_move rfl) <| .cons (o_conv_w rfl) <| .cons (o_call (math_bits_Div64_c h3) rfl (DLeL.refl _) rfl) <| .cons (o_move rfl) <| .cons (o_extract rfl rfl) <| .cons (o_extract rfl rfl) <| .cons (o_assign rfl) <| .cons (o_assign rfl) <| .nil _) (by kernel_rfl) (by kernel_rfl) ?_
  refine a_seq ?_
  refine a_region (.cons (o_move rfl) <| .cons (o_conv_w rfl) <| .cons (o_assign rfl) <| .nil _) (by kernel_rfl) (by kernel_rfl) ?_
  obtain rfl := Option.some.inj hM
  exact a_ret (a_post (.r1 (.tmp rfl)) (DLe.refl _) PostOk.nil.spec)

def budget_Spread_K4 (a3 : List Int) : Option (List Int) :=
  some a3
def budget_Spread_L7 (x0 : Int) (x1 : Int) (k5 : Nat) (a6 : List Int) : Option (List Int) :=
  (budget_share (k5 : Int) x0 (if x1 < x0 then x1 else x0)).bind fun v11 =>
  chk (apOk 8 (List.length a6 + List.length [v11])) <|
  some (a6 ++ [v11])
def budget_Spread (x0 : Int) (x1 : Int) : Option (List Int) :=
  if ((decide (x0 < 1)) || (decide (x1 < 1))) = true then
    some ([] : List Int)
  else
    chk (mkOk 8 0 (if x1 < x0 then x1 else x0)) <|
    (foldM' 9223372036854775807 (if x1 < x0 then x1 else x0) (fun k5 s => budget_Spread_L7 x0 x1 k5 s) ([] : List Int)).bind fun s => budget_Spread_K4 s
theorem budget_Spread_c {x0 : Int} {x1 : Int} {r : (List Int)} (hM : budget_Spread x0 x1 = some r) : PCall Try.prog 34 [.int .i64 x0, .int .i64 x1] (.sl 1 (List.map (DV.int .i64) r)) := by
  unfold budget_Spread at hM
  refine PCall.body Try.func34 Try.ntmps34 rfl rfl rfl rfl ?_
  refine a_seq ?_
  refine a_region (.cons (o_assign rfl) <| .nil _) (by kernel_rfl) (by kernel_rfl) ?_
  refine a_seq ?_
  refine a_seq ?_
  refine a_region (.cons (o_move rfl) <| .cons (o_int rfl rfl rfl) <| .cons (o_move rfl) <| .cons (o_guardG .bF rfl rfl (fun hb => (.keep .nil)) (fun hb => o_move rfl)) <| .cons (o_guardG .bF rfl rfl (fun hb => (.strip rfl hb .nil)) (fun hb => o_int rfl rfl rfl)) <| .cons (o_or rfl rfl) <| .nil _) (by kernel_rfl) (by kernel_rfl) ?_
  refine a_cond _ rfl (fun h1 => ?_) (fun h1 => ?_)
  · replace hM := (of_if hM).1 h1
    refine a_seq ?_
    refine a_region (.cons (o_assign rfl) <| .nil _) (by kernel_rfl) (by kernel_rfl) ?_
    obtain rfl := Option.some.inj hM
    exact a_ret (a_post (.r1 (.tmp rfl)) (DLe.nils _) PostOk.nil.spec)
  · replace hM := (of_if hM).2 h1
    refine a_skip ?_
    refine a_seq ?_
    refine a_region (.cons (o_move rfl) <| .cons (o_move rfl) <| .cons (o_min rfl rfl) <| .cons (o_assign rfl) <| .nil _) (by kernel_rfl) (by kernel_rfl) ?_
    refine a_seq ?_
    obtain ⟨h2, hM⟩ := of_chk hM
    refine a_region (.cons (o_move rfl) <| .cons (t_make (DV.int .i64) 0 h2 rfl rfl rfl rfl) <| .cons (o_assign rfl) <| .nil _) (by kernel_rfl) (by kernel_rfl) ?_
    refine a_cut (α := (List Int)) (fun s => ⟨[(5, .sl 1 (List.map (DV.int .i64) s))], [], []⟩) (fun s => budget_Spread_K4 s = some r) ?_ ?_
    · refine a_seq ?_
      refine a_region (.cons (o_move rfl) <| .cons (o_move rfl) <| .nil _) (by kernel_rfl) (by kernel_rfl) ?_
      obtain ⟨a6, hL7, hK7⟩ := of_bind hM
      refine a_block ?_
      refine a_fold (fun k5 s => ⟨[(0, .int .i64 x0), (1, .int .i64 (if x1 < x0 then x1 else x0)), (5, .row 10001), (18, .int .i64 (if x1 < x0 then x1 else x0)), (19, .int .i64 (k5 : Int))], [(10001, some (.row 3 1 (List.map (DV.int .i64) s)))], [10001]⟩) _ hL7 (Imp.of (fun i => bif Nat.beq i 10001 then 17 else i) (.cons rfl (DLe.refl _) (.cons rfl (DLe.refl _) (.cons rfl (DLe.refl _) (.cons rfl (DLe.refl _) (.cons rfl (DLe.refl _) .nil))))) (.cons rfl (.refl _) .nil) rfl rfl rfl) ?_ ?_
      · rintro k5 a6 t8 hk5 hx5 hM
        replace hM : budget_Spread_L7 x0 x1 k5 a6 = some t8 := hM
        unfold budget_Spread_L7 at hM
        refine a_seq ?_
        refine a_region (.cons (o_int rfl rfl rfl) <| .nil _) (by kernel_rfl) (by kernel_rfl) ?_
        refine a_seq ?_
        refine a_cond _ rfl (fun _ => ?_) (fun c => absurd hk5 (of_decide_eq_false c))
        refine a_skip ?_
        refine a_seq ?_
        refine a_block ?_
        refine a_seq ?_
        refine a_region (.cons (o_move rfl) <| .cons (o_assign rfl) <| .nil _) (by kernel_rfl) (by kernel_rfl) ?_
        obtain ⟨v11, h10, hM⟩ := of_bind hM
        obtain ⟨h12, hM⟩ := of_chk hM
        refine a_region (.cons (o_move rfl) <| .cons (o_move rfl) <| .cons (o_move rfl) <| .cons (o_move rfl) <| .cons (o_call (budget_share_c h10) rfl (DLeL.refl _) rfl) <| .cons (t_build (DV.int .i64) ([v11] : List Int) rfl rfl rfl rfl rfl rfl rfl) <| .cons (t_append [v11] h12 rfl rfl rfl (Src.row rfl)) <| .cons (o_assign rfl) <| .nil _) (by kernel_rfl) (by kernel_rfl) ?_
        refine a_region (.cons (o_add rfl rfl (inR_i64 hk5 hx5)) <| .cons (o_move rfl) <| .nil _) (by kernel_rfl) (by kernel_rfl) ?_
        obtain rfl := Option.some.inj hM
        exact (Imp.of (fun i => bif Nat.beq i 10001 then 28 else i) (.cons rfl (DLe.refl _) (.cons rfl (DLe.refl _) (.cons rfl (DLe.refl _) (.cons rfl (DLe.refl _) (.cons rfl (DLe.succ _ _) .nil))))) (.cons rfl (.refl _) .nil) rfl rfl rfl)
      · rintro k5 hk5 hx5
        refine a_seq ?_
        refine a_region (.cons (o_int rfl rfl rfl) <| .nil _) (by kernel_rfl) (by kernel_rfl) ?_
        refine a_seq ?_
        refine a_cond _ rfl (fun c => absurd (of_decide_eq_true c) (Int.not_lt.2 hk5)) (fun _ => ?_)
        refine a_exit ?_
        exact ⟨a6, hK7, ((Imp.freeze (id := 10001) rfl).trans (Imp.of (fun i => i) (.cons rfl (DLe.refl _) .nil) .nil rfl rfl rfl))⟩
    · rintro a3 hM
      replace hM : budget_Spread_K4 a3 = some r := hM
      unfold budget_Spread_K4 at hM
      refine a_seq ?_
      refine a_region (.cons (o_move rfl) <| .cons (o_assign rfl) <| .nil _) (by kernel_rfl) (by kernel_rfl) ?_
      obtain rfl := Option.some.inj hM
      exact a_ret (a_post (.r1 (.tmp rfl)) (DLe.refl _) PostOk.nil.spec)

def budget_most_K1 : Option (Int × Int) :=
  some (0, 0)
def budget_most_K6 (a2 : Int) : Option (Ctl Int ((Unit) ⊕ (Int × Int))) :=
  some (.next (IntKind.wrap .i64 (a2 - 1)))
def budget_most_K8 (x1 : Int) (a2 : Int) (a7 : Int) : Option (Ctl Int ((Unit) ⊕ (Int × Int))) :=
  if (decide (a7 ≤ x1)) = true then
    some (.done (.inr (a2, a7)))
  else
    budget_most_K6 a2
def budget_most_L12 (x0 : List Int) (x1 : Int) (a2 : Int) (a10 : Int) (a11 : Int) : Option (Ctl (Int × Int) Int) :=
  if ((decide (a11 < a2)) && (decide (a10 ≤ x1))) = true then
    (budget_share a11 (List.length x0 : Int) a2).bind fun v16 =>
    (idx x0 v16).bind fun v18 =>
    some (.next ((IntKind.wrap .i64 (a10 + v18)), (IntKind.wrap .i64 (a11 + 1))))
  else
    some (.done a10)
def budget_most_L3 (x0 : List Int) (x1 : Int) (a2 : Int) : Option (Ctl Int ((Unit) ⊕ (Int × Int))) :=
  if (decide (0 < a2)) = true then
    (whileM (E := Int) (fun s => budget_most_L12 x0 x1 a2 s.1 s.2) (0, 0)).bind fun e => budget_most_K8 x1 a2 e
  else
    some (.done (.inl ()))
def budget_most (x0 : List Int) (x1 : Int) : Option (Int × Int) :=
  (whileM (E := (Unit) ⊕ (Int × Int)) (fun s => budget_most_L3 x0 x1 s) (List.length x0 : Int)).bind fun
    | .inl e => budget_most_K1
    | .inr r => some r
theorem budget_most_c {x0 : List Int} {x1 : Int} {r : Int × Int} (hM : budget_most x0 x1 = some r) : PCall Try.prog 67 [.sl 1 (List.map (DV.int .i64) x0), .int .i64 x1] (.tup [.int .i64 r.1, .int .i64 r.2]) := by
  unfold budget_most at hM
  refine PCall.body Try.func67 Try.ntmps67 rfl rfl rfl rfl ?_
  refine a_seq ?_
  refine a_region (.cons (o_assign rfl) <| .cons (o_assign rfl) <| .nil _) (by kernel_rfl) (by kernel_rfl) ?_
  refine a_seq ?_
  refine a_region (.cons (o_move rfl) <| .cons (t_len rfl) <| .cons (o_assign rfl) <| .nil _) (by kernel_rfl) (by kernel_rfl) ?_
  refine a_cut (α := Unit) (fun s => ⟨[], [], []⟩) (fun s => budget_most_K1 = some r) ?_ ?_
  · refine a_seq ?_
    refine a_region (.cons (o_move rfl) <| .cons (o_assign rfl) <| .nil _) (by kernel_rfl) (by kernel_rfl) ?_
    obtain ⟨e3, hL3, hK3⟩ := of_bind hM
    refine a_block ?_
    refine a_while (fun s => ⟨[(0, .sl 1 (List.map (DV.int .i64) x0)), (1, .int .i64 x1), (6, .int .i64 (List.length x0 : Int)), (7, .int .i64 s)], [], []⟩) _ hL3 (Imp.of (fun i => i) (.cons rfl (DLe.refl _) (.cons rfl (DLe.refl _) (.cons rfl (DLe.refl _) (.cons rfl (DLe.refl _) .nil)))) .nil rfl rfl rfl) ?_
    rintro a2 t4 hM hE3
    replace hM : budget_most_L3 x0 x1 a2 = some t4 := hM
    unfold budget_most_L3 at hM
    refine a_seq ?_
    refine a_seq ?_
    refine a_region (.cons (o_move rfl) <| .cons (o_int rfl rfl rfl) <| .nil _) (by kernel_rfl) (by kernel_rfl) ?_
    refine a_cond _ rfl (fun h5 => ?_) (fun h5 => ?_)
    · replace hM := (of_if hM).1 h5
      refine a_skip ?_
      refine a_cut (α := Unit) (fun s => ⟨[(0, .sl 1 (List.map (DV.int .i64) x0)), (1, .int .i64 x1), (6, .int .i64 (List.length x0 : Int)), (7, .int .i64 a2)], [], []⟩) (fun s => budget_most_K6 a2 = some t4) ?_ ?_
      · refine a_block ?_
        refine a_seq ?_
        refine a_region (.cons (o_assign rfl) <| .nil _) (by kernel_rfl) (by kernel_rfl) ?_
        refine a_cut (α := Int) (fun s => ⟨[(0, .sl 1 (List.map (DV.int .i64) x0)), (1, .int .i64 x1), (6, .int .i64 (List.length x0 : Int)), (7, .int .i64 a2), (8, .int .i64 s)], [], []⟩) (fun s => budget_most_K8 x1 a2 s = some t4) ?_ ?_
        · refine a_seq ?_
          refine a_region (.cons (o_assign rfl) <| .nil _) (by kernel_rfl) (by kernel_rfl) ?_
          obtain ⟨e12, hL12, hK12⟩ := of_bind hM
          refine a_block ?_
          refine a_while (fun s => ⟨[(0, .sl 1 (List.map (DV.int .i64) x0)), (1, .int .i64 x1), (6, .int .i64 (List.length x0 : Int)), (7, .int .i64 a2), (8, .int .i64 s.1), (9, .int .i64 s.2)], [], []⟩) _ hL12 (Imp.of (fun i => i) (.cons rfl (DLe.refl _) (.cons rfl (DLe.refl _) (.cons rfl (DLe.refl _) (.cons rfl (DLe.refl _) (.cons rfl (DLe.refl _) (.cons rfl (DLe.refl _) .nil)))))) .nil rfl rfl rfl) ?_
          rintro ⟨a10, a11⟩ t13 hM hE12
          replace hM : budget_most_L12 x0 x1 a2 a10 a11 = some t13 := hM
          unfold budget_most_L12 at hM
          refine a_seq ?_
          refine a_seq ?_
          refine a_region (.cons (o_move rfl) <| .cons (o_move rfl) <| .cons (o_int rfl rfl rfl) <| .cons (o_move rfl) <| .cons (o_guardG .bT rfl rfl (fun hb => (.keep .nil)) (fun hb => o_move rfl)) <| .cons (o_guardG .bT rfl rfl (fun hb => (.keep .nil)) (fun hb => o_move rfl)) <| .cons (o_guardG .bT rfl rfl (fun hb => (.strip rfl hb (.strip rfl hb .nil))) (fun hb => o_int rfl rfl rfl)) <| .cons (o_and rfl rfl) <| .nil _) (by kernel_rfl) (by kernel_rfl) ?_
          refine a_cond _ rfl (fun h14 => ?_) (fun h14 => ?_)
          · replace hM := (of_if hM).1 h14
            refine a_skip ?_
            refine a_seq ?_
            refine a_block ?_
            obtain ⟨v16, h15, hM⟩ := of_bind hM
            obtain ⟨v18, h17, hM⟩ := of_bind hM
            refine a_region (.cons (o_move rfl) <| .cons (o_move rfl) <| .cons (o_move rfl) <| .cons (o_move rfl) <| .cons (o_move rfl) <| .cons (o_call (budget_share_c h15) rfl (DLeL.refl _) rfl) <| .cons (t_index h17 rfl rfl rfl) <| .cons (o_load_es rfl rfl) <| .cons (o_int rfl rfl rfl) <| .cons (o_assign rfl) <| .nil _) (by kernel_rfl) (by kernel_rfl) ?_
            refine a_region (.cons (o_move rfl) <| .cons (o_int rfl rfl rfl) <| .cons (o_assign rfl) <| .nil _) (by kernel_rfl) (by kernel_rfl) ?_
            obtain rfl := Option.some.inj hM
            exact ⟨((IntKind.wrap .i64 (a10 + v18)), (IntKind.wrap .i64 (a11 + 1))), rfl, (Imp.of (fun i => i) (.cons rfl (DLe.refl _) (.cons rfl (DLe.refl _) (.cons rfl (DLe.refl _) (.cons rfl (DLe.refl _) (.cons rfl (DLe.refl _) (.cons rfl (DLe.refl _) .nil)))))) .nil rfl rfl rfl)⟩
          · replace hM := (of_if hM).2 h14
            refine a_exit ?_
            obtain rfl := Option.some.inj hM
            obtain rfl := hE12 _ rfl
            exact ⟨a10, hK12, (Imp.of (fun i => i) (.cons rfl (DLe.refl _) (.cons rfl (DLe.refl _) (.cons rfl (DLe.refl _) (.cons rfl (DLe.refl _) (.cons rfl (DLe.refl _) .nil))))) .nil rfl rfl rfl)⟩
        · rintro a7 hM
          replace hM : budget_most_K8 x1 a2 a7 = some t4 := hM
          unfold budget_most_K8 at hM
          refine a_seq ?_
          refine a_region (.cons (o_move rfl) <| .cons (o_move rfl) <| .cons (o_int rfl rfl rfl) <| .nil _) (by kernel_rfl) (by kernel_rfl) ?_
          refine a_cond _ rfl (fun h9 => ?_) (fun h9 => ?_)
          · replace hM := (of_if hM).1 h9
            refine a_seq ?_
            refine a_region (.cons (o_move rfl) <| .cons (o_move rfl) <| .cons (o_assign rfl) <| .cons (o_assign rfl) <| .nil _) (by kernel_rfl) (by kernel_rfl) ?_
            obtain rfl := Option.some.inj hM
            obtain rfl := hE3 _ rfl
            obtain rfl := Option.some.inj hK3
            exact a_ret (a_post (.r2 (.tmp rfl) (.tmp rfl)) (DLe.refl _) PostOk.nil.spec)
          · replace hM := (of_if hM).2 h9
            refine a_skip ?_
            exact ⟨(), hM, (Imp.of (fun i => i) (.cons rfl (DLe.refl _) (.cons rfl (DLe.refl _) (.cons rfl (DLe.refl _) (.cons rfl (DLe.refl _) .nil)))) .nil rfl rfl rfl)⟩
      · rintro _ hM
        replace hM : budget_most_K6 a2 = some t4 := hM
        unfold budget_most_K6 at hM
        refine a_region (.cons (o_move rfl) <| .cons (o_int rfl rfl rfl) <| .cons (o_assign rfl) <| .nil _) (by kernel_rfl) (by kernel_rfl) ?_
        obtain rfl := Option.some.inj hM
        exact ⟨(IntKind.wrap .i64 (a2 - 1)), rfl, (Imp.of (fun i => i) (.cons rfl (DLe.refl _) (.cons rfl (DLe.refl _) (.cons rfl (DLe.refl _) (.cons rfl (DLe.refl _) .nil)))) .nil rfl rfl rfl)⟩
    · replace hM := (of_if hM).2 h5
      refine a_exit ?_
      obtain rfl := Option.some.inj hM
      obtain rfl := hE3 _ rfl
      exact ⟨(), hK3, (Imp.of (fun i => i) .nil .nil rfl rfl rfl)⟩
  · rintro _ hM
    replace hM : budget_most_K1 = some r := hM
    unfold budget_most_K1 at hM
    refine a_seq ?_
    refine a_region (.cons (o_assign rfl) <| .cons (o_assign rfl) <| .nil _) (by kernel_rfl) (by kernel_rfl) ?_
    obtain rfl := Option.some.inj hM
    exact a_ret (a_post (.r2 (.tmp rfl) (.tmp rfl)) (DLe.refl _) PostOk.nil.spec)

def rootcauseref27_Plan_K7 (a5 : List Bool) (a6 : Int) : Option ((List Bool) × Int) :=
  some (a5, a6)
def rootcauseref27_Plan_K20 (a16 : List Bool) (a17 : Int) (a18 : Int) (a19 : Bool) : Option ((List Bool) × Int × Int × Bool) :=
  some (a16, a17, a18, a19)
def rootcauseref27_Plan_L32 (x0 : List rootcauseref27_Item) (a27 : List Int) (k29 : Nat) (a30 : List Bool) (a31 : Int) : Option ((List Bool) × Int) :=
  (idx a27 (k29 : Int)).bind fun v36 =>
  (idx a30 v36).bind fun v38 =>
  (idx x0 v36).bind fun v40 =>
  some ((List.set a30 (Int.toNat v36) true), (IntKind.wrap .i64 (a31 + v40.gSize)))
def rootcauseref27_Plan_K28 (x0 : List rootcauseref27_Item) (a9 : List Bool) (a10 : Int) (a11 : Int) (a27 : List Int) : Option ((List Bool) × Int × Int × Bool) :=
  (foldM' 9223372036854775807 (List.length a27 : Int) (fun k29 s => rootcauseref27_Plan_L32 x0 a27 k29 s.1 s.2) (a9, a10)).bind fun s => rootcauseref27_Plan_K20 s.1 s.2 a11 false
def rootcauseref27_Plan_K47 (a42 : Int) (a46 : List Int) : Option (Ctl ((List Int) × Int) (List Int)) :=
  some (.next (a46, (IntKind.wrap .i64 (a42 + 1))))
def rootcauseref27_Plan_K49 (x0 : List rootcauseref27_Item) (a11 : Int) (a41 : List Int) (a42 : Int) (a48 : List Int) : Option (Ctl ((List Int) × Int) (List Int)) :=
  (rootcauseref27_total x0 a48).bind fun v51 =>
  if (decide (v51 ≤ a11)) = true then
    rootcauseref27_Plan_K47 a42 a48
  else
    rootcauseref27_Plan_K47 a42 a41
def rootcauseref27_Plan_L57 (a23 : List Int) (v54 : (List Int)) (k55 : Nat) (a56 : List Int) : Option (List Int) :=
  (idx v54 (k55 : Int)).bind fun v61 =>
  (idx a23 v61).bind fun v63 =>
  chk (apOk 8 (List.length a56 + List.length [v63])) <|
  some (a56 ++ [v63])
def rootcauseref27_Plan_L43 (x0 : List rootcauseref27_Item) (a11 : Int) (a23 : List Int) (a41 : List Int) (a42 : Int) : Option (Ctl ((List Int) × Int) (List Int)) :=
  if (decide (a42 < (List.length a23 : Int))) = true then
    (rootcauseref27_Spread (List.length a23 : Int) a42).bind fun v54 =>
    (foldM' 9223372036854775807 (List.length v54 : Int) (fun k55 s => rootcauseref27_Plan_L57 a23 v54 k55 s) ([] : List Int)).bind fun s => rootcauseref27_Plan_K49 x0 a11 a41 a42 s
  else
    some (.done a41)
def rootcauseref27_Plan_K26 (x0 : List rootcauseref27_Item) (a9 : List Bool) (a10 : Int) (a11 : Int) (a23 : List Int) : Option ((List Bool) × Int × Int × Bool) :=
  (whileM (E := (List Int)) (fun s => rootcauseref27_Plan_L43 x0 a11 a23 s.1 s.2) (([] : List Int), 0)).bind fun e => rootcauseref27_Plan_K28 x0 a9 a10 a11 e
def rootcauseref27_Plan_K69 (x0 : List rootcauseref27_Item) (a10 : Int) (a11 : Int) (a12 : Bool) (a23 : List Int) (a68 : List Bool) : Option ((List Bool) × Int × Int × Bool) :=
  (rootcauseref27_total x0 a23).bind fun v71 =>
  (rootcauseref27_total x0 a23).bind fun v73 =>
  rootcauseref27_Plan_K20 a68 (IntKind.wrap .i64 (a10 + v71)) (IntKind.wrap .i64 (a11 - v73)) a12
def rootcauseref27_Plan_L76 (a23 : List Int) (k74 : Nat) (a75 : List Bool) : Option (List Bool) :=
  (idx a23 (k74 : Int)).bind fun v80 =>
  (idx a75 v80).bind fun v82 =>
  some (List.set a75 (Int.toNat v80) true)
def rootcauseref27_Plan_K24 (x0 : List rootcauseref27_Item) (a9 : List Bool) (a10 : Int) (a11 : Int) (a12 : Bool) (a23 : List Int) : Option ((List Bool) × Int × Int × Bool) :=
  if (!a12) = true then
    rootcauseref27_Plan_K20 a9 a10 a11 a12
  else
    (rootcauseref27_total x0 a23).bind fun v66 =>
    if (decide (v66 ≤ a11)) = true then
      (foldM' 9223372036854775807 (List.length a23 : Int) (fun k74 s => rootcauseref27_Plan_L76 a23 k74 s) a9).bind fun s => rootcauseref27_Plan_K69 x0 a10 a11 a12 a23 s
    else
      rootcauseref27_Plan_K26 x0 a9 a10 a11 a23
def rootcauseref27_Plan_L85 (x0 : List rootcauseref27_Item) (v22 : Int) (k83 : Nat) (a84 : List Int) : Option (List Int) :=
  (idx x0 (k83 : Int)).bind fun v89 =>
  if (v89.gClass == v22) = true then
    chk (apOk 8 (List.length a84 + List.length [(k83 : Int)])) <|
    some (a84 ++ [(k83 : Int)])
  else
    some a84
def rootcauseref27_Plan_L13 (x0 : List rootcauseref27_Item) (k8 : Nat) (a9 : List Bool) (a10 : Int) (a11 : Int) (a12 : Bool) : Option ((List Bool) × Int × Int × Bool) :=
  (idx [1, 2, 3, 4, 0] (k8 : Int)).bind fun v22 =>
  (foldM' 9223372036854775807 (List.length x0 : Int) (fun k83 s => rootcauseref27_Plan_L85 x0 v22 k83 s) ([] : List Int)).bind fun s => rootcauseref27_Plan_K24 x0 a9 a10 a11 a12 s
def rootcauseref27_Plan_K4 (x0 : List rootcauseref27_Item) (x1 : Int) (a2 : List Bool) (a3 : Int) : Option ((List Bool) × Int) :=
  (foldM' 9223372036854775807 (List.length [1, 2, 3, 4, 0] : Int) (fun k8 s => rootcauseref27_Plan_L13 x0 k8 s.1 s.2.1 s.2.2.1 s.2.2.2) (a2, a3, (IntKind.wrap .i64 ((if 0 > x1 then 0 else x1) - a3)), true)).bind fun s => rootcauseref27_Plan_K7 s.1 s.2.1
def rootcauseref27_Plan_L95 (x0 : List rootcauseref27_Item) (k92 : Nat) (a93 : List Bool) (a94 : Int) : Option ((List Bool) × Int) :=
  (idx x0 (k92 : Int)).bind fun v99 =>
  if (decide (v99.gClass < 0)) = true then
    (idx a93 (k92 : Int)).bind fun v102 =>
    some ((List.set a93 (Int.toNat (k92 : Int)) true), (IntKind.wrap .i64 (a94 + v99.gSize)))
  else
    some (a93, a94)
def rootcauseref27_Plan (x0 : List rootcauseref27_Item) (x1 : Int) : Option ((List Bool) × Int) :=
  chk (mkOk 1 (List.length x0 : Int) (List.length x0 : Int)) <|
  (foldM' 9223372036854775807 (List.length x0 : Int) (fun k92 s => rootcauseref27_Plan_L95 x0 k92 s.1 s.2) ((List.replicate (Int.toNat (List.length x0 : Int)) false), 0)).bind fun s => rootcauseref27_Plan_K4 x0 x1 s.1 s.2
theorem rootcauseref27_Plan_c {x0 : List rootcauseref27_Item} {x1 : Int} {r : (List Bool) × Int} (hM : rootcauseref27_Plan x0 x1 = some r) : PCall Try.prog 38 [.sl 2 (List.map rootcauseref27_Item.dv x0), .int .i64 x1] (.tup [.sl 1 (List.map DV.bool r.1), .int .i64 r.2]) := by
  unfold rootcauseref27_Plan at hM
  refine PCall.body Try.func38 Try.ntmps38 rfl rfl rfl rfl ?_
  refine a_seq ?_
  refine a_region (.cons (o_assign rfl) <| .cons (o_assign rfl) <| .nil _) (by kernel_rfl) (by kernel_rfl) ?_
  refine a_seq ?_
  obtain ⟨h1, hM⟩ := of_chk hM
  refine a_region (.cons (o_move rfl) <| .cons (t_len rfl) <| .cons (t_make DV.bool false h1 rfl rfl rfl rfl) <| .cons (o_assign rfl) <| .nil _) (by kernel_rfl) (by kernel_rfl) ?_
  refine a_seq ?_
  refine a_region (.cons (o_assign rfl) <| .nil _) (by kernel_rfl) (by kernel_rfl) ?_
  refine a_seq ?_
  refine a_region (.cons (o_move rfl) <| .cons (o_max rfl rfl) <| .cons (o_assign rfl) <| .nil _) (by kernel_rfl) (by kernel_rfl) ?_
  refine a_cut (α := (List Bool) × Int) (fun s => ⟨[(0, .sl 2 (List.map rootcauseref27_Item.dv x0)), (6, .row 10001), (7, .int .i64 s.2), (8, .int .i64 (if 0 > x1 then 0 else x1))], [(10001, some (.row 4 1 (List.map DV.bool s.1)))], [10001]⟩) (fun s => rootcauseref27_Plan_K4 x0 x1 s.1 s.2 = some r) ?_ ?_
  · refine a_seq ?_
    refine a_region (.cons (o_move rfl) <| .cons (t_len rfl) <| .cons (o_move rfl) <| .nil _) (by kernel_rfl) (by kernel_rfl) ?_
    obtain ⟨⟨a93, a94⟩, hL95, hK95⟩ := of_bind hM
    refine a_block ?_
    refine a_fold (fun k92 s => ⟨[(0, .sl 2 (List.map rootcauseref27_Item.dv x0)), (6, .row 10019), (7, .int .i64 s.2), (8, .int .i64 (if 0 > x1 then 0 else x1)), (31, .sl 2 (List.map rootcauseref27_Item.dv x0)), (32, .int .i64 (List.length x0 : Int)), (33, .int .i64 (k92 : Int))], [(10019, some (.row 4 1 (List.map DV.bool s.1)))], [10019]⟩) _ hL95 (Imp.of (fun i => bif Nat.beq i 10019 then 28 else i) (.cons rfl (DLe.refl _) (.cons rfl (DLe.refl _) (.cons rfl (DLe.refl _) (.cons rfl (DLe.refl _) (.cons rfl (DLe.refl _) (.cons rfl (DLe.refl _) (.cons rfl (DLe.refl _) .nil))))))) (.cons rfl (.refl _) .nil) rfl rfl rfl) ?_ ?_
    · rintro k92 ⟨a93, a94⟩ t96 hk92 hx92 hM
      replace hM : rootcauseref27_Plan_L95 x0 k92 a93 a94 = some t96 := hM
      unfold rootcauseref27_Plan_L95 at hM
      refine a_seq ?_
      refine a_region (.cons (o_int rfl rfl rfl) <| .nil _) (by kernel_rfl) (by kernel_rfl) ?_
      refine a_seq ?_
      refine a_cond _ rfl (fun _ => ?_) (fun c => absurd hk92 (of_decide_eq_false c))
      refine a_skip ?_
      refine a_seq ?_
      refine a_block ?_
      refine a_seq ?_
      obtain ⟨v99, h98, hM⟩ := of_bind hM
      refine a_region (.cons (o_move rfl) <| .cons (t_index h98 rfl rfl rfl) <| .cons (o_load_er rfl rfl rfl) <| .cons (o_alloc rfl) <| .cons (o_assign rfl) <| .cons (o_store rfl rfl rfl rfl rfl rfl rfl) <| .nil _) (by kernel_rfl) (by kernel_rfl) ?_
      refine a_seq ?_
      refine a_region (.cons (o_fieldAddr rfl) <| .cons (o_load_s rfl rfl rfl) <| .cons (o_int rfl rfl rfl) <| .nil _) (by kernel_rfl) (by kernel_rfl) ?_
      refine a_cond _ rfl (fun h100 => ?_) (fun h100 => ?_)
      · replace hM := (of_if hM).1 h100
        refine a_seq ?_
        obtain ⟨v102, h101, hM⟩ := of_bind hM
        refine a_region (.cons (o_move rfl) <| .cons (o_move rfl) <| .cons (t_index_r h101 rfl rfl rfl) <| .cons (t_store_p true h101 rfl rfl rfl rfl rfl rfl rfl rfl rfl rfl rfl) <| .nil _) (by kernel_rfl) (by kernel_rfl) ?_
        refine a_region (.cons (o_move rfl) <| .cons (o_fieldAddr rfl) <| .cons (o_load_s rfl rfl rfl) <| .cons (o_int rfl rfl rfl) <| .cons (o_assign rfl) <| .nil _) (by kernel_rfl) (by kernel_rfl) ?_
        refine a_region (.cons (o_add rfl rfl (inR_i64 hk92 hx92)) <| .cons (o_move rfl) <| .nil _) (by kernel_rfl) (by kernel_rfl) ?_
        obtain rfl := Option.some.inj hM
        exact (Imp.of (fun i => i) (.cons rfl (DLe.refl _) (.cons rfl (DLe.refl _) (.cons rfl (DLe.refl _) (.cons rfl (DLe.refl _) (.cons rfl (DLe.refl _) (.cons rfl (DLe.refl _) (.cons rfl (DLe.succ _ _) .nil))))))) (.cons rfl (.refl _) .nil) rfl rfl rfl)
      · replace hM := (of_if hM).2 h100
        refine a_skip ?_
        refine a_region (.cons (o_add rfl rfl (inR_i64 hk92 hx92)) <| .cons (o_move rfl) <| .nil _) (by kernel_rfl) (by kernel_rfl) ?_
        obtain rfl := Option.some.inj hM
        exact (Imp.of (fun i => i) (.cons rfl (DLe.refl _) (.cons rfl (DLe.refl _) (.cons rfl (DLe.refl _) (.cons rfl (DLe.refl _) (.cons rfl (DLe.refl _) (.cons rfl (DLe.refl _) (.cons rfl (DLe.succ _ _) .nil))))))) (.cons rfl (.refl _) .nil) rfl rfl rfl)
    · rintro k92 hk92 hx92
      refine a_seq ?_
      refine a_region (.cons (o_int rfl rfl rfl) <| .nil _) (by kernel_rfl) (by kernel_rfl) ?_
      refine a_seq ?_
      refine a_cond _ rfl (fun c => absurd (of_decide_eq_true c) (Int.not_lt.2 hk92)) (fun _ => ?_)
      refine a_exit ?_
      exact ⟨(a93, a94), hK95, (Imp.of (fun i => bif Nat.beq i 10001 then 10019 else i) (.cons rfl (DLe.refl _) (.cons rfl (DLe.refl _) (.cons rfl (DLe.refl _) (.cons rfl (DLe.refl _) .nil)))) (.cons rfl (.refl _) .nil) rfl rfl rfl)⟩
  · rintro ⟨a2, a3⟩ hM
    replace hM : rootcauseref27_Plan_K4 x0 x1 a2 a3 = some r := hM
    unfold rootcauseref27_Plan_K4 at hM
    refine a_seq ?_
    refine a_region (.cons (o_move rfl) <| .cons (o_move rfl) <| .cons (o_int rfl rfl rfl) <| .cons (o_assign rfl) <| .nil _) (by kernel_rfl) (by kernel_rfl) ?_
    refine a_seq ?_
    refine a_region (.cons (o_assign rfl) <| .nil _) (by kernel_rfl) (by kernel_rfl) ?_
    refine a_cut (α := (List Bool) × Int) (fun s => ⟨[(6, .sl 1 (List.map DV.bool s.1)), (7, .int .i64 s.2)], [], []⟩) (fun s => rootcauseref27_Plan_K7 s.1 s.2 = some r) ?_ ?_
    · refine a_seq ?_
      refine a_region (.cons (t_build (DV.int .i64) ([1, 2, 3, 4, 0] : List Int) rfl rfl rfl rfl rfl rfl rfl) <| .cons (t_len_r rfl rfl) <| .cons (o_move rfl) <| .nil _) (by kernel_rfl) (by kernel_rfl) ?_
      obtain ⟨⟨a9, a10, a11, a12⟩, hL13, hK13⟩ := of_bind hM
      refine a_block ?_
      refine a_fold (fun k8 s => ⟨[(0, .sl 2 (List.map rootcauseref27_Item.dv x0)), (6, .row 10002), (7, .int .i64 s.2.1), (8, .int .i64 s.2.2.1), (11, .bool s.2.2.2), (52, .sl 1 (List.map (DV.int .i64) [1, 2, 3, 4, 0])), (53, .int .i64 (List.length [1, 2, 3, 4, 0] : Int)), (54, .int .i64 (k8 : Int))], [(10002, some (.row 4 1 (List.map DV.bool s.1)))], [10002]⟩) _ hL13 ((Imp.freeze (id := 52) rfl).trans (Imp.of (fun i => bif Nat.beq i 10002 then 10001 else i) (.cons rfl (DLe.refl _) (.cons rfl (DLe.refl _) (.cons rfl (DLe.refl _) (.cons rfl (DLe.refl _) (.cons rfl (DLe.refl _) (.cons rfl (DLe.refl _) (.cons rfl (DLe.refl _) (.cons rfl (DLe.refl _) .nil)))))))) (.cons rfl (.refl _) .nil) rfl rfl rfl)) ?_ ?_
      · rintro k8 ⟨a9, a10, a11, a12⟩ t14 hk8 hx8 hM
        replace hM : rootcauseref27_Plan_L13 x0 k8 a9 a10 a11 a12 = some t14 := hM
        unfold rootcauseref27_Plan_L13 at hM
        refine a_seq ?_
        refine a_region (.cons (o_int rfl rfl rfl) <| .nil _) (by kernel_rfl) (by kernel_rfl) ?_
        refine a_seq ?_
        refine a_cond _ rfl (fun _ => ?_) (fun c => absurd hk8 (of_decide_eq_false c))
        refine a_skip ?_
        refine a_cut (α := (List Bool) × Int × Int × Bool) (fun s => ⟨[(0, .sl 2 (List.map rootcauseref27_Item.dv x0)), (6, .row 10003), (7, .int .i64 s.2.1), (8, .int .i64 s.2.2.1), (11, .bool s.2.2.2), (52, .sl 1 (List.map (DV.int .i64) [1, 2, 3, 4, 0])), (53, .int .i64 (List.length [1, 2, 3, 4, 0] : Int)), (54, .int .i64 (k8 : Int))], [(10003, some (.row 4 1 (List.map DV.bool s.1)))], [10003]⟩) (fun s => rootcauseref27_Plan_K20 s.1 s.2.1 s.2.2.1 s.2.2.2 = some t14) ?_ ?_
        · refine a_block ?_
          refine a_seq ?_
          obtain ⟨v22, h21, hM⟩ := of_bind hM
          refine a_region (.cons (t_index h21 rfl rfl rfl) <| .cons (o_load_es rfl rfl) <| .cons (o_assign rfl) <| .nil _) (by kernel_rfl) (by kernel_rfl) ?_
          refine a_seq ?_
          refine a_region (.cons (o_assign rfl) <| .nil _) (by kernel_rfl) (by kernel_rfl) ?_
          refine a_cut (α := (List Int)) (fun s => ⟨[(0, .sl 2 (List.map rootcauseref27_Item.dv x0)), (6, .row 10004), (7, .int .i64 a10), (8, .int .i64 a11), (11, .bool a12), (14, .sl 1 (List.map (DV.int .i64) s)), (52, .sl 1 (List.map (DV.int .i64) [1, 2, 3, 4, 0])), (53, .int .i64 (List.length [1, 2, 3, 4, 0] : Int)), (54, .int .i64 (k8 : Int))], [(10004, some (.row 4 1 (List.map DV.bool a9)))], [10004]⟩) (fun s => rootcauseref27_Plan_K24 x0 a9 a10 a11 a12 s = some t14) ?_ ?_
          · refine a_seq ?_
            refine a_region (.cons (o_move rfl) <| .cons (t_len rfl) <| .cons (o_move rfl) <| .nil _) (by kernel_rfl) (by kernel_rfl) ?_
            obtain ⟨a84, hL85, hK85⟩ := of_bind hM
            refine a_block ?_
            refine a_fold (fun k83 s => ⟨[(0, .sl 2 (List.map rootcauseref27_Item.dv x0)), (6, .row 10016), (7, .int .i64 a10), (8, .int .i64 a11), (11, .bool a12), (13, .int .i64 v22), (14, .row 10017), (52, .sl 1 (List.map (DV.int .i64) [1, 2, 3, 4, 0])), (53, .int .i64 (List.length [1, 2, 3, 4, 0] : Int)), (54, .int .i64 (k8 : Int)), (58, .sl 2 (List.map rootcauseref27_Item.dv x0)), (59, .int .i64 (List.length x0 : Int)), (60, .int .i64 (k83 : Int))], [(10016, some (.row 4 1 (List.map DV.bool a9))), (10017, some (.row 3 1 (List.map (DV.int .i64) s)))], [10016, 10017]⟩) _ hL85 ((Imp.nilRow (t := 14) (id := 10018) 3 1 rfl rfl).trans (Imp.of (fun i => bif Nat.beq i 10017 then 10018 else bif Nat.beq i 10016 then 10002 else i) (.cons rfl (DLe.refl _) (.cons rfl (DLe.refl _) (.cons rfl (DLe.refl _) (.cons rfl (DLe.refl _) (.cons rfl (DLe.refl _) (.cons rfl (DLe.refl _) (.cons rfl (DLe.refl _) (.cons rfl (DLe.refl _) (.cons rfl (DLe.refl _) (.cons rfl (DLe.refl _) (.cons rfl (DLe.refl _) (.cons rfl (DLe.refl _) (.cons rfl (DLe.refl _) .nil))))))))))))) (.cons rfl (.refl _) (.cons rfl (.refl _) .nil)) rfl rfl rfl)) ?_ ?_
            · rintro k83 a84 t86 hk83 hx83 hM
              replace hM : rootcauseref27_Plan_L85 x0 v22 k83 a84 = some t86 := hM
              unfold rootcauseref27_Plan_L85 at hM
              refine a_seq ?_
              refine a_region (.cons (o_int rfl rfl rfl) <| .nil _) (by kernel_rfl) (by kernel_rfl) ?_
              refine a_seq ?_
              refine a_cond _ rfl (fun _ => ?_) (fun c => absurd hk83 (of_decide_eq_false c))
              refine a_skip ?_
              refine a_seq ?_
              refine a_block ?_
              refine a_seq ?_
              obtain ⟨v89, h88, hM⟩ := of_bind hM
              refine a_region (.cons (o_move rfl) <| .cons (t_index h88 rfl rfl rfl) <| .cons (o_load_er rfl rfl rfl) <| .cons (o_alloc rfl) <| .cons (o_assign rfl) <| .cons (o_store rfl rfl rfl rfl rfl rfl rfl) <| .nil _) (by kernel_rfl) (by kernel_rfl) ?_
              refine a_seq ?_
              refine a_region (.cons (o_fieldAddr rfl) <| .cons (o_load_s rfl rfl rfl) <| .cons (o_move rfl) <| .cons (o_int rfl rfl rfl) <| .nil _) (by kernel_rfl) (by kernel_rfl) ?_
              refine a_cond _ rfl (fun h90 => ?_) (fun h90 => ?_)
              · replace hM := (of_if hM).1 h90
                obtain ⟨h91, hM⟩ := of_chk hM
                refine a_region (.cons (o_move rfl) <| .cons (o_move rfl) <| .cons (t_build (DV.int .i64) ([(k83 : Int)] : List Int) rfl rfl rfl rfl rfl rfl rfl) <| .cons (t_append [(k83 : Int)] h91 rfl rfl rfl (Src.row rfl)) <| .cons (o_assign rfl) <| .nil _) (by kernel_rfl) (by kernel_rfl) ?_
                refine a_region (.cons (o_add rfl rfl (inR_i64 hk83 hx83)) <| .cons (o_move rfl) <| .nil _) (by kernel_rfl) (by kernel_rfl) ?_
                obtain rfl := Option.some.inj hM
                exact (Imp.of (fun i => bif Nat.beq i 10017 then 72 else i) (.cons rfl (DLe.refl _) (.cons rfl (DLe.refl _) (.cons rfl (DLe.refl _) (.cons rfl (DLe.refl _) (.cons rfl (DLe.refl _) (.cons rfl (DLe.refl _) (.cons rfl (DLe.refl _) (.cons rfl (DLe.refl _) (.cons rfl (DLe.refl _) (.cons rfl (DLe.refl _) (.cons rfl (DLe.refl _) (.cons rfl (DLe.refl _) (.cons rfl (DLe.succ _ _) .nil))))))))))))) (.cons rfl (.refl _) (.cons rfl (.refl _) .nil)) rfl rfl rfl)
              · replace hM := (of_if hM).2 h90
                refine a_skip ?_
                refine a_region (.cons (o_add rfl rfl (inR_i64 hk83 hx83)) <| .cons (o_move rfl) <| .nil _) (by kernel_rfl) (by kernel_rfl) ?_
                obtain rfl := Option.some.inj hM
                exact (Imp.of (fun i => i) (.cons rfl (DLe.refl _) (.cons rfl (DLe.refl _) (.cons rfl (DLe.refl _) (.cons rfl (DLe.refl _) (.cons rfl (DLe.refl _) (.cons rfl (DLe.refl _) (.cons rfl (DLe.refl _) (.cons rfl (DLe.refl _) (.cons rfl (DLe.refl _) (.cons rfl (DLe.refl _) (.cons rfl (DLe.refl _) (.cons rfl (DLe.refl _) (.cons rfl (DLe.succ _ _) .nil))))))))))))) (.cons rfl (.refl _) (.cons rfl (.refl _) .nil)) rfl rfl rfl)
            · rintro k83 hk83 hx83
              refine a_seq ?_
              refine a_region (.cons (o_int rfl rfl rfl) <| .nil _) (by kernel_rfl) (by kernel_rfl) ?_
              refine a_seq ?_
              refine a_cond _ rfl (fun c => absurd (of_decide_eq_true c) (Int.not_lt.2 hk83)) (fun _ => ?_)
              refine a_exit ?_
              exact ⟨a84, hK85, ((Imp.freeze (id := 10017) rfl).trans (Imp.of (fun i => bif Nat.beq i 10004 then 10016 else i) (.cons rfl (DLe.refl _) (.cons rfl (DLe.refl _) (.cons rfl (DLe.refl _) (.cons rfl (DLe.refl _) (.cons rfl (DLe.refl _) (.cons rfl (DLe.refl _) (.cons rfl (DLe.refl _) (.cons rfl (DLe.refl _) (.cons rfl (DLe.refl _) .nil))))))))) (.cons rfl (.refl _) .nil) rfl rfl rfl))⟩
          · rintro a23 hM
            replace hM : rootcauseref27_Plan_K24 x0 a9 a10 a11 a12 a23 = some t14 := hM
            unfold rootcauseref27_Plan_K24 at hM
            refine a_seq ?_
            refine a_seq ?_
            refine a_region (.cons (o_move rfl) <| .cons (o_not rfl) <| .nil _) (by kernel_rfl) (by kernel_rfl) ?_
            refine a_cond _ rfl (fun h25 => ?_) (fun h25 => ?_)
            · replace hM := (of_if hM).1 h25
              refine a_exit ?_
              exact ⟨(a9, a10, a11, a12), hM, (Imp.of (fun i => bif Nat.beq i 10003 then 10004 else i) (.cons rfl (DLe.refl _) (.cons rfl (DLe.refl _) (.cons rfl (DLe.refl _) (.cons rfl (DLe.refl _) (.cons rfl (DLe.refl _) (.cons rfl (DLe.refl _) (.cons rfl (DLe.refl _) (.cons rfl (DLe.refl _) .nil)))))))) (.cons rfl (.refl _) .nil) rfl rfl rfl)⟩
            · replace hM := (of_if hM).2 h25
              refine a_skip ?_
              refine a_cut (α := Unit) (fun s => ⟨[(0, .sl 2 (List.map rootcauseref27_Item.dv x0)), (6, .row 10005), (7, .int .i64 a10), (8, .int .i64 a11), (14, .sl 1 (List.map (DV.int .i64) a23)), (52, .sl 1 (List.map (DV.int .i64) [1, 2, 3, 4, 0])), (53, .int .i64 (List.length [1, 2, 3, 4, 0] : Int)), (54, .int .i64 (k8 : Int))], [(10005, some (.row 4 1 (List.map DV.bool a9)))], [10005]⟩) (fun s => rootcauseref27_Plan_K26 x0 a9 a10 a11 a23 = some t14) ?_ ?_
              · refine a_seq ?_
                obtain ⟨v66, h65, hM⟩ := of_bind hM
                refine a_region (.cons (o_move rfl) <| .cons (o_move rfl) <| .cons (o_call (rootcauseref27_total_c h65) rfl (DLeL.refl _) rfl) <| .cons (o_move rfl) <| .cons (o_int rfl rfl rfl) <| .nil _) (by kernel_rfl) (by kernel_rfl) ?_
                refine a_cond _ rfl (fun h67 => ?_) (fun h67 => ?_)
                · replace hM := (of_if hM).1 h67
                  refine a_cut (α := (List Bool)) (fun s => ⟨[(0, .sl 2 (List.map rootcauseref27_Item.dv x0)), (6, .row 10014), (7, .int .i64 a10), (8, .int .i64 a11), (11, .bool a12), (14, .sl 1 (List.map (DV.int .i64) a23)), (52, .sl 1 (List.map (DV.int .i64) [1, 2, 3, 4, 0])), (53, .int .i64 (List.length [1, 2, 3, 4, 0] : Int)), (54, .int .i64 (k8 : Int))], [(10014, some (.row 4 1 (List.map DV.bool s)))], [10014]⟩) (fun s => rootcauseref27_Plan_K69 x0 a10 a11 a12 a23 s = some t14) ?_ ?_
                  · refine a_seq ?_
                    refine a_region (.cons (o_move rfl) <| .cons (t_len rfl) <| .cons (o_move rfl) <| .nil _) (by kernel_rfl) (by kernel_rfl) ?_
                    obtain ⟨a75, hL76, hK76⟩ := of_bind hM
                    refine a_block ?_
                    refine a_fold (fun k74 s => ⟨[(0, .sl 2 (List.map rootcauseref27_Item.dv x0)), (6, .row 10015), (7, .int .i64 a10), (8, .int .i64 a11), (11, .bool a12), (14, .sl 1 (List.map (DV.int .i64) a23)), (52, .sl 1 (List.map (DV.int .i64) [1, 2, 3, 4, 0])), (53, .int .i64 (List.length [1, 2, 3, 4, 0] : Int)), (54, .int .i64 (k8 : Int)), (81, .sl 1 (List.map (DV.int .i64) a23)), (82, .int .i64 (List.length a23 : Int)), (83, .int .i64 (k74 : Int))], [(10015, some (.row 4 1 (List.map DV.bool s)))], [10015]⟩) _ hL76 (Imp.of (fun i => bif Nat.beq i 10015 then 10004 else i) (.cons rfl (DLe.refl _) (.cons rfl (DLe.refl _) (.cons rfl (DLe.refl _) (.cons rfl (DLe.refl _) (.cons rfl (DLe.refl _) (.cons rfl (DLe.refl _) (.cons rfl (DLe.refl _) (.cons rfl (DLe.refl _) (.cons rfl (DLe.refl _) (.cons rfl (DLe.refl _) (.cons rfl (DLe.refl _) (.cons rfl (DLe.refl _) .nil)))))))))))) (.cons rfl (.refl _) .nil) rfl rfl rfl) ?_ ?_
                    · rintro k74 a75 t77 hk74 hx74 hM
                      replace hM : rootcauseref27_Plan_L76 a23 k74 a75 = some t77 := hM
                      unfold rootcauseref27_Plan_L76 at hM
                      refine a_seq ?_
                      refine a_region (.cons (o_int rfl rfl rfl) <| .nil _) (by kernel_rfl) (by kernel_rfl) ?_
                      refine a_seq ?_
                      refine a_cond _ rfl (fun _ => ?_) (fun c => absurd hk74 (of_decide_eq_false c))
                      refine a_skip ?_
                      refine a_seq ?_
                      refine a_block ?_
                      refine a_seq ?_
                      obtain ⟨v80, h79, hM⟩ := of_bind hM
                      refine a_region (.cons (t_index h79 rfl rfl rfl) <| .cons (o_load_es rfl rfl) <| .cons (o_assign rfl) <| .nil _) (by kernel_rfl) (by kernel_rfl) ?_
                      obtain ⟨v82, h81, hM⟩ := of_bind hM
                      refine a_region (.cons (o_move rfl) <| .cons (o_move rfl) <| .cons (t_index_r h81 rfl rfl rfl) <| .cons (t_store_p true h81 rfl rfl rfl rfl rfl rfl rfl rfl rfl rfl rfl) <| .nil _) (by kernel_rfl) (by kernel_rfl) ?_
                      refine a_region (.cons (o_add rfl rfl (inR_i64 hk74 hx74)) <| .cons (o_move rfl) <| .nil _) (by kernel_rfl) (by kernel_rfl) ?_
                      obtain rfl := Option.some.inj hM
                      exact (Imp.of (fun i => i) (.cons rfl (DLe.refl _) (.cons rfl (DLe.refl _) (.cons rfl (DLe.refl _) (.cons rfl (DLe.refl _) (.cons rfl (DLe.refl _) (.cons rfl (DLe.refl _) (.cons rfl (DLe.refl _) (.cons rfl (DLe.refl _) (.cons rfl (DLe.refl _) (.cons rfl (DLe.refl _) (.cons rfl (DLe.refl _) (.cons rfl (DLe.succ _ _) .nil)))))))))))) (.cons rfl (.refl _) .nil) rfl rfl rfl)
                    · rintro k74 hk74 hx74
                      refine a_seq ?_
                      refine a_region (.cons (o_int rfl rfl rfl) <| .nil _) (by kernel_rfl) (by kernel_rfl) ?_
                      refine a_seq ?_
                      refine a_cond _ rfl (fun c => absurd (of_decide_eq_true c) (Int.not_lt.2 hk74)) (fun _ => ?_)
                      refine a_exit ?_
                      exact ⟨a75, hK76, (Imp.of (fun i => bif Nat.beq i 10014 then 10015 else i) (.cons rfl (DLe.refl _) (.cons rfl (DLe.refl _) (.cons rfl (DLe.refl _) (.cons rfl (DLe.refl _) (.cons rfl (DLe.refl _) (.cons rfl (DLe.refl _) (.cons rfl (DLe.refl _) (.cons rfl (DLe.refl _) (.cons rfl (DLe.refl _) .nil))))))))) (.cons rfl (.refl _) .nil) rfl rfl rfl)⟩
                  · rintro a68 hM
                    replace hM : rootcauseref27_Plan_K69 x0 a10 a11 a12 a23 a68 = some t14 := hM
                    unfold rootcauseref27_Plan_K69 at hM
                    refine a_seq ?_
                    obtain ⟨v71, h70, hM⟩ := of_bind hM
                    refine a_region (.cons (o_move rfl) <| .cons (o_move rfl) <| .cons (o_move rfl) <| .cons (o_call (rootcauseref27_total_c h70) rfl (DLeL.refl _) rfl) <| .cons (o_int rfl rfl rfl) <| .cons (o_assign rfl) <| .nil _) (by kernel_rfl) (by kernel_rfl) ?_
                    refine a_seq ?_
                    obtain ⟨v73, h72, hM⟩ := of_bind hM
                    refine a_region (.cons (o_move rfl) <| .cons (o_move rfl) <| .cons (o_move rfl) <| .cons (o_call (rootcauseref27_total_c h72) rfl (DLeL.refl _) rfl) <| .cons (o_int rfl rfl rfl) <| .cons (o_assign rfl) <| .nil _) (by kernel_rfl) (by kernel_rfl) ?_
                    refine a_exit ?_
                    exact ⟨(a68, (IntKind.wrap .i64 (a10 + v71)), (IntKind.wrap .i64 (a11 - v73)), a12), hM, (Imp.of (fun i => bif Nat.beq i 10003 then 10014 else i) (.cons rfl (DLe.refl _) (.cons rfl (DLe.refl _) (.cons rfl (DLe.refl _) (.cons rfl (DLe.refl _) (.cons rfl (DLe.refl _) (.cons rfl (DLe.refl _) (.cons rfl (DLe.refl _) (.cons rfl (DLe.refl _) .nil)))))))) (.cons rfl (.refl _) .nil) rfl rfl rfl)⟩
                · replace hM := (of_if hM).2 h67
                  refine a_skip ?_
                  exact ⟨(), hM, (Imp.of (fun i => bif Nat.beq i 10005 then 10004 else i) (.cons rfl (DLe.refl _) (.cons rfl (DLe.refl _) (.cons rfl (DLe.refl _) (.cons rfl (DLe.refl _) (.cons rfl (DLe.refl _) (.cons rfl (DLe.refl _) (.cons rfl (DLe.refl _) (.cons rfl (DLe.refl _) .nil)))))))) (.cons rfl (.refl _) .nil) rfl rfl rfl)⟩
              · rintro _ hM
                replace hM : rootcauseref27_Plan_K26 x0 a9 a10 a11 a23 = some t14 := hM
                unfold rootcauseref27_Plan_K26 at hM
                refine a_seq ?_
                refine a_region (.cons (o_assign rfl) <| .nil _) (by kernel_rfl) (by kernel_rfl) ?_
                refine a_seq ?_
                refine a_region (.cons (t_build (DV.int .i64) ([] : List Int) rfl rfl rfl rfl rfl rfl rfl) <| .cons (o_assign rfl) <| .nil _) (by kernel_rfl) (by kernel_rfl) ?_
                refine a_cut (α := (List Int)) (fun s => ⟨[(0, .sl 2 (List.map rootcauseref27_Item.dv x0)), (6, .row 10006), (7, .int .i64 a10), (8, .int .i64 a11), (11, .bool false), (19, .sl 1 (List.map (DV.int .i64) s)), (52, .sl 1 (List.map (DV.int .i64) [1, 2, 3, 4, 0])), (53, .int .i64 (List.length [1, 2, 3, 4, 0] : Int)), (54, .int .i64 (k8 : Int))], [(10006, some (.row 4 1 (List.map DV.bool a9)))], [10006]⟩) (fun s => rootcauseref27_Plan_K28 x0 a9 a10 a11 s = some t14) ?_ ?_
                · refine a_seq ?_
                  refine a_region (.cons (o_assign rfl) <| .nil _) (by kernel_rfl) (by kernel_rfl) ?_
                  obtain ⟨e43, hL43, hK43⟩ := of_bind hM
                  refine a_block ?_
                  refine a_while (fun s => ⟨[(0, .sl 2 (List.map rootcauseref27_Item.dv x0)), (6, .row 10008), (7, .int .i64 a10), (8, .int .i64 a11), (11, .bool false), (14, .sl 1 (List.map (DV.int .i64) a23)), (19, .sl 1 (List.map (DV.int .i64) s.1)), (20, .int .i64 s.2), (52, .sl 1 (List.map (DV.int .i64) [1, 2, 3, 4, 0])), (53, .int .i64 (List.length [1, 2, 3, 4, 0] : Int)), (54, .int .i64 (k8 : Int))], [(10008, some (.row 4 1 (List.map DV.bool a9)))], [10008]⟩) _ hL43 ((Imp.freeze (id := 101) rfl).trans (Imp.of (fun i => bif Nat.beq i 10008 then 10005 else i) (.cons rfl (DLe.refl _) (.cons rfl (DLe.refl _) (.cons rfl (DLe.refl _) (.cons rfl (DLe.refl _) (.cons rfl (DLe.refl _) (.cons rfl (DLe.refl _) (.cons rfl (DLe.refl _) (.cons rfl (DLe.refl _) (.cons rfl (DLe.refl _) (.cons rfl (DLe.refl _) (.cons rfl (DLe.refl _) .nil))))))))))) (.cons rfl (.refl _) .nil) rfl rfl rfl)) ?_
                  rintro ⟨a41, a42⟩ t44 hM hE43
                  replace hM : rootcauseref27_Plan_L43 x0 a11 a23 a41 a42 = some t44 := hM
                  unfold rootcauseref27_Plan_L43 at hM
                  refine a_seq ?_
                  refine a_seq ?_
                  refine a_region (.cons (o_move rfl) <| .cons (o_move rfl) <| .cons (t_len rfl) <| .cons (o_int rfl rfl rfl) <| .nil _) (by kernel_rfl) (by kernel_rfl) ?_
                  refine a_cond _ rfl (fun h45 => ?_) (fun h45 => ?_)
                  · replace hM := (of_if hM).1 h45
                    refine a_skip ?_
                    refine a_cut (α := (List Int)) (fun s => ⟨[(0, .sl 2 (List.map rootcauseref27_Item.dv x0)), (6, .row 10009), (7, .int .i64 a10), (8, .int .i64 a11), (11, .bool false), (14, .sl 1 (List.map (DV.int .i64) a23)), (19, .sl 1 (List.map (DV.int .i64) s)), (20, .int .i64 a42), (52, .sl 1 (List.map (DV.int .i64) [1, 2, 3, 4, 0])), (53, .int .i64 (List.length [1, 2, 3, 4, 0] : Int)), (54, .int .i64 (k8 : Int))], [(10009, some (.row 4 1 (List.map DV.bool a9)))], [10009]⟩) (fun s => rootcauseref27_Plan_K47 a42 s = some t44) ?_ ?_
                    · refine a_block ?_
                      refine a_seq ?_
                      refine a_region (.cons (o_assign rfl) <| .nil _) (by kernel_rfl) (by kernel_rfl) ?_
                      refine a_cut (α := (List Int)) (fun s => ⟨[(0, .sl 2 (List.map rootcauseref27_Item.dv x0)), (6, .row 10010), (7, .int .i64 a10), (8, .int .i64 a11), (11, .bool false), (14, .sl 1 (List.map (DV.int .i64) a23)), (19, .sl 1 (List.map (DV.int .i64) a41)), (20, .int .i64 a42), (21, .sl 1 (List.map (DV.int .i64) s)), (52, .sl 1 (List.map (DV.int .i64) [1, 2, 3, 4, 0])), (53, .int .i64 (List.length [1, 2, 3, 4, 0] : Int)), (54, .int .i64 (k8 : Int))], [(10010, some (.row 4 1 (List.map DV.bool a9)))], [10010]⟩) (fun s => rootcauseref27_Plan_K49 x0 a11 a41 a42 s = some t44) ?_ ?_
                      · refine a_seq ?_
                        obtain ⟨v54, h53, hM⟩ := of_bind hM
                        refine a_region (.cons (o_move rfl) <| .cons (t_len rfl) <| .cons (o_move rfl) <| .cons (o_call (rootcauseref27_Spread_c h53) rfl (DLeL.refl _) rfl) <| .cons (t_len rfl) <| .cons (o_move rfl) <| .nil _) (by kernel_rfl) (by kernel_rfl) ?_
                        obtain ⟨a56, hL57, hK57⟩ := of_bind hM
                        refine a_block ?_
                        refine a_fold (fun k55 s => ⟨[(0, .sl 2 (List.map rootcauseref27_Item.dv x0)), (6, .row 10011), (7, .int .i64 a10), (8, .int .i64 a11), (11, .bool false), (14, .sl 1 (List.map (DV.int .i64) a23)), (19, .sl 1 (List.map (DV.int .i64) a41)), (20, .int .i64 a42), (21, .row 10012), (52, .sl 1 (List.map (DV.int .i64) [1, 2, 3, 4, 0])), (53, .int .i64 (List.length [1, 2, 3, 4, 0] : Int)), (54, .int .i64 (k8 : Int)), (111, .sl 1 (List.map (DV.int .i64) v54)), (112, .int .i64 (List.length v54 : Int)), (113, .int .i64 (k55 : Int))], [(10011, some (.row 4 1 (List.map DV.bool a9))), (10012, some (.row 3 1 (List.map (DV.int .i64) s)))], [10011, 10012]⟩) _ hL57 ((Imp.nilRow (t := 21) (id := 10013) 3 1 rfl rfl).trans (Imp.of (fun i => bif Nat.beq i 10012 then 10013 else bif Nat.beq i 10011 then 10008 else i) (.cons rfl (DLe.refl _) (.cons rfl (DLe.refl _) (.cons rfl (DLe.refl _) (.cons rfl (DLe.refl _) (.cons rfl (DLe.refl _) (.cons rfl (DLe.refl _) (.cons rfl (DLe.refl _) (.cons rfl (DLe.refl _) (.cons rfl (DLe.refl _) (.cons rfl (DLe.refl _) (.cons rfl (DLe.refl _) (.cons rfl (DLe.refl _) (.cons rfl (DLe.refl _) (.cons rfl (DLe.refl _) (.cons rfl (DLe.refl _) .nil))))))))))))))) (.cons rfl (.refl _) (.cons rfl (.refl _) .nil)) rfl rfl rfl)) ?_ ?_
                        · rintro k55 a56 t58 hk55 hx55 hM
                          replace hM : rootcauseref27_Plan_L57 a23 v54 k55 a56 = some t58 := hM
                          unfold rootcauseref27_Plan_L57 at hM
                          refine a_seq ?_
                          refine a_region (.cons (o_int rfl rfl rfl) <| .nil _) (by kernel_rfl) (by kernel_rfl) ?_
                          refine a_seq ?_
                          refine a_cond _ rfl (fun _ => ?_) (fun c => absurd hk55 (of_decide_eq_false c))
                          refine a_skip ?_
                          refine a_seq ?_
                          refine a_block ?_
                          refine a_seq ?_
                          obtain ⟨v61, h60, hM⟩ := of_bind hM
                          refine a_region (.cons (t_index h60 rfl rfl rfl) <| .cons (o_load_es rfl rfl) <| .cons (o_assign rfl) <| .nil _) (by kernel_rfl) (by kernel_rfl) ?_
                          obtain ⟨v63, h62, hM⟩ := of_bind hM
                          obtain ⟨h64, hM⟩ := of_chk hM
                          refine a_region (.cons (o_move rfl) <| .cons (o_move rfl) <| .cons (o_move rfl) <| .cons (t_index h62 rfl rfl rfl) <| .cons (o_load_es rfl rfl) <| .cons (t_build (DV.int .i64) ([v63] : List Int) rfl rfl rfl rfl rfl rfl rfl) <| .cons (t_append [v63] h64 rfl rfl rfl (Src.row rfl)) <| .cons (o_assign rfl) <| .nil _) (by kernel_rfl) (by kernel_rfl) ?_
                          refine a_region (.cons (o_add rfl rfl (inR_i64 hk55 hx55)) <| .cons (o_move rfl) <| .nil _) (by kernel_rfl) (by kernel_rfl) ?_
                          obtain rfl := Option.some.inj hM
                          exact (Imp.of (fun i => bif Nat.beq i 10012 then 123 else i) (.cons rfl (DLe.refl _) (.cons rfl (DLe.refl _) (.cons rfl (DLe.refl _) (.cons rfl (DLe.refl _) (.cons rfl (DLe.refl _) (.cons rfl (DLe.refl _) (.cons rfl (DLe.refl _) (.cons rfl (DLe.refl _) (.cons rfl (DLe.refl _) (.cons rfl (DLe.refl _) (.cons rfl (DLe.refl _) (.cons rfl (DLe.refl _) (.cons rfl (DLe.refl _) (.cons rfl (DLe.refl _) (.cons rfl (DLe.succ _ _) .nil))))))))))))))) (.cons rfl (.refl _) (.cons rfl (.refl _) .nil)) rfl rfl rfl)
                        · rintro k55 hk55 hx55
                          refine a_seq ?_
                          refine a_region (.cons (o_int rfl rfl rfl) <| .nil _) (by kernel_rfl) (by kernel_rfl) ?_
                          refine a_seq ?_
                          refine a_cond _ rfl (fun c => absurd (of_decide_eq_true c) (Int.not_lt.2 hk55)) (fun _ => ?_)
                          refine a_exit ?_
                          exact ⟨a56, hK57, ((Imp.freeze (id := 10012) rfl).trans (Imp.of (fun i => bif Nat.beq i 10010 then 10011 else i) (.cons rfl (DLe.refl _) (.cons rfl (DLe.refl _) (.cons rfl (DLe.refl _) (.cons rfl (DLe.refl _) (.cons rfl (DLe.refl _) (.cons rfl (DLe.refl _) (.cons rfl (DLe.refl _) (.cons rfl (DLe.refl _) (.cons rfl (DLe.refl _) (.cons rfl (DLe.refl _) (.cons rfl (DLe.refl _) (.cons rfl (DLe.refl _) .nil)))))))))))) (.cons rfl (.refl _) .nil) rfl rfl rfl))⟩
                      · rintro a48 hM
                        replace hM : rootcauseref27_Plan_K49 x0 a11 a41 a42 a48 = some t44 := hM
                        unfold rootcauseref27_Plan_K49 at hM
                        refine a_seq ?_
                        obtain ⟨v51, h50, hM⟩ := of_bind hM
                        refine a_region (.cons (o_move rfl) <| .cons (o_move rfl) <| .cons (o_call (rootcauseref27_total_c h50) rfl (DLeL.refl _) rfl) <| .cons (o_move rfl) <| .cons (o_int rfl rfl rfl) <| .nil _) (by kernel_rfl) (by kernel_rfl) ?_
                        refine a_cond _ rfl (fun h52 => ?_) (fun h52 => ?_)
                        · replace hM := (of_if hM).1 h52
                          refine a_region (.cons (o_move rfl) <| .cons (o_assign rfl) <| .nil _) (by kernel_rfl) (by kernel_rfl) ?_
                          exact ⟨a48, hM, (Imp.of (fun i => bif Nat.beq i 10009 then 10010 else i) (.cons rfl (DLe.refl _) (.cons rfl (DLe.refl _) (.cons rfl (DLe.refl _) (.cons rfl (DLe.refl _) (.cons rfl (DLe.refl _) (.cons rfl (DLe.refl _) (.cons rfl (DLe.refl _) (.cons rfl (DLe.refl _) (.cons rfl (DLe.refl _) (.cons rfl (DLe.refl _) (.cons rfl (DLe.refl _) .nil))))))))))) (.cons rfl (.refl _) .nil) rfl rfl rfl)⟩
                        · replace hM := (of_if hM).2 h52
                          refine a_skip ?_
                          exact ⟨a41, hM, (Imp.of (fun i => bif Nat.beq i 10009 then 10010 else i) (.cons rfl (DLe.refl _) (.cons rfl (DLe.refl _) (.cons rfl (DLe.refl _) (.cons rfl (DLe.refl _) (.cons rfl (DLe.refl _) (.cons rfl (DLe.refl _) (.cons rfl (DLe.refl _) (.cons rfl (DLe.refl _) (.cons rfl (DLe.refl _) (.cons rfl (DLe.refl _) (.cons rfl (DLe.refl _) .nil))))))))))) (.cons rfl (.refl _) .nil) rfl rfl rfl)⟩
                    · rintro a46 hM
                      replace hM : rootcauseref27_Plan_K47 a42 a46 = some t44 := hM
                      unfold rootcauseref27_Plan_K47 at hM
                      refine a_region (.cons (o_move rfl) <| .cons (o_int rfl rfl rfl) <| .cons (o_assign rfl) <| .nil _) (by kernel_rfl) (by kernel_rfl) ?_
                      obtain rfl := Option.some.inj hM
                      exact ⟨(a46, (IntKind.wrap .i64 (a42 + 1))), rfl, (Imp.of (fun i => bif Nat.beq i 10008 then 10009 else i) (.cons rfl (DLe.refl _) (.cons rfl (DLe.refl _) (.cons rfl (DLe.refl _) (.cons rfl (DLe.refl _) (.cons rfl (DLe.refl _) (.cons rfl (DLe.refl _) (.cons rfl (DLe.refl _) (.cons rfl (DLe.refl _) (.cons rfl (DLe.refl _) (.cons rfl (DLe.refl _) (.cons rfl (DLe.refl _) .nil))))))))))) (.cons rfl (.refl _) .nil) rfl rfl rfl)⟩
                  · replace hM := (of_if hM).2 h45
                    refine a_exit ?_
                    obtain rfl := Option.some.inj hM
                    obtain rfl := hE43 _ rfl
                    exact ⟨a41, hK43, (Imp.of (fun i => bif Nat.beq i 10006 then 10008 else i) (.cons rfl (DLe.refl _) (.cons rfl (DLe.refl _) (.cons rfl (DLe.refl _) (.cons rfl (DLe.refl _) (.cons rfl (DLe.refl _) (.cons rfl (DLe.refl _) (.cons rfl (DLe.refl _) (.cons rfl (DLe.refl _) (.cons rfl (DLe.refl _) .nil))))))))) (.cons rfl (.refl _) .nil) rfl rfl rfl)⟩
                · rintro a27 hM
                  replace hM : rootcauseref27_Plan_K28 x0 a9 a10 a11 a27 = some t14 := hM
                  unfold rootcauseref27_Plan_K28 at hM
                  refine a_seq ?_
                  refine a_region (.cons (o_move rfl) <| .cons (t_len rfl) <| .cons (o_move rfl) <| .nil _) (by kernel_rfl) (by kernel_rfl) ?_
                  obtain ⟨⟨a30, a31⟩, hL32, hK32⟩ := of_bind hM
                  refine a_block ?_
                  refine a_fold (fun k29 s => ⟨[(0, .sl 2 (List.map rootcauseref27_Item.dv x0)), (6, .row 10007), (7, .int .i64 s.2), (8, .int .i64 a11), (11, .bool false), (52, .sl 1 (List.map (DV.int .i64) [1, 2, 3, 4, 0])), (53, .int .i64 (List.length [1, 2, 3, 4, 0] : Int)), (54, .int .i64 (k8 : Int)), (131, .sl 1 (List.map (DV.int .i64) a27)), (132, .int .i64 (List.length a27 : Int)), (133, .int .i64 (k29 : Int))], [(10007, some (.row 4 1 (List.map DV.bool s.1)))], [10007]⟩) _ hL32 (Imp.of (fun i => bif Nat.beq i 10007 then 10006 else i) (.cons rfl (DLe.refl _) (.cons rfl (DLe.refl _) (.cons rfl (DLe.refl _) (.cons rfl (DLe.refl _) (.cons rfl (DLe.refl _) (.cons rfl (DLe.refl _) (.cons rfl (DLe.refl _) (.cons rfl (DLe.refl _) (.cons rfl (DLe.refl _) (.cons rfl (DLe.refl _) (.cons rfl (DLe.refl _) .nil))))))))))) (.cons rfl (.refl _) .nil) rfl rfl rfl) ?_ ?_
                  · rintro k29 ⟨a30, a31⟩ t33 hk29 hx29 hM
                    replace hM : rootcauseref27_Plan_L32 x0 a27 k29 a30 a31 = some t33 := hM
                    unfold rootcauseref27_Plan_L32 at hM
                    refine a_seq ?_
                    refine a_region (.cons (o_int rfl rfl rfl) <| .nil _) (by kernel_rfl) (by kernel_rfl) ?_
                    refine a_seq ?_
                    refine a_cond _ rfl (fun _ => ?_) (fun c => absurd hk29 (of_decide_eq_false c))
                    refine a_skip ?_
                    refine a_seq ?_
                    refine a_block ?_
                    refine a_seq ?_
                    obtain ⟨v36, h35, hM⟩ := of_bind hM
                    refine a_region (.cons (t_index h35 rfl rfl rfl) <| .cons (o_load_es rfl rfl) <| .cons (o_assign rfl) <| .nil _) (by kernel_rfl) (by kernel_rfl) ?_
                    refine a_seq ?_
                    obtain ⟨v38, h37, hM⟩ := of_bind hM
                    refine a_region (.cons (o_move rfl) <| .cons (o_move rfl) <| .cons (t_index_r h37 rfl rfl rfl) <| .cons (t_store_p true h37 rfl rfl rfl rfl rfl rfl rfl rfl rfl rfl rfl) <| .nil _) (by kernel_rfl) (by kernel_rfl) ?_
                    obtain ⟨v40, h39, hM⟩ := of_bind hM
                    refine a_region (.cons (o_move rfl) <| .cons (o_move rfl) <| .cons (o_move rfl) <| .cons (t_index h39 rfl rfl rfl) <| .cons (o_fieldAddr_e rfl rfl) <| .cons (o_load_es rfl rfl) <| .cons (o_int rfl rfl rfl) <| .cons (o_assign rfl) <| .nil _) (by kernel_rfl) (by kernel_rfl) ?_
                    refine a_region (.cons (o_add rfl rfl (inR_i64 hk29 hx29)) <| .cons (o_move rfl) <| .nil _) (by kernel_rfl) (by kernel_rfl) ?_
                    obtain rfl := Option.some.inj hM
                    exact (Imp.of (fun i => i) (.cons rfl (DLe.refl _) (.cons rfl (DLe.refl _) (.cons rfl (DLe.refl _) (.cons rfl (DLe.refl _) (.cons rfl (DLe.refl _) (.cons rfl (DLe.refl _) (.cons rfl (DLe.refl _) (.cons rfl (DLe.refl _) (.cons rfl (DLe.refl _) (.cons rfl (DLe.refl _) (.cons rfl (DLe.succ _ _) .nil))))))))))) (.cons rfl (.refl _) .nil) rfl rfl rfl)
                  · rintro k29 hk29 hx29
                    refine a_seq ?_
                    refine a_region (.cons (o_int rfl rfl rfl) <| .nil _) (by kernel_rfl) (by kernel_rfl) ?_
                    refine a_seq ?_
                    refine a_cond _ rfl (fun c => absurd (of_decide_eq_true c) (Int.not_lt.2 hk29)) (fun _ => ?_)
                    refine a_exit ?_
                    exact ⟨(a30, a31, a11, false), hK32, (Imp.of (fun i => bif Nat.beq i 10003 then 10007 else i) (.cons rfl (DLe.refl _) (.cons rfl (DLe.refl _) (.cons rfl (DLe.refl _) (.cons rfl (DLe.refl _) (.cons rfl (DLe.refl _) (.cons rfl (DLe.refl _) (.cons rfl (DLe.refl _) (.cons rfl (DLe.refl _) .nil)))))))) (.cons rfl (.refl _) .nil) rfl rfl rfl)⟩
        · rintro ⟨a16, a17, a18, a19⟩ hM
          replace hM : rootcauseref27_Plan_K20 a16 a17 a18 a19 = some t14 := hM
          unfold rootcauseref27_Plan_K20 at hM
          refine a_region (.cons (o_add rfl rfl (inR_i64 hk8 hx8)) <| .cons (o_move rfl) <| .nil _) (by kernel_rfl) (by kernel_rfl) ?_
          obtain rfl := Option.some.inj hM
          exact (Imp.of (fun i => bif Nat.beq i 10002 then 10003 else i) (.cons rfl (DLe.refl _) (.cons rfl (DLe.refl _) (.cons rfl (DLe.refl _) (.cons rfl (DLe.refl _) (.cons rfl (DLe.refl _) (.cons rfl (DLe.refl _) (.cons rfl (DLe.refl _) (.cons rfl (DLe.succ _ _) .nil)))))))) (.cons rfl (.refl _) .nil) rfl rfl rfl)
      · rintro k8 hk8 hx8
        refine a_seq ?_
        refine a_region (.cons (o_int rfl rfl rfl) <| .nil _) (by kernel_rfl) (by kernel_rfl) ?_
        refine a_seq ?_
        refine a_cond _ rfl (fun c => absurd (of_decide_eq_true c) (Int.not_lt.2 hk8)) (fun _ => ?_)
        refine a_exit ?_
        exact ⟨(a9, a10), hK13, ((Imp.freeze (id := 10002) rfl).trans (Imp.of (fun i => i) (.cons rfl (DLe.refl _) (.cons rfl (DLe.refl _) .nil)) .nil rfl rfl rfl))⟩
    · rintro ⟨a5, a6⟩ hM
      replace hM : rootcauseref27_Plan_K7 a5 a6 = some r := hM
      unfold rootcauseref27_Plan_K7 at hM
      refine a_seq ?_
      refine a_region (.cons (o_move rfl) <| .cons (o_move rfl) <| .cons (o_assign rfl) <| .cons (o_assign rfl) <| .nil _) (by kernel_rfl) (by kernel_rfl) ?_
      obtain rfl := Option.some.inj hM
      exact a_ret (a_post (.r2 (.tmp rfl) (.tmp rfl)) (DLe.refl _) PostOk.nil.spec)

def rootcauselaw27_records_K3 (a1 : List record_Record) (a2 : List rootcauseref27_Item) : Option ((List record_Record) × (List rootcauseref27_Item)) :=
  some (a1, a2)
def rootcauselaw27_records_K12 (a10 : List record_Record) (a11 : List rootcauseref27_Item) : Option (Ctl ((List record_Record) × (List rootcauseref27_Item)) ((List record_Record) × (List rootcauseref27_Item))) :=
  some (.next (a10, a11))
def rootcauselaw27_records_K29 (k4 : Nat) (a5 : List record_Record) (a6 : List rootcauseref27_Item) (a16 : Int) (a17 : Int) (a18 : Int) (a19 : Int) (a20 : Int) (a21 : Int) (a22 : List Int) (a23 : Int) (v27 : Int) (a28 : Int) : Option (Ctl ((List record_Record) × (List rootcauseref27_Item)) ((List record_Record) × (List rootcauseref27_Item))) :=
  chk (apOk 16 (List.length a6 + List.length [(rootcauseref27_Item.mk a28 v27)])) <|
  rootcauselaw27_records_K12 (a5 ++ [(record_Record.mk 1 (IntKind.wrap .u64 (k4 : Int)) (vclock_Clock.mk (arr 0 [0, 0, 0, 0, 0, 0, 0, 0, 0, 0, 0, 0, 0, 0, 0, 0])) a16 (api_Event.mk a17 a18 a19 0 0 a20 0 a21 a22) a23)]) (a6 ++ [(rootcauseref27_Item.mk a28 v27)])
def rootcauselaw27_records_K24 (k4 : Nat) (a5 : List record_Record) (a6 : List rootcauseref27_Item) (a16 : Int) (a17 : Int) (a18 : Int) (a19 : Int) (a20 : Int) (a21 : Int) (a22 : List Int) (a23 : Int) : Option (Ctl ((List record_Record) × (List rootcauseref27_Item)) ((List record_Record) × (List rootcauseref27_Item))) :=
  chk (apOk 248 (List.length a5 + List.length [(record_Record.mk 1 (IntKind.wrap .u64 (k4 : Int)) (vclock_Clock.mk (arr 0 [0, 0, 0, 0, 0, 0, 0, 0, 0, 0, 0, 0, 0, 0, 0, 0])) a16 (api_Event.mk a17 a18 a19 0 0 a20 0 a21 a22) a23)])) <|
  (record_Size (record_Record.mk 1 (IntKind.wrap .u64 (k4 : Int)) (vclock_Clock.mk (arr 0 [0, 0, 0, 0, 0, 0, 0, 0, 0, 0, 0, 0, 0, 0, 0, 0])) a16 (api_Event.mk a17 a18 a19 0 0 a20 0 a21 a22) a23)).bind fun v27 =>
  if (a16 == 1) = true then
    (rootcauseref27_Of (api_Event.mk a17 a18 a19 0 0 a20 0 a21 a22)).bind fun v33 =>
    rootcauselaw27_records_K29 k4 a5 a6 a16 a17 a18 a19 a20 a21 a22 a23 v27 v33
  else
    rootcauselaw27_records_K29 k4 a5 a6 a16 a17 a18 a19 a20 a21 a22 a23 v27 (-1)
def rootcauselaw27_records_K40 (k4 : Nat) (a5 : List record_Record) (a6 : List rootcauseref27_Item) (v14 : rootcauselaw27_Raw) (a39 : Int) : Option (Ctl ((List record_Record) × (List rootcauseref27_Item)) ((List record_Record) × (List rootcauseref27_Item))) :=
  chk (slOk (List.length v14.gArgs) 0 (if 4 < (List.length v14.gArgs : Int) then 4 else (List.length v14.gArgs : Int))) <|
  chk (apOk 8 (List.length (List.take (Int.toNat (if 4 < (List.length v14.gArgs : Int) then 4 else (List.length v14.gArgs : Int))) v14.gArgs))) <|
  rootcauselaw27_records_K24 k4 a5 a6 1 ((IntKind.wrap .i64 v14.gTick) % 201) 1 (IntKind.wrap .u8 (1 + (v14.gKind % 11))) a39 (IntKind.wrap .i64 v14.gKind) (List.take (Int.toNat (if 4 < (List.length v14.gArgs : Int) then 4 else (List.length v14.gArgs : Int))) v14.gArgs) 0
def rootcauselaw27_records_L7 (x0 : List rootcauselaw27_Raw) (k4 : Nat) (a5 : List record_Record) (a6 : List rootcauseref27_Item) : Option (Ctl ((List record_Record) × (List rootcauseref27_Item)) ((List record_Record) × (List rootcauseref27_Item))) :=
  (idx x0 (k4 : Int)).bind fun v14 =>
  if ((k4 : Int) == 40) = true then
    some (.done (a5, a6))
  else
    chk ((0 : Int) ≤ v14.gWhat ∧ (0 : Int) < 12) <|
    if ((v14.gWhat % 12) == 10) = true then
      rootcauselaw27_records_K24 k4 a5 a6 2 0 0 0 0 0 ([] : List Int) (IntKind.wrap .u64 (1 + (IntKind.wrap .u64 v14.gTick)))
    else
      if ((v14.gWhat % 12) == 11) = true then
        rootcauselaw27_records_K24 k4 a5 a6 3 0 0 0 0 0 ([] : List Int) 0
      else
        chk ((0 : Int) ≤ (IntKind.wrap .i64 v14.gTick) ∧ (0 : Int) < 201) <|
        chk ((0 : Int) ≤ v14.gKind ∧ (0 : Int) < 11) <|
        if v14.gFailed = true then
          rootcauselaw27_records_K40 k4 a5 a6 v14 1
        else
          rootcauselaw27_records_K40 k4 a5 a6 v14 0
def rootcauselaw27_records (x0 : List rootcauselaw27_Raw) : Option ((List record_Record) × (List rootcauseref27_Item)) :=
  (forM' (E := (List record_Record) × (List rootcauseref27_Item)) 9223372036854775807 (List.length x0 : Int) (fun k4 s => rootcauselaw27_records_L7 x0 k4 s.1 s.2) (([] : List record_Record), ([] : List rootcauseref27_Item))).bind fun
    | .next s => rootcauselaw27_records_K3 s.1 s.2
    | .done e => rootcauselaw27_records_K3 e.1 e.2
theorem rootcauselaw27_records_c {x0 : List rootcauselaw27_Raw} {r : (List record_Record) × (List rootcauseref27_Item)} (hM : rootcauselaw27_records x0 = some r) : PCall Try.prog 36 [.sl 5 (List.map rootcauselaw27_Raw.dv x0)] (.tup [.sl 29 (List.map record_Record.dv r.1), .sl 2 (List.map rootcauseref27_Item.dv r.2)]) := by
  unfold rootcauselaw27_records at hM
  refine PCall.body Try.func36 Try.ntmps36 rfl rfl rfl rfl ?_
  refine a_seq ?_
  refine a_region (.cons (o_assign rfl) <| .cons (o_assign rfl) <| .nil _) (by kernel_rfl) (by kernel_rfl) ?_
  refine a_seq ?_
  refine a_region (.cons (o_assign rfl) <| .nil _) (by kernel_rfl) (by kernel_rfl) ?_
  refine a_seq ?_
  refine a_region (.cons (o_assign rfl) <| .nil _) (by kernel_rfl) (by kernel_rfl) ?_
  refine a_cut (α := (List record_Record) × (List rootcauseref27_Item)) (fun s => ⟨[(4, .sl 29 (List.map record_Record.dv s.1)), (5, .sl 2 (List.map rootcauseref27_Item.dv s.2))], [], []⟩) (fun s => rootcauselaw27_records_K3 s.1 s.2 = some r) ?_ ?_
  · refine a_seq ?_
    refine a_region (.cons (o_move rfl) <| .cons (t_len rfl) <| .cons (o_move rfl) <| .nil _) (by kernel_rfl) (by kernel_rfl) ?_
    obtain ⟨t7, hL7, hK7⟩ := of_bind hM
    refine a_block ?_
    refine a_for (fun k4 s => ⟨[(4, .row 10001), (5, .row 10002), (10, .sl 5 (List.map rootcauselaw27_Raw.dv x0)), (11, .int .i64 (List.length x0 : Int)), (12, .int .i64 (k4 : Int))], [(10001, some (.row 37 29 (List.map record_Record.dv s.1))), (10002, some (.row 75 2 (List.map rootcauseref27_Item.dv s.2)))], [10001, 10002]⟩) _ hL7 ((Imp.nilRow (t := 4) (id := 10014) 37 29 rfl rfl).trans ((Imp.nilRow (t := 5) (id := 10015) 75 2 rfl rfl).trans (Imp.of (fun i => bif Nat.beq i 10002 then 10015 else bif Nat.beq i 10001 then 10014 else i) (.cons rfl (DLe.refl _) (.cons rfl (DLe.refl _) (.cons rfl (DLe.refl _) (.cons rfl (DLe.refl _) (.cons rfl (DLe.refl _) .nil))))) (.cons rfl (.refl _) (.cons rfl (.refl _) .nil)) rfl rfl rfl))) ?_ ?_
    · rintro k4 ⟨a5, a6⟩ t8 hk4 hx4 hM hE7
      replace hM : rootcauselaw27_records_L7 x0 k4 a5 a6 = some t8 := hM
      unfold rootcauselaw27_records_L7 at hM
      refine a_seq ?_
      refine a_region (.cons (o_int rfl rfl rfl) <| .nil _) (by kernel_rfl) (by kernel_rfl) ?_
      refine a_seq ?_
      refine a_cond _ rfl (fun _ => ?_) (fun c => absurd hk4 (of_decide_eq_false c))
      refine a_skip ?_
      refine a_cut (α := (List record_Record) × (List rootcauseref27_Item)) (fun s => ⟨[(4, .row 10003), (5, .row 10004), (10, .sl 5 (List.map rootcauselaw27_Raw.dv x0)), (11, .int .i64 (List.length x0 : Int)), (12, .int .i64 (k4 : Int))], [(10003, some (.row 37 29 (List.map record_Record.dv s.1))), (10004, some (.row 75 2 (List.map rootcauseref27_Item.dv s.2)))], [10003, 10004]⟩) (fun s => rootcauselaw27_records_K12 s.1 s.2 = some t8) ?_ ?_
      · refine a_block ?_
        refine a_seq ?_
        obtain ⟨v14, h13, hM⟩ := of_bind hM
        refine a_region (.cons (o_move rfl) <| .cons (t_index h13 rfl rfl rfl) <| .cons (o_load_er rfl rfl rfl) <| .cons (o_alloc rfl) <| .cons (o_assign rfl) <| .cons (o_store rfl rfl rfl rfl rfl rfl rfl) <| .nil _) (by kernel_rfl) (by kernel_rfl) ?_
        refine a_seq ?_
        refine a_seq ?_
        refine a_region (.cons (o_move rfl) <| .cons (o_int rfl rfl rfl) <| .nil _) (by kernel_rfl) (by kernel_rfl) ?_
        refine a_cond _ rfl (fun h15 => ?_) (fun h15 => ?_)
        · replace hM := (of_if hM).1 h15
          refine a_exit ?_
          obtain rfl := Option.some.inj hM
          obtain rfl := hE7 _ rfl
          exact ⟨(a5, a6), hK7, ((Imp.freeze (id := 10001) rfl).trans ((Imp.freeze (id := 10002) rfl).trans (Imp.of (fun i => i) (.cons rfl (DLe.refl _) (.cons rfl (DLe.refl _) .nil)) .nil rfl rfl rfl)))⟩
        · replace hM := (of_if hM).2 h15
          refine a_skip ?_
          refine a_seq ?_
          refine a_region (.cons (o_move rfl) <| .cons (o_conv_w rfl) <| .cons (o_build rfl rfl rfl) <| .cons (o_alloc rfl) <| .cons (o_store rfl rfl rfl rfl rfl rfl rfl) <| .nil _) (by kernel_rfl) (by kernel_rfl) ?_
          refine a_cut (α := Int × Int × Int × Int × Int × Int × (List Int) × Int) (fun s => ⟨[(4, .row 10005), (5, .row 10006), (8, .ref 8 0), (10, .sl 5 (List.map rootcauselaw27_Raw.dv x0)), (11, .int .i64 (List.length x0 : Int)), (12, .int .i64 (k4 : Int))], [(8, some (.blk 37 [.int .i64 1, .int .u64 (IntKind.wrap .u64 (k4 : Int)), .int .u64 0, .int .u64 0, .int .u64 0, .int .u64 0, .int .u64 0, .int .u64 0, .int .u64 0, .int .u64 0, .int .u64 0, .int .u64 0, .int .u64 0, .int .u64 0, .int .u64 0, .int .u64 0, .int .u64 0, .int .u64 0, .int .u8 s.1, .int .i64 s.2.1, .int .i64 s.2.2.1, .int .u8 s.2.2.2.1, .int .i64 0, .int .i64 0, .int .i64 s.2.2.2.2.1, .int .i64 0, .int .i64 s.2.2.2.2.2.1, .row 10007, .int .u64 s.2.2.2.2.2.2.2])), (10005, some (.row 37 29 (List.map record_Record.dv a5))), (10006, some (.row 75 2 (List.map rootcauseref27_Item.dv a6))), (10007, some (.row 2 1 (List.map (DV.int .i64) s.2.2.2.2.2.2.1)))], [8, 10005, 10006, 10007]⟩) (fun s => rootcauselaw27_records_K24 k4 a5 a6 s.1 s.2.1 s.2.2.1 s.2.2.2.1 s.2.2.2.2.1 s.2.2.2.2.2.1 s.2.2.2.2.2.2.1 s.2.2.2.2.2.2.2 = some t8) ?_ ?_
          · refine a_seq ?_
            obtain ⟨h34, hM⟩ := of_chk hM
            refine a_region (.cons (o_fieldAddr rfl) <| .cons (o_load_s rfl rfl rfl) <| .cons (o_rem rfl rfl h34) <| .nil _) (by kernel_rfl) (by kernel_rfl) ?_
            refine a_block ?_
            refine a_seq ?_
            refine a_region (.cons (o_int rfl rfl rfl) <| .cons (o_assign rfl) <| .nil _) (by kernel_rfl) (by kernel_rfl) ?_
            refine a_cond _ rfl (fun h35 => ?_) (fun h35 => ?_)
            · replace hM := (of_if hM).1 h35
              refine a_draw mixed (.cons (o_fieldAddr rfl) <| .cons (o_load_s rfl rfl rfl) <| .cons (o_conv_w rfl) <| .cons (o_int rfl rfl rfl) <| .cons (o_fieldAddr rfl) <| .cons (o_store_s rfl rfl rfl rfl rfl) <| .cons (o_fieldAddr rfl) <| .cons (o_store_s rfl rfl rfl rfl rfl) <| .nil _) (by kernel_rfl) (by kernel_rfl) (by kernel_rfl) ?_
              exact ⟨(2, 0, 0, 0, 0, 0, ([] : List Int), (IntKind.wrap .u64 (1 + (IntKind.wrap .u64 v14.gTick)))), hM, ((Imp.nilC (id := 8) (rid := 10010) (j := 27) 2 1 rfl rfl rfl rfl).trans (Imp.of (fun i => bif Nat.beq i 10007 then 10010 else bif Nat.beq i 10006 then 10002 else bif Nat.beq i 10005 then 10001 else i) (.cons rfl (DLe.refl _) (.cons rfl (DLe.refl _) (.cons rfl (DLe.refl _) (.cons rfl (DLe.refl _) (.cons rfl (DLe.refl _) (.cons rfl (DLe.refl _) .nil)))))) (.cons rfl (.refl _) (.cons rfl (.refl _) (.cons rfl (.refl _) (.cons rfl (.refl _) .nil)))) rfl rfl rfl))⟩
            · replace hM := (of_if hM).2 h35
              refine a_seq ?_
              refine a_region (.cons (o_int rfl rfl rfl) <| .cons (o_assign rfl) <| .nil _) (by kernel_rfl) (by kernel_rfl) ?_
              refine a_cond _ rfl (fun h36 => ?_) (fun h36 => ?_)
              · replace hM := (of_if hM).1 h36
                refine a_region (.cons (o_fieldAddr rfl) <| .cons (o_store_s rfl rfl rfl rfl rfl) <| .nil _) (by kernel_rfl) (by kernel_rfl) ?_
                exact ⟨(3, 0, 0, 0, 0, 0, ([] : List Int), 0), hM, ((Imp.nilC (id := 8) (rid := 10011) (j := 27) 2 1 rfl rfl rfl rfl).trans (Imp.of (fun i => bif Nat.beq i 10007 then 10011 else bif Nat.beq i 10006 then 10002 else bif Nat.beq i 10005 then 10001 else i) (.cons rfl (DLe.refl _) (.cons rfl (DLe.refl _) (.cons rfl (DLe.refl _) (.cons rfl (DLe.refl _) (.cons rfl (DLe.refl _) (.cons rfl (DLe.refl _) .nil)))))) (.cons rfl (.refl _) (.cons rfl (.refl _) (.cons rfl (.refl _) (.cons rfl (.refl _) .nil)))) rfl rfl rfl))⟩
              · replace hM := (of_if hM).2 h36
                refine a_seq ?_
                obtain ⟨h37, hM⟩ := of_chk hM
                obtain ⟨h38, hM⟩ := of_chk hM
                refine a_region (.cons (o_fieldAddr rfl) <| .cons (o_load_s rfl rfl rfl) <| .cons (o_conv_w rfl) <| .cons (o_rem rfl rfl h37) <| .cons (o_fieldAddr rfl) <| .cons (o_load_s rfl rfl rfl) <| .cons (o_rem rfl rfl h38) <| .cons (o_int rfl rfl rfl) <| .cons (o_fieldAddr rfl) <| .cons (o_load_s rfl rfl rfl) <| .cons (o_conv_w rfl) <| .cons (o_build rfl rfl rfl) <| .cons (o_fieldAddr rfl) <| .cons (o_store rfl rfl rfl rfl rfl rfl rfl) <| .nil _) (by kernel_rfl) (by kernel_rfl) ?_
                refine a_cut (α := Int) (fun s => ⟨[(4, .row 10012), (5, .row 10013), (7, .ref 7 0), (8, .ref 8 0), (10, .sl 5 (List.map rootcauselaw27_Raw.dv x0)), (11, .int .i64 (List.length x0 : Int)), (12, .int .i64 (k4 : Int))], [(7, some (.blk 109 (rootcauselaw27_Raw.cs v14))), (8, some (.blk 37 [.int .i64 1, .int .u64 (IntKind.wrap .u64 (k4 : Int)), .int .u64 0, .int .u64 0, .int .u64 0, .int .u64 0, .int .u64 0, .int .u64 0, .int .u64 0, .int .u64 0, .int .u64 0, .int .u64 0, .int .u64 0, .int .u64 0, .int .u64 0, .int .u64 0, .int .u64 0, .int .u64 0, .int .u8 1, .int .i64 ((IntKind.wrap .i64 v14.gTick) % 201), .int .i64 1, .int .u8 (IntKind.wrap .u8 (1 + (v14.gKind % 11))), .int .i64 0, .int .i64 0, .int .i64 s, .int .i64 0, .int .i64 (IntKind.wrap .i64 v14.gKind), .nils, .int .u64 0])), (10012, some (.row 37 29 (List.map record_Record.dv a5))), (10013, some (.row 75 2 (List.map rootcauseref27_Item.dv a6)))], [7, 8, 10012, 10013]⟩) (fun s => rootcauselaw27_records_K40 k4 a5 a6 v14 s = some t8) ?_ ?_
                · refine a_seq ?_
                  refine a_region (.cons (o_fieldAddr rfl) <| .cons (o_load_s rfl rfl rfl) <| .nil _) (by kernel_rfl) (by kernel_rfl) ?_
                  refine a_cond _ rfl (fun h43 => ?_) (fun h43 => ?_)
                  · replace hM := (of_if hM).1 h43
                    refine a_region (.cons (o_fieldAddr rfl) <| .cons (o_fieldAddr rfl) <| .cons (o_store_s rfl rfl rfl rfl rfl) <| .nil _) (by kernel_rfl) (by kernel_rfl) ?_
                    exact ⟨1, hM, (Imp.of (fun i => bif Nat.beq i 10013 then 10002 else bif Nat.beq i 10012 then 10001 else i) (.cons rfl (DLe.refl _) (.cons rfl (DLe.refl _) (.cons rfl (DLe.refl _) (.cons rfl (DLe.refl _) (.cons rfl (DLe.refl _) (.cons rfl (DLe.refl _) (.cons rfl (DLe.refl _) .nil))))))) (.cons rfl (.refl _) (.cons rfl (.refl _) (.cons rfl (.refl _) (.cons rfl (.refl _) .nil)))) rfl rfl rfl)⟩
                  · replace hM := (of_if hM).2 h43
                    refine a_skip ?_
                    exact ⟨0, hM, (Imp.of (fun i => bif Nat.beq i 10013 then 10002 else bif Nat.beq i 10012 then 10001 else i) (.cons rfl (DLe.refl _) (.cons rfl (DLe.refl _) (.cons rfl (DLe.refl _) (.cons rfl (DLe.refl _) (.cons rfl (DLe.refl _) (.cons rfl (DLe.refl _) (.cons rfl (DLe.refl _) .nil))))))) (.cons rfl (.refl _) (.cons rfl (.refl _) (.cons rfl (.refl _) (.cons rfl (.refl _) .nil)))) rfl rfl rfl)⟩
                · rintro a39 hM
                  replace hM : rootcauselaw27_records_K40 k4 a5 a6 v14 a39 = some t8 := hM
                  unfold rootcauselaw27_records_K40 at hM
                  obtain ⟨h41, hM⟩ := of_chk hM
                  obtain ⟨h42, hM⟩ := of_chk hM
                  refine a_draw mixed (.cons (o_fieldAddr rfl) <| .cons (o_fieldAddr rfl) <| .cons (o_load_s rfl rfl rfl) <| .cons (o_fieldAddr rfl) <| .cons (o_load_s rfl rfl rfl) <| .cons (o_fieldAddr rfl) <| .cons (o_load_s rfl rfl rfl) <| .cons (t_len rfl) <| .cons (o_min rfl rfl) <| .cons (t_slice_h h41 rfl rfl) <| .cons (t_append_n (DV.int .i64) (List.take (Int.toNat (if 4 < (List.length v14.gArgs : Int) then 4 else (List.length v14.gArgs : Int))) v14.gArgs) h42 rfl rfl Src.sl) <| .cons (o_fieldAddr rfl) <| .cons (o_fieldAddr rfl) <| .cons (o_store_s rfl rfl rfl rfl rfl) <| .nil _) (by kernel_rfl) (by kernel_rfl) (by kernel_rfl) ?_
                  exact ⟨(1, ((IntKind.wrap .i64 v14.gTick) % 201), 1, (IntKind.wrap .u8 (1 + (v14.gKind % 11))), a39, (IntKind.wrap .i64 v14.gKind), (List.take (Int.toNat (if 4 < (List.length v14.gArgs : Int) then 4 else (List.length v14.gArgs : Int))) v14.gArgs), 0), hM, (Imp.of (fun i => bif Nat.beq i 10007 then 52 else bif Nat.beq i 10006 then 10013 else bif Nat.beq i 10005 then 10012 else i) (.cons rfl (DLe.refl _) (.cons rfl (DLe.refl _) (.cons rfl (DLe.refl _) (.cons rfl (DLe.refl _) (.cons rfl (DLe.refl _) (.cons rfl (DLe.refl _) .nil)))))) (.cons rfl (.refl _) (.cons rfl (.refl _) (.cons rfl (.refl _) (.cons rfl (.refl _) .nil)))) rfl rfl rfl)⟩
          · rintro ⟨a16, a17, a18, a19, a20, a21, a22, a23⟩ hM
            replace hM : rootcauselaw27_records_K24 k4 a5 a6 a16 a17 a18 a19 a20 a21 a22 a23 = some t8 := hM
            unfold rootcauselaw27_records_K24 at hM
            refine a_seq ?_
            refine a_imp (Imp.freeze (id := 10007) rfl) ?_
            obtain ⟨h25, hM⟩ := of_chk hM
            refine a_region (.cons (o_move rfl) <| .cons (o_load_r rfl rfl rfl rfl) <| .cons (t_build record_Record.dv ([(record_Record.mk 1 (IntKind.wrap .u64 (k4 : Int)) (vclock_Clock.mk (arr 0 [0, 0, 0, 0, 0, 0, 0, 0, 0, 0, 0, 0, 0, 0, 0, 0])) a16 (api_Event.mk a17 a18 a19 0 0 a20 0 a21 a22) a23)] : List record_Record) rfl rfl rfl rfl rfl rfl rfl) <| .cons (t_append [(record_Record.mk 1 (IntKind.wrap .u64 (k4 : Int)) (vclock_Clock.mk (arr 0 [0, 0, 0, 0, 0, 0, 0, 0, 0, 0, 0, 0, 0, 0, 0, 0])) a16 (api_Event.mk a17 a18 a19 0 0 a20 0 a21 a22) a23)] h25 rfl rfl rfl (Src.row rfl)) <| .cons (o_assign rfl) <| .nil _) (by kernel_rfl) (by kernel_rfl) ?_
            refine a_seq ?_
            obtain ⟨v27, h26, hM⟩ := of_bind hM
            refine a_region (.cons (o_load_r rfl rfl rfl rfl) <| .cons (o_call (record_Size_c h26) rfl (DLeL.refl _) rfl) <| .cons (o_build rfl rfl rfl) <| .cons (o_alloc rfl) <| .cons (o_store rfl rfl rfl rfl rfl rfl rfl) <| .nil _) (by kernel_rfl) (by kernel_rfl) ?_
            refine a_cut (α := Int) (fun s => ⟨[(4, .row 10008), (5, .row 10009), (9, .ref 9 0), (10, .sl 5 (List.map rootcauselaw27_Raw.dv x0)), (11, .int .i64 (List.length x0 : Int)), (12, .int .i64 (k4 : Int))], [(9, some (.blk 75 [.int .i64 s, .int .i64 v27])), (10008, some (.row 37 29 (List.map record_Record.dv (a5 ++ [(record_Record.mk 1 (IntKind.wrap .u64 (k4 : Int)) (vclock_Clock.mk (arr 0 [0, 0, 0, 0, 0, 0, 0, 0, 0, 0, 0, 0, 0, 0, 0, 0])) a16 (api_Event.mk a17 a18 a19 0 0 a20 0 a21 a22) a23)])))), (10009, some (.row 75 2 (List.map rootcauseref27_Item.dv a6)))], [9, 10008, 10009]⟩) (fun s => rootcauselaw27_records_K29 k4 a5 a6 a16 a17 a18 a19 a20 a21 a22 a23 v27 s = some t8) ?_ ?_
            · refine a_seq ?_
              refine a_region (.cons (o_fieldAddr rfl) <| .cons (o_load_s rfl rfl rfl) <| .cons (o_int rfl rfl rfl) <| .nil _) (by kernel_rfl) (by kernel_rfl) ?_
              refine a_cond _ rfl (fun h31 => ?_) (fun h31 => ?_)
              · replace hM := (of_if hM).1 h31
                obtain ⟨v33, h32, hM⟩ := of_bind hM
                refine a_region (.cons (o_fieldAddr rfl) <| .cons (o_load_r rfl rfl rfl rfl) <| .cons (o_call (rootcauseref27_Of_c h32) rfl (DLeL.refl _) rfl) <| .cons (o_fieldAddr rfl) <| .cons (o_store_s rfl rfl rfl rfl rfl) <| .nil _) (by kernel_rfl) (by kernel_rfl) ?_
                exact ⟨v33, hM, (Imp.of (fun i => bif Nat.beq i 10009 then 10006 else bif Nat.beq i 10008 then 69 else i) (.cons rfl (DLe.refl _) (.cons rfl (DLe.refl _) (.cons rfl (DLe.refl _) (.cons rfl (DLe.refl _) (.cons rfl (DLe.refl _) (.cons rfl (DLe.refl _) .nil)))))) (.cons rfl (.refl _) (.cons rfl (.refl _) (.cons rfl (.refl _) .nil))) rfl rfl rfl)⟩
              · replace hM := (of_if hM).2 h31
                refine a_skip ?_
                exact ⟨(-1), hM, (Imp.of (fun i => bif Nat.beq i 10009 then 10006 else bif Nat.beq i 10008 then 69 else i) (.cons rfl (DLe.refl _) (.cons rfl (DLe.refl _) (.cons rfl (DLe.refl _) (.cons rfl (DLe.refl _) (.cons rfl (DLe.refl _) (.cons rfl (DLe.refl _) .nil)))))) (.cons rfl (.refl _) (.cons rfl (.refl _) (.cons rfl (.refl _) .nil))) rfl rfl rfl)⟩
            · rintro a28 hM
              replace hM : rootcauselaw27_records_K29 k4 a5 a6 a16 a17 a18 a19 a20 a21 a22 a23 v27 a28 = some t8 := hM
              unfold rootcauselaw27_records_K29 at hM
              obtain ⟨h30, hM⟩ := of_chk hM
              refine a_region (.cons (o_move rfl) <| .cons (o_load_r rfl rfl rfl rfl) <| .cons (t_build rootcauseref27_Item.dv ([(rootcauseref27_Item.mk a28 v27)] : List rootcauseref27_Item) rfl rfl rfl rfl rfl rfl rfl) <| .cons (t_append [(rootcauseref27_Item.mk a28 v27)] h30 rfl rfl rfl (Src.row rfl)) <| .cons (o_assign rfl) <| .nil _) (by kernel_rfl) (by kernel_rfl) ?_
              exact ⟨((a5 ++ [(record_Record.mk 1 (IntKind.wrap .u64 (k4 : Int)) (vclock_Clock.mk (arr 0 [0, 0, 0, 0, 0, 0, 0, 0, 0, 0, 0, 0, 0, 0, 0, 0])) a16 (api_Event.mk a17 a18 a19 0 0 a20 0 a21 a22) a23)]), (a6 ++ [(rootcauseref27_Item.mk a28 v27)])), hM, (Imp.of (fun i => bif Nat.beq i 10004 then 83 else bif Nat.beq i 10003 then 10008 else i) (.cons rfl (DLe.refl _) (.cons rfl (DLe.refl _) (.cons rfl (DLe.refl _) (.cons rfl (DLe.refl _) (.cons rfl (DLe.refl _) .nil))))) (.cons rfl (.refl _) (.cons rfl (.refl _) .nil)) rfl rfl rfl)⟩
      · rintro ⟨a10, a11⟩ hM
        replace hM : rootcauselaw27_records_K12 a10 a11 = some t8 := hM
        unfold rootcauselaw27_records_K12 at hM
        refine a_region (.cons (o_add rfl rfl (inR_i64 hk4 hx4)) <| .cons (o_move rfl) <| .nil _) (by kernel_rfl) (by kernel_rfl) ?_
        obtain rfl := Option.some.inj hM
        exact ⟨(a10, a11), rfl, (Imp.of (fun i => bif Nat.beq i 10002 then 10004 else bif Nat.beq i 10001 then 10003 else i) (.cons rfl (DLe.refl _) (.cons rfl (DLe.refl _) (.cons rfl (DLe.refl _) (.cons rfl (DLe.refl _) (.cons rfl (DLe.succ _ _) .nil))))) (.cons rfl (.refl _) (.cons rfl (.refl _) .nil)) rfl rfl rfl)⟩
    · rintro k4 ⟨a5, a6⟩ hk4 hx4 rfl
      refine a_seq ?_
      refine a_region (.cons (o_int rfl rfl rfl) <| .nil _) (by kernel_rfl) (by kernel_rfl) ?_
      refine a_seq ?_
      refine a_cond _ rfl (fun c => absurd (of_decide_eq_true c) (Int.not_lt.2 hk4)) (fun _ => ?_)
      refine a_exit ?_
      exact ⟨(a5, a6), hK7, ((Imp.freeze (id := 10001) rfl).trans ((Imp.freeze (id := 10002) rfl).trans (Imp.of (fun i => i) (.cons rfl (DLe.refl _) (.cons rfl (DLe.refl _) .nil)) .nil rfl rfl rfl)))⟩
  · rintro ⟨a1, a2⟩ hM
    replace hM : rootcauselaw27_records_K3 a1 a2 = some r := hM
    unfold rootcauselaw27_records_K3 at hM
    refine a_seq ?_
    refine a_region (.cons (o_move rfl) <| .cons (o_move rfl) <| .cons (o_assign rfl) <| .cons (o_assign rfl) <| .nil _) (by kernel_rfl) (by kernel_rfl) ?_
    obtain rfl := Option.some.inj hM
    exact a_ret (a_post (.r2 (.tmp rfl) (.tmp rfl)) (DLe.refl _) PostOk.nil.spec)

end Go.Proofs.Ytkadjbpmnpcfhaa
