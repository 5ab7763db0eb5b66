/-
  What the claim leans on, part 12.
-/
import Derived.Test.YtepkcbalmjnhpaaGreatCOr11
set_option maxRecDepth 100000
set_option maxHeartbeats 4000000
set_option linter.unusedVariables false
set_option linter.unusedSimpArgs false
namespace Go.Proofs.YtepkcbalmjnhpaaGreat
open Go.RowKit
def eqS_K1 : Option Bool :=
  some true
def eqS_L2 (x0 : List CSpan) (x1 : List CSpan) (k2 : Nat) : Option (Ctl Unit Bool) :=
  (idx x0 (k2 : Int)).bind fun v7 =>
  (idx x1 (k2 : Int)).bind fun v9 =>
  if (!((v7.gfrom == v9.gfrom) && ((v7.gto == v9.gto) && true))) = true then
    some (.done false)
  else
    some (.next ())
def eqS (x0 : List CSpan) (x1 : List CSpan) : Option Bool :=
  if ((List.length x0 : Int) != (List.length x1 : Int)) = true then
    some false
  else
    (forM' (E := Bool) 9223372036854775807 (List.length x0 : Int) (fun k2 s => eqS_L2 x0 x1 k2) ()).bind fun
      | .next s => eqS_K1
      | .done r => some r
theorem eqS_c {x0 : List CSpan} {x1 : List CSpan} {r : Bool} (hM : eqS x0 x1 = some r) : PCall Tryz.prog 72 [.sl 2 (List.map CSpan.dv x0), .sl 2 (List.map CSpan.dv x1)] (.bool r) := by
  unfold eqS at hM
  refine PCall.body Tryz.func72 Tryz.ntmps72 rfl rfl rfl rfl ?_
  refine a_seq (ar (.cons (o_assign rfl) <| .nil _) ?_)
  refine a_seq (a_seq (ar (.cons (o_move rfl) <| .cons (t_len rfl) <| .cons (o_move rfl) <| .cons (t_len rfl) <| .cons (o_int rfl rfl rfl) <| .nil _) ?_))
  refine a_cond _ rfl (fun h1 => ?_) (fun h1 => ?_)
  · replace hM := (of_if hM).1 h1
    refine a_seq (ar (.cons (o_assign rfl) <| .nil _) ?_)
    obtain rfl := Option.some.inj hM
    exact a_ret (a_post (.r1 (.tmp rfl)) (DLe.refl _) PostOk.nil.spec)
  · replace hM := (of_if hM).2 h1
    refine a_skip ?_
    refine a_cut (α := Unit) (fun s => ⟨[], [], []⟩) (fun s => eqS_K1 = some r) ?_ ?_
    · refine a_seq (ar (.cons (o_move rfl) <| .cons (t_len rfl) <| .cons (o_move rfl) <| .nil _) ?_)
      obtain ⟨t3, hL3, hK3⟩ := of_bind hM
      refine a_block ?_
      refine a_for (fun k2 (s : Unit) => ⟨[(0, .sl 2 (List.map CSpan.dv x0)), (1, .sl 2 (List.map CSpan.dv x1)), (12, .int .i64 (List.length x0 : Int)), (13, .int .i64 (k2 : Int))], [], []⟩) _ hL3 (Imp.sh (fun i => i) rfl rfl rfl rfl rfl rfl) ?_ ?_
      · rintro k2 _ t4 hk2 hx2 hM hE3
        replace hM : eqS_L2 x0 x1 k2 = some t4 := hM
        unfold eqS_L2 at hM
        refine a_seq (ar (.cons (o_int rfl rfl rfl) <| .nil _) ?_)
        refine a_seq ?_
        refine a_cond _ rfl (fun _ => ?_) (fun c => absurd hk2 (of_decide_eq_false c))
        refine a_skip (a_seq (a_block (a_seq (ar (.cons (o_move rfl) <| .cons (o_assign rfl) <| .nil _) ?_))))
        refine a_seq ?_
        obtain ⟨v7, h6, hM⟩ := of_bind hM
        obtain ⟨v9, h8, hM⟩ := of_bind hM
        refine ad mixed (.cons (o_move rfl) <| .cons (o_move rfl) <| .cons (t_index h6 rfl rfl rfl) <| .cons (o_load_er rfl rfl rfl) <| .cons (o_move rfl) <| .cons (o_move rfl) <| .cons (t_index h8 rfl rfl rfl) <| .cons (o_load_er rfl rfl rfl) <| .cons (o_neS (b := ((v7.gfrom == v9.gfrom) && ((v7.gto == v9.gto) && true))) rfl rfl rfl rfl rfl) <| .nil _) ?_
        refine a_cond _ rfl (fun h10 => ?_) (fun h10 => ?_)
        · replace hM := (of_if hM).1 h10
          refine a_seq (ar (.cons (o_assign rfl) <| .nil _) ?_)
          obtain rfl := Option.some.inj hM
          obtain rfl := hE3 _ rfl
          obtain rfl := Option.some.inj hK3
          exact a_ret (a_post (.r1 (.tmp rfl)) (DLe.refl _) PostOk.nil.spec)
        · replace hM := (of_if hM).2 h10
          refine a_skip (ar (.cons (o_add rfl rfl (inR_i64 hk2 hx2)) <| .cons (o_move rfl) <| .nil _) ?_)
          obtain rfl := Option.some.inj hM
          exact ⟨(), rfl, (Imp.of (fun i => i) (.cons rfl (DLe.refl _) (.cons rfl (DLe.refl _) (.cons rfl (DLe.refl _) (.cons rfl (DLe.succ _ _) .nil)))) .nil rfl rfl rfl)⟩
      · rintro k2 _ hk2 hx2 rfl
        refine a_seq (ar (.cons (o_int rfl rfl rfl) <| .nil _) ?_)
        refine a_seq ?_
        refine a_cond _ rfl (fun c => absurd (of_decide_eq_true c) (Int.not_lt.2 hk2)) (fun _ => ?_)
        refine a_exit ?_
        exact ⟨(), hK3, (Imp.sh (fun i => i) rfl rfl rfl rfl rfl rfl)⟩
    · rintro _ hM
      replace hM : eqS_K1 = some r := hM
      unfold eqS_K1 at hM
      refine a_seq (ar (.cons (o_assign rfl) <| .nil _) ?_)
      obtain rfl := Option.some.inj hM
      exact a_ret (a_post (.r1 (.tmp rfl)) (DLe.refl _) PostOk.nil.spec)
def eqfR_K1 : Option Bool :=
  some true
def eqfR_L2 (x0 : List RRec) (x1 : List RRec) (k2 : Nat) : Option (Ctl Unit Bool) :=
  (idx x0 (k2 : Int)).bind fun v7 =>
  (idx x1 (k2 : Int)).bind fun v9 =>
  (record_Equal v7 v9).bind fun v11 =>
  if (!v11) = true then
    some (.done false)
  else
    some (.next ())
def eqfR (x0 : List RRec) (x1 : List RRec) : Option Bool :=
  if ((List.length x0 : Int) != (List.length x1 : Int)) = true then
    some false
  else
    (forM' (E := Bool) 9223372036854775807 (List.length x0 : Int) (fun k2 s => eqfR_L2 x0 x1 k2) ()).bind fun
      | .next s => eqfR_K1
      | .done r => some r
theorem eqfR_c {x0 : List RRec} {x1 : List RRec} {r : Bool} (hM : eqfR x0 x1 = some r) : ACall Tryz.prog 73 ⟨[.sl 29 (List.map RRec.dv x0), .sl 29 (List.map RRec.dv x1), .val (.func (.func 29) #[] #[])], [], .bool r, [], []⟩ := by
  unfold eqfR at hM
  refine ACall.body Tryz.func73 Tryz.ntmps73 rfl rfl rfl rfl ?_
  refine a_seq (ar (.cons (o_assign rfl) <| .nil _) ?_)
  refine a_seq (a_seq (ar (.cons (o_move rfl) <| .cons (t_len rfl) <| .cons (o_move rfl) <| .cons (t_len rfl) <| .cons (o_int rfl rfl rfl) <| .nil _) ?_))
  refine a_cond _ rfl (fun h1 => ?_) (fun h1 => ?_)
  · replace hM := (of_if hM).1 h1
    refine a_seq (ar (.cons (o_assign rfl) <| .nil _) ?_)
    obtain rfl := Option.some.inj hM
    refine a_imp (σ' := ⟨[(6, .bool false)], [], []⟩) (Imp.sh (fun i => i) rfl rfl rfl rfl rfl rfl) ?_
    exact a_ret (a_post (.r1 (.tmp rfl)) (DLe.refl _) (PostOk.spec .nil))
  · replace hM := (of_if hM).2 h1
    refine a_skip ?_
    refine a_cut (α := Unit) (fun s => ⟨[], [], []⟩) (fun s => eqfR_K1 = some r) ?_ ?_
    · refine a_seq (ar (.cons (o_move rfl) <| .cons (t_len rfl) <| .cons (o_move rfl) <| .nil _) ?_)
      obtain ⟨t3, hL3, hK3⟩ := of_bind hM
      refine a_block ?_
      refine a_for (fun k2 (s : Unit) => ⟨[(1, .sl 29 (List.map RRec.dv x1)), (2, .val (.func (.func 29) #[] #[])), (15, .sl 29 (List.map RRec.dv x0)), (16, .int .i64 (List.length x0 : Int)), (17, .int .i64 (k2 : Int))], [], []⟩) _ hL3 (Imp.sh (fun i => i) rfl rfl rfl rfl rfl rfl) ?_ ?_
      · rintro k2 _ t4 hk2 hx2 hM hE3
        replace hM : eqfR_L2 x0 x1 k2 = some t4 := hM
        unfold eqfR_L2 at hM
        refine a_seq (ar (.cons (o_int rfl rfl rfl) <| .nil _) ?_)
        refine a_seq ?_
        refine a_cond _ rfl (fun _ => ?_) (fun c => absurd hk2 (of_decide_eq_false c))
        refine a_skip (a_seq (a_block (a_seq ?_)))
        obtain ⟨v7, h6, hM⟩ := of_bind hM
        refine ar (.cons (o_move rfl) <| .cons (t_index h6 rfl rfl rfl) <| .cons (o_load_er rfl rfl rfl) <| .cons (o_alloc rfl) <| .cons (o_assign rfl) <| .cons (o_store rfl rfl rfl rfl rfl rfl rfl) <| .nil _) ?_
        refine a_seq ?_
        obtain ⟨v9, h8, hM⟩ := of_bind hM
        refine ar (.cons (o_move rfl) <| .cons (o_move rfl) <| .cons (t_index h8 rfl rfl rfl) <| .cons (o_load_er rfl rfl rfl) <| .cons (o_alloc rfl) <| .cons (o_store rfl rfl rfl rfl rfl rfl rfl) <| .nil _) ?_
        refine a_seq ?_
        obtain ⟨v11, h10, hM⟩ := of_bind hM
        refine ar (.cons (o_move rfl) <| .cons (o_load_r rfl rfl rfl rfl) <| .cons (o_load_r rfl rfl rfl rfl) <| .cons (o_callF (record_Equal_c h10) rfl rfl (DLeL.refl _) rfl) <| .cons (o_not rfl) <| .nil _) ?_
        refine a_cond _ rfl (fun h12 => ?_) (fun h12 => ?_)
        · replace hM := (of_if hM).1 h12
          refine a_seq (ar (.cons (o_assign rfl) <| .nil _) ?_)
          obtain rfl := Option.some.inj hM
          obtain rfl := hE3 _ rfl
          obtain rfl := Option.some.inj hK3
          refine a_imp (σ' := ⟨[(6, .bool false)], [], []⟩) (Imp.sh (fun i => i) rfl rfl rfl rfl rfl rfl) ?_
          exact a_ret (a_post (.r1 (.tmp rfl)) (DLe.refl _) (PostOk.spec .nil))
        · replace hM := (of_if hM).2 h12
          refine a_skip (ar (.cons (o_add rfl rfl (inR_i64 hk2 hx2)) <| .cons (o_move rfl) <| .nil _) ?_)
          obtain rfl := Option.some.inj hM
          exact ⟨(), rfl, (Imp.of (fun i => i) (.cons rfl (DLe.refl _) (.cons rfl (DLe.refl _) (.cons rfl (DLe.refl _) (.cons rfl (DLe.refl _) (.cons rfl (DLe.succ _ _) .nil))))) .nil rfl rfl rfl)⟩
      · rintro k2 _ hk2 hx2 rfl
        refine a_seq (ar (.cons (o_int rfl rfl rfl) <| .nil _) ?_)
        refine a_seq ?_
        refine a_cond _ rfl (fun c => absurd (of_decide_eq_true c) (Int.not_lt.2 hk2)) (fun _ => ?_)
        refine a_exit ?_
        exact ⟨(), hK3, (Imp.sh (fun i => i) rfl rfl rfl rfl rfl rfl)⟩
    · rintro _ hM
      replace hM : eqfR_K1 = some r := hM
      unfold eqfR_K1 at hM
      refine a_seq (ar (.cons (o_assign rfl) <| .nil _) ?_)
      obtain rfl := Option.some.inj hM
      refine a_imp (σ' := ⟨[(6, .bool true)], [], []⟩) (Imp.sh (fun i => i) rfl rfl rfl rfl rfl rfl) ?_
      exact a_ret (a_post (.r1 (.tmp rfl)) (DLe.refl _) (PostOk.spec .nil))
def CColl_Equal_1 (x0 : CPart) (x1 : CPart) : Option Bool :=
  (gb ((x0.gknown == x1.gknown) && (x0.gtotal == x1.gtotal)) (false) (eqS x0.glost x1.glost)).bind fun v2 =>
  (gb (((x0.gknown == x1.gknown) && (x0.gtotal == x1.gtotal)) && v2) (false) (eqfR x0.gentries x1.gentries)).bind fun v4 =>
  some ((((x0.gknown == x1.gknown) && (x0.gtotal == x1.gtotal)) && v2) && v4)
theorem CColl_Equal_1_c {x0 : CPart} {x1 : CPart} {r : Bool} (hM : CColl_Equal_1 x0 x1 = some r) : PCall Tryz.prog 71 [.agg (CPart.cs x0), .agg (CPart.cs x1)] (.bool r) := by
  unfold CColl_Equal_1 at hM
  refine PCall.body Tryz.func71 Tryz.ntmps71 rfl rfl rfl rfl ?_
  refine a_seq (ar (.cons (o_box rfl rfl) <| .cons (o_box rfl rfl) <| .cons (o_assign rfl) <| .nil _) ?_)
  refine a_seq ?_
  obtain ⟨v2, h1, hM⟩ := of_bind hM
  obtain ⟨v4, h3, hM⟩ := of_bind hM
  refine ar (.cons (o_fieldAddr rfl) <| .cons (o_load_s rfl rfl rfl) <| .cons (o_fieldAddr rfl) <| .cons (o_load_s rfl rfl rfl) <| .cons (o_booleq rfl rfl) <| .cons (o_move rfl) <| .cons (o_guardG .bT rfl rfl (fun hb => (.keep .nil)) (fun hb => o_fieldAddr rfl)) <| .cons (o_guardG .bT rfl rfl (fun hb => (.strip rfl hb .nil)) (fun hb => o_load_s rfl rfl rfl)) <| .cons (o_guardG .bT rfl rfl (fun hb => (.keep .nil)) (fun hb => o_fieldAddr rfl)) <| .cons (o_guardG .bT rfl rfl (fun hb => (.strip rfl hb .nil)) (fun hb => o_load_s rfl rfl rfl)) <| .cons (o_guardG .bT rfl rfl (fun hb => (.strip rfl hb (.strip rfl hb .nil))) (fun hb => o_int rfl rfl rfl)) <| .cons (o_and rfl rfl) <| .cons (o_move rfl) <| .cons (o_guardG .bT rfl rfl (fun hb => (.keep .nil)) (fun hb => o_fieldAddr rfl)) <| .cons (o_guardG .bT rfl rfl (fun hb => (.strip rfl hb .nil)) (fun hb => o_load_s rfl rfl rfl)) <| .cons (o_guardG .bT rfl rfl (fun hb => (.keep .nil)) (fun hb => o_fieldAddr rfl)) <| .cons (o_guardG .bT rfl rfl (fun hb => (.strip rfl hb .nil)) (fun hb => o_load_s rfl rfl rfl)) <| .cons (o_guardG .bT rfl rfl (fun hb => (.strip rfl hb (.strip rfl hb .nil))) (fun hb => o_call (eqS_c (of_gb h1 hb)) rfl (DLeL.refl _) rfl)) <| .cons (o_and rfl rfl) <| .cons (o_move rfl) <| .cons (o_guardG .bT rfl rfl (fun hb => (.keep .nil)) (fun hb => o_fieldAddr rfl)) <| .cons (o_guardG .bT rfl rfl (fun hb => (.strip rfl hb .nil)) (fun hb => o_load_s rfl rfl rfl)) <| .cons (o_guardG .bT rfl rfl (fun hb => (.keep .nil)) (fun hb => o_fieldAddr rfl)) <| .cons (o_guardG .bT rfl rfl (fun hb => (.strip rfl hb .nil)) (fun hb => o_load_s rfl rfl rfl)) <| .cons (o_guardG .bT rfl rfl (fun hb => (.strip rfl hb (.strip rfl hb .nil))) (fun hb => o_callN (fun i => i) 0 (eqfR_c (of_gb h3 hb)) rfl (DLeL.refl _) .nil rfl .nil)) <| .cons (o_and rfl rfl) <| .cons (o_assign rfl) <| .nil _) ?_
  obtain rfl := Option.some.inj hM
  exact a_ret (a_post (.r1 (.tmp rfl)) (DLe.refl _) PostOk.nil.spec)
def eqfP_K1 : Option Bool :=
  some true
def eqfP_L2 (o0 : List CPart) (o1 : List CPart) (k2 : Nat) : Option (Ctl Unit Bool) :=
  (idx o0 (k2 : Int)).bind fun v7 =>
  (idx o1 (k2 : Int)).bind fun v9 =>
  (CColl_Equal_1 v7 v9).bind fun v11 =>
  if (!v11) = true then
    some (.done false)
  else
    some (.next ())
def eqfP (o0 : List CPart) (o1 : List CPart) : Option Bool :=
  if ((List.length o0 : Int) != (List.length o1 : Int)) = true then
    some false
  else
    (forM' (E := Bool) 9223372036854775807 (List.length o0 : Int) (fun k2 s => eqfP_L2 o0 o1 k2) ()).bind fun
      | .next s => eqfP_K1
      | .done r => some r
theorem eqfP_c {o0 : List CPart} {o1 : List CPart} {r : Bool} (hM : eqfP o0 o1 = some r) : ACall Tryz.prog 70 ⟨[.row 100000, .row 100001, .val (.func (.func 71) #[] #[])], [(100000, some (.row 137 4 (List.map CPart.dv o0))), (100001, some (.row 137 4 (List.map CPart.dv o1)))], .bool r, [(100000, some (.row 137 4 (List.map CPart.dv o0))), (100001, some (.row 137 4 (List.map CPart.dv o1)))], []⟩ := by
  unfold eqfP at hM
  refine ACall.body Tryz.func70 Tryz.ntmps70 rfl rfl rfl rfl ?_
  refine a_seq (ar (.cons (o_assign rfl) <| .nil _) ?_)
  refine a_seq (a_seq (ar (.cons (o_move rfl) <| .cons (t_len_r rfl rfl) <| .cons (o_move rfl) <| .cons (t_len_r rfl rfl) <| .cons (o_int rfl rfl rfl) <| .nil _) ?_))
  refine a_cond _ rfl (fun h1 => ?_) (fun h1 => ?_)
  · replace hM := (of_if hM).1 h1
    refine a_seq (ar (.cons (o_assign rfl) <| .nil _) ?_)
    obtain rfl := Option.some.inj hM
    refine a_imp (σ' := ⟨[(6, .bool false)], [(100000, some (.row 137 4 (List.map CPart.dv o0))), (100001, some (.row 137 4 (List.map CPart.dv o1)))], [100000, 100001]⟩) (Imp.sh (fun i => i) rfl rfl rfl rfl rfl rfl) ?_
    exact a_ret (a_post (.r1 (.tmp rfl)) (DLe.refl _) (PostOk.spec (.cons rfl (.cons rfl .nil))))
  · replace hM := (of_if hM).2 h1
    refine a_skip ?_
    refine a_cut (α := Unit) (fun s => ⟨[], [(100000, some (.row 137 4 (List.map CPart.dv o0))), (100001, some (.row 137 4 (List.map CPart.dv o1)))], [100000, 100001]⟩) (fun s => eqfP_K1 = some r) ?_ ?_
    · refine a_seq (ar (.cons (o_move rfl) <| .cons (t_len_r rfl rfl) <| .cons (o_move rfl) <| .nil _) ?_)
      obtain ⟨t3, hL3, hK3⟩ := of_bind hM
      refine a_block ?_
      refine a_for (fun k2 (s : Unit) => ⟨[(1, .row 100001), (2, .val (.func (.func 71) #[] #[])), (15, .row 100000), (16, .int .i64 (List.length o0 : Int)), (17, .int .i64 (k2 : Int))], [(100000, some (.row 137 4 (List.map CPart.dv o0))), (100001, some (.row 137 4 (List.map CPart.dv o1)))], [100000, 100001]⟩) _ hL3 (Imp.sh (fun i => i) rfl rfl rfl rfl rfl rfl) ?_ ?_
      · rintro k2 _ t4 hk2 hx2 hM hE3
        replace hM : eqfP_L2 o0 o1 k2 = some t4 := hM
        unfold eqfP_L2 at hM
        refine a_seq (ar (.cons (o_int rfl rfl rfl) <| .nil _) ?_)
        refine a_seq ?_
        refine a_cond _ rfl (fun _ => ?_) (fun c => absurd hk2 (of_decide_eq_false c))
        refine a_skip (a_seq (a_block (a_seq ?_)))
        obtain ⟨v7, h6, hM⟩ := of_bind hM
        refine ar (.cons (o_move rfl) <| .cons (t_index_r h6 rfl rfl rfl) <| .cons (t_load_pr h6 rfl rfl rfl rfl rfl) <| .cons (o_alloc rfl) <| .cons (o_assign rfl) <| .cons (o_store rfl rfl rfl rfl rfl rfl rfl) <| .nil _) ?_
        refine a_seq ?_
        obtain ⟨v9, h8, hM⟩ := of_bind hM
        refine ar (.cons (o_move rfl) <| .cons (o_move rfl) <| .cons (t_index_r h8 rfl rfl rfl) <| .cons (t_load_pr h8 rfl rfl rfl rfl rfl) <| .cons (o_alloc rfl) <| .cons (o_store rfl rfl rfl rfl rfl rfl rfl) <| .nil _) ?_
        refine a_seq ?_
        obtain ⟨v11, h10, hM⟩ := of_bind hM
        refine ar (.cons (o_move rfl) <| .cons (o_load_r rfl rfl rfl rfl) <| .cons (o_load_r rfl rfl rfl rfl) <| .cons (o_callF (CColl_Equal_1_c h10) rfl rfl (DLeL.refl _) rfl) <| .cons (o_not rfl) <| .nil _) ?_
        refine a_cond _ rfl (fun h12 => ?_) (fun h12 => ?_)
        · replace hM := (of_if hM).1 h12
          refine a_seq (ar (.cons (o_assign rfl) <| .nil _) ?_)
          obtain rfl := Option.some.inj hM
          obtain rfl := hE3 _ rfl
          obtain rfl := Option.some.inj hK3
          refine a_imp (σ' := ⟨[(6, .bool false)], [(100000, some (.row 137 4 (List.map CPart.dv o0))), (100001, some (.row 137 4 (List.map CPart.dv o1)))], [100000, 100001]⟩) (Imp.sh (fun i => i) rfl rfl rfl rfl rfl rfl) ?_
          exact a_ret (a_post (.r1 (.tmp rfl)) (DLe.refl _) (PostOk.spec (.cons rfl (.cons rfl .nil))))
        · replace hM := (of_if hM).2 h12
          refine a_skip (ar (.cons (o_add rfl rfl (inR_i64 hk2 hx2)) <| .cons (o_move rfl) <| .nil _) ?_)
          obtain rfl := Option.some.inj hM
          exact ⟨(), rfl, (Imp.of (fun i => i) (.cons rfl (DLe.refl _) (.cons rfl (DLe.refl _) (.cons rfl (DLe.refl _) (.cons rfl (DLe.refl _) (.cons rfl (DLe.succ _ _) .nil))))) (.cons rfl (.refl _) (.cons rfl (.refl _) .nil)) rfl rfl rfl)⟩
      · rintro k2 _ hk2 hx2 rfl
        refine a_seq (ar (.cons (o_int rfl rfl rfl) <| .nil _) ?_)
        refine a_seq ?_
        refine a_cond _ rfl (fun c => absurd (of_decide_eq_true c) (Int.not_lt.2 hk2)) (fun _ => ?_)
        refine a_exit ?_
        exact ⟨(), hK3, (Imp.sh (fun i => i) rfl rfl rfl rfl rfl rfl)⟩
    · rintro _ hM
      replace hM : eqfP_K1 = some r := hM
      unfold eqfP_K1 at hM
      refine a_seq (ar (.cons (o_assign rfl) <| .nil _) ?_)
      obtain rfl := Option.some.inj hM
      refine a_imp (σ' := ⟨[(6, .bool true)], [(100000, some (.row 137 4 (List.map CPart.dv o0))), (100001, some (.row 137 4 (List.map CPart.dv o1)))], [100000, 100001]⟩) (Imp.sh (fun i => i) rfl rfl rfl rfl rfl rfl) ?_
      exact a_ret (a_post (.r1 (.tmp rfl)) (DLe.refl _) (PostOk.spec (.cons rfl (.cons rfl .nil))))
def CColl_Equal_a (o0 : CColl) (o2 : CColl) : Option Bool :=
  (eqfP o0.gparts o2.gparts).bind fun v3 =>
  some v3
theorem CColl_Equal_a_c {o0 : CColl} {o2 : CColl} {r : Bool} (hM : CColl_Equal_a o0 o2 = some r) : ACall Tryz.prog 26 ⟨[.ref 100000 0, .ref 100002 0], [(100000, some (.blk 134 [.row 100001])), (100001, some (.row 137 4 (List.map CPart.dv o0.gparts))), (100002, some (.blk 134 [.row 100003])), (100003, some (.row 137 4 (List.map CPart.dv o2.gparts)))], .bool r, [(100000, some (.blk 134 [.row 100001])), (100001, some (.row 137 4 (List.map CPart.dv o0.gparts))), (100002, some (.blk 134 [.row 100003])), (100003, some (.row 137 4 (List.map CPart.dv o2.gparts)))], []⟩ := by
  unfold CColl_Equal_a at hM
  refine ACall.body Tryz.func26 Tryz.ntmps26 rfl rfl rfl rfl ?_
  refine a_seq (ar (.cons (o_assign rfl) <| .nil _) ?_)
  refine a_seq (a_seq (ar (.cons (o_move rfl) <| .cons (o_ptr_eq rfl) <| .cons (o_move rfl) <| .cons (o_guardOn .bF rfl rfl rfl (.keep .nil) (o_move rfl)) <| .cons (o_guardOn .bF rfl rfl rfl (.strip rfl rfl .nil) (o_ptr_eq rfl)) <| .cons (o_or rfl rfl) <| .nil _) ?_))
  refine a_cond _ rfl (fun c => by cases c) (fun _ => ?_)
  refine a_skip (a_seq ?_)
  obtain ⟨v3, h2, hM⟩ := of_bind hM
  refine ad mixed (.cons (o_move rfl) <| .cons (o_nilCheck rfl) <| .cons (o_fieldAddr rfl) <| .cons (o_load_s rfl rfl rfl) <| .cons (o_move rfl) <| .cons (o_nilCheck rfl) <| .cons (o_fieldAddr rfl) <| .cons (o_load_s rfl rfl rfl) <| .cons (o_callN (fun i => bif Nat.beq i 100000 then 100001 else bif Nat.beq i 100001 then 100003 else i) 0 (eqfP_c h2) rfl (DLeL.refl _) (.cons rfl (.cons rfl .nil)) rfl (.cons rfl (.cons rfl .nil))) <| .cons (o_assign rfl) <| .nil _) ?_
  obtain rfl := Option.some.inj hM
  refine a_imp (σ' := ⟨[(4, .bool v3)], [(100000, some (.blk 134 [.row 100001])), (100001, some (.row 137 4 (List.map CPart.dv o0.gparts))), (100002, some (.blk 134 [.row 100003])), (100003, some (.row 137 4 (List.map CPart.dv o2.gparts)))], [100000, 100001, 100002, 100003]⟩) (Imp.sh (fun i => i) rfl rfl rfl rfl rfl rfl) ?_
  exact a_ret (a_post (.r1 (.tmp rfl)) (DLe.refl _) (PostOk.spec (.cons rfl (.cons rfl (.cons rfl (.cons rfl .nil))))))
def w30_CollectOrder_K3 (a10 : Bool) (a17 : Int) : Option Bool :=
  some ((a17 == 0) == (!a10))
def w30_CollectOrder_L4 (v2_0 : CColl × (List e30_Known)) (a6 : List w30_File) (a18 : Int) (a19 : Int) (a20 : List CPart) : Option (Ctl (Int × Int × (List CPart)) Int) :=
  if ((decide (a19 < (List.length a6 : Int))) && (a18 == 0)) = true then
    (idx a6 a19).bind fun v25 =>
    (w30_File_bytes v25 (IntKind.wrap .i64 ((List.length v2_0.2 : Int) - 1))).bind fun v27 =>
    (CColl_Add_a v27.1 v27.2.1 (CColl.mk a20)).bind fun v29 =>
    some (.next (v29.1, (IntKind.wrap .i64 (a19 + 1)), v29.2.gparts))
  else
    some (.done a18)
def w30_CollectOrder_K2 (v2_0 : CColl × (List e30_Known)) (a6 : List w30_File) (a10 : Bool) (a11 : List CPart) : Option Bool :=
  (gb (!a10) (false) (CColl_Equal_a (CColl.mk a11) v2_0.1)).bind fun v13 =>
  if ((!a10) && (!v13)) = true then
    some false
  else
    (collect_New (IntKind.wrap .i64 ((List.length v2_0.2 : Int) - 1))).bind fun v16 =>
    match v16 with
    | .inl v16_0 =>
      (whileM (E := Int) (fun s => w30_CollectOrder_L4 v2_0 a6 s.1 s.2.1 s.2.2) (0, 0, v16_0.gparts)).bind fun e => w30_CollectOrder_K3 a10 e
    | .inr v16_1 =>
      none
def w30_CollectOrder_L5 (x2 : Int) (v2_0 : CColl × (List e30_Known)) (a6 : List w30_File) (k30 : Nat) (a31 : Bool) (a32 : List CPart) : Option (Bool × (List CPart)) :=
  chk ((0 : Int) ≤ (IntKind.wrap .i64 ((k30 : Int) + (IntKind.wrap .i64 x2))) ∧ (0 : Int) < (List.length a6 : Int)) <|
  (idx a6 (IntKind.wrap .i64 ((IntKind.wrap .i64 ((List.length a6 : Int) - 1)) - ((IntKind.wrap .i64 ((k30 : Int) + (IntKind.wrap .i64 x2))) % (List.length a6 : Int))))).bind fun v38 =>
  (w30_File_bytes v38 (IntKind.wrap .i64 ((List.length v2_0.2 : Int) - 1))).bind fun v40 =>
  (CColl_Add_a v40.1 v40.2.1 (CColl.mk a32)).bind fun v42 =>
  some (((v42.1 != 0) || a31), v42.2.gparts)
def w30_CollectOrder_K1 (x2 : Int) (v2_0 : CColl × (List e30_Known)) (a6 : List w30_File) : Option Bool :=
  (collect_New (IntKind.wrap .i64 ((List.length v2_0.2 : Int) - 1))).bind fun v8 =>
  match v8 with
  | .inl v8_0 =>
    (foldM' 9223372036854775807 (IntKind.wrap .i64 (2 * (List.length a6 : Int))) (fun k30 s => w30_CollectOrder_L5 x2 v2_0 a6 k30 s.1 s.2) (false, v8_0.gparts)).bind fun s => w30_CollectOrder_K2 v2_0 a6 s.1 s.2
  | .inr v8_1 =>
    none
def w30_CollectOrder (x0 : Int) (x1 : List w30_File) (x2 : Int) : Option Bool :=
  (w30_collected x0 x1).bind fun v2 =>
  match v2 with
  | .inl v2_0 =>
    (w30_awake).bind fun v4 =>
    if ((!v4) || false) = true then
      some false
    else
      if (decide (8 < (List.length x1 : Int))) = true then
        chk (slOk (List.length x1) 0 8) <|
        w30_CollectOrder_K1 x2 v2_0 (List.take (Int.toNat 8) x1)
      else
        w30_CollectOrder_K1 x2 v2_0 x1
  | .inr v2_1 =>
    none
theorem w30_CollectOrder_c {x0 : Int} {x1 : List w30_File} {x2 : Int} {r : Bool} (hM : w30_CollectOrder x0 x1 x2 = some r) : PCall Tryz.prog 6 [.int .u8 x0, .sl 2 (List.map w30_File.dv x1), .int .u8 x2] (.bool r) := by
  unfold w30_CollectOrder at hM
  refine PCall.body Tryz.func6 Tryz.ntmps6 rfl rfl rfl rfl ?_
  refine a_seq (ar (.cons (o_assign rfl) <| .nil _) ?_)
  refine a_seq ?_
  obtain ⟨v2, h1, hM⟩ := of_bind hM
  rcases v2 with v2_0 | v2_1
  · refine ar (.cons (o_move rfl) <| .cons (o_move rfl) <| .cons (o_callN (fun i => bif Nat.beq i 50002 then 10003 else bif Nat.beq i 50001 then 10002 else bif Nat.beq i 50000 then 10001 else i) 3 (w30_collected_c0 h1) rfl (DLeL.refl _) .nil rfl .nil) <| .cons (o_move rfl) <| .cons (o_extract rfl rfl) <| .cons (o_extract rfl rfl) <| .cons (o_assign rfl) <| .cons (o_assign rfl) <| .nil _) ?_
    refine a_seq (a_seq ?_)
    obtain ⟨v4, h3, hM⟩ := of_bind hM
    refine ar (.cons (o_call (w30_awake_c h3) rfl (DLeL.refl _) rfl) <| .cons (o_not rfl) <| .cons (o_move rfl) <| .cons (o_guardG .bF rfl rfl (fun hb => (.keep .nil)) (fun hb => o_move rfl)) <| .cons (o_guardG .bF rfl rfl (fun hb => (.strip rfl hb .nil)) (fun hb => o_ptr_eq rfl)) <| .cons (o_or rfl rfl) <| .nil _) ?_
    refine a_cond _ rfl (fun h5 => ?_) (fun h5 => ?_)
    · replace hM := (of_if hM).1 h5
      refine a_seq (ar (.cons (o_assign rfl) <| .nil _) ?_)
      obtain rfl := Option.some.inj hM
      exact a_ret (a_post (.r1 (.tmp rfl)) (DLe.refl _) PostOk.nil.spec)
    · replace hM := (of_if hM).2 h5
      refine a_skip ?_
      refine a_cut (α := (List w30_File)) (fun s => ⟨[(1, .sl 2 (List.map w30_File.dv s)), (2, .int .u8 x2), (7, .ref 10001 0), (8, .sl 97 (List.map e30_Known.dv v2_0.2))], [(10001, some (.blk 134 [.row 10004])), (10004, some (.row 137 4 (List.map CPart.dv v2_0.1.gparts)))], [10001, 10004]⟩) (fun s => w30_CollectOrder_K1 x2 v2_0 s = some r) ?_ ?_
      · refine a_seq (ar (.cons (o_move rfl) <| .cons (t_len rfl) <| .cons (o_int rfl rfl rfl) <| .nil _) ?_)
        refine a_cond _ rfl (fun h43 => ?_) (fun h43 => ?_)
        · replace hM := (of_if hM).1 h43
          obtain ⟨h44, hM⟩ := of_chk hM
          refine ar (.cons (o_move rfl) <| .cons (t_slice_h h44 rfl rfl) <| .cons (o_assign rfl) <| .nil _) ?_
          exact ⟨(List.take (Int.toNat 8) x1), hM, ((Imp.freeze (id := 10003) rfl).trans (Imp.sh (fun i => bif Nat.beq i 10004 then 10002 else i) rfl rfl rfl rfl rfl rfl))⟩
        · replace hM := (of_if hM).2 h43
          refine a_skip ?_
          exact ⟨x1, hM, ((Imp.freeze (id := 10003) rfl).trans (Imp.sh (fun i => bif Nat.beq i 10004 then 10002 else i) rfl rfl rfl rfl rfl rfl))⟩
      · rintro a6 hM
        replace hM : w30_CollectOrder_K1 x2 v2_0 a6 = some r := hM
        unfold w30_CollectOrder_K1 at hM
        refine a_seq (ar (.cons (o_move rfl) <| .cons (t_len rfl) <| .cons (o_int rfl rfl rfl) <| .cons (o_assign rfl) <| .nil _) ?_)
        refine a_seq ?_
        obtain ⟨v8, h7, hM⟩ := of_bind hM
        rcases v8 with v8_0 | v8_1
        · refine ar (.cons (o_move rfl) <| .cons (o_callN (fun i => bif Nat.beq i 50001 then 10006 else bif Nat.beq i 50000 then 10005 else i) 2 (collect_New_c0 h7) rfl (DLeL.refl _) .nil rfl .nil) <| .cons (o_move rfl) <| .cons (o_extract rfl rfl) <| .cons (o_extract rfl rfl) <| .cons (o_assign rfl) <| .cons (o_assign rfl) <| .nil _) ?_
          refine a_seq (a_seq (ar (.cons (o_move rfl) <| .cons (o_int rfl rfl rfl) <| .nil _) ?_))
          refine a_cond _ rfl (fun c => by cases c) (fun _ => ?_)
          refine a_skip (a_seq (ar (.cons (o_assign rfl) <| .nil _) ?_))
          refine a_cut (α := Bool × (List CPart)) (fun s => ⟨[(1, .sl 2 (List.map w30_File.dv a6)), (7, .ref 10001 0), (9, .int .i64 (IntKind.wrap .i64 ((List.length v2_0.2 : Int) - 1))), (10, .ref 10005 0), (12, .bool s.1)], [(10001, some (.blk 134 [.row 10007])), (10005, some (.blk 134 [.row 10008])), (10007, some (.row 137 4 (List.map CPart.dv v2_0.1.gparts))), (10008, some (.row 137 4 (List.map CPart.dv s.2)))], [10001, 10005, 10007, 10008]⟩) (fun s => w30_CollectOrder_K2 v2_0 a6 s.1 s.2 = some r) ?_ ?_
          · refine a_seq (ar (.cons (o_move rfl) <| .cons (t_len rfl) <| .cons (o_int rfl rfl rfl) <| .cons (o_move rfl) <| .nil _) ?_)
            obtain ⟨⟨a31, a32⟩, hL33, hK33⟩ := of_bind hM
            refine a_block ?_
            refine a_fold (fun k30 (s : Bool × (List CPart)) => ⟨[(1, .sl 2 (List.map w30_File.dv a6)), (2, .int .u8 x2), (7, .ref 10001 0), (9, .int .i64 (IntKind.wrap .i64 ((List.length v2_0.2 : Int) - 1))), (10, .ref 10005 0), (12, .bool s.1), (51, .int .i64 (IntKind.wrap .i64 (2 * (List.length a6 : Int)))), (52, .int .i64 (k30 : Int))], [(10001, some (.blk 134 [.row 10015])), (10005, some (.blk 134 [.row 10016])), (10015, some (.row 137 4 (List.map CPart.dv v2_0.1.gparts))), (10016, some (.row 137 4 (List.map CPart.dv s.2)))], [10001, 10005, 10015, 10016]⟩) _ hL33 (Imp.sh (fun i => bif Nat.beq i 10016 then 10006 else bif Nat.beq i 10015 then 10004 else i) rfl rfl rfl rfl rfl rfl) ?_ ?_
            · rintro k30 ⟨a31, a32⟩ t34 hk30 hx30 hM
              replace hM : w30_CollectOrder_L5 x2 v2_0 a6 k30 a31 a32 = some t34 := hM
              unfold w30_CollectOrder_L5 at hM
              refine a_seq (ar (.cons (o_int rfl rfl rfl) <| .nil _) ?_)
              refine a_seq ?_
              refine a_cond _ rfl (fun _ => ?_) (fun c => absurd hk30 (of_decide_eq_false c))
              refine a_skip (a_seq (a_block (a_seq (ar (.cons (o_move rfl) <| .cons (o_assign rfl) <| .nil _) ?_))))
              refine a_seq ?_
              obtain ⟨h36, hM⟩ := of_chk hM
              obtain ⟨v38, h37, hM⟩ := of_bind hM
              obtain ⟨v40, h39, hM⟩ := of_bind hM
              refine ar (.cons (o_move rfl) <| .cons (o_move rfl) <| .cons (t_len rfl) <| .cons (o_int rfl rfl rfl) <| .cons (o_move rfl) <| .cons (o_move rfl) <| .cons (o_conv_w rfl) <| .cons (o_int rfl rfl rfl) <| .cons (o_move rfl) <| .cons (t_len rfl) <| .cons (o_rem rfl rfl h36) <| .cons (o_int rfl rfl rfl) <| .cons (t_index h37 rfl rfl rfl) <| .cons (o_load_er rfl rfl rfl) <| .cons (o_move rfl) <| .cons (o_callN (fun i => bif Nat.beq i 50001 then 10018 else bif Nat.beq i 50000 then 10017 else i) 2 (w30_File_bytes_c h39) rfl (DLeL.refl _) .nil rfl .nil) <| .cons (o_move rfl) <| .cons (o_extract rfl rfl) <| .cons (o_extract rfl rfl) <| .cons (o_extract rfl rfl) <| .cons (o_assign rfl) <| .cons (o_assign rfl) <| .cons (o_assign rfl) <| .nil _) ?_
              refine a_imp (Imp.freeze (id := 10017) rfl) ?_
              obtain ⟨v42, h41, hM⟩ := of_bind hM
              refine ar (.cons (o_move rfl) <| .cons (o_move rfl) <| .cons (o_move rfl) <| .cons (o_callN (fun i => bif Nat.beq i 50000 then 10019 else bif Nat.beq i 100000 then 10005 else bif Nat.beq i 100001 then 10016 else i) 3 (CColl_Add_a_c h41) rfl (DLeL.refl _) (.cons rfl (.cons rfl .nil)) rfl .nil) <| .cons (o_int rfl rfl rfl) <| .cons (o_move rfl) <| .cons (o_guardG .bF rfl rfl (fun hb => (.keep .nil)) (fun hb => o_move rfl)) <| .cons (o_or rfl rfl) <| .cons (o_assign rfl) <| .nil _) ?_
              refine ar (.cons (o_add rfl rfl (inR_i64 hk30 hx30)) <| .cons (o_move rfl) <| .nil _) ?_
              obtain rfl := Option.some.inj hM
              exact (Imp.of (fun i => bif Nat.beq i 10016 then 10019 else i) (.cons rfl (DLe.refl _) (.cons rfl (DLe.refl _) (.cons rfl (DLe.refl _) (.cons rfl (DLe.refl _) (.cons rfl (DLe.refl _) (.cons rfl (DLe.refl _) (.cons rfl (DLe.refl _) (.cons rfl (DLe.succ _ _) .nil)))))))) (.cons rfl (.refl _) (.cons rfl (.refl _) (.cons rfl (.refl _) (.cons rfl (.refl _) .nil)))) rfl rfl rfl)
            · rintro k30 hk30 hx30
              refine a_seq (ar (.cons (o_int rfl rfl rfl) <| .nil _) ?_)
              refine a_seq ?_
              refine a_cond _ rfl (fun c => absurd (of_decide_eq_true c) (Int.not_lt.2 hk30)) (fun _ => ?_)
              refine a_exit ?_
              exact ⟨(a31, a32), hK33, (Imp.sh (fun i => bif Nat.beq i 10008 then 10016 else bif Nat.beq i 10007 then 10015 else i) rfl rfl rfl rfl rfl rfl)⟩
          · rintro ⟨a10, a11⟩ hM
            replace hM : w30_CollectOrder_K2 v2_0 a6 a10 a11 = some r := hM
            unfold w30_CollectOrder_K2 at hM
            refine a_seq (a_seq ?_)
            obtain ⟨v13, h12, hM⟩ := of_bind hM
            refine ar (.cons (o_move rfl) <| .cons (o_not rfl) <| .cons (o_move rfl) <| .cons (o_guardG .bT rfl rfl (fun hb => (.keep .nil)) (fun hb => o_move rfl)) <| .cons (o_guardG .bT rfl rfl (fun hb => (.keep .nil)) (fun hb => o_move rfl)) <| .cons (o_guardG .bT rfl rfl (fun hb => (.strip rfl hb (.strip rfl hb .nil))) (fun hb => o_callN (fun i => bif Nat.beq i 100000 then 10005 else bif Nat.beq i 100001 then 10008 else bif Nat.beq i 100002 then 10001 else bif Nat.beq i 100003 then 10007 else i) 0 (CColl_Equal_a_c (of_gb h12 hb)) rfl (DLeL.refl _) (.cons rfl (.cons rfl (.cons rfl (.cons rfl .nil)))) rfl (.cons rfl (.cons rfl (.cons rfl (.cons rfl .nil)))))) <| .cons (o_guardG .bT rfl rfl (fun hb => (.strip rfl hb .nil)) (fun hb => o_not rfl)) <| .cons (o_and rfl rfl) <| .nil _) ?_
            refine a_cond _ rfl (fun h14 => ?_) (fun h14 => ?_)
            · replace hM := (of_if hM).1 h14
              refine a_seq (ar (.cons (o_assign rfl) <| .nil _) ?_)
              obtain rfl := Option.some.inj hM
              exact a_ret (a_post (.r1 (.tmp rfl)) (DLe.refl _) PostOk.nil.spec)
            · replace hM := (of_if hM).2 h14
              refine a_skip (a_seq ?_)
              obtain ⟨v16, h15, hM⟩ := of_bind hM
              rcases v16 with v16_0 | v16_1
              · refine ar (.cons (o_move rfl) <| .cons (o_callN (fun i => bif Nat.beq i 50001 then 10010 else bif Nat.beq i 50000 then 10009 else i) 2 (collect_New_c0 h15) rfl (DLeL.refl _) .nil rfl .nil) <| .cons (o_move rfl) <| .cons (o_extract rfl rfl) <| .cons (o_extract rfl rfl) <| .cons (o_assign rfl) <| .cons (o_assign rfl) <| .nil _) ?_
                refine a_cut (α := Int) (fun s => ⟨[(11, .int .i64 s), (12, .bool a10)], [], []⟩) (fun s => w30_CollectOrder_K3 a10 s = some r) ?_ ?_
                · refine a_seq (ar (.cons (o_assign rfl) <| .nil _) ?_)
                  obtain ⟨e21, hL21, hK21⟩ := of_bind hM
                  refine a_block (a_while (fun s : Int × Int × (List CPart) => ⟨[(1, .sl 2 (List.map w30_File.dv a6)), (9, .int .i64 (IntKind.wrap .i64 ((List.length v2_0.2 : Int) - 1))), (11, .int .i64 s.1), (12, .bool a10), (17, .ref 10009 0), (18, .int .i64 s.2.1)], [(10009, some (.blk 134 [.row 10011])), (10011, some (.row 137 4 (List.map CPart.dv s.2.2)))], [10009, 10011]⟩) _ hL21 (Imp.sh (fun i => bif Nat.beq i 10011 then 10010 else i) rfl rfl rfl rfl rfl rfl) ?_)
                  rintro ⟨a18, a19, a20⟩ t22 hM hE21
                  replace hM : w30_CollectOrder_L4 v2_0 a6 a18 a19 a20 = some t22 := hM
                  unfold w30_CollectOrder_L4 at hM
                  refine a_seq (a_seq (ar (.cons (o_move rfl) <| .cons (o_move rfl) <| .cons (t_len rfl) <| .cons (o_int rfl rfl rfl) <| .cons (o_move rfl) <| .cons (o_guardG .bT rfl rfl (fun hb => (.keep .nil)) (fun hb => o_move rfl)) <| .cons (o_guardG .bT rfl rfl (fun hb => (.strip rfl hb .nil)) (fun hb => o_int rfl rfl rfl)) <| .cons (o_and rfl rfl) <| .nil _) ?_))
                  refine a_cond _ rfl (fun h23 => ?_) (fun h23 => ?_)
                  · replace hM := (of_if hM).1 h23
                    refine a_skip (a_seq (a_block (a_seq ?_)))
                    obtain ⟨v25, h24, hM⟩ := of_bind hM
                    obtain ⟨v27, h26, hM⟩ := of_bind hM
                    refine ar (.cons (o_move rfl) <| .cons (o_move rfl) <| .cons (t_index h24 rfl rfl rfl) <| .cons (o_load_er rfl rfl rfl) <| .cons (o_move rfl) <| .cons (o_callN (fun i => bif Nat.beq i 50001 then 10013 else bif Nat.beq i 50000 then 10012 else i) 2 (w30_File_bytes_c h26) rfl (DLeL.refl _) .nil rfl .nil) <| .cons (o_move rfl) <| .cons (o_extract rfl rfl) <| .cons (o_extract rfl rfl) <| .cons (o_extract rfl rfl) <| .cons (o_assign rfl) <| .cons (o_assign rfl) <| .cons (o_assign rfl) <| .nil _) ?_
                    refine a_imp (Imp.freeze (id := 10012) rfl) ?_
                    obtain ⟨v29, h28, hM⟩ := of_bind hM
                    refine ar (.cons (o_move rfl) <| .cons (o_move rfl) <| .cons (o_move rfl) <| .cons (o_callN (fun i => bif Nat.beq i 50000 then 10014 else bif Nat.beq i 100000 then 10009 else bif Nat.beq i 100001 then 10011 else i) 3 (CColl_Add_a_c h28) rfl (DLeL.refl _) (.cons rfl (.cons rfl .nil)) rfl .nil) <| .cons (o_assign rfl) <| .nil _) ?_
                    refine ar (.cons (o_move rfl) <| .cons (o_int rfl rfl rfl) <| .cons (o_assign rfl) <| .nil _) ?_
                    obtain rfl := Option.some.inj hM
                    exact ⟨(v29.1, (IntKind.wrap .i64 (a19 + 1)), v29.2.gparts), rfl, (Imp.sh (fun i => bif Nat.beq i 10011 then 10014 else i) rfl rfl rfl rfl rfl rfl)⟩
                  · replace hM := (of_if hM).2 h23
                    refine a_exit ?_
                    obtain rfl := Option.some.inj hM
                    obtain rfl := hE21 _ rfl
                    exact ⟨a18, hK21, (Imp.sh (fun i => i) rfl rfl rfl rfl rfl rfl)⟩
                · rintro a17 hM
                  replace hM : w30_CollectOrder_K3 a10 a17 = some r := hM
                  unfold w30_CollectOrder_K3 at hM
                  refine a_seq (ar (.cons (o_move rfl) <| .cons (o_int rfl rfl rfl) <| .cons (o_move rfl) <| .cons (o_not rfl) <| .cons (o_booleq rfl rfl) <| .cons (o_assign rfl) <| .nil _) ?_)
                  obtain rfl := Option.some.inj hM
                  exact a_ret (a_post (.r1 (.tmp rfl)) (DLe.refl _) PostOk.nil.spec)
              · cases hM
        · cases hM
  · cases hM
end Go.Proofs.YtepkcbalmjnhpaaGreat
set_option maxRecDepth 100000
set_option maxHeartbeats 1000000
set_option linter.unusedVariables false
set_option linter.unusedSimpArgs false
namespace Go.Proofs.YtepkcbalmjnhpaaGreat
open Go.RowKit
def tE (R : List Rk) (s : Nat) (i : Int) : Prop := ∃ r ∈ R, r.gWhat = 1 ∧ r.gSeq = (s : Int) ∧ r.gEvent.gN = i
def tL (R : List Rk) (s : Nat) : Prop := ∃ r ∈ R, r.gWhat = 2 ∧ r.gSeq ≤ (s : Int) ∧ (s : Int) < r.gSeq + r.gCount
def tT (R : List Rk) (t : Int) : Prop := ∃ r ∈ R, r.gWhat = 3 ∧ r.gSeq = t
structure Cons (R : List Rk) : Prop where
  one : ∀ s i j, s < 48 → tE R s i → tE R s j → i = j
  tot : ∀ t u, tT R t → tT R u → t = u
  snd : ∀ t (s : Nat), s < 48 → tT R t → t ≤ (s : Int) → (∀ i, ¬ tE R s i) ∧ ¬ tL R s
structure Rep (K : Kn) (R : List Rk) : Prop where
  ids : ∀ s : Nat, s < 48 → ∀ i, i ≠ 0 → (K.gIds s = i ↔ tE R s i)
  lost : ∀ s : Nat, s < 48 → K.gIds s = 0 → (K.gLost s = true ↔ tL R s)
  tot : ∀ t, 0 ≤ t → (K.gTotal = t ↔ tT R t)
  snd : Sound K
theorem tE_app {R S : List Rk} {s : Nat} {i : Int} : tE (R ++ S) s i ↔ tE R s i ∨ tE S s i := by
  constructor
  · rintro ⟨r, hr, h⟩
    rcases List.mem_append.1 hr with h1 | h1
    · exact .inl ⟨r, h1, h⟩
    · exact .inr ⟨r, h1, h⟩
  · rintro (⟨r, hr, h⟩ | ⟨r, hr, h⟩)
    · exact ⟨r, List.mem_append_left _ hr, h⟩
    · exact ⟨r, List.mem_append_right _ hr, h⟩
theorem tL_app {R S : List Rk} {s : Nat} : tL (R ++ S) s ↔ tL R s ∨ tL S s := by
  constructor
  · rintro ⟨r, hr, h⟩
    rcases List.mem_append.1 hr with h1 | h1
    · exact .inl ⟨r, h1, h⟩
    · exact .inr ⟨r, h1, h⟩
  · rintro (⟨r, hr, h⟩ | ⟨r, hr, h⟩)
    · exact ⟨r, List.mem_append_left _ hr, h⟩
    · exact ⟨r, List.mem_append_right _ hr, h⟩
theorem tT_app {R S : List Rk} {t : Int} : tT (R ++ S) t ↔ tT R t ∨ tT S t := by
  constructor
  · rintro ⟨r, hr, h⟩
    rcases List.mem_append.1 hr with h1 | h1
    · exact .inl ⟨r, h1, h⟩
    · exact .inr ⟨r, h1, h⟩
  · rintro (⟨r, hr, h⟩ | ⟨r, hr, h⟩)
    · exact ⟨r, List.mem_append_left _ hr, h⟩
    · exact ⟨r, List.mem_append_right _ hr, h⟩
theorem tE_mono {R S : List Rk} (h : ∀ r ∈ R, r ∈ S) {s : Nat} {i : Int} : tE R s i → tE S s i := fun ⟨r, hr, k⟩ => ⟨r, h r hr, k⟩
theorem tL_mono {R S : List Rk} (h : ∀ r ∈ R, r ∈ S) {s : Nat} : tL R s → tL S s := fun ⟨r, hr, k⟩ => ⟨r, h r hr, k⟩
theorem tT_mono {R S : List Rk} (h : ∀ r ∈ R, r ∈ S) {t : Int} : tT R t → tT S t := fun ⟨r, hr, k⟩ => ⟨r, h r hr, k⟩
theorem Cons.mono {R S : List Rk} (h : ∀ r ∈ R, r ∈ S) (hS : Cons S) : Cons R :=
  ⟨fun s i j hs h1 h2 => hS.one s i j hs (tE_mono h h1) (tE_mono h h2), fun t u h1 h2 => hS.tot t u (tT_mono h h1) (tT_mono h h2), fun t s hs h1 h2 => ⟨fun i hi => (hS.snd t s hs (tT_mono h h1) h2).1 i (tE_mono h hi), fun hl => (hS.snd t s hs (tT_mono h h1) h2).2 (tL_mono h hl)⟩⟩
def Small2 (R : List Rk) : Prop := ∀ r ∈ R, Small r
theorem tE_ne {R : List Rk} (h : Small2 R) {s : Nat} {i : Int} (k : tE R s i) : i ≠ 0 := by
  obtain ⟨r, hr, h1, h2, rfl⟩ := k
  exact (h r hr).name h1
theorem tT_nn {R : List Rk} (h : Small2 R) {t : Int} (k : tT R t) : 0 ≤ t ∧ t < 48 := by
  obtain ⟨r, hr, h1, rfl⟩ := k
  exact (h r hr).seq
theorem Rep.cons {K : Kn} {R : List Rk} (hR : Small2 R) (h : Rep K R) : Cons R := by
  have hone : ∀ s i j, s < 48 → tE R s i → tE R s j → i = j := fun s i j hs h1 h2 => by
    have a := (h.ids s hs i (tE_ne hR h1)).2 h1
    have b := (h.ids s hs j (tE_ne hR h2)).2 h2
    rw [← a, ← b]
  refine ⟨hone, fun t u h1 h2 => ?_, fun t s hs h1 h2 => ?_⟩
  · have a := (h.tot t (tT_nn hR h1).1).2 h1
    have b := (h.tot u (tT_nn hR h2).1).2 h2
    rw [← a, ← b]
  · have a := (h.tot t (tT_nn hR h1).1).2 h1
    have := (tT_nn hR h1).1
    obtain ⟨k1, k2⟩ := h.snd s hs (by omega) (by omega)
    refine ⟨fun i hi => ?_, fun hl => ?_⟩
    · have := (h.ids s hs i (tE_ne hR hi)).2 hi
      exact tE_ne hR hi (by rw [← this, k1])
    · have := (h.lost s hs k1).2 hl
      rw [k2] at this; cases this
theorem raw_E {rs : List Rk} {s : Nat} {i : Int} : (∃ r ∈ (partRaw rs).gentries, r.gSeq = (s : Int) ∧ r.gEvent.gN = i) ↔ tE rs s i := by
  constructor
  · rintro ⟨r, hr, h⟩
    have := mem_ents.1 hr
    exact ⟨r, this.1, this.2, h⟩
  · rintro ⟨r, hr, h1, h⟩
    exact ⟨r, mem_ents.2 ⟨hr, h1⟩, h⟩
theorem raw_L {rs : List Rk} {s : Nat} : inS (partRaw rs).glost (s : Int) ↔ tL rs s := by
  constructor
  · rintro ⟨q, hq, h⟩
    obtain ⟨r, r1, rfl⟩ := List.mem_map.1 hq
    have r2 := List.mem_filter.1 r1
    exact ⟨r, r2.1, by simpa using r2.2, h⟩
  · rintro ⟨r, hr, h1, h⟩
    exact ⟨spanOf r, List.mem_map.2 ⟨r, List.mem_filter.2 ⟨hr, by simpa using h1⟩, rfl⟩, h⟩
theorem raw_T {rs : List Rk} (h1 : OneEnd rs) {t : Int} : ((partRaw rs).gknown = true ∧ (partRaw rs).gtotal = t) ↔ tT rs t := by
  constructor
  · rintro ⟨h, rfl⟩
    obtain ⟨r, r1, r2, r3⟩ := endOf_mem h
    exact ⟨r, r1, r2, r3⟩
  · rintro ⟨r, hr, h3, rfl⟩
    have := endOf_some hr h3 h1
    exact ⟨by show (endOf rs).1 = true; rw [this], by show (endOf rs).2 = _; rw [this]⟩
theorem rep_of_joined {A K : Kn} {R rs : List Rk} (hA : Rep A R) (h1 : OneEnd rs) (hJ : Joined A (partRaw rs) K) : (∀ s : Nat, s < 48 → ∀ i, i ≠ 0 → (K.gIds s = i ↔ tE (R ++ rs) s i)) ∧ (∀ s : Nat, s < 48 → K.gIds s = 0 → (K.gLost s = true ↔ tL (R ++ rs) s)) ∧ ∀ t, 0 ≤ t → (K.gTotal = t ↔ tT (R ++ rs) t) := by
  have hids : ∀ s : Nat, s < 48 → ∀ i, i ≠ 0 → (K.gIds s = i ↔ tE (R ++ rs) s i) := fun s hs i hi => by
    rw [hJ.ids s hs i hi, raw_E, tE_app, hA.ids s hs i hi]
  refine ⟨hids, fun s hs h0 => ?_, fun t ht => ?_⟩
  · have hA0 : A.gIds s = 0 := Classical.byContradiction fun hne => by
      have := (hJ.ids s hs _ hne).2 (.inl rfl)
      omega
    rw [hJ.lost s hs h0, raw_L, tL_app, hA.lost s hs hA0]
  · rw [hJ.tot t ht, raw_T h1, tT_app, hA.tot t ht]
theorem rep_sound {K : Kn} {R : List Rk} (hR : Small2 R) (hids : ∀ s : Nat, s < 48 → ∀ i, i ≠ 0 → (K.gIds s = i ↔ tE R s i)) (hlost : ∀ s : Nat, s < 48 → K.gIds s = 0 → (K.gLost s = true ↔ tL R s)) (htot : ∀ t, 0 ≤ t → (K.gTotal = t ↔ tT R t)) (hC : Cons R) : Sound K := by
  intro s hs h0 hts
  have hT := (htot _ h0).1 rfl
  obtain ⟨k1, k2⟩ := hC.snd _ s hs hT hts
  have hid : K.gIds s = 0 := Classical.byContradiction fun hne => k1 _ ((hids s hs _ hne).1 rfl)
  refine ⟨hid, ?_⟩
  rw [Bool.eq_false_iff]
  intro hl
  exact k2 ((hlost s hs hid).1 hl)
theorem refAdd_rep {A K : Kn} {ok : Bool} {R rs : List Rk} (hA : Rep A R) (hrng : -1 ≤ A.gTotal ∧ A.gTotal < 48) (hR : Small2 R) (hrs : Small2 rs) (hl : rs.length ≤ 1099511627776) (h : e30_Add A (rs.map toRef) = some (K, ok)) : (ok = true ↔ Cons (R ++ rs)) ∧ (ok = true → Rep K (R ++ rs)) := by
  have hS : Small2 (R ++ rs) := fun r hr => (List.mem_append.1 hr).elim (hR r) (hrs r)
  obtain ⟨K0, ok0, h0, h1⟩ := refAdd_spec A hrng rs hl hrs
  rw [h] at h0
  obtain ⟨rfl, rfl⟩ : K = K0 ∧ ok = ok0 := by injection h0 with h0; injection h0 with a b; exact ⟨a, b⟩
  have oneOf : Cons (R ++ rs) → OneEnd rs := fun hC r hr q hq r3 q3 => hC.tot _ _ (tT_app.2 (.inr ⟨r, hr, r3, rfl⟩)) (tT_app.2 (.inr ⟨q, hq, q3, rfl⟩))
  rcases h1 with ⟨rfl, j1, j2, j3⟩ | ⟨rfl, rfl, hno⟩
  · obtain ⟨a, b, c⟩ := rep_of_joined hA j3 j1
    have hRep : Rep K (R ++ rs) := ⟨a, b, c, j2⟩
    exact ⟨⟨fun _ => hRep.cons hS, fun _ => rfl⟩, fun _ => hRep⟩
  · refine ⟨⟨fun h => (by cases h), fun hC => ?_⟩, fun h => (by cases h)⟩
    exfalso
    rcases hno with (⟨r, r1, r2, r3⟩ | ⟨r, r1, q, q1, h1, h2⟩ | ⟨h1, h2, h3⟩) | hno | ⟨K1, j1, j2⟩
    · have hr := mem_ents.1 r1
      have hs := (hrs r hr.1).seq
      have e : ((r.gSeq.toNat : Nat) : Int) = r.gSeq := by omega
      have hE := (hA.ids _ (by omega) _ r2).1 rfl
      exact r3 (hC.one _ _ _ (show r.gSeq.toNat < 48 by omega) (tE_app.2 (.inl hE)) (tE_app.2 (.inr ⟨r, hr.1, hr.2, e.symm, rfl⟩)))
    · have hr := mem_ents.1 r1
      have hq := mem_ents.1 q1
      have hs := (hrs r hr.1).seq
      have e : ((r.gSeq.toNat : Nat) : Int) = r.gSeq := by omega
      exact h2 (hC.one _ _ _ (show r.gSeq.toNat < 48 by omega) (tE_app.2 (.inr ⟨r, hr.1, hr.2, e.symm, rfl⟩)) (tE_app.2 (.inr ⟨q, hq.1, hq.2, by rw [e, h1], rfl⟩)))
    · obtain ⟨q, q1, q2, q3⟩ := endOf_mem h2
      exact h3 (hC.tot _ _ (tT_app.2 (.inl ((hA.tot _ h1).1 rfl))) (tT_app.2 (.inr ⟨q, q1, q2, q3⟩)))
    · exact hno (oneOf hC)
    · obtain ⟨a, b, c⟩ := rep_of_joined hA (oneOf hC) j1
      exact j2 (rep_sound hS a b c hC)
structure Sim (K L : Kn) : Prop where
  ids : ∀ s : Nat, s < 48 → K.gIds s = L.gIds s
  lost : ∀ s : Nat, s < 48 → K.gIds s = 0 → K.gLost s = L.gLost s
  tot : K.gTotal = L.gTotal
theorem Rep.sim {K L : Kn} {R S : List Rk} (h : Rep K R) (k : Rep L S) (hR : Small2 R) (hS : Small2 S) (hm : ∀ r, r ∈ R ↔ r ∈ S) (hK : -1 ≤ K.gTotal) (hL : -1 ≤ L.gTotal) : Sim K L := by
  have e : ∀ s i, tE R s i ↔ tE S s i := fun s i => ⟨tE_mono fun r => (hm r).1, tE_mono fun r => (hm r).2⟩
  have el : ∀ s, tL R s ↔ tL S s := fun s => ⟨tL_mono fun r => (hm r).1, tL_mono fun r => (hm r).2⟩
  have et : ∀ t, tT R t ↔ tT S t := fun s => ⟨tT_mono fun r => (hm r).1, tT_mono fun r => (hm r).2⟩
  have hi : ∀ s : Nat, s < 48 → K.gIds s = L.gIds s := fun s hs => by
    by_cases h0 : K.gIds s = 0
    · refine Classical.byContradiction fun hne => ?_
      have hl : L.gIds s ≠ 0 := fun x => hne (by rw [h0, x])
      have := (h.ids s hs _ hl).2 ((e s _).2 ((k.ids s hs _ hl).1 rfl))
      omega
    · exact ((k.ids s hs _ h0).2 ((e s _).1 ((h.ids s hs _ h0).1 rfl))).symm
  refine ⟨hi, fun s hs h0 => ?_, ?_⟩
  · have a := h.lost s hs h0
    have b := k.lost s hs (by rw [← hi s hs]; exact h0)
    rw [Bool.eq_iff_iff, a, b, el]
  · by_cases h0 : 0 ≤ K.gTotal
    · exact ((k.tot _ h0).2 ((et _).1 ((h.tot _ h0).1 rfl))).symm
    · by_cases h1 : 0 ≤ L.gTotal
      · exact (h.tot _ h1).2 ((et _).2 ((k.tot _ h1).1 rfl))
      · omega
theorem spans_eq (l : List CSpan) (hl : l.length ≤ 1099511627776) : eqS l l = some true := by
  unfold eqS
  rw [if_neg (by simp), forM_next (S := Unit) (E := Bool) (s0 := ()) l.length (fun _ => ()) rfl rfl (by omega) (fun j hj => ?_)]
  · rfl
  · unfold eqS_L2
    rw [idx_lt hj]
    simp
theorem recs_eq (l m : List Rk) (hl : l.length ≤ 1099511627776) (hlen : l.length = m.length) (hf : ∀ r ∈ l, reFits r = true) (h : ∀ (i : Nat) (h1 : i < l.length) (h2 : i < m.length), Eqr l[i] m[i]) : eqfR l m = some true := by
  unfold eqfR
  rw [if_neg (by simp [hlen]), forM_next (S := Unit) (E := Bool) (s0 := ()) l.length (fun _ => ()) rfl rfl (by omega) (fun j hj => ?_)]
  · rfl
  · unfold eqfR_L2
    rw [idx_lt hj, Option.bind_some, idx_lt (by omega), Option.bind_some, equal_eq (hf _ (List.getElem_mem hj)), Option.bind_some]
    have : recEq (reOf l[j]) (reOf (m[j]'(by omega))) = true := h j hj (by omega)
    rw [this]; rfl
theorem asc_same {l m : List Rk} (hl : Asc l) (hm : Asc m) (h : ∀ x, hasN l x ↔ hasN m x) : l.length = m.length ∧ ∀ (i : Nat) (h1 : i < l.length) (h2 : i < m.length), l[i].gSeq = m[i].gSeq := by
  induction l generalizing m with
  | nil =>
    cases m with
    | nil => exact ⟨rfl, fun i h1 => by simp at h1⟩
    | cons y m =>
      obtain ⟨r, hr, _⟩ := (h y.gSeq).2 ⟨y, List.mem_cons_self .., rfl⟩
      cases hr
  | cons x l ih =>
    cases m with
    | nil =>
      obtain ⟨r, hr, _⟩ := (h x.gSeq).1 ⟨x, List.mem_cons_self .., rfl⟩
      cases hr
    | cons y m =>
      have hx := (List.pairwise_cons.1 hl).1
      have hy := (List.pairwise_cons.1 hm).1
      have e : x.gSeq = y.gSeq := by
        obtain ⟨r, hr, r2⟩ := (h x.gSeq).1 ⟨x, List.mem_cons_self .., rfl⟩
        obtain ⟨q, hq, q2⟩ := (h y.gSeq).2 ⟨y, List.mem_cons_self .., rfl⟩
        rcases List.mem_cons.1 hr with rfl | hr
        · exact r2.symm
        · rcases List.mem_cons.1 hq with rfl | hq
          · exact q2
          · have := hy r hr
            have := hx q hq
            omega
      have hh : ∀ z, hasN l z ↔ hasN m z := fun z => by
        constructor
        · rintro ⟨r, hr, rfl⟩
          obtain ⟨q, hq, q2⟩ := (h r.gSeq).1 ⟨r, List.mem_cons_of_mem _ hr, rfl⟩
          rcases List.mem_cons.1 hq with rfl | hq
          · have := hx r hr; omega
          · exact ⟨q, hq, q2⟩
        · rintro ⟨r, hr, rfl⟩
          obtain ⟨q, hq, q2⟩ := (h r.gSeq).2 ⟨r, List.mem_cons_of_mem _ hr, rfl⟩
          rcases List.mem_cons.1 hq with rfl | hq
          · have := hy r hr; omega
          · exact ⟨q, hq, q2⟩
      obtain ⟨a, b⟩ := ih (List.pairwise_cons.1 hl).2 (List.pairwise_cons.1 hm).2 hh
      refine ⟨by simp [a], fun i h1 h2 => ?_⟩
      cases i with
      | zero => exact e
      | succ i => exact b i (by simpa using h1) (by simpa using h2)
theorem part_equal {c : Int} {p q : CPart} {K L : Kn} (hp : Rel (GE c) p K) (hq : Rel (GE c) q L) (hs : Sim K L) : CColl_Equal_1 p q = some true := by
  have hG := good_GE c
  have e1 : p.gknown = q.gknown := by rw [hp.kno, hq.kno, hs.tot]
  have e2 : p.gtotal = q.gtotal := by rw [hp.tot, hq.tot, hs.tot]
  have e3 : p.glost = q.glost := Can.ext hp.can hq.can fun x => by
    rw [hp.lost, hq.lost]
    constructor
    · rintro ⟨s, s1, s2, s3, s4⟩
      exact ⟨s, s1, s2, by rw [← hs.lost s s1 s4]; exact s3, by rw [← hs.ids s s1]; exact s4⟩
    · rintro ⟨s, s1, s2, s3, s4⟩
      have s5 : K.gIds s = 0 := by rw [hs.ids s s1]; exact s4
      exact ⟨s, s1, s2, by rw [hs.lost s s1 s5]; exact s3, s5⟩
  have hh : ∀ x, hasN p.gentries x ↔ hasN q.gentries x := fun x => by
    rw [hp.hasN hG, hq.hasN hG]
    constructor
    · rintro ⟨s, s1, s2, s3⟩; exact ⟨s, s1, s2, by rw [← hs.ids s s1]; exact s3⟩
    · rintro ⟨s, s1, s2, s3⟩; exact ⟨s, s1, s2, by rw [hs.ids s s1]; exact s3⟩
  obtain ⟨l1, l2⟩ := asc_same hp.asc hq.asc hh
  have hne := hp.ne
  have hnl := hq.nl
  have hre := recs_eq p.gentries q.gentries (by omega) l1 (fun r hr => hG.fits r (hp.good r hr).1) (fun i h1 h2 => by
    have a := hp.good _ (List.getElem_mem h1)
    have b := hq.good _ (List.getElem_mem h2)
    have hsq := hG.seq _ a.1
    have e := l2 i h1 h2
    refine hG.one _ _ a.1 b.1 e ?_
    rw [← a.2, ← b.2, e]
    exact hs.ids _ (by omega))
  unfold CColl_Equal_1
  rw [e3, spans_eq _ (by omega), hre, e1, e2]
  simp [gb]
theorem coll_equal {n : Nat} {P Q : List CPart} {Ks Ls : List Kn} (hP : Inv n P Ks) (hQ : Inv n Q Ls) (hn : n ≤ 8) (hs : ∀ (i : Nat) (h1 : i < Ks.length) (h2 : i < Ls.length), Sim Ks[i] Ls[i]) : CColl_Equal_a ⟨P⟩ ⟨Q⟩ = some true := by
  have l1 := hP.len
  have l2 := hQ.len
  have k1 := hP.lenK
  have k2 := hQ.lenK
  unfold CColl_Equal_a eqfP
  dsimp only
  rw [if_neg (by simp [l1, l2]), forM_next (S := Unit) (E := Bool) (s0 := ()) P.length (fun _ => ()) rfl rfl (by omega) (fun j hj => ?_)]
  · rfl
  · unfold eqfP_L2
    rw [idx_lt hj, Option.bind_some, idx_lt (by omega), Option.bind_some, part_equal (hP.rel j hj (by omega)) (hQ.rel j (by omega) (by omega)) (hs j (by omega) (by omega))]
    rfl
end Go.Proofs.YtepkcbalmjnhpaaGreat
set_option maxRecDepth 100000
set_option maxHeartbeats 1000000
set_option linter.unusedVariables false
set_option linter.unusedSimpArgs false
namespace Go.Proofs.YtepkcbalmjnhpaaGreat
open Go.RowKit
abbrev Fi := w30_File
def FileSpec (n : Nat) (f : Fi) (y : List Int × List Rk) : Prop := w30_File_bytes f (n : Int) = some (fileC f (n : Int), y.1, y.2.map toRef) ∧ recorder_Read y.1 = some (y.2, 0) ∧ (∀ r ∈ y.2, Reads (fileC f (n : Int)) r) ∧ y.2.length ≤ 12
theorem files_fun (n : Nat) (hn : 1 ≤ n ∧ n ≤ 8) : ∃ φ : Fi → List Int × List Rk, ∀ f, FileOk f → FileSpec n f (φ f) := by
  have h : ∀ f : Fi, ∃ y : List Int × List Rk, FileOk f → FileSpec n f y := fun f => by
    by_cases hf : FileOk f
    · obtain ⟨p, rs, h1, h2, h3, h4⟩ := file_read f (n : Int) (by omega) hf
      exact ⟨(p, rs), fun _ => ⟨h1, h2, h3, h4⟩⟩
    · exact ⟨([], []), fun h => absurd h hf⟩
  exact ⟨fun f => Classical.choose (h f), fun f hf => Classical.choose_spec (h f) hf⟩
def cOf (n : Nat) (f : Fi) : Nat := (fileC f (n : Int)).toNat
theorem cOf_eq {n : Nat} (hn : 1 ≤ n ∧ n ≤ 8) (f : Fi) : fileC f (n : Int) = (cOf n f : Int) ∧ cOf n f < n + 1 := by
  have := fileC_rng f (n : Int) (by omega)
  unfold cOf; omega
structure Sta (n : Nat) (parts : List CPart) (Ks : List Kn) (Rs : Nat → List Rk) : Prop where
  inv : Inv n parts Ks
  small : ∀ i, Small2 (Rs i)
  rep : ∀ (i : Nat) (h : i < Ks.length), Rep Ks[i] (Rs i)
theorem Sta.cons {n : Nat} {parts : List CPart} {Ks : List Kn} {Rs : Nat → List Rk} (h : Sta n parts Ks Rs) (i : Nat) (hi : i < n + 1) : Cons (Rs i) := (h.rep i (by rw [h.inv.lenK]; exact hi)).cons (h.small i)
theorem rep0 : Rep kn0 [] := by
  refine ⟨fun s hs i hi => ⟨fun h => ?_, fun ⟨r, hr, _⟩ => (by cases hr)⟩, fun s hs h => ⟨fun k => ?_, fun ⟨r, hr, _⟩ => (by cases hr)⟩, fun t ht => ⟨fun h => ?_, fun ⟨r, hr, _⟩ => (by cases hr)⟩, fun s hs h => ?_⟩
  · rw [kn0_ids] at h; exact absurd h.symm hi
  · rw [kn0_lost] at k; cases k
  · have : kn0.gTotal = -1 := rfl
    omega
  · have : kn0.gTotal = -1 := rfl
    omega
theorem sta0 (n : Nat) : Sta n (List.replicate (n + 1) part0) (List.replicate (n + 1) kn0) (fun _ => []) :=
  ⟨inv0 n, fun _ r hr => (by cases hr), fun i h => by rw [List.getElem_replicate]; exact rep0⟩
theorem Sta.add {n : Nat} {parts : List CPart} {Ks : List Kn} {Rs : Nat → List Rk} (h : Sta n parts Ks Rs) (hn : n ≤ 8) (c : Nat) (hc : c < n + 1) (p : List Int) (rs : List Rk) (hr : recorder_Read p = some (rs, 0)) (hrs : ∀ r ∈ rs, Reads (c : Int) r) (hl : rs.length ≤ 12) :
    ∃ K ok e parts', e30_Add (Ks[c]'(by rw [h.inv.lenK]; exact hc)) (rs.map toRef) = some (K, ok) ∧ CColl_Add_a (c : Int) p ⟨parts⟩ = some (e, ⟨parts'⟩) ∧ ((ok = true ∧ e = 0 ∧ Cons (Rs c ++ rs) ∧ Sta n parts' (Ks.set c K) (upd Rs c (Rs c ++ rs))) ∨ (ok = false ∧ e = 14 ∧ ¬ Cons (Rs c ++ rs) ∧ parts' = parts ∧ Ks.set c K = Ks)) := by
  have hck : c < Ks.length := by rw [h.inv.lenK]; exact hc
  obtain ⟨K, ok, e, parts', a1, a2, a3, a4⟩ := add_step h.inv hn c hc p rs 0 hr hrs (by omega)
  have hsm : Small2 rs := fun r hr => (hrs r hr).small
  obtain ⟨b1, b2⟩ := refAdd_rep (h.rep c hck) (h.inv.rel c (by rw [h.inv.len]; exact hc) hck).rng (h.small c) hsm (by omega) a1
  refine ⟨K, ok, e, parts', a1, a2, ?_⟩
  rcases a3 with ⟨rfl, rfl⟩ | ⟨rfl, rfl, rfl, hK⟩
  · refine .inl ⟨rfl, rfl, b1.1 rfl, a4, fun i => ?_, fun i hi => ?_⟩
    · unfold upd
      split
      · exact fun r hr => (List.mem_append.1 hr).elim (h.small c r) (hsm r)
      · exact h.small i
    · rw [List.getElem_set]
      unfold upd
      by_cases e : c = i
      · subst e; rw [if_pos rfl, if_pos rfl]; exact b2 rfl
      · rw [if_neg e, if_neg (fun x => e x.symm)]
        exact h.rep i (by rw [List.length_set] at hi; exact hi)
  · refine .inr ⟨rfl, rfl, fun hC => ?_, rfl, by rw [hK]; exact set_self _ _ hck⟩
    have := b1.2 hC
    cases this
def allR (n : Nat) (φ : Fi → List Int × List Rk) (l : List Fi) (c : Nat) : List Rk := l.flatMap fun f => if cOf n f = c then (φ f).2 else []
theorem mem_allR {n : Nat} {φ : Fi → List Int × List Rk} {l : List Fi} {c : Nat} {r : Rk} : r ∈ allR n φ l c ↔ ∃ f ∈ l, cOf n f = c ∧ r ∈ (φ f).2 := by
  unfold allR
  rw [List.mem_flatMap]
  constructor
  · rintro ⟨f, hf, hr⟩
    split at hr
    · exact ⟨f, hf, by assumption, hr⟩
    · cases hr
  · rintro ⟨f, hf, h1, h2⟩
    exact ⟨f, hf, by rw [if_pos h1]; exact h2⟩
theorem Sta.file {n : Nat} {parts : List CPart} {Ks : List Kn} {Rs : Nat → List Rk} (h : Sta n parts Ks Rs) (hn : 1 ≤ n ∧ n ≤ 8) {φ : Fi → List Int × List Rk} {f : Fi} (hf : FileSpec n f (φ f)) :
    ∃ K ok e parts', e30_Add (Ks[cOf n f]'(by rw [h.inv.lenK]; exact (cOf_eq hn f).2)) ((φ f).2.map toRef) = some (K, ok) ∧ CColl_Add_a (cOf n f : Int) (φ f).1 ⟨parts⟩ = some (e, ⟨parts'⟩) ∧ ((ok = true ∧ e = 0 ∧ Cons (Rs (cOf n f) ++ (φ f).2) ∧ Sta n parts' (Ks.set (cOf n f) K) (upd Rs (cOf n f) (Rs (cOf n f) ++ (φ f).2))) ∨ (ok = false ∧ e = 14 ∧ ¬ Cons (Rs (cOf n f) ++ (φ f).2) ∧ parts' = parts ∧ Ks.set (cOf n f) K = Ks)) := by
  obtain ⟨h1, h2, h3, h4⟩ := hf
  have hc := cOf_eq hn f
  rw [hc.1] at h3
  exact h.add hn.2 (cOf n f) hc.2 (φ f).1 (φ f).2 h2 h3 h4
structure Took (n : Nat) (φ : Fi → List Int × List Rk) (all seen : List Fi) (Rs : Nat → List Rk) : Prop where
  sub : ∀ c r, r ∈ Rs c → r ∈ allR n φ all c
  full : (∀ c, Cons (allR n φ all c)) → ∀ c r, r ∈ allR n φ seen c → r ∈ Rs c
theorem Took.next {n : Nat} {φ : Fi → List Int × List Rk} {all seen : List Fi} {Rs : Nat → List Rk} (h : Took n φ all seen Rs) {f : Fi} (hf : f ∈ all) : Took n φ all (seen ++ [f]) (upd Rs (cOf n f) (Rs (cOf n f) ++ (φ f).2)) := by
  constructor
  · intro c r hr
    unfold upd at hr
    split at hr
    · rename_i e
      rcases List.mem_append.1 hr with h1 | h1
      · rw [e]; exact h.sub _ r h1
      · rw [e]; exact mem_allR.2 ⟨f, hf, rfl, h1⟩
    · exact h.sub c r hr
  · intro hC c r hr
    obtain ⟨g, hg, e1, e2⟩ := mem_allR.1 hr
    unfold upd
    rcases List.mem_append.1 hg with hg | hg
    · have := h.full hC c r (mem_allR.2 ⟨g, hg, e1, e2⟩)
      split
      · rename_i e; rw [e] at this; exact List.mem_append_left _ this
      · exact this
    · rw [List.mem_singleton] at hg; subst hg
      rw [if_pos e1.symm]
      exact List.mem_append_right _ e2
theorem Took.clash {n : Nat} {φ : Fi → List Int × List Rk} {all seen : List Fi} {Rs : Nat → List Rk} (h : Took n φ all seen Rs) {f : Fi} (hf : f ∈ all) (hno : ¬ Cons (Rs (cOf n f) ++ (φ f).2)) : ¬ Cons (allR n φ all (cOf n f)) := fun hC => hno (hC.mono fun r hr => by
  rcases List.mem_append.1 hr with h1 | h1
  · exact h.sub _ r h1
  · exact mem_allR.2 ⟨f, hf, rfl, h1⟩)
theorem Took.skip {n : Nat} {φ : Fi → List Int × List Rk} {all seen : List Fi} {Rs : Nat → List Rk} (h : Took n φ all seen Rs) {f : Fi} (hno : ∃ c, ¬ Cons (allR n φ all c)) : Took n φ all (seen ++ [f]) Rs := ⟨h.sub, fun hC => by obtain ⟨c, hc⟩ := hno; exact absurd (hC c) hc⟩
theorem took0 (n : Nat) (φ : Fi → List Int × List Rk) (all : List Fi) : Took n φ all [] (fun _ => []) := ⟨fun c r hr => (by cases hr), fun _ c r hr => by simp [allR] at hr⟩
theorem add_loop2 {n : Nat} {φ : Fi → List Int × List Rk} (hn : 1 ≤ n ∧ n ≤ 8) (hφ : ∀ f, FileOk f → FileSpec n f (φ f)) (l : List Fi) (hl : ∀ f ∈ l, FileOk f) {parts : List CPart} {Ks : List Kn} {Rs : Nat → List Rk} (h : Sta n parts Ks Rs) (hT : Took n φ (l.take 8) [] Rs) : ∃ parts' Ks' Rs', w30_add_a (n : Int) l ⟨parts⟩ Ks = some (true, ⟨parts'⟩, Ks') ∧ Sta n parts' Ks' Rs' ∧ Took n φ (l.take 8) (l.take 8) Rs' := by
  unfold w30_add_a
  have hInd := whileM_ind (S := (List Kn) × Int × (List CPart)) (E := ((List Kn) × (List CPart)) ⊕ (Bool × CColl × (List Kn))) (step := fun s => w30_add_a_L2 (n : Int) l s.1 s.2.1 s.2.2) (s0 := (Ks, 0, parts)) (fun s => ∃ (i : Nat) (Rs : Nat → List Rk), s.2.1 = (i : Int) ∧ i ≤ l.length ∧ i ≤ 8 ∧ Sta n s.2.2 s.1 Rs ∧ Took n φ (l.take 8) (l.take i) Rs) (fun s => (8 - s.2.1).toNat) (fun e => ∃ parts' Ks' Rs', e = .inl (Ks', parts') ∧ Sta n parts' Ks' Rs' ∧ Took n φ (l.take 8) (l.take 8) Rs') ⟨0, Rs, rfl, Nat.zero_le _, by omega, h, hT⟩ (by (try dsimp only); omega) ?_
  · obtain ⟨e, h1, parts', Ks', Rs', rfl, h2, h3⟩ := hInd
    rw [h1]
    exact ⟨parts', Ks', Rs', rfl, h2, h3⟩
  · rintro ⟨Ks1, ii, parts1⟩ ⟨i, Rs1, h1, h2, h3, hI, hTk⟩
    dsimp only at h1 hI ⊢
    subst h1
    unfold w30_add_a_L2
    by_cases hc : i < l.length ∧ i < 8
    · have hd : ((decide ((i : Int) < (List.length l : Int))) && (decide ((i : Int) < 8))) = true := by
        simp only [Bool.and_eq_true, decide_eq_true_eq]; omega
      have tk : l.take (i + 1) = l.take i ++ [l[i]'hc.1] := List.take_succ_eq_append_getElem hc.1
      have hmem : l[i]'hc.1 ∈ l.take 8 := by
        rw [List.mem_take_iff_getElem]
        exact ⟨i, by omega, rfl⟩
      have hf := hφ _ (hl _ (List.getElem_mem hc.1))
      rw [hd, if_pos rfl, idx_lt hc.1, Option.bind_some]
      generalize l[i]'hc.1 = f at hf hmem tk ⊢
      have hcc := cOf_eq hn f
      have hck : cOf n f < Ks1.length := by rw [hI.inv.lenK]; exact hcc.2
      obtain ⟨K, ok, e, parts', a1, a2, a3⟩ := hI.file hn hf
      have wi : IntKind.wrap .i64 ((i : Int) + 1) = ((i + 1 : Nat) : Int) := by rw [wrap_i64 (by omega) (by omega)]; omega
      rw [hf.1, Option.bind_some, hcc.1]
      dsimp only
      rw [a2, Option.bind_some]
      simp only [idx_lt hck, Option.bind_some, a1, Int.toNat_natCast]
      refine .inl ⟨(Ks1.set (cOf n f) K, ((i + 1 : Nat) : Int), parts'), ?_, ?_, by (try dsimp only); omega⟩
      · rcases a3 with ⟨rfl, rfl, _, hS⟩ | ⟨rfl, rfl, _, rfl, hK⟩
        · have hag := hS.inv.agrees hn.2
          simp [gb, hag, wi]
        · rw [hK]
          have hag := hI.inv.agrees hn.2
          simp [gb, hag, wi]
      · dsimp only
        rcases a3 with ⟨rfl, rfl, _, hS⟩ | ⟨rfl, rfl, hno, rfl, hK⟩
        · exact ⟨i + 1, _, rfl, by omega, by omega, hS, by rw [tk]; exact hTk.next hmem⟩
        · rw [hK]
          exact ⟨i + 1, _, rfl, by omega, by omega, hI, by rw [tk]; exact hTk.skip ⟨_, hTk.clash hmem hno⟩⟩
    · have hd : ((decide ((i : Int) < (List.length l : Int))) && (decide ((i : Int) < 8))) = false := by
        rw [Bool.eq_false_iff]
        simp only [ne_eq, Bool.and_eq_true, decide_eq_true_eq]; omega
      rw [hd]
      have : l.take i = l.take 8 := by
        by_cases h8 : i = 8
        · rw [h8]
        · rw [List.take_of_length_le (by omega), List.take_of_length_le (by omega)]
      rw [this] at hTk
      exact .inr ⟨_, rfl, parts1, Ks1, Rs1, rfl, hI, hTk⟩
theorem collected2 {φ : Fi → List Int × List Rk} (x0 : Int) (hx : 0 ≤ x0 ∧ x0 ≤ 255) (hφ : ∀ f, FileOk f → FileSpec (nOf x0) f (φ f)) (x1 : List Fi) (hl : ∀ f ∈ x1, FileOk f) : ∃ parts Ks Rs, w30_collected x0 x1 = some (.inl (⟨parts⟩, Ks)) ∧ Sta (nOf x0) parts Ks Rs ∧ Took (nOf x0) φ (x1.take 8) (x1.take 8) Rs := by
  have hn : 1 ≤ nOf x0 ∧ nOf x0 ≤ 8 := by unfold nOf; omega
  obtain ⟨parts', Ks', Rs', h1, h2, h3⟩ := add_loop2 hn hφ x1 hl (sta0 (nOf x0)) (took0 _ _ _)
  refine ⟨parts', Ks', Rs', ?_, h2, h3⟩
  unfold w30_collected
  rw [begin_eq x0 hx, Option.bind_some]
  dsimp only
  rw [h1]
  rfl
theorem new_eq (n : Nat) (hn : 1 ≤ n ∧ n ≤ 8) : collect_New (n : Int) = some (.inl ⟨List.replicate (n + 1) part0⟩) := by
  have w3 : IntKind.wrap .i64 ((n : Int) + 1) = ((n + 1 : Nat) : Int) := by rw [wrap_i64 (by omega) (by omega)]; omega
  unfold collect_New
  have hd : ¬ ((decide ((n : Int) < 1)) || (decide (8 < (n : Int)))) = true := by
    simp only [Bool.or_eq_true, decide_eq_true_eq]; omega
  rw [if_neg hd, w3, chk_pos (by unfold mkOk; omega), Int.toNat_natCast]
  rfl
theorem turned (m : Nat) (hm : 0 < m) (t : Int) (j : Nat) (hj : j < m) : ∃ i : Nat, i < m ∧ (m : Int) - 1 - ((i : Int) + t) % (m : Int) = (j : Int) := by
  have h0 : (m : Int) ≠ 0 := by omega
  have h1 := Int.emod_nonneg ((m : Int) - 1 - (j : Int) - t) h0
  have h2 := Int.emod_lt_of_pos ((m : Int) - 1 - (j : Int) - t) (show (0 : Int) < (m : Int) by omega)
  refine ⟨(((m : Int) - 1 - (j : Int) - t) % (m : Int)).toNat, by omega, ?_⟩
  rw [Int.toNat_of_nonneg h1, Int.emod_add_emod]
  have e : (m : Int) - 1 - (j : Int) - t + t = (m : Int) - 1 - (j : Int) := by omega
  rw [e, Int.emod_eq_of_lt (by omega) (by omega)]
  omega
theorem again_loop {n : Nat} {φ : Fi → List Int × List Rk} (hn : 1 ≤ n ∧ n ≤ 8) (hφ : ∀ f, FileOk f → FileSpec n f (φ f)) (l : List Fi) (hl : ∀ f ∈ l, FileOk f) (h8 : l.length ≤ 8) (step : Int × Int × List CPart → Option (Ctl (Int × Int × List CPart) Int))
    (hstep : ∀ (e : Int) (i : Nat) parts, step (e, (i : Int), parts) = if ((decide ((i : Int) < (List.length l : Int))) && (e == 0)) = true then (idx l (i : Int)).bind fun v25 => (w30_File_bytes v25 (n : Int)).bind fun v27 => (CColl_Add_a v27.1 v27.2.1 (CColl.mk parts)).bind fun v29 => some (.next (v29.1, (IntKind.wrap .i64 ((i : Int) + 1)), v29.2.gparts)) else some (.done e)) :
    ∃ e, whileM step (0, 0, List.replicate (n + 1) part0) = some e ∧ (e = 0 ↔ ∀ c, Cons (allR n φ l c)) := by
  refine whileM_ind (S := Int × Int × (List CPart)) (E := Int) (step := step) (s0 := (0, 0, List.replicate (n + 1) part0)) (fun s => ∃ i : Nat, s.2.1 = (i : Int) ∧ i ≤ l.length ∧ ((s.1 = 0 ∧ ∃ Ks Rs, Sta n s.2.2 Ks Rs ∧ (∀ c r, r ∈ Rs c → r ∈ allR n φ l c) ∧ ∀ c r, r ∈ allR n φ (l.take i) c → r ∈ Rs c) ∨ (s.1 = 14 ∧ ∃ c, ¬ Cons (allR n φ l c)))) (fun s => (8 - s.2.1).toNat + (if s.1 = 0 then 1 else 0)) (fun e => e = 0 ↔ ∀ c, Cons (allR n φ l c)) ⟨0, rfl, Nat.zero_le _, .inl ⟨rfl, _, _, sta0 n, fun c r hr => (by cases hr), fun c r hr => by simp [allR] at hr⟩⟩ (by (try dsimp only); split <;> omega) ?_
  rintro ⟨e, ii, parts⟩ ⟨i, h1, h2, h3⟩
  dsimp only at h1 h3 ⊢
  subst h1
  rw [hstep]
  rcases h3 with ⟨rfl, Ks, Rs, hS, hsub, hfull⟩ | ⟨rfl, hno⟩
  · by_cases hc : i < l.length
    · have hd : ((decide ((i : Int) < (List.length l : Int))) && ((0 : Int) == 0)) = true := by simp only [Bool.and_eq_true, decide_eq_true_eq]; exact ⟨by omega, rfl⟩
      have tk : l.take (i + 1) = l.take i ++ [l[i]] := List.take_succ_eq_append_getElem hc
      have hmem := List.getElem_mem hc
      have hf := hφ _ (hl _ hmem)
      rw [hd, if_pos rfl, idx_lt hc, Option.bind_some]
      generalize l[i] = f at hf hmem tk ⊢
      have hcc := cOf_eq hn f
      obtain ⟨K, ok, e, parts', a1, a2, a3⟩ := hS.file hn hf
      have wi : IntKind.wrap .i64 ((i : Int) + 1) = ((i + 1 : Nat) : Int) := by rw [wrap_i64 (by omega) (by omega)]; omega
      rw [hf.1, Option.bind_some, hcc.1]
      dsimp only
      rw [a2, Option.bind_some, wi]
      refine .inl ⟨_, rfl, ⟨i + 1, rfl, hc, ?_⟩, by (try dsimp only); split <;> split <;> omega⟩
      dsimp only
      rcases a3 with ⟨rfl, rfl, _, hS'⟩ | ⟨rfl, rfl, hno, rfl, hK⟩
      · refine .inl ⟨rfl, _, _, hS', fun c r hr => ?_, fun c r hr => ?_⟩
        · unfold upd at hr
          split at hr
          · rename_i e
            rcases List.mem_append.1 hr with h1 | h1
            · rw [e]; exact hsub _ r h1
            · rw [e]; exact mem_allR.2 ⟨f, hmem, rfl, h1⟩
          · exact hsub c r hr
        · rw [tk] at hr
          obtain ⟨g, hg, e1, e2⟩ := mem_allR.1 hr
          unfold upd
          rcases List.mem_append.1 hg with hg | hg
          · have := hfull c r (mem_allR.2 ⟨g, hg, e1, e2⟩)
            split
            · rename_i e; rw [e] at this; exact List.mem_append_left _ this
            · exact this
          · rw [List.mem_singleton] at hg; subst hg
            rw [if_pos e1.symm]
            exact List.mem_append_right _ e2
      · refine .inr ⟨rfl, cOf n f, fun hC => hno (hC.mono fun r hr => ?_)⟩
        rcases List.mem_append.1 hr with h1 | h1
        · exact hsub _ r h1
        · exact mem_allR.2 ⟨f, hmem, rfl, h1⟩
    · have hd : ((decide ((i : Int) < (List.length l : Int))) && ((0 : Int) == 0)) = false := by
        rw [Bool.eq_false_iff]
        simp only [ne_eq, Bool.and_eq_true, decide_eq_true_eq]; omega
      rw [hd]
      refine .inr ⟨0, rfl, fun _ c => ?_, fun _ => rfl⟩
      by_cases hcn : c < n + 1
      · refine (hS.cons c hcn).mono fun r hr => hfull c r ?_
        rw [List.take_of_length_le (by omega)]; exact hr
      · have : allR n φ l c = [] := List.eq_nil_iff_forall_not_mem.2 fun r hr => by
          obtain ⟨g, hg, e1, e2⟩ := mem_allR.1 hr
          have := (cOf_eq hn g).2
          omega
        rw [this]
        exact ⟨fun s i j _ ⟨r, hr, _⟩ => (by cases hr), fun t u ⟨r, hr, _⟩ => (by cases hr), fun t s _ ⟨r, hr, _⟩ => (by cases hr)⟩
  · have hd : ((decide ((i : Int) < (List.length l : Int))) && ((14 : Int) == 0)) = false := by
      rw [Bool.eq_false_iff]
      simp only [ne_eq, Bool.and_eq_true]; rintro ⟨_, h⟩; cases h
    rw [hd]
    exact .inr ⟨14, rfl, fun h => by omega, fun h => by obtain ⟨c, hc⟩ := hno; exact absurd (h c) hc⟩
theorem order_law (x0 : Int) (x1 : List Fi) (x2 : Int) (hx : 0 ≤ x0 ∧ x0 ≤ 255) (h1 : ∀ f ∈ x1, FileOk f) (h2 : 0 ≤ x2 ∧ x2 ≤ 255) : w30_CollectOrder x0 x1 x2 = some true := by
  have hn : 1 ≤ nOf x0 ∧ nOf x0 ≤ 8 := by unfold nOf; omega
  obtain ⟨φ, hφ⟩ := files_fun (nOf x0) hn
  obtain ⟨P, Ks, Rs, p1, p2, p3⟩ := collected2 x0 hx hφ x1 h1
  unfold w30_CollectOrder
  rw [p1, Option.bind_some]
  dsimp only
  rw [awake30, Option.bind_some]
  simp only [Bool.not_true, Bool.or_self, Bool.false_eq_true, if_false]
  generalize hN : nOf x0 = n at hn hφ p2 p3
  have hk := p2.inv.lenK
  have main : ∀ l : List Fi, l = x1.take 8 → w30_CollectOrder_K1 x2 (⟨P⟩, Ks) l = some true := by
    intro l hl
    have hl8 : l.length ≤ 8 := by rw [hl, List.length_take]; omega
    have hlo : ∀ f ∈ l, FileOk f := fun f hf => h1 f (by rw [hl] at hf; exact List.mem_of_mem_take hf)
    rw [← hl] at p3
    have wn : IntKind.wrap .i64 ((List.length Ks : Int) - 1) = (n : Int) := by rw [wrap_i64 (by omega) (by omega)]; omega
    have wx : IntKind.wrap .i64 x2 = x2 := wrap_i64 (by omega) (by omega)
    have w2 : IntKind.wrap .i64 (2 * (List.length l : Int)) = ((2 * l.length : Nat) : Int) := by rw [wrap_i64 (by omega) (by omega)]; omega
    unfold w30_CollectOrder_K1
    dsimp only
    rw [wn, new_eq n hn, Option.bind_some]
    dsimp only
    rw [w2]
    have hInd := foldM_ind (S := Bool × List CPart) (mx := 9223372036854775807) (n := ((2 * l.length : Nat) : Int)) (body := fun k30 s => w30_CollectOrder_L5 x2 (⟨P⟩, Ks) l k30 s.1 s.2) (s0 := (false, List.replicate (n + 1) part0))
      (fun k s => ∃ Ks2 Rs2, Sta n s.2 Ks2 Rs2 ∧ (∀ c r, r ∈ Rs2 c → r ∈ allR n φ l c) ∧ (s.1 = true → ∃ c, ¬ Cons (allR n φ l c)) ∧ (s.1 = false → ∀ (i : Nat), i < k → ∀ (j : Nat) (hj : j < l.length), (l.length : Int) - 1 - ((i : Int) + x2) % (l.length : Int) = (j : Int) → ∀ r ∈ (φ l[j]).2, r ∈ Rs2 (cOf n l[j])))
      (by omega) (by omega) ⟨_, _, sta0 n, fun c r hr => (by cases hr), fun h => (by cases h), fun _ i hi => by omega⟩ ?_
    · obtain ⟨⟨ref, D⟩, f1, Ks2, Rs2, f2, f3, f4, f5⟩ := hInd
      rw [f1, Option.bind_some]
      dsimp only at f2 f4 f5 ⊢
      -- no file was refused: they do not contradict
      have allIn : ref = false → ∀ c r, r ∈ allR n φ l c → r ∈ Rs2 c := fun hr c r hrr => by
        obtain ⟨g, hg, e1, e2⟩ := mem_allR.1 hrr
        obtain ⟨j, hj, rfl⟩ := List.getElem_of_mem hg
        obtain ⟨i, i1, i2⟩ := turned l.length (by omega) x2 j hj
        have := f5 hr i (by rw [Int.toNat_natCast]; omega) j hj i2 r e2
        rw [e1] at this; exact this
      have consOf : ref = false → ∀ c, Cons (allR n φ l c) := fun hr c => by
        by_cases hcn : c < n + 1
        · exact (f2.cons c hcn).mono fun r hrr => allIn hr c r hrr
        · have : allR n φ l c = [] := List.eq_nil_iff_forall_not_mem.2 fun r hr => by
            obtain ⟨g, hg, e1, e2⟩ := mem_allR.1 hr
            have := (cOf_eq hn g).2
            omega
          rw [this]
          exact ⟨fun s i j _ ⟨r, hr, _⟩ => (by cases hr), fun t u ⟨r, hr, _⟩ => (by cases hr), fun t s _ ⟨r, hr, _⟩ => (by cases hr)⟩
      unfold w30_CollectOrder_K2
      dsimp only
      rw [wn, new_eq n hn]
      obtain ⟨e, e1, e2⟩ := again_loop hn hφ l hlo hl8 (fun s => w30_CollectOrder_L4 (⟨P⟩, Ks) l s.1 s.2.1 s.2.2) (fun e i parts => by unfold w30_CollectOrder_L4; rw [wn])
      cases ref with
      | false =>
        have hC := consOf rfl
        have heq := coll_equal f2.inv p2.inv hn.2 (fun i h1 h2 => (f2.rep i h1).sim (p2.rep i h2) (f2.small i) (p2.small i) (fun r => ⟨fun h => p3.full hC i r (f3 i r h), fun h => allIn rfl i r (p3.sub i r h)⟩) (f2.inv.rel i (by rw [f2.inv.len, ← f2.inv.lenK]; exact h1) h1).rng.1 (p2.inv.rel i (by rw [p2.inv.len, ← p2.inv.lenK]; exact h2) h2).rng.1)
        simp only [Bool.not_false, gb, if_true, heq, Option.bind_some, Bool.not_true, Bool.and_false, Bool.false_eq_true, if_false]
        rw [e1, Option.bind_some]
        unfold w30_CollectOrder_K3
        rw [e2.2 hC]
        rfl
      | true =>
        simp only [Bool.not_true, gb, Bool.false_eq_true, if_false, Bool.and_false, Bool.false_and, Option.bind_some]
        rw [e1, Option.bind_some]
        unfold w30_CollectOrder_K3
        obtain ⟨c, hc⟩ := f4 rfl
        have : e ≠ 0 := fun h => hc (e2.1 h c)
        simp [this]
    · rintro k ⟨ref, D⟩ hk2 ⟨Ks2, Rs2, f2, f3, f4, f5⟩
      dsimp only at f2 f4 f5 ⊢
      have hlp : 0 < l.length := by omega
      have h0 : (l.length : Int) ≠ 0 := by omega
      have m1 := Int.emod_nonneg ((k : Int) + x2) h0
      have m2 := Int.emod_lt_of_pos ((k : Int) + x2) (show (0 : Int) < (l.length : Int) by omega)
      unfold w30_CollectOrder_L5
      have wk : IntKind.wrap .i64 ((k : Int) + x2) = (k : Int) + x2 := wrap_i64 (by omega) (by omega)
      have wl : IntKind.wrap .i64 ((List.length l : Int) - 1) = (l.length : Int) - 1 := wrap_i64 (by omega) (by omega)
      have wi : IntKind.wrap .i64 ((l.length : Int) - 1 - ((k : Int) + x2) % (l.length : Int)) = (l.length : Int) - 1 - ((k : Int) + x2) % (l.length : Int) := wrap_i64 (by omega) (by omega)
      dsimp only
      rw [wx, wk, wl, wi, chk_pos ⟨by omega, by omega⟩]
      obtain ⟨j, hj⟩ : ∃ j : Nat, (l.length : Int) - 1 - ((k : Int) + x2) % (l.length : Int) = (j : Int) := ⟨((l.length : Int) - 1 - ((k : Int) + x2) % (l.length : Int)).toNat, by omega⟩
      have hjl : j < l.length := by omega
      rw [hj, idx_lt hjl, Option.bind_some, wn]
      have hmem := List.getElem_mem hjl
      have hf := hφ _ (hlo _ hmem)
      obtain ⟨K, ok, e, parts', a1, a2, a3⟩ := f2.file hn hf
      have hcc := cOf_eq hn l[j]
      rw [hf.1, Option.bind_some, hcc.1]
      dsimp only
      rw [a2, Option.bind_some]
      rcases a3 with ⟨rfl, rfl, _, hS'⟩ | ⟨rfl, rfl, hno, rfl, hK⟩
      · refine ⟨_, rfl, _, _, hS', fun c r hr => ?_, fun h => f4 (by simpa using h), fun hr i hi j' hj' e' r hr2 => ?_⟩
        · unfold upd at hr
          split at hr
          · rename_i e
            rcases List.mem_append.1 hr with h1 | h1
            · rw [e]; exact f3 _ r h1
            · rw [e]; exact mem_allR.2 ⟨_, hmem, rfl, h1⟩
          · exact f3 c r hr
        · unfold upd
          by_cases hik : i = k
          · subst hik
            have : j' = j := by omega
            subst this
            rw [if_pos rfl]
            exact List.mem_append_right _ hr2
          · have := f5 (by simpa using hr) i (by omega) j' hj' e' r hr2
            split
            · rename_i e; rw [e] at this; exact List.mem_append_left _ this
            · exact this
      · refine ⟨_, rfl, Ks2, Rs2, f2, f3, fun _ => ⟨cOf n l[j], fun hC => hno (hC.mono fun r hr => ?_)⟩, fun h => by simp at h⟩
        rcases List.mem_append.1 hr with h1 | h1
        · exact f3 _ r h1
        · exact mem_allR.2 ⟨_, hmem, rfl, h1⟩
  by_cases h8 : 8 < x1.length
  · have hd : decide ((8 : Int) < (List.length x1 : Int)) = true := by simp only [decide_eq_true_eq]; omega
    rw [hd, if_pos rfl, chk_pos (by unfold slOk; omega)]
    exact main _ rfl
  · have hd : decide ((8 : Int) < (List.length x1 : Int)) = false := by simp only [decide_eq_false_iff_not]; omega
    rw [hd]
    simp only [Bool.false_eq_true, if_false]
    exact main _ (by rw [List.take_of_length_le (by omega)])
end Go.Proofs.YtepkcbalmjnhpaaGreat
