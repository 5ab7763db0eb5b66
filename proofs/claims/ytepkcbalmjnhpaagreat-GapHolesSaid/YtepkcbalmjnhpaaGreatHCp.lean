/-
  Models of functions and the proofs that the code computes them, printed by gm2.py.
-/
import Derived.Test.YtepkcbalmjnhpaaGreatHCo
import Derived.Test.YtepkcbalmjnhpaaGreatSpn
set_option maxRecDepth 100000
set_option maxHeartbeats 4000000
set_option linter.unusedVariables false
set_option linter.unusedSimpArgs false
namespace Go.Proofs.YtepkcbalmjnhpaaGreat
open Go.RowKit
def collect_mergeSpans_K7 (a5 : List collect_span) (a6 : Int) : Option (List collect_span) :=
  chk (slOk (List.length a5) 0 a6) <|
  some (List.take (Int.toNat a6) a5)
def collect_mergeSpans_L12 (k9 : Nat) (a10 : List collect_span) (a11 : Int) : Option ((List collect_span) × Int) :=
  (idx a10 (k9 : Int)).bind fun v16 =>
  (gb (decide (0 < a11)) (collect_span.mk 0 0) (idx a10 (IntKind.wrap .i64 (a11 - 1)))).bind fun v18 =>
  if ((decide (0 < a11)) && (decide (v16.gfrom ≤ v18.gto))) = true then
    (idx a10 (IntKind.wrap .i64 (a11 - 1))).bind fun v21 =>
    (idx a10 (IntKind.wrap .i64 (a11 - 1))).bind fun v23 =>
    some ((List.set a10 (Int.toNat (IntKind.wrap .i64 (a11 - 1))) (collect_span.mk v23.gfrom (if v16.gto > v21.gto then v16.gto else v21.gto))), a11)
  else
    (idx a10 a11).bind fun v25 =>
    some ((List.set a10 (Int.toNat a11) v16), (IntKind.wrap .i64 (a11 + 1)))
def collect_mergeSpans (x0 : List collect_span) (x1 : List collect_span) : Option (List collect_span) :=
  (slices_Concat_collect_span_collect_span [x0, x1]).bind fun v2 =>
  (spanSort v2).bind fun v4 =>
  (foldM' 9223372036854775807 (List.length v4 : Int) (fun k9 s => collect_mergeSpans_L12 k9 s.1 s.2) (v4, 0)).bind fun s => collect_mergeSpans_K7 s.1 s.2
theorem collect_mergeSpans_c {x0 : List collect_span} {x1 : List collect_span} {r : (List collect_span)} (hM : collect_mergeSpans x0 x1 = some r) : PCall Tryz.prog 122 [.sl 2 (List.map collect_span.dv x0), .sl 2 (List.map collect_span.dv x1)] (.sl 2 (List.map collect_span.dv r)) := by
  unfold collect_mergeSpans at hM
  refine PCall.body Tryz.func122 Tryz.ntmps122 rfl rfl rfl rfl ?_
  refine a_seq ?_
  refine a_region (.cons (o_assign rfl) <| .nil _) (by kernel_rfl) (by kernel_rfl) ?_
  refine a_seq ?_
  obtain ⟨v2, h1, hM⟩ := of_bind hM
  refine a_region (.cons (o_move rfl) <| .cons (o_move rfl) <| .cons (o_frz (t_build (encSl 2 collect_span.dv) ([x0, x1] : List (List collect_span)) rfl rfl rfl rfl rfl rfl rfl)) <| .cons (o_callN (fun i => bif Nat.beq i 50000 then 10001 else i) 1 (slices_Concat_collect_span_collect_span_c h1) rfl (DLeL.refl _) .nil rfl .nil) <| .cons (o_assign rfl) <| .nil _) (by kernel_rfl) (by kernel_rfl) ?_
  refine a_seq ?_
  obtain ⟨v4, h3, hM⟩ := of_bind hM
  refine a_region (.cons (o_move rfl) <| .cons (o_callN (fun i => bif Nat.beq i 100000 then 10001 else i) 1 (spanSort_c h3) rfl (DLeL.refl _) (.cons rfl .nil) rfl .nil) <| .nil _) (by kernel_rfl) (by kernel_rfl) ?_
  refine a_seq ?_
  refine a_region (.cons (o_assign rfl) <| .nil _) (by kernel_rfl) (by kernel_rfl) ?_
  refine a_cut (α := (List collect_span) × Int) (fun s => ⟨[(5, .sl 2 (List.map collect_span.dv s.1)), (6, .int .i64 s.2)], [], []⟩) (fun s => collect_mergeSpans_K7 s.1 s.2 = some r) ?_ ?_
  · refine a_seq ?_
    refine a_region (.cons (o_move rfl) <| .cons (t_len_r rfl rfl) <| .cons (o_move rfl) <| .nil _) (by kernel_rfl) (by kernel_rfl) ?_
    obtain ⟨⟨a10, a11⟩, hL12, hK12⟩ := of_bind hM
    refine a_block ?_
    refine a_fold (fun k9 (s : (List collect_span) × Int) => ⟨[(5, .row 10002), (6, .int .i64 s.2), (15, .row 10002), (16, .int .i64 (List.length v4 : Int)), (17, .int .i64 (k9 : Int))], [(10002, some (.row 146 2 (List.map collect_span.dv s.1)))], [10002]⟩) _ hL12 (Imp.of (fun i => bif Nat.beq i 10002 then 10001 else i) (.cons rfl (DLe.refl _) (.cons rfl (DLe.refl _) (.cons rfl (DLe.refl _) (.cons rfl (DLe.refl _) (.cons rfl (DLe.refl _) .nil))))) (.cons rfl (.refl _) .nil) rfl rfl rfl) ?_ ?_
    · rintro k9 ⟨a10, a11⟩ t13 hk9 hx9 hM
      replace hM : collect_mergeSpans_L12 k9 a10 a11 = some t13 := hM
      unfold collect_mergeSpans_L12 at hM
      refine a_seq ?_
      refine a_region (.cons (o_int rfl rfl rfl) <| .nil _) (by kernel_rfl) (by kernel_rfl) ?_
      refine a_seq ?_
      refine a_cond _ rfl (fun _ => ?_) (fun c => absurd hk9 (of_decide_eq_false c))
      refine a_skip ?_
      refine a_seq ?_
      refine a_block ?_
      refine a_seq ?_
      obtain ⟨v16, h15, hM⟩ := of_bind hM
      refine a_region (.cons (t_index_r h15 rfl rfl rfl) <| .cons (t_load_pr h15 rfl rfl rfl rfl rfl) <| .cons (o_alloc rfl) <| .cons (o_store rfl rfl rfl rfl rfl rfl rfl) <| .nil _) (by kernel_rfl) (by kernel_rfl) ?_
      refine a_seq ?_
      refine a_seq ?_
      obtain ⟨v18, h17, hM⟩ := of_bind hM
      refine a_draw mixed (.cons (o_move rfl) <| .cons (o_int rfl rfl rfl) <| .cons (o_move rfl) <| .cons (o_guardG .bT rfl rfl (fun hb => (.keep .nil)) (fun hb => o_fieldAddr rfl)) <| .cons (o_guardG .bT rfl rfl (fun hb => (.strip rfl hb .nil)) (fun hb => o_load_s rfl rfl rfl)) <| .cons (o_guardG .bT rfl rfl (fun hb => (.keep .nil)) (fun hb => o_move rfl)) <| .cons (o_guardG .bT rfl rfl (fun hb => (.keep .nil)) (fun hb => o_move rfl)) <| .cons (o_guardG .bT rfl rfl (fun hb => (.strip rfl hb .nil)) (fun hb => o_int rfl rfl rfl)) <| .cons (o_guardG .bT rfl rfl (fun hb => (.strip rfl hb (.strip rfl hb .nil))) (fun hb => t_index_r (of_gb h17 hb) rfl rfl rfl)) <| .cons (o_guardG .bT rfl rfl (fun hb => (.strip rfl hb .nil)) (fun hb => o_fieldAddr_p rfl)) <| .cons (o_guardG .bT rfl rfl (fun hb => (.strip rfl hb .nil)) (fun hb => t_load_ps (of_gb h17 hb) rfl rfl rfl rfl)) <| .cons (o_guardG .bT rfl rfl (fun hb => (.strip rfl hb (.strip rfl hb .nil))) (fun hb => o_int rfl rfl rfl)) <| .cons (o_and rfl rfl) <| .nil _) (by kernel_rfl) (by kernel_rfl) (by kernel_rfl) ?_
      refine a_cond _ rfl (fun h19 => ?_) (fun h19 => ?_)
      · replace hM := (of_if hM).1 h19
        refine a_seq ?_
        obtain ⟨v21, h20, hM⟩ := of_bind hM
        obtain ⟨v23, h22, hM⟩ := of_bind hM
        refine a_draw mixed (.cons (o_move rfl) <| .cons (o_move rfl) <| .cons (o_int rfl rfl rfl) <| .cons (o_move rfl) <| .cons (o_move rfl) <| .cons (o_int rfl rfl rfl) <| .cons (t_index_r h20 rfl rfl rfl) <| .cons (o_fieldAddr_p rfl) <| .cons (t_load_ps h20 rfl rfl rfl rfl) <| .cons (o_fieldAddr rfl) <| .cons (o_load_s rfl rfl rfl) <| .cons (o_max rfl rfl) <| .cons (t_index_r h22 rfl rfl rfl) <| .cons (o_fieldAddr_p rfl) <| .cons (t_store_p (collect_span.mk v23.gfrom (if v16.gto > v21.gto then v16.gto else v21.gto)) h22 rfl rfl rfl rfl rfl rfl rfl rfl rfl rfl rfl) <| .nil _) (by kernel_rfl) (by kernel_rfl) (by kernel_rfl) ?_
        refine a_exit ?_
        refine a_region (.cons (o_add rfl rfl (inR_i64 hk9 hx9)) <| .cons (o_move rfl) <| .nil _) (by kernel_rfl) (by kernel_rfl) ?_
        obtain rfl := Option.some.inj hM
        exact (Imp.of (fun i => i) (.cons rfl (DLe.refl _) (.cons rfl (DLe.refl _) (.cons rfl (DLe.refl _) (.cons rfl (DLe.refl _) (.cons rfl (DLe.succ _ _) .nil))))) (.cons rfl (.refl _) .nil) rfl rfl rfl)
      · replace hM := (of_if hM).2 h19
        refine a_skip ?_
        refine a_seq ?_
        obtain ⟨v25, h24, hM⟩ := of_bind hM
        refine a_region (.cons (o_move rfl) <| .cons (o_move rfl) <| .cons (o_load_r rfl rfl rfl rfl) <| .cons (t_index_r h24 rfl rfl rfl) <| .cons (t_store_p v16 h24 rfl rfl rfl rfl rfl rfl rfl rfl rfl rfl rfl) <| .nil _) (by kernel_rfl) (by kernel_rfl) ?_
        refine a_region (.cons (o_move rfl) <| .cons (o_int rfl rfl rfl) <| .cons (o_assign rfl) <| .nil _) (by kernel_rfl) (by kernel_rfl) ?_
        refine a_region (.cons (o_add rfl rfl (inR_i64 hk9 hx9)) <| .cons (o_move rfl) <| .nil _) (by kernel_rfl) (by kernel_rfl) ?_
        obtain rfl := Option.some.inj hM
        exact (Imp.of (fun i => i) (.cons rfl (DLe.refl _) (.cons rfl (DLe.refl _) (.cons rfl (DLe.refl _) (.cons rfl (DLe.refl _) (.cons rfl (DLe.succ _ _) .nil))))) (.cons rfl (.refl _) .nil) rfl rfl rfl)
    · rintro k9 hk9 hx9
      refine a_seq ?_
      refine a_region (.cons (o_int rfl rfl rfl) <| .nil _) (by kernel_rfl) (by kernel_rfl) ?_
      refine a_seq ?_
      refine a_cond _ rfl (fun c => absurd (of_decide_eq_true c) (Int.not_lt.2 hk9)) (fun _ => ?_)
      refine a_exit ?_
      exact ⟨(a10, a11), hK12, ((Imp.freeze (id := 10002) rfl).trans (Imp.of (fun i => i) (.cons rfl (DLe.refl _) (.cons rfl (DLe.refl _) .nil)) .nil rfl rfl rfl))⟩
  · rintro ⟨a5, a6⟩ hM
    replace hM : collect_mergeSpans_K7 a5 a6 = some r := hM
    unfold collect_mergeSpans_K7 at hM
    refine a_seq ?_
    obtain ⟨h8, hM⟩ := of_chk hM
    refine a_region (.cons (o_move rfl) <| .cons (o_move rfl) <| .cons (t_slice_h h8 rfl rfl) <| .cons (o_assign rfl) <| .nil _) (by kernel_rfl) (by kernel_rfl) ?_
    obtain rfl := Option.some.inj hM
    exact a_ret (a_post (.r1 (.tmp rfl)) (DLe.refl _) PostOk.nil.spec)

def collect_part_merge_K5 (x0 : collect_part) (x1 : collect_part) (v3 : (List record_Record) × Bool) : Option (collect_part × Bool) :=
  (collect_mergeSpans x0.glost x1.glost).bind fun v7 =>
  (gb ((decide (0 < (List.length v7 : Int))) && (x0.gknown || x1.gknown)) (collect_span.mk 0 0) (idx v7 (IntKind.wrap .i64 ((List.length v7 : Int) - 1)))).bind fun v9 =>
  if (((decide (0 < (List.length v7 : Int))) && (x0.gknown || x1.gknown)) && (decide ((if x1.gtotal > x0.gtotal then x1.gtotal else x0.gtotal) < v9.gto))) = true then
    some ((collect_part.mk [] [] false 0), false)
  else
    (collect_without v7 v3.1).bind fun v12 =>
    some ((collect_part.mk v3.1 v12 (x0.gknown || x1.gknown) (if x1.gtotal > x0.gtotal then x1.gtotal else x0.gtotal)), true)
def collect_part_merge (x0 : collect_part) (x1 : collect_part) : Option (collect_part × Bool) :=
  if ((x0.gknown && x1.gknown) && (x0.gtotal != x1.gtotal)) = true then
    some ((collect_part.mk [] [] false 0), false)
  else
    (collect_mergeEntries x0.gentries x1.gentries).bind fun v3 =>
    if (!v3.2) = true then
      some ((collect_part.mk [] [] false 0), false)
    else
      if (decide (0 < (List.length v3.1 : Int))) = true then
        (idx v3.1 (IntKind.wrap .i64 ((List.length v3.1 : Int) - 1))).bind fun v15 =>
        if ((v15.gSeq == 18446744073709551615) || ((x0.gknown || x1.gknown) && (decide ((if x1.gtotal > x0.gtotal then x1.gtotal else x0.gtotal) ≤ v15.gSeq)))) = true then
          some ((collect_part.mk [] [] false 0), false)
        else
          collect_part_merge_K5 x0 x1 v3
      else
        collect_part_merge_K5 x0 x1 v3
theorem collect_part_merge_c {x0 : collect_part} {x1 : collect_part} {r : collect_part × Bool} (hM : collect_part_merge x0 x1 = some r) : PCall Tryz.prog 66 [.agg (collect_part.cs x0), .agg (collect_part.cs x1)] (.tup [.agg (collect_part.cs r.1), .bool r.2]) := by
  unfold collect_part_merge at hM
  refine PCall.body Tryz.func66 Tryz.ntmps66 rfl rfl rfl rfl ?_
  refine a_seq ?_
  refine a_region (.cons (o_box rfl rfl) <| .cons (o_box rfl rfl) <| .cons (o_alloc rfl) <| .cons (o_assign rfl) <| .nil _) (by kernel_rfl) (by kernel_rfl) ?_
  refine a_seq ?_
  refine a_seq ?_
  refine a_region (.cons (o_fieldAddr rfl) <| .cons (o_load_s rfl rfl rfl) <| .cons (o_move rfl) <| .cons (o_guardG .bT rfl rfl (fun hb => (.keep .nil)) (fun hb => o_fieldAddr rfl)) <| .cons (o_guardG .bT rfl rfl (fun hb => (.strip rfl hb .nil)) (fun hb => o_load_s rfl rfl rfl)) <| .cons (o_and rfl rfl) <| .cons (o_move rfl) <| .cons (o_guardG .bT rfl rfl (fun hb => (.keep .nil)) (fun hb => o_fieldAddr rfl)) <| .cons (o_guardG .bT rfl rfl (fun hb => (.strip rfl hb .nil)) (fun hb => o_load_s rfl rfl rfl)) <| .cons (o_guardG .bT rfl rfl (fun hb => (.keep .nil)) (fun hb => o_fieldAddr rfl)) <| .cons (o_guardG .bT rfl rfl (fun hb => (.strip rfl hb .nil)) (fun hb => o_load_s rfl rfl rfl)) <| .cons (o_guardG .bT rfl rfl (fun hb => (.strip rfl hb (.strip rfl hb .nil))) (fun hb => o_int rfl rfl rfl)) <| .cons (o_and rfl rfl) <| .nil _) (by kernel_rfl) (by kernel_rfl) ?_
  refine a_cond _ rfl (fun h1 => ?_) (fun h1 => ?_)
  · replace hM := (of_if hM).1 h1
    refine a_seq ?_
    refine a_region (.cons (o_build rfl rfl rfl) <| .cons (o_store rfl rfl rfl rfl rfl rfl rfl) <| .cons (o_assign rfl) <| .nil _) (by kernel_rfl) (by kernel_rfl) ?_
    obtain rfl := Option.some.inj hM
    exact a_ret (a_post (.r2 (.cell rfl rfl (.row _ CRow.h (Nat.le_of_ble_eq_true rfl) rfl)) (.tmp rfl)) (DLe.tup (.cons (DLe.agg (.cons (DLe.nils _) (.cons (DLe.nils _) (.cons (DLe.refl _) (.cons (DLe.refl _) .nil))))) (.cons (DLe.refl _) .nil))) PostOk.nil.spec)
  · replace hM := (of_if hM).2 h1
    refine a_skip ?_
    refine a_seq ?_
    refine a_region (.cons (o_fieldAddr rfl) <| .cons (o_load_s rfl rfl rfl) <| .cons (o_move rfl) <| .cons (o_guardG .bF rfl rfl (fun hb => (.keep .nil)) (fun hb => o_fieldAddr rfl)) <| .cons (o_guardG .bF rfl rfl (fun hb => (.strip rfl hb .nil)) (fun hb => o_load_s rfl rfl rfl)) <| .cons (o_or rfl rfl) <| .cons (o_fieldAddr rfl) <| .cons (o_load_s rfl rfl rfl) <| .cons (o_fieldAddr rfl) <| .cons (o_load_s rfl rfl rfl) <| .cons (o_max rfl rfl) <| .cons (o_build rfl rfl rfl) <| .cons (o_alloc rfl) <| .cons (o_store rfl rfl rfl rfl rfl rfl rfl) <| .nil _) (by kernel_rfl) (by kernel_rfl) ?_
    refine a_seq ?_
    refine a_region (.cons (o_assign rfl) <| .nil _) (by kernel_rfl) (by kernel_rfl) ?_
    refine a_seq ?_
    refine a_seq ?_
    obtain ⟨v3, h2, hM⟩ := of_bind hM
    refine a_region (.cons (o_fieldAddr rfl) <| .cons (o_load_s rfl rfl rfl) <| .cons (o_fieldAddr rfl) <| .cons (o_load_s rfl rfl rfl) <| .cons (o_call (collect_mergeEntries_c h2) rfl (DLeL.refl _) rfl) <| .cons (o_move rfl) <| .cons (o_extract rfl rfl) <| .cons (o_extract rfl rfl) <| .cons (o_fieldAddr rfl) <| .cons (o_store_s rfl rfl rfl rfl rfl) <| .cons (o_assign rfl) <| .nil _) (by kernel_rfl) (by kernel_rfl) ?_
    refine a_seq ?_
    refine a_region (.cons (o_move rfl) <| .cons (o_not rfl) <| .nil _) (by kernel_rfl) (by kernel_rfl) ?_
    refine a_cond _ rfl (fun h4 => ?_) (fun h4 => ?_)
    · replace hM := (of_if hM).1 h4
      refine a_seq ?_
      refine a_region (.cons (o_build rfl rfl rfl) <| .cons (o_store rfl rfl rfl rfl rfl rfl rfl) <| .cons (o_assign rfl) <| .nil _) (by kernel_rfl) (by kernel_rfl) ?_
      obtain rfl := Option.some.inj hM
      exact a_ret (a_post (.r2 (.cell rfl rfl (.row _ CRow.h (Nat.le_of_ble_eq_true rfl) rfl)) (.tmp rfl)) (DLe.tup (.cons (DLe.agg (.cons (DLe.nils _) (.cons (DLe.nils _) (.cons (DLe.refl _) (.cons (DLe.refl _) .nil))))) (.cons (DLe.refl _) .nil))) PostOk.nil.spec)
    · replace hM := (of_if hM).2 h4
      refine a_skip ?_
      refine a_cut (α := Unit) (fun s => ⟨[(2, .ref 2 0), (3, .ref 3 0), (4, .ref 4 0), (6, .ref 6 0)], [(2, some (.blk 137 (collect_part.cs x0))), (3, some (.blk 137 (collect_part.cs x1))), (4, some (.blk 137 [.nils, .nils, .bool false, .int .u64 0])), (6, some (.blk 137 [.sl 29 (List.map record_Record.dv v3.1), .nils, .bool (x0.gknown || x1.gknown), .int .u64 (if x1.gtotal > x0.gtotal then x1.gtotal else x0.gtotal)]))], [2, 3, 4, 6]⟩) (fun s => collect_part_merge_K5 x0 x1 v3 = some r) ?_ ?_
      · refine a_seq ?_
        refine a_region (.cons (o_fieldAddr rfl) <| .cons (o_load_s rfl rfl rfl) <| .cons (t_len rfl) <| .cons (o_assign rfl) <| .nil _) (by kernel_rfl) (by kernel_rfl) ?_
        refine a_seq ?_
        refine a_region (.cons (o_move rfl) <| .cons (o_int rfl rfl rfl) <| .nil _) (by kernel_rfl) (by kernel_rfl) ?_
        refine a_cond _ rfl (fun h13 => ?_) (fun h13 => ?_)
        · replace hM := (of_if hM).1 h13
          refine a_seq ?_
          obtain ⟨v15, h14, hM⟩ := of_bind hM
          refine a_region (.cons (o_fieldAddr rfl) <| .cons (o_load_s rfl rfl rfl) <| .cons (o_move rfl) <| .cons (o_int rfl rfl rfl) <| .cons (t_index h14 rfl rfl rfl) <| .cons (o_fieldAddr_e rfl rfl) <| .cons (o_load_es rfl rfl) <| .cons (o_assign rfl) <| .nil _) (by kernel_rfl) (by kernel_rfl) ?_
          refine a_seq ?_
          refine a_region (.cons (o_move rfl) <| .cons (o_int rfl rfl rfl) <| .cons (o_move rfl) <| .cons (o_guardG .bF rfl rfl (fun hb => (.keep .nil)) (fun hb => o_fieldAddr rfl)) <| .cons (o_guardG .bF rfl rfl (fun hb => (.strip rfl hb .nil)) (fun hb => o_load_s rfl rfl rfl)) <| .cons (o_guardG .bF rfl rfl (fun hb => (.strip rfl hb .nil)) (fun hb => o_move rfl)) <| .cons (o_guardG .iT rfl rfl (fun hb => (.keep .nil)) (fun hb => o_move rfl)) <| .cons (o_guardG .iT rfl rfl (fun hb => (.keep .nil)) (fun hb => o_fieldAddr rfl)) <| .cons (o_guardG .iT rfl rfl (fun hb => (.strip rfl hb .nil)) (fun hb => o_load_s rfl rfl rfl)) <| .cons (o_guardG .iT rfl rfl (fun hb => (.strip rfl hb (.strip rfl hb .nil))) (fun hb => o_int rfl rfl rfl)) <| .cons (o_guardG .bF rfl rfl (fun hb => (.strip rfl hb (.half rfl hb .nil))) (fun hb => o_and rfl rfl)) <| .cons (o_or rfl rfl) <| .nil _) (by kernel_rfl) (by kernel_rfl) ?_
          refine a_cond _ rfl (fun h16 => ?_) (fun h16 => ?_)
          · replace hM := (of_if hM).1 h16
            refine a_seq ?_
            refine a_region (.cons (o_build rfl rfl rfl) <| .cons (o_store rfl rfl rfl rfl rfl rfl rfl) <| .cons (o_assign rfl) <| .nil _) (by kernel_rfl) (by kernel_rfl) ?_
            obtain rfl := Option.some.inj hM
            exact a_ret (a_post (.r2 (.cell rfl rfl (.row _ CRow.h (Nat.le_of_ble_eq_true rfl) rfl)) (.tmp rfl)) (DLe.tup (.cons (DLe.agg (.cons (DLe.nils _) (.cons (DLe.nils _) (.cons (DLe.refl _) (.cons (DLe.refl _) .nil))))) (.cons (DLe.refl _) .nil))) PostOk.nil.spec)
          · replace hM := (of_if hM).2 h16
            refine a_skip ?_
            exact ⟨(), hM, (Imp.of (fun i => i) (.cons rfl (DLe.refl _) (.cons rfl (DLe.refl _) (.cons rfl (DLe.refl _) (.cons rfl (DLe.refl _) .nil)))) (.cons rfl (.refl _) (.cons rfl (.refl _) (.cons rfl (.refl _) (.cons rfl (.refl _) .nil)))) rfl rfl rfl)⟩
        · replace hM := (of_if hM).2 h13
          refine a_skip ?_
          exact ⟨(), hM, (Imp.of (fun i => i) (.cons rfl (DLe.refl _) (.cons rfl (DLe.refl _) (.cons rfl (DLe.refl _) (.cons rfl (DLe.refl _) .nil)))) (.cons rfl (.refl _) (.cons rfl (.refl _) (.cons rfl (.refl _) (.cons rfl (.refl _) .nil)))) rfl rfl rfl)⟩
      · rintro _ hM
        replace hM : collect_part_merge_K5 x0 x1 v3 = some r := hM
        unfold collect_part_merge_K5 at hM
        refine a_seq ?_
        obtain ⟨v7, h6, hM⟩ := of_bind hM
        refine a_region (.cons (o_fieldAddr rfl) <| .cons (o_load_s rfl rfl rfl) <| .cons (o_fieldAddr rfl) <| .cons (o_load_s rfl rfl rfl) <| .cons (o_call (collect_mergeSpans_c h6) rfl (DLeL.refl _) rfl) <| .cons (o_fieldAddr rfl) <| .cons (o_store_s rfl rfl rfl rfl rfl) <| .nil _) (by kernel_rfl) (by kernel_rfl) ?_
        refine a_seq ?_
        refine a_seq ?_
        refine a_region (.cons (o_fieldAddr rfl) <| .cons (o_load_s rfl rfl rfl) <| .cons (t_len rfl) <| .cons (o_assign rfl) <| .nil _) (by kernel_rfl) (by kernel_rfl) ?_
        refine a_seq ?_
        obtain ⟨v9, h8, hM⟩ := of_bind hM
        refine a_draw mixed (.cons (o_move rfl) <| .cons (o_int rfl rfl rfl) <| .cons (o_move rfl) <| .cons (o_guardG .bT rfl rfl (fun hb => (.keep .nil)) (fun hb => o_fieldAddr rfl)) <| .cons (o_guardG .bT rfl rfl (fun hb => (.strip rfl hb .nil)) (fun hb => o_load_s rfl rfl rfl)) <| .cons (o_and rfl rfl) <| .cons (o_move rfl) <| .cons (o_guardG .bT rfl rfl (fun hb => (.keep .nil)) (fun hb => o_fieldAddr rfl)) <| .cons (o_guardG .bT rfl rfl (fun hb => (.strip rfl hb .nil)) (fun hb => o_load_s rfl rfl rfl)) <| .cons (o_guardG .bT rfl rfl (fun hb => (.keep .nil)) (fun hb => o_move rfl)) <| .cons (o_guardG .bT rfl rfl (fun hb => (.strip rfl hb .nil)) (fun hb => o_int rfl rfl rfl)) <| .cons (o_guardG .bT rfl rfl (fun hb => (.strip rfl hb (.strip rfl hb .nil))) (fun hb => t_index (of_gb h8 hb) rfl rfl rfl)) <| .cons (o_guardG .bT rfl rfl (fun hb => (.strip rfl hb .nil)) (fun hb => o_fieldAddr_e rfl rfl)) <| .cons (o_guardG .bT rfl rfl (fun hb => (.strip rfl hb .nil)) (fun hb => o_load_es rfl rfl)) <| .cons (o_guardG .bT rfl rfl (fun hb => (.keep .nil)) (fun hb => o_fieldAddr rfl)) <| .cons (o_guardG .bT rfl rfl (fun hb => (.strip rfl hb .nil)) (fun hb => o_load_s rfl rfl rfl)) <| .cons (o_guardG .bT rfl rfl (fun hb => (.strip rfl hb (.strip rfl hb .nil))) (fun hb => o_int rfl rfl rfl)) <| .cons (o_and rfl rfl) <| .nil _) (by kernel_rfl) (by kernel_rfl) (by kernel_rfl) ?_
        refine a_cond _ rfl (fun h10 => ?_) (fun h10 => ?_)
        · replace hM := (of_if hM).1 h10
          refine a_seq ?_
          refine a_region (.cons (o_build rfl rfl rfl) <| .cons (o_store rfl rfl rfl rfl rfl rfl rfl) <| .cons (o_assign rfl) <| .nil _) (by kernel_rfl) (by kernel_rfl) ?_
          obtain rfl := Option.some.inj hM
          exact a_ret (a_post (.r2 (.cell rfl rfl (.row _ CRow.h (Nat.le_of_ble_eq_true rfl) rfl)) (.tmp rfl)) (DLe.tup (.cons (DLe.agg (.cons (DLe.nils _) (.cons (DLe.nils _) (.cons (DLe.refl _) (.cons (DLe.refl _) .nil))))) (.cons (DLe.refl _) .nil))) PostOk.nil.spec)
        · replace hM := (of_if hM).2 h10
          refine a_skip ?_
          refine a_seq ?_
          obtain ⟨v12, h11, hM⟩ := of_bind hM
          refine a_region (.cons (o_fieldAddr rfl) <| .cons (o_load_s rfl rfl rfl) <| .cons (o_fieldAddr rfl) <| .cons (o_load_s rfl rfl rfl) <| .cons (o_call (collect_without_c h11) rfl (DLeL.refl _) rfl) <| .cons (o_fieldAddr rfl) <| .cons (o_store_s rfl rfl rfl rfl rfl) <| .nil _) (by kernel_rfl) (by kernel_rfl) ?_
          refine a_seq ?_
          refine a_region (.cons (o_load_r rfl rfl rfl rfl) <| .cons (o_store rfl rfl rfl rfl rfl rfl rfl) <| .cons (o_assign rfl) <| .nil _) (by kernel_rfl) (by kernel_rfl) ?_
          obtain rfl := Option.some.inj hM
          exact a_ret (a_post (.r2 (.cell rfl rfl (.row _ CRow.h (Nat.le_of_ble_eq_true rfl) rfl)) (.tmp rfl)) (DLe.refl _) PostOk.nil.spec)

def vclock_Clock_Tick_K2 (a1 : Nat → Int) : Option vclock_Clock :=
  some (vclock_Clock.mk a1)
def vclock_Clock_Tick (x0 : vclock_Clock) (x1 : Int) : Option vclock_Clock :=
  chk (((decide (0 ≤ x1)) && (decide (x1 < 16))) = true → inA 16 x1) <|
  if (((decide (0 ≤ x1)) && (decide (x1 < 16))) && (decide ((x0.gat (Int.toNat x1)) < 18446744073709551615))) = true then
    chk (inA 16 x1) <|
    chk (inA 16 x1) <|
    vclock_Clock_Tick_K2 (upd x0.gat (Int.toNat x1) (IntKind.wrap .u64 ((x0.gat (Int.toNat x1)) + 1)))
  else
    vclock_Clock_Tick_K2 x0.gat
theorem vclock_Clock_Tick_c {x0 : vclock_Clock} {x1 : Int} {r : vclock_Clock} (hM : vclock_Clock_Tick x0 x1 = some r) : PCall Tryz.prog 108 [.agg (vclock_Clock.cs x0), .int .i64 x1] (.agg (vclock_Clock.cs r)) := by
  unfold vclock_Clock_Tick at hM
  refine PCall.body Tryz.func108 Tryz.ntmps108 rfl rfl rfl rfl ?_
  refine a_seq ?_
  refine a_region (.cons (o_box rfl rfl) <| .cons (o_alloc rfl) <| .nil _) (by kernel_rfl) (by kernel_rfl) ?_
  refine a_cut (α := (Nat → Int)) (fun s => ⟨[(2, .ref 2 0), (4, .ref 4 0)], [(2, some (.blk 45 [.int .u64 (s 0), .int .u64 (s 1), .int .u64 (s 2), .int .u64 (s 3), .int .u64 (s 4), .int .u64 (s 5), .int .u64 (s 6), .int .u64 (s 7), .int .u64 (s 8), .int .u64 (s 9), .int .u64 (s 10), .int .u64 (s 11), .int .u64 (s 12), .int .u64 (s 13), .int .u64 (s 14), .int .u64 (s 15)])), (4, some (.blk 45 [.int .u64 0, .int .u64 0, .int .u64 0, .int .u64 0, .int .u64 0, .int .u64 0, .int .u64 0, .int .u64 0, .int .u64 0, .int .u64 0, .int .u64 0, .int .u64 0, .int .u64 0, .int .u64 0, .int .u64 0, .int .u64 0]))], [2, 4]⟩) (fun s => vclock_Clock_Tick_K2 s = some r) ?_ ?_
  · refine a_seq ?_
    obtain ⟨h3, hM⟩ := of_chk hM
    refine a_region (.cons (o_move rfl) <| .cons (o_int rfl rfl rfl) <| .cons (o_move rfl) <| .cons (o_guardG .bT rfl rfl (fun hb => (.keep .nil)) (fun hb => o_move rfl)) <| .cons (o_guardG .bT rfl rfl (fun hb => (.strip rfl hb .nil)) (fun hb => o_int rfl rfl rfl)) <| .cons (o_and rfl rfl) <| .cons (o_move rfl) <| .cons (o_guardG .bT rfl rfl (fun hb => (.keep .nil)) (fun hb => o_move rfl)) <| .cons (o_guardG .bT rfl rfl (fun hb => (.keep .nil)) (fun hb => o_fieldAddr rfl)) <| .cons (o_guardG .bT rfl rfl (fun hb => (.strip rfl hb (.strip rfl hb .nil))) (fun hb => t_index_d (h3 hb) rfl rfl)) <| .cons (o_guardG .bT rfl rfl (fun hb => (.strip rfl hb .nil)) (fun hb => o_load_s rfl rfl (arr_get1 (DV.int .u64) x0.gat (h3 hb) rfl))) <| .cons (o_guardG .bT rfl rfl (fun hb => (.strip rfl hb .nil)) (fun hb => o_int rfl rfl rfl)) <| .cons (o_and rfl rfl) <| .nil _) (by kernel_rfl) (by kernel_rfl) ?_
    refine a_cond _ rfl (fun h4 => ?_) (fun h4 => ?_)
    · replace hM := (of_if hM).1 h4
      obtain ⟨h5, hM⟩ := of_chk hM
      obtain ⟨h6, hM⟩ := of_chk hM
      refine a_region (.cons (o_move rfl) <| .cons (o_fieldAddr rfl) <| .cons (t_index_d h5 rfl rfl) <| .cons (o_load_s rfl rfl (arr_get1 (DV.int .u64) x0.gat h5 rfl)) <| .cons (o_int rfl rfl rfl) <| .cons (o_fieldAddr rfl) <| .cons (t_index_d h6 rfl rfl) <| .cons (o_store rfl rfl rfl rfl rfl (arr_ble (fun x => [(DV.int .u64) x]) x0.gat (fun _ => rfl) (by decide) h6 rfl 0 1 (by decide)) (arr_set (ds' := [.int .u64 ((upd x0.gat (Int.toNat x1) (IntKind.wrap .u64 ((x0.gat (Int.toNat x1)) + 1))) 0), .int .u64 ((upd x0.gat (Int.toNat x1) (IntKind.wrap .u64 ((x0.gat (Int.toNat x1)) + 1))) 1), .int .u64 ((upd x0.gat (Int.toNat x1) (IntKind.wrap .u64 ((x0.gat (Int.toNat x1)) + 1))) 2), .int .u64 ((upd x0.gat (Int.toNat x1) (IntKind.wrap .u64 ((x0.gat (Int.toNat x1)) + 1))) 3), .int .u64 ((upd x0.gat (Int.toNat x1) (IntKind.wrap .u64 ((x0.gat (Int.toNat x1)) + 1))) 4), .int .u64 ((upd x0.gat (Int.toNat x1) (IntKind.wrap .u64 ((x0.gat (Int.toNat x1)) + 1))) 5), .int .u64 ((upd x0.gat (Int.toNat x1) (IntKind.wrap .u64 ((x0.gat (Int.toNat x1)) + 1))) 6), .int .u64 ((upd x0.gat (Int.toNat x1) (IntKind.wrap .u64 ((x0.gat (Int.toNat x1)) + 1))) 7), .int .u64 ((upd x0.gat (Int.toNat x1) (IntKind.wrap .u64 ((x0.gat (Int.toNat x1)) + 1))) 8), .int .u64 ((upd x0.gat (Int.toNat x1) (IntKind.wrap .u64 ((x0.gat (Int.toNat x1)) + 1))) 9), .int .u64 ((upd x0.gat (Int.toNat x1) (IntKind.wrap .u64 ((x0.gat (Int.toNat x1)) + 1))) 10), .int .u64 ((upd x0.gat (Int.toNat x1) (IntKind.wrap .u64 ((x0.gat (Int.toNat x1)) + 1))) 11), .int .u64 ((upd x0.gat (Int.toNat x1) (IntKind.wrap .u64 ((x0.gat (Int.toNat x1)) + 1))) 12), .int .u64 ((upd x0.gat (Int.toNat x1) (IntKind.wrap .u64 ((x0.gat (Int.toNat x1)) + 1))) 13), .int .u64 ((upd x0.gat (Int.toNat x1) (IntKind.wrap .u64 ((x0.gat (Int.toNat x1)) + 1))) 14), .int .u64 ((upd x0.gat (Int.toNat x1) (IntKind.wrap .u64 ((x0.gat (Int.toNat x1)) + 1))) 15)]) (fun x => [(DV.int .u64) x]) x0.gat (IntKind.wrap .u64 ((x0.gat (Int.toNat x1)) + 1)) (fun _ => rfl) (by decide) h6 rfl 0 (Nat.le_of_ble_eq_true rfl) rfl rfl rfl rfl)) <| .nil _) (by kernel_rfl) (by kernel_rfl) ?_
      exact ⟨(upd x0.gat (Int.toNat x1) (IntKind.wrap .u64 ((x0.gat (Int.toNat x1)) + 1))), hM, (Imp.of (fun i => i) (.cons rfl (DLe.refl _) (.cons rfl (DLe.refl _) .nil)) (.cons rfl (.refl _) (.cons rfl (.refl _) .nil)) rfl rfl rfl)⟩
    · replace hM := (of_if hM).2 h4
      refine a_skip ?_
      exact ⟨x0.gat, hM, (Imp.of (fun i => i) (.cons rfl (DLe.refl _) (.cons rfl (DLe.refl _) .nil)) (.cons rfl (.refl _) (.cons rfl (.refl _) .nil)) rfl rfl rfl)⟩
  · rintro a1 hM
    replace hM : vclock_Clock_Tick_K2 a1 = some r := hM
    unfold vclock_Clock_Tick_K2 at hM
    refine a_seq ?_
    refine a_region (.cons (o_load_r rfl rfl rfl rfl) <| .cons (o_store rfl rfl rfl rfl rfl rfl rfl) <| .nil _) (by kernel_rfl) (by kernel_rfl) ?_
    obtain rfl := Option.some.inj hM
    exact a_ret (a_post (.r1 (.cell rfl rfl (.row _ CRow.h (Nat.le_of_ble_eq_true rfl) rfl))) (DLe.refl _) PostOk.nil.spec)

def rootcauselaw30_Raw_make (x0 : rootcauselaw30_Raw) (x1 : Int) : Option (record_Record × rootcauseref30_Record) :=
  chk ((0 : Int) ≤ x0.gSeq ∧ (0 : Int) < 40) <|
  chk ((0 : Int) ≤ x0.gWhat ∧ (0 : Int) < 4) <|
  if ((x0.gWhat % 4) == 2) = true then
    chk ((0 : Int) ≤ x0.gCount ∧ (0 : Int) < 8) <|
    some ((record_Record.mk x1 (IntKind.wrap .u64 (IntKind.wrap .i64 (x0.gSeq % 40))) (vclock_Clock.mk (arr 0 [0, 0, 0, 0, 0, 0, 0, 0, 0, 0, 0, 0, 0, 0, 0, 0])) 2 (api_Event.mk 0 0 0 0 0 0 0 0 []) (IntKind.wrap .u64 (IntKind.wrap .i64 (1 + (IntKind.wrap .i64 (x0.gCount % 8)))))), (rootcauseref30_Record.mk 2 (IntKind.wrap .i64 (x0.gSeq % 40)) 0 (IntKind.wrap .i64 (1 + (IntKind.wrap .i64 (x0.gCount % 8))))))
  else
    if ((x0.gWhat % 4) == 3) = true then
      some ((record_Record.mk x1 (IntKind.wrap .u64 (IntKind.wrap .i64 (x0.gSeq % 40))) (vclock_Clock.mk (arr 0 [0, 0, 0, 0, 0, 0, 0, 0, 0, 0, 0, 0, 0, 0, 0, 0])) 3 (api_Event.mk 0 0 0 0 0 0 0 0 []) 0), (rootcauseref30_Record.mk 3 (IntKind.wrap .i64 (x0.gSeq % 40)) 0 0))
    else
      chk ((0 : Int) ≤ x0.gId ∧ (0 : Int) < 3) <|
      (vclock_Clock_Tick (vclock_Clock.mk (arr 0 [0, 0, 0, 0, 0, 0, 0, 0, 0, 0, 0, 0, 0, 0, 0, 0])) x1).bind fun v8 =>
      some ((record_Record.mk x1 (IntKind.wrap .u64 (IntKind.wrap .i64 (x0.gSeq % 40))) v8 1 (api_Event.mk (IntKind.wrap .i64 (x0.gSeq % 40)) x1 3 0 (IntKind.wrap .i64 (1 + (IntKind.wrap .i64 (x0.gId % 3)))) 0 0 0 []) 0), (rootcauseref30_Record.mk 1 (IntKind.wrap .i64 (x0.gSeq % 40)) (IntKind.wrap .i64 (1 + (IntKind.wrap .i64 (x0.gId % 3)))) 0))
theorem rootcauselaw30_Raw_make_c {x0 : rootcauselaw30_Raw} {x1 : Int} {r : record_Record × rootcauseref30_Record} (hM : rootcauselaw30_Raw_make x0 x1 = some r) : PCall Tryz.prog 60 [.agg (rootcauselaw30_Raw.cs x0), .int .i64 x1] (.tup [.agg (record_Record.cs r.1), .agg (rootcauseref30_Record.cs r.2)]) := by
  unfold rootcauselaw30_Raw_make at hM
  refine PCall.body Tryz.func60 Tryz.ntmps60 rfl rfl rfl rfl ?_
  refine a_seq ?_
  refine a_region (.cons (o_box rfl rfl) <| .cons (o_alloc rfl) <| .cons (o_alloc rfl) <| .nil _) (by kernel_rfl) (by kernel_rfl) ?_
  refine a_seq ?_
  obtain ⟨h1, hM⟩ := of_chk hM
  refine a_region (.cons (o_fieldAddr rfl) <| .cons (o_load_s rfl rfl rfl) <| .cons (o_rem rfl rfl h1) <| .cons (o_conv_w rfl) <| .cons (o_assign rfl) <| .nil _) (by kernel_rfl) (by kernel_rfl) ?_
  refine a_seq ?_
  refine a_region (.cons (o_move rfl) <| .cons (o_move rfl) <| .cons (o_conv_w rfl) <| .cons (o_build rfl rfl rfl) <| .cons (o_alloc rfl) <| .cons (o_store rfl rfl rfl rfl rfl rfl rfl) <| .nil _) (by kernel_rfl) (by kernel_rfl) ?_
  refine a_seq ?_
  refine a_seq ?_
  obtain ⟨h2, hM⟩ := of_chk hM
  refine a_region (.cons (o_fieldAddr rfl) <| .cons (o_load_s rfl rfl rfl) <| .cons (o_rem rfl rfl h2) <| .nil _) (by kernel_rfl) (by kernel_rfl) ?_
  refine a_block ?_
  refine a_seq ?_
  refine a_region (.cons (o_int rfl rfl rfl) <| .cons (o_assign rfl) <| .nil _) (by kernel_rfl) (by kernel_rfl) ?_
  refine a_cond _ rfl (fun h3 => ?_) (fun h3 => ?_)
  · replace hM := (of_if hM).1 h3
    refine a_seq ?_
    obtain ⟨h4, hM⟩ := of_chk hM
    refine a_region (.cons (o_fieldAddr rfl) <| .cons (o_load_s rfl rfl rfl) <| .cons (o_rem rfl rfl h4) <| .cons (o_conv_w rfl) <| .cons (o_int rfl rfl rfl) <| .cons (o_assign rfl) <| .nil _) (by kernel_rfl) (by kernel_rfl) ?_
    refine a_seq ?_
    refine a_region (.cons (o_move rfl) <| .cons (o_conv_w rfl) <| .cons (o_fieldAddr rfl) <| .cons (o_store_s rfl rfl rfl rfl rfl) <| .cons (o_fieldAddr rfl) <| .cons (o_store_s rfl rfl rfl rfl rfl) <| .nil _) (by kernel_rfl) (by kernel_rfl) ?_
    refine a_seq ?_
    refine a_region (.cons (o_load_r rfl rfl rfl rfl) <| .cons (o_move rfl) <| .cons (o_move rfl) <| .cons (o_build rfl rfl rfl) <| .cons (o_store rfl rfl rfl rfl rfl rfl rfl) <| .cons (o_store rfl rfl rfl rfl rfl rfl rfl) <| .nil _) (by kernel_rfl) (by kernel_rfl) ?_
    obtain rfl := Option.some.inj hM
    exact a_ret (a_post (.r2 (.cell rfl rfl (.row _ CRow.h (Nat.le_of_ble_eq_true rfl) rfl)) (.cell rfl rfl (.row _ CRow.h (Nat.le_of_ble_eq_true rfl) rfl))) (DLe.tup (.cons (DLe.agg (.cons (DLe.refl _) (.cons (DLe.refl _) (.cons (DLe.refl _) (.cons (DLe.refl _) (.cons (DLe.refl _) (.cons (DLe.refl _) (.cons (DLe.refl _) (.cons (DLe.refl _) (.cons (DLe.refl _) (.cons (DLe.refl _) (.cons (DLe.refl _) (.cons (DLe.refl _) (.cons (DLe.refl _) (.cons (DLe.refl _) (.cons (DLe.refl _) (.cons (DLe.refl _) (.cons (DLe.refl _) (.cons (DLe.refl _) (.cons (DLe.refl _) (.cons (DLe.refl _) (.cons (DLe.refl _) (.cons (DLe.refl _) (.cons (DLe.refl _) (.cons (DLe.refl _) (.cons (DLe.refl _) (.cons (DLe.refl _) (.cons (DLe.refl _) (.cons (DLe.nils _) (.cons (DLe.refl _) .nil)))))))))))))))))))))))))))))) (.cons (DLe.refl _) .nil))) PostOk.nil.spec)
  · replace hM := (of_if hM).2 h3
    refine a_seq ?_
    refine a_region (.cons (o_int rfl rfl rfl) <| .cons (o_assign rfl) <| .nil _) (by kernel_rfl) (by kernel_rfl) ?_
    refine a_cond _ rfl (fun h5 => ?_) (fun h5 => ?_)
    · replace hM := (of_if hM).1 h5
      refine a_seq ?_
      refine a_region (.cons (o_fieldAddr rfl) <| .cons (o_store_s rfl rfl rfl rfl rfl) <| .nil _) (by kernel_rfl) (by kernel_rfl) ?_
      refine a_seq ?_
      refine a_region (.cons (o_load_r rfl rfl rfl rfl) <| .cons (o_move rfl) <| .cons (o_build rfl rfl rfl) <| .cons (o_store rfl rfl rfl rfl rfl rfl rfl) <| .cons (o_store rfl rfl rfl rfl rfl rfl rfl) <| .nil _) (by kernel_rfl) (by kernel_rfl) ?_
      obtain rfl := Option.some.inj hM
      exact a_ret (a_post (.r2 (.cell rfl rfl (.row _ CRow.h (Nat.le_of_ble_eq_true rfl) rfl)) (.cell rfl rfl (.row _ CRow.h (Nat.le_of_ble_eq_true rfl) rfl))) (DLe.tup (.cons (DLe.agg (.cons (DLe.refl _) (.cons (DLe.refl _) (.cons (DLe.refl _) (.cons (DLe.refl _) (.cons (DLe.refl _) (.cons (DLe.refl _) (.cons (DLe.refl _) (.cons (DLe.refl _) (.cons (DLe.refl _) (.cons (DLe.refl _) (.cons (DLe.refl _) (.cons (DLe.refl _) (.cons (DLe.refl _) (.cons (DLe.refl _) (.cons (DLe.refl _) (.cons (DLe.refl _) (.cons (DLe.refl _) (.cons (DLe.refl _) (.cons (DLe.refl _) (.cons (DLe.refl _) (.cons (DLe.refl _) (.cons (DLe.refl _) (.cons (DLe.refl _) (.cons (DLe.refl _) (.cons (DLe.refl _) (.cons (DLe.refl _) (.cons (DLe.refl _) (.cons (DLe.nils _) (.cons (DLe.refl _) .nil)))))))))))))))))))))))))))))) (.cons (DLe.refl _) .nil))) PostOk.nil.spec)
    · replace hM := (of_if hM).2 h5
      refine a_skip ?_
      refine a_seq ?_
      obtain ⟨h6, hM⟩ := of_chk hM
      refine a_region (.cons (o_fieldAddr rfl) <| .cons (o_load_s rfl rfl rfl) <| .cons (o_rem rfl rfl h6) <| .cons (o_conv_w rfl) <| .cons (o_int rfl rfl rfl) <| .cons (o_assign rfl) <| .nil _) (by kernel_rfl) (by kernel_rfl) ?_
      refine a_seq ?_
      obtain ⟨v8, h7, hM⟩ := of_bind hM
      refine a_region (.cons (o_build rfl rfl rfl) <| .cons (o_move rfl) <| .cons (o_call (vclock_Clock_Tick_c h7) rfl (DLeL.refl _) rfl) <| .cons (o_fieldAddr rfl) <| .cons (o_store rfl rfl rfl rfl rfl rfl rfl) <| .nil _) (by kernel_rfl) (by kernel_rfl) ?_
      refine a_seq ?_
      refine a_region (.cons (o_move rfl) <| .cons (o_move rfl) <| .cons (o_move rfl) <| .cons (o_build rfl rfl rfl) <| .cons (o_fieldAddr rfl) <| .cons (o_store rfl rfl rfl rfl rfl rfl rfl) <| .nil _) (by kernel_rfl) (by kernel_rfl) ?_
      refine a_seq ?_
      refine a_region (.cons (o_load_r rfl rfl rfl rfl) <| .cons (o_move rfl) <| .cons (o_move rfl) <| .cons (o_build rfl rfl rfl) <| .cons (o_store rfl rfl rfl rfl rfl rfl rfl) <| .cons (o_store rfl rfl rfl rfl rfl rfl rfl) <| .nil _) (by kernel_rfl) (by kernel_rfl) ?_
      obtain rfl := Option.some.inj hM
      exact a_ret (a_post (.r2 (.cell rfl rfl (.row _ CRow.h (Nat.le_of_ble_eq_true rfl) rfl)) (.cell rfl rfl (.row _ CRow.h (Nat.le_of_ble_eq_true rfl) rfl))) (DLe.tup (.cons (DLe.agg (.cons (DLe.refl _) (.cons (DLe.refl _) (.cons (DLe.refl _) (.cons (DLe.refl _) (.cons (DLe.refl _) (.cons (DLe.refl _) (.cons (DLe.refl _) (.cons (DLe.refl _) (.cons (DLe.refl _) (.cons (DLe.refl _) (.cons (DLe.refl _) (.cons (DLe.refl _) (.cons (DLe.refl _) (.cons (DLe.refl _) (.cons (DLe.refl _) (.cons (DLe.refl _) (.cons (DLe.refl _) (.cons (DLe.refl _) (.cons (DLe.refl _) (.cons (DLe.refl _) (.cons (DLe.refl _) (.cons (DLe.refl _) (.cons (DLe.refl _) (.cons (DLe.refl _) (.cons (DLe.refl _) (.cons (DLe.refl _) (.cons (DLe.refl _) (.cons (DLe.nils _) (.cons (DLe.refl _) .nil)))))))))))))))))))))))))))))) (.cons (DLe.refl _) .nil))) PostOk.nil.spec)

def rootcauselaw30_File_bytes_K4 (x0 : rootcauselaw30_File) (x1 : Int) (a2 : List Int) (a3 : List rootcauseref30_Record) : Option (Int × (List Int) × (List rootcauseref30_Record)) :=
  some (((IntKind.wrap .i64 x0.gComponent) % (IntKind.wrap .i64 (x1 + 1))), a2, a3)
def rootcauselaw30_File_bytes_L8 (x0 : rootcauselaw30_File) (x1 : Int) (a5 : List Int) (a6 : List rootcauseref30_Record) (a7 : Int) : Option (Ctl ((List Int) × (List rootcauseref30_Record) × Int) (((List Int) × (List rootcauseref30_Record)) ⊕ (Int × (List Int) × (List rootcauseref30_Record)))) :=
  if ((decide (a7 < (List.length x0.gRecords : Int))) && (decide (a7 < 12))) = true then
    (idx x0.gRecords a7).bind fun v12 =>
    (rootcauselaw30_Raw_make v12 ((IntKind.wrap .i64 x0.gComponent) % (IntKind.wrap .i64 (x1 + 1)))).bind fun v14 =>
    (record_Record_Bytes v14.1).bind fun v16 =>
    (frame_Append a5 v16).bind fun v18 =>
    if (v18.2 != 0) = true then
      some (.done (.inr (((IntKind.wrap .i64 x0.gComponent) % (IntKind.wrap .i64 (x1 + 1))), ([] : List Int), ([] : List rootcauseref30_Record))))
    else
      chk (apOk 32 (List.length a6 + List.length [v14.2])) <|
      some (.next (v18.1, (a6 ++ [v14.2]), (IntKind.wrap .i64 (a7 + 1))))
  else
    some (.done (.inl (a5, a6)))
def rootcauselaw30_File_bytes (x0 : rootcauselaw30_File) (x1 : Int) : Option (Int × (List Int) × (List rootcauseref30_Record)) :=
  chk ((0 : Int) ≤ (IntKind.wrap .i64 x0.gComponent) ∧ (0 : Int) < (IntKind.wrap .i64 (x1 + 1))) <|
  (whileM (E := ((List Int) × (List rootcauseref30_Record)) ⊕ (Int × (List Int) × (List rootcauseref30_Record))) (fun s => rootcauselaw30_File_bytes_L8 x0 x1 s.1 s.2.1 s.2.2) (([] : List Int), ([] : List rootcauseref30_Record), 0)).bind fun
    | .inl e => rootcauselaw30_File_bytes_K4 x0 x1 e.1 e.2
    | .inr r => some r
theorem rootcauselaw30_File_bytes_c {x0 : rootcauselaw30_File} {x1 : Int} {r : Int × (List Int) × (List rootcauseref30_Record)} (hM : rootcauselaw30_File_bytes x0 x1 = some r) : PCall Tryz.prog 18 [.agg (rootcauselaw30_File.cs x0), .int .i64 x1] (.tup [.int .i64 r.1, .sl 1 (List.map (DV.int .u8) r.2.1), .sl 4 (List.map rootcauseref30_Record.dv r.2.2)]) := by
  unfold rootcauselaw30_File_bytes at hM
  refine PCall.body Tryz.func18 Tryz.ntmps18 rfl rfl rfl rfl ?_
  refine a_seq ?_
  refine a_region (.cons (o_box rfl rfl) <| .cons (o_assign rfl) <| .cons (o_assign rfl) <| .cons (o_assign rfl) <| .nil _) (by kernel_rfl) (by kernel_rfl) ?_
  refine a_seq ?_
  obtain ⟨h1, hM⟩ := of_chk hM
  refine a_region (.cons (o_fieldAddr rfl) <| .cons (o_load_s rfl rfl rfl) <| .cons (o_conv_w rfl) <| .cons (o_move rfl) <| .cons (o_int rfl rfl rfl) <| .cons (o_rem rfl rfl h1) <| .cons (o_assign rfl) <| .nil _) (by kernel_rfl) (by kernel_rfl) ?_
  refine a_seq ?_
  refine a_region (.cons (o_assign rfl) <| .nil _) (by kernel_rfl) (by kernel_rfl) ?_
  refine a_seq ?_
  refine a_region (.cons (o_assign rfl) <| .nil _) (by kernel_rfl) (by kernel_rfl) ?_
  refine a_cut (α := (List Int) × (List rootcauseref30_Record)) (fun s => ⟨[(7, .int .i64 ((IntKind.wrap .i64 x0.gComponent) % (IntKind.wrap .i64 (x1 + 1)))), (8, .sl 1 (List.map (DV.int .u8) s.1)), (9, .sl 4 (List.map rootcauseref30_Record.dv s.2))], [], []⟩) (fun s => rootcauselaw30_File_bytes_K4 x0 x1 s.1 s.2 = some r) ?_ ?_
  · refine a_seq ?_
    refine a_region (.cons (o_assign rfl) <| .nil _) (by kernel_rfl) (by kernel_rfl) ?_
    obtain ⟨e8, hL8, hK8⟩ := of_bind hM
    refine a_block ?_
    refine a_while (fun s : (List Int) × (List rootcauseref30_Record) × Int => ⟨[(2, .ref 2 0), (7, .int .i64 ((IntKind.wrap .i64 x0.gComponent) % (IntKind.wrap .i64 (x1 + 1)))), (8, .sl 1 (List.map (DV.int .u8) s.1)), (9, .row 10001), (10, .int .i64 s.2.2)], [(2, some (.blk 33 [.int .u8 x0.gComponent, .sl 4 (List.map rootcauselaw30_Raw.dv x0.gRecords)])), (10001, some (.row 56 4 (List.map rootcauseref30_Record.dv s.2.1)))], [2, 10001]⟩) _ hL8 ((Imp.nilRow (t := 9) (id := 10002) 56 4 rfl rfl).trans (Imp.of (fun i => bif Nat.beq i 10001 then 10002 else i) (.cons rfl (DLe.refl _) (.cons rfl (DLe.refl _) (.cons rfl (DLe.nils _) (.cons rfl (DLe.refl _) (.cons rfl (DLe.refl _) .nil))))) (.cons rfl (.refl _) (.cons rfl (.refl _) .nil)) rfl rfl rfl)) ?_
    rintro ⟨a5, a6, a7⟩ t9 hM hE8
    replace hM : rootcauselaw30_File_bytes_L8 x0 x1 a5 a6 a7 = some t9 := hM
    unfold rootcauselaw30_File_bytes_L8 at hM
    refine a_seq ?_
    refine a_seq ?_
    refine a_region (.cons (o_move rfl) <| .cons (o_fieldAddr rfl) <| .cons (o_load_s rfl rfl rfl) <| .cons (t_len rfl) <| .cons (o_int rfl rfl rfl) <| .cons (o_move rfl) <| .cons (o_guardG .bT rfl rfl (fun hb => (.keep .nil)) (fun hb => o_move rfl)) <| .cons (o_guardG .bT rfl rfl (fun hb => (.strip rfl hb .nil)) (fun hb => o_int rfl rfl rfl)) <| .cons (o_and rfl rfl) <| .nil _) (by kernel_rfl) (by kernel_rfl) ?_
    refine a_cond _ rfl (fun h10 => ?_) (fun h10 => ?_)
    · replace hM := (of_if hM).1 h10
      refine a_skip ?_
      refine a_seq ?_
      refine a_block ?_
      refine a_seq ?_
      obtain ⟨v12, h11, hM⟩ := of_bind hM
      obtain ⟨v14, h13, hM⟩ := of_bind hM
      refine a_region (.cons (o_fieldAddr rfl) <| .cons (o_load_s rfl rfl rfl) <| .cons (o_move rfl) <| .cons (t_index h11 rfl rfl rfl) <| .cons (o_load_er rfl rfl rfl) <| .cons (o_move rfl) <| .cons (o_call (rootcauselaw30_Raw_make_c h13) rfl (DLeL.refl _) rfl) <| .cons (o_move rfl) <| .cons (o_extract rfl rfl) <| .cons (o_extract rfl rfl) <| .cons (o_alloc rfl) <| .cons (o_alloc rfl) <| .cons (o_store rfl rfl rfl rfl rfl rfl rfl) <| .cons (o_store rfl rfl rfl rfl rfl rfl rfl) <| .nil _) (by kernel_rfl) (by kernel_rfl) ?_
      refine a_seq ?_
      obtain ⟨v16, h15, hM⟩ := of_bind hM
      obtain ⟨v18, h17, hM⟩ := of_bind hM
      refine a_region (.cons (o_move rfl) <| .cons (o_load_r rfl rfl rfl rfl) <| .cons (o_call (record_Record_Bytes_c h15) rfl (DLeL.refl _) rfl) <| .cons (o_call (frame_Append_c h17) rfl (DLeL.refl _) rfl) <| .cons (o_move rfl) <| .cons (o_extract rfl rfl) <| .cons (o_extract rfl rfl) <| .cons (o_assign rfl) <| .cons (o_assign rfl) <| .nil _) (by kernel_rfl) (by kernel_rfl) ?_
      refine a_seq ?_
      refine a_seq ?_
      refine a_region (.cons (o_move rfl) <| .cons (o_int rfl rfl rfl) <| .nil _) (by kernel_rfl) (by kernel_rfl) ?_
      refine a_cond _ rfl (fun h19 => ?_) (fun h19 => ?_)
      · replace hM := (of_if hM).1 h19
        refine a_seq ?_
        refine a_region (.cons (o_move rfl) <| .cons (o_assign rfl) <| .cons (o_assign rfl) <| .cons (o_assign rfl) <| .nil _) (by kernel_rfl) (by kernel_rfl) ?_
        obtain rfl := Option.some.inj hM
        obtain rfl := hE8 _ rfl
        obtain rfl := Option.some.inj hK8
        exact a_ret (a_post (.r3 (.tmp rfl) (.tmp rfl) (.tmp rfl)) (DLe.tup (.cons (DLe.refl _) (.cons (DLe.nils _) (.cons (DLe.nils _) .nil)))) PostOk.nil.spec)
      · replace hM := (of_if hM).2 h19
        refine a_skip ?_
        refine a_seq ?_
        refine a_region (.cons (o_move rfl) <| .cons (o_assign rfl) <| .nil _) (by kernel_rfl) (by kernel_rfl) ?_
        obtain ⟨h20, hM⟩ := of_chk hM
        refine a_region (.cons (o_move rfl) <| .cons (o_load_r rfl rfl rfl rfl) <| .cons (t_build rootcauseref30_Record.dv ([v14.2] : List rootcauseref30_Record) rfl rfl rfl rfl rfl rfl rfl) <| .cons (t_append [v14.2] h20 rfl rfl rfl (Src.row rfl)) <| .cons (o_assign rfl) <| .nil _) (by kernel_rfl) (by kernel_rfl) ?_
        refine a_region (.cons (o_move rfl) <| .cons (o_int rfl rfl rfl) <| .cons (o_assign rfl) <| .nil _) (by kernel_rfl) (by kernel_rfl) ?_
        obtain rfl := Option.some.inj hM
        exact ⟨(v18.1, (a6 ++ [v14.2]), (IntKind.wrap .i64 (a7 + 1))), rfl, (Imp.of (fun i => bif Nat.beq i 10001 then 56 else i) (.cons rfl (DLe.refl _) (.cons rfl (DLe.refl _) (.cons rfl (DLe.refl _) (.cons rfl (DLe.refl _) (.cons rfl (DLe.refl _) .nil))))) (.cons rfl (.refl _) (.cons rfl (.refl _) .nil)) rfl rfl rfl)⟩
    · replace hM := (of_if hM).2 h10
      refine a_exit ?_
      obtain rfl := Option.some.inj hM
      obtain rfl := hE8 _ rfl
      exact ⟨(a5, a6), hK8, ((Imp.freeze (id := 10001) rfl).trans (Imp.of (fun i => i) (.cons rfl (DLe.refl _) (.cons rfl (DLe.refl _) (.cons rfl (DLe.refl _) .nil))) .nil rfl rfl rfl))⟩
  · rintro ⟨a2, a3⟩ hM
    replace hM : rootcauselaw30_File_bytes_K4 x0 x1 a2 a3 = some r := hM
    unfold rootcauselaw30_File_bytes_K4 at hM
    refine a_seq ?_
    refine a_region (.cons (o_move rfl) <| .cons (o_move rfl) <| .cons (o_move rfl) <| .cons (o_assign rfl) <| .cons (o_assign rfl) <| .cons (o_assign rfl) <| .nil _) (by kernel_rfl) (by kernel_rfl) ?_
    obtain rfl := Option.some.inj hM
    exact a_ret (a_post (.r3 (.tmp rfl) (.tmp rfl) (.tmp rfl)) (DLe.refl _) PostOk.nil.spec)

def collect_Collector_Add_a (x1 : Int) (x2 : List Int) (o0 : collect_Collector) : Option (Int × collect_Collector) :=
  if ((decide (x1 < 0)) || (decide ((List.length o0.gparts : Int) ≤ x1))) = true then
    some (1, o0)
  else
    (recorder_Read x2).bind fun v3 =>
    (collect_partOf v3.1 x1).bind fun v5 =>
    if (!v5.2) = true then
      some (14, o0)
    else
      (idx o0.gparts x1).bind fun v8 =>
      (collect_part_merge v8 v5.1).bind fun v10 =>
      if (!v10.2) = true then
        some (14, o0)
      else
        (idx o0.gparts x1).bind fun v13 =>
        some (0, (collect_Collector.mk (List.set o0.gparts (Int.toNat x1) v10.1)))
theorem collect_Collector_Add_a_c {x1 : Int} {x2 : List Int} {o0 : collect_Collector} {r : Int × collect_Collector} (hM : collect_Collector_Add_a x1 x2 o0 = some r) : ACall Tryz.prog 20 ⟨[.ref 100000 0, .int .i64 x1, .sl 1 (List.map (DV.int .u8) x2)], [(100000, some (.blk 134 [.row 100001])), (100001, some (.row 137 4 (List.map collect_part.dv o0.gparts)))], .int .i64 r.1, [(100000, some (.blk 134 [.row 50000])), (50000, some (.row 137 4 (List.map collect_part.dv r.2.gparts))), (100001, none)], [50000]⟩ := by
  unfold collect_Collector_Add_a at hM
  refine ACall.body Tryz.func20 Tryz.ntmps20 rfl rfl rfl rfl ?_
  refine a_seq ?_
  refine a_region (.cons (o_assign rfl) <| .nil _) (by kernel_rfl) (by kernel_rfl) ?_
  refine a_seq ?_
  refine a_seq ?_
  refine a_region (.cons (o_move rfl) <| .cons (o_ptr_eq rfl) <| .cons (o_move rfl) <| .cons (o_guardOn .bF rfl rfl rfl (.keep .nil) (o_move rfl)) <| .cons (o_guardOn .bF rfl rfl rfl (.strip rfl rfl .nil) (o_int rfl rfl rfl)) <| .cons (o_or rfl rfl) <| .cons (o_move rfl) <| .cons (o_guardG .bF rfl rfl (fun hb => (.keep .nil)) (fun hb => o_move rfl)) <| .cons (o_guardG .bF rfl rfl (fun hb => (.keep .nil)) (fun hb => o_move rfl)) <| .cons (o_guardG .bF rfl rfl (fun hb => (.strip rfl hb .nil)) (fun hb => o_nilCheck rfl)) <| .cons (o_guardG .bF rfl rfl (fun hb => (.strip rfl hb .nil)) (fun hb => o_fieldAddr rfl)) <| .cons (o_guardG .bF rfl rfl (fun hb => (.strip rfl hb .nil)) (fun hb => o_load_s rfl rfl rfl)) <| .cons (o_guardG .bF rfl rfl (fun hb => (.strip rfl hb .nil)) (fun hb => t_len_r rfl rfl)) <| .cons (o_guardG .bF rfl rfl (fun hb => (.strip rfl hb (.strip rfl hb .nil))) (fun hb => o_int rfl rfl rfl)) <| .cons (o_or rfl rfl) <| .nil _) (by kernel_rfl) (by kernel_rfl) ?_
  refine a_cond _ rfl (fun h1 => ?_) (fun h1 => ?_)
  · replace hM := (of_if hM).1 h1
    refine a_seq ?_
    refine a_region (.cons (o_assign rfl) <| .nil _) (by kernel_rfl) (by kernel_rfl) ?_
    obtain rfl := Option.some.inj hM
    refine a_imp (σ' := ⟨[(6, .int .i64 1)], [(50000, some (.row 137 4 (List.map collect_part.dv o0.gparts))), (100000, some (.blk 134 [.row 50000]))], [50000, 100000, 100001]⟩) (Imp.of (fun i => bif Nat.beq i 50000 then 100001 else i) (.cons rfl (DLe.refl _) .nil) (.cons rfl (.refl _) (.cons rfl (.refl _) .nil)) rfl rfl rfl) ?_
    exact a_ret (a_post (.r1 (.tmp rfl)) (DLe.refl _) (PostOk.spec (.cons rfl (.cons rfl (.gone .nil)))))
  · replace hM := (of_if hM).2 h1
    refine a_skip ?_
    refine a_seq ?_
    obtain ⟨v3, h2, hM⟩ := of_bind hM
    refine a_region (.cons (o_move rfl) <| .cons (o_call (recorder_Read_c h2) rfl (DLeL.refl _) rfl) <| .cons (o_move rfl) <| .cons (o_extract rfl rfl) <| .cons (o_extract rfl rfl) <| .cons (o_assign rfl) <| .cons (o_assign rfl) <| .nil _) (by kernel_rfl) (by kernel_rfl) ?_
    refine a_seq ?_
    obtain ⟨v5, h4, hM⟩ := of_bind hM
    refine a_region (.cons (o_move rfl) <| .cons (o_move rfl) <| .cons (o_call (collect_partOf_c h4) rfl (DLeL.refl _) rfl) <| .cons (o_move rfl) <| .cons (o_extract rfl rfl) <| .cons (o_extract rfl rfl) <| .cons (o_alloc rfl) <| .cons (o_store rfl rfl rfl rfl rfl rfl rfl) <| .cons (o_assign rfl) <| .nil _) (by kernel_rfl) (by kernel_rfl) ?_
    refine a_seq ?_
    refine a_seq ?_
    refine a_region (.cons (o_move rfl) <| .cons (o_not rfl) <| .nil _) (by kernel_rfl) (by kernel_rfl) ?_
    refine a_cond _ rfl (fun h6 => ?_) (fun h6 => ?_)
    · replace hM := (of_if hM).1 h6
      refine a_seq ?_
      refine a_region (.cons (o_assign rfl) <| .nil _) (by kernel_rfl) (by kernel_rfl) ?_
      obtain rfl := Option.some.inj hM
      refine a_imp (σ' := ⟨[(6, .int .i64 14)], [(50000, some (.row 137 4 (List.map collect_part.dv o0.gparts))), (100000, some (.blk 134 [.row 50000]))], [50000, 100000, 100001]⟩) (Imp.of (fun i => bif Nat.beq i 50000 then 100001 else i) (.cons rfl (DLe.refl _) .nil) (.cons rfl (.refl _) (.cons rfl (.refl _) .nil)) rfl rfl rfl) ?_
      exact a_ret (a_post (.r1 (.tmp rfl)) (DLe.refl _) (PostOk.spec (.cons rfl (.cons rfl (.gone .nil)))))
    · replace hM := (of_if hM).2 h6
      refine a_skip ?_
      refine a_seq ?_
      obtain ⟨v8, h7, hM⟩ := of_bind hM
      obtain ⟨v10, h9, hM⟩ := of_bind hM
      refine a_draw mixed (.cons (o_move rfl) <| .cons (o_nilCheck rfl) <| .cons (o_fieldAddr rfl) <| .cons (o_load_s rfl rfl rfl) <| .cons (o_move rfl) <| .cons (t_index_r h7 rfl rfl rfl) <| .cons (t_load_pr h7 rfl rfl rfl rfl rfl) <| .cons (o_load_r rfl rfl rfl rfl) <| .cons (o_call (collect_part_merge_c h9) rfl (DLeL.refl _) rfl) <| .cons (o_move rfl) <| .cons (o_extract rfl rfl) <| .cons (o_extract rfl rfl) <| .cons (o_alloc rfl) <| .cons (o_store rfl rfl rfl rfl rfl rfl rfl) <| .cons (o_assign rfl) <| .nil _) (by kernel_rfl) (by kernel_rfl) (by kernel_rfl) ?_
      refine a_seq ?_
      refine a_seq ?_
      refine a_region (.cons (o_move rfl) <| .cons (o_not rfl) <| .nil _) (by kernel_rfl) (by kernel_rfl) ?_
      refine a_cond _ rfl (fun h11 => ?_) (fun h11 => ?_)
      · replace hM := (of_if hM).1 h11
        refine a_seq ?_
        refine a_region (.cons (o_assign rfl) <| .nil _) (by kernel_rfl) (by kernel_rfl) ?_
        obtain rfl := Option.some.inj hM
        refine a_imp (σ' := ⟨[(6, .int .i64 14)], [(50000, some (.row 137 4 (List.map collect_part.dv o0.gparts))), (100000, some (.blk 134 [.row 50000]))], [50000, 100000, 100001]⟩) (Imp.of (fun i => bif Nat.beq i 50000 then 100001 else i) (.cons rfl (DLe.refl _) .nil) (.cons rfl (.refl _) (.cons rfl (.refl _) .nil)) rfl rfl rfl) ?_
        exact a_ret (a_post (.r1 (.tmp rfl)) (DLe.refl _) (PostOk.spec (.cons rfl (.cons rfl (.gone .nil)))))
      · replace hM := (of_if hM).2 h11
        refine a_skip ?_
        refine a_seq ?_
        obtain ⟨v13, h12, hM⟩ := of_bind hM
        refine a_draw mixed (.cons (o_move rfl) <| .cons (o_nilCheck rfl) <| .cons (o_fieldAddr rfl) <| .cons (o_load_s rfl rfl rfl) <| .cons (o_move rfl) <| .cons (o_load_r rfl rfl rfl rfl) <| .cons (t_index_r h12 rfl rfl rfl) <| .cons (t_store_p v10.1 h12 rfl rfl rfl rfl rfl rfl rfl rfl rfl rfl rfl) <| .nil _) (by kernel_rfl) (by kernel_rfl) (by kernel_rfl) ?_
        refine a_seq ?_
        refine a_region (.cons (o_assign rfl) <| .nil _) (by kernel_rfl) (by kernel_rfl) ?_
        obtain rfl := Option.some.inj hM
        refine a_imp (σ' := ⟨[(6, .int .i64 0)], [(50000, some (.row 137 4 (List.map collect_part.dv ((collect_Collector.mk (List.set o0.gparts (Int.toNat x1) v10.1)).gparts)))), (100000, some (.blk 134 [.row 50000]))], [50000, 100000, 100001]⟩) (Imp.of (fun i => bif Nat.beq i 50000 then 100001 else i) (.cons rfl (DLe.refl _) .nil) (.cons rfl (.refl _) (.cons rfl (.refl _) .nil)) rfl rfl rfl) ?_
        exact a_ret (a_post (.r1 (.tmp rfl)) (DLe.refl _) (PostOk.spec (.cons rfl (.cons rfl (.gone .nil)))))

def collect_Collector_part_a (x1 : Int) (o0 : collect_Collector) : Option collect_part :=
  if ((decide (x1 < 0)) || (decide ((List.length o0.gparts : Int) ≤ x1))) = true then
    some (collect_part.mk [] [] false 0)
  else
    (idx o0.gparts x1).bind fun v3 =>
    some v3
theorem collect_Collector_part_a_c {x1 : Int} {o0 : collect_Collector} {r : collect_part} (hM : collect_Collector_part_a x1 o0 = some r) : ACall Tryz.prog 76 ⟨[.ref 100000 0, .int .i64 x1], [(100000, some (.blk 134 [.row 100001])), (100001, some (.row 137 4 (List.map collect_part.dv o0.gparts)))], .agg (collect_part.cs r), [(100000, some (.blk 134 [.row 100001])), (100001, some (.row 137 4 (List.map collect_part.dv o0.gparts)))], []⟩ := by
  unfold collect_Collector_part_a at hM
  refine ACall.body Tryz.func76 Tryz.ntmps76 rfl rfl rfl rfl ?_
  refine a_seq ?_
  refine a_region (.cons (o_alloc rfl) <| .nil _) (by kernel_rfl) (by kernel_rfl) ?_
  refine a_seq ?_
  refine a_seq ?_
  refine a_region (.cons (o_move rfl) <| .cons (o_ptr_eq rfl) <| .cons (o_move rfl) <| .cons (o_guardOn .bF rfl rfl rfl (.keep .nil) (o_move rfl)) <| .cons (o_guardOn .bF rfl rfl rfl (.strip rfl rfl .nil) (o_int rfl rfl rfl)) <| .cons (o_or rfl rfl) <| .cons (o_move rfl) <| .cons (o_guardG .bF rfl rfl (fun hb => (.keep .nil)) (fun hb => o_move rfl)) <| .cons (o_guardG .bF rfl rfl (fun hb => (.keep .nil)) (fun hb => o_move rfl)) <| .cons (o_guardG .bF rfl rfl (fun hb => (.strip rfl hb .nil)) (fun hb => o_nilCheck rfl)) <| .cons (o_guardG .bF rfl rfl (fun hb => (.strip rfl hb .nil)) (fun hb => o_fieldAddr rfl)) <| .cons (o_guardG .bF rfl rfl (fun hb => (.strip rfl hb .nil)) (fun hb => o_load_s rfl rfl rfl)) <| .cons (o_guardG .bF rfl rfl (fun hb => (.strip rfl hb .nil)) (fun hb => t_len_r rfl rfl)) <| .cons (o_guardG .bF rfl rfl (fun hb => (.strip rfl hb (.strip rfl hb .nil))) (fun hb => o_int rfl rfl rfl)) <| .cons (o_or rfl rfl) <| .nil _) (by kernel_rfl) (by kernel_rfl) ?_
  refine a_cond _ rfl (fun h1 => ?_) (fun h1 => ?_)
  · replace hM := (of_if hM).1 h1
    refine a_seq ?_
    refine a_region (.cons (o_build rfl rfl rfl) <| .cons (o_store rfl rfl rfl rfl rfl rfl rfl) <| .nil _) (by kernel_rfl) (by kernel_rfl) ?_
    obtain rfl := Option.some.inj hM
    refine a_imp (σ' := ⟨[(4, .ref 4 0)], [(4, some (.blk 137 [.nils, .nils, .bool false, .int .u64 0])), (100000, some (.blk 134 [.row 100001])), (100001, some (.row 137 4 (List.map collect_part.dv o0.gparts)))], [4, 100000, 100001]⟩) (Imp.of (fun i => i) (.cons rfl (DLe.refl _) .nil) (.cons rfl (.refl _) (.cons rfl (.refl _) (.cons rfl (.refl _) .nil))) rfl rfl rfl) ?_
    exact a_ret (a_post (.r1 (.cell rfl rfl (.row _ CRow.h (Nat.le_of_ble_eq_true rfl) rfl))) (DLe.agg (.cons (DLe.nils _) (.cons (DLe.nils _) (.cons (DLe.refl _) (.cons (DLe.refl _) .nil))))) (PostOk.spec (.cons rfl (.cons rfl .nil))))
  · replace hM := (of_if hM).2 h1
    refine a_skip ?_
    refine a_seq ?_
    obtain ⟨v3, h2, hM⟩ := of_bind hM
    refine a_region (.cons (o_move rfl) <| .cons (o_nilCheck rfl) <| .cons (o_fieldAddr rfl) <| .cons (o_load_s rfl rfl rfl) <| .cons (o_move rfl) <| .cons (t_index_r h2 rfl rfl rfl) <| .cons (t_load_pr h2 rfl rfl rfl rfl rfl) <| .cons (o_store rfl rfl rfl rfl rfl rfl rfl) <| .nil _) (by kernel_rfl) (by kernel_rfl) ?_
    obtain rfl := Option.some.inj hM
    refine a_imp (σ' := ⟨[(4, .ref 4 0)], [(4, some (.blk 137 (collect_part.cs v3))), (100000, some (.blk 134 [.row 100001])), (100001, some (.row 137 4 (List.map collect_part.dv o0.gparts)))], [4, 100000, 100001]⟩) (Imp.of (fun i => i) (.cons rfl (DLe.refl _) .nil) (.cons rfl (.refl _) (.cons rfl (.refl _) (.cons rfl (.refl _) .nil))) rfl rfl rfl) ?_
    exact a_ret (a_post (.r1 (.cell rfl rfl (.row _ CRow.h (Nat.le_of_ble_eq_true rfl) rfl))) (DLe.refl _) (PostOk.spec (.cons rfl (.cons rfl .nil))))

def collect_Collector_Missing_a (x1 : Int) (o0 : collect_Collector) : Option (List (Nat → Int)) :=
  (collect_Collector_part_a x1 o0).bind fun v2 =>
  (collect_part_missing v2).bind fun v4 =>
  (collect_pairs v4).bind fun v6 =>
  some v6
theorem collect_Collector_Missing_a_c {x1 : Int} {o0 : collect_Collector} {r : (List (Nat → Int))} (hM : collect_Collector_Missing_a x1 o0 = some r) : ACall Tryz.prog 31 ⟨[.ref 100000 0, .int .i64 x1], [(100000, some (.blk 134 [.row 100001])), (100001, some (.row 137 4 (List.map collect_part.dv o0.gparts)))], .sl 2 (List.map array_2_uint64.dv r), [(100000, some (.blk 134 [.row 100001])), (100001, some (.row 137 4 (List.map collect_part.dv o0.gparts)))], []⟩ := by
  unfold collect_Collector_Missing_a at hM
  refine ACall.body Tryz.func31 Tryz.ntmps31 rfl rfl rfl rfl ?_
  refine a_seq ?_
  refine a_region (.cons (o_assign rfl) <| .nil _) (by kernel_rfl) (by kernel_rfl) ?_
  refine a_seq ?_
  obtain ⟨v2, h1, hM⟩ := of_bind hM
  obtain ⟨v4, h3, hM⟩ := of_bind hM
  obtain ⟨v6, h5, hM⟩ := of_bind hM
  refine a_region (.cons (o_move rfl) <| .cons (o_move rfl) <| .cons (o_callN (fun i => bif Nat.beq i 100000 then 100000 else bif Nat.beq i 100001 then 100001 else i) 0 (collect_Collector_part_a_c h1) rfl (DLeL.refl _) (.cons rfl (.cons rfl .nil)) rfl (.cons rfl (.cons rfl .nil))) <| .cons (o_call (collect_part_missing_c h3) rfl (DLeL.refl _) rfl) <| .cons (o_call (collect_pairs_c h5) rfl (DLeL.refl _) rfl) <| .cons (o_assign rfl) <| .nil _) (by kernel_rfl) (by kernel_rfl) ?_
  obtain rfl := Option.some.inj hM
  refine a_imp (σ' := ⟨[(4, .sl 2 (List.map array_2_uint64.dv v6))], [(100000, some (.blk 134 [.row 100001])), (100001, some (.row 137 4 (List.map collect_part.dv o0.gparts)))], [100000, 100001]⟩) (Imp.of (fun i => i) (.cons rfl (DLe.refl _) .nil) (.cons rfl (.refl _) (.cons rfl (.refl _) .nil)) rfl rfl rfl) ?_
  exact a_ret (a_post (.r1 (.tmp rfl)) (DLe.refl _) (PostOk.spec (.cons rfl (.cons rfl .nil))))

def rootcauselaw30_sameRuns_K2 : Option Bool :=
  some true
def rootcauselaw30_sameRuns_L4 (x0 : List (Nat → Int)) (x1 : List (Nat → Int)) (k3 : Nat) : Option (Ctl Unit Bool) :=
  (idx x0 (k3 : Int)).bind fun v8 =>
  (idx x1 (k3 : Int)).bind fun v10 =>
  if (!(((v8 0) == (v10 0)) && (((v8 1) == (v10 1)) && true))) = true then
    some (.done false)
  else
    some (.next ())
def rootcauselaw30_sameRuns (x0 : List (Nat → Int)) (x1 : List (Nat → Int)) : Option Bool :=
  if ((List.length x0 : Int) != (List.length x1 : Int)) = true then
    some false
  else
    (forM' (E := Bool) 9223372036854775807 (List.length x0 : Int) (fun k3 s => rootcauselaw30_sameRuns_L4 x0 x1 k3) ()).bind fun
      | .next s => rootcauselaw30_sameRuns_K2
      | .done r => some r
theorem rootcauselaw30_sameRuns_c {x0 : List (Nat → Int)} {x1 : List (Nat → Int)} {r : Bool} (hM : rootcauselaw30_sameRuns x0 x1 = some r) : PCall Tryz.prog 56 [.sl 2 (List.map array_2_uint64.dv x0), .sl 2 (List.map array_2_uint64.dv x1)] (.bool r) := by
  unfold rootcauselaw30_sameRuns at hM
  refine PCall.body Tryz.func56 Tryz.ntmps56 rfl rfl rfl rfl ?_
  refine a_seq ?_
  refine a_region (.cons (o_assign rfl) <| .nil _) (by kernel_rfl) (by kernel_rfl) ?_
  refine a_seq ?_
  refine a_seq ?_
  refine a_region (.cons (o_move rfl) <| .cons (t_len rfl) <| .cons (o_move rfl) <| .cons (t_len rfl) <| .cons (o_int rfl rfl rfl) <| .nil _) (by kernel_rfl) (by kernel_rfl) ?_
  refine a_cond _ rfl (fun h1 => ?_) (fun h1 => ?_)
  · replace hM := (of_if hM).1 h1
    refine a_seq ?_
    refine a_region (.cons (o_assign rfl) <| .nil _) (by kernel_rfl) (by kernel_rfl) ?_
    obtain rfl := Option.some.inj hM
    exact a_ret (a_post (.r1 (.tmp rfl)) (DLe.refl _) PostOk.nil.spec)
  · replace hM := (of_if hM).2 h1
    refine a_skip ?_
    refine a_cut (α := Unit) (fun s => ⟨[], [], []⟩) (fun s => rootcauselaw30_sameRuns_K2 = some r) ?_ ?_
    · refine a_seq ?_
      refine a_region (.cons (o_move rfl) <| .cons (t_len rfl) <| .cons (o_move rfl) <| .nil _) (by kernel_rfl) (by kernel_rfl) ?_
      obtain ⟨t4, hL4, hK4⟩ := of_bind hM
      refine a_block ?_
      refine a_for (fun k3 (s : Unit) => ⟨[(0, .sl 2 (List.map array_2_uint64.dv x0)), (1, .sl 2 (List.map array_2_uint64.dv x1)), (12, .int .i64 (List.length x0 : Int)), (13, .int .i64 (k3 : Int))], [], []⟩) _ hL4 (Imp.of (fun i => i) (.cons rfl (DLe.refl _) (.cons rfl (DLe.refl _) (.cons rfl (DLe.refl _) (.cons rfl (DLe.refl _) .nil)))) .nil rfl rfl rfl) ?_ ?_
      · rintro k3 _ t5 hk3 hx3 hM hE4
        replace hM : rootcauselaw30_sameRuns_L4 x0 x1 k3 = some t5 := hM
        unfold rootcauselaw30_sameRuns_L4 at hM
        refine a_seq ?_
        refine a_region (.cons (o_int rfl rfl rfl) <| .nil _) (by kernel_rfl) (by kernel_rfl) ?_
        refine a_seq ?_
        refine a_cond _ rfl (fun _ => ?_) (fun c => absurd hk3 (of_decide_eq_false c))
        refine a_skip ?_
        refine a_seq ?_
        refine a_block ?_
        refine a_seq ?_
        refine a_region (.cons (o_move rfl) <| .cons (o_assign rfl) <| .nil _) (by kernel_rfl) (by kernel_rfl) ?_
        refine a_seq ?_
        obtain ⟨v8, h7, hM⟩ := of_bind hM
        obtain ⟨v10, h9, hM⟩ := of_bind hM
        refine a_draw mixed (.cons (o_move rfl) <| .cons (o_move rfl) <| .cons (t_index h7 rfl rfl rfl) <| .cons (o_load_er rfl rfl rfl) <| .cons (o_move rfl) <| .cons (o_move rfl) <| .cons (t_index h9 rfl rfl rfl) <| .cons (o_load_er rfl rfl rfl) <| .cons (o_neS (b := (((v8 0) == (v10 0)) && (((v8 1) == (v10 1)) && true))) rfl rfl rfl rfl rfl) <| .nil _) (by kernel_rfl) (by kernel_rfl) (by kernel_rfl) ?_
        refine a_cond _ rfl (fun h11 => ?_) (fun h11 => ?_)
        · replace hM := (of_if hM).1 h11
          refine a_seq ?_
          refine a_region (.cons (o_assign rfl) <| .nil _) (by kernel_rfl) (by kernel_rfl) ?_
          obtain rfl := Option.some.inj hM
          obtain rfl := hE4 _ rfl
          obtain rfl := Option.some.inj hK4
          exact a_ret (a_post (.r1 (.tmp rfl)) (DLe.refl _) PostOk.nil.spec)
        · replace hM := (of_if hM).2 h11
          refine a_skip ?_
          refine a_region (.cons (o_add rfl rfl (inR_i64 hk3 hx3)) <| .cons (o_move rfl) <| .nil _) (by kernel_rfl) (by kernel_rfl) ?_
          obtain rfl := Option.some.inj hM
          exact ⟨(), rfl, (Imp.of (fun i => i) (.cons rfl (DLe.refl _) (.cons rfl (DLe.refl _) (.cons rfl (DLe.refl _) (.cons rfl (DLe.succ _ _) .nil)))) .nil rfl rfl rfl)⟩
      · rintro k3 _ hk3 hx3 rfl
        refine a_seq ?_
        refine a_region (.cons (o_int rfl rfl rfl) <| .nil _) (by kernel_rfl) (by kernel_rfl) ?_
        refine a_seq ?_
        refine a_cond _ rfl (fun c => absurd (of_decide_eq_true c) (Int.not_lt.2 hk3)) (fun _ => ?_)
        refine a_exit ?_
        exact ⟨(), hK4, (Imp.of (fun i => i) .nil .nil rfl rfl rfl)⟩
    · rintro _ hM
      replace hM : rootcauselaw30_sameRuns_K2 = some r := hM
      unfold rootcauselaw30_sameRuns_K2 at hM
      refine a_seq ?_
      refine a_region (.cons (o_assign rfl) <| .nil _) (by kernel_rfl) (by kernel_rfl) ?_
      obtain rfl := Option.some.inj hM
      exact a_ret (a_post (.r1 (.tmp rfl)) (DLe.refl _) PostOk.nil.spec)

def collect_Collector_Lost_a (x1 : Int) (o0 : collect_Collector) : Option (List (Nat → Int)) :=
  (collect_Collector_part_a x1 o0).bind fun v2 =>
  (collect_pairs v2.glost).bind fun v4 =>
  some v4
theorem collect_Collector_Lost_a_c {x1 : Int} {o0 : collect_Collector} {r : (List (Nat → Int))} (hM : collect_Collector_Lost_a x1 o0 = some r) : ACall Tryz.prog 42 ⟨[.ref 100000 0, .int .i64 x1], [(100000, some (.blk 134 [.row 100001])), (100001, some (.row 137 4 (List.map collect_part.dv o0.gparts)))], .sl 2 (List.map array_2_uint64.dv r), [(100000, some (.blk 134 [.row 100001])), (100001, some (.row 137 4 (List.map collect_part.dv o0.gparts)))], []⟩ := by
  unfold collect_Collector_Lost_a at hM
  refine ACall.body Tryz.func42 Tryz.ntmps42 rfl rfl rfl rfl ?_
  refine a_seq ?_
  refine a_region (.cons (o_assign rfl) <| .nil _) (by kernel_rfl) (by kernel_rfl) ?_
  refine a_seq ?_
  obtain ⟨v2, h1, hM⟩ := of_bind hM
  obtain ⟨v4, h3, hM⟩ := of_bind hM
  refine a_region (.cons (o_move rfl) <| .cons (o_move rfl) <| .cons (o_callN (fun i => bif Nat.beq i 100000 then 100000 else bif Nat.beq i 100001 then 100001 else i) 0 (collect_Collector_part_a_c h1) rfl (DLeL.refl _) (.cons rfl (.cons rfl .nil)) rfl (.cons rfl (.cons rfl .nil))) <| .cons (o_field_s rfl rfl) <| .cons (o_call (collect_pairs_c h3) rfl (DLeL.refl _) rfl) <| .cons (o_assign rfl) <| .nil _) (by kernel_rfl) (by kernel_rfl) ?_
  obtain rfl := Option.some.inj hM
  refine a_imp (σ' := ⟨[(4, .sl 2 (List.map array_2_uint64.dv v4))], [(100000, some (.blk 134 [.row 100001])), (100001, some (.row 137 4 (List.map collect_part.dv o0.gparts)))], [100000, 100001]⟩) (Imp.of (fun i => i) (.cons rfl (DLe.refl _) .nil) (.cons rfl (.refl _) (.cons rfl (.refl _) .nil)) rfl rfl rfl) ?_
  exact a_ret (a_post (.r1 (.tmp rfl)) (DLe.refl _) (PostOk.spec (.cons rfl (.cons rfl .nil))))

def collect_Collector_Records_a (x1 : Int) (o0 : collect_Collector) : Option (List record_Record) :=
  (collect_Collector_part_a x1 o0).bind fun v2 =>
  (collect_cloneAll v2.gentries).bind fun v4 =>
  some v4
theorem collect_Collector_Records_a_c {x1 : Int} {o0 : collect_Collector} {r : (List record_Record)} (hM : collect_Collector_Records_a x1 o0 = some r) : ACall Tryz.prog 28 ⟨[.ref 100000 0, .int .i64 x1], [(100000, some (.blk 134 [.row 100001])), (100001, some (.row 137 4 (List.map collect_part.dv o0.gparts)))], .sl 29 (List.map record_Record.dv r), [(100000, some (.blk 134 [.row 100001])), (100001, some (.row 137 4 (List.map collect_part.dv o0.gparts)))], []⟩ := by
  unfold collect_Collector_Records_a at hM
  refine ACall.body Tryz.func28 Tryz.ntmps28 rfl rfl rfl rfl ?_
  refine a_seq ?_
  refine a_region (.cons (o_assign rfl) <| .nil _) (by kernel_rfl) (by kernel_rfl) ?_
  refine a_seq ?_
  obtain ⟨v2, h1, hM⟩ := of_bind hM
  obtain ⟨v4, h3, hM⟩ := of_bind hM
  refine a_region (.cons (o_move rfl) <| .cons (o_move rfl) <| .cons (o_callN (fun i => bif Nat.beq i 100000 then 100000 else bif Nat.beq i 100001 then 100001 else i) 0 (collect_Collector_part_a_c h1) rfl (DLeL.refl _) (.cons rfl (.cons rfl .nil)) rfl (.cons rfl (.cons rfl .nil))) <| .cons (o_field_s rfl rfl) <| .cons (o_call (collect_cloneAll_c h3) rfl (DLeL.refl _) rfl) <| .cons (o_assign rfl) <| .nil _) (by kernel_rfl) (by kernel_rfl) ?_
  obtain rfl := Option.some.inj hM
  refine a_imp (σ' := ⟨[(4, .sl 29 (List.map record_Record.dv v4))], [(100000, some (.blk 134 [.row 100001])), (100001, some (.row 137 4 (List.map collect_part.dv o0.gparts)))], [100000, 100001]⟩) (Imp.of (fun i => i) (.cons rfl (DLe.refl _) .nil) (.cons rfl (.refl _) (.cons rfl (.refl _) .nil)) rfl rfl rfl) ?_
  exact a_ret (a_post (.r1 (.tmp rfl)) (DLe.refl _) (PostOk.spec (.cons rfl (.cons rfl .nil))))

def collect_Collector_Complete_a_K2 : Option Bool :=
  some true
def collect_Collector_Complete_a_L4 (o0 : collect_Collector) (k3 : Nat) : Option (Ctl Unit Bool) :=
  (idx o0.gparts (k3 : Int)).bind fun v8 =>
  (gb (!(!v8.gknown)) ([]) (collect_part_missing v8)).bind fun v10 =>
  if ((!v8.gknown) || (decide (0 < (List.length v10 : Int)))) = true then
    some (.done false)
  else
    some (.next ())
def collect_Collector_Complete_a (o0 : collect_Collector) : Option Bool :=
  if ((List.length o0.gparts : Int) == 0) = true then
    some false
  else
    (forM' (E := Bool) 9223372036854775807 (List.length o0.gparts : Int) (fun k3 s => collect_Collector_Complete_a_L4 o0 k3) ()).bind fun
      | .next s => collect_Collector_Complete_a_K2
      | .done r => some r
theorem collect_Collector_Complete_a_c {o0 : collect_Collector} {r : Bool} (hM : collect_Collector_Complete_a o0 = some r) : ACall Tryz.prog 41 ⟨[.ref 100000 0], [(100000, some (.blk 134 [.row 100001])), (100001, some (.row 137 4 (List.map collect_part.dv o0.gparts)))], .bool r, [(100000, some (.blk 134 [.row 100001])), (100001, some (.row 137 4 (List.map collect_part.dv o0.gparts)))], []⟩ := by
  unfold collect_Collector_Complete_a at hM
  refine ACall.body Tryz.func41 Tryz.ntmps41 rfl rfl rfl rfl ?_
  refine a_seq ?_
  refine a_region (.cons (o_assign rfl) <| .nil _) (by kernel_rfl) (by kernel_rfl) ?_
  refine a_seq ?_
  refine a_seq ?_
  refine a_region (.cons (o_move rfl) <| .cons (o_ptr_eq rfl) <| .cons (o_move rfl) <| .cons (o_guardOn .bF rfl rfl rfl (.keep .nil) (o_move rfl)) <| .cons (o_guardOn .bF rfl rfl rfl (.strip rfl rfl .nil) (o_nilCheck rfl)) <| .cons (o_guardOn .bF rfl rfl rfl (.strip rfl rfl .nil) (o_fieldAddr rfl)) <| .cons (o_guardOn .bF rfl rfl rfl (.strip rfl rfl .nil) (o_load_s rfl rfl rfl)) <| .cons (o_guardOn .bF rfl rfl rfl (.strip rfl rfl .nil) (t_len_r rfl rfl)) <| .cons (o_guardOn .bF rfl rfl rfl (.strip rfl rfl .nil) (o_int rfl rfl rfl)) <| .cons (o_or rfl rfl) <| .nil _) (by kernel_rfl) (by kernel_rfl) ?_
  refine a_cond _ rfl (fun h1 => ?_) (fun h1 => ?_)
  · replace hM := (of_if hM).1 h1
    refine a_seq ?_
    refine a_region (.cons (o_assign rfl) <| .nil _) (by kernel_rfl) (by kernel_rfl) ?_
    obtain rfl := Option.some.inj hM
    refine a_imp (σ' := ⟨[(2, .bool false)], [(100000, some (.blk 134 [.row 100001])), (100001, some (.row 137 4 (List.map collect_part.dv o0.gparts)))], [100000, 100001]⟩) (Imp.of (fun i => i) (.cons rfl (DLe.refl _) .nil) (.cons rfl (.refl _) (.cons rfl (.refl _) .nil)) rfl rfl rfl) ?_
    exact a_ret (a_post (.r1 (.tmp rfl)) (DLe.refl _) (PostOk.spec (.cons rfl (.cons rfl .nil))))
  · replace hM := (of_if hM).2 h1
    refine a_skip ?_
    refine a_cut (α := Unit) (fun s => ⟨[], [(100000, some (.blk 134 [.row 100001])), (100001, some (.row 137 4 (List.map collect_part.dv o0.gparts)))], [100000, 100001]⟩) (fun s => collect_Collector_Complete_a_K2 = some r) ?_ ?_
    · refine a_seq ?_
      refine a_region (.cons (o_move rfl) <| .cons (o_nilCheck rfl) <| .cons (o_fieldAddr rfl) <| .cons (o_load_s rfl rfl rfl) <| .cons (t_len_r rfl rfl) <| .cons (o_move rfl) <| .nil _) (by kernel_rfl) (by kernel_rfl) ?_
      obtain ⟨t4, hL4, hK4⟩ := of_bind hM
      refine a_block ?_
      refine a_for (fun k3 (s : Unit) => ⟨[(18, .row 100001), (19, .int .i64 (List.length o0.gparts : Int)), (20, .int .i64 (k3 : Int))], [(100000, some (.blk 134 [.row 100001])), (100001, some (.row 137 4 (List.map collect_part.dv o0.gparts)))], [100000, 100001]⟩) _ hL4 (Imp.of (fun i => i) (.cons rfl (DLe.refl _) (.cons rfl (DLe.refl _) (.cons rfl (DLe.refl _) .nil))) (.cons rfl (.refl _) (.cons rfl (.refl _) .nil)) rfl rfl rfl) ?_ ?_
      · rintro k3 _ t5 hk3 hx3 hM hE4
        replace hM : collect_Collector_Complete_a_L4 o0 k3 = some t5 := hM
        unfold collect_Collector_Complete_a_L4 at hM
        refine a_seq ?_
        refine a_region (.cons (o_int rfl rfl rfl) <| .nil _) (by kernel_rfl) (by kernel_rfl) ?_
        refine a_seq ?_
        refine a_cond _ rfl (fun _ => ?_) (fun c => absurd hk3 (of_decide_eq_false c))
        refine a_skip ?_
        refine a_seq ?_
        refine a_block ?_
        refine a_seq ?_
        obtain ⟨v8, h7, hM⟩ := of_bind hM
        refine a_region (.cons (t_index_r h7 rfl rfl rfl) <| .cons (t_load_pr h7 rfl rfl rfl rfl rfl) <| .cons (o_alloc rfl) <| .cons (o_store rfl rfl rfl rfl rfl rfl rfl) <| .nil _) (by kernel_rfl) (by kernel_rfl) ?_
        refine a_seq ?_
        obtain ⟨v10, h9, hM⟩ := of_bind hM
        refine a_region (.cons (o_fieldAddr rfl) <| .cons (o_load_s rfl rfl rfl) <| .cons (o_not rfl) <| .cons (o_move rfl) <| .cons (o_guardG .bF rfl rfl (fun hb => (.keep .nil)) (fun hb => o_load_r rfl rfl rfl rfl)) <| .cons (o_guardG .bF rfl rfl (fun hb => (.strip rfl hb .nil)) (fun hb => o_call (collect_part_missing_c (of_gb h9 hb)) rfl (DLeL.refl _) rfl)) <| .cons (o_guardG .bF rfl rfl (fun hb => (.strip rfl hb .nil)) (fun hb => t_len rfl)) <| .cons (o_guardG .bF rfl rfl (fun hb => (.strip rfl hb .nil)) (fun hb => o_int rfl rfl rfl)) <| .cons (o_or rfl rfl) <| .nil _) (by kernel_rfl) (by kernel_rfl) ?_
        refine a_cond _ rfl (fun h11 => ?_) (fun h11 => ?_)
        · replace hM := (of_if hM).1 h11
          refine a_seq ?_
          refine a_region (.cons (o_assign rfl) <| .nil _) (by kernel_rfl) (by kernel_rfl) ?_
          obtain rfl := Option.some.inj hM
          obtain rfl := hE4 _ rfl
          obtain rfl := Option.some.inj hK4
          refine a_imp (σ' := ⟨[(2, .bool false)], [(100000, some (.blk 134 [.row 100001])), (100001, some (.row 137 4 (List.map collect_part.dv o0.gparts)))], [100000, 100001]⟩) (Imp.of (fun i => i) (.cons rfl (DLe.refl _) .nil) (.cons rfl (.refl _) (.cons rfl (.refl _) .nil)) rfl rfl rfl) ?_
          exact a_ret (a_post (.r1 (.tmp rfl)) (DLe.refl _) (PostOk.spec (.cons rfl (.cons rfl .nil))))
        · replace hM := (of_if hM).2 h11
          refine a_skip ?_
          refine a_region (.cons (o_add rfl rfl (inR_i64 hk3 hx3)) <| .cons (o_move rfl) <| .nil _) (by kernel_rfl) (by kernel_rfl) ?_
          obtain rfl := Option.some.inj hM
          exact ⟨(), rfl, (Imp.of (fun i => i) (.cons rfl (DLe.refl _) (.cons rfl (DLe.refl _) (.cons rfl (DLe.succ _ _) .nil))) (.cons rfl (.refl _) (.cons rfl (.refl _) .nil)) rfl rfl rfl)⟩
      · rintro k3 _ hk3 hx3 rfl
        refine a_seq ?_
        refine a_region (.cons (o_int rfl rfl rfl) <| .nil _) (by kernel_rfl) (by kernel_rfl) ?_
        refine a_seq ?_
        refine a_cond _ rfl (fun c => absurd (of_decide_eq_true c) (Int.not_lt.2 hk3)) (fun _ => ?_)
        refine a_exit ?_
        exact ⟨(), hK4, (Imp.of (fun i => i) .nil (.cons rfl (.refl _) (.cons rfl (.refl _) .nil)) rfl rfl rfl)⟩
    · rintro _ hM
      replace hM : collect_Collector_Complete_a_K2 = some r := hM
      unfold collect_Collector_Complete_a_K2 at hM
      refine a_seq ?_
      refine a_region (.cons (o_assign rfl) <| .nil _) (by kernel_rfl) (by kernel_rfl) ?_
      obtain rfl := Option.some.inj hM
      refine a_imp (σ' := ⟨[(2, .bool true)], [(100000, some (.blk 134 [.row 100001])), (100001, some (.row 137 4 (List.map collect_part.dv o0.gparts)))], [100000, 100001]⟩) (Imp.of (fun i => i) (.cons rfl (DLe.refl _) .nil) (.cons rfl (.refl _) (.cons rfl (.refl _) .nil)) rfl rfl rfl) ?_
      exact a_ret (a_post (.r1 (.tmp rfl)) (DLe.refl _) (PostOk.spec (.cons rfl (.cons rfl .nil))))

def rootcauselaw30_awake : Option Bool :=
  (collect_New 1).bind fun v2 =>
  match v2 with
  | .inl v2_0 =>
    (rootcauselaw30_File_bytes (rootcauselaw30_File.mk 0 [(rootcauselaw30_Raw.mk 0 0 0 0), (rootcauselaw30_Raw.mk 0 1 0 0), (rootcauselaw30_Raw.mk 0 4 0 0), (rootcauselaw30_Raw.mk 2 2 0 1)]) 1).bind fun v4 =>
    (rootcauselaw30_File_bytes (rootcauselaw30_File.mk 0 [(rootcauselaw30_Raw.mk 0 2 0 0), (rootcauselaw30_Raw.mk 0 3 0 0), (rootcauselaw30_Raw.mk 3 5 0 0)]) 1).bind fun v6 =>
    (collect_Collector_Add_a 0 v4.2.1 v2_0).bind fun v8 =>
    (gb (!(v8.1 != 0)) (([] : List (Nat → Int))) (collect_Collector_Missing_a 0 v8.2)).bind fun v10 =>
    if (!(v8.1 != 0)) = true then
      (rootcauselaw30_sameRuns v10 [(arr 0 [2, 2])]).bind fun v12 =>
      (gb (!((v8.1 != 0) || (!v12))) (([] : List (Nat → Int))) (collect_Collector_Lost_a 0 v8.2)).bind fun v14 =>
      if (!((v8.1 != 0) || (!v12))) = true then
        (rootcauselaw30_sameRuns v14 [(arr 0 [2, 2])]).bind fun v16 =>
        if (((v8.1 != 0) || (!v12)) || (!v16)) = true then
          some false
        else
          (collect_Collector_Add_a 0 v6.2.1 v8.2).bind fun v19 =>
          (gb (v19.1 == 0) (([] : List (Nat → Int))) (collect_Collector_Missing_a 0 v19.2)).bind fun v21 =>
          (gb ((v19.1 == 0) && ((List.length v21 : Int) == 0)) (([] : List (Nat → Int))) (collect_Collector_Lost_a 0 v19.2)).bind fun v23 =>
          (gb (((v19.1 == 0) && ((List.length v21 : Int) == 0)) && ((List.length v23 : Int) == 0)) (([] : List record_Record)) (collect_Collector_Records_a 0 v19.2)).bind fun v25 =>
          (gb ((((v19.1 == 0) && ((List.length v21 : Int) == 0)) && ((List.length v23 : Int) == 0)) && ((List.length v25 : Int) == 5)) (false) (collect_Collector_Complete_a v19.2)).bind fun v27 =>
          some (((((v19.1 == 0) && ((List.length v21 : Int) == 0)) && ((List.length v23 : Int) == 0)) && ((List.length v25 : Int) == 5)) && (!v27))
      else
        if (((v8.1 != 0) || (!v12)) || false) = true then
          some false
        else
          (collect_Collector_Add_a 0 v6.2.1 v8.2).bind fun v17 =>
          (gb (v17.1 == 0) (([] : List (Nat → Int))) (collect_Collector_Missing_a 0 v17.2)).bind fun v19 =>
          (gb ((v17.1 == 0) && ((List.length v19 : Int) == 0)) (([] : List (Nat → Int))) (collect_Collector_Lost_a 0 v17.2)).bind fun v21 =>
          (gb (((v17.1 == 0) && ((List.length v19 : Int) == 0)) && ((List.length v21 : Int) == 0)) (([] : List record_Record)) (collect_Collector_Records_a 0 v17.2)).bind fun v23 =>
          (gb ((((v17.1 == 0) && ((List.length v19 : Int) == 0)) && ((List.length v21 : Int) == 0)) && ((List.length v23 : Int) == 5)) (false) (collect_Collector_Complete_a v17.2)).bind fun v25 =>
          some (((((v17.1 == 0) && ((List.length v19 : Int) == 0)) && ((List.length v21 : Int) == 0)) && ((List.length v23 : Int) == 5)) && (!v25))
    else
      (gb (!((v8.1 != 0) || false)) (([] : List (Nat → Int))) (collect_Collector_Lost_a 0 v8.2)).bind fun v12 =>
      if (!((v8.1 != 0) || false)) = true then
        (rootcauselaw30_sameRuns v12 [(arr 0 [2, 2])]).bind fun v14 =>
        if (((v8.1 != 0) || false) || (!v14)) = true then
          some false
        else
          (collect_Collector_Add_a 0 v6.2.1 v8.2).bind fun v17 =>
          (gb (v17.1 == 0) (([] : List (Nat → Int))) (collect_Collector_Missing_a 0 v17.2)).bind fun v19 =>
          (gb ((v17.1 == 0) && ((List.length v19 : Int) == 0)) (([] : List (Nat → Int))) (collect_Collector_Lost_a 0 v17.2)).bind fun v21 =>
          (gb (((v17.1 == 0) && ((List.length v19 : Int) == 0)) && ((List.length v21 : Int) == 0)) (([] : List record_Record)) (collect_Collector_Records_a 0 v17.2)).bind fun v23 =>
          (gb ((((v17.1 == 0) && ((List.length v19 : Int) == 0)) && ((List.length v21 : Int) == 0)) && ((List.length v23 : Int) == 5)) (false) (collect_Collector_Complete_a v17.2)).bind fun v25 =>
          some (((((v17.1 == 0) && ((List.length v19 : Int) == 0)) && ((List.length v21 : Int) == 0)) && ((List.length v23 : Int) == 5)) && (!v25))
      else
        if (((v8.1 != 0) || false) || false) = true then
          some false
        else
          (collect_Collector_Add_a 0 v6.2.1 v8.2).bind fun v15 =>
          (gb (v15.1 == 0) (([] : List (Nat → Int))) (collect_Collector_Missing_a 0 v15.2)).bind fun v17 =>
          (gb ((v15.1 == 0) && ((List.length v17 : Int) == 0)) (([] : List (Nat → Int))) (collect_Collector_Lost_a 0 v15.2)).bind fun v19 =>
          (gb (((v15.1 == 0) && ((List.length v17 : Int) == 0)) && ((List.length v19 : Int) == 0)) (([] : List record_Record)) (collect_Collector_Records_a 0 v15.2)).bind fun v21 =>
          (gb ((((v15.1 == 0) && ((List.length v17 : Int) == 0)) && ((List.length v19 : Int) == 0)) && ((List.length v21 : Int) == 5)) (false) (collect_Collector_Complete_a v15.2)).bind fun v23 =>
          some (((((v15.1 == 0) && ((List.length v17 : Int) == 0)) && ((List.length v19 : Int) == 0)) && ((List.length v21 : Int) == 5)) && (!v23))
  | .inr v2_1 =>
    (rootcauselaw30_File_bytes (rootcauselaw30_File.mk 0 [(rootcauselaw30_Raw.mk 0 0 0 0), (rootcauselaw30_Raw.mk 0 1 0 0), (rootcauselaw30_Raw.mk 0 4 0 0), (rootcauselaw30_Raw.mk 2 2 0 1)]) 1).bind fun v4 =>
    (rootcauselaw30_File_bytes (rootcauselaw30_File.mk 0 [(rootcauselaw30_Raw.mk 0 2 0 0), (rootcauselaw30_Raw.mk 0 3 0 0), (rootcauselaw30_Raw.mk 3 5 0 0)]) 1).bind fun v6 =>
    some false
theorem rootcauselaw30_awake_c {r : Bool} (hM : rootcauselaw30_awake = some r) : PCall Tryz.prog 15 [] (.bool r) := by
  unfold rootcauselaw30_awake at hM
  refine PCall.body Tryz.func15 Tryz.ntmps15 rfl rfl rfl rfl ?_
  refine a_seq ?_
  refine a_region (.cons (o_assign rfl) <| .nil _) (by kernel_rfl) (by kernel_rfl) ?_
  refine a_seq ?_
  obtain ⟨v2, h1, hM⟩ := of_bind hM
  rcases v2 with v2_0 | v2_1
  · refine a_region (.cons (o_callN (fun i => bif Nat.beq i 50001 then 10002 else bif Nat.beq i 50000 then 10001 else i) 2 (collect_New_c0 h1) rfl (DLeL.refl _) .nil rfl .nil) <| .cons (o_move rfl) <| .cons (o_extract rfl rfl) <| .cons (o_extract rfl rfl) <| .cons (o_assign rfl) <| .cons (o_assign rfl) <| .nil _) (by kernel_rfl) (by kernel_rfl) ?_
    refine a_seq ?_
    obtain ⟨v4, h3, hM⟩ := of_bind hM
    refine a_region (.cons (o_build rfl rfl rfl) <| .cons (o_build rfl rfl rfl) <| .cons (o_build rfl rfl rfl) <| .cons (o_build rfl rfl rfl) <| .cons (o_frz (t_build rootcauselaw30_Raw.dv ([(rootcauselaw30_Raw.mk 0 0 0 0), (rootcauselaw30_Raw.mk 0 1 0 0), (rootcauselaw30_Raw.mk 0 4 0 0), (rootcauselaw30_Raw.mk 2 2 0 1)] : List rootcauselaw30_Raw) rfl rfl rfl rfl rfl rfl rfl)) <| .cons (o_build rfl rfl rfl) <| .cons (o_call (rootcauselaw30_File_bytes_c h3) rfl (DLeL.refl _) rfl) <| .cons (o_move rfl) <| .cons (o_extract rfl rfl) <| .cons (o_extract rfl rfl) <| .cons (o_extract rfl rfl) <| .cons (o_assign rfl) <| .cons (o_assign rfl) <| .cons (o_assign rfl) <| .nil _) (by kernel_rfl) (by kernel_rfl) ?_
    refine a_seq ?_
    obtain ⟨v6, h5, hM⟩ := of_bind hM
    refine a_region (.cons (o_build rfl rfl rfl) <| .cons (o_build rfl rfl rfl) <| .cons (o_build rfl rfl rfl) <| .cons (o_frz (t_build rootcauselaw30_Raw.dv ([(rootcauselaw30_Raw.mk 0 2 0 0), (rootcauselaw30_Raw.mk 0 3 0 0), (rootcauselaw30_Raw.mk 3 5 0 0)] : List rootcauselaw30_Raw) rfl rfl rfl rfl rfl rfl rfl)) <| .cons (o_build rfl rfl rfl) <| .cons (o_call (rootcauselaw30_File_bytes_c h5) rfl (DLeL.refl _) rfl) <| .cons (o_move rfl) <| .cons (o_extract rfl rfl) <| .cons (o_extract rfl rfl) <| .cons (o_extract rfl rfl) <| .cons (o_assign rfl) <| .cons (o_assign rfl) <| .cons (o_assign rfl) <| .nil _) (by kernel_rfl) (by kernel_rfl) ?_
    refine a_seq ?_
    refine a_seq ?_
    obtain ⟨v8, h7, hM⟩ := of_bind hM
    obtain ⟨v10, h9, hM⟩ := of_bind hM
    by_cases hd11 : (!(v8.1 != 0)) = true
    · replace hM := (of_if hM).1 hd11
      obtain ⟨v12, h11, hM⟩ := of_bind hM
      obtain ⟨v14, h13, hM⟩ := of_bind hM
      by_cases hd15 : (!((v8.1 != 0) || (!v12))) = true
      · replace hM := (of_if hM).1 hd15
        obtain ⟨v16, h15, hM⟩ := of_bind hM
        refine a_region (.cons (o_move rfl) <| .cons (o_int rfl rfl rfl) <| .cons (o_move rfl) <| .cons (o_guardOn .bF rfl rfl rfl (.keep .nil) (o_move rfl)) <| .cons (o_guardOn .bF rfl rfl rfl (.keep .nil) (o_move rfl)) <| .cons (o_guardOn .bF rfl rfl rfl (.strip rfl rfl (.strip rfl rfl .nil)) (o_callN (fun i => bif Nat.beq i 50000 then 10003 else bif Nat.beq i 100000 then 10001 else bif Nat.beq i 100001 then 10002 else i) 3 (collect_Collector_Add_a_c h7) rfl (DLeL.refl _) (.cons rfl (.cons rfl .nil)) rfl .nil)) <| .cons (o_guardOn .bF rfl rfl rfl (.strip rfl rfl .nil) (o_int rfl rfl rfl)) <| .cons (o_or rfl rfl) <| .cons (o_move rfl) <| .cons (o_guardG .bF rfl rfl (fun hb => (.keep .nil)) (fun hb => o_move rfl)) <| .cons (o_guardG .bF rfl rfl (fun hb => (.strip rfl hb .nil)) (fun hb => o_callN (fun i => bif Nat.beq i 100000 then 10001 else bif Nat.beq i 100001 then 10003 else i) 0 (collect_Collector_Missing_a_c (of_gb h9 hb)) rfl (DLeL.refl _) (.cons rfl (.cons rfl .nil)) rfl (.cons rfl (.cons rfl .nil)))) <| .cons (o_guardG .bF rfl rfl (fun hb => .nil) (fun hb => o_build rfl rfl rfl)) <| .cons (o_guardOn .bF rfl rfl hd11 (.strip rfl hd11 .nil) (o_frz (t_build array_2_uint64.dv ([(arr 0 [2, 2])] : List (Nat → Int)) rfl rfl rfl rfl rfl rfl rfl))) <| .cons (o_guardOn .bF rfl rfl hd11 (.strip rfl hd11 (.strip rfl hd11 .nil)) (o_call (rootcauselaw30_sameRuns_c h11) rfl (DLeL.refl _) rfl)) <| .cons (o_guardOn .bF rfl rfl hd11 (.strip rfl hd11 .nil) (o_not rfl)) <| .cons (o_or rfl rfl) <| .cons (o_move rfl) <| .cons (o_guardG .bF rfl rfl (fun hb => (.keep .nil)) (fun hb => o_move rfl)) <| .cons (o_guardG .bF rfl rfl (fun hb => (.strip rfl hb .nil)) (fun hb => o_callN (fun i => bif Nat.beq i 100000 then 10001 else bif Nat.beq i 100001 then 10003 else i) 0 (collect_Collector_Lost_a_c (of_gb h13 hb)) rfl (DLeL.refl _) (.cons rfl (.cons rfl .nil)) rfl (.cons rfl (.cons rfl .nil)))) <| .cons (o_guardG .bF rfl rfl (fun hb => .nil) (fun hb => o_build rfl rfl rfl)) <| .cons (o_guardOn .bF rfl rfl hd15 (.strip rfl hd15 .nil) (o_frz (t_build array_2_uint64.dv ([(arr 0 [2, 2])] : List (Nat → Int)) rfl rfl rfl rfl rfl rfl rfl))) <| .cons (o_guardOn .bF rfl rfl hd15 (.strip rfl hd15 (.strip rfl hd15 .nil)) (o_call (rootcauselaw30_sameRuns_c h15) rfl (DLeL.refl _) rfl)) <| .cons (o_guardOn .bF rfl rfl hd15 (.strip rfl hd15 .nil) (o_not rfl)) <| .cons (o_or rfl rfl) <| .nil _) (by kernel_rfl) (by kernel_rfl) ?_
        refine a_cond _ rfl (fun h17 => ?_) (fun h17 => ?_)
        · replace hM := (of_if hM).1 h17
          refine a_seq ?_
          refine a_region (.cons (o_assign rfl) <| .nil _) (by kernel_rfl) (by kernel_rfl) ?_
          obtain rfl := Option.some.inj hM
          exact a_ret (a_post (.r1 (.tmp rfl)) (DLe.refl _) PostOk.nil.spec)
        · replace hM := (of_if hM).2 h17
          refine a_skip ?_
          refine a_seq ?_
          obtain ⟨v19, h18, hM⟩ := of_bind hM
          obtain ⟨v21, h20, hM⟩ := of_bind hM
          obtain ⟨v23, h22, hM⟩ := of_bind hM
          obtain ⟨v25, h24, hM⟩ := of_bind hM
          obtain ⟨v27, h26, hM⟩ := of_bind hM
          refine a_region (.cons (o_move rfl) <| .cons (o_move rfl) <| .cons (o_callN (fun i => bif Nat.beq i 50000 then 10004 else bif Nat.beq i 100000 then 10001 else bif Nat.beq i 100001 then 10003 else i) 3 (collect_Collector_Add_a_c h18) rfl (DLeL.refl _) (.cons rfl (.cons rfl .nil)) rfl .nil) <| .cons (o_int rfl rfl rfl) <| .cons (o_move rfl) <| .cons (o_guardG .bT rfl rfl (fun hb => (.keep .nil)) (fun hb => o_move rfl)) <| .cons (o_guardG .bT rfl rfl (fun hb => (.strip rfl hb .nil)) (fun hb => o_callN (fun i => bif Nat.beq i 100000 then 10001 else bif Nat.beq i 100001 then 10004 else i) 0 (collect_Collector_Missing_a_c (of_gb h20 hb)) rfl (DLeL.refl _) (.cons rfl (.cons rfl .nil)) rfl (.cons rfl (.cons rfl .nil)))) <| .cons (o_guardG .bT rfl rfl (fun hb => (.strip rfl hb .nil)) (fun hb => t_len rfl)) <| .cons (o_guardG .bT rfl rfl (fun hb => (.strip rfl hb .nil)) (fun hb => o_int rfl rfl rfl)) <| .cons (o_and rfl rfl) <| .cons (o_move rfl) <| .cons (o_guardG .bT rfl rfl (fun hb => (.keep .nil)) (fun hb => o_move rfl)) <| .cons (o_guardG .bT rfl rfl (fun hb => (.strip rfl hb .nil)) (fun hb => o_callN (fun i => bif Nat.beq i 100000 then 10001 else bif Nat.beq i 100001 then 10004 else i) 0 (collect_Collector_Lost_a_c (of_gb h22 hb)) rfl (DLeL.refl _) (.cons rfl (.cons rfl .nil)) rfl (.cons rfl (.cons rfl .nil)))) <| .cons (o_guardG .bT rfl rfl (fun hb => (.strip rfl hb .nil)) (fun hb => t_len rfl)) <| .cons (o_guardG .bT rfl rfl (fun hb => (.strip rfl hb .nil)) (fun hb => o_int rfl rfl rfl)) <| .cons (o_and rfl rfl) <| .cons (o_move rfl) <| .cons (o_guardG .bT rfl rfl (fun hb => (.keep .nil)) (fun hb => o_move rfl)) <| .cons (o_guardG .bT rfl rfl (fun hb => (.strip rfl hb .nil)) (fun hb => o_callN (fun i => bif Nat.beq i 100000 then 10001 else bif Nat.beq i 100001 then 10004 else i) 0 (collect_Collector_Records_a_c (of_gb h24 hb)) rfl (DLeL.refl _) (.cons rfl (.cons rfl .nil)) rfl (.cons rfl (.cons rfl .nil)))) <| .cons (o_guardG .bT rfl rfl (fun hb => (.strip rfl hb .nil)) (fun hb => t_len rfl)) <| .cons (o_guardG .bT rfl rfl (fun hb => (.strip rfl hb .nil)) (fun hb => o_int rfl rfl rfl)) <| .cons (o_and rfl rfl) <| .cons (o_move rfl) <| .cons (o_guardG .bT rfl rfl (fun hb => (.keep .nil)) (fun hb => o_move rfl)) <| .cons (o_guardG .bT rfl rfl (fun hb => (.strip rfl hb .nil)) (fun hb => o_callN (fun i => bif Nat.beq i 100000 then 10001 else bif Nat.beq i 100001 then 10004 else i) 0 (collect_Collector_Complete_a_c (of_gb h26 hb)) rfl (DLeL.refl _) (.cons rfl (.cons rfl .nil)) rfl (.cons rfl (.cons rfl .nil)))) <| .cons (o_guardG .bT rfl rfl (fun hb => (.strip rfl hb .nil)) (fun hb => o_not rfl)) <| .cons (o_and rfl rfl) <| .cons (o_assign rfl) <| .nil _) (by kernel_rfl) (by kernel_rfl) ?_
          obtain rfl := Option.some.inj hM
          exact a_ret (a_post (.r1 (.tmp rfl)) (DLe.refl _) PostOk.nil.spec)
      · replace hd15 := Bool.eq_false_iff.2 hd15
        replace hM := (of_if hM).2 hd15
        refine a_region (.cons (o_move rfl) <| .cons (o_int rfl rfl rfl) <| .cons (o_move rfl) <| .cons (o_guardOn .bF rfl rfl rfl (.keep .nil) (o_move rfl)) <| .cons (o_guardOn .bF rfl rfl rfl (.keep .nil) (o_move rfl)) <| .cons (o_guardOn .bF rfl rfl rfl (.strip rfl rfl (.strip rfl rfl .nil)) (o_callN (fun i => bif Nat.beq i 50000 then 10003 else bif Nat.beq i 100000 then 10001 else bif Nat.beq i 100001 then 10002 else i) 3 (collect_Collector_Add_a_c h7) rfl (DLeL.refl _) (.cons rfl (.cons rfl .nil)) rfl .nil)) <| .cons (o_guardOn .bF rfl rfl rfl (.strip rfl rfl .nil) (o_int rfl rfl rfl)) <| .cons (o_or rfl rfl) <| .cons (o_move rfl) <| .cons (o_guardG .bF rfl rfl (fun hb => (.keep .nil)) (fun hb => o_move rfl)) <| .cons (o_guardG .bF rfl rfl (fun hb => (.strip rfl hb .nil)) (fun hb => o_callN (fun i => bif Nat.beq i 100000 then 10001 else bif Nat.beq i 100001 then 10003 else i) 0 (collect_Collector_Missing_a_c (of_gb h9 hb)) rfl (DLeL.refl _) (.cons rfl (.cons rfl .nil)) rfl (.cons rfl (.cons rfl .nil)))) <| .cons (o_guardG .bF rfl rfl (fun hb => .nil) (fun hb => o_build rfl rfl rfl)) <| .cons (o_guardOn .bF rfl rfl hd11 (.strip rfl hd11 .nil) (o_frz (t_build array_2_uint64.dv ([(arr 0 [2, 2])] : List (Nat → Int)) rfl rfl rfl rfl rfl rfl rfl))) <| .cons (o_guardOn .bF rfl rfl hd11 (.strip rfl hd11 (.strip rfl hd11 .nil)) (o_call (rootcauselaw30_sameRuns_c h11) rfl (DLeL.refl _) rfl)) <| .cons (o_guardOn .bF rfl rfl hd11 (.strip rfl hd11 .nil) (o_not rfl)) <| .cons (o_or rfl rfl) <| .cons (o_move rfl) <| .cons (o_guardG .bF rfl rfl (fun hb => (.keep .nil)) (fun hb => o_move rfl)) <| .cons (o_guardG .bF rfl rfl (fun hb => (.strip rfl hb .nil)) (fun hb => o_callN (fun i => bif Nat.beq i 100000 then 10001 else bif Nat.beq i 100001 then 10003 else i) 0 (collect_Collector_Lost_a_c (of_gb h13 hb)) rfl (DLeL.refl _) (.cons rfl (.cons rfl .nil)) rfl (.cons rfl (.cons rfl .nil)))) <| .cons (o_guardG .bF rfl rfl (fun hb => .nil) (fun hb => o_build rfl rfl rfl)) <| .cons (o_guardOff (.nils) .bF rfl rfl hd15) <| .cons (o_guardOff (.bool false) .bF rfl rfl hd15) <| .cons (o_guardOff (.bool false) .bF rfl rfl hd15) <| .cons (o_or rfl rfl) <| .nil _) (by kernel_rfl) (by kernel_rfl) ?_
        refine a_cond _ rfl (fun h15 => ?_) (fun h15 => ?_)
        · replace hM := (of_if hM).1 h15
          refine a_seq ?_
          refine a_region (.cons (o_assign rfl) <| .nil _) (by kernel_rfl) (by kernel_rfl) ?_
          obtain rfl := Option.some.inj hM
          exact a_ret (a_post (.r1 (.tmp rfl)) (DLe.refl _) PostOk.nil.spec)
        · replace hM := (of_if hM).2 h15
          refine a_skip ?_
          refine a_seq ?_
          obtain ⟨v17, h16, hM⟩ := of_bind hM
          obtain ⟨v19, h18, hM⟩ := of_bind hM
          obtain ⟨v21, h20, hM⟩ := of_bind hM
          obtain ⟨v23, h22, hM⟩ := of_bind hM
          obtain ⟨v25, h24, hM⟩ := of_bind hM
          refine a_region (.cons (o_move rfl) <| .cons (o_move rfl) <| .cons (o_callN (fun i => bif Nat.beq i 50000 then 10004 else bif Nat.beq i 100000 then 10001 else bif Nat.beq i 100001 then 10003 else i) 3 (collect_Collector_Add_a_c h16) rfl (DLeL.refl _) (.cons rfl (.cons rfl .nil)) rfl .nil) <| .cons (o_int rfl rfl rfl) <| .cons (o_move rfl) <| .cons (o_guardG .bT rfl rfl (fun hb => (.keep .nil)) (fun hb => o_move rfl)) <| .cons (o_guardG .bT rfl rfl (fun hb => (.strip rfl hb .nil)) (fun hb => o_callN (fun i => bif Nat.beq i 100000 then 10001 else bif Nat.beq i 100001 then 10004 else i) 0 (collect_Collector_Missing_a_c (of_gb h18 hb)) rfl (DLeL.refl _) (.cons rfl (.cons rfl .nil)) rfl (.cons rfl (.cons rfl .nil)))) <| .cons (o_guardG .bT rfl rfl (fun hb => (.strip rfl hb .nil)) (fun hb => t_len rfl)) <| .cons (o_guardG .bT rfl rfl (fun hb => (.strip rfl hb .nil)) (fun hb => o_int rfl rfl rfl)) <| .cons (o_and rfl rfl) <| .cons (o_move rfl) <| .cons (o_guardG .bT rfl rfl (fun hb => (.keep .nil)) (fun hb => o_move rfl)) <| .cons (o_guardG .bT rfl rfl (fun hb => (.strip rfl hb .nil)) (fun hb => o_callN (fun i => bif Nat.beq i 100000 then 10001 else bif Nat.beq i 100001 then 10004 else i) 0 (collect_Collector_Lost_a_c (of_gb h20 hb)) rfl (DLeL.refl _) (.cons rfl (.cons rfl .nil)) rfl (.cons rfl (.cons rfl .nil)))) <| .cons (o_guardG .bT rfl rfl (fun hb => (.strip rfl hb .nil)) (fun hb => t_len rfl)) <| .cons (o_guardG .bT rfl rfl (fun hb => (.strip rfl hb .nil)) (fun hb => o_int rfl rfl rfl)) <| .cons (o_and rfl rfl) <| .cons (o_move rfl) <| .cons (o_guardG .bT rfl rfl (fun hb => (.keep .nil)) (fun hb => o_move rfl)) <| .cons (o_guardG .bT rfl rfl (fun hb => (.strip rfl hb .nil)) (fun hb => o_callN (fun i => bif Nat.beq i 100000 then 10001 else bif Nat.beq i 100001 then 10004 else i) 0 (collect_Collector_Records_a_c (of_gb h22 hb)) rfl (DLeL.refl _) (.cons rfl (.cons rfl .nil)) rfl (.cons rfl (.cons rfl .nil)))) <| .cons (o_guardG .bT rfl rfl (fun hb => (.strip rfl hb .nil)) (fun hb => t_len rfl)) <| .cons (o_guardG .bT rfl rfl (fun hb => (.strip rfl hb .nil)) (fun hb => o_int rfl rfl rfl)) <| .cons (o_and rfl rfl) <| .cons (o_move rfl) <| .cons (o_guardG .bT rfl rfl (fun hb => (.keep .nil)) (fun hb => o_move rfl)) <| .cons (o_guardG .bT rfl rfl (fun hb => (.strip rfl hb .nil)) (fun hb => o_callN (fun i => bif Nat.beq i 100000 then 10001 else bif Nat.beq i 100001 then 10004 else i) 0 (collect_Collector_Complete_a_c (of_gb h24 hb)) rfl (DLeL.refl _) (.cons rfl (.cons rfl .nil)) rfl (.cons rfl (.cons rfl .nil)))) <| .cons (o_guardG .bT rfl rfl (fun hb => (.strip rfl hb .nil)) (fun hb => o_not rfl)) <| .cons (o_and rfl rfl) <| .cons (o_assign rfl) <| .nil _) (by kernel_rfl) (by kernel_rfl) ?_
          obtain rfl := Option.some.inj hM
          exact a_ret (a_post (.r1 (.tmp rfl)) (DLe.refl _) PostOk.nil.spec)
    · replace hd11 := Bool.eq_false_iff.2 hd11
      replace hM := (of_if hM).2 hd11
      obtain ⟨v12, h11, hM⟩ := of_bind hM
      by_cases hd13 : (!((v8.1 != 0) || false)) = true
      · replace hM := (of_if hM).1 hd13
        obtain ⟨v14, h13, hM⟩ := of_bind hM
        refine a_region (.cons (o_move rfl) <| .cons (o_int rfl rfl rfl) <| .cons (o_move rfl) <| .cons (o_guardOn .bF rfl rfl rfl (.keep .nil) (o_move rfl)) <| .cons (o_guardOn .bF rfl rfl rfl (.keep .nil) (o_move rfl)) <| .cons (o_guardOn .bF rfl rfl rfl (.strip rfl rfl (.strip rfl rfl .nil)) (o_callN (fun i => bif Nat.beq i 50000 then 10003 else bif Nat.beq i 100000 then 10001 else bif Nat.beq i 100001 then 10002 else i) 3 (collect_Collector_Add_a_c h7) rfl (DLeL.refl _) (.cons rfl (.cons rfl .nil)) rfl .nil)) <| .cons (o_guardOn .bF rfl rfl rfl (.strip rfl rfl .nil) (o_int rfl rfl rfl)) <| .cons (o_or rfl rfl) <| .cons (o_move rfl) <| .cons (o_guardG .bF rfl rfl (fun hb => (.keep .nil)) (fun hb => o_move rfl)) <| .cons (o_guardG .bF rfl rfl (fun hb => (.strip rfl hb .nil)) (fun hb => o_callN (fun i => bif Nat.beq i 100000 then 10001 else bif Nat.beq i 100001 then 10003 else i) 0 (collect_Collector_Missing_a_c (of_gb h9 hb)) rfl (DLeL.refl _) (.cons rfl (.cons rfl .nil)) rfl (.cons rfl (.cons rfl .nil)))) <| .cons (o_guardG .bF rfl rfl (fun hb => .nil) (fun hb => o_build rfl rfl rfl)) <| .cons (o_guardOff (.nils) .bF rfl rfl hd11) <| .cons (o_guardOff (.bool false) .bF rfl rfl hd11) <| .cons (o_guardOff (.bool false) .bF rfl rfl hd11) <| .cons (o_or rfl rfl) <| .cons (o_move rfl) <| .cons (o_guardG .bF rfl rfl (fun hb => (.keep .nil)) (fun hb => o_move rfl)) <| .cons (o_guardG .bF rfl rfl (fun hb => (.strip rfl hb .nil)) (fun hb => o_callN (fun i => bif Nat.beq i 100000 then 10001 else bif Nat.beq i 100001 then 10003 else i) 0 (collect_Collector_Lost_a_c (of_gb h11 hb)) rfl (DLeL.refl _) (.cons rfl (.cons rfl .nil)) rfl (.cons rfl (.cons rfl .nil)))) <| .cons (o_guardG .bF rfl rfl (fun hb => .nil) (fun hb => o_build rfl rfl rfl)) <| .cons (o_guardOn .bF rfl rfl hd13 (.strip rfl hd13 .nil) (o_frz (t_build array_2_uint64.dv ([(arr 0 [2, 2])] : List (Nat → Int)) rfl rfl rfl rfl rfl rfl rfl))) <| .cons (o_guardOn .bF rfl rfl hd13 (.strip rfl hd13 (.strip rfl hd13 .nil)) (o_call (rootcauselaw30_sameRuns_c h13) rfl (DLeL.refl _) rfl)) <| .cons (o_guardOn .bF rfl rfl hd13 (.strip rfl hd13 .nil) (o_not rfl)) <| .cons (o_or rfl rfl) <| .nil _) (by kernel_rfl) (by kernel_rfl) ?_
        refine a_cond _ rfl (fun h15 => ?_) (fun h15 => ?_)
        · replace hM := (of_if hM).1 h15
          refine a_seq ?_
          refine a_region (.cons (o_assign rfl) <| .nil _) (by kernel_rfl) (by kernel_rfl) ?_
          obtain rfl := Option.some.inj hM
          exact a_ret (a_post (.r1 (.tmp rfl)) (DLe.refl _) PostOk.nil.spec)
        · replace hM := (of_if hM).2 h15
          refine a_skip ?_
          refine a_seq ?_
          obtain ⟨v17, h16, hM⟩ := of_bind hM
          obtain ⟨v19, h18, hM⟩ := of_bind hM
          obtain ⟨v21, h20, hM⟩ := of_bind hM
          obtain ⟨v23, h22, hM⟩ := of_bind hM
          obtain ⟨v25, h24, hM⟩ := of_bind hM
          refine a_region (.cons (o_move rfl) <| .cons (o_move rfl) <| .cons (o_callN (fun i => bif Nat.beq i 50000 then 10004 else bif Nat.beq i 100000 then 10001 else bif Nat.beq i 100001 then 10003 else i) 3 (collect_Collector_Add_a_c h16) rfl (DLeL.refl _) (.cons rfl (.cons rfl .nil)) rfl .nil) <| .cons (o_int rfl rfl rfl) <| .cons (o_move rfl) <| .cons (o_guardG .bT rfl rfl (fun hb => (.keep .nil)) (fun hb => o_move rfl)) <| .cons (o_guardG .bT rfl rfl (fun hb => (.strip rfl hb .nil)) (fun hb => o_callN (fun i => bif Nat.beq i 100000 then 10001 else bif Nat.beq i 100001 then 10004 else i) 0 (collect_Collector_Missing_a_c (of_gb h18 hb)) rfl (DLeL.refl _) (.cons rfl (.cons rfl .nil)) rfl (.cons rfl (.cons rfl .nil)))) <| .cons (o_guardG .bT rfl rfl (fun hb => (.strip rfl hb .nil)) (fun hb => t_len rfl)) <| .cons (o_guardG .bT rfl rfl (fun hb => (.strip rfl hb .nil)) (fun hb => o_int rfl rfl rfl)) <| .cons (o_and rfl rfl) <| .cons (o_move rfl) <| .cons (o_guardG .bT rfl rfl (fun hb => (.keep .nil)) (fun hb => o_move rfl)) <| .cons (o_guardG .bT rfl rfl (fun hb => (.strip rfl hb .nil)) (fun hb => o_callN (fun i => bif Nat.beq i 100000 then 10001 else bif Nat.beq i 100001 then 10004 else i) 0 (collect_Collector_Lost_a_c (of_gb h20 hb)) rfl (DLeL.refl _) (.cons rfl (.cons rfl .nil)) rfl (.cons rfl (.cons rfl .nil)))) <| .cons (o_guardG .bT rfl rfl (fun hb => (.strip rfl hb .nil)) (fun hb => t_len rfl)) <| .cons (o_guardG .bT rfl rfl (fun hb => (.strip rfl hb .nil)) (fun hb => o_int rfl rfl rfl)) <| .cons (o_and rfl rfl) <| .cons (o_move rfl) <| .cons (o_guardG .bT rfl rfl (fun hb => (.keep .nil)) (fun hb => o_move rfl)) <| .cons (o_guardG .bT rfl rfl (fun hb => (.strip rfl hb .nil)) (fun hb => o_callN (fun i => bif Nat.beq i 100000 then 10001 else bif Nat.beq i 100001 then 10004 else i) 0 (collect_Collector_Records_a_c (of_gb h22 hb)) rfl (DLeL.refl _) (.cons rfl (.cons rfl .nil)) rfl (.cons rfl (.cons rfl .nil)))) <| .cons (o_guardG .bT rfl rfl (fun hb => (.strip rfl hb .nil)) (fun hb => t_len rfl)) <| .cons (o_guardG .bT rfl rfl (fun hb => (.strip rfl hb .nil)) (fun hb => o_int rfl rfl rfl)) <| .cons (o_and rfl rfl) <| .cons (o_move rfl) <| .cons (o_guardG .bT rfl rfl (fun hb => (.keep .nil)) (fun hb => o_move rfl)) <| .cons (o_guardG .bT rfl rfl (fun hb => (.strip rfl hb .nil)) (fun hb => o_callN (fun i => bif Nat.beq i 100000 then 10001 else bif Nat.beq i 100001 then 10004 else i) 0 (collect_Collector_Complete_a_c (of_gb h24 hb)) rfl (DLeL.refl _) (.cons rfl (.cons rfl .nil)) rfl (.cons rfl (.cons rfl .nil)))) <| .cons (o_guardG .bT rfl rfl (fun hb => (.strip rfl hb .nil)) (fun hb => o_not rfl)) <| .cons (o_and rfl rfl) <| .cons (o_assign rfl) <| .nil _) (by kernel_rfl) (by kernel_rfl) ?_
          obtain rfl := Option.some.inj hM
          exact a_ret (a_post (.r1 (.tmp rfl)) (DLe.refl _) PostOk.nil.spec)
      · replace hd13 := Bool.eq_false_iff.2 hd13
        replace hM := (of_if hM).2 hd13
        refine a_region (.cons (o_move rfl) <| .cons (o_int rfl rfl rfl) <| .cons (o_move rfl) <| .cons (o_guardOn .bF rfl rfl rfl (.keep .nil) (o_move rfl)) <| .cons (o_guardOn .bF rfl rfl rfl (.keep .nil) (o_move rfl)) <| .cons (o_guardOn .bF rfl rfl rfl (.strip rfl rfl (.strip rfl rfl .nil)) (o_callN (fun i => bif Nat.beq i 50000 then 10003 else bif Nat.beq i 100000 then 10001 else bif Nat.beq i 100001 then 10002 else i) 3 (collect_Collector_Add_a_c h7) rfl (DLeL.refl _) (.cons rfl (.cons rfl .nil)) rfl .nil)) <| .cons (o_guardOn .bF rfl rfl rfl (.strip rfl rfl .nil) (o_int rfl rfl rfl)) <| .cons (o_or rfl rfl) <| .cons (o_move rfl) <| .cons (o_guardG .bF rfl rfl (fun hb => (.keep .nil)) (fun hb => o_move rfl)) <| .cons (o_guardG .bF rfl rfl (fun hb => (.strip rfl hb .nil)) (fun hb => o_callN (fun i => bif Nat.beq i 100000 then 10001 else bif Nat.beq i 100001 then 10003 else i) 0 (collect_Collector_Missing_a_c (of_gb h9 hb)) rfl (DLeL.refl _) (.cons rfl (.cons rfl .nil)) rfl (.cons rfl (.cons rfl .nil)))) <| .cons (o_guardG .bF rfl rfl (fun hb => .nil) (fun hb => o_build rfl rfl rfl)) <| .cons (o_guardOff (.nils) .bF rfl rfl hd11) <| .cons (o_guardOff (.bool false) .bF rfl rfl hd11) <| .cons (o_guardOff (.bool false) .bF rfl rfl hd11) <| .cons (o_or rfl rfl) <| .cons (o_move rfl) <| .cons (o_guardG .bF rfl rfl (fun hb => (.keep .nil)) (fun hb => o_move rfl)) <| .cons (o_guardG .bF rfl rfl (fun hb => (.strip rfl hb .nil)) (fun hb => o_callN (fun i => bif Nat.beq i 100000 then 10001 else bif Nat.beq i 100001 then 10003 else i) 0 (collect_Collector_Lost_a_c (of_gb h11 hb)) rfl (DLeL.refl _) (.cons rfl (.cons rfl .nil)) rfl (.cons rfl (.cons rfl .nil)))) <| .cons (o_guardG .bF rfl rfl (fun hb => .nil) (fun hb => o_build rfl rfl rfl)) <| .cons (o_guardOff (.nils) .bF rfl rfl hd13) <| .cons (o_guardOff (.bool false) .bF rfl rfl hd13) <| .cons (o_guardOff (.bool false) .bF rfl rfl hd13) <| .cons (o_or rfl rfl) <| .nil _) (by kernel_rfl) (by kernel_rfl) ?_
        refine a_cond _ rfl (fun h13 => ?_) (fun h13 => ?_)
        · replace hM := (of_if hM).1 h13
          refine a_seq ?_
          refine a_region (.cons (o_assign rfl) <| .nil _) (by kernel_rfl) (by kernel_rfl) ?_
          obtain rfl := Option.some.inj hM
          exact a_ret (a_post (.r1 (.tmp rfl)) (DLe.refl _) PostOk.nil.spec)
        · replace hM := (of_if hM).2 h13
          refine a_skip ?_
          refine a_seq ?_
          obtain ⟨v15, h14, hM⟩ := of_bind hM
          obtain ⟨v17, h16, hM⟩ := of_bind hM
          obtain ⟨v19, h18, hM⟩ := of_bind hM
          obtain ⟨v21, h20, hM⟩ := of_bind hM
          obtain ⟨v23, h22, hM⟩ := of_bind hM
          refine a_region (.cons (o_move rfl) <| .cons (o_move rfl) <| .cons (o_callN (fun i => bif Nat.beq i 50000 then 10004 else bif Nat.beq i 100000 then 10001 else bif Nat.beq i 100001 then 10003 else i) 3 (collect_Collector_Add_a_c h14) rfl (DLeL.refl _) (.cons rfl (.cons rfl .nil)) rfl .nil) <| .cons (o_int rfl rfl rfl) <| .cons (o_move rfl) <| .cons (o_guardG .bT rfl rfl (fun hb => (.keep .nil)) (fun hb => o_move rfl)) <| .cons (o_guardG .bT rfl rfl (fun hb => (.strip rfl hb .nil)) (fun hb => o_callN (fun i => bif Nat.beq i 100000 then 10001 else bif Nat.beq i 100001 then 10004 else i) 0 (collect_Collector_Missing_a_c (of_gb h16 hb)) rfl (DLeL.refl _) (.cons rfl (.cons rfl .nil)) rfl (.cons rfl (.cons rfl .nil)))) <| .cons (o_guardG .bT rfl rfl (fun hb => (.strip rfl hb .nil)) (fun hb => t_len rfl)) <| .cons (o_guardG .bT rfl rfl (fun hb => (.strip rfl hb .nil)) (fun hb => o_int rfl rfl rfl)) <| .cons (o_and rfl rfl) <| .cons (o_move rfl) <| .cons (o_guardG .bT rfl rfl (fun hb => (.keep .nil)) (fun hb => o_move rfl)) <| .cons (o_guardG .bT rfl rfl (fun hb => (.strip rfl hb .nil)) (fun hb => o_callN (fun i => bif Nat.beq i 100000 then 10001 else bif Nat.beq i 100001 then 10004 else i) 0 (collect_Collector_Lost_a_c (of_gb h18 hb)) rfl (DLeL.refl _) (.cons rfl (.cons rfl .nil)) rfl (.cons rfl (.cons rfl .nil)))) <| .cons (o_guardG .bT rfl rfl (fun hb => (.strip rfl hb .nil)) (fun hb => t_len rfl)) <| .cons (o_guardG .bT rfl rfl (fun hb => (.strip rfl hb .nil)) (fun hb => o_int rfl rfl rfl)) <| .cons (o_and rfl rfl) <| .cons (o_move rfl) <| .cons (o_guardG .bT rfl rfl (fun hb => (.keep .nil)) (fun hb => o_move rfl)) <| .cons (o_guardG .bT rfl rfl (fun hb => (.strip rfl hb .nil)) (fun hb => o_callN (fun i => bif Nat.beq i 100000 then 10001 else bif Nat.beq i 100001 then 10004 else i) 0 (collect_Collector_Records_a_c (of_gb h20 hb)) rfl (DLeL.refl _) (.cons rfl (.cons rfl .nil)) rfl (.cons rfl (.cons rfl .nil)))) <| .cons (o_guardG .bT rfl rfl (fun hb => (.strip rfl hb .nil)) (fun hb => t_len rfl)) <| .cons (o_guardG .bT rfl rfl (fun hb => (.strip rfl hb .nil)) (fun hb => o_int rfl rfl rfl)) <| .cons (o_and rfl rfl) <| .cons (o_move rfl) <| .cons (o_guardG .bT rfl rfl (fun hb => (.keep .nil)) (fun hb => o_move rfl)) <| .cons (o_guardG .bT rfl rfl (fun hb => (.strip rfl hb .nil)) (fun hb => o_callN (fun i => bif Nat.beq i 100000 then 10001 else bif Nat.beq i 100001 then 10004 else i) 0 (collect_Collector_Complete_a_c (of_gb h22 hb)) rfl (DLeL.refl _) (.cons rfl (.cons rfl .nil)) rfl (.cons rfl (.cons rfl .nil)))) <| .cons (o_guardG .bT rfl rfl (fun hb => (.strip rfl hb .nil)) (fun hb => o_not rfl)) <| .cons (o_and rfl rfl) <| .cons (o_assign rfl) <| .nil _) (by kernel_rfl) (by kernel_rfl) ?_
          obtain rfl := Option.some.inj hM
          exact a_ret (a_post (.r1 (.tmp rfl)) (DLe.refl _) PostOk.nil.spec)
  · refine a_region (.cons (o_callN (fun i => i) 0 (collect_New_c1 h1) rfl (DLeL.refl _) .nil rfl .nil) <| .cons (o_move rfl) <| .cons (o_extract rfl rfl) <| .cons (o_extract rfl rfl) <| .cons (o_assign rfl) <| .cons (o_assign rfl) <| .nil _) (by kernel_rfl) (by kernel_rfl) ?_
    refine a_seq ?_
    obtain ⟨v4, h3, hM⟩ := of_bind hM
    refine a_region (.cons (o_build rfl rfl rfl) <| .cons (o_build rfl rfl rfl) <| .cons (o_build rfl rfl rfl) <| .cons (o_build rfl rfl rfl) <| .cons (o_frz (t_build rootcauselaw30_Raw.dv ([(rootcauselaw30_Raw.mk 0 0 0 0), (rootcauselaw30_Raw.mk 0 1 0 0), (rootcauselaw30_Raw.mk 0 4 0 0), (rootcauselaw30_Raw.mk 2 2 0 1)] : List rootcauselaw30_Raw) rfl rfl rfl rfl rfl rfl rfl)) <| .cons (o_build rfl rfl rfl) <| .cons (o_call (rootcauselaw30_File_bytes_c h3) rfl (DLeL.refl _) rfl) <| .cons (o_move rfl) <| .cons (o_extract rfl rfl) <| .cons (o_extract rfl rfl) <| .cons (o_extract rfl rfl) <| .cons (o_assign rfl) <| .cons (o_assign rfl) <| .cons (o_assign rfl) <| .nil _) (by kernel_rfl) (by kernel_rfl) ?_
    refine a_seq ?_
    obtain ⟨v6, h5, hM⟩ := of_bind hM
    refine a_region (.cons (o_build rfl rfl rfl) <| .cons (o_build rfl rfl rfl) <| .cons (o_build rfl rfl rfl) <| .cons (o_frz (t_build rootcauselaw30_Raw.dv ([(rootcauselaw30_Raw.mk 0 2 0 0), (rootcauselaw30_Raw.mk 0 3 0 0), (rootcauselaw30_Raw.mk 3 5 0 0)] : List rootcauselaw30_Raw) rfl rfl rfl rfl rfl rfl rfl)) <| .cons (o_build rfl rfl rfl) <| .cons (o_call (rootcauselaw30_File_bytes_c h5) rfl (DLeL.refl _) rfl) <| .cons (o_move rfl) <| .cons (o_extract rfl rfl) <| .cons (o_extract rfl rfl) <| .cons (o_extract rfl rfl) <| .cons (o_assign rfl) <| .cons (o_assign rfl) <| .cons (o_assign rfl) <| .nil _) (by kernel_rfl) (by kernel_rfl) ?_
    refine a_seq ?_
    refine a_seq ?_
    refine a_region (.cons (o_move rfl) <| .cons (o_int rfl rfl rfl) <| .cons (o_move rfl) <| .cons (o_guardOff (.val (.pointer none)) .bF rfl rfl rfl) <| .cons (o_guardOff (.nils) .bF rfl rfl rfl) <| .cons (o_guardOff (.int .i64 0) .bF rfl rfl rfl) <| .cons (o_guardOff (.bool false) .bF rfl rfl rfl) <| .cons (o_or rfl rfl) <| .cons (o_move rfl) <| .cons (o_guardOff (.val (.pointer none)) .bF rfl rfl rfl) <| .cons (o_guardOff (.nils) .bF rfl rfl rfl) <| .cons (o_guardOff (.agg [.int .u64 0, .int .u64 0]) .bF rfl rfl rfl) <| .cons (o_guardOff (.nils) .bF rfl rfl rfl) <| .cons (o_guardOff (.bool false) .bF rfl rfl rfl) <| .cons (o_guardOff (.bool false) .bF rfl rfl rfl) <| .cons (o_or rfl rfl) <| .cons (o_move rfl) <| .cons (o_guardOff (.val (.pointer none)) .bF rfl rfl rfl) <| .cons (o_guardOff (.nils) .bF rfl rfl rfl) <| .cons (o_guardOff (.agg [.int .u64 0, .int .u64 0]) .bF rfl rfl rfl) <| .cons (o_guardOff (.nils) .bF rfl rfl rfl) <| .cons (o_guardOff (.bool false) .bF rfl rfl rfl) <| .cons (o_guardOff (.bool false) .bF rfl rfl rfl) <| .cons (o_or rfl rfl) <| .nil _) (by kernel_rfl) (by kernel_rfl) ?_
    refine a_cond _ rfl (fun _ => ?_) (fun c => by cases c)
    refine a_seq ?_
    refine a_region (.cons (o_assign rfl) <| .nil _) (by kernel_rfl) (by kernel_rfl) ?_
    obtain rfl := Option.some.inj hM
    exact a_ret (a_post (.r1 (.tmp rfl)) (DLe.refl _) PostOk.nil.spec)

end Go.Proofs.YtepkcbalmjnhpaaGreat
