/-
  Models of functions and the proofs that the code computes them, printed by gm.py.
-/
import Derived.Test.YtkadjbpmnpcfhaaGBuB
set_option maxRecDepth 100000
set_option maxHeartbeats 4000000
set_option linter.unusedVariables false
set_option linter.unusedSimpArgs false
namespace Go.Proofs.Ytkadjbpmnpcfhaa
open Go.RowKit
def budget_Plan_K17 (a15 : List Bool) (a16 : Int) : Option ((List Bool) × Int) :=
  some (a15, a16)
def budget_Plan_K28 (a25 : List Bool) (a26 : Int) (a27 : Int) : Option (Ctl ((List Bool) × Int × Int) ((List Bool) × Int)) :=
  some (.next (a25, a26, a27))
def budget_Plan_K35 (a8 : List Int) (a20 : Int) (a21 : Int) (v33 : Int × Int) (a34 : List Bool) : Option (Ctl ((List Bool) × Int × Int) ((List Bool) × Int)) :=
  if (decide (v33.1 < (List.length a8 : Int))) = true then
    some (.done (a34, (IntKind.wrap .i64 (a20 + v33.2))))
  else
    budget_Plan_K28 a34 (IntKind.wrap .i64 (a20 + v33.2)) (IntKind.wrap .i64 (a21 - v33.2))
def budget_Plan_L41 (a8 : List Int) (v38 : (List Int)) (k39 : Nat) (a40 : List Bool) : Option (List Bool) :=
  (idx v38 (k39 : Int)).bind fun v45 =>
  (idx a8 v45).bind fun v47 =>
  (idx a40 v47).bind fun v49 =>
  some (List.set a40 (Int.toNat v47) true)
def budget_Plan_K54 (a7 : List Int) (a20 : Int) (a21 : Int) (v52 : Int × Int) (a53 : List Bool) : Option (Ctl ((List Bool) × Int × Int) ((List Bool) × Int)) :=
  if (decide (v52.1 < (List.length a7 : Int))) = true then
    some (.done (a53, (IntKind.wrap .i64 (a20 + v52.2))))
  else
    budget_Plan_K28 a53 (IntKind.wrap .i64 (a20 + v52.2)) (IntKind.wrap .i64 (a21 - v52.2))
def budget_Plan_L60 (a7 : List Int) (v57 : (List Int)) (k58 : Nat) (a59 : List Bool) : Option (List Bool) :=
  (idx v57 (k58 : Int)).bind fun v64 =>
  (idx a7 v64).bind fun v66 =>
  (idx a59 v66).bind fun v68 =>
  some (List.set a59 (Int.toNat v66) true)
def budget_Plan_K73 (a6 : List Int) (a20 : Int) (a21 : Int) (v71 : Int × Int) (a72 : List Bool) : Option (Ctl ((List Bool) × Int × Int) ((List Bool) × Int)) :=
  if (decide (v71.1 < (List.length a6 : Int))) = true then
    some (.done (a72, (IntKind.wrap .i64 (a20 + v71.2))))
  else
    budget_Plan_K28 a72 (IntKind.wrap .i64 (a20 + v71.2)) (IntKind.wrap .i64 (a21 - v71.2))
def budget_Plan_L79 (a6 : List Int) (v76 : (List Int)) (k77 : Nat) (a78 : List Bool) : Option (List Bool) :=
  (idx v76 (k77 : Int)).bind fun v83 =>
  (idx a6 v83).bind fun v85 =>
  (idx a78 v85).bind fun v87 =>
  some (List.set a78 (Int.toNat v85) true)
def budget_Plan_K92 (a5 : List Int) (a20 : Int) (a21 : Int) (v90 : Int × Int) (a91 : List Bool) : Option (Ctl ((List Bool) × Int × Int) ((List Bool) × Int)) :=
  if (decide (v90.1 < (List.length a5 : Int))) = true then
    some (.done (a91, (IntKind.wrap .i64 (a20 + v90.2))))
  else
    budget_Plan_K28 a91 (IntKind.wrap .i64 (a20 + v90.2)) (IntKind.wrap .i64 (a21 - v90.2))
def budget_Plan_L98 (a5 : List Int) (v95 : (List Int)) (k96 : Nat) (a97 : List Bool) : Option (List Bool) :=
  (idx v95 (k96 : Int)).bind fun v102 =>
  (idx a5 v102).bind fun v104 =>
  (idx a97 v104).bind fun v106 =>
  some (List.set a97 (Int.toNat v104) true)
def budget_Plan_K111 (a4 : List Int) (a20 : Int) (a21 : Int) (v109 : Int × Int) (a110 : List Bool) : Option (Ctl ((List Bool) × Int × Int) ((List Bool) × Int)) :=
  if (decide (v109.1 < (List.length a4 : Int))) = true then
    some (.done (a110, (IntKind.wrap .i64 (a20 + v109.2))))
  else
    budget_Plan_K28 a110 (IntKind.wrap .i64 (a20 + v109.2)) (IntKind.wrap .i64 (a21 - v109.2))
def budget_Plan_L117 (a4 : List Int) (v114 : (List Int)) (k115 : Nat) (a116 : List Bool) : Option (List Bool) :=
  (idx v114 (k115 : Int)).bind fun v121 =>
  (idx a4 v121).bind fun v123 =>
  (idx a116 v123).bind fun v125 =>
  some (List.set a116 (Int.toNat v123) true)
def budget_Plan_L22 (a4 : List Int) (a5 : List Int) (a6 : List Int) (a7 : List Int) (a8 : List Int) (a9 : List Int) (a10 : List Int) (a11 : List Int) (a12 : List Int) (a13 : List Int) (k18 : Nat) (a19 : List Bool) (a20 : Int) (a21 : Int) : Option (Ctl ((List Bool) × Int × Int) ((List Bool) × Int)) :=
  (idx ([1, 2, 3, 4, 0] : List Int) (k18 : Int)).bind fun v30 =>
  if (v30 == 0) = true then
    (budget_most a9 a21).bind fun v109 =>
    (budget_Spread (List.length a4 : Int) v109.1).bind fun v114 =>
    (foldM' 9223372036854775807 (List.length v114 : Int) (fun k115 s => budget_Plan_L117 a4 v114 k115 s) a19).bind fun s => budget_Plan_K111 a4 a20 a21 v109 s
  else
    if (v30 == 1) = true then
      (budget_most a10 a21).bind fun v90 =>
      (budget_Spread (List.length a5 : Int) v90.1).bind fun v95 =>
      (foldM' 9223372036854775807 (List.length v95 : Int) (fun k96 s => budget_Plan_L98 a5 v95 k96 s) a19).bind fun s => budget_Plan_K92 a5 a20 a21 v90 s
    else
      if (v30 == 2) = true then
        (budget_most a11 a21).bind fun v71 =>
        (budget_Spread (List.length a6 : Int) v71.1).bind fun v76 =>
        (foldM' 9223372036854775807 (List.length v76 : Int) (fun k77 s => budget_Plan_L79 a6 v76 k77 s) a19).bind fun s => budget_Plan_K73 a6 a20 a21 v71 s
      else
        if (v30 == 3) = true then
          (budget_most a12 a21).bind fun v52 =>
          (budget_Spread (List.length a7 : Int) v52.1).bind fun v57 =>
          (foldM' 9223372036854775807 (List.length v57 : Int) (fun k58 s => budget_Plan_L60 a7 v57 k58 s) a19).bind fun s => budget_Plan_K54 a7 a20 a21 v52 s
        else
          if (v30 == 4) = true then
            (budget_most a13 a21).bind fun v33 =>
            (budget_Spread (List.length a8 : Int) v33.1).bind fun v38 =>
            (foldM' 9223372036854775807 (List.length v38 : Int) (fun k39 s => budget_Plan_L41 a8 v38 k39 s) a19).bind fun s => budget_Plan_K35 a8 a20 a21 v33 s
          else
            none
def budget_Plan_K14 (x1 : Int) (a2 : List Bool) (a3 : Int) (a4 : List Int) (a5 : List Int) (a6 : List Int) (a7 : List Int) (a8 : List Int) (a9 : List Int) (a10 : List Int) (a11 : List Int) (a12 : List Int) (a13 : List Int) : Option ((List Bool) × Int) :=
  (forM' (E := (List Bool) × Int) 9223372036854775807 5 (fun k18 s => budget_Plan_L22 a4 a5 a6 a7 a8 a9 a10 a11 a12 a13 k18 s.1 s.2.1 s.2.2) (a2, a3, (if (IntKind.wrap .i64 ((if x1 > 0 then x1 else 0) - a3)) > 0 then (IntKind.wrap .i64 ((if x1 > 0 then x1 else 0) - a3)) else 0))).bind fun
    | .next s => budget_Plan_K17 s.1 s.2.1
    | .done e => budget_Plan_K17 e.1 e.2
def budget_Plan_L139 (x0 : List record_Record) (k126 : Nat) (a127 : List Bool) (a128 : Int) (a129 : List Int) (a130 : List Int) (a131 : List Int) (a132 : List Int) (a133 : List Int) (a134 : List Int) (a135 : List Int) (a136 : List Int) (a137 : List Int) (a138 : List Int) : Option ((List Bool) × Int × (List Int) × (List Int) × (List Int) × (List Int) × (List Int) × (List Int) × (List Int) × (List Int) × (List Int) × (List Int)) :=
  (idx x0 (k126 : Int)).bind fun v143 =>
  (record_Size v143).bind fun v145 =>
  if (v143.gWhat != 1) = true then
    (idx a127 (k126 : Int)).bind fun v148 =>
    some ((List.set a127 (Int.toNat (k126 : Int)) true), (IntKind.wrap .i64 (a128 + v145)), a129, a130, a131, a132, a133, a134, a135, a136, a137, a138)
  else
    (budget_Of v143.gEvent).bind fun v150 =>
    if (v150 == 0) = true then
      chk (apOk 8 (List.length a129 + List.length [(k126 : Int)])) <|
      chk (apOk 8 (List.length a134 + List.length [v145])) <|
      some (a127, a128, (a129 ++ [(k126 : Int)]), a130, a131, a132, a133, (a134 ++ [v145]), a135, a136, a137, a138)
    else
      if (v150 == 1) = true then
        chk (apOk 8 (List.length a130 + List.length [(k126 : Int)])) <|
        chk (apOk 8 (List.length a135 + List.length [v145])) <|
        some (a127, a128, a129, (a130 ++ [(k126 : Int)]), a131, a132, a133, a134, (a135 ++ [v145]), a136, a137, a138)
      else
        if (v150 == 2) = true then
          chk (apOk 8 (List.length a131 + List.length [(k126 : Int)])) <|
          chk (apOk 8 (List.length a136 + List.length [v145])) <|
          some (a127, a128, a129, a130, (a131 ++ [(k126 : Int)]), a132, a133, a134, a135, (a136 ++ [v145]), a137, a138)
        else
          if (v150 == 3) = true then
            chk (apOk 8 (List.length a132 + List.length [(k126 : Int)])) <|
            chk (apOk 8 (List.length a137 + List.length [v145])) <|
            some (a127, a128, a129, a130, a131, (a132 ++ [(k126 : Int)]), a133, a134, a135, a136, (a137 ++ [v145]), a138)
          else
            if (v150 == 4) = true then
              chk (apOk 8 (List.length a133 + List.length [(k126 : Int)])) <|
              chk (apOk 8 (List.length a138 + List.length [v145])) <|
              some (a127, a128, a129, a130, a131, a132, (a133 ++ [(k126 : Int)]), a134, a135, a136, a137, (a138 ++ [v145]))
            else
              none
def budget_Plan (x0 : List record_Record) (x1 : Int) : Option ((List Bool) × Int) :=
  chk (mkOk 1 (List.length x0 : Int) (List.length x0 : Int)) <|
  (foldM' 9223372036854775807 (List.length x0 : Int) (fun k126 s => budget_Plan_L139 x0 k126 s.1 s.2.1 s.2.2.1 s.2.2.2.1 s.2.2.2.2.1 s.2.2.2.2.2.1 s.2.2.2.2.2.2.1 s.2.2.2.2.2.2.2.1 s.2.2.2.2.2.2.2.2.1 s.2.2.2.2.2.2.2.2.2.1 s.2.2.2.2.2.2.2.2.2.2.1 s.2.2.2.2.2.2.2.2.2.2.2) ((List.replicate (Int.toNat (List.length x0 : Int)) false), 0, ([] : List Int), ([] : List Int), ([] : List Int), ([] : List Int), ([] : List Int), ([] : List Int), ([] : List Int), ([] : List Int), ([] : List Int), ([] : List Int))).bind fun s => budget_Plan_K14 x1 s.1 s.2.1 s.2.2.1 s.2.2.2.1 s.2.2.2.2.1 s.2.2.2.2.2.1 s.2.2.2.2.2.2.1 s.2.2.2.2.2.2.2.1 s.2.2.2.2.2.2.2.2.1 s.2.2.2.2.2.2.2.2.2.1 s.2.2.2.2.2.2.2.2.2.2.1 s.2.2.2.2.2.2.2.2.2.2.2
theorem budget_Plan_c {x0 : List record_Record} {x1 : Int} {r : (List Bool) × Int} (hM : budget_Plan x0 x1 = some r) : PCall Try.prog 37 [.sl 29 (List.map record_Record.dv x0), .int .i64 x1] (.tup [.sl 1 (List.map DV.bool r.1), .int .i64 r.2]) := by
  unfold budget_Plan at hM
  refine PCall.body Try.func37 Try.ntmps37 rfl rfl rfl rfl ?_
  refine a_seq ?_
  refine a_region (.cons (o_assign rfl) <| .cons (o_assign rfl) <| .nil _) (by kernel_rfl) (by kernel_rfl) ?_
  refine a_seq ?_
  obtain ⟨h1, hM⟩ := of_chk hM
  refine a_region (.cons (o_move rfl) <| .cons (t_len rfl) <| .cons (t_make DV.bool false h1 rfl rfl rfl rfl) <| .cons (o_assign rfl) <| .nil _) (by kernel_rfl) (by kernel_rfl) ?_
  refine a_seq ?_
  refine a_region (.cons (o_alloc rfl) <| .cons (o_alloc rfl) <| .nil _) (by kernel_rfl) (by kernel_rfl) ?_
  refine a_cut (α := (List Bool) × Int × (List Int) × (List Int) × (List Int) × (List Int) × (List Int) × (List Int) × (List Int) × (List Int) × (List Int) × (List Int)) (fun s => ⟨[(1, .int .i64 x1), (4, .row 10001), (5, .int .i64 s.2.1), (6, .ref 6 0), (7, .ref 7 0)], [(6, some (.blk 110 [.row 10002, .row 10003, .row 10004, .row 10005, .row 10006])), (7, some (.blk 110 [.row 10007, .row 10008, .row 10009, .row 10010, .row 10011])), (10001, some (.row 4 1 (List.map DV.bool s.1))), (10002, some (.row 3 1 (List.map (DV.int .i64) s.2.2.1))), (10003, some (.row 3 1 (List.map (DV.int .i64) s.2.2.2.1))), (10004, some (.row 3 1 (List.map (DV.int .i64) s.2.2.2.2.1))), (10005, some (.row 3 1 (List.map (DV.int .i64) s.2.2.2.2.2.1))), (10006, some (.row 3 1 (List.map (DV.int .i64) s.2.2.2.2.2.2.1))), (10007, some (.row 3 1 (List.map (DV.int .i64) s.2.2.2.2.2.2.2.1))), (10008, some (.row 3 1 (List.map (DV.int .i64) s.2.2.2.2.2.2.2.2.1))), (10009, some (.row 3 1 (List.map (DV.int .i64) s.2.2.2.2.2.2.2.2.2.1))), (10010, some (.row 3 1 (List.map (DV.int .i64) s.2.2.2.2.2.2.2.2.2.2.1))), (10011, some (.row 3 1 (List.map (DV.int .i64) s.2.2.2.2.2.2.2.2.2.2.2)))], [6, 7, 10001, 10002, 10003, 10004, 10005, 10006, 10007, 10008, 10009, 10010, 10011]⟩) (fun s => budget_Plan_K14 x1 s.1 s.2.1 s.2.2.1 s.2.2.2.1 s.2.2.2.2.1 s.2.2.2.2.2.1 s.2.2.2.2.2.2.1 s.2.2.2.2.2.2.2.1 s.2.2.2.2.2.2.2.2.1 s.2.2.2.2.2.2.2.2.2.1 s.2.2.2.2.2.2.2.2.2.2.1 s.2.2.2.2.2.2.2.2.2.2.2 = some r) ?_ ?_
  · refine a_seq ?_
    refine a_region (.cons (o_move rfl) <| .cons (t_len rfl) <| .cons (o_move rfl) <| .nil _) (by kernel_rfl) (by kernel_rfl) ?_
    obtain ⟨⟨a127, a128, a129, a130, a131, a132, a133, a134, a135, a136, a137, a138⟩, hL139, hK139⟩ := of_bind hM
    refine a_block ?_
    refine a_fold (fun k126 s => ⟨[(1, .int .i64 x1), (4, .row 10089), (5, .int .i64 s.2.1), (6, .ref 6 0), (7, .ref 7 0), (22, .sl 29 (List.map record_Record.dv x0)), (23, .int .i64 (List.length x0 : Int)), (24, .int .i64 (k126 : Int))], [(6, some (.blk 110 [.row 10090, .row 10091, .row 10092, .row 10093, .row 10094])), (7, some (.blk 110 [.row 10095, .row 10096, .row 10097, .row 10098, .row 10099])), (10089, some (.row 4 1 (List.map DV.bool s.1))), (10090, some (.row 3 1 (List.map (DV.int .i64) s.2.2.1))), (10091, some (.row 3 1 (List.map (DV.int .i64) s.2.2.2.1))), (10092, some (.row 3 1 (List.map (DV.int .i64) s.2.2.2.2.1))), (10093, some (.row 3 1 (List.map (DV.int .i64) s.2.2.2.2.2.1))), (10094, some (.row 3 1 (List.map (DV.int .i64) s.2.2.2.2.2.2.1))), (10095, some (.row 3 1 (List.map (DV.int .i64) s.2.2.2.2.2.2.2.1))), (10096, some (.row 3 1 (List.map (DV.int .i64) s.2.2.2.2.2.2.2.2.1))), (10097, some (.row 3 1 (List.map (DV.int .i64) s.2.2.2.2.2.2.2.2.2.1))), (10098, some (.row 3 1 (List.map (DV.int .i64) s.2.2.2.2.2.2.2.2.2.2.1))), (10099, some (.row 3 1 (List.map (DV.int .i64) s.2.2.2.2.2.2.2.2.2.2.2)))], [6, 7, 10089, 10090, 10091, 10092, 10093, 10094, 10095, 10096, 10097, 10098, 10099]⟩) _ hL139 ((Imp.nilC (id := 6) (rid := 10100) (j := 0) 3 1 rfl rfl rfl rfl).trans ((Imp.nilC (id := 6) (rid := 10101) (j := 1) 3 1 rfl rfl rfl rfl).trans ((Imp.nilC (id := 6) (rid := 10102) (j := 2) 3 1 rfl rfl rfl rfl).trans ((Imp.nilC (id := 6) (rid := 10103) (j := 3) 3 1 rfl rfl rfl rfl).trans ((Imp.nilC (id := 6) (rid := 10104) (j := 4) 3 1 rfl rfl rfl rfl).trans ((Imp.nilC (id := 7) (rid := 10105) (j := 0) 3 1 rfl rfl rfl rfl).trans ((Imp.nilC (id := 7) (rid := 10106) (j := 1) 3 1 rfl rfl rfl rfl).trans ((Imp.nilC (id := 7) (rid := 10107) (j := 2) 3 1 rfl rfl rfl rfl).trans ((Imp.nilC (id := 7) (rid := 10108) (j := 3) 3 1 rfl rfl rfl rfl).trans ((Imp.nilC (id := 7) (rid := 10109) (j := 4) 3 1 rfl rfl rfl rfl).trans (Imp.of (fun i => bif Nat.beq i 10099 then 10109 else bif Nat.beq i 10098 then 10108 else bif Nat.beq i 10097 then 10107 else bif Nat.beq i 10096 then 10106 else bif Nat.beq i 10095 then 10105 else bif Nat.beq i 10094 then 10104 else bif Nat.beq i 10093 then 10103 else bif Nat.beq i 10092 then 10102 else bif Nat.beq i 10091 then 10101 else bif Nat.beq i 10090 then 10100 else bif Nat.beq i 10089 then 21 else i) (.cons rfl (DLe.refl _) (.cons rfl (DLe.refl _) (.cons rfl (DLe.refl _) (.cons rfl (DLe.refl _) (.cons rfl (DLe.refl _) (.cons rfl (DLe.refl _) (.cons rfl (DLe.refl _) (.cons rfl (DLe.refl _) .nil)))))))) (.cons rfl (.refl _) (.cons rfl (.refl _) (.cons rfl (.refl _) (.cons rfl (.refl _) (.cons rfl (.refl _) (.cons rfl (.refl _) (.cons rfl (.refl _) (.cons rfl (.refl _) (.cons rfl (.refl _) (.cons rfl (.refl _) (.cons rfl (.refl _) (.cons rfl (.refl _) (.cons rfl (.refl _) .nil))))))))))))) rfl rfl rfl))))))))))) ?_ ?_
    · rintro k126 ⟨a127, a128, a129, a130, a131, a132, a133, a134, a135, a136, a137, a138⟩ t140 hk126 hx126 hM
      replace hM : budget_Plan_L139 x0 k126 a127 a128 a129 a130 a131 a132 a133 a134 a135 a136 a137 a138 = some t140 := hM
      unfold budget_Plan_L139 at hM
      refine a_seq ?_
      refine a_region (.cons (o_int rfl rfl rfl) <| .nil _) (by kernel_rfl) (by kernel_rfl) ?_
      refine a_seq ?_
      refine a_cond _ rfl (fun _ => ?_) (fun c => absurd hk126 (of_decide_eq_false c))
      refine a_skip ?_
      refine a_seq ?_
      refine a_block ?_
      refine a_seq ?_
      obtain ⟨v143, h142, hM⟩ := of_bind hM
      refine a_region (.cons (o_move rfl) <| .cons (t_index h142 rfl rfl rfl) <| .cons (o_load_er rfl rfl rfl) <| .cons (o_alloc rfl) <| .cons (o_assign rfl) <| .cons (o_store rfl rfl rfl rfl rfl rfl rfl) <| .nil _) (by kernel_rfl) (by kernel_rfl) ?_
      refine a_seq ?_
      obtain ⟨v145, h144, hM⟩ := of_bind hM
      refine a_region (.cons (o_load_r rfl rfl rfl rfl) <| .cons (o_call (record_Size_c h144) rfl (DLeL.refl _) rfl) <| .cons (o_assign rfl) <| .nil _) (by kernel_rfl) (by kernel_rfl) ?_
      refine a_seq ?_
      refine a_seq ?_
      refine a_region (.cons (o_fieldAddr rfl) <| .cons (o_load_s rfl rfl rfl) <| .cons (o_int rfl rfl rfl) <| .nil _) (by kernel_rfl) (by kernel_rfl) ?_
      refine a_cond _ rfl (fun h146 => ?_) (fun h146 => ?_)
      · replace hM := (of_if hM).1 h146
        refine a_seq ?_
        obtain ⟨v148, h147, hM⟩ := of_bind hM
        refine a_region (.cons (o_move rfl) <| .cons (o_move rfl) <| .cons (t_index_r h147 rfl rfl rfl) <| .cons (t_store_p true h147 rfl rfl rfl rfl rfl rfl rfl rfl rfl rfl rfl) <| .nil _) (by kernel_rfl) (by kernel_rfl) ?_
        refine a_seq ?_
        refine a_region (.cons (o_move rfl) <| .cons (o_move rfl) <| .cons (o_int rfl rfl rfl) <| .cons (o_assign rfl) <| .nil _) (by kernel_rfl) (by kernel_rfl) ?_
        refine a_exit ?_
        refine a_region (.cons (o_add rfl rfl (inR_i64 hk126 hx126)) <| .cons (o_move rfl) <| .nil _) (by kernel_rfl) (by kernel_rfl) ?_
        obtain rfl := Option.some.inj hM
        exact (Imp.of (fun i => i) (.cons rfl (DLe.refl _) (.cons rfl (DLe.refl _) (.cons rfl (DLe.refl _) (.cons rfl (DLe.refl _) (.cons rfl (DLe.refl _) (.cons rfl (DLe.refl _) (.cons rfl (DLe.refl _) (.cons rfl (DLe.succ _ _) .nil)))))))) (.cons rfl (.refl _) (.cons rfl (.refl _) (.cons rfl (.refl _) (.cons rfl (.refl _) (.cons rfl (.refl _) (.cons rfl (.refl _) (.cons rfl (.refl _) (.cons rfl (.refl _) (.cons rfl (.refl _) (.cons rfl (.refl _) (.cons rfl (.refl _) (.cons rfl (.refl _) (.cons rfl (.refl _) .nil))))))))))))) rfl rfl rfl)
      · replace hM := (of_if hM).2 h146
        refine a_skip ?_
        refine a_seq ?_
        obtain ⟨v150, h149, hM⟩ := of_bind hM
        refine a_region (.cons (o_fieldAddr rfl) <| .cons (o_load_r rfl rfl rfl rfl) <| .cons (o_call (budget_Of_c h149) rfl (DLeL.refl _) rfl) <| .cons (o_assign rfl) <| .nil _) (by kernel_rfl) (by kernel_rfl) ?_
        refine a_seq ?_
        by_cases h163 : (v150 == 0) = true
        · replace hM := (of_if hM).1 h163
          obtain rfl : v150 = 0 := eq_of_beq h163
          obtain ⟨h164, hM⟩ := of_chk hM
          refine a_region (.cons (o_move rfl) <| .cons (o_move rfl) <| .cons (o_indexAddr_a 0 rfl rfl rfl (by decide)) <| .cons (o_load_s rfl rfl rfl) <| .cons (o_move rfl) <| .cons (t_build (DV.int .i64) ([(k126 : Int)] : List Int) rfl rfl rfl rfl rfl rfl rfl) <| .cons (t_append [(k126 : Int)] h164 rfl rfl rfl (Src.row rfl)) <| .cons (o_indexAddr_a 0 rfl rfl rfl (by decide)) <| .cons (o_store_s rfl rfl rfl rfl rfl) <| .nil _) (by kernel_rfl) (by kernel_rfl) ?_
          obtain ⟨h165, hM⟩ := of_chk hM
          refine a_region (.cons (o_move rfl) <| .cons (o_move rfl) <| .cons (o_indexAddr_a 0 rfl rfl rfl (by decide)) <| .cons (o_load_s rfl rfl rfl) <| .cons (o_move rfl) <| .cons (t_build (DV.int .i64) ([v145] : List Int) rfl rfl rfl rfl rfl rfl rfl) <| .cons (t_append [v145] h165 rfl rfl rfl (Src.row rfl)) <| .cons (o_indexAddr_a 0 rfl rfl rfl (by decide)) <| .cons (o_store_s rfl rfl rfl rfl rfl) <| .nil _) (by kernel_rfl) (by kernel_rfl) ?_
          refine a_region (.cons (o_add rfl rfl (inR_i64 hk126 hx126)) <| .cons (o_move rfl) <| .nil _) (by kernel_rfl) (by kernel_rfl) ?_
          obtain rfl := Option.some.inj hM
          exact (Imp.of (fun i => bif Nat.beq i 10095 then 57 else bif Nat.beq i 10090 then 49 else i) (.cons rfl (DLe.refl _) (.cons rfl (DLe.refl _) (.cons rfl (DLe.refl _) (.cons rfl (DLe.refl _) (.cons rfl (DLe.refl _) (.cons rfl (DLe.refl _) (.cons rfl (DLe.refl _) (.cons rfl (DLe.succ _ _) .nil)))))))) (.cons rfl (.refl _) (.cons rfl (.refl _) (.cons rfl (.refl _) (.cons rfl (.refl _) (.cons rfl (.refl _) (.cons rfl (.refl _) (.cons rfl (.refl _) (.cons rfl (.refl _) (.cons rfl (.refl _) (.cons rfl (.refl _) (.cons rfl (.refl _) (.cons rfl (.refl _) (.cons rfl (.refl _) .nil))))))))))))) rfl rfl rfl)
        · replace hM := (of_if hM).2 (Bool.eq_false_iff.2 h163)
          by_cases h160 : (v150 == 1) = true
          · replace hM := (of_if hM).1 h160
            obtain rfl : v150 = 1 := eq_of_beq h160
            obtain ⟨h161, hM⟩ := of_chk hM
            refine a_region (.cons (o_move rfl) <| .cons (o_move rfl) <| .cons (o_indexAddr_a 1 rfl rfl rfl (by decide)) <| .cons (o_load_s rfl rfl rfl) <| .cons (o_move rfl) <| .cons (t_build (DV.int .i64) ([(k126 : Int)] : List Int) rfl rfl rfl rfl rfl rfl rfl) <| .cons (t_append [(k126 : Int)] h161 rfl rfl rfl (Src.row rfl)) <| .cons (o_indexAddr_a 1 rfl rfl rfl (by decide)) <| .cons (o_store_s rfl rfl rfl rfl rfl) <| .nil _) (by kernel_rfl) (by kernel_rfl) ?_
            obtain ⟨h162, hM⟩ := of_chk hM
            refine a_region (.cons (o_move rfl) <| .cons (o_move rfl) <| .cons (o_indexAddr_a 1 rfl rfl rfl (by decide)) <| .cons (o_load_s rfl rfl rfl) <| .cons (o_move rfl) <| .cons (t_build (DV.int .i64) ([v145] : List Int) rfl rfl rfl rfl rfl rfl rfl) <| .cons (t_append [v145] h162 rfl rfl rfl (Src.row rfl)) <| .cons (o_indexAddr_a 1 rfl rfl rfl (by decide)) <| .cons (o_store_s rfl rfl rfl rfl rfl) <| .nil _) (by kernel_rfl) (by kernel_rfl) ?_
            refine a_region (.cons (o_add rfl rfl (inR_i64 hk126 hx126)) <| .cons (o_move rfl) <| .nil _) (by kernel_rfl) (by kernel_rfl) ?_
            obtain rfl := Option.some.inj hM
            exact (Imp.of (fun i => bif Nat.beq i 10096 then 57 else bif Nat.beq i 10091 then 49 else i) (.cons rfl (DLe.refl _) (.cons rfl (DLe.refl _) (.cons rfl (DLe.refl _) (.cons rfl (DLe.refl _) (.cons rfl (DLe.refl _) (.cons rfl (DLe.refl _) (.cons rfl (DLe.refl _) (.cons rfl (DLe.succ _ _) .nil)))))))) (.cons rfl (.refl _) (.cons rfl (.refl _) (.cons rfl (.refl _) (.cons rfl (.refl _) (.cons rfl (.refl _) (.cons rfl (.refl _) (.cons rfl (.refl _) (.cons rfl (.refl _) (.cons rfl (.refl _) (.cons rfl (.refl _) (.cons rfl (.refl _) (.cons rfl (.refl _) (.cons rfl (.refl _) .nil))))))))))))) rfl rfl rfl)
          · replace hM := (of_if hM).2 (Bool.eq_false_iff.2 h160)
            by_cases h157 : (v150 == 2) = true
            · replace hM := (of_if hM).1 h157
              obtain rfl : v150 = 2 := eq_of_beq h157
              obtain ⟨h158, hM⟩ := of_chk hM
              refine a_region (.cons (o_move rfl) <| .cons (o_move rfl) <| .cons (o_indexAddr_a 2 rfl rfl rfl (by decide)) <| .cons (o_load_s rfl rfl rfl) <| .cons (o_move rfl) <| .cons (t_build (DV.int .i64) ([(k126 : Int)] : List Int) rfl rfl rfl rfl rfl rfl rfl) <| .cons (t_append [(k126 : Int)] h158 rfl rfl rfl (Src.row rfl)) <| .cons (o_indexAddr_a 2 rfl rfl rfl (by decide)) <| .cons (o_store_s rfl rfl rfl rfl rfl) <| .nil _) (by kernel_rfl) (by kernel_rfl) ?_
              obtain ⟨h159, hM⟩ := of_chk hM
              refine a_region (.cons (o_move rfl) <| .cons (o_move rfl) <| .cons (o_indexAddr_a 2 rfl rfl rfl (by decide)) <| .cons (o_load_s rfl rfl rfl) <| .cons (o_move rfl) <| .cons (t_build (DV.int .i64) ([v145] : List Int) rfl rfl rfl rfl rfl rfl rfl) <| .cons (t_append [v145] h159 rfl rfl rfl (Src.row rfl)) <| .cons (o_indexAddr_a 2 rfl rfl rfl (by decide)) <| .cons (o_store_s rfl rfl rfl rfl rfl) <| .nil _) (by kernel_rfl) (by kernel_rfl) ?_
              refine a_region (.cons (o_add rfl rfl (inR_i64 hk126 hx126)) <| .cons (o_move rfl) <| .nil _) (by kernel_rfl) (by kernel_rfl) ?_
              obtain rfl := Option.some.inj hM
              exact (Imp.of (fun i => bif Nat.beq i 10097 then 57 else bif Nat.beq i 10092 then 49 else i) (.cons rfl (DLe.refl _) (.cons rfl (DLe.refl _) (.cons rfl (DLe.refl _) (.cons rfl (DLe.refl _) (.cons rfl (DLe.refl _) (.cons rfl (DLe.refl _) (.cons rfl (DLe.refl _) (.cons rfl (DLe.succ _ _) .nil)))))))) (.cons rfl (.refl _) (.cons rfl (.refl _) (.cons rfl (.refl _) (.cons rfl (.refl _) (.cons rfl (.refl _) (.cons rfl (.refl _) (.cons rfl (.refl _) (.cons rfl (.refl _) (.cons rfl (.refl _) (.cons rfl (.refl _) (.cons rfl (.refl _) (.cons rfl (.refl _) (.cons rfl (.refl _) .nil))))))))))))) rfl rfl rfl)
            · replace hM := (of_if hM).2 (Bool.eq_false_iff.2 h157)
              by_cases h154 : (v150 == 3) = true
              · replace hM := (of_if hM).1 h154
                obtain rfl : v150 = 3 := eq_of_beq h154
                obtain ⟨h155, hM⟩ := of_chk hM
                refine a_region (.cons (o_move rfl) <| .cons (o_move rfl) <| .cons (o_indexAddr_a 3 rfl rfl rfl (by decide)) <| .cons (o_load_s rfl rfl rfl) <| .cons (o_move rfl) <| .cons (t_build (DV.int .i64) ([(k126 : Int)] : List Int) rfl rfl rfl rfl rfl rfl rfl) <| .cons (t_append [(k126 : Int)] h155 rfl rfl rfl (Src.row rfl)) <| .cons (o_indexAddr_a 3 rfl rfl rfl (by decide)) <| .cons (o_store_s rfl rfl rfl rfl rfl) <| .nil _) (by kernel_rfl) (by kernel_rfl) ?_
                obtain ⟨h156, hM⟩ := of_chk hM
                refine a_region (.cons (o_move rfl) <| .cons (o_move rfl) <| .cons (o_indexAddr_a 3 rfl rfl rfl (by decide)) <| .cons (o_load_s rfl rfl rfl) <| .cons (o_move rfl) <| .cons (t_build (DV.int .i64) ([v145] : List Int) rfl rfl rfl rfl rfl rfl rfl) <| .cons (t_append [v145] h156 rfl rfl rfl (Src.row rfl)) <| .cons (o_indexAddr_a 3 rfl rfl rfl (by decide)) <| .cons (o_store_s rfl rfl rfl rfl rfl) <| .nil _) (by kernel_rfl) (by kernel_rfl) ?_
                refine a_region (.cons (o_add rfl rfl (inR_i64 hk126 hx126)) <| .cons (o_move rfl) <| .nil _) (by kernel_rfl) (by kernel_rfl) ?_
                obtain rfl := Option.some.inj hM
                exact (Imp.of (fun i => bif Nat.beq i 10098 then 57 else bif Nat.beq i 10093 then 49 else i) (.cons rfl (DLe.refl _) (.cons rfl (DLe.refl _) (.cons rfl (DLe.refl _) (.cons rfl (DLe.refl _) (.cons rfl (DLe.refl _) (.cons rfl (DLe.refl _) (.cons rfl (DLe.refl _) (.cons rfl (DLe.succ _ _) .nil)))))))) (.cons rfl (.refl _) (.cons rfl (.refl _) (.cons rfl (.refl _) (.cons rfl (.refl _) (.cons rfl (.refl _) (.cons rfl (.refl _) (.cons rfl (.refl _) (.cons rfl (.refl _) (.cons rfl (.refl _) (.cons rfl (.refl _) (.cons rfl (.refl _) (.cons rfl (.refl _) (.cons rfl (.refl _) .nil))))))))))))) rfl rfl rfl)
              · replace hM := (of_if hM).2 (Bool.eq_false_iff.2 h154)
                by_cases h151 : (v150 == 4) = true
                · replace hM := (of_if hM).1 h151
                  obtain rfl : v150 = 4 := eq_of_beq h151
                  obtain ⟨h152, hM⟩ := of_chk hM
                  refine a_region (.cons (o_move rfl) <| .cons (o_move rfl) <| .cons (o_indexAddr_a 4 rfl rfl rfl (by decide)) <| .cons (o_load_s rfl rfl rfl) <| .cons (o_move rfl) <| .cons (t_build (DV.int .i64) ([(k126 : Int)] : List Int) rfl rfl rfl rfl rfl rfl rfl) <| .cons (t_append [(k126 : Int)] h152 rfl rfl rfl (Src.row rfl)) <| .cons (o_indexAddr_a 4 rfl rfl rfl (by decide)) <| .cons (o_store_s rfl rfl rfl rfl rfl) <| .nil _) (by kernel_rfl) (by kernel_rfl) ?_
                  obtain ⟨h153, hM⟩ := of_chk hM
                  refine a_region (.cons (o_move rfl) <| .cons (o_move rfl) <| .cons (o_indexAddr_a 4 rfl rfl rfl (by decide)) <| .cons (o_load_s rfl rfl rfl) <| .cons (o_move rfl) <| .cons (t_build (DV.int .i64) ([v145] : List Int) rfl rfl rfl rfl rfl rfl rfl) <| .cons (t_append [v145] h153 rfl rfl rfl (Src.row rfl)) <| .cons (o_indexAddr_a 4 rfl rfl rfl (by decide)) <| .cons (o_store_s rfl rfl rfl rfl rfl) <| .nil _) (by kernel_rfl) (by kernel_rfl) ?_
                  refine a_region (.cons (o_add rfl rfl (inR_i64 hk126 hx126)) <| .cons (o_move rfl) <| .nil _) (by kernel_rfl) (by kernel_rfl) ?_
                  obtain rfl := Option.some.inj hM
                  exact (Imp.of (fun i => bif Nat.beq i 10099 then 57 else bif Nat.beq i 10094 then 49 else i) (.cons rfl (DLe.refl _) (.cons rfl (DLe.refl _) (.cons rfl (DLe.refl _) (.cons rfl (DLe.refl _) (.cons rfl (DLe.refl _) (.cons rfl (DLe.refl _) (.cons rfl (DLe.refl _) (.cons rfl (DLe.succ _ _) .nil)))))))) (.cons rfl (.refl _) (.cons rfl (.refl _) (.cons rfl (.refl _) (.cons rfl (.refl _) (.cons rfl (.refl _) (.cons rfl (.refl _) (.cons rfl (.refl _) (.cons rfl (.refl _) (.cons rfl (.refl _) (.cons rfl (.refl _) (.cons rfl (.refl _) (.cons rfl (.refl _) (.cons rfl (.refl _) .nil))))))))))))) rfl rfl rfl)
                · replace hM := (of_if hM).2 (Bool.eq_false_iff.2 h151)
                  cases hM
    · rintro k126 hk126 hx126
      refine a_seq ?_
      refine a_region (.cons (o_int rfl rfl rfl) <| .nil _) (by kernel_rfl) (by kernel_rfl) ?_
      refine a_seq ?_
      refine a_cond _ rfl (fun c => absurd (of_decide_eq_true c) (Int.not_lt.2 hk126)) (fun _ => ?_)
      refine a_exit ?_
      exact ⟨(a127, a128, a129, a130, a131, a132, a133, a134, a135, a136, a137, a138), hK139, (Imp.of (fun i => bif Nat.beq i 10011 then 10099 else bif Nat.beq i 10010 then 10098 else bif Nat.beq i 10009 then 10097 else bif Nat.beq i 10008 then 10096 else bif Nat.beq i 10007 then 10095 else bif Nat.beq i 10006 then 10094 else bif Nat.beq i 10005 then 10093 else bif Nat.beq i 10004 then 10092 else bif Nat.beq i 10003 then 10091 else bif Nat.beq i 10002 then 10090 else bif Nat.beq i 10001 then 10089 else i) (.cons rfl (DLe.refl _) (.cons rfl (DLe.refl _) (.cons rfl (DLe.refl _) (.cons rfl (DLe.refl _) (.cons rfl (DLe.refl _) .nil))))) (.cons rfl (.refl _) (.cons rfl (.refl _) (.cons rfl (.refl _) (.cons rfl (.refl _) (.cons rfl (.refl _) (.cons rfl (.refl _) (.cons rfl (.refl _) (.cons rfl (.refl _) (.cons rfl (.refl _) (.cons rfl (.refl _) (.cons rfl (.refl _) (.cons rfl (.refl _) (.cons rfl (.refl _) .nil))))))))))))) rfl rfl rfl)⟩
  · rintro ⟨a2, a3, a4, a5, a6, a7, a8, a9, a10, a11, a12, a13⟩ hM
    replace hM : budget_Plan_K14 x1 a2 a3 a4 a5 a6 a7 a8 a9 a10 a11 a12 a13 = some r := hM
    unfold budget_Plan_K14 at hM
    refine a_seq ?_
    refine a_region (.cons (o_move rfl) <| .cons (o_max rfl rfl) <| .cons (o_move rfl) <| .cons (o_int rfl rfl rfl) <| .cons (o_max rfl rfl) <| .cons (o_assign rfl) <| .nil _) (by kernel_rfl) (by kernel_rfl) ?_
    refine a_cut (α := (List Bool) × Int) (fun s => ⟨[(4, .sl 1 (List.map DV.bool s.1)), (5, .int .i64 s.2)], [], []⟩) (fun s => budget_Plan_K17 s.1 s.2 = some r) ?_ ?_
    · refine a_seq ?_
      refine a_region (.cons (o_build rfl rfl rfl) <| .cons (o_move rfl) <| .nil _) (by kernel_rfl) (by kernel_rfl) ?_
      obtain ⟨t22, hL22, hK22⟩ := of_bind hM
      refine a_block ?_
      refine a_for (fun k18 s => ⟨[(4, .row 10012), (5, .int .i64 s.2.1), (6, .ref 6 0), (7, .ref 7 0), (12, .int .i64 s.2.2), (65, .agg [.int .u8 1, .int .u8 2, .int .u8 3, .int .u8 4, .int .u8 0]), (66, .int .i64 (k18 : Int))], [(6, some (.blk 110 [.row 10013, .row 10014, .row 10015, .row 10016, .row 10017])), (7, some (.blk 110 [.sl 1 (List.map (DV.int .i64) a9), .sl 1 (List.map (DV.int .i64) a10), .sl 1 (List.map (DV.int .i64) a11), .sl 1 (List.map (DV.int .i64) a12), .sl 1 (List.map (DV.int .i64) a13)])), (10012, some (.row 4 1 (List.map DV.bool s.1))), (10013, some (.row 3 1 (List.map (DV.int .i64) a4))), (10014, some (.row 3 1 (List.map (DV.int .i64) a5))), (10015, some (.row 3 1 (List.map (DV.int .i64) a6))), (10016, some (.row 3 1 (List.map (DV.int .i64) a7))), (10017, some (.row 3 1 (List.map (DV.int .i64) a8)))], [6, 7, 10012, 10013, 10014, 10015, 10016, 10017]⟩) _ hL22 ((Imp.freeze (id := 10007) rfl).trans ((Imp.freeze (id := 10008) rfl).trans ((Imp.freeze (id := 10009) rfl).trans ((Imp.freeze (id := 10010) rfl).trans ((Imp.freeze (id := 10011) rfl).trans (Imp.of (fun i => bif Nat.beq i 10017 then 10006 else bif Nat.beq i 10016 then 10005 else bif Nat.beq i 10015 then 10004 else bif Nat.beq i 10014 then 10003 else bif Nat.beq i 10013 then 10002 else bif Nat.beq i 10012 then 10001 else i) (.cons rfl (DLe.refl _) (.cons rfl (DLe.refl _) (.cons rfl (DLe.refl _) (.cons rfl (DLe.refl _) (.cons rfl (DLe.refl _) (.cons rfl (DLe.refl _) (.cons rfl (DLe.refl _) .nil))))))) (.cons rfl (.refl _) (.cons rfl (.refl _) (.cons rfl (.refl _) (.cons rfl (.refl _) (.cons rfl (.refl _) (.cons rfl (.refl _) (.cons rfl (.refl _) (.cons rfl (.refl _) .nil)))))))) rfl rfl rfl)))))) ?_ ?_
      · rintro k18 ⟨a19, a20, a21⟩ t23 hk18 hx18 hM hE22
        replace hM : budget_Plan_L22 a4 a5 a6 a7 a8 a9 a10 a11 a12 a13 k18 a19 a20 a21 = some t23 := hM
        unfold budget_Plan_L22 at hM
        refine a_seq ?_
        refine a_region (.cons (o_int rfl rfl rfl) <| .nil _) (by kernel_rfl) (by kernel_rfl) ?_
        refine a_seq ?_
        refine a_cond _ rfl (fun _ => ?_) (fun c => absurd hk18 (of_decide_eq_false c))
        refine a_skip ?_
        refine a_cut (α := (List Bool) × Int × Int) (fun s => ⟨[(4, .row 10023), (5, .int .i64 s.2.1), (6, .ref 6 0), (7, .ref 7 0), (12, .int .i64 s.2.2), (65, .agg [.int .u8 1, .int .u8 2, .int .u8 3, .int .u8 4, .int .u8 0]), (66, .int .i64 (k18 : Int))], [(6, some (.blk 110 [.row 10024, .row 10025, .row 10026, .row 10027, .row 10028])), (7, some (.blk 110 [.sl 1 (List.map (DV.int .i64) a9), .sl 1 (List.map (DV.int .i64) a10), .sl 1 (List.map (DV.int .i64) a11), .sl 1 (List.map (DV.int .i64) a12), .sl 1 (List.map (DV.int .i64) a13)])), (10023, some (.row 4 1 (List.map DV.bool s.1))), (10024, some (.row 3 1 (List.map (DV.int .i64) a4))), (10025, some (.row 3 1 (List.map (DV.int .i64) a5))), (10026, some (.row 3 1 (List.map (DV.int .i64) a6))), (10027, some (.row 3 1 (List.map (DV.int .i64) a7))), (10028, some (.row 3 1 (List.map (DV.int .i64) a8)))], [6, 7, 10023, 10024, 10025, 10026, 10027, 10028]⟩) (fun s => budget_Plan_K28 s.1 s.2.1 s.2.2 = some t23) ?_ ?_
        · refine a_block ?_
          refine a_seq ?_
          obtain ⟨v30, h29, hM⟩ := of_bind hM
          refine a_region (.cons (t_idxL (DV.int .u8) ([1, 2, 3, 4, 0] : List Int) h29 rfl rfl rfl) <| .cons (o_assign rfl) <| .nil _) (by kernel_rfl) (by kernel_rfl) ?_
          refine a_seq ?_
          by_cases h107 : (v30 == 0) = true
          · replace hM := (of_if hM).1 h107
            obtain rfl : v30 = 0 := eq_of_beq h107
            obtain ⟨v109, h108, hM⟩ := of_bind hM
            refine a_region (.cons (o_move rfl) <| .cons (o_indexAddr_a 0 rfl rfl rfl (by decide)) <| .cons (o_load_s rfl rfl rfl) <| .cons (o_move rfl) <| .cons (o_call (budget_most_c h108) rfl (DLeL.refl _) rfl) <| .cons (o_move rfl) <| .cons (o_extract rfl rfl) <| .cons (o_extract rfl rfl) <| .cons (o_assign rfl) <| .cons (o_assign rfl) <| .nil _) (by kernel_rfl) (by kernel_rfl) ?_
            refine a_cut (α := (List Bool)) (fun s => ⟨[(4, .row 10077), (5, .int .i64 a20), (6, .ref 6 0), (7, .ref 7 0), (12, .int .i64 a21), (14, .int .u8 0), (15, .int .i64 v109.1), (16, .int .i64 v109.2), (65, .agg [.int .u8 1, .int .u8 2, .int .u8 3, .int .u8 4, .int .u8 0]), (66, .int .i64 (k18 : Int))], [(6, some (.blk 110 [.row 10078, .row 10079, .row 10080, .row 10081, .row 10082])), (7, some (.blk 110 [.sl 1 (List.map (DV.int .i64) a9), .sl 1 (List.map (DV.int .i64) a10), .sl 1 (List.map (DV.int .i64) a11), .sl 1 (List.map (DV.int .i64) a12), .sl 1 (List.map (DV.int .i64) a13)])), (10077, some (.row 4 1 (List.map DV.bool s))), (10078, some (.row 3 1 (List.map (DV.int .i64) a4))), (10079, some (.row 3 1 (List.map (DV.int .i64) a5))), (10080, some (.row 3 1 (List.map (DV.int .i64) a6))), (10081, some (.row 3 1 (List.map (DV.int .i64) a7))), (10082, some (.row 3 1 (List.map (DV.int .i64) a8)))], [6, 7, 10077, 10078, 10079, 10080, 10081, 10082]⟩) (fun s => budget_Plan_K111 a4 a20 a21 v109 s = some t23) ?_ ?_
            · refine a_seq ?_
              obtain ⟨v114, h113, hM⟩ := of_bind hM
              refine a_region (.cons (o_move rfl) <| .cons (o_indexAddr_a 0 rfl rfl rfl (by decide)) <| .cons (o_load_s rfl rfl rfl) <| .cons (t_len_r rfl rfl) <| .cons (o_move rfl) <| .cons (o_call (budget_Spread_c h113) rfl (DLeL.refl _) rfl) <| .cons (t_len rfl) <| .cons (o_move rfl) <| .nil _) (by kernel_rfl) (by kernel_rfl) ?_
              obtain ⟨a116, hL117, hK117⟩ := of_bind hM
              refine a_block ?_
              refine a_fold (fun k115 s => ⟨[(4, .row 10083), (5, .int .i64 a20), (6, .ref 6 0), (7, .ref 7 0), (12, .int .i64 a21), (14, .int .u8 0), (15, .int .i64 v109.1), (16, .int .i64 v109.2), (65, .agg [.int .u8 1, .int .u8 2, .int .u8 3, .int .u8 4, .int .u8 0]), (66, .int .i64 (k18 : Int)), (82, .sl 1 (List.map (DV.int .i64) v114)), (83, .int .i64 (List.length v114 : Int)), (84, .int .i64 (k115 : Int))], [(6, some (.blk 110 [.row 10084, .row 10085, .row 10086, .row 10087, .row 10088])), (7, some (.blk 110 [.sl 1 (List.map (DV.int .i64) a9), .sl 1 (List.map (DV.int .i64) a10), .sl 1 (List.map (DV.int .i64) a11), .sl 1 (List.map (DV.int .i64) a12), .sl 1 (List.map (DV.int .i64) a13)])), (10083, some (.row 4 1 (List.map DV.bool s))), (10084, some (.row 3 1 (List.map (DV.int .i64) a4))), (10085, some (.row 3 1 (List.map (DV.int .i64) a5))), (10086, some (.row 3 1 (List.map (DV.int .i64) a6))), (10087, some (.row 3 1 (List.map (DV.int .i64) a7))), (10088, some (.row 3 1 (List.map (DV.int .i64) a8)))], [6, 7, 10083, 10084, 10085, 10086, 10087, 10088]⟩) _ hL117 (Imp.of (fun i => bif Nat.beq i 10088 then 10017 else bif Nat.beq i 10087 then 10016 else bif Nat.beq i 10086 then 10015 else bif Nat.beq i 10085 then 10014 else bif Nat.beq i 10084 then 10013 else bif Nat.beq i 10083 then 10012 else i) (.cons rfl (DLe.refl _) (.cons rfl (DLe.refl _) (.cons rfl (DLe.refl _) (.cons rfl (DLe.refl _) (.cons rfl (DLe.refl _) (.cons rfl (DLe.refl _) (.cons rfl (DLe.refl _) (.cons rfl (DLe.refl _) (.cons rfl (DLe.refl _) (.cons rfl (DLe.refl _) (.cons rfl (DLe.refl _) (.cons rfl (DLe.refl _) (.cons rfl (DLe.refl _) .nil))))))))))))) (.cons rfl (.refl _) (.cons rfl (.refl _) (.cons rfl (.refl _) (.cons rfl (.refl _) (.cons rfl (.refl _) (.cons rfl (.refl _) (.cons rfl (.refl _) (.cons rfl (.refl _) .nil)))))))) rfl rfl rfl) ?_ ?_
              · rintro k115 a116 t118 hk115 hx115 hM
                replace hM : budget_Plan_L117 a4 v114 k115 a116 = some t118 := hM
                unfold budget_Plan_L117 at hM
                refine a_seq ?_
                refine a_region (.cons (o_int rfl rfl rfl) <| .nil _) (by kernel_rfl) (by kernel_rfl) ?_
                refine a_seq ?_
                refine a_cond _ rfl (fun _ => ?_) (fun c => absurd hk115 (of_decide_eq_false c))
                refine a_skip ?_
                refine a_seq ?_
                refine a_block ?_
                refine a_seq ?_
                obtain ⟨v121, h120, hM⟩ := of_bind hM
                refine a_region (.cons (t_index h120 rfl rfl rfl) <| .cons (o_load_es rfl rfl) <| .cons (o_assign rfl) <| .nil _) (by kernel_rfl) (by kernel_rfl) ?_
                obtain ⟨v123, h122, hM⟩ := of_bind hM
                obtain ⟨v125, h124, hM⟩ := of_bind hM
                refine a_region (.cons (o_move rfl) <| .cons (o_move rfl) <| .cons (o_indexAddr_a 0 rfl rfl rfl (by decide)) <| .cons (o_load_s rfl rfl rfl) <| .cons (o_move rfl) <| .cons (t_index_r h122 rfl rfl rfl) <| .cons (t_load_ps h122 rfl rfl rfl rfl) <| .cons (t_index_r h124 rfl rfl rfl) <| .cons (t_store_p true h124 rfl rfl rfl rfl rfl rfl rfl rfl rfl rfl rfl) <| .nil _) (by kernel_rfl) (by kernel_rfl) ?_
                refine a_region (.cons (o_add rfl rfl (inR_i64 hk115 hx115)) <| .cons (o_move rfl) <| .nil _) (by kernel_rfl) (by kernel_rfl) ?_
                obtain rfl := Option.some.inj hM
                exact (Imp.of (fun i => i) (.cons rfl (DLe.refl _) (.cons rfl (DLe.refl _) (.cons rfl (DLe.refl _) (.cons rfl (DLe.refl _) (.cons rfl (DLe.refl _) (.cons rfl (DLe.refl _) (.cons rfl (DLe.refl _) (.cons rfl (DLe.refl _) (.cons rfl (DLe.refl _) (.cons rfl (DLe.refl _) (.cons rfl (DLe.refl _) (.cons rfl (DLe.refl _) (.cons rfl (DLe.succ _ _) .nil))))))))))))) (.cons rfl (.refl _) (.cons rfl (.refl _) (.cons rfl (.refl _) (.cons rfl (.refl _) (.cons rfl (.refl _) (.cons rfl (.refl _) (.cons rfl (.refl _) (.cons rfl (.refl _) .nil)))))))) rfl rfl rfl)
              · rintro k115 hk115 hx115
                refine a_seq ?_
                refine a_region (.cons (o_int rfl rfl rfl) <| .nil _) (by kernel_rfl) (by kernel_rfl) ?_
                refine a_seq ?_
                refine a_cond _ rfl (fun c => absurd (of_decide_eq_true c) (Int.not_lt.2 hk115)) (fun _ => ?_)
                refine a_exit ?_
                exact ⟨a116, hK117, (Imp.of (fun i => bif Nat.beq i 10082 then 10088 else bif Nat.beq i 10081 then 10087 else bif Nat.beq i 10080 then 10086 else bif Nat.beq i 10079 then 10085 else bif Nat.beq i 10078 then 10084 else bif Nat.beq i 10077 then 10083 else i) (.cons rfl (DLe.refl _) (.cons rfl (DLe.refl _) (.cons rfl (DLe.refl _) (.cons rfl (DLe.refl _) (.cons rfl (DLe.refl _) (.cons rfl (DLe.refl _) (.cons rfl (DLe.refl _) (.cons rfl (DLe.refl _) (.cons rfl (DLe.refl _) (.cons rfl (DLe.refl _) .nil)))))))))) (.cons rfl (.refl _) (.cons rfl (.refl _) (.cons rfl (.refl _) (.cons rfl (.refl _) (.cons rfl (.refl _) (.cons rfl (.refl _) (.cons rfl (.refl _) (.cons rfl (.refl _) .nil)))))))) rfl rfl rfl)⟩
            · rintro a110 hM
              replace hM : budget_Plan_K111 a4 a20 a21 v109 a110 = some t23 := hM
              unfold budget_Plan_K111 at hM
              refine a_seq ?_
              refine a_region (.cons (o_move rfl) <| .cons (o_move rfl) <| .cons (o_int rfl rfl rfl) <| .cons (o_assign rfl) <| .nil _) (by kernel_rfl) (by kernel_rfl) ?_
              refine a_seq ?_
              refine a_region (.cons (o_move rfl) <| .cons (o_move rfl) <| .cons (o_int rfl rfl rfl) <| .cons (o_assign rfl) <| .nil _) (by kernel_rfl) (by kernel_rfl) ?_
              refine a_seq ?_
              refine a_region (.cons (o_move rfl) <| .cons (o_move rfl) <| .cons (o_indexAddr_a 0 rfl rfl rfl (by decide)) <| .cons (o_load_s rfl rfl rfl) <| .cons (t_len_r rfl rfl) <| .cons (o_int rfl rfl rfl) <| .nil _) (by kernel_rfl) (by kernel_rfl) ?_
              refine a_cond _ rfl (fun h112 => ?_) (fun h112 => ?_)
              · replace hM := (of_if hM).1 h112
                refine a_exit ?_
                obtain rfl := Option.some.inj hM
                obtain rfl := hE22 _ rfl
                exact ⟨(a110, (IntKind.wrap .i64 (a20 + v109.2))), hK22, ((Imp.freeze (id := 10077) rfl).trans (Imp.of (fun i => i) (.cons rfl (DLe.refl _) (.cons rfl (DLe.refl _) .nil)) .nil rfl rfl rfl))⟩
              · replace hM := (of_if hM).2 h112
                refine a_skip ?_
                exact ⟨(a110, (IntKind.wrap .i64 (a20 + v109.2)), (IntKind.wrap .i64 (a21 - v109.2))), hM, (Imp.of (fun i => bif Nat.beq i 10028 then 10082 else bif Nat.beq i 10027 then 10081 else bif Nat.beq i 10026 then 10080 else bif Nat.beq i 10025 then 10079 else bif Nat.beq i 10024 then 10078 else bif Nat.beq i 10023 then 10077 else i) (.cons rfl (DLe.refl _) (.cons rfl (DLe.refl _) (.cons rfl (DLe.refl _) (.cons rfl (DLe.refl _) (.cons rfl (DLe.refl _) (.cons rfl (DLe.refl _) (.cons rfl (DLe.refl _) .nil))))))) (.cons rfl (.refl _) (.cons rfl (.refl _) (.cons rfl (.refl _) (.cons rfl (.refl _) (.cons rfl (.refl _) (.cons rfl (.refl _) (.cons rfl (.refl _) (.cons rfl (.refl _) .nil)))))))) rfl rfl rfl)⟩
          · replace hM := (of_if hM).2 (Bool.eq_false_iff.2 h107)
            by_cases h88 : (v30 == 1) = true
            · replace hM := (of_if hM).1 h88
              obtain rfl : v30 = 1 := eq_of_beq h88
              obtain ⟨v90, h89, hM⟩ := of_bind hM
              refine a_region (.cons (o_move rfl) <| .cons (o_indexAddr_a 1 rfl rfl rfl (by decide)) <| .cons (o_load_s rfl rfl rfl) <| .cons (o_move rfl) <| .cons (o_call (budget_most_c h89) rfl (DLeL.refl _) rfl) <| .cons (o_move rfl) <| .cons (o_extract rfl rfl) <| .cons (o_extract rfl rfl) <| .cons (o_assign rfl) <| .cons (o_assign rfl) <| .nil _) (by kernel_rfl) (by kernel_rfl) ?_
              refine a_cut (α := (List Bool)) (fun s => ⟨[(4, .row 10065), (5, .int .i64 a20), (6, .ref 6 0), (7, .ref 7 0), (12, .int .i64 a21), (14, .int .u8 1), (15, .int .i64 v90.1), (16, .int .i64 v90.2), (65, .agg [.int .u8 1, .int .u8 2, .int .u8 3, .int .u8 4, .int .u8 0]), (66, .int .i64 (k18 : Int))], [(6, some (.blk 110 [.row 10066, .row 10067, .row 10068, .row 10069, .row 10070])), (7, some (.blk 110 [.sl 1 (List.map (DV.int .i64) a9), .sl 1 (List.map (DV.int .i64) a10), .sl 1 (List.map (DV.int .i64) a11), .sl 1 (List.map (DV.int .i64) a12), .sl 1 (List.map (DV.int .i64) a13)])), (10065, some (.row 4 1 (List.map DV.bool s))), (10066, some (.row 3 1 (List.map (DV.int .i64) a4))), (10067, some (.row 3 1 (List.map (DV.int .i64) a5))), (10068, some (.row 3 1 (List.map (DV.int .i64) a6))), (10069, some (.row 3 1 (List.map (DV.int .i64) a7))), (10070, some (.row 3 1 (List.map (DV.int .i64) a8)))], [6, 7, 10065, 10066, 10067, 10068, 10069, 10070]⟩) (fun s => budget_Plan_K92 a5 a20 a21 v90 s = some t23) ?_ ?_
              · refine a_seq ?_
                obtain ⟨v95, h94, hM⟩ := of_bind hM
                refine a_region (.cons (o_move rfl) <| .cons (o_indexAddr_a 1 rfl rfl rfl (by decide)) <| .cons (o_load_s rfl rfl rfl) <| .cons (t_len_r rfl rfl) <| .cons (o_move rfl) <| .cons (o_call (budget_Spread_c h94) rfl (DLeL.refl _) rfl) <| .cons (t_len rfl) <| .cons (o_move rfl) <| .nil _) (by kernel_rfl) (by kernel_rfl) ?_
                obtain ⟨a97, hL98, hK98⟩ := of_bind hM
                refine a_block ?_
                refine a_fold (fun k96 s => ⟨[(4, .row 10071), (5, .int .i64 a20), (6, .ref 6 0), (7, .ref 7 0), (12, .int .i64 a21), (14, .int .u8 1), (15, .int .i64 v90.1), (16, .int .i64 v90.2), (65, .agg [.int .u8 1, .int .u8 2, .int .u8 3, .int .u8 4, .int .u8 0]), (66, .int .i64 (k18 : Int)), (82, .sl 1 (List.map (DV.int .i64) v95)), (83, .int .i64 (List.length v95 : Int)), (84, .int .i64 (k96 : Int))], [(6, some (.blk 110 [.row 10072, .row 10073, .row 10074, .row 10075, .row 10076])), (7, some (.blk 110 [.sl 1 (List.map (DV.int .i64) a9), .sl 1 (List.map (DV.int .i64) a10), .sl 1 (List.map (DV.int .i64) a11), .sl 1 (List.map (DV.int .i64) a12), .sl 1 (List.map (DV.int .i64) a13)])), (10071, some (.row 4 1 (List.map DV.bool s))), (10072, some (.row 3 1 (List.map (DV.int .i64) a4))), (10073, some (.row 3 1 (List.map (DV.int .i64) a5))), (10074, some (.row 3 1 (List.map (DV.int .i64) a6))), (10075, some (.row 3 1 (List.map (DV.int .i64) a7))), (10076, some (.row 3 1 (List.map (DV.int .i64) a8)))], [6, 7, 10071, 10072, 10073, 10074, 10075, 10076]⟩) _ hL98 (Imp.of (fun i => bif Nat.beq i 10076 then 10017 else bif Nat.beq i 10075 then 10016 else bif Nat.beq i 10074 then 10015 else bif Nat.beq i 10073 then 10014 else bif Nat.beq i 10072 then 10013 else bif Nat.beq i 10071 then 10012 else i) (.cons rfl (DLe.refl _) (.cons rfl (DLe.refl _) (.cons rfl (DLe.refl _) (.cons rfl (DLe.refl _) (.cons rfl (DLe.refl _) (.cons rfl (DLe.refl _) (.cons rfl (DLe.refl _) (.cons rfl (DLe.refl _) (.cons rfl (DLe.refl _) (.cons rfl (DLe.refl _) (.cons rfl (DLe.refl _) (.cons rfl (DLe.refl _) (.cons rfl (DLe.refl _) .nil))))))))))))) (.cons rfl (.refl _) (.cons rfl (.refl _) (.cons rfl (.refl _) (.cons rfl (.refl _) (.cons rfl (.refl _) (.cons rfl (.refl _) (.cons rfl (.refl _) (.cons rfl (.refl _) .nil)))))))) rfl rfl rfl) ?_ ?_
                · rintro k96 a97 t99 hk96 hx96 hM
                  replace hM : budget_Plan_L98 a5 v95 k96 a97 = some t99 := hM
                  unfold budget_Plan_L98 at hM
                  refine a_seq ?_
                  refine a_region (.cons (o_int rfl rfl rfl) <| .nil _) (by kernel_rfl) (by kernel_rfl) ?_
                  refine a_seq ?_
                  refine a_cond _ rfl (fun _ => ?_) (fun c => absurd hk96 (of_decide_eq_false c))
                  refine a_skip ?_
                  refine a_seq ?_
                  refine a_block ?_
                  refine a_seq ?_
                  obtain ⟨v102, h101, hM⟩ := of_bind hM
                  refine a_region (.cons (t_index h101 rfl rfl rfl) <| .cons (o_load_es rfl rfl) <| .cons (o_assign rfl) <| .nil _) (by kernel_rfl) (by kernel_rfl) ?_
                  obtain ⟨v104, h103, hM⟩ := of_bind hM
                  obtain ⟨v106, h105, hM⟩ := of_bind hM
                  refine a_region (.cons (o_move rfl) <| .cons (o_move rfl) <| .cons (o_indexAddr_a 1 rfl rfl rfl (by decide)) <| .cons (o_load_s rfl rfl rfl) <| .cons (o_move rfl) <| .cons (t_index_r h103 rfl rfl rfl) <| .cons (t_load_ps h103 rfl rfl rfl rfl) <| .cons (t_index_r h105 rfl rfl rfl) <| .cons (t_store_p true h105 rfl rfl rfl rfl rfl rfl rfl rfl rfl rfl rfl) <| .nil _) (by kernel_rfl) (by kernel_rfl) ?_
                  refine a_region (.cons (o_add rfl rfl (inR_i64 hk96 hx96)) <| .cons (o_move rfl) <| .nil _) (by kernel_rfl) (by kernel_rfl) ?_
                  obtain rfl := Option.some.inj hM
                  exact (Imp.of (fun i => i) (.cons rfl (DLe.refl _) (.cons rfl (DLe.refl _) (.cons rfl (DLe.refl _) (.cons rfl (DLe.refl _) (.cons rfl (DLe.refl _) (.cons rfl (DLe.refl _) (.cons rfl (DLe.refl _) (.cons rfl (DLe.refl _) (.cons rfl (DLe.refl _) (.cons rfl (DLe.refl _) (.cons rfl (DLe.refl _) (.cons rfl (DLe.refl _) (.cons rfl (DLe.succ _ _) .nil))))))))))))) (.cons rfl (.refl _) (.cons rfl (.refl _) (.cons rfl (.refl _) (.cons rfl (.refl _) (.cons rfl (.refl _) (.cons rfl (.refl _) (.cons rfl (.refl _) (.cons rfl (.refl _) .nil)))))))) rfl rfl rfl)
                · rintro k96 hk96 hx96
                  refine a_seq ?_
                  refine a_region (.cons (o_int rfl rfl rfl) <| .nil _) (by kernel_rfl) (by kernel_rfl) ?_
                  refine a_seq ?_
                  refine a_cond _ rfl (fun c => absurd (of_decide_eq_true c) (Int.not_lt.2 hk96)) (fun _ => ?_)
                  refine a_exit ?_
                  exact ⟨a97, hK98, (Imp.of (fun i => bif Nat.beq i 10070 then 10076 else bif Nat.beq i 10069 then 10075 else bif Nat.beq i 10068 then 10074 else bif Nat.beq i 10067 then 10073 else bif Nat.beq i 10066 then 10072 else bif Nat.beq i 10065 then 10071 else i) (.cons rfl (DLe.refl _) (.cons rfl (DLe.refl _) (.cons rfl (DLe.refl _) (.cons rfl (DLe.refl _) (.cons rfl (DLe.refl _) (.cons rfl (DLe.refl _) (.cons rfl (DLe.refl _) (.cons rfl (DLe.refl _) (.cons rfl (DLe.refl _) (.cons rfl (DLe.refl _) .nil)))))))))) (.cons rfl (.refl _) (.cons rfl (.refl _) (.cons rfl (.refl _) (.cons rfl (.refl _) (.cons rfl (.refl _) (.cons rfl (.refl _) (.cons rfl (.refl _) (.cons rfl (.refl _) .nil)))))))) rfl rfl rfl)⟩
              · rintro a91 hM
                replace hM : budget_Plan_K92 a5 a20 a21 v90 a91 = some t23 := hM
                unfold budget_Plan_K92 at hM
                refine a_seq ?_
                refine a_region (.cons (o_move rfl) <| .cons (o_move rfl) <| .cons (o_int rfl rfl rfl) <| .cons (o_assign rfl) <| .nil _) (by kernel_rfl) (by kernel_rfl) ?_
                refine a_seq ?_
                refine a_region (.cons (o_move rfl) <| .cons (o_move rfl) <| .cons (o_int rfl rfl rfl) <| .cons (o_assign rfl) <| .nil _) (by kernel_rfl) (by kernel_rfl) ?_
                refine a_seq ?_
                refine a_region (.cons (o_move rfl) <| .cons (o_move rfl) <| .cons (o_indexAddr_a 1 rfl rfl rfl (by decide)) <| .cons (o_load_s rfl rfl rfl) <| .cons (t_len_r rfl rfl) <| .cons (o_int rfl rfl rfl) <| .nil _) (by kernel_rfl) (by kernel_rfl) ?_
                refine a_cond _ rfl (fun h93 => ?_) (fun h93 => ?_)
                · replace hM := (of_if hM).1 h93
                  refine a_exit ?_
                  obtain rfl := Option.some.inj hM
                  obtain rfl := hE22 _ rfl
                  exact ⟨(a91, (IntKind.wrap .i64 (a20 + v90.2))), hK22, ((Imp.freeze (id := 10065) rfl).trans (Imp.of (fun i => i) (.cons rfl (DLe.refl _) (.cons rfl (DLe.refl _) .nil)) .nil rfl rfl rfl))⟩
                · replace hM := (of_if hM).2 h93
                  refine a_skip ?_
                  exact ⟨(a91, (IntKind.wrap .i64 (a20 + v90.2)), (IntKind.wrap .i64 (a21 - v90.2))), hM, (Imp.of (fun i => bif Nat.beq i 10028 then 10070 else bif Nat.beq i 10027 then 10069 else bif Nat.beq i 10026 then 10068 else bif Nat.beq i 10025 then 10067 else bif Nat.beq i 10024 then 10066 else bif Nat.beq i 10023 then 10065 else i) (.cons rfl (DLe.refl _) (.cons rfl (DLe.refl _) (.cons rfl (DLe.refl _) (.cons rfl (DLe.refl _) (.cons rfl (DLe.refl _) (.cons rfl (DLe.refl _) (.cons rfl (DLe.refl _) .nil))))))) (.cons rfl (.refl _) (.cons rfl (.refl _) (.cons rfl (.refl _) (.cons rfl (.refl _) (.cons rfl (.refl _) (.cons rfl (.refl _) (.cons rfl (.refl _) (.cons rfl (.refl _) .nil)))))))) rfl rfl rfl)⟩
            · replace hM := (of_if hM).2 (Bool.eq_false_iff.2 h88)
              by_cases h69 : (v30 == 2) = true
              · replace hM := (of_if hM).1 h69
                obtain rfl : v30 = 2 := eq_of_beq h69
                obtain ⟨v71, h70, hM⟩ := of_bind hM
                refine a_region (.cons (o_move rfl) <| .cons (o_indexAddr_a 2 rfl rfl rfl (by decide)) <| .cons (o_load_s rfl rfl rfl) <| .cons (o_move rfl) <| .cons (o_call (budget_most_c h70) rfl (DLeL.refl _) rfl) <| .cons (o_move rfl) <| .cons (o_extract rfl rfl) <| .cons (o_extract rfl rfl) <| .cons (o_assign rfl) <| .cons (o_assign rfl) <| .nil _) (by kernel_rfl) (by kernel_rfl) ?_
                refine a_cut (α := (List Bool)) (fun s => ⟨[(4, .row 10053), (5, .int .i64 a20), (6, .ref 6 0), (7, .ref 7 0), (12, .int .i64 a21), (14, .int .u8 2), (15, .int .i64 v71.1), (16, .int .i64 v71.2), (65, .agg [.int .u8 1, .int .u8 2, .int .u8 3, .int .u8 4, .int .u8 0]), (66, .int .i64 (k18 : Int))], [(6, some (.blk 110 [.row 10054, .row 10055, .row 10056, .row 10057, .row 10058])), (7, some (.blk 110 [.sl 1 (List.map (DV.int .i64) a9), .sl 1 (List.map (DV.int .i64) a10), .sl 1 (List.map (DV.int .i64) a11), .sl 1 (List.map (DV.int .i64) a12), .sl 1 (List.map (DV.int .i64) a13)])), (10053, some (.row 4 1 (List.map DV.bool s))), (10054, some (.row 3 1 (List.map (DV.int .i64) a4))), (10055, some (.row 3 1 (List.map (DV.int .i64) a5))), (10056, some (.row 3 1 (List.map (DV.int .i64) a6))), (10057, some (.row 3 1 (List.map (DV.int .i64) a7))), (10058, some (.row 3 1 (List.map (DV.int .i64) a8)))], [6, 7, 10053, 10054, 10055, 10056, 10057, 10058]⟩) (fun s => budget_Plan_K73 a6 a20 a21 v71 s = some t23) ?_ ?_
                · refine a_seq ?_
                  obtain ⟨v76, h75, hM⟩ := of_bind hM
                  refine a_region (.cons (o_move rfl) <| .cons (o_indexAddr_a 2 rfl rfl rfl (by decide)) <| .cons (o_load_s rfl rfl rfl) <| .cons (t_len_r rfl rfl) <| .cons (o_move rfl) <| .cons (o_call (budget_Spread_c h75) rfl (DLeL.refl _) rfl) <| .cons (t_len rfl) <| .cons (o_move rfl) <| .nil _) (by kernel_rfl) (by kernel_rfl) ?_
                  obtain ⟨a78, hL79, hK79⟩ := of_bind hM
                  refine a_block ?_
                  refine a_fold (fun k77 s => ⟨[(4, .row 10059), (5, .int .i64 a20), (6, .ref 6 0), (7, .ref 7 0), (12, .int .i64 a21), (14, .int .u8 2), (15, .int .i64 v71.1), (16, .int .i64 v71.2), (65, .agg [.int .u8 1, .int .u8 2, .int .u8 3, .int .u8 4, .int .u8 0]), (66, .int .i64 (k18 : Int)), (82, .sl 1 (List.map (DV.int .i64) v76)), (83, .int .i64 (List.length v76 : Int)), (84, .int .i64 (k77 : Int))], [(6, some (.blk 110 [.row 10060, .row 10061, .row 10062, .row 10063, .row 10064])), (7, some (.blk 110 [.sl 1 (List.map (DV.int .i64) a9), .sl 1 (List.map (DV.int .i64) a10), .sl 1 (List.map (DV.int .i64) a11), .sl 1 (List.map (DV.int .i64) a12), .sl 1 (List.map (DV.int .i64) a13)])), (10059, some (.row 4 1 (List.map DV.bool s))), (10060, some (.row 3 1 (List.map (DV.int .i64) a4))), (10061, some (.row 3 1 (List.map (DV.int .i64) a5))), (10062, some (.row 3 1 (List.map (DV.int .i64) a6))), (10063, some (.row 3 1 (List.map (DV.int .i64) a7))), (10064, some (.row 3 1 (List.map (DV.int .i64) a8)))], [6, 7, 10059, 10060, 10061, 10062, 10063, 10064]⟩) _ hL79 (Imp.of (fun i => bif Nat.beq i 10064 then 10017 else bif Nat.beq i 10063 then 10016 else bif Nat.beq i 10062 then 10015 else bif Nat.beq i 10061 then 10014 else bif Nat.beq i 10060 then 10013 else bif Nat.beq i 10059 then 10012 else i) (.cons rfl (DLe.refl _) (.cons rfl (DLe.refl _) (.cons rfl (DLe.refl _) (.cons rfl (DLe.refl _) (.cons rfl (DLe.refl _) (.cons rfl (DLe.refl _) (.cons rfl (DLe.refl _) (.cons rfl (DLe.refl _) (.cons rfl (DLe.refl _) (.cons rfl (DLe.refl _) (.cons rfl (DLe.refl _) (.cons rfl (DLe.refl _) (.cons rfl (DLe.refl _) .nil))))))))))))) (.cons rfl (.refl _) (.cons rfl (.refl _) (.cons rfl (.refl _) (.cons rfl (.refl _) (.cons rfl (.refl _) (.cons rfl (.refl _) (.cons rfl (.refl _) (.cons rfl (.refl _) .nil)))))))) rfl rfl rfl) ?_ ?_
                  · rintro k77 a78 t80 hk77 hx77 hM
                    replace hM : budget_Plan_L79 a6 v76 k77 a78 = some t80 := hM
                    unfold budget_Plan_L79 at hM
                    refine a_seq ?_
                    refine a_region (.cons (o_int rfl rfl rfl) <| .nil _) (by kernel_rfl) (by kernel_rfl) ?_
                    refine a_seq ?_
                    refine a_cond _ rfl (fun _ => ?_) (fun c => absurd hk77 (of_decide_eq_false c))
                    refine a_skip ?_
                    refine a_seq ?_
                    refine a_block ?_
                    refine a_seq ?_
                    obtain ⟨v83, h82, hM⟩ := of_bind hM
                    refine a_region (.cons (t_index h82 rfl rfl rfl) <| .cons (o_load_es rfl rfl) <| .cons (o_assign rfl) <| .nil _) (by kernel_rfl) (by kernel_rfl) ?_
                    obtain ⟨v85, h84, hM⟩ := of_bind hM
                    obtain ⟨v87, h86, hM⟩ := of_bind hM
                    refine a_region (.cons (o_move rfl) <| .cons (o_move rfl) <| .cons (o_indexAddr_a 2 rfl rfl rfl (by decide)) <| .cons (o_load_s rfl rfl rfl) <| .cons (o_move rfl) <| .cons (t_index_r h84 rfl rfl rfl) <| .cons (t_load_ps h84 rfl rfl rfl rfl) <| .cons (t_index_r h86 rfl rfl rfl) <| .cons (t_store_p true h86 rfl rfl rfl rfl rfl rfl rfl rfl rfl rfl rfl) <| .nil _) (by kernel_rfl) (by kernel_rfl) ?_
                    refine a_region (.cons (o_add rfl rfl (inR_i64 hk77 hx77)) <| .cons (o_move rfl) <| .nil _) (by kernel_rfl) (by kernel_rfl) ?_
                    obtain rfl := Option.some.inj hM
                    exact (Imp.of (fun i => i) (.cons rfl (DLe.refl _) (.cons rfl (DLe.refl _) (.cons rfl (DLe.refl _) (.cons rfl (DLe.refl _) (.cons rfl (DLe.refl _) (.cons rfl (DLe.refl _) (.cons rfl (DLe.refl _) (.cons rfl (DLe.refl _) (.cons rfl (DLe.refl _) (.cons rfl (DLe.refl _) (.cons rfl (DLe.refl _) (.cons rfl (DLe.refl _) (.cons rfl (DLe.succ _ _) .nil))))))))))))) (.cons rfl (.refl _) (.cons rfl (.refl _) (.cons rfl (.refl _) (.cons rfl (.refl _) (.cons rfl (.refl _) (.cons rfl (.refl _) (.cons rfl (.refl _) (.cons rfl (.refl _) .nil)))))))) rfl rfl rfl)
                  · rintro k77 hk77 hx77
                    refine a_seq ?_
                    refine a_region (.cons (o_int rfl rfl rfl) <| .nil _) (by kernel_rfl) (by kernel_rfl) ?_
                    refine a_seq ?_
                    refine a_cond _ rfl (fun c => absurd (of_decide_eq_true c) (Int.not_lt.2 hk77)) (fun _ => ?_)
                    refine a_exit ?_
                    exact ⟨a78, hK79, (Imp.of (fun i => bif Nat.beq i 10058 then 10064 else bif Nat.beq i 10057 then 10063 else bif Nat.beq i 10056 then 10062 else bif Nat.beq i 10055 then 10061 else bif Nat.beq i 10054 then 10060 else bif Nat.beq i 10053 then 10059 else i) (.cons rfl (DLe.refl _) (.cons rfl (DLe.refl _) (.cons rfl (DLe.refl _) (.cons rfl (DLe.refl _) (.cons rfl (DLe.refl _) (.cons rfl (DLe.refl _) (.cons rfl (DLe.refl _) (.cons rfl (DLe.refl _) (.cons rfl (DLe.refl _) (.cons rfl (DLe.refl _) .nil)))))))))) (.cons rfl (.refl _) (.cons rfl (.refl _) (.cons rfl (.refl _) (.cons rfl (.refl _) (.cons rfl (.refl _) (.cons rfl (.refl _) (.cons rfl (.refl _) (.cons rfl (.refl _) .nil)))))))) rfl rfl rfl)⟩
                · rintro a72 hM
                  replace hM : budget_Plan_K73 a6 a20 a21 v71 a72 = some t23 := hM
                  unfold budget_Plan_K73 at hM
                  refine a_seq ?_
                  refine a_region (.cons (o_move rfl) <| .cons (o_move rfl) <| .cons (o_int rfl rfl rfl) <| .cons (o_assign rfl) <| .nil _) (by kernel_rfl) (by kernel_rfl) ?_
                  refine a_seq ?_
                  refine a_region (.cons (o_move rfl) <| .cons (o_move rfl) <| .cons (o_int rfl rfl rfl) <| .cons (o_assign rfl) <| .nil _) (by kernel_rfl) (by kernel_rfl) ?_
                  refine a_seq ?_
                  refine a_region (.cons (o_move rfl) <| .cons (o_move rfl) <| .cons (o_indexAddr_a 2 rfl rfl rfl (by decide)) <| .cons (o_load_s rfl rfl rfl) <| .cons (t_len_r rfl rfl) <| .cons (o_int rfl rfl rfl) <| .nil _) (by kernel_rfl) (by kernel_rfl) ?_
                  refine a_cond _ rfl (fun h74 => ?_) (fun h74 => ?_)
                  · replace hM := (of_if hM).1 h74
                    refine a_exit ?_
                    obtain rfl := Option.some.inj hM
                    obtain rfl := hE22 _ rfl
                    exact ⟨(a72, (IntKind.wrap .i64 (a20 + v71.2))), hK22, ((Imp.freeze (id := 10053) rfl).trans (Imp.of (fun i => i) (.cons rfl (DLe.refl _) (.cons rfl (DLe.refl _) .nil)) .nil rfl rfl rfl))⟩
                  · replace hM := (of_if hM).2 h74
                    refine a_skip ?_
                    exact ⟨(a72, (IntKind.wrap .i64 (a20 + v71.2)), (IntKind.wrap .i64 (a21 - v71.2))), hM, (Imp.of (fun i => bif Nat.beq i 10028 then 10058 else bif Nat.beq i 10027 then 10057 else bif Nat.beq i 10026 then 10056 else bif Nat.beq i 10025 then 10055 else bif Nat.beq i 10024 then 10054 else bif Nat.beq i 10023 then 10053 else i) (.cons rfl (DLe.refl _) (.cons rfl (DLe.refl _) (.cons rfl (DLe.refl _) (.cons rfl (DLe.refl _) (.cons rfl (DLe.refl _) (.cons rfl (DLe.refl _) (.cons rfl (DLe.refl _) .nil))))))) (.cons rfl (.refl _) (.cons rfl (.refl _) (.cons rfl (.refl _) (.cons rfl (.refl _) (.cons rfl (.refl _) (.cons rfl (.refl _) (.cons rfl (.refl _) (.cons rfl (.refl _) .nil)))))))) rfl rfl rfl)⟩
              · replace hM := (of_if hM).2 (Bool.eq_false_iff.2 h69)
                by_cases h50 : (v30 == 3) = true
                · replace hM := (of_if hM).1 h50
                  obtain rfl : v30 = 3 := eq_of_beq h50
                  obtain ⟨v52, h51, hM⟩ := of_bind hM
                  refine a_region (.cons (o_move rfl) <| .cons (o_indexAddr_a 3 rfl rfl rfl (by decide)) <| .cons (o_load_s rfl rfl rfl) <| .cons (o_move rfl) <| .cons (o_call (budget_most_c h51) rfl (DLeL.refl _) rfl) <| .cons (o_move rfl) <| .cons (o_extract rfl rfl) <| .cons (o_extract rfl rfl) <| .cons (o_assign rfl) <| .cons (o_assign rfl) <| .nil _) (by kernel_rfl) (by kernel_rfl) ?_
                  refine a_cut (α := (List Bool)) (fun s => ⟨[(4, .row 10041), (5, .int .i64 a20), (6, .ref 6 0), (7, .ref 7 0), (12, .int .i64 a21), (14, .int .u8 3), (15, .int .i64 v52.1), (16, .int .i64 v52.2), (65, .agg [.int .u8 1, .int .u8 2, .int .u8 3, .int .u8 4, .int .u8 0]), (66, .int .i64 (k18 : Int))], [(6, some (.blk 110 [.row 10042, .row 10043, .row 10044, .row 10045, .row 10046])), (7, some (.blk 110 [.sl 1 (List.map (DV.int .i64) a9), .sl 1 (List.map (DV.int .i64) a10), .sl 1 (List.map (DV.int .i64) a11), .sl 1 (List.map (DV.int .i64) a12), .sl 1 (List.map (DV.int .i64) a13)])), (10041, some (.row 4 1 (List.map DV.bool s))), (10042, some (.row 3 1 (List.map (DV.int .i64) a4))), (10043, some (.row 3 1 (List.map (DV.int .i64) a5))), (10044, some (.row 3 1 (List.map (DV.int .i64) a6))), (10045, some (.row 3 1 (List.map (DV.int .i64) a7))), (10046, some (.row 3 1 (List.map (DV.int .i64) a8)))], [6, 7, 10041, 10042, 10043, 10044, 10045, 10046]⟩) (fun s => budget_Plan_K54 a7 a20 a21 v52 s = some t23) ?_ ?_
                  · refine a_seq ?_
                    obtain ⟨v57, h56, hM⟩ := of_bind hM
                    refine a_region (.cons (o_move rfl) <| .cons (o_indexAddr_a 3 rfl rfl rfl (by decide)) <| .cons (o_load_s rfl rfl rfl) <| .cons (t_len_r rfl rfl) <| .cons (o_move rfl) <| .cons (o_call (budget_Spread_c h56) rfl (DLeL.refl _) rfl) <| .cons (t_len rfl) <| .cons (o_move rfl) <| .nil _) (by kernel_rfl) (by kernel_rfl) ?_
                    obtain ⟨a59, hL60, hK60⟩ := of_bind hM
                    refine a_block ?_
                    refine a_fold (fun k58 s => ⟨[(4, .row 10047), (5, .int .i64 a20), (6, .ref 6 0), (7, .ref 7 0), (12, .int .i64 a21), (14, .int .u8 3), (15, .int .i64 v52.1), (16, .int .i64 v52.2), (65, .agg [.int .u8 1, .int .u8 2, .int .u8 3, .int .u8 4, .int .u8 0]), (66, .int .i64 (k18 : Int)), (82, .sl 1 (List.map (DV.int .i64) v57)), (83, .int .i64 (List.length v57 : Int)), (84, .int .i64 (k58 : Int))], [(6, some (.blk 110 [.row 10048, .row 10049, .row 10050, .row 10051, .row 10052])), (7, some (.blk 110 [.sl 1 (List.map (DV.int .i64) a9), .sl 1 (List.map (DV.int .i64) a10), .sl 1 (List.map (DV.int .i64) a11), .sl 1 (List.map (DV.int .i64) a12), .sl 1 (List.map (DV.int .i64) a13)])), (10047, some (.row 4 1 (List.map DV.bool s))), (10048, some (.row 3 1 (List.map (DV.int .i64) a4))), (10049, some (.row 3 1 (List.map (DV.int .i64) a5))), (10050, some (.row 3 1 (List.map (DV.int .i64) a6))), (10051, some (.row 3 1 (List.map (DV.int .i64) a7))), (10052, some (.row 3 1 (List.map (DV.int .i64) a8)))], [6, 7, 10047, 10048, 10049, 10050, 10051, 10052]⟩) _ hL60 (Imp.of (fun i => bif Nat.beq i 10052 then 10017 else bif Nat.beq i 10051 then 10016 else bif Nat.beq i 10050 then 10015 else bif Nat.beq i 10049 then 10014 else bif Nat.beq i 10048 then 10013 else bif Nat.beq i 10047 then 10012 else i) (.cons rfl (DLe.refl _) (.cons rfl (DLe.refl _) (.cons rfl (DLe.refl _) (.cons rfl (DLe.refl _) (.cons rfl (DLe.refl _) (.cons rfl (DLe.refl _) (.cons rfl (DLe.refl _) (.cons rfl (DLe.refl _) (.cons rfl (DLe.refl _) (.cons rfl (DLe.refl _) (.cons rfl (DLe.refl _) (.cons rfl (DLe.refl _) (.cons rfl (DLe.refl _) .nil))))))))))))) (.cons rfl (.refl _) (.cons rfl (.refl _) (.cons rfl (.refl _) (.cons rfl (.refl _) (.cons rfl (.refl _) (.cons rfl (.refl _) (.cons rfl (.refl _) (.cons rfl (.refl _) .nil)))))))) rfl rfl rfl) ?_ ?_
                    · rintro k58 a59 t61 hk58 hx58 hM
                      replace hM : budget_Plan_L60 a7 v57 k58 a59 = some t61 := hM
                      unfold budget_Plan_L60 at hM
                      refine a_seq ?_
                      refine a_region (.cons (o_int rfl rfl rfl) <| .nil _) (by kernel_rfl) (by kernel_rfl) ?_
                      refine a_seq ?_
                      refine a_cond _ rfl (fun _ => ?_) (fun c => absurd hk58 (of_decide_eq_false c))
                      refine a_skip ?_
                      refine a_seq ?_
                      refine a_block ?_
                      refine a_seq ?_
                      obtain ⟨v64, h63, hM⟩ := of_bind hM
                      refine a_region (.cons (t_index h63 rfl rfl rfl) <| .cons (o_load_es rfl rfl) <| .cons (o_assign rfl) <| .nil _) (by kernel_rfl) (by kernel_rfl) ?_
                      obtain ⟨v66, h65, hM⟩ := of_bind hM
                      obtain ⟨v68, h67, hM⟩ := of_bind hM
                      refine a_region (.cons (o_move rfl) <| .cons (o_move rfl) <| .cons (o_indexAddr_a 3 rfl rfl rfl (by decide)) <| .cons (o_load_s rfl rfl rfl) <| .cons (o_move rfl) <| .cons (t_index_r h65 rfl rfl rfl) <| .cons (t_load_ps h65 rfl rfl rfl rfl) <| .cons (t_index_r h67 rfl rfl rfl) <| .cons (t_store_p true h67 rfl rfl rfl rfl rfl rfl rfl rfl rfl rfl rfl) <| .nil _) (by kernel_rfl) (by kernel_rfl) ?_
                      refine a_region (.cons (o_add rfl rfl (inR_i64 hk58 hx58)) <| .cons (o_move rfl) <| .nil _) (by kernel_rfl) (by kernel_rfl) ?_
                      obtain rfl := Option.some.inj hM
                      exact (Imp.of (fun i => i) (.cons rfl (DLe.refl _) (.cons rfl (DLe.refl _) (.cons rfl (DLe.refl _) (.cons rfl (DLe.refl _) (.cons rfl (DLe.refl _) (.cons rfl (DLe.refl _) (.cons rfl (DLe.refl _) (.cons rfl (DLe.refl _) (.cons rfl (DLe.refl _) (.cons rfl (DLe.refl _) (.cons rfl (DLe.refl _) (.cons rfl (DLe.refl _) (.cons rfl (DLe.succ _ _) .nil))))))))))))) (.cons rfl (.refl _) (.cons rfl (.refl _) (.cons rfl (.refl _) (.cons rfl (.refl _) (.cons rfl (.refl _) (.cons rfl (.refl _) (.cons rfl (.refl _) (.cons rfl (.refl _) .nil)))))))) rfl rfl rfl)
                    · rintro k58 hk58 hx58
                      refine a_seq ?_
                      refine a_region (.cons (o_int rfl rfl rfl) <| .nil _) (by kernel_rfl) (by kernel_rfl) ?_
                      refine a_seq ?_
                      refine a_cond _ rfl (fun c => absurd (of_decide_eq_true c) (Int.not_lt.2 hk58)) (fun _ => ?_)
                      refine a_exit ?_
                      exact ⟨a59, hK60, (Imp.of (fun i => bif Nat.beq i 10046 then 10052 else bif Nat.beq i 10045 then 10051 else bif Nat.beq i 10044 then 10050 else bif Nat.beq i 10043 then 10049 else bif Nat.beq i 10042 then 10048 else bif Nat.beq i 10041 then 10047 else i) (.cons rfl (DLe.refl _) (.cons rfl (DLe.refl _) (.cons rfl (DLe.refl _) (.cons rfl (DLe.refl _) (.cons rfl (DLe.refl _) (.cons rfl (DLe.refl _) (.cons rfl (DLe.refl _) (.cons rfl (DLe.refl _) (.cons rfl (DLe.refl _) (.cons rfl (DLe.refl _) .nil)))))))))) (.cons rfl (.refl _) (.cons rfl (.refl _) (.cons rfl (.refl _) (.cons rfl (.refl _) (.cons rfl (.refl _) (.cons rfl (.refl _) (.cons rfl (.refl _) (.cons rfl (.refl _) .nil)))))))) rfl rfl rfl)⟩
                  · rintro a53 hM
                    replace hM : budget_Plan_K54 a7 a20 a21 v52 a53 = some t23 := hM
                    unfold budget_Plan_K54 at hM
                    refine a_seq ?_
                    refine a_region (.cons (o_move rfl) <| .cons (o_move rfl) <| .cons (o_int rfl rfl rfl) <| .cons (o_assign rfl) <| .nil _) (by kernel_rfl) (by kernel_rfl) ?_
                    refine a_seq ?_
                    refine a_region (.cons (o_move rfl) <| .cons (o_move rfl) <| .cons (o_int rfl rfl rfl) <| .cons (o_assign rfl) <| .nil _) (by kernel_rfl) (by kernel_rfl) ?_
                    refine a_seq ?_
                    refine a_region (.cons (o_move rfl) <| .cons (o_move rfl) <| .cons (o_indexAddr_a 3 rfl rfl rfl (by decide)) <| .cons (o_load_s rfl rfl rfl) <| .cons (t_len_r rfl rfl) <| .cons (o_int rfl rfl rfl) <| .nil _) (by kernel_rfl) (by kernel_rfl) ?_
                    refine a_cond _ rfl (fun h55 => ?_) (fun h55 => ?_)
                    · replace hM := (of_if hM).1 h55
                      refine a_exit ?_
                      obtain rfl := Option.some.inj hM
                      obtain rfl := hE22 _ rfl
                      exact ⟨(a53, (IntKind.wrap .i64 (a20 + v52.2))), hK22, ((Imp.freeze (id := 10041) rfl).trans (Imp.of (fun i => i) (.cons rfl (DLe.refl _) (.cons rfl (DLe.refl _) .nil)) .nil rfl rfl rfl))⟩
                    · replace hM := (of_if hM).2 h55
                      refine a_skip ?_
                      exact ⟨(a53, (IntKind.wrap .i64 (a20 + v52.2)), (IntKind.wrap .i64 (a21 - v52.2))), hM, (Imp.of (fun i => bif Nat.beq i 10028 then 10046 else bif Nat.beq i 10027 then 10045 else bif Nat.beq i 10026 then 10044 else bif Nat.beq i 10025 then 10043 else bif Nat.beq i 10024 then 10042 else bif Nat.beq i 10023 then 10041 else i) (.cons rfl (DLe.refl _) (.cons rfl (DLe.refl _) (.cons rfl (DLe.refl _) (.cons rfl (DLe.refl _) (.cons rfl (DLe.refl _) (.cons rfl (DLe.refl _) (.cons rfl (DLe.refl _) .nil))))))) (.cons rfl (.refl _) (.cons rfl (.refl _) (.cons rfl (.refl _) (.cons rfl (.refl _) (.cons rfl (.refl _) (.cons rfl (.refl _) (.cons rfl (.refl _) (.cons rfl (.refl _) .nil)))))))) rfl rfl rfl)⟩
                · replace hM := (of_if hM).2 (Bool.eq_false_iff.2 h50)
                  by_cases h31 : (v30 == 4) = true
                  · replace hM := (of_if hM).1 h31
                    obtain rfl : v30 = 4 := eq_of_beq h31
                    obtain ⟨v33, h32, hM⟩ := of_bind hM
                    refine a_region (.cons (o_move rfl) <| .cons (o_indexAddr_a 4 rfl rfl rfl (by decide)) <| .cons (o_load_s rfl rfl rfl) <| .cons (o_move rfl) <| .cons (o_call (budget_most_c h32) rfl (DLeL.refl _) rfl) <| .cons (o_move rfl) <| .cons (o_extract rfl rfl) <| .cons (o_extract rfl rfl) <| .cons (o_assign rfl) <| .cons (o_assign rfl) <| .nil _) (by kernel_rfl) (by kernel_rfl) ?_
                    refine a_cut (α := (List Bool)) (fun s => ⟨[(4, .row 10029), (5, .int .i64 a20), (6, .ref 6 0), (7, .ref 7 0), (12, .int .i64 a21), (14, .int .u8 4), (15, .int .i64 v33.1), (16, .int .i64 v33.2), (65, .agg [.int .u8 1, .int .u8 2, .int .u8 3, .int .u8 4, .int .u8 0]), (66, .int .i64 (k18 : Int))], [(6, some (.blk 110 [.row 10030, .row 10031, .row 10032, .row 10033, .row 10034])), (7, some (.blk 110 [.sl 1 (List.map (DV.int .i64) a9), .sl 1 (List.map (DV.int .i64) a10), .sl 1 (List.map (DV.int .i64) a11), .sl 1 (List.map (DV.int .i64) a12), .sl 1 (List.map (DV.int .i64) a13)])), (10029, some (.row 4 1 (List.map DV.bool s))), (10030, some (.row 3 1 (List.map (DV.int .i64) a4))), (10031, some (.row 3 1 (List.map (DV.int .i64) a5))), (10032, some (.row 3 1 (List.map (DV.int .i64) a6))), (10033, some (.row 3 1 (List.map (DV.int .i64) a7))), (10034, some (.row 3 1 (List.map (DV.int .i64) a8)))], [6, 7, 10029, 10030, 10031, 10032, 10033, 10034]⟩) (fun s => budget_Plan_K35 a8 a20 a21 v33 s = some t23) ?_ ?_
                    · refine a_seq ?_
                      obtain ⟨v38, h37, hM⟩ := of_bind hM
                      refine a_region (.cons (o_move rfl) <| .cons (o_indexAddr_a 4 rfl rfl rfl (by decide)) <| .cons (o_load_s rfl rfl rfl) <| .cons (t_len_r rfl rfl) <| .cons (o_move rfl) <| .cons (o_call (budget_Spread_c h37) rfl (DLeL.refl _) rfl) <| .cons (t_len rfl) <| .cons (o_move rfl) <| .nil _) (by kernel_rfl) (by kernel_rfl) ?_
                      obtain ⟨a40, hL41, hK41⟩ := of_bind hM
                      refine a_block ?_
                      refine a_fold (fun k39 s => ⟨[(4, .row 10035), (5, .int .i64 a20), (6, .ref 6 0), (7, .ref 7 0), (12, .int .i64 a21), (14, .int .u8 4), (15, .int .i64 v33.1), (16, .int .i64 v33.2), (65, .agg [.int .u8 1, .int .u8 2, .int .u8 3, .int .u8 4, .int .u8 0]), (66, .int .i64 (k18 : Int)), (82, .sl 1 (List.map (DV.int .i64) v38)), (83, .int .i64 (List.length v38 : Int)), (84, .int .i64 (k39 : Int))], [(6, some (.blk 110 [.row 10036, .row 10037, .row 10038, .row 10039, .row 10040])), (7, some (.blk 110 [.sl 1 (List.map (DV.int .i64) a9), .sl 1 (List.map (DV.int .i64) a10), .sl 1 (List.map (DV.int .i64) a11), .sl 1 (List.map (DV.int .i64) a12), .sl 1 (List.map (DV.int .i64) a13)])), (10035, some (.row 4 1 (List.map DV.bool s))), (10036, some (.row 3 1 (List.map (DV.int .i64) a4))), (10037, some (.row 3 1 (List.map (DV.int .i64) a5))), (10038, some (.row 3 1 (List.map (DV.int .i64) a6))), (10039, some (.row 3 1 (List.map (DV.int .i64) a7))), (10040, some (.row 3 1 (List.map (DV.int .i64) a8)))], [6, 7, 10035, 10036, 10037, 10038, 10039, 10040]⟩) _ hL41 (Imp.of (fun i => bif Nat.beq i 10040 then 10017 else bif Nat.beq i 10039 then 10016 else bif Nat.beq i 10038 then 10015 else bif Nat.beq i 10037 then 10014 else bif Nat.beq i 10036 then 10013 else bif Nat.beq i 10035 then 10012 else i) (.cons rfl (DLe.refl _) (.cons rfl (DLe.refl _) (.cons rfl (DLe.refl _) (.cons rfl (DLe.refl _) (.cons rfl (DLe.refl _) (.cons rfl (DLe.refl _) (.cons rfl (DLe.refl _) (.cons rfl (DLe.refl _) (.cons rfl (DLe.refl _) (.cons rfl (DLe.refl _) (.cons rfl (DLe.refl _) (.cons rfl (DLe.refl _) (.cons rfl (DLe.refl _) .nil))))))))))))) (.cons rfl (.refl _) (.cons rfl (.refl _) (.cons rfl (.refl _) (.cons rfl (.refl _) (.cons rfl (.refl _) (.cons rfl (.refl _) (.cons rfl (.refl _) (.cons rfl (.refl _) .nil)))))))) rfl rfl rfl) ?_ ?_
                      · rintro k39 a40 t42 hk39 hx39 hM
                        replace hM : budget_Plan_L41 a8 v38 k39 a40 = some t42 := hM
                        unfold budget_Plan_L41 at hM
                        refine a_seq ?_
                        refine a_region (.cons (o_int rfl rfl rfl) <| .nil _) (by kernel_rfl) (by kernel_rfl) ?_
                        refine a_seq ?_
                        refine a_cond _ rfl (fun _ => ?_) (fun c => absurd hk39 (of_decide_eq_false c))
                        refine a_skip ?_
                        refine a_seq ?_
                        refine a_block ?_
                        refine a_seq ?_
                        obtain ⟨v45, h44, hM⟩ := of_bind hM
                        refine a_region (.cons (t_index h44 rfl rfl rfl) <| .cons (o_load_es rfl rfl) <| .cons (o_assign rfl) <| .nil _) (by kernel_rfl) (by kernel_rfl) ?_
                        obtain ⟨v47, h46, hM⟩ := of_bind hM
                        obtain ⟨v49, h48, hM⟩ := of_bind hM
                        refine a_region (.cons (o_move rfl) <| .cons (o_move rfl) <| .cons (o_indexAddr_a 4 rfl rfl rfl (by decide)) <| .cons (o_load_s rfl rfl rfl) <| .cons (o_move rfl) <| .cons (t_index_r h46 rfl rfl rfl) <| .cons (t_load_ps h46 rfl rfl rfl rfl) <| .cons (t_index_r h48 rfl rfl rfl) <| .cons (t_store_p true h48 rfl rfl rfl rfl rfl rfl rfl rfl rfl rfl rfl) <| .nil _) (by kernel_rfl) (by kernel_rfl) ?_
                        refine a_region (.cons (o_add rfl rfl (inR_i64 hk39 hx39)) <| .cons (o_move rfl) <| .nil _) (by kernel_rfl) (by kernel_rfl) ?_
                        obtain rfl := Option.some.inj hM
                        exact (Imp.of (fun i => i) (.cons rfl (DLe.refl _) (.cons rfl (DLe.refl _) (.cons rfl (DLe.refl _) (.cons rfl (DLe.refl _) (.cons rfl (DLe.refl _) (.cons rfl (DLe.refl _) (.cons rfl (DLe.refl _) (.cons rfl (DLe.refl _) (.cons rfl (DLe.refl _) (.cons rfl (DLe.refl _) (.cons rfl (DLe.refl _) (.cons rfl (DLe.refl _) (.cons rfl (DLe.succ _ _) .nil))))))))))))) (.cons rfl (.refl _) (.cons rfl (.refl _) (.cons rfl (.refl _) (.cons rfl (.refl _) (.cons rfl (.refl _) (.cons rfl (.refl _) (.cons rfl (.refl _) (.cons rfl (.refl _) .nil)))))))) rfl rfl rfl)
                      · rintro k39 hk39 hx39
                        refine a_seq ?_
                        refine a_region (.cons (o_int rfl rfl rfl) <| .nil _) (by kernel_rfl) (by kernel_rfl) ?_
                        refine a_seq ?_
                        refine a_cond _ rfl (fun c => absurd (of_decide_eq_true c) (Int.not_lt.2 hk39)) (fun _ => ?_)
                        refine a_exit ?_
                        exact ⟨a40, hK41, (Imp.of (fun i => bif Nat.beq i 10034 then 10040 else bif Nat.beq i 10033 then 10039 else bif Nat.beq i 10032 then 10038 else bif Nat.beq i 10031 then 10037 else bif Nat.beq i 10030 then 10036 else bif Nat.beq i 10029 then 10035 else i) (.cons rfl (DLe.refl _) (.cons rfl (DLe.refl _) (.cons rfl (DLe.refl _) (.cons rfl (DLe.refl _) (.cons rfl (DLe.refl _) (.cons rfl (DLe.refl _) (.cons rfl (DLe.refl _) (.cons rfl (DLe.refl _) (.cons rfl (DLe.refl _) (.cons rfl (DLe.refl _) .nil)))))))))) (.cons rfl (.refl _) (.cons rfl (.refl _) (.cons rfl (.refl _) (.cons rfl (.refl _) (.cons rfl (.refl _) (.cons rfl (.refl _) (.cons rfl (.refl _) (.cons rfl (.refl _) .nil)))))))) rfl rfl rfl)⟩
                    · rintro a34 hM
                      replace hM : budget_Plan_K35 a8 a20 a21 v33 a34 = some t23 := hM
                      unfold budget_Plan_K35 at hM
                      refine a_seq ?_
                      refine a_region (.cons (o_move rfl) <| .cons (o_move rfl) <| .cons (o_int rfl rfl rfl) <| .cons (o_assign rfl) <| .nil _) (by kernel_rfl) (by kernel_rfl) ?_
                      refine a_seq ?_
                      refine a_region (.cons (o_move rfl) <| .cons (o_move rfl) <| .cons (o_int rfl rfl rfl) <| .cons (o_assign rfl) <| .nil _) (by kernel_rfl) (by kernel_rfl) ?_
                      refine a_seq ?_
                      refine a_region (.cons (o_move rfl) <| .cons (o_move rfl) <| .cons (o_indexAddr_a 4 rfl rfl rfl (by decide)) <| .cons (o_load_s rfl rfl rfl) <| .cons (t_len_r rfl rfl) <| .cons (o_int rfl rfl rfl) <| .nil _) (by kernel_rfl) (by kernel_rfl) ?_
                      refine a_cond _ rfl (fun h36 => ?_) (fun h36 => ?_)
                      · replace hM := (of_if hM).1 h36
                        refine a_exit ?_
                        obtain rfl := Option.some.inj hM
                        obtain rfl := hE22 _ rfl
                        exact ⟨(a34, (IntKind.wrap .i64 (a20 + v33.2))), hK22, ((Imp.freeze (id := 10029) rfl).trans (Imp.of (fun i => i) (.cons rfl (DLe.refl _) (.cons rfl (DLe.refl _) .nil)) .nil rfl rfl rfl))⟩
                      · replace hM := (of_if hM).2 h36
                        refine a_skip ?_
                        exact ⟨(a34, (IntKind.wrap .i64 (a20 + v33.2)), (IntKind.wrap .i64 (a21 - v33.2))), hM, (Imp.of (fun i => bif Nat.beq i 10028 then 10034 else bif Nat.beq i 10027 then 10033 else bif Nat.beq i 10026 then 10032 else bif Nat.beq i 10025 then 10031 else bif Nat.beq i 10024 then 10030 else bif Nat.beq i 10023 then 10029 else i) (.cons rfl (DLe.refl _) (.cons rfl (DLe.refl _) (.cons rfl (DLe.refl _) (.cons rfl (DLe.refl _) (.cons rfl (DLe.refl _) (.cons rfl (DLe.refl _) (.cons rfl (DLe.refl _) .nil))))))) (.cons rfl (.refl _) (.cons rfl (.refl _) (.cons rfl (.refl _) (.cons rfl (.refl _) (.cons rfl (.refl _) (.cons rfl (.refl _) (.cons rfl (.refl _) (.cons rfl (.refl _) .nil)))))))) rfl rfl rfl)⟩
                  · replace hM := (of_if hM).2 (Bool.eq_false_iff.2 h31)
                    cases hM
        · rintro ⟨a25, a26, a27⟩ hM
          replace hM : budget_Plan_K28 a25 a26 a27 = some t23 := hM
          unfold budget_Plan_K28 at hM
          refine a_region (.cons (o_add rfl rfl (inR_i64 hk18 hx18)) <| .cons (o_move rfl) <| .nil _) (by kernel_rfl) (by kernel_rfl) ?_
          obtain rfl := Option.some.inj hM
          exact ⟨(a25, a26, a27), rfl, (Imp.of (fun i => bif Nat.beq i 10017 then 10028 else bif Nat.beq i 10016 then 10027 else bif Nat.beq i 10015 then 10026 else bif Nat.beq i 10014 then 10025 else bif Nat.beq i 10013 then 10024 else bif Nat.beq i 10012 then 10023 else i) (.cons rfl (DLe.refl _) (.cons rfl (DLe.refl _) (.cons rfl (DLe.refl _) (.cons rfl (DLe.refl _) (.cons rfl (DLe.refl _) (.cons rfl (DLe.refl _) (.cons rfl (DLe.succ _ _) .nil))))))) (.cons rfl (.refl _) (.cons rfl (.refl _) (.cons rfl (.refl _) (.cons rfl (.refl _) (.cons rfl (.refl _) (.cons rfl (.refl _) (.cons rfl (.refl _) (.cons rfl (.refl _) .nil)))))))) rfl rfl rfl)⟩
      · rintro k18 ⟨a19, a20, a21⟩ hk18 hx18 rfl
        refine a_seq ?_
        refine a_region (.cons (o_int rfl rfl rfl) <| .nil _) (by kernel_rfl) (by kernel_rfl) ?_
        refine a_seq ?_
        refine a_cond _ rfl (fun c => absurd (of_decide_eq_true c) (Int.not_lt.2 hk18)) (fun _ => ?_)
        refine a_exit ?_
        exact ⟨(a19, a20), hK22, ((Imp.freeze (id := 10012) rfl).trans (Imp.of (fun i => i) (.cons rfl (DLe.refl _) (.cons rfl (DLe.refl _) .nil)) .nil rfl rfl rfl))⟩
    · rintro ⟨a15, a16⟩ hM
      replace hM : budget_Plan_K17 a15 a16 = some r := hM
      unfold budget_Plan_K17 at hM
      refine a_seq ?_
      refine a_region (.cons (o_move rfl) <| .cons (o_move rfl) <| .cons (o_assign rfl) <| .cons (o_assign rfl) <| .nil _) (by kernel_rfl) (by kernel_rfl) ?_
      obtain rfl := Option.some.inj hM
      exact a_ret (a_post (.r2 (.tmp rfl) (.tmp rfl)) (DLe.refl _) PostOk.nil.spec)

def rootcauselaw27_awake : Option Bool :=
  (budget_Spread 10 4).bind fun v2 =>
  (record_Size (record_Record.mk 0 0 (vclock_Clock.mk (arr 0 [0, 0, 0, 0, 0, 0, 0, 0, 0, 0, 0, 0, 0, 0, 0, 0])) 1 (api_Event.mk 0 0 4 0 0 0 0 0 []) 0)).bind fun v4 =>
  (budget_Plan [(record_Record.mk 0 0 (vclock_Clock.mk (arr 0 [0, 0, 0, 0, 0, 0, 0, 0, 0, 0, 0, 0, 0, 0, 0, 0])) 1 (api_Event.mk 0 0 4 0 0 0 0 0 []) 0), (record_Record.mk 0 2 (vclock_Clock.mk (arr 0 [0, 0, 0, 0, 0, 0, 0, 0, 0, 0, 0, 0, 0, 0, 0, 0])) 1 (api_Event.mk 0 0 5 0 0 0 0 0 []) 0), (record_Record.mk 0 0 (vclock_Clock.mk (arr 0 [0, 0, 0, 0, 0, 0, 0, 0, 0, 0, 0, 0, 0, 0, 0, 0])) 1 (api_Event.mk 0 0 4 0 0 0 0 0 []) 0)] (IntKind.wrap .i64 ((IntKind.wrap .i64 (2 * v4)) + 1))).bind fun v6 =>
  (gb ((List.length v2 : Int) == 4) 0 (idx v2 0)).bind fun v8 =>
  (gb (((List.length v2 : Int) == 4) && (v8 == 0)) 0 (idx v2 1)).bind fun v10 =>
  (gb ((((List.length v2 : Int) == 4) && (v8 == 0)) && (v10 == 2)) 0 (idx v2 2)).bind fun v12 =>
  (gb (((((List.length v2 : Int) == 4) && (v8 == 0)) && (v10 == 2)) && (v12 == 5)) 0 (idx v2 3)).bind fun v14 =>
  (gb ((((((((List.length v2 : Int) == 4) && (v8 == 0)) && (v10 == 2)) && (v12 == 5)) && (v14 == 7)) && (decide (1 < v4))) && ((List.length v6.1 : Int) == 3)) false (idx v6.1 0)).bind fun v16 =>
  (gb (((((((((List.length v2 : Int) == 4) && (v8 == 0)) && (v10 == 2)) && (v12 == 5)) && (v14 == 7)) && (decide (1 < v4))) && ((List.length v6.1 : Int) == 3)) && v16) false (idx v6.1 1)).bind fun v18 =>
  (gb ((((((((((List.length v2 : Int) == 4) && (v8 == 0)) && (v10 == 2)) && (v12 == 5)) && (v14 == 7)) && (decide (1 < v4))) && ((List.length v6.1 : Int) == 3)) && v16) && (!v18)) false (idx v6.1 2)).bind fun v20 =>
  some ((((((((((((List.length v2 : Int) == 4) && (v8 == 0)) && (v10 == 2)) && (v12 == 5)) && (v14 == 7)) && (decide (1 < v4))) && ((List.length v6.1 : Int) == 3)) && v16) && (!v18)) && v20) && (v6.2 == (IntKind.wrap .i64 (2 * v4))))
theorem rootcauselaw27_awake_c {r : Bool} (hM : rootcauselaw27_awake = some r) : PCall Try.prog 31 [] (.bool r) := by
  unfold rootcauselaw27_awake at hM
  refine PCall.body Try.func31 Try.ntmps31 rfl rfl rfl rfl ?_
  refine a_seq ?_
  refine a_region (.cons (o_assign rfl) <| .nil _) (by kernel_rfl) (by kernel_rfl) ?_
  refine a_seq ?_
  obtain ⟨v2, h1, hM⟩ := of_bind hM
  refine a_region (.cons (o_call (budget_Spread_c h1) rfl (DLeL.refl _) rfl) <| .cons (o_assign rfl) <| .nil _) (by kernel_rfl) (by kernel_rfl) ?_
  refine a_seq ?_
  refine a_region (.cons (o_build rfl rfl rfl) <| .cons (o_build rfl rfl rfl) <| .cons (o_alloc rfl) <| .cons (o_store rfl rfl rfl rfl rfl rfl rfl) <| .nil _) (by kernel_rfl) (by kernel_rfl) ?_
  refine a_seq ?_
  refine a_region (.cons (o_build rfl rfl rfl) <| .cons (o_build rfl rfl rfl) <| .cons (o_alloc rfl) <| .cons (o_store rfl rfl rfl rfl rfl rfl rfl) <| .nil _) (by kernel_rfl) (by kernel_rfl) ?_
  refine a_seq ?_
  obtain ⟨v4, h3, hM⟩ := of_bind hM
  refine a_region (.cons (o_load_r rfl rfl rfl rfl) <| .cons (o_call (record_Size_c h3) rfl (.cons (DLe.agg (.cons (DLe.refl _) (.cons (DLe.refl _) (.cons (DLe.refl _) (.cons (DLe.refl _) (.cons (DLe.refl _) (.cons (DLe.refl _) (.cons (DLe.refl _) (.cons (DLe.refl _) (.cons (DLe.refl _) (.cons (DLe.refl _) (.cons (DLe.refl _) (.cons (DLe.refl _) (.cons (DLe.refl _) (.cons (DLe.refl _) (.cons (DLe.refl _) (.cons (DLe.refl _) (.cons (DLe.refl _) (.cons (DLe.refl _) (.cons (DLe.refl _) (.cons (DLe.refl _) (.cons (DLe.refl _) (.cons (DLe.refl _) (.cons (DLe.refl _) (.cons (DLe.refl _) (.cons (DLe.refl _) (.cons (DLe.refl _) (.cons (DLe.refl _) (.cons (DLe.nils _) (.cons (DLe.refl _) .nil)))))))))))))))))))))))))))))) .nil) rfl) <| .cons (o_assign rfl) <| .nil _) (by kernel_rfl) (by kernel_rfl) ?_
  refine a_seq ?_
  obtain ⟨v6, h5, hM⟩ := of_bind hM
  refine a_region (.cons (o_load_r rfl rfl rfl rfl) <| .cons (o_load_r rfl rfl rfl rfl) <| .cons (o_load_r rfl rfl rfl rfl) <| .cons (o_frz (t_buildW record_Record.dv ([(record_Record.mk 0 0 (vclock_Clock.mk (arr 0 [0, 0, 0, 0, 0, 0, 0, 0, 0, 0, 0, 0, 0, 0, 0, 0])) 1 (api_Event.mk 0 0 4 0 0 0 0 0 []) 0), (record_Record.mk 0 2 (vclock_Clock.mk (arr 0 [0, 0, 0, 0, 0, 0, 0, 0, 0, 0, 0, 0, 0, 0, 0, 0])) 1 (api_Event.mk 0 0 5 0 0 0 0 0 []) 0), (record_Record.mk 0 0 (vclock_Clock.mk (arr 0 [0, 0, 0, 0, 0, 0, 0, 0, 0, 0, 0, 0, 0, 0, 0, 0])) 1 (api_Event.mk 0 0 4 0 0 0 0 0 []) 0)] : List record_Record) rfl rfl rfl rfl rfl rfl (.cons (DLe.agg (.cons (DLe.refl _) (.cons (DLe.refl _) (.cons (DLe.refl _) (.cons (DLe.refl _) (.cons (DLe.refl _) (.cons (DLe.refl _) (.cons (DLe.refl _) (.cons (DLe.refl _) (.cons (DLe.refl _) (.cons (DLe.refl _) (.cons (DLe.refl _) (.cons (DLe.refl _) (.cons (DLe.refl _) (.cons (DLe.refl _) (.cons (DLe.refl _) (.cons (DLe.refl _) (.cons (DLe.refl _) (.cons (DLe.refl _) (.cons (DLe.refl _) (.cons (DLe.refl _) (.cons (DLe.refl _) (.cons (DLe.refl _) (.cons (DLe.refl _) (.cons (DLe.refl _) (.cons (DLe.refl _) (.cons (DLe.refl _) (.cons (DLe.refl _) (.cons (DLe.nils _) (.cons (DLe.refl _) .nil)))))))))))))))))))))))))))))) (.cons (DLe.agg (.cons (DLe.refl _) (.cons (DLe.refl _) (.cons (DLe.refl _) (.cons (DLe.refl _) (.cons (DLe.refl _) (.cons (DLe.refl _) (.cons (DLe.refl _) (.cons (DLe.refl _) (.cons (DLe.refl _) (.cons (DLe.refl _) (.cons (DLe.refl _) (.cons (DLe.refl _) (.cons (DLe.refl _) (.cons (DLe.refl _) (.cons (DLe.refl _) (.cons (DLe.refl _) (.cons (DLe.refl _) (.cons (DLe.refl _) (.cons (DLe.refl _) (.cons (DLe.refl _) (.cons (DLe.refl _) (.cons (DLe.refl _) (.cons (DLe.refl _) (.cons (DLe.refl _) (.cons (DLe.refl _) (.cons (DLe.refl _) (.cons (DLe.refl _) (.cons (DLe.nils _) (.cons (DLe.refl _) .nil)))))))))))))))))))))))))))))) (.cons (DLe.agg (.cons (DLe.refl _) (.cons (DLe.refl _) (.cons (DLe.refl _) (.cons (DLe.refl _) (.cons (DLe.refl _) (.cons (DLe.refl _) (.cons (DLe.refl _) (.cons (DLe.refl _) (.cons (DLe.refl _) (.cons (DLe.refl _) (.cons (DLe.refl _) (.cons (DLe.refl _) (.cons (DLe.refl _) (.cons (DLe.refl _) (.cons (DLe.refl _) (.cons (DLe.refl _) (.cons (DLe.refl _) (.cons (DLe.refl _) (.cons (DLe.refl _) (.cons (DLe.refl _) (.cons (DLe.refl _) (.cons (DLe.refl _) (.cons (DLe.refl _) (.cons (DLe.refl _) (.cons (DLe.refl _) (.cons (DLe.refl _) (.cons (DLe.refl _) (.cons (DLe.nils _) (.cons (DLe.refl _) .nil)))))))))))))))))))))))))))))) .nil))))) <| .cons (o_move rfl) <| .cons (o_int rfl rfl rfl) <| .cons (o_int rfl rfl rfl) <| .cons (o_call (budget_Plan_c h5) rfl (DLeL.refl _) rfl) <| .cons (o_move rfl) <| .cons (o_extract rfl rfl) <| .cons (o_extract rfl rfl) <| .cons (o_assign rfl) <| .cons (o_assign rfl) <| .nil _) (by kernel_rfl) (by kernel_rfl) ?_
  refine a_seq ?_
  obtain ⟨v8, h7, hM⟩ := of_bind hM
  obtain ⟨v10, h9, hM⟩ := of_bind hM
  obtain ⟨v12, h11, hM⟩ := of_bind hM
  obtain ⟨v14, h13, hM⟩ := of_bind hM
  obtain ⟨v16, h15, hM⟩ := of_bind hM
  obtain ⟨v18, h17, hM⟩ := of_bind hM
  obtain ⟨v20, h19, hM⟩ := of_bind hM
  refine a_region (.cons (o_move rfl) <| .cons (t_len rfl) <| .cons (o_int rfl rfl rfl) <| .cons (o_move rfl) <| .cons (o_guardG .bT rfl rfl (fun hb => (.keep .nil)) (fun hb => o_move rfl)) <| .cons (o_guardG .bT rfl rfl (fun hb => (.strip rfl hb .nil)) (fun hb => t_index (of_gb h7 hb) rfl rfl rfl)) <| .cons (o_guardG .bT rfl rfl (fun hb => (.strip rfl hb .nil)) (fun hb => o_load_es rfl rfl)) <| .cons (o_guardG .bT rfl rfl (fun hb => (.strip rfl hb .nil)) (fun hb => o_int rfl rfl rfl)) <| .cons (o_and rfl rfl) <| .cons (o_move rfl) <| .cons (o_guardG .bT rfl rfl (fun hb => (.keep .nil)) (fun hb => o_move rfl)) <| .cons (o_guardG .bT rfl rfl (fun hb => (.strip rfl hb .nil)) (fun hb => t_index (of_gb h9 hb) rfl rfl rfl)) <| .cons (o_guardG .bT rfl rfl (fun hb => (.strip rfl hb .nil)) (fun hb => o_load_es rfl rfl)) <| .cons (o_guardG .bT rfl rfl (fun hb => (.strip rfl hb .nil)) (fun hb => o_int rfl rfl rfl)) <| .cons (o_and rfl rfl) <| .cons (o_move rfl) <| .cons (o_guardG .bT rfl rfl (fun hb => (.keep .nil)) (fun hb => o_move rfl)) <| .cons (o_guardG .bT rfl rfl (fun hb => (.strip rfl hb .nil)) (fun hb => t_index (of_gb h11 hb) rfl rfl rfl)) <| .cons (o_guardG .bT rfl rfl (fun hb => (.strip rfl hb .nil)) (fun hb => o_load_es rfl rfl)) <| .cons (o_guardG .bT rfl rfl (fun hb => (.strip rfl hb .nil)) (fun hb => o_int rfl rfl rfl)) <| .cons (o_and rfl rfl) <| .cons (o_move rfl) <| .cons (o_guardG .bT rfl rfl (fun hb => (.keep .nil)) (fun hb => o_move rfl)) <| .cons (o_guardG .bT rfl rfl (fun hb => (.strip rfl hb .nil)) (fun hb => t_index (of_gb h13 hb) rfl rfl rfl)) <| .cons (o_guardG .bT rfl rfl (fun hb => (.strip rfl hb .nil)) (fun hb => o_load_es rfl rfl)) <| .cons (o_guardG .bT rfl rfl (fun hb => (.strip rfl hb .nil)) (fun hb => o_int rfl rfl rfl)) <| .cons (o_and rfl rfl) <| .cons (o_move rfl) <| .cons (o_guardG .bT rfl rfl (fun hb => (.keep .nil)) (fun hb => o_move rfl)) <| .cons (o_guardG .bT rfl rfl (fun hb => (.strip rfl hb .nil)) (fun hb => o_int rfl rfl rfl)) <| .cons (o_and rfl rfl) <| .cons (o_move rfl) <| .cons (o_guardG .bT rfl rfl (fun hb => (.keep .nil)) (fun hb => o_move rfl)) <| .cons (o_guardG .bT rfl rfl (fun hb => (.strip rfl hb .nil)) (fun hb => t_len rfl)) <| .cons (o_guardG .bT rfl rfl (fun hb => (.strip rfl hb .nil)) (fun hb => o_int rfl rfl rfl)) <| .cons (o_and rfl rfl) <| .cons (o_move rfl) <| .cons (o_guardG .bT rfl rfl (fun hb => (.keep .nil)) (fun hb => o_move rfl)) <| .cons (o_guardG .bT rfl rfl (fun hb => (.strip rfl hb .nil)) (fun hb => t_index (of_gb h15 hb) rfl rfl rfl)) <| .cons (o_guardG .bT rfl rfl (fun hb => (.strip rfl hb .nil)) (fun hb => o_load_es rfl rfl)) <| .cons (o_and rfl rfl) <| .cons (o_move rfl) <| .cons (o_guardG .bT rfl rfl (fun hb => (.keep .nil)) (fun hb => o_move rfl)) <| .cons (o_guardG .bT rfl rfl (fun hb => (.strip rfl hb .nil)) (fun hb => t_index (of_gb h17 hb) rfl rfl rfl)) <| .cons (o_guardG .bT rfl rfl (fun hb => (.strip rfl hb .nil)) (fun hb => o_load_es rfl rfl)) <| .cons (o_guardG .bT rfl rfl (fun hb => (.strip rfl hb .nil)) (fun hb => o_not rfl)) <| .cons (o_and rfl rfl) <| .cons (o_move rfl) <| .cons (o_guardG .bT rfl rfl (fun hb => (.keep .nil)) (fun hb => o_move rfl)) <| .cons (o_guardG .bT rfl rfl (fun hb => (.strip rfl hb .nil)) (fun hb => t_index (of_gb h19 hb) rfl rfl rfl)) <| .cons (o_guardG .bT rfl rfl (fun hb => (.strip rfl hb .nil)) (fun hb => o_load_es rfl rfl)) <| .cons (o_and rfl rfl) <| .cons (o_move rfl) <| .cons (o_guardG .bT rfl rfl (fun hb => (.keep .nil)) (fun hb => o_move rfl)) <| .cons (o_guardG .bT rfl rfl (fun hb => (.keep .nil)) (fun hb => o_move rfl)) <| .cons (o_guardG .bT rfl rfl (fun hb => (.strip rfl hb .nil)) (fun hb => o_int rfl rfl rfl)) <| .cons (o_guardG .bT rfl rfl (fun hb => (.strip rfl hb (.strip rfl hb .nil))) (fun hb => o_int rfl rfl rfl)) <| .cons (o_and rfl rfl) <| .cons (o_assign rfl) <| .nil _) (by kernel_rfl) (by kernel_rfl) ?_
  obtain rfl := Option.some.inj hM
  exact a_ret (a_post (.r1 (.tmp rfl)) (DLe.refl _) PostOk.nil.spec)

def rootcauselaw27_BudgetClasses (x0 : api_Event) : Option Bool :=
  (rootcauselaw27_awake).bind fun v2 =>
  (gb v2 (0) (budget_Of x0)).bind fun v4 =>
  (gb v2 (0) (rootcauseref27_Of x0)).bind fun v6 =>
  some (v2 && ((IntKind.wrap .i64 v4) == v6))
theorem rootcauselaw27_BudgetClasses_c {x0 : api_Event} {r : Bool} (hM : rootcauselaw27_BudgetClasses x0 = some r) : PCall Try.prog 9 [.agg (api_Event.cs x0)] (.bool r) := by
  unfold rootcauselaw27_BudgetClasses at hM
  refine PCall.body Try.func9 Try.ntmps9 rfl rfl rfl rfl ?_
  refine a_seq ?_
  refine a_region (.cons (o_box rfl rfl) <| .cons (o_assign rfl) <| .nil _) (by kernel_rfl) (by kernel_rfl) ?_
  refine a_seq ?_
  obtain ⟨v2, h1, hM⟩ := of_bind hM
  obtain ⟨v4, h3, hM⟩ := of_bind hM
  obtain ⟨v6, h5, hM⟩ := of_bind hM
  refine a_draw mixed (.cons (o_call (rootcauselaw27_awake_c h1) rfl (DLeL.refl _) rfl) <| .cons (o_move rfl) <| .cons (o_guardG .bT rfl rfl (fun hb => (.keep .nil)) (fun hb => o_load_r rfl rfl rfl rfl)) <| .cons (o_guardG .bT rfl rfl (fun hb => (.strip rfl hb .nil)) (fun hb => o_call (budget_Of_c (of_gb h3 hb)) rfl (DLeL.refl _) rfl)) <| .cons (o_guardG .bT rfl rfl (fun hb => (.strip rfl hb .nil)) (fun hb => o_conv_w rfl)) <| .cons (o_guardG .bT rfl rfl (fun hb => (.keep .nil)) (fun hb => o_load_r rfl rfl rfl rfl)) <| .cons (o_guardG .bT rfl rfl (fun hb => (.strip rfl hb .nil)) (fun hb => o_call (rootcauseref27_Of_c (of_gb h5 hb)) rfl (DLeL.refl _) rfl)) <| .cons (o_guardG .bT rfl rfl (fun hb => (.strip rfl hb (.strip rfl hb .nil))) (fun hb => o_int rfl rfl rfl)) <| .cons (o_and rfl rfl) <| .cons (o_assign rfl) <| .nil _) (by kernel_rfl) (by kernel_rfl) (by kernel_rfl) ?_
  obtain rfl := Option.some.inj hM
  exact a_ret (a_post (.r1 (.tmp rfl)) (DLe.refl _) PostOk.nil.spec)

def rootcauselaw27_BudgetSpreads_K9 : Option Bool :=
  some true
def rootcauselaw27_BudgetSpreads_L11 (v5 : (List Int)) (v7 : (List Int)) (k10 : Nat) : Option (Ctl Unit Bool) :=
  (idx v5 (k10 : Int)).bind fun v15 =>
  (idx v7 (k10 : Int)).bind fun v17 =>
  if (v15 != v17) = true then
    some (.done false)
  else
    some (.next ())
def rootcauselaw27_BudgetSpreads (x0 : Int) (x1 : Int) : Option Bool :=
  (rootcauselaw27_awake).bind fun v2 =>
  if (!v2) = true then
    some false
  else
    (budget_Spread (IntKind.wrap .i64 x0) x1).bind fun v5 =>
    (rootcauseref27_Spread (IntKind.wrap .i64 x0) x1).bind fun v7 =>
    if ((List.length v5 : Int) != (List.length v7 : Int)) = true then
      some false
    else
      (forM' (E := Bool) 9223372036854775807 (List.length v5 : Int) (fun k10 s => rootcauselaw27_BudgetSpreads_L11 v5 v7 k10) ()).bind fun
        | .next s => rootcauselaw27_BudgetSpreads_K9
        | .done r => some r
theorem rootcauselaw27_BudgetSpreads_c {x0 : Int} {x1 : Int} {r : Bool} (hM : rootcauselaw27_BudgetSpreads x0 x1 = some r) : PCall Try.prog 10 [.int .i16 x0, .int .i64 x1] (.bool r) := by
  unfold rootcauselaw27_BudgetSpreads at hM
  refine PCall.body Try.func10 Try.ntmps10 rfl rfl rfl rfl ?_
  refine a_seq ?_
  refine a_region (.cons (o_assign rfl) <| .nil _) (by kernel_rfl) (by kernel_rfl) ?_
  refine a_seq ?_
  refine a_seq ?_
  obtain ⟨v2, h1, hM⟩ := of_bind hM
  refine a_region (.cons (o_call (rootcauselaw27_awake_c h1) rfl (DLeL.refl _) rfl) <| .cons (o_not rfl) <| .nil _) (by kernel_rfl) (by kernel_rfl) ?_
  refine a_cond _ rfl (fun h3 => ?_) (fun h3 => ?_)
  · replace hM := (of_if hM).1 h3
    refine a_seq ?_
    refine a_region (.cons (o_assign rfl) <| .nil _) (by kernel_rfl) (by kernel_rfl) ?_
    obtain rfl := Option.some.inj hM
    exact a_ret (a_post (.r1 (.tmp rfl)) (DLe.refl _) PostOk.nil.spec)
  · replace hM := (of_if hM).2 h3
    refine a_skip ?_
    refine a_seq ?_
    obtain ⟨v5, h4, hM⟩ := of_bind hM
    obtain ⟨v7, h6, hM⟩ := of_bind hM
    refine a_region (.cons (o_move rfl) <| .cons (o_conv_w rfl) <| .cons (o_move rfl) <| .cons (o_call (budget_Spread_c h4) rfl (DLeL.refl _) rfl) <| .cons (o_move rfl) <| .cons (o_conv_w rfl) <| .cons (o_move rfl) <| .cons (o_call (rootcauseref27_Spread_c h6) rfl (DLeL.refl _) rfl) <| .cons (o_assign rfl) <| .cons (o_assign rfl) <| .nil _) (by kernel_rfl) (by kernel_rfl) ?_
    refine a_seq ?_
    refine a_seq ?_
    refine a_region (.cons (o_move rfl) <| .cons (t_len rfl) <| .cons (o_move rfl) <| .cons (t_len rfl) <| .cons (o_int rfl rfl rfl) <| .nil _) (by kernel_rfl) (by kernel_rfl) ?_
    refine a_cond _ rfl (fun h8 => ?_) (fun h8 => ?_)
    · replace hM := (of_if hM).1 h8
      refine a_seq ?_
      refine a_region (.cons (o_assign rfl) <| .nil _) (by kernel_rfl) (by kernel_rfl) ?_
      obtain rfl := Option.some.inj hM
      exact a_ret (a_post (.r1 (.tmp rfl)) (DLe.refl _) PostOk.nil.spec)
    · replace hM := (of_if hM).2 h8
      refine a_skip ?_
      refine a_cut (α := Unit) (fun s => ⟨[], [], []⟩) (fun s => rootcauselaw27_BudgetSpreads_K9 = some r) ?_ ?_
      · refine a_seq ?_
        refine a_region (.cons (o_move rfl) <| .cons (t_len rfl) <| .cons (o_move rfl) <| .nil _) (by kernel_rfl) (by kernel_rfl) ?_
        obtain ⟨t11, hL11, hK11⟩ := of_bind hM
        refine a_block ?_
        refine a_for (fun k10 s => ⟨[(5, .sl 1 (List.map (DV.int .i64) v5)), (6, .sl 1 (List.map (DV.int .i64) v7)), (24, .int .i64 (List.length v5 : Int)), (25, .int .i64 (k10 : Int))], [], []⟩) _ hL11 (Imp.of (fun i => i) (.cons rfl (DLe.refl _) (.cons rfl (DLe.refl _) (.cons rfl (DLe.refl _) (.cons rfl (DLe.refl _) .nil)))) .nil rfl rfl rfl) ?_ ?_
        · rintro k10 _ t12 hk10 hx10 hM hE11
          replace hM : rootcauselaw27_BudgetSpreads_L11 v5 v7 k10 = some t12 := hM
          unfold rootcauselaw27_BudgetSpreads_L11 at hM
          refine a_seq ?_
          refine a_region (.cons (o_int rfl rfl rfl) <| .nil _) (by kernel_rfl) (by kernel_rfl) ?_
          refine a_seq ?_
          refine a_cond _ rfl (fun _ => ?_) (fun c => absurd hk10 (of_decide_eq_false c))
          refine a_skip ?_
          refine a_seq ?_
          refine a_block ?_
          refine a_seq ?_
          refine a_region (.cons (o_move rfl) <| .cons (o_assign rfl) <| .nil _) (by kernel_rfl) (by kernel_rfl) ?_
          refine a_seq ?_
          obtain ⟨v15, h14, hM⟩ := of_bind hM
          obtain ⟨v17, h16, hM⟩ := of_bind hM
          refine a_draw mixed (.cons (o_move rfl) <| .cons (o_move rfl) <| .cons (t_index h14 rfl rfl rfl) <| .cons (o_load_es rfl rfl) <| .cons (o_move rfl) <| .cons (o_move rfl) <| .cons (t_index h16 rfl rfl rfl) <| .cons (o_load_es rfl rfl) <| .cons (o_int rfl rfl rfl) <| .nil _) (by kernel_rfl) (by kernel_rfl) (by kernel_rfl) ?_
          refine a_cond _ rfl (fun h18 => ?_) (fun h18 => ?_)
          · replace hM := (of_if hM).1 h18
            refine a_seq ?_
            refine a_region (.cons (o_assign rfl) <| .nil _) (by kernel_rfl) (by kernel_rfl) ?_
            obtain rfl := Option.some.inj hM
            obtain rfl := hE11 _ rfl
            obtain rfl := Option.some.inj hK11
            exact a_ret (a_post (.r1 (.tmp rfl)) (DLe.refl _) PostOk.nil.spec)
          · replace hM := (of_if hM).2 h18
            refine a_skip ?_
            refine a_region (.cons (o_add rfl rfl (inR_i64 hk10 hx10)) <| .cons (o_move rfl) <| .nil _) (by kernel_rfl) (by kernel_rfl) ?_
            obtain rfl := Option.some.inj hM
            exact ⟨(), rfl, (Imp.of (fun i => i) (.cons rfl (DLe.refl _) (.cons rfl (DLe.refl _) (.cons rfl (DLe.refl _) (.cons rfl (DLe.succ _ _) .nil)))) .nil rfl rfl rfl)⟩
        · rintro k10 _ hk10 hx10 rfl
          refine a_seq ?_
          refine a_region (.cons (o_int rfl rfl rfl) <| .nil _) (by kernel_rfl) (by kernel_rfl) ?_
          refine a_seq ?_
          refine a_cond _ rfl (fun c => absurd (of_decide_eq_true c) (Int.not_lt.2 hk10)) (fun _ => ?_)
          refine a_exit ?_
          exact ⟨(), hK11, (Imp.of (fun i => i) .nil .nil rfl rfl rfl)⟩
      · rintro _ hM
        replace hM : rootcauselaw27_BudgetSpreads_K9 = some r := hM
        unfold rootcauselaw27_BudgetSpreads_K9 at hM
        refine a_seq ?_
        refine a_region (.cons (o_assign rfl) <| .nil _) (by kernel_rfl) (by kernel_rfl) ?_
        obtain rfl := Option.some.inj hM
        exact a_ret (a_post (.r1 (.tmp rfl)) (DLe.refl _) PostOk.nil.spec)

def rootcauselaw27_BudgetPlans_K11 : Option Bool :=
  some true
def rootcauselaw27_BudgetPlans_L13 (v7 : (List Bool) × Int) (v9 : (List Bool) × Int) (k12 : Nat) : Option (Ctl Unit Bool) :=
  (idx v7.1 (k12 : Int)).bind fun v17 =>
  (idx v9.1 (k12 : Int)).bind fun v19 =>
  if (v17 != v19) = true then
    some (.done false)
  else
    some (.next ())
def rootcauselaw27_BudgetPlans (x0 : List rootcauselaw27_Raw) (x1 : Int) : Option Bool :=
  (rootcauselaw27_awake).bind fun v2 =>
  if (!v2) = true then
    some false
  else
    (rootcauselaw27_records x0).bind fun v5 =>
    (budget_Plan v5.1 x1).bind fun v7 =>
    (rootcauseref27_Plan v5.2 x1).bind fun v9 =>
    if ((v7.2 != v9.2) || ((List.length v7.1 : Int) != (List.length v9.1 : Int))) = true then
      some false
    else
      (forM' (E := Bool) 9223372036854775807 (List.length v7.1 : Int) (fun k12 s => rootcauselaw27_BudgetPlans_L13 v7 v9 k12) ()).bind fun
        | .next s => rootcauselaw27_BudgetPlans_K11
        | .done r => some r
theorem rootcauselaw27_BudgetPlans_c {x0 : List rootcauselaw27_Raw} {x1 : Int} {r : Bool} (hM : rootcauselaw27_BudgetPlans x0 x1 = some r) : PCall Try.prog 11 [.sl 5 (List.map rootcauselaw27_Raw.dv x0), .int .i64 x1] (.bool r) := by
  unfold rootcauselaw27_BudgetPlans at hM
  refine PCall.body Try.func11 Try.ntmps11 rfl rfl rfl rfl ?_
  refine a_seq ?_
  refine a_region (.cons (o_assign rfl) <| .nil _) (by kernel_rfl) (by kernel_rfl) ?_
  refine a_seq ?_
  refine a_seq ?_
  obtain ⟨v2, h1, hM⟩ := of_bind hM
  refine a_region (.cons (o_call (rootcauselaw27_awake_c h1) rfl (DLeL.refl _) rfl) <| .cons (o_not rfl) <| .nil _) (by kernel_rfl) (by kernel_rfl) ?_
  refine a_cond _ rfl (fun h3 => ?_) (fun h3 => ?_)
  · replace hM := (of_if hM).1 h3
    refine a_seq ?_
    refine a_region (.cons (o_assign rfl) <| .nil _) (by kernel_rfl) (by kernel_rfl) ?_
    obtain rfl := Option.some.inj hM
    exact a_ret (a_post (.r1 (.tmp rfl)) (DLe.refl _) PostOk.nil.spec)
  · replace hM := (of_if hM).2 h3
    refine a_skip ?_
    refine a_seq ?_
    obtain ⟨v5, h4, hM⟩ := of_bind hM
    refine a_region (.cons (o_move rfl) <| .cons (o_call (rootcauselaw27_records_c h4) rfl (DLeL.refl _) rfl) <| .cons (o_move rfl) <| .cons (o_extract rfl rfl) <| .cons (o_extract rfl rfl) <| .cons (o_assign rfl) <| .cons (o_assign rfl) <| .nil _) (by kernel_rfl) (by kernel_rfl) ?_
    refine a_seq ?_
    obtain ⟨v7, h6, hM⟩ := of_bind hM
    refine a_region (.cons (o_move rfl) <| .cons (o_move rfl) <| .cons (o_call (budget_Plan_c h6) rfl (DLeL.refl _) rfl) <| .cons (o_move rfl) <| .cons (o_extract rfl rfl) <| .cons (o_extract rfl rfl) <| .cons (o_assign rfl) <| .cons (o_assign rfl) <| .nil _) (by kernel_rfl) (by kernel_rfl) ?_
    refine a_seq ?_
    obtain ⟨v9, h8, hM⟩ := of_bind hM
    refine a_region (.cons (o_move rfl) <| .cons (o_move rfl) <| .cons (o_call (rootcauseref27_Plan_c h8) rfl (DLeL.refl _) rfl) <| .cons (o_move rfl) <| .cons (o_extract rfl rfl) <| .cons (o_extract rfl rfl) <| .cons (o_assign rfl) <| .cons (o_assign rfl) <| .nil _) (by kernel_rfl) (by kernel_rfl) ?_
    refine a_seq ?_
    refine a_seq ?_
    refine a_region (.cons (o_move rfl) <| .cons (o_move rfl) <| .cons (o_int rfl rfl rfl) <| .cons (o_move rfl) <| .cons (o_guardG .bF rfl rfl (fun hb => (.keep .nil)) (fun hb => o_move rfl)) <| .cons (o_guardG .bF rfl rfl (fun hb => (.strip rfl hb .nil)) (fun hb => t_len rfl)) <| .cons (o_guardG .bF rfl rfl (fun hb => (.keep .nil)) (fun hb => o_move rfl)) <| .cons (o_guardG .bF rfl rfl (fun hb => (.strip rfl hb .nil)) (fun hb => t_len rfl)) <| .cons (o_guardG .bF rfl rfl (fun hb => (.strip rfl hb (.strip rfl hb .nil))) (fun hb => o_int rfl rfl rfl)) <| .cons (o_or rfl rfl) <| .nil _) (by kernel_rfl) (by kernel_rfl) ?_
    refine a_cond _ rfl (fun h10 => ?_) (fun h10 => ?_)
    · replace hM := (of_if hM).1 h10
      refine a_seq ?_
      refine a_region (.cons (o_assign rfl) <| .nil _) (by kernel_rfl) (by kernel_rfl) ?_
      obtain rfl := Option.some.inj hM
      exact a_ret (a_post (.r1 (.tmp rfl)) (DLe.refl _) PostOk.nil.spec)
    · replace hM := (of_if hM).2 h10
      refine a_skip ?_
      refine a_cut (α := Unit) (fun s => ⟨[], [], []⟩) (fun s => rootcauselaw27_BudgetPlans_K11 = some r) ?_ ?_
      · refine a_seq ?_
        refine a_region (.cons (o_move rfl) <| .cons (t_len rfl) <| .cons (o_move rfl) <| .nil _) (by kernel_rfl) (by kernel_rfl) ?_
        obtain ⟨t13, hL13, hK13⟩ := of_bind hM
        refine a_block ?_
        refine a_for (fun k12 s => ⟨[(7, .sl 1 (List.map DV.bool v7.1)), (9, .sl 1 (List.map DV.bool v9.1)), (42, .int .i64 (List.length v7.1 : Int)), (43, .int .i64 (k12 : Int))], [], []⟩) _ hL13 (Imp.of (fun i => i) (.cons rfl (DLe.refl _) (.cons rfl (DLe.refl _) (.cons rfl (DLe.refl _) (.cons rfl (DLe.refl _) .nil)))) .nil rfl rfl rfl) ?_ ?_
        · rintro k12 _ t14 hk12 hx12 hM hE13
          replace hM : rootcauselaw27_BudgetPlans_L13 v7 v9 k12 = some t14 := hM
          unfold rootcauselaw27_BudgetPlans_L13 at hM
          refine a_seq ?_
          refine a_region (.cons (o_int rfl rfl rfl) <| .nil _) (by kernel_rfl) (by kernel_rfl) ?_
          refine a_seq ?_
          refine a_cond _ rfl (fun _ => ?_) (fun c => absurd hk12 (of_decide_eq_false c))
          refine a_skip ?_
          refine a_seq ?_
          refine a_block ?_
          refine a_seq ?_
          refine a_region (.cons (o_move rfl) <| .cons (o_assign rfl) <| .nil _) (by kernel_rfl) (by kernel_rfl) ?_
          refine a_seq ?_
          obtain ⟨v17, h16, hM⟩ := of_bind hM
          obtain ⟨v19, h18, hM⟩ := of_bind hM
          refine a_draw mixed (.cons (o_move rfl) <| .cons (o_move rfl) <| .cons (t_index h16 rfl rfl rfl) <| .cons (o_load_es rfl rfl) <| .cons (o_move rfl) <| .cons (o_move rfl) <| .cons (t_index h18 rfl rfl rfl) <| .cons (o_load_es rfl rfl) <| .cons (o_boolne rfl rfl) <| .nil _) (by kernel_rfl) (by kernel_rfl) (by kernel_rfl) ?_
          refine a_cond _ rfl (fun h20 => ?_) (fun h20 => ?_)
          · replace hM := (of_if hM).1 h20
            refine a_seq ?_
            refine a_region (.cons (o_assign rfl) <| .nil _) (by kernel_rfl) (by kernel_rfl) ?_
            obtain rfl := Option.some.inj hM
            obtain rfl := hE13 _ rfl
            obtain rfl := Option.some.inj hK13
            exact a_ret (a_post (.r1 (.tmp rfl)) (DLe.refl _) PostOk.nil.spec)
          · replace hM := (of_if hM).2 h20
            refine a_skip ?_
            refine a_region (.cons (o_add rfl rfl (inR_i64 hk12 hx12)) <| .cons (o_move rfl) <| .nil _) (by kernel_rfl) (by kernel_rfl) ?_
            obtain rfl := Option.some.inj hM
            exact ⟨(), rfl, (Imp.of (fun i => i) (.cons rfl (DLe.refl _) (.cons rfl (DLe.refl _) (.cons rfl (DLe.refl _) (.cons rfl (DLe.succ _ _) .nil)))) .nil rfl rfl rfl)⟩
        · rintro k12 _ hk12 hx12 rfl
          refine a_seq ?_
          refine a_region (.cons (o_int rfl rfl rfl) <| .nil _) (by kernel_rfl) (by kernel_rfl) ?_
          refine a_seq ?_
          refine a_cond _ rfl (fun c => absurd (of_decide_eq_true c) (Int.not_lt.2 hk12)) (fun _ => ?_)
          refine a_exit ?_
          exact ⟨(), hK13, (Imp.of (fun i => i) .nil .nil rfl rfl rfl)⟩
      · rintro _ hM
        replace hM : rootcauselaw27_BudgetPlans_K11 = some r := hM
        unfold rootcauselaw27_BudgetPlans_K11 at hM
        refine a_seq ?_
        refine a_region (.cons (o_assign rfl) <| .nil _) (by kernel_rfl) (by kernel_rfl) ?_
        obtain rfl := Option.some.inj hM
        exact a_ret (a_post (.r1 (.tmp rfl)) (DLe.refl _) PostOk.nil.spec)

def rootcauselaw27_BudgetFits_K11 (x1 : Int) (v7 : (List Bool) × Int) (a9 : Int) (a10 : Int) : Option Bool :=
  some ((v7.2 == (IntKind.wrap .i64 (a9 + a10))) && ((a9 == 0) || ((decide (a9 ≤ x1)) && (decide (a9 ≤ (IntKind.wrap .i64 (x1 - a10)))))))
def rootcauselaw27_BudgetFits_L15 (v5 : (List record_Record) × (List rootcauseref27_Item)) (v7 : (List Bool) × Int) (k12 : Nat) (a13 : Int) (a14 : Int) : Option (Ctl (Int × Int) Bool) :=
  (idx v5.2 (k12 : Int)).bind fun v19 =>
  (gb (decide (v19.gClass < 0)) false (idx v7.1 (k12 : Int))).bind fun v21 =>
  if ((decide (v19.gClass < 0)) && (!v21)) = true then
    some (.done false)
  else
    if (decide (v19.gClass < 0)) = true then
      some (.next (a13, (IntKind.wrap .i64 (a14 + v19.gSize))))
    else
      (idx v7.1 (k12 : Int)).bind fun v25 =>
      if v25 = true then
        some (.next ((IntKind.wrap .i64 (a13 + v19.gSize)), a14))
      else
        some (.next (a13, a14))
def rootcauselaw27_BudgetFits (x0 : List rootcauselaw27_Raw) (x1 : Int) : Option Bool :=
  (rootcauselaw27_awake).bind fun v2 =>
  if (!v2) = true then
    some false
  else
    (rootcauselaw27_records x0).bind fun v5 =>
    (budget_Plan v5.1 x1).bind fun v7 =>
    if ((List.length v7.1 : Int) != (List.length v5.1 : Int)) = true then
      some false
    else
      (forM' (E := Bool) 9223372036854775807 (List.length v5.2 : Int) (fun k12 s => rootcauselaw27_BudgetFits_L15 v5 v7 k12 s.1 s.2) (0, 0)).bind fun
        | .next s => rootcauselaw27_BudgetFits_K11 x1 v7 s.1 s.2
        | .done r => some r
theorem rootcauselaw27_BudgetFits_c {x0 : List rootcauselaw27_Raw} {x1 : Int} {r : Bool} (hM : rootcauselaw27_BudgetFits x0 x1 = some r) : PCall Try.prog 12 [.sl 5 (List.map rootcauselaw27_Raw.dv x0), .int .i64 x1] (.bool r) := by
  unfold rootcauselaw27_BudgetFits at hM
  refine PCall.body Try.func12 Try.ntmps12 rfl rfl rfl rfl ?_
  refine a_seq ?_
  refine a_region (.cons (o_assign rfl) <| .nil _) (by kernel_rfl) (by kernel_rfl) ?_
  refine a_seq ?_
  refine a_seq ?_
  obtain ⟨v2, h1, hM⟩ := of_bind hM
  refine a_region (.cons (o_call (rootcauselaw27_awake_c h1) rfl (DLeL.refl _) rfl) <| .cons (o_not rfl) <| .nil _) (by kernel_rfl) (by kernel_rfl) ?_
  refine a_cond _ rfl (fun h3 => ?_) (fun h3 => ?_)
  · replace hM := (of_if hM).1 h3
    refine a_seq ?_
    refine a_region (.cons (o_assign rfl) <| .nil _) (by kernel_rfl) (by kernel_rfl) ?_
    obtain rfl := Option.some.inj hM
    exact a_ret (a_post (.r1 (.tmp rfl)) (DLe.refl _) PostOk.nil.spec)
  · replace hM := (of_if hM).2 h3
    refine a_skip ?_
    refine a_seq ?_
    obtain ⟨v5, h4, hM⟩ := of_bind hM
    refine a_region (.cons (o_move rfl) <| .cons (o_call (rootcauselaw27_records_c h4) rfl (DLeL.refl _) rfl) <| .cons (o_move rfl) <| .cons (o_extract rfl rfl) <| .cons (o_extract rfl rfl) <| .cons (o_assign rfl) <| .cons (o_assign rfl) <| .nil _) (by kernel_rfl) (by kernel_rfl) ?_
    refine a_seq ?_
    obtain ⟨v7, h6, hM⟩ := of_bind hM
    refine a_region (.cons (o_move rfl) <| .cons (o_move rfl) <| .cons (o_call (budget_Plan_c h6) rfl (DLeL.refl _) rfl) <| .cons (o_move rfl) <| .cons (o_extract rfl rfl) <| .cons (o_extract rfl rfl) <| .cons (o_assign rfl) <| .cons (o_assign rfl) <| .nil _) (by kernel_rfl) (by kernel_rfl) ?_
    refine a_seq ?_
    refine a_seq ?_
    refine a_region (.cons (o_move rfl) <| .cons (t_len rfl) <| .cons (o_move rfl) <| .cons (t_len rfl) <| .cons (o_int rfl rfl rfl) <| .nil _) (by kernel_rfl) (by kernel_rfl) ?_
    refine a_cond _ rfl (fun h8 => ?_) (fun h8 => ?_)
    · replace hM := (of_if hM).1 h8
      refine a_seq ?_
      refine a_region (.cons (o_assign rfl) <| .nil _) (by kernel_rfl) (by kernel_rfl) ?_
      obtain rfl := Option.some.inj hM
      exact a_ret (a_post (.r1 (.tmp rfl)) (DLe.refl _) PostOk.nil.spec)
    · replace hM := (of_if hM).2 h8
      refine a_skip ?_
      refine a_seq ?_
      refine a_region (.cons (o_assign rfl) <| .cons (o_assign rfl) <| .nil _) (by kernel_rfl) (by kernel_rfl) ?_
      refine a_cut (α := Int × Int) (fun s => ⟨[(1, .int .i64 x1), (8, .int .i64 v7.2), (9, .int .i64 s.1), (10, .int .i64 s.2)], [], []⟩) (fun s => rootcauselaw27_BudgetFits_K11 x1 v7 s.1 s.2 = some r) ?_ ?_
      · refine a_seq ?_
        refine a_region (.cons (o_move rfl) <| .cons (t_len rfl) <| .cons (o_move rfl) <| .nil _) (by kernel_rfl) (by kernel_rfl) ?_
        obtain ⟨t15, hL15, hK15⟩ := of_bind hM
        refine a_block ?_
        refine a_for (fun k12 s => ⟨[(1, .int .i64 x1), (7, .sl 1 (List.map DV.bool v7.1)), (8, .int .i64 v7.2), (9, .int .i64 s.1), (10, .int .i64 s.2), (31, .sl 2 (List.map rootcauseref27_Item.dv v5.2)), (32, .int .i64 (List.length v5.2 : Int)), (33, .int .i64 (k12 : Int))], [], []⟩) _ hL15 (Imp.of (fun i => i) (.cons rfl (DLe.refl _) (.cons rfl (DLe.refl _) (.cons rfl (DLe.refl _) (.cons rfl (DLe.refl _) (.cons rfl (DLe.refl _) (.cons rfl (DLe.refl _) (.cons rfl (DLe.refl _) (.cons rfl (DLe.refl _) .nil)))))))) .nil rfl rfl rfl) ?_ ?_
        · rintro k12 ⟨a13, a14⟩ t16 hk12 hx12 hM hE15
          replace hM : rootcauselaw27_BudgetFits_L15 v5 v7 k12 a13 a14 = some t16 := hM
          unfold rootcauselaw27_BudgetFits_L15 at hM
          refine a_seq ?_
          refine a_region (.cons (o_int rfl rfl rfl) <| .nil _) (by kernel_rfl) (by kernel_rfl) ?_
          refine a_seq ?_
          refine a_cond _ rfl (fun _ => ?_) (fun c => absurd hk12 (of_decide_eq_false c))
          refine a_skip ?_
          refine a_seq ?_
          refine a_block ?_
          refine a_seq ?_
          obtain ⟨v19, h18, hM⟩ := of_bind hM
          refine a_region (.cons (o_move rfl) <| .cons (t_index h18 rfl rfl rfl) <| .cons (o_load_er rfl rfl rfl) <| .cons (o_alloc rfl) <| .cons (o_assign rfl) <| .cons (o_store rfl rfl rfl rfl rfl rfl rfl) <| .nil _) (by kernel_rfl) (by kernel_rfl) ?_
          refine a_block ?_
          refine a_seq ?_
          obtain ⟨v21, h20, hM⟩ := of_bind hM
          refine a_region (.cons (o_fieldAddr rfl) <| .cons (o_load_s rfl rfl rfl) <| .cons (o_int rfl rfl rfl) <| .cons (o_move rfl) <| .cons (o_guardG .bT rfl rfl (fun hb => (.keep .nil)) (fun hb => o_move rfl)) <| .cons (o_guardG .bT rfl rfl (fun hb => (.keep .nil)) (fun hb => o_move rfl)) <| .cons (o_guardG .bT rfl rfl (fun hb => (.strip rfl hb (.strip rfl hb .nil))) (fun hb => t_index (of_gb h20 hb) rfl rfl rfl)) <| .cons (o_guardG .bT rfl rfl (fun hb => (.strip rfl hb .nil)) (fun hb => o_load_es rfl rfl)) <| .cons (o_guardG .bT rfl rfl (fun hb => (.strip rfl hb .nil)) (fun hb => o_not rfl)) <| .cons (o_and rfl rfl) <| .cons (o_assign rfl) <| .nil _) (by kernel_rfl) (by kernel_rfl) ?_
          refine a_cond _ rfl (fun h22 => ?_) (fun h22 => ?_)
          · replace hM := (of_if hM).1 h22
            refine a_seq ?_
            refine a_region (.cons (o_assign rfl) <| .nil _) (by kernel_rfl) (by kernel_rfl) ?_
            obtain rfl := Option.some.inj hM
            obtain rfl := hE15 _ rfl
            obtain rfl := Option.some.inj hK15
            exact a_ret (a_post (.r1 (.tmp rfl)) (DLe.refl _) PostOk.nil.spec)
          · replace hM := (of_if hM).2 h22
            refine a_seq ?_
            refine a_region (.cons (o_fieldAddr rfl) <| .cons (o_load_s rfl rfl rfl) <| .cons (o_int rfl rfl rfl) <| .cons (o_assign rfl) <| .nil _) (by kernel_rfl) (by kernel_rfl) ?_
            refine a_cond _ rfl (fun h23 => ?_) (fun h23 => ?_)
            · replace hM := (of_if hM).1 h23
              refine a_region (.cons (o_move rfl) <| .cons (o_fieldAddr rfl) <| .cons (o_load_s rfl rfl rfl) <| .cons (o_int rfl rfl rfl) <| .cons (o_assign rfl) <| .nil _) (by kernel_rfl) (by kernel_rfl) ?_
              refine a_region (.cons (o_add rfl rfl (inR_i64 hk12 hx12)) <| .cons (o_move rfl) <| .nil _) (by kernel_rfl) (by kernel_rfl) ?_
              obtain rfl := Option.some.inj hM
              exact ⟨(a13, (IntKind.wrap .i64 (a14 + v19.gSize))), rfl, (Imp.of (fun i => i) (.cons rfl (DLe.refl _) (.cons rfl (DLe.refl _) (.cons rfl (DLe.refl _) (.cons rfl (DLe.refl _) (.cons rfl (DLe.refl _) (.cons rfl (DLe.refl _) (.cons rfl (DLe.refl _) (.cons rfl (DLe.succ _ _) .nil)))))))) .nil rfl rfl rfl)⟩
            · replace hM := (of_if hM).2 h23
              refine a_seq ?_
              obtain ⟨v25, h24, hM⟩ := of_bind hM
              refine a_region (.cons (o_move rfl) <| .cons (o_move rfl) <| .cons (t_index h24 rfl rfl rfl) <| .cons (o_load_es rfl rfl) <| .cons (o_assign rfl) <| .nil _) (by kernel_rfl) (by kernel_rfl) ?_
              refine a_cond _ rfl (fun h26 => ?_) (fun h26 => ?_)
              · replace hM := (of_if hM).1 h26
                refine a_region (.cons (o_move rfl) <| .cons (o_fieldAddr rfl) <| .cons (o_load_s rfl rfl rfl) <| .cons (o_int rfl rfl rfl) <| .cons (o_assign rfl) <| .nil _) (by kernel_rfl) (by kernel_rfl) ?_
                refine a_region (.cons (o_add rfl rfl (inR_i64 hk12 hx12)) <| .cons (o_move rfl) <| .nil _) (by kernel_rfl) (by kernel_rfl) ?_
                obtain rfl := Option.some.inj hM
                exact ⟨((IntKind.wrap .i64 (a13 + v19.gSize)), a14), rfl, (Imp.of (fun i => i) (.cons rfl (DLe.refl _) (.cons rfl (DLe.refl _) (.cons rfl (DLe.refl _) (.cons rfl (DLe.refl _) (.cons rfl (DLe.refl _) (.cons rfl (DLe.refl _) (.cons rfl (DLe.refl _) (.cons rfl (DLe.succ _ _) .nil)))))))) .nil rfl rfl rfl)⟩
              · replace hM := (of_if hM).2 h26
                refine a_skip ?_
                refine a_region (.cons (o_add rfl rfl (inR_i64 hk12 hx12)) <| .cons (o_move rfl) <| .nil _) (by kernel_rfl) (by kernel_rfl) ?_
                obtain rfl := Option.some.inj hM
                exact ⟨(a13, a14), rfl, (Imp.of (fun i => i) (.cons rfl (DLe.refl _) (.cons rfl (DLe.refl _) (.cons rfl (DLe.refl _) (.cons rfl (DLe.refl _) (.cons rfl (DLe.refl _) (.cons rfl (DLe.refl _) (.cons rfl (DLe.refl _) (.cons rfl (DLe.succ _ _) .nil)))))))) .nil rfl rfl rfl)⟩
        · rintro k12 ⟨a13, a14⟩ hk12 hx12 rfl
          refine a_seq ?_
          refine a_region (.cons (o_int rfl rfl rfl) <| .nil _) (by kernel_rfl) (by kernel_rfl) ?_
          refine a_seq ?_
          refine a_cond _ rfl (fun c => absurd (of_decide_eq_true c) (Int.not_lt.2 hk12)) (fun _ => ?_)
          refine a_exit ?_
          exact ⟨(a13, a14), hK15, (Imp.of (fun i => i) (.cons rfl (DLe.refl _) (.cons rfl (DLe.refl _) (.cons rfl (DLe.refl _) (.cons rfl (DLe.refl _) .nil)))) .nil rfl rfl rfl)⟩
      · rintro ⟨a9, a10⟩ hM
        replace hM : rootcauselaw27_BudgetFits_K11 x1 v7 a9 a10 = some r := hM
        unfold rootcauselaw27_BudgetFits_K11 at hM
        refine a_seq ?_
        refine a_region (.cons (o_move rfl) <| .cons (o_move rfl) <| .cons (o_move rfl) <| .cons (o_int rfl rfl rfl) <| .cons (o_int rfl rfl rfl) <| .cons (o_move rfl) <| .cons (o_guardG .bT rfl rfl (fun hb => (.keep .nil)) (fun hb => o_move rfl)) <| .cons (o_guardG .bT rfl rfl (fun hb => (.strip rfl hb .nil)) (fun hb => o_int rfl rfl rfl)) <| .cons (o_guardG .bT rfl rfl (fun hb => (.strip rfl hb .nil)) (fun hb => o_move rfl)) <| .cons (o_guardG .iF rfl rfl (fun hb => (.keep .nil)) (fun hb => o_move rfl)) <| .cons (o_guardG .iF rfl rfl (fun hb => (.keep .nil)) (fun hb => o_move rfl)) <| .cons (o_guardG .iF rfl rfl (fun hb => (.strip rfl hb (.strip rfl hb .nil))) (fun hb => o_int rfl rfl rfl)) <| .cons (o_guardG .iF rfl rfl (fun hb => (.strip rfl hb .nil)) (fun hb => o_move rfl)) <| .cons (o_guardG .iT rfl rfl (fun hb => (.keep .nil)) (fun hb => o_move rfl)) <| .cons (o_guardG .iT rfl rfl (fun hb => (.keep .nil)) (fun hb => o_move rfl)) <| .cons (o_guardG .iT rfl rfl (fun hb => (.keep .nil)) (fun hb => o_move rfl)) <| .cons (o_guardG .iT rfl rfl (fun hb => (.strip rfl hb (.strip rfl hb .nil))) (fun hb => o_int rfl rfl rfl)) <| .cons (o_guardG .iT rfl rfl (fun hb => (.strip rfl hb (.strip rfl hb .nil))) (fun hb => o_int rfl rfl rfl)) <| .cons (o_guardG .iF rfl rfl (fun hb => (.strip rfl hb (.half rfl hb .nil))) (fun hb => o_and rfl rfl)) <| .cons (o_guardG .bT rfl rfl (fun hb => (.strip rfl hb (.half rfl hb .nil))) (fun hb => o_or rfl rfl)) <| .cons (o_and rfl rfl) <| .cons (o_assign rfl) <| .nil _) (by kernel_rfl) (by kernel_rfl) ?_
        obtain rfl := Option.some.inj hM
        exact a_ret (a_post (.r1 (.tmp rfl)) (DLe.refl _) PostOk.nil.spec)

def rootcauselaw27_BudgetFirst_K9 : Option Bool :=
  some true
def rootcauselaw27_BudgetFirst_K14 : Option (Ctl Unit Bool) :=
  some (.next ())
def rootcauselaw27_BudgetFirst_L18 (v5 : (List record_Record) × (List rootcauseref27_Item)) (v7 : (List Bool) × Int) (k10 : Nat) (v16 : rootcauseref27_Item) (k17 : Nat) : Option (Ctl Unit Bool) :=
  (idx v5.2 (k17 : Int)).bind fun v22 =>
  (gb ((decide (0 < v16.gClass)) && (decide (v16.gClass < v22.gClass))) false (idx v7.1 (k17 : Int))).bind fun v24 =>
  (gb (((decide (0 < v16.gClass)) && (decide (v16.gClass < v22.gClass))) && v24) false (idx v7.1 (k10 : Int))).bind fun v26 =>
  if ((((decide (0 < v16.gClass)) && (decide (v16.gClass < v22.gClass))) && v24) && (!v26)) = true then
    some (.done false)
  else
    some (.next ())
def rootcauselaw27_BudgetFirst_L11 (v5 : (List record_Record) × (List rootcauseref27_Item)) (v7 : (List Bool) × Int) (k10 : Nat) : Option (Ctl Unit Bool) :=
  (idx v5.2 (k10 : Int)).bind fun v16 =>
  (forM' (E := Bool) 9223372036854775807 (List.length v5.2 : Int) (fun k17 s => rootcauselaw27_BudgetFirst_L18 v5 v7 k10 v16 k17) ()).bind fun
    | .next s => rootcauselaw27_BudgetFirst_K14
    | .done r => some (.done r)
def rootcauselaw27_BudgetFirst (x0 : List rootcauselaw27_Raw) (x1 : Int) : Option Bool :=
  (rootcauselaw27_awake).bind fun v2 =>
  if (!v2) = true then
    some false
  else
    (rootcauselaw27_records x0).bind fun v5 =>
    (budget_Plan v5.1 x1).bind fun v7 =>
    if ((List.length v7.1 : Int) != (List.length v5.1 : Int)) = true then
      some false
    else
      (forM' (E := Bool) 9223372036854775807 (List.length v5.2 : Int) (fun k10 s => rootcauselaw27_BudgetFirst_L11 v5 v7 k10) ()).bind fun
        | .next s => rootcauselaw27_BudgetFirst_K9
        | .done r => some r
theorem rootcauselaw27_BudgetFirst_c {x0 : List rootcauselaw27_Raw} {x1 : Int} {r : Bool} (hM : rootcauselaw27_BudgetFirst x0 x1 = some r) : PCall Try.prog 13 [.sl 5 (List.map rootcauselaw27_Raw.dv x0), .int .i64 x1] (.bool r) := by
  unfold rootcauselaw27_BudgetFirst at hM
  refine PCall.body Try.func13 Try.ntmps13 rfl rfl rfl rfl ?_
  refine a_seq ?_
  refine a_region (.cons (o_assign rfl) <| .nil _) (by kernel_rfl) (by kernel_rfl) ?_
  refine a_seq ?_
  refine a_seq ?_
  obtain ⟨v2, h1, hM⟩ := of_bind hM
  refine a_region (.cons (o_call (rootcauselaw27_awake_c h1) rfl (DLeL.refl _) rfl) <| .cons (o_not rfl) <| .nil _) (by kernel_rfl) (by kernel_rfl) ?_
  refine a_cond _ rfl (fun h3 => ?_) (fun h3 => ?_)
  · replace hM := (of_if hM).1 h3
    refine a_seq ?_
    refine a_region (.cons (o_assign rfl) <| .nil _) (by kernel_rfl) (by kernel_rfl) ?_
    obtain rfl := Option.some.inj hM
    exact a_ret (a_post (.r1 (.tmp rfl)) (DLe.refl _) PostOk.nil.spec)
  · replace hM := (of_if hM).2 h3
    refine a_skip ?_
    refine a_seq ?_
    obtain ⟨v5, h4, hM⟩ := of_bind hM
    refine a_region (.cons (o_move rfl) <| .cons (o_call (rootcauselaw27_records_c h4) rfl (DLeL.refl _) rfl) <| .cons (o_move rfl) <| .cons (o_extract rfl rfl) <| .cons (o_extract rfl rfl) <| .cons (o_assign rfl) <| .cons (o_assign rfl) <| .nil _) (by kernel_rfl) (by kernel_rfl) ?_
    refine a_seq ?_
    obtain ⟨v7, h6, hM⟩ := of_bind hM
    refine a_region (.cons (o_move rfl) <| .cons (o_move rfl) <| .cons (o_call (budget_Plan_c h6) rfl (DLeL.refl _) rfl) <| .cons (o_move rfl) <| .cons (o_extract rfl rfl) <| .cons (o_extract rfl rfl) <| .cons (o_assign rfl) <| .cons (o_assign rfl) <| .nil _) (by kernel_rfl) (by kernel_rfl) ?_
    refine a_seq ?_
    refine a_seq ?_
    refine a_region (.cons (o_move rfl) <| .cons (t_len rfl) <| .cons (o_move rfl) <| .cons (t_len rfl) <| .cons (o_int rfl rfl rfl) <| .nil _) (by kernel_rfl) (by kernel_rfl) ?_
    refine a_cond _ rfl (fun h8 => ?_) (fun h8 => ?_)
    · replace hM := (of_if hM).1 h8
      refine a_seq ?_
      refine a_region (.cons (o_assign rfl) <| .nil _) (by kernel_rfl) (by kernel_rfl) ?_
      obtain rfl := Option.some.inj hM
      exact a_ret (a_post (.r1 (.tmp rfl)) (DLe.refl _) PostOk.nil.spec)
    · replace hM := (of_if hM).2 h8
      refine a_skip ?_
      refine a_cut (α := Unit) (fun s => ⟨[], [], []⟩) (fun s => rootcauselaw27_BudgetFirst_K9 = some r) ?_ ?_
      · refine a_seq ?_
        refine a_region (.cons (o_move rfl) <| .cons (t_len rfl) <| .cons (o_move rfl) <| .nil _) (by kernel_rfl) (by kernel_rfl) ?_
        obtain ⟨t11, hL11, hK11⟩ := of_bind hM
        refine a_block ?_
        refine a_for (fun k10 s => ⟨[(6, .sl 2 (List.map rootcauseref27_Item.dv v5.2)), (7, .sl 1 (List.map DV.bool v7.1)), (31, .sl 2 (List.map rootcauseref27_Item.dv v5.2)), (32, .int .i64 (List.length v5.2 : Int)), (33, .int .i64 (k10 : Int))], [], []⟩) _ hL11 (Imp.of (fun i => i) (.cons rfl (DLe.refl _) (.cons rfl (DLe.refl _) (.cons rfl (DLe.refl _) (.cons rfl (DLe.refl _) (.cons rfl (DLe.refl _) .nil))))) .nil rfl rfl rfl) ?_ ?_
        · rintro k10 _ t12 hk10 hx10 hM hE11
          replace hM : rootcauselaw27_BudgetFirst_L11 v5 v7 k10 = some t12 := hM
          unfold rootcauselaw27_BudgetFirst_L11 at hM
          refine a_seq ?_
          refine a_region (.cons (o_int rfl rfl rfl) <| .nil _) (by kernel_rfl) (by kernel_rfl) ?_
          refine a_seq ?_
          refine a_cond _ rfl (fun _ => ?_) (fun c => absurd hk10 (of_decide_eq_false c))
          refine a_skip ?_
          refine a_cut (α := Unit) (fun s => ⟨[(6, .sl 2 (List.map rootcauseref27_Item.dv v5.2)), (7, .sl 1 (List.map DV.bool v7.1)), (31, .sl 2 (List.map rootcauseref27_Item.dv v5.2)), (32, .int .i64 (List.length v5.2 : Int)), (33, .int .i64 (k10 : Int))], [], []⟩) (fun s => rootcauselaw27_BudgetFirst_K14 = some t12) ?_ ?_
          · refine a_block ?_
            refine a_seq ?_
            obtain ⟨v16, h15, hM⟩ := of_bind hM
            refine a_region (.cons (o_move rfl) <| .cons (t_index h15 rfl rfl rfl) <| .cons (o_load_er rfl rfl rfl) <| .cons (o_alloc rfl) <| .cons (o_assign rfl) <| .cons (o_store rfl rfl rfl rfl rfl rfl rfl) <| .nil _) (by kernel_rfl) (by kernel_rfl) ?_
            refine a_seq ?_
            refine a_region (.cons (o_move rfl) <| .cons (t_len rfl) <| .cons (o_move rfl) <| .nil _) (by kernel_rfl) (by kernel_rfl) ?_
            obtain ⟨t18, hL18, hK18⟩ := of_bind hM
            refine a_block ?_
            refine a_for (fun k17 s => ⟨[(6, .sl 2 (List.map rootcauseref27_Item.dv v5.2)), (7, .sl 1 (List.map DV.bool v7.1)), (9, .int .i64 (k10 : Int)), (10, .ref 10 0), (31, .sl 2 (List.map rootcauseref27_Item.dv v5.2)), (32, .int .i64 (List.length v5.2 : Int)), (33, .int .i64 (k10 : Int)), (38, .sl 2 (List.map rootcauseref27_Item.dv v5.2)), (39, .int .i64 (List.length v5.2 : Int)), (40, .int .i64 (k17 : Int))], [(10, some (.blk 75 (rootcauseref27_Item.cs v16)))], [10]⟩) _ hL18 (Imp.of (fun i => i) (.cons rfl (DLe.refl _) (.cons rfl (DLe.refl _) (.cons rfl (DLe.refl _) (.cons rfl (DLe.refl _) (.cons rfl (DLe.refl _) (.cons rfl (DLe.refl _) (.cons rfl (DLe.refl _) (.cons rfl (DLe.refl _) (.cons rfl (DLe.refl _) (.cons rfl (DLe.refl _) .nil)))))))))) (.cons rfl (.refl _) .nil) rfl rfl rfl) ?_ ?_
            · rintro k17 _ t19 hk17 hx17 hM hE18
              replace hM : rootcauselaw27_BudgetFirst_L18 v5 v7 k10 v16 k17 = some t19 := hM
              unfold rootcauselaw27_BudgetFirst_L18 at hM
              refine a_seq ?_
              refine a_region (.cons (o_int rfl rfl rfl) <| .nil _) (by kernel_rfl) (by kernel_rfl) ?_
              refine a_seq ?_
              refine a_cond _ rfl (fun _ => ?_) (fun c => absurd hk17 (of_decide_eq_false c))
              refine a_skip ?_
              refine a_seq ?_
              refine a_block ?_
              refine a_seq ?_
              obtain ⟨v22, h21, hM⟩ := of_bind hM
              refine a_region (.cons (o_move rfl) <| .cons (t_index h21 rfl rfl rfl) <| .cons (o_load_er rfl rfl rfl) <| .cons (o_alloc rfl) <| .cons (o_assign rfl) <| .cons (o_store rfl rfl rfl rfl rfl rfl rfl) <| .nil _) (by kernel_rfl) (by kernel_rfl) ?_
              refine a_seq ?_
              obtain ⟨v24, h23, hM⟩ := of_bind hM
              obtain ⟨v26, h25, hM⟩ := of_bind hM
              refine a_region (.cons (o_fieldAddr rfl) <| .cons (o_load_s rfl rfl rfl) <| .cons (o_int rfl rfl rfl) <| .cons (o_move rfl) <| .cons (o_guardG .bT rfl rfl (fun hb => (.keep .nil)) (fun hb => o_fieldAddr rfl)) <| .cons (o_guardG .bT rfl rfl (fun hb => (.strip rfl hb .nil)) (fun hb => o_load_s rfl rfl rfl)) <| .cons (o_guardG .bT rfl rfl (fun hb => (.keep .nil)) (fun hb => o_fieldAddr rfl)) <| .cons (o_guardG .bT rfl rfl (fun hb => (.strip rfl hb .nil)) (fun hb => o_load_s rfl rfl rfl)) <| .cons (o_guardG .bT rfl rfl (fun hb => (.strip rfl hb (.strip rfl hb .nil))) (fun hb => o_int rfl rfl rfl)) <| .cons (o_and rfl rfl) <| .cons (o_move rfl) <| .cons (o_guardG .bT rfl rfl (fun hb => (.keep .nil)) (fun hb => o_move rfl)) <| .cons (o_guardG .bT rfl rfl (fun hb => (.keep .nil)) (fun hb => o_move rfl)) <| .cons (o_guardG .bT rfl rfl (fun hb => (.strip rfl hb (.strip rfl hb .nil))) (fun hb => t_index (of_gb h23 hb) rfl rfl rfl)) <| .cons (o_guardG .bT rfl rfl (fun hb => (.strip rfl hb .nil)) (fun hb => o_load_es rfl rfl)) <| .cons (o_and rfl rfl) <| .cons (o_move rfl) <| .cons (o_guardG .bT rfl rfl (fun hb => (.keep .nil)) (fun hb => o_move rfl)) <| .cons (o_guardG .bT rfl rfl (fun hb => (.keep .nil)) (fun hb => o_move rfl)) <| .cons (o_guardG .bT rfl rfl (fun hb => (.strip rfl hb (.strip rfl hb .nil))) (fun hb => t_index (of_gb h25 hb) rfl rfl rfl)) <| .cons (o_guardG .bT rfl rfl (fun hb => (.strip rfl hb .nil)) (fun hb => o_load_es rfl rfl)) <| .cons (o_guardG .bT rfl rfl (fun hb => (.strip rfl hb .nil)) (fun hb => o_not rfl)) <| .cons (o_and rfl rfl) <| .nil _) (by kernel_rfl) (by kernel_rfl) ?_
              refine a_cond _ rfl (fun h27 => ?_) (fun h27 => ?_)
              · replace hM := (of_if hM).1 h27
                refine a_seq ?_
                refine a_region (.cons (o_assign rfl) <| .nil _) (by kernel_rfl) (by kernel_rfl) ?_
                obtain rfl := Option.some.inj hM
                obtain rfl := hE18 _ rfl
                obtain rfl := Option.some.inj hK18
                obtain rfl := hE11 _ rfl
                obtain rfl := Option.some.inj hK11
                exact a_ret (a_post (.r1 (.tmp rfl)) (DLe.refl _) PostOk.nil.spec)
              · replace hM := (of_if hM).2 h27
                refine a_skip ?_
                refine a_region (.cons (o_add rfl rfl (inR_i64 hk17 hx17)) <| .cons (o_move rfl) <| .nil _) (by kernel_rfl) (by kernel_rfl) ?_
                obtain rfl := Option.some.inj hM
                exact ⟨(), rfl, (Imp.of (fun i => i) (.cons rfl (DLe.refl _) (.cons rfl (DLe.refl _) (.cons rfl (DLe.refl _) (.cons rfl (DLe.refl _) (.cons rfl (DLe.refl _) (.cons rfl (DLe.refl _) (.cons rfl (DLe.refl _) (.cons rfl (DLe.refl _) (.cons rfl (DLe.refl _) (.cons rfl (DLe.succ _ _) .nil)))))))))) (.cons rfl (.refl _) .nil) rfl rfl rfl)⟩
            · rintro k17 _ hk17 hx17 rfl
              refine a_seq ?_
              refine a_region (.cons (o_int rfl rfl rfl) <| .nil _) (by kernel_rfl) (by kernel_rfl) ?_
              refine a_seq ?_
              refine a_cond _ rfl (fun c => absurd (of_decide_eq_true c) (Int.not_lt.2 hk17)) (fun _ => ?_)
              refine a_exit ?_
              exact ⟨(), hK18, (Imp.of (fun i => i) (.cons rfl (DLe.refl _) (.cons rfl (DLe.refl _) (.cons rfl (DLe.refl _) (.cons rfl (DLe.refl _) (.cons rfl (DLe.refl _) .nil))))) .nil rfl rfl rfl)⟩
          · rintro _ hM
            replace hM : rootcauselaw27_BudgetFirst_K14 = some t12 := hM
            unfold rootcauselaw27_BudgetFirst_K14 at hM
            refine a_region (.cons (o_add rfl rfl (inR_i64 hk10 hx10)) <| .cons (o_move rfl) <| .nil _) (by kernel_rfl) (by kernel_rfl) ?_
            obtain rfl := Option.some.inj hM
            exact ⟨(), rfl, (Imp.of (fun i => i) (.cons rfl (DLe.refl _) (.cons rfl (DLe.refl _) (.cons rfl (DLe.refl _) (.cons rfl (DLe.refl _) (.cons rfl (DLe.succ _ _) .nil))))) .nil rfl rfl rfl)⟩
        · rintro k10 _ hk10 hx10 rfl
          refine a_seq ?_
          refine a_region (.cons (o_int rfl rfl rfl) <| .nil _) (by kernel_rfl) (by kernel_rfl) ?_
          refine a_seq ?_
          refine a_cond _ rfl (fun c => absurd (of_decide_eq_true c) (Int.not_lt.2 hk10)) (fun _ => ?_)
          refine a_exit ?_
          exact ⟨(), hK11, (Imp.of (fun i => i) .nil .nil rfl rfl rfl)⟩
      · rintro _ hM
        replace hM : rootcauselaw27_BudgetFirst_K9 = some r := hM
        unfold rootcauselaw27_BudgetFirst_K9 at hM
        refine a_seq ?_
        refine a_region (.cons (o_assign rfl) <| .nil _) (by kernel_rfl) (by kernel_rfl) ?_
        obtain rfl := Option.some.inj hM
        exact a_ret (a_post (.r1 (.tmp rfl)) (DLe.refl _) PostOk.nil.spec)

def rootcauselaw27_BudgetGrows_K11 : Option Bool :=
  some true
def rootcauselaw27_BudgetGrows_L13 (v5 : (List record_Record) × (List rootcauseref27_Item)) (v7 : (List Bool) × Int) (v9 : (List Bool) × Int) (a12 : Int) : Option (Ctl Int ((Unit) ⊕ Bool)) :=
  if (decide (a12 ≤ 4)) = true then
    (rootcauselaw27_kept v5.2 v7.1 a12).bind fun v17 =>
    (rootcauselaw27_kept v5.2 v9.1 a12).bind fun v19 =>
    if (decide ((List.length v19.1 : Int) < (List.length v17.1 : Int))) = true then
      some (.done (.inr false))
    else
      some (.next (IntKind.wrap .i64 (a12 + 1)))
  else
    some (.done (.inl ()))
def rootcauselaw27_BudgetGrows (x0 : List rootcauselaw27_Raw) (x1 : Int) (x2 : Int) : Option Bool :=
  (rootcauselaw27_awake).bind fun v2 =>
  if (!v2) = true then
    some false
  else
    (rootcauselaw27_records x0).bind fun v5 =>
    (budget_Plan v5.1 (IntKind.wrap .i64 x1)).bind fun v7 =>
    (budget_Plan v5.1 (IntKind.wrap .i64 ((IntKind.wrap .i64 x1) + (IntKind.wrap .i64 x2)))).bind fun v9 =>
    if (((List.length v7.1 : Int) != (List.length v5.1 : Int)) || ((List.length v9.1 : Int) != (List.length v5.1 : Int))) = true then
      some false
    else
      (whileM (E := (Unit) ⊕ Bool) (fun s => rootcauselaw27_BudgetGrows_L13 v5 v7 v9 s) 1).bind fun
        | .inl e => rootcauselaw27_BudgetGrows_K11
        | .inr r => some r
theorem rootcauselaw27_BudgetGrows_c {x0 : List rootcauselaw27_Raw} {x1 : Int} {x2 : Int} {r : Bool} (hM : rootcauselaw27_BudgetGrows x0 x1 x2 = some r) : PCall Try.prog 14 [.sl 5 (List.map rootcauselaw27_Raw.dv x0), .int .i16 x1, .int .u8 x2] (.bool r) := by
  unfold rootcauselaw27_BudgetGrows at hM
  refine PCall.body Try.func14 Try.ntmps14 rfl rfl rfl rfl ?_
  refine a_seq ?_
  refine a_region (.cons (o_assign rfl) <| .nil _) (by kernel_rfl) (by kernel_rfl) ?_
  refine a_seq ?_
  refine a_seq ?_
  obtain ⟨v2, h1, hM⟩ := of_bind hM
  refine a_region (.cons (o_call (rootcauselaw27_awake_c h1) rfl (DLeL.refl _) rfl) <| .cons (o_not rfl) <| .nil _) (by kernel_rfl) (by kernel_rfl) ?_
  refine a_cond _ rfl (fun h3 => ?_) (fun h3 => ?_)
  · replace hM := (of_if hM).1 h3
    refine a_seq ?_
    refine a_region (.cons (o_assign rfl) <| .nil _) (by kernel_rfl) (by kernel_rfl) ?_
    obtain rfl := Option.some.inj hM
    exact a_ret (a_post (.r1 (.tmp rfl)) (DLe.refl _) PostOk.nil.spec)
  · replace hM := (of_if hM).2 h3
    refine a_skip ?_
    refine a_seq ?_
    obtain ⟨v5, h4, hM⟩ := of_bind hM
    refine a_region (.cons (o_move rfl) <| .cons (o_call (rootcauselaw27_records_c h4) rfl (DLeL.refl _) rfl) <| .cons (o_move rfl) <| .cons (o_extract rfl rfl) <| .cons (o_extract rfl rfl) <| .cons (o_assign rfl) <| .cons (o_assign rfl) <| .nil _) (by kernel_rfl) (by kernel_rfl) ?_
    refine a_seq ?_
    obtain ⟨v7, h6, hM⟩ := of_bind hM
    refine a_region (.cons (o_move rfl) <| .cons (o_move rfl) <| .cons (o_conv_w rfl) <| .cons (o_call (budget_Plan_c h6) rfl (DLeL.refl _) rfl) <| .cons (o_move rfl) <| .cons (o_extract rfl rfl) <| .cons (o_extract rfl rfl) <| .cons (o_assign rfl) <| .cons (o_assign rfl) <| .nil _) (by kernel_rfl) (by kernel_rfl) ?_
    refine a_seq ?_
    obtain ⟨v9, h8, hM⟩ := of_bind hM
    refine a_region (.cons (o_move rfl) <| .cons (o_move rfl) <| .cons (o_conv_w rfl) <| .cons (o_move rfl) <| .cons (o_conv_w rfl) <| .cons (o_int rfl rfl rfl) <| .cons (o_call (budget_Plan_c h8) rfl (DLeL.refl _) rfl) <| .cons (o_move rfl) <| .cons (o_extract rfl rfl) <| .cons (o_extract rfl rfl) <| .cons (o_assign rfl) <| .cons (o_assign rfl) <| .nil _) (by kernel_rfl) (by kernel_rfl) ?_
    refine a_seq ?_
    refine a_seq ?_
    refine a_region (.cons (o_move rfl) <| .cons (t_len rfl) <| .cons (o_move rfl) <| .cons (t_len rfl) <| .cons (o_int rfl rfl rfl) <| .cons (o_move rfl) <| .cons (o_guardG .bF rfl rfl (fun hb => (.keep .nil)) (fun hb => o_move rfl)) <| .cons (o_guardG .bF rfl rfl (fun hb => (.strip rfl hb .nil)) (fun hb => t_len rfl)) <| .cons (o_guardG .bF rfl rfl (fun hb => (.keep .nil)) (fun hb => o_move rfl)) <| .cons (o_guardG .bF rfl rfl (fun hb => (.strip rfl hb .nil)) (fun hb => t_len rfl)) <| .cons (o_guardG .bF rfl rfl (fun hb => (.strip rfl hb (.strip rfl hb .nil))) (fun hb => o_int rfl rfl rfl)) <| .cons (o_or rfl rfl) <| .nil _) (by kernel_rfl) (by kernel_rfl) ?_
    refine a_cond _ rfl (fun h10 => ?_) (fun h10 => ?_)
    · replace hM := (of_if hM).1 h10
      refine a_seq ?_
      refine a_region (.cons (o_assign rfl) <| .nil _) (by kernel_rfl) (by kernel_rfl) ?_
      obtain rfl := Option.some.inj hM
      exact a_ret (a_post (.r1 (.tmp rfl)) (DLe.refl _) PostOk.nil.spec)
    · replace hM := (of_if hM).2 h10
      refine a_skip ?_
      refine a_cut (α := Unit) (fun s => ⟨[], [], []⟩) (fun s => rootcauselaw27_BudgetGrows_K11 = some r) ?_ ?_
      · refine a_seq ?_
        refine a_region (.cons (o_assign rfl) <| .nil _) (by kernel_rfl) (by kernel_rfl) ?_
        obtain ⟨e13, hL13, hK13⟩ := of_bind hM
        refine a_block ?_
        refine a_while (fun s => ⟨[(8, .sl 2 (List.map rootcauseref27_Item.dv v5.2)), (9, .sl 1 (List.map DV.bool v7.1)), (11, .sl 1 (List.map DV.bool v9.1)), (13, .int .i64 s)], [], []⟩) _ hL13 (Imp.of (fun i => i) (.cons rfl (DLe.refl _) (.cons rfl (DLe.refl _) (.cons rfl (DLe.refl _) (.cons rfl (DLe.refl _) .nil)))) .nil rfl rfl rfl) ?_
        rintro a12 t14 hM hE13
        replace hM : rootcauselaw27_BudgetGrows_L13 v5 v7 v9 a12 = some t14 := hM
        unfold rootcauselaw27_BudgetGrows_L13 at hM
        refine a_seq ?_
        refine a_seq ?_
        refine a_region (.cons (o_move rfl) <| .cons (o_int rfl rfl rfl) <| .nil _) (by kernel_rfl) (by kernel_rfl) ?_
        refine a_cond _ rfl (fun h15 => ?_) (fun h15 => ?_)
        · replace hM := (of_if hM).1 h15
          refine a_skip ?_
          refine a_seq ?_
          refine a_block ?_
          refine a_seq ?_
          obtain ⟨v17, h16, hM⟩ := of_bind hM
          refine a_region (.cons (o_move rfl) <| .cons (o_move rfl) <| .cons (o_move rfl) <| .cons (o_call (rootcauselaw27_kept_c h16) rfl (DLeL.refl _) rfl) <| .cons (o_move rfl) <| .cons (o_extract rfl rfl) <| .cons (o_extract rfl rfl) <| .cons (o_assign rfl) <| .cons (o_assign rfl) <| .nil _) (by kernel_rfl) (by kernel_rfl) ?_
          refine a_seq ?_
          obtain ⟨v19, h18, hM⟩ := of_bind hM
          refine a_region (.cons (o_move rfl) <| .cons (o_move rfl) <| .cons (o_move rfl) <| .cons (o_call (rootcauselaw27_kept_c h18) rfl (DLeL.refl _) rfl) <| .cons (o_move rfl) <| .cons (o_extract rfl rfl) <| .cons (o_extract rfl rfl) <| .cons (o_assign rfl) <| .cons (o_assign rfl) <| .nil _) (by kernel_rfl) (by kernel_rfl) ?_
          refine a_seq ?_
          refine a_region (.cons (o_move rfl) <| .cons (t_len rfl) <| .cons (o_move rfl) <| .cons (t_len rfl) <| .cons (o_int rfl rfl rfl) <| .nil _) (by kernel_rfl) (by kernel_rfl) ?_
          refine a_cond _ rfl (fun h20 => ?_) (fun h20 => ?_)
          · replace hM := (of_if hM).1 h20
            refine a_seq ?_
            refine a_region (.cons (o_assign rfl) <| .nil _) (by kernel_rfl) (by kernel_rfl) ?_
            obtain rfl := Option.some.inj hM
            obtain rfl := hE13 _ rfl
            obtain rfl := Option.some.inj hK13
            exact a_ret (a_post (.r1 (.tmp rfl)) (DLe.refl _) PostOk.nil.spec)
          · replace hM := (of_if hM).2 h20
            refine a_skip ?_
            refine a_region (.cons (o_move rfl) <| .cons (o_int rfl rfl rfl) <| .cons (o_assign rfl) <| .nil _) (by kernel_rfl) (by kernel_rfl) ?_
            obtain rfl := Option.some.inj hM
            exact ⟨(IntKind.wrap .i64 (a12 + 1)), rfl, (Imp.of (fun i => i) (.cons rfl (DLe.refl _) (.cons rfl (DLe.refl _) (.cons rfl (DLe.refl _) (.cons rfl (DLe.refl _) .nil)))) .nil rfl rfl rfl)⟩
        · replace hM := (of_if hM).2 h15
          refine a_exit ?_
          obtain rfl := Option.some.inj hM
          obtain rfl := hE13 _ rfl
          exact ⟨(), hK13, (Imp.of (fun i => i) .nil .nil rfl rfl rfl)⟩
      · rintro _ hM
        replace hM : rootcauselaw27_BudgetGrows_K11 = some r := hM
        unfold rootcauselaw27_BudgetGrows_K11 at hM
        refine a_seq ?_
        refine a_region (.cons (o_assign rfl) <| .nil _) (by kernel_rfl) (by kernel_rfl) ?_
        obtain rfl := Option.some.inj hM
        exact a_ret (a_post (.r1 (.tmp rfl)) (DLe.refl _) PostOk.nil.spec)

def rootcauselaw27_BudgetEnds_K17 : Option Bool :=
  some true
def rootcauselaw27_BudgetEnds_L19 (v5 : (List record_Record) × (List rootcauseref27_Item)) (v9 : (List Bool) × Int) (v11 : (List Bool) × Int) (v13 : (List Bool) × Int) (k18 : Nat) : Option (Ctl Unit Bool) :=
  (idx v5.2 (k18 : Int)).bind fun v23 =>
  (idx v9.1 (k18 : Int)).bind fun v25 =>
  (gb (!(!v25)) false (idx v11.1 (k18 : Int))).bind fun v27 =>
  (gb (!((!v25) || (v27 != (decide (v23.gClass < 0))))) false (idx v13.1 (k18 : Int))).bind fun v29 =>
  if (((!v25) || (v27 != (decide (v23.gClass < 0)))) || (v29 != (decide (v23.gClass < 0)))) = true then
    some (.done false)
  else
    some (.next ())
def rootcauselaw27_BudgetEnds (x0 : List rootcauselaw27_Raw) (x1 : Int) : Option Bool :=
  (rootcauselaw27_awake).bind fun v2 =>
  if (!v2) = true then
    some false
  else
    (rootcauselaw27_records x0).bind fun v5 =>
    (rootcauselaw27_size v5.2).bind fun v7 =>
    (budget_Plan v5.1 (IntKind.wrap .i64 (v7 + (IntKind.wrap .i64 x1)))).bind fun v9 =>
    (budget_Plan v5.1 0).bind fun v11 =>
    (budget_Plan v5.1 (IntKind.wrap .i64 (0 - (IntKind.wrap .i64 x1)))).bind fun v13 =>
    (rootcauselaw27_size v5.2).bind fun v15 =>
    if ((((v9.2 != v15) || ((List.length v9.1 : Int) != (List.length v5.1 : Int))) || ((List.length v11.1 : Int) != (List.length v5.1 : Int))) || ((List.length v13.1 : Int) != (List.length v5.1 : Int))) = true then
      some false
    else
      (forM' (E := Bool) 9223372036854775807 (List.length v5.2 : Int) (fun k18 s => rootcauselaw27_BudgetEnds_L19 v5 v9 v11 v13 k18) ()).bind fun
        | .next s => rootcauselaw27_BudgetEnds_K17
        | .done r => some r
theorem rootcauselaw27_BudgetEnds_c {x0 : List rootcauselaw27_Raw} {x1 : Int} {r : Bool} (hM : rootcauselaw27_BudgetEnds x0 x1 = some r) : PCall Try.prog 15 [.sl 5 (List.map rootcauselaw27_Raw.dv x0), .int .u16 x1] (.bool r) := by
  unfold rootcauselaw27_BudgetEnds at hM
  refine PCall.body Try.func15 Try.ntmps15 rfl rfl rfl rfl ?_
  refine a_seq ?_
  refine a_region (.cons (o_assign rfl) <| .nil _) (by kernel_rfl) (by kernel_rfl) ?_
  refine a_seq ?_
  refine a_seq ?_
  obtain ⟨v2, h1, hM⟩ := of_bind hM
  refine a_region (.cons (o_call (rootcauselaw27_awake_c h1) rfl (DLeL.refl _) rfl) <| .cons (o_not rfl) <| .nil _) (by kernel_rfl) (by kernel_rfl) ?_
  refine a_cond _ rfl (fun h3 => ?_) (fun h3 => ?_)
  · replace hM := (of_if hM).1 h3
    refine a_seq ?_
    refine a_region (.cons (o_assign rfl) <| .nil _) (by kernel_rfl) (by kernel_rfl) ?_
    obtain rfl := Option.some.inj hM
    exact a_ret (a_post (.r1 (.tmp rfl)) (DLe.refl _) PostOk.nil.spec)
  · replace hM := (of_if hM).2 h3
    refine a_skip ?_
    refine a_seq ?_
    obtain ⟨v5, h4, hM⟩ := of_bind hM
    refine a_region (.cons (o_move rfl) <| .cons (o_call (rootcauselaw27_records_c h4) rfl (DLeL.refl _) rfl) <| .cons (o_move rfl) <| .cons (o_extract rfl rfl) <| .cons (o_extract rfl rfl) <| .cons (o_assign rfl) <| .cons (o_assign rfl) <| .nil _) (by kernel_rfl) (by kernel_rfl) ?_
    refine a_seq ?_
    obtain ⟨v7, h6, hM⟩ := of_bind hM
    obtain ⟨v9, h8, hM⟩ := of_bind hM
    refine a_region (.cons (o_move rfl) <| .cons (o_move rfl) <| .cons (o_call (rootcauselaw27_size_c h6) rfl (DLeL.refl _) rfl) <| .cons (o_move rfl) <| .cons (o_conv_w rfl) <| .cons (o_int rfl rfl rfl) <| .cons (o_call (budget_Plan_c h8) rfl (DLeL.refl _) rfl) <| .cons (o_move rfl) <| .cons (o_extract rfl rfl) <| .cons (o_extract rfl rfl) <| .cons (o_assign rfl) <| .cons (o_assign rfl) <| .nil _) (by kernel_rfl) (by kernel_rfl) ?_
    refine a_seq ?_
    obtain ⟨v11, h10, hM⟩ := of_bind hM
    refine a_region (.cons (o_move rfl) <| .cons (o_call (budget_Plan_c h10) rfl (DLeL.refl _) rfl) <| .cons (o_move rfl) <| .cons (o_extract rfl rfl) <| .cons (o_extract rfl rfl) <| .cons (o_assign rfl) <| .cons (o_assign rfl) <| .nil _) (by kernel_rfl) (by kernel_rfl) ?_
    refine a_seq ?_
    obtain ⟨v13, h12, hM⟩ := of_bind hM
    refine a_region (.cons (o_move rfl) <| .cons (o_move rfl) <| .cons (o_conv_w rfl) <| .cons (o_neg rfl) <| .cons (o_call (budget_Plan_c h12) rfl (DLeL.refl _) rfl) <| .cons (o_move rfl) <| .cons (o_extract rfl rfl) <| .cons (o_extract rfl rfl) <| .cons (o_assign rfl) <| .cons (o_assign rfl) <| .nil _) (by kernel_rfl) (by kernel_rfl) ?_
    refine a_seq ?_
    refine a_seq ?_
    obtain ⟨v15, h14, hM⟩ := of_bind hM
    refine a_region (.cons (o_move rfl) <| .cons (o_move rfl) <| .cons (o_call (rootcauselaw27_size_c h14) rfl (DLeL.refl _) rfl) <| .cons (o_int rfl rfl rfl) <| .cons (o_move rfl) <| .cons (o_guardG .bF rfl rfl (fun hb => (.keep .nil)) (fun hb => o_move rfl)) <| .cons (o_guardG .bF rfl rfl (fun hb => (.strip rfl hb .nil)) (fun hb => t_len rfl)) <| .cons (o_guardG .bF rfl rfl (fun hb => (.keep .nil)) (fun hb => o_move rfl)) <| .cons (o_guardG .bF rfl rfl (fun hb => (.strip rfl hb .nil)) (fun hb => t_len rfl)) <| .cons (o_guardG .bF rfl rfl (fun hb => (.strip rfl hb (.strip rfl hb .nil))) (fun hb => o_int rfl rfl rfl)) <| .cons (o_or rfl rfl) <| .cons (o_move rfl) <| .cons (o_guardG .bF rfl rfl (fun hb => (.keep .nil)) (fun hb => o_move rfl)) <| .cons (o_guardG .bF rfl rfl (fun hb => (.strip rfl hb .nil)) (fun hb => t_len rfl)) <| .cons (o_guardG .bF rfl rfl (fun hb => (.keep .nil)) (fun hb => o_move rfl)) <| .cons (o_guardG .bF rfl rfl (fun hb => (.strip rfl hb .nil)) (fun hb => t_len rfl)) <| .cons (o_guardG .bF rfl rfl (fun hb => (.strip rfl hb (.strip rfl hb .nil))) (fun hb => o_int rfl rfl rfl)) <| .cons (o_or rfl rfl) <| .cons (o_move rfl) <| .cons (o_guardG .bF rfl rfl (fun hb => (.keep .nil)) (fun hb => o_move rfl)) <| .cons (o_guardG .bF rfl rfl (fun hb => (.strip rfl hb .nil)) (fun hb => t_len rfl)) <| .cons (o_guardG .bF rfl rfl (fun hb => (.keep .nil)) (fun hb => o_move rfl)) <| .cons (o_guardG .bF rfl rfl (fun hb => (.strip rfl hb .nil)) (fun hb => t_len rfl)) <| .cons (o_guardG .bF rfl rfl (fun hb => (.strip rfl hb (.strip rfl hb .nil))) (fun hb => o_int rfl rfl rfl)) <| .cons (o_or rfl rfl) <| .nil _) (by kernel_rfl) (by kernel_rfl) ?_
    refine a_cond _ rfl (fun h16 => ?_) (fun h16 => ?_)
    · replace hM := (of_if hM).1 h16
      refine a_seq ?_
      refine a_region (.cons (o_assign rfl) <| .nil _) (by kernel_rfl) (by kernel_rfl) ?_
      obtain rfl := Option.some.inj hM
      exact a_ret (a_post (.r1 (.tmp rfl)) (DLe.refl _) PostOk.nil.spec)
    · replace hM := (of_if hM).2 h16
      refine a_skip ?_
      refine a_cut (α := Unit) (fun s => ⟨[], [], []⟩) (fun s => rootcauselaw27_BudgetEnds_K17 = some r) ?_ ?_
      · refine a_seq ?_
        refine a_region (.cons (o_move rfl) <| .cons (t_len rfl) <| .cons (o_move rfl) <| .nil _) (by kernel_rfl) (by kernel_rfl) ?_
        obtain ⟨t19, hL19, hK19⟩ := of_bind hM
        refine a_block ?_
        refine a_for (fun k18 s => ⟨[(7, .sl 1 (List.map DV.bool v9.1)), (9, .sl 1 (List.map DV.bool v11.1)), (11, .sl 1 (List.map DV.bool v13.1)), (70, .sl 2 (List.map rootcauseref27_Item.dv v5.2)), (71, .int .i64 (List.length v5.2 : Int)), (72, .int .i64 (k18 : Int))], [], []⟩) _ hL19 (Imp.of (fun i => i) (.cons rfl (DLe.refl _) (.cons rfl (DLe.refl _) (.cons rfl (DLe.refl _) (.cons rfl (DLe.refl _) (.cons rfl (DLe.refl _) (.cons rfl (DLe.refl _) .nil)))))) .nil rfl rfl rfl) ?_ ?_
        · rintro k18 _ t20 hk18 hx18 hM hE19
          replace hM : rootcauselaw27_BudgetEnds_L19 v5 v9 v11 v13 k18 = some t20 := hM
          unfold rootcauselaw27_BudgetEnds_L19 at hM
          refine a_seq ?_
          refine a_region (.cons (o_int rfl rfl rfl) <| .nil _) (by kernel_rfl) (by kernel_rfl) ?_
          refine a_seq ?_
          refine a_cond _ rfl (fun _ => ?_) (fun c => absurd hk18 (of_decide_eq_false c))
          refine a_skip ?_
          refine a_seq ?_
          refine a_block ?_
          refine a_seq ?_
          obtain ⟨v23, h22, hM⟩ := of_bind hM
          refine a_region (.cons (o_move rfl) <| .cons (t_index h22 rfl rfl rfl) <| .cons (o_load_er rfl rfl rfl) <| .cons (o_alloc rfl) <| .cons (o_assign rfl) <| .cons (o_store rfl rfl rfl rfl rfl rfl rfl) <| .nil _) (by kernel_rfl) (by kernel_rfl) ?_
          refine a_seq ?_
          obtain ⟨v25, h24, hM⟩ := of_bind hM
          obtain ⟨v27, h26, hM⟩ := of_bind hM
          obtain ⟨v29, h28, hM⟩ := of_bind hM
          refine a_draw mixed (.cons (o_move rfl) <| .cons (o_move rfl) <| .cons (t_index h24 rfl rfl rfl) <| .cons (o_load_es rfl rfl) <| .cons (o_not rfl) <| .cons (o_move rfl) <| .cons (o_guardG .bF rfl rfl (fun hb => (.keep .nil)) (fun hb => o_move rfl)) <| .cons (o_guardG .bF rfl rfl (fun hb => (.keep .nil)) (fun hb => o_move rfl)) <| .cons (o_guardG .bF rfl rfl (fun hb => (.strip rfl hb (.strip rfl hb .nil))) (fun hb => t_index (of_gb h26 hb) rfl rfl rfl)) <| .cons (o_guardG .bF rfl rfl (fun hb => (.strip rfl hb .nil)) (fun hb => o_load_es rfl rfl)) <| .cons (o_guardG .bF rfl rfl (fun hb => (.keep .nil)) (fun hb => o_fieldAddr rfl)) <| .cons (o_guardG .bF rfl rfl (fun hb => (.strip rfl hb .nil)) (fun hb => o_load_s rfl rfl rfl)) <| .cons (o_guardG .bF rfl rfl (fun hb => (.strip rfl hb .nil)) (fun hb => o_int rfl rfl rfl)) <| .cons (o_guardG .bF rfl rfl (fun hb => (.strip rfl hb (.strip rfl hb .nil))) (fun hb => o_boolne rfl rfl)) <| .cons (o_or rfl rfl) <| .cons (o_move rfl) <| .cons (o_guardG .bF rfl rfl (fun hb => (.keep .nil)) (fun hb => o_move rfl)) <| .cons (o_guardG .bF rfl rfl (fun hb => (.keep .nil)) (fun hb => o_move rfl)) <| .cons (o_guardG .bF rfl rfl (fun hb => (.strip rfl hb (.strip rfl hb .nil))) (fun hb => t_index (of_gb h28 hb) rfl rfl rfl)) <| .cons (o_guardG .bF rfl rfl (fun hb => (.strip rfl hb .nil)) (fun hb => o_load_es rfl rfl)) <| .cons (o_guardG .bF rfl rfl (fun hb => (.keep .nil)) (fun hb => o_fieldAddr rfl)) <| .cons (o_guardG .bF rfl rfl (fun hb => (.strip rfl hb .nil)) (fun hb => o_load_s rfl rfl rfl)) <| .cons (o_guardG .bF rfl rfl (fun hb => (.strip rfl hb .nil)) (fun hb => o_int rfl rfl rfl)) <| .cons (o_guardG .bF rfl rfl (fun hb => (.strip rfl hb (.strip rfl hb .nil))) (fun hb => o_boolne rfl rfl)) <| .cons (o_or rfl rfl) <| .nil _) (by kernel_rfl) (by kernel_rfl) (by kernel_rfl) ?_
          refine a_cond _ rfl (fun h30 => ?_) (fun h30 => ?_)
          · replace hM := (of_if hM).1 h30
            refine a_seq ?_
            refine a_region (.cons (o_assign rfl) <| .nil _) (by kernel_rfl) (by kernel_rfl) ?_
            obtain rfl := Option.some.inj hM
            obtain rfl := hE19 _ rfl
            obtain rfl := Option.some.inj hK19
            exact a_ret (a_post (.r1 (.tmp rfl)) (DLe.refl _) PostOk.nil.spec)
          · replace hM := (of_if hM).2 h30
            refine a_skip ?_
            refine a_region (.cons (o_add rfl rfl (inR_i64 hk18 hx18)) <| .cons (o_move rfl) <| .nil _) (by kernel_rfl) (by kernel_rfl) ?_
            obtain rfl := Option.some.inj hM
            exact ⟨(), rfl, (Imp.of (fun i => i) (.cons rfl (DLe.refl _) (.cons rfl (DLe.refl _) (.cons rfl (DLe.refl _) (.cons rfl (DLe.refl _) (.cons rfl (DLe.refl _) (.cons rfl (DLe.succ _ _) .nil)))))) .nil rfl rfl rfl)⟩
        · rintro k18 _ hk18 hx18 rfl
          refine a_seq ?_
          refine a_region (.cons (o_int rfl rfl rfl) <| .nil _) (by kernel_rfl) (by kernel_rfl) ?_
          refine a_seq ?_
          refine a_cond _ rfl (fun c => absurd (of_decide_eq_true c) (Int.not_lt.2 hk18)) (fun _ => ?_)
          refine a_exit ?_
          exact ⟨(), hK19, (Imp.of (fun i => i) .nil .nil rfl rfl rfl)⟩
      · rintro _ hM
        replace hM : rootcauselaw27_BudgetEnds_K17 = some r := hM
        unfold rootcauselaw27_BudgetEnds_K17 at hM
        refine a_seq ?_
        refine a_region (.cons (o_assign rfl) <| .nil _) (by kernel_rfl) (by kernel_rfl) ?_
        obtain rfl := Option.some.inj hM
        exact a_ret (a_post (.r1 (.tmp rfl)) (DLe.refl _) PostOk.nil.spec)

def rootcauselaw27_BudgetEven_K9 : Option Bool :=
  some true
def rootcauselaw27_BudgetEven_K14 (a10 : Int) : Option (Ctl Int ((Unit) ⊕ Bool)) :=
  some (.next (IntKind.wrap .i64 (a10 + 1)))
def rootcauselaw27_BudgetEven_K23 (a10 : Int) (a21 : Int) (a22 : Int) : Option (Ctl Int ((Unit) ⊕ Bool)) :=
  if (decide ((IntKind.wrap .i64 (a21 + 1)) < a22)) = true then
    some (.done (.inr false))
  else
    rootcauselaw27_BudgetEven_K14 a10
def rootcauselaw27_BudgetEven_K32 (v16 : (List Int) × Int) (k25 : Nat) (a26 : Int) (a27 : Int) (a31 : Int) : Option (Int × Int) :=
  (idx v16.1 (k25 : Int)).bind fun v34 =>
  (idx v16.1 (k25 : Int)).bind fun v36 =>
  some ((if (IntKind.wrap .i64 (a31 - v34)) < a26 then (IntKind.wrap .i64 (a31 - v34)) else a26), (if (IntKind.wrap .i64 (a31 - v36)) > a27 then (IntKind.wrap .i64 (a31 - v36)) else a27))
def rootcauselaw27_BudgetEven_L28 (v16 : (List Int) × Int) (k25 : Nat) (a26 : Int) (a27 : Int) : Option (Int × Int) :=
  if (decide (((k25 : Int) + 1) < (List.length v16.1 : Int))) = true then
    (idx v16.1 ((k25 : Int) + 1)).bind fun v39 =>
    rootcauselaw27_BudgetEven_K32 v16 k25 a26 a27 v39
  else
    rootcauselaw27_BudgetEven_K32 v16 k25 a26 a27 v16.2
def rootcauselaw27_BudgetEven_L11 (v5 : (List record_Record) × (List rootcauseref27_Item)) (v7 : (List Bool) × Int) (a10 : Int) : Option (Ctl Int ((Unit) ⊕ Bool)) :=
  if (decide (a10 ≤ 4)) = true then
    (rootcauselaw27_kept v5.2 v7.1 a10).bind fun v16 =>
    if ((List.length v16.1 : Int) == 0) = true then
      rootcauselaw27_BudgetEven_K14 a10
    else
      (idx v16.1 0).bind fun v19 =>
      if (v19 != 0) = true then
        some (.done (.inr false))
      else
        (foldM' 9223372036854775807 (List.length v16.1 : Int) (fun k25 s => rootcauselaw27_BudgetEven_L28 v16 k25 s.1 s.2) (v16.2, 0)).bind fun s => rootcauselaw27_BudgetEven_K23 a10 s.1 s.2
  else
    some (.done (.inl ()))
def rootcauselaw27_BudgetEven (x0 : List rootcauselaw27_Raw) (x1 : Int) : Option Bool :=
  (rootcauselaw27_awake).bind fun v2 =>
  if (!v2) = true then
    some false
  else
    (rootcauselaw27_records x0).bind fun v5 =>
    (budget_Plan v5.1 x1).bind fun v7 =>
    if ((List.length v7.1 : Int) != (List.length v5.1 : Int)) = true then
      some false
    else
      (whileM (E := (Unit) ⊕ Bool) (fun s => rootcauselaw27_BudgetEven_L11 v5 v7 s) 1).bind fun
        | .inl e => rootcauselaw27_BudgetEven_K9
        | .inr r => some r
theorem rootcauselaw27_BudgetEven_c {x0 : List rootcauselaw27_Raw} {x1 : Int} {r : Bool} (hM : rootcauselaw27_BudgetEven x0 x1 = some r) : PCall Try.prog 16 [.sl 5 (List.map rootcauselaw27_Raw.dv x0), .int .i64 x1] (.bool r) := by
  unfold rootcauselaw27_BudgetEven at hM
  refine PCall.body Try.func16 Try.ntmps16 rfl rfl rfl rfl ?_
  refine a_seq ?_
  refine a_region (.cons (o_assign rfl) <| .nil _) (by kernel_rfl) (by kernel_rfl) ?_
  refine a_seq ?_
  refine a_seq ?_
  obtain ⟨v2, h1, hM⟩ := of_bind hM
  refine a_region (.cons (o_call (rootcauselaw27_awake_c h1) rfl (DLeL.refl _) rfl) <| .cons (o_not rfl) <| .nil _) (by kernel_rfl) (by kernel_rfl) ?_
  refine a_cond _ rfl (fun h3 => ?_) (fun h3 => ?_)
  · replace hM := (of_if hM).1 h3
    refine a_seq ?_
    refine a_region (.cons (o_assign rfl) <| .nil _) (by kernel_rfl) (by kernel_rfl) ?_
    obtain rfl := Option.some.inj hM
    exact a_ret (a_post (.r1 (.tmp rfl)) (DLe.refl _) PostOk.nil.spec)
  · replace hM := (of_if hM).2 h3
    refine a_skip ?_
    refine a_seq ?_
    obtain ⟨v5, h4, hM⟩ := of_bind hM
    refine a_region (.cons (o_move rfl) <| .cons (o_call (rootcauselaw27_records_c h4) rfl (DLeL.refl _) rfl) <| .cons (o_move rfl) <| .cons (o_extract rfl rfl) <| .cons (o_extract rfl rfl) <| .cons (o_assign rfl) <| .cons (o_assign rfl) <| .nil _) (by kernel_rfl) (by kernel_rfl) ?_
    refine a_seq ?_
    obtain ⟨v7, h6, hM⟩ := of_bind hM
    refine a_region (.cons (o_move rfl) <| .cons (o_move rfl) <| .cons (o_call (budget_Plan_c h6) rfl (DLeL.refl _) rfl) <| .cons (o_move rfl) <| .cons (o_extract rfl rfl) <| .cons (o_extract rfl rfl) <| .cons (o_assign rfl) <| .cons (o_assign rfl) <| .nil _) (by kernel_rfl) (by kernel_rfl) ?_
    refine a_seq ?_
    refine a_seq ?_
    refine a_region (.cons (o_move rfl) <| .cons (t_len rfl) <| .cons (o_move rfl) <| .cons (t_len rfl) <| .cons (o_int rfl rfl rfl) <| .nil _) (by kernel_rfl) (by kernel_rfl) ?_
    refine a_cond _ rfl (fun h8 => ?_) (fun h8 => ?_)
    · replace hM := (of_if hM).1 h8
      refine a_seq ?_
      refine a_region (.cons (o_assign rfl) <| .nil _) (by kernel_rfl) (by kernel_rfl) ?_
      obtain rfl := Option.some.inj hM
      exact a_ret (a_post (.r1 (.tmp rfl)) (DLe.refl _) PostOk.nil.spec)
    · replace hM := (of_if hM).2 h8
      refine a_skip ?_
      refine a_cut (α := Unit) (fun s => ⟨[], [], []⟩) (fun s => rootcauselaw27_BudgetEven_K9 = some r) ?_ ?_
      · refine a_seq ?_
        refine a_region (.cons (o_assign rfl) <| .nil _) (by kernel_rfl) (by kernel_rfl) ?_
        obtain ⟨e11, hL11, hK11⟩ := of_bind hM
        refine a_block ?_
        refine a_while (fun s => ⟨[(6, .sl 2 (List.map rootcauseref27_Item.dv v5.2)), (7, .sl 1 (List.map DV.bool v7.1)), (9, .int .i64 s)], [], []⟩) _ hL11 (Imp.of (fun i => i) (.cons rfl (DLe.refl _) (.cons rfl (DLe.refl _) (.cons rfl (DLe.refl _) .nil))) .nil rfl rfl rfl) ?_
        rintro a10 t12 hM hE11
        replace hM : rootcauselaw27_BudgetEven_L11 v5 v7 a10 = some t12 := hM
        unfold rootcauselaw27_BudgetEven_L11 at hM
        refine a_seq ?_
        refine a_seq ?_
        refine a_region (.cons (o_move rfl) <| .cons (o_int rfl rfl rfl) <| .nil _) (by kernel_rfl) (by kernel_rfl) ?_
        refine a_cond _ rfl (fun h13 => ?_) (fun h13 => ?_)
        · replace hM := (of_if hM).1 h13
          refine a_skip ?_
          refine a_cut (α := Unit) (fun s => ⟨[(6, .sl 2 (List.map rootcauseref27_Item.dv v5.2)), (7, .sl 1 (List.map DV.bool v7.1)), (9, .int .i64 a10)], [], []⟩) (fun s => rootcauselaw27_BudgetEven_K14 a10 = some t12) ?_ ?_
          · refine a_block ?_
            refine a_seq ?_
            obtain ⟨v16, h15, hM⟩ := of_bind hM
            refine a_region (.cons (o_move rfl) <| .cons (o_move rfl) <| .cons (o_move rfl) <| .cons (o_call (rootcauselaw27_kept_c h15) rfl (DLeL.refl _) rfl) <| .cons (o_move rfl) <| .cons (o_extract rfl rfl) <| .cons (o_extract rfl rfl) <| .cons (o_assign rfl) <| .cons (o_assign rfl) <| .nil _) (by kernel_rfl) (by kernel_rfl) ?_
            refine a_seq ?_
            refine a_seq ?_
            refine a_region (.cons (o_move rfl) <| .cons (t_len rfl) <| .cons (o_int rfl rfl rfl) <| .nil _) (by kernel_rfl) (by kernel_rfl) ?_
            refine a_cond _ rfl (fun h17 => ?_) (fun h17 => ?_)
            · replace hM := (of_if hM).1 h17
              refine a_exit ?_
              exact ⟨(), hM, (Imp.of (fun i => i) (.cons rfl (DLe.refl _) (.cons rfl (DLe.refl _) (.cons rfl (DLe.refl _) .nil))) .nil rfl rfl rfl)⟩
            · replace hM := (of_if hM).2 h17
              refine a_skip ?_
              refine a_seq ?_
              refine a_seq ?_
              obtain ⟨v19, h18, hM⟩ := of_bind hM
              refine a_region (.cons (o_move rfl) <| .cons (t_index h18 rfl rfl rfl) <| .cons (o_load_es rfl rfl) <| .cons (o_int rfl rfl rfl) <| .nil _) (by kernel_rfl) (by kernel_rfl) ?_
              refine a_cond _ rfl (fun h20 => ?_) (fun h20 => ?_)
              · replace hM := (of_if hM).1 h20
                refine a_seq ?_
                refine a_region (.cons (o_assign rfl) <| .nil _) (by kernel_rfl) (by kernel_rfl) ?_
                obtain rfl := Option.some.inj hM
                obtain rfl := hE11 _ rfl
                obtain rfl := Option.some.inj hK11
                exact a_ret (a_post (.r1 (.tmp rfl)) (DLe.refl _) PostOk.nil.spec)
              · replace hM := (of_if hM).2 h20
                refine a_skip ?_
                refine a_seq ?_
                refine a_region (.cons (o_move rfl) <| .cons (o_assign rfl) <| .cons (o_assign rfl) <| .nil _) (by kernel_rfl) (by kernel_rfl) ?_
                refine a_cut (α := Int × Int) (fun s => ⟨[(6, .sl 2 (List.map rootcauseref27_Item.dv v5.2)), (7, .sl 1 (List.map DV.bool v7.1)), (9, .int .i64 a10), (12, .int .i64 s.1), (13, .int .i64 s.2)], [], []⟩) (fun s => rootcauselaw27_BudgetEven_K23 a10 s.1 s.2 = some t12) ?_ ?_
                · refine a_seq ?_
                  refine a_region (.cons (o_move rfl) <| .cons (t_len rfl) <| .cons (o_move rfl) <| .nil _) (by kernel_rfl) (by kernel_rfl) ?_
                  obtain ⟨⟨a26, a27⟩, hL28, hK28⟩ := of_bind hM
                  refine a_block ?_
                  refine a_fold (fun k25 s => ⟨[(6, .sl 2 (List.map rootcauseref27_Item.dv v5.2)), (7, .sl 1 (List.map DV.bool v7.1)), (9, .int .i64 a10), (10, .sl 1 (List.map (DV.int .i64) v16.1)), (11, .int .i64 v16.2), (12, .int .i64 s.1), (13, .int .i64 s.2), (54, .int .i64 (List.length v16.1 : Int)), (55, .int .i64 (k25 : Int))], [], []⟩) _ hL28 (Imp.of (fun i => i) (.cons rfl (DLe.refl _) (.cons rfl (DLe.refl _) (.cons rfl (DLe.refl _) (.cons rfl (DLe.refl _) (.cons rfl (DLe.refl _) (.cons rfl (DLe.refl _) (.cons rfl (DLe.refl _) (.cons rfl (DLe.refl _) (.cons rfl (DLe.refl _) .nil))))))))) .nil rfl rfl rfl) ?_ ?_
                  · rintro k25 ⟨a26, a27⟩ t29 hk25 hx25 hM
                    replace hM : rootcauselaw27_BudgetEven_L28 v16 k25 a26 a27 = some t29 := hM
                    unfold rootcauselaw27_BudgetEven_L28 at hM
                    refine a_seq ?_
                    refine a_region (.cons (o_int rfl rfl rfl) <| .nil _) (by kernel_rfl) (by kernel_rfl) ?_
                    refine a_seq ?_
                    refine a_cond _ rfl (fun _ => ?_) (fun c => absurd hk25 (of_decide_eq_false c))
                    refine a_skip ?_
                    refine a_seq ?_
                    refine a_block ?_
                    refine a_seq ?_
                    refine a_region (.cons (o_move rfl) <| .cons (o_assign rfl) <| .nil _) (by kernel_rfl) (by kernel_rfl) ?_
                    refine a_seq ?_
                    refine a_region (.cons (o_move rfl) <| .cons (o_assign rfl) <| .nil _) (by kernel_rfl) (by kernel_rfl) ?_
                    refine a_cut (α := Int) (fun s => ⟨[(6, .sl 2 (List.map rootcauseref27_Item.dv v5.2)), (7, .sl 1 (List.map DV.bool v7.1)), (9, .int .i64 a10), (10, .sl 1 (List.map (DV.int .i64) v16.1)), (11, .int .i64 v16.2), (12, .int .i64 a26), (13, .int .i64 a27), (14, .int .i64 (k25 : Int)), (15, .int .i64 s), (54, .int .i64 (List.length v16.1 : Int)), (55, .int .i64 (k25 : Int))], [], []⟩) (fun s => rootcauselaw27_BudgetEven_K32 v16 k25 a26 a27 s = some t29) ?_ ?_
                    · refine a_seq ?_
                      refine a_region (.cons (o_move rfl) <| .cons (o_add rfl rfl (inR_i64 hk25 hx25)) <| .cons (o_move rfl) <| .cons (t_len rfl) <| .cons (o_int rfl rfl rfl) <| .nil _) (by kernel_rfl) (by kernel_rfl) ?_
                      refine a_cond _ rfl (fun h37 => ?_) (fun h37 => ?_)
                      · replace hM := (of_if hM).1 h37
                        obtain ⟨v39, h38, hM⟩ := of_bind hM
                        refine a_region (.cons (o_move rfl) <| .cons (o_move rfl) <| .cons (o_add rfl rfl (inR_i64 hk25 hx25)) <| .cons (t_index h38 rfl rfl rfl) <| .cons (o_load_es rfl rfl) <| .cons (o_assign rfl) <| .nil _) (by kernel_rfl) (by kernel_rfl) ?_
                        exact ⟨v39, hM, (Imp.of (fun i => i) (.cons rfl (DLe.refl _) (.cons rfl (DLe.refl _) (.cons rfl (DLe.refl _) (.cons rfl (DLe.refl _) (.cons rfl (DLe.refl _) (.cons rfl (DLe.refl _) (.cons rfl (DLe.refl _) (.cons rfl (DLe.refl _) (.cons rfl (DLe.refl _) (.cons rfl (DLe.refl _) (.cons rfl (DLe.refl _) .nil))))))))))) .nil rfl rfl rfl)⟩
                      · replace hM := (of_if hM).2 h37
                        refine a_skip ?_
                        exact ⟨v16.2, hM, (Imp.of (fun i => i) (.cons rfl (DLe.refl _) (.cons rfl (DLe.refl _) (.cons rfl (DLe.refl _) (.cons rfl (DLe.refl _) (.cons rfl (DLe.refl _) (.cons rfl (DLe.refl _) (.cons rfl (DLe.refl _) (.cons rfl (DLe.refl _) (.cons rfl (DLe.refl _) (.cons rfl (DLe.refl _) (.cons rfl (DLe.refl _) .nil))))))))))) .nil rfl rfl rfl)⟩
                    · rintro a31 hM
                      replace hM : rootcauselaw27_BudgetEven_K32 v16 k25 a26 a27 a31 = some t29 := hM
                      unfold rootcauselaw27_BudgetEven_K32 at hM
                      obtain ⟨v34, h33, hM⟩ := of_bind hM
                      obtain ⟨v36, h35, hM⟩ := of_bind hM
                      refine a_draw mixed (.cons (o_move rfl) <| .cons (o_move rfl) <| .cons (o_move rfl) <| .cons (o_move rfl) <| .cons (t_index h33 rfl rfl rfl) <| .cons (o_load_es rfl rfl) <| .cons (o_int rfl rfl rfl) <| .cons (o_min rfl rfl) <| .cons (o_move rfl) <| .cons (o_move rfl) <| .cons (o_move rfl) <| .cons (o_move rfl) <| .cons (t_index h35 rfl rfl rfl) <| .cons (o_load_es rfl rfl) <| .cons (o_int rfl rfl rfl) <| .cons (o_max rfl rfl) <| .cons (o_assign rfl) <| .cons (o_assign rfl) <| .nil _) (by kernel_rfl) (by kernel_rfl) (by kernel_rfl) ?_
                      refine a_region (.cons (o_add rfl rfl (inR_i64 hk25 hx25)) <| .cons (o_move rfl) <| .nil _) (by kernel_rfl) (by kernel_rfl) ?_
                      obtain rfl := Option.some.inj hM
                      exact (Imp.of (fun i => i) (.cons rfl (DLe.refl _) (.cons rfl (DLe.refl _) (.cons rfl (DLe.refl _) (.cons rfl (DLe.refl _) (.cons rfl (DLe.refl _) (.cons rfl (DLe.refl _) (.cons rfl (DLe.refl _) (.cons rfl (DLe.refl _) (.cons rfl (DLe.succ _ _) .nil))))))))) .nil rfl rfl rfl)
                  · rintro k25 hk25 hx25
                    refine a_seq ?_
                    refine a_region (.cons (o_int rfl rfl rfl) <| .nil _) (by kernel_rfl) (by kernel_rfl) ?_
                    refine a_seq ?_
                    refine a_cond _ rfl (fun c => absurd (of_decide_eq_true c) (Int.not_lt.2 hk25)) (fun _ => ?_)
                    refine a_exit ?_
                    exact ⟨(a26, a27), hK28, (Imp.of (fun i => i) (.cons rfl (DLe.refl _) (.cons rfl (DLe.refl _) (.cons rfl (DLe.refl _) (.cons rfl (DLe.refl _) (.cons rfl (DLe.refl _) .nil))))) .nil rfl rfl rfl)⟩
                · rintro ⟨a21, a22⟩ hM
                  replace hM : rootcauselaw27_BudgetEven_K23 a10 a21 a22 = some t12 := hM
                  unfold rootcauselaw27_BudgetEven_K23 at hM
                  refine a_seq ?_
                  refine a_region (.cons (o_move rfl) <| .cons (o_move rfl) <| .cons (o_int rfl rfl rfl) <| .cons (o_int rfl rfl rfl) <| .nil _) (by kernel_rfl) (by kernel_rfl) ?_
                  refine a_cond _ rfl (fun h24 => ?_) (fun h24 => ?_)
                  · replace hM := (of_if hM).1 h24
                    refine a_seq ?_
                    refine a_region (.cons (o_assign rfl) <| .nil _) (by kernel_rfl) (by kernel_rfl) ?_
                    obtain rfl := Option.some.inj hM
                    obtain rfl := hE11 _ rfl
                    obtain rfl := Option.some.inj hK11
                    exact a_ret (a_post (.r1 (.tmp rfl)) (DLe.refl _) PostOk.nil.spec)
                  · replace hM := (of_if hM).2 h24
                    refine a_skip ?_
                    exact ⟨(), hM, (Imp.of (fun i => i) (.cons rfl (DLe.refl _) (.cons rfl (DLe.refl _) (.cons rfl (DLe.refl _) .nil))) .nil rfl rfl rfl)⟩
          · rintro _ hM
            replace hM : rootcauselaw27_BudgetEven_K14 a10 = some t12 := hM
            unfold rootcauselaw27_BudgetEven_K14 at hM
            refine a_region (.cons (o_move rfl) <| .cons (o_int rfl rfl rfl) <| .cons (o_assign rfl) <| .nil _) (by kernel_rfl) (by kernel_rfl) ?_
            obtain rfl := Option.some.inj hM
            exact ⟨(IntKind.wrap .i64 (a10 + 1)), rfl, (Imp.of (fun i => i) (.cons rfl (DLe.refl _) (.cons rfl (DLe.refl _) (.cons rfl (DLe.refl _) .nil))) .nil rfl rfl rfl)⟩
        · replace hM := (of_if hM).2 h13
          refine a_exit ?_
          obtain rfl := Option.some.inj hM
          obtain rfl := hE11 _ rfl
          exact ⟨(), hK11, (Imp.of (fun i => i) .nil .nil rfl rfl rfl)⟩
      · rintro _ hM
        replace hM : rootcauselaw27_BudgetEven_K9 = some r := hM
        unfold rootcauselaw27_BudgetEven_K9 at hM
        refine a_seq ?_
        refine a_region (.cons (o_assign rfl) <| .nil _) (by kernel_rfl) (by kernel_rfl) ?_
        obtain rfl := Option.some.inj hM
        exact a_ret (a_post (.r1 (.tmp rfl)) (DLe.refl _) PostOk.nil.spec)

end Go.Proofs.Ytkadjbpmnpcfhaa
