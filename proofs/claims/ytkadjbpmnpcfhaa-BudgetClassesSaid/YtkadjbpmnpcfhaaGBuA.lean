/-
  Models of functions and the proofs that the code computes them, printed by gm.py.
-/
import Derived.Test.YtkadjbpmnpcfhaaGTy
set_option maxRecDepth 100000
set_option maxHeartbeats 4000000
set_option linter.unusedVariables false
set_option linter.unusedSimpArgs false
namespace Go.Proofs.Ytkadjbpmnpcfhaa
open Go.RowKit
def budget_Of_K1 : Option Int :=
  some 0
def budget_Of_K9 (x0 : api_Event) (a8 : Bool) : Option Int :=
  if a8 = true then
    some 3
  else
    if (x0.gKind == 10) = true then
      if (x0.gCopy == 1) = true then
        some 1
      else
        some 3
    else
      if (x0.gKind == 7) = true then
        some 4
      else
        budget_Of_K1
def budget_Of_K6 (x0 : api_Event) (a5 : Bool) : Option Int :=
  if a5 = true then
    some 2
  else
    if (x0.gKind == 8) = true then
      budget_Of_K9 x0 (x0.gKind == 8)
    else
      budget_Of_K9 x0 (x0.gKind == 9)
def budget_Of_K3 (x0 : api_Event) (a2 : Bool) : Option Int :=
  if a2 = true then
    some 1
  else
    if (x0.gKind == 5) = true then
      budget_Of_K6 x0 (x0.gKind == 5)
    else
      budget_Of_K6 x0 (x0.gKind == 6)
def budget_Of (x0 : api_Event) : Option Int :=
  if (x0.gKind == 1) = true then
    budget_Of_K3 x0 (x0.gKind == 1)
  else
    if (x0.gKind == 2) = true then
      budget_Of_K3 x0 (x0.gKind == 2)
    else
      if (x0.gKind == 3) = true then
        budget_Of_K3 x0 (x0.gKind == 3)
      else
        if (x0.gKind == 4) = true then
          budget_Of_K3 x0 (x0.gKind == 4)
        else
          budget_Of_K3 x0 (x0.gKind == 11)
theorem budget_Of_c {x0 : api_Event} {r : Int} (hM : budget_Of x0 = some r) : PCall Try.prog 32 [.agg (api_Event.cs x0)] (.int .u8 r) := by
  unfold budget_Of at hM
  refine PCall.body Try.func32 Try.ntmps32 rfl rfl rfl rfl ?_
  refine a_seq ?_
  refine a_region (.cons (o_box rfl rfl) <| .cons (o_assign rfl) <| .nil _) (by kernel_rfl) (by kernel_rfl) ?_
  refine a_cut (α := Unit) (fun s => ⟨[], [], []⟩) (fun s => budget_Of_K1 = some r) ?_ ?_
  · refine a_seq ?_
    refine a_region (.cons (o_fieldAddr rfl) <| .cons (o_load_s rfl rfl rfl) <| .nil _) (by kernel_rfl) (by kernel_rfl) ?_
    refine a_block ?_
    refine a_cut (α := Bool) (fun s => ⟨[(1, .ref 1 0), (4, .int .u8 x0.gKind), (5, .bool s)], [(1, some (.blk 27 (api_Event.cs x0)))], [1]⟩) (fun s => budget_Of_K3 x0 s = some r) ?_ ?_
    · refine a_seq ?_
      refine a_region (.cons (o_int rfl rfl rfl) <| .cons (o_assign rfl) <| .nil _) (by kernel_rfl) (by kernel_rfl) ?_
      refine a_cond _ rfl (fun h16 => ?_) (fun h16 => ?_)
      · replace hM := (of_if hM).1 h16
        refine a_skip ?_
        exact ⟨(x0.gKind == 1), hM, (Imp.of (fun i => i) (.cons rfl (DLe.refl _) (.cons rfl (DLe.refl _) (.cons rfl (DLe.refl _) .nil))) (.cons rfl (.refl _) .nil) rfl rfl rfl)⟩
      · replace hM := (of_if hM).2 h16
        refine a_seq ?_
        refine a_region (.cons (o_int rfl rfl rfl) <| .cons (o_assign rfl) <| .nil _) (by kernel_rfl) (by kernel_rfl) ?_
        refine a_cond _ rfl (fun h17 => ?_) (fun h17 => ?_)
        · replace hM := (of_if hM).1 h17
          refine a_skip ?_
          exact ⟨(x0.gKind == 2), hM, (Imp.of (fun i => i) (.cons rfl (DLe.refl _) (.cons rfl (DLe.refl _) (.cons rfl (DLe.refl _) .nil))) (.cons rfl (.refl _) .nil) rfl rfl rfl)⟩
        · replace hM := (of_if hM).2 h17
          refine a_seq ?_
          refine a_region (.cons (o_int rfl rfl rfl) <| .cons (o_assign rfl) <| .nil _) (by kernel_rfl) (by kernel_rfl) ?_
          refine a_cond _ rfl (fun h18 => ?_) (fun h18 => ?_)
          · replace hM := (of_if hM).1 h18
            refine a_skip ?_
            exact ⟨(x0.gKind == 3), hM, (Imp.of (fun i => i) (.cons rfl (DLe.refl _) (.cons rfl (DLe.refl _) (.cons rfl (DLe.refl _) .nil))) (.cons rfl (.refl _) .nil) rfl rfl rfl)⟩
          · replace hM := (of_if hM).2 h18
            refine a_seq ?_
            refine a_region (.cons (o_int rfl rfl rfl) <| .cons (o_assign rfl) <| .nil _) (by kernel_rfl) (by kernel_rfl) ?_
            refine a_cond _ rfl (fun h19 => ?_) (fun h19 => ?_)
            · replace hM := (of_if hM).1 h19
              refine a_skip ?_
              exact ⟨(x0.gKind == 4), hM, (Imp.of (fun i => i) (.cons rfl (DLe.refl _) (.cons rfl (DLe.refl _) (.cons rfl (DLe.refl _) .nil))) (.cons rfl (.refl _) .nil) rfl rfl rfl)⟩
            · replace hM := (of_if hM).2 h19
              refine a_region (.cons (o_int rfl rfl rfl) <| .cons (o_assign rfl) <| .nil _) (by kernel_rfl) (by kernel_rfl) ?_
              exact ⟨(x0.gKind == 11), hM, (Imp.of (fun i => i) (.cons rfl (DLe.refl _) (.cons rfl (DLe.refl _) (.cons rfl (DLe.refl _) .nil))) (.cons rfl (.refl _) .nil) rfl rfl rfl)⟩
    · rintro a2 hM
      replace hM : budget_Of_K3 x0 a2 = some r := hM
      unfold budget_Of_K3 at hM
      refine a_cond _ rfl (fun h4 => ?_) (fun h4 => ?_)
      · replace hM := (of_if hM).1 h4
        refine a_seq ?_
        refine a_region (.cons (o_assign rfl) <| .nil _) (by kernel_rfl) (by kernel_rfl) ?_
        obtain rfl := Option.some.inj hM
        exact a_ret (a_post (.r1 (.tmp rfl)) (DLe.refl _) PostOk.nil.spec)
      · replace hM := (of_if hM).2 h4
        refine a_cut (α := Bool) (fun s => ⟨[(1, .ref 1 0), (4, .int .u8 x0.gKind), (11, .bool s)], [(1, some (.blk 27 (api_Event.cs x0)))], [1]⟩) (fun s => budget_Of_K6 x0 s = some r) ?_ ?_
        · refine a_seq ?_
          refine a_region (.cons (o_int rfl rfl rfl) <| .cons (o_assign rfl) <| .nil _) (by kernel_rfl) (by kernel_rfl) ?_
          refine a_cond _ rfl (fun h15 => ?_) (fun h15 => ?_)
          · replace hM := (of_if hM).1 h15
            refine a_skip ?_
            exact ⟨(x0.gKind == 5), hM, (Imp.of (fun i => i) (.cons rfl (DLe.refl _) (.cons rfl (DLe.refl _) (.cons rfl (DLe.refl _) .nil))) (.cons rfl (.refl _) .nil) rfl rfl rfl)⟩
          · replace hM := (of_if hM).2 h15
            refine a_region (.cons (o_int rfl rfl rfl) <| .cons (o_assign rfl) <| .nil _) (by kernel_rfl) (by kernel_rfl) ?_
            exact ⟨(x0.gKind == 6), hM, (Imp.of (fun i => i) (.cons rfl (DLe.refl _) (.cons rfl (DLe.refl _) (.cons rfl (DLe.refl _) .nil))) (.cons rfl (.refl _) .nil) rfl rfl rfl)⟩
        · rintro a5 hM
          replace hM : budget_Of_K6 x0 a5 = some r := hM
          unfold budget_Of_K6 at hM
          refine a_cond _ rfl (fun h7 => ?_) (fun h7 => ?_)
          · replace hM := (of_if hM).1 h7
            refine a_seq ?_
            refine a_region (.cons (o_assign rfl) <| .nil _) (by kernel_rfl) (by kernel_rfl) ?_
            obtain rfl := Option.some.inj hM
            exact a_ret (a_post (.r1 (.tmp rfl)) (DLe.refl _) PostOk.nil.spec)
          · replace hM := (of_if hM).2 h7
            refine a_cut (α := Bool) (fun s => ⟨[(1, .ref 1 0), (4, .int .u8 x0.gKind), (14, .bool s)], [(1, some (.blk 27 (api_Event.cs x0)))], [1]⟩) (fun s => budget_Of_K9 x0 s = some r) ?_ ?_
            · refine a_seq ?_
              refine a_region (.cons (o_int rfl rfl rfl) <| .cons (o_assign rfl) <| .nil _) (by kernel_rfl) (by kernel_rfl) ?_
              refine a_cond _ rfl (fun h14 => ?_) (fun h14 => ?_)
              · replace hM := (of_if hM).1 h14
                refine a_skip ?_
                exact ⟨(x0.gKind == 8), hM, (Imp.of (fun i => i) (.cons rfl (DLe.refl _) (.cons rfl (DLe.refl _) (.cons rfl (DLe.refl _) .nil))) (.cons rfl (.refl _) .nil) rfl rfl rfl)⟩
              · replace hM := (of_if hM).2 h14
                refine a_region (.cons (o_int rfl rfl rfl) <| .cons (o_assign rfl) <| .nil _) (by kernel_rfl) (by kernel_rfl) ?_
                exact ⟨(x0.gKind == 9), hM, (Imp.of (fun i => i) (.cons rfl (DLe.refl _) (.cons rfl (DLe.refl _) (.cons rfl (DLe.refl _) .nil))) (.cons rfl (.refl _) .nil) rfl rfl rfl)⟩
            · rintro a8 hM
              replace hM : budget_Of_K9 x0 a8 = some r := hM
              unfold budget_Of_K9 at hM
              refine a_cond _ rfl (fun h10 => ?_) (fun h10 => ?_)
              · replace hM := (of_if hM).1 h10
                refine a_seq ?_
                refine a_region (.cons (o_assign rfl) <| .nil _) (by kernel_rfl) (by kernel_rfl) ?_
                obtain rfl := Option.some.inj hM
                exact a_ret (a_post (.r1 (.tmp rfl)) (DLe.refl _) PostOk.nil.spec)
              · replace hM := (of_if hM).2 h10
                refine a_seq ?_
                refine a_region (.cons (o_int rfl rfl rfl) <| .cons (o_assign rfl) <| .nil _) (by kernel_rfl) (by kernel_rfl) ?_
                refine a_cond _ rfl (fun h11 => ?_) (fun h11 => ?_)
                · replace hM := (of_if hM).1 h11
                  refine a_seq ?_
                  refine a_seq ?_
                  refine a_region (.cons (o_fieldAddr rfl) <| .cons (o_load_s rfl rfl rfl) <| .cons (o_int rfl rfl rfl) <| .nil _) (by kernel_rfl) (by kernel_rfl) ?_
                  refine a_cond _ rfl (fun h12 => ?_) (fun h12 => ?_)
                  · replace hM := (of_if hM).1 h12
                    refine a_seq ?_
                    refine a_region (.cons (o_assign rfl) <| .nil _) (by kernel_rfl) (by kernel_rfl) ?_
                    obtain rfl := Option.some.inj hM
                    exact a_ret (a_post (.r1 (.tmp rfl)) (DLe.refl _) PostOk.nil.spec)
                  · replace hM := (of_if hM).2 h12
                    refine a_skip ?_
                    refine a_seq ?_
                    refine a_region (.cons (o_assign rfl) <| .nil _) (by kernel_rfl) (by kernel_rfl) ?_
                    obtain rfl := Option.some.inj hM
                    exact a_ret (a_post (.r1 (.tmp rfl)) (DLe.refl _) PostOk.nil.spec)
                · replace hM := (of_if hM).2 h11
                  refine a_seq ?_
                  refine a_region (.cons (o_int rfl rfl rfl) <| .cons (o_assign rfl) <| .nil _) (by kernel_rfl) (by kernel_rfl) ?_
                  refine a_cond _ rfl (fun h13 => ?_) (fun h13 => ?_)
                  · replace hM := (of_if hM).1 h13
                    refine a_seq ?_
                    refine a_region (.cons (o_assign rfl) <| .nil _) (by kernel_rfl) (by kernel_rfl) ?_
                    obtain rfl := Option.some.inj hM
                    exact a_ret (a_post (.r1 (.tmp rfl)) (DLe.refl _) PostOk.nil.spec)
                  · replace hM := (of_if hM).2 h13
                    refine a_skip ?_
                    exact ⟨(), hM, (Imp.of (fun i => i) .nil .nil rfl rfl rfl)⟩
  · rintro _ hM
    replace hM : budget_Of_K1 = some r := hM
    unfold budget_Of_K1 at hM
    refine a_seq ?_
    refine a_region (.cons (o_assign rfl) <| .nil _) (by kernel_rfl) (by kernel_rfl) ?_
    obtain rfl := Option.some.inj hM
    exact a_ret (a_post (.r1 (.tmp rfl)) (DLe.refl _) PostOk.nil.spec)

def rootcauseref27_Of_K1 : Option Int :=
  some 0
def rootcauseref27_Of_K11 (x0 : api_Event) (a10 : Bool) : Option Int :=
  if a10 = true then
    some 3
  else
    if (x0.gKind == 7) = true then
      some 4
    else
      rootcauseref27_Of_K1
def rootcauseref27_Of_K8 (x0 : api_Event) (a7 : Bool) : Option Int :=
  if a7 = true then
    some 2
  else
    if (x0.gKind == 8) = true then
      rootcauseref27_Of_K11 x0 (x0.gKind == 8)
    else
      rootcauseref27_Of_K11 x0 (x0.gKind == 9)
def rootcauseref27_Of_K3 (x0 : api_Event) (a2 : Bool) : Option Int :=
  if a2 = true then
    some 1
  else
    if (x0.gKind == 10) = true then
      if (x0.gCopy == 1) = true then
        some 1
      else
        some 3
    else
      if (x0.gKind == 5) = true then
        rootcauseref27_Of_K8 x0 (x0.gKind == 5)
      else
        rootcauseref27_Of_K8 x0 (x0.gKind == 6)
def rootcauseref27_Of (x0 : api_Event) : Option Int :=
  if (x0.gKind == 1) = true then
    rootcauseref27_Of_K3 x0 (x0.gKind == 1)
  else
    if (x0.gKind == 2) = true then
      rootcauseref27_Of_K3 x0 (x0.gKind == 2)
    else
      if (x0.gKind == 3) = true then
        rootcauseref27_Of_K3 x0 (x0.gKind == 3)
      else
        if (x0.gKind == 4) = true then
          rootcauseref27_Of_K3 x0 (x0.gKind == 4)
        else
          rootcauseref27_Of_K3 x0 (x0.gKind == 11)
theorem rootcauseref27_Of_c {x0 : api_Event} {r : Int} (hM : rootcauseref27_Of x0 = some r) : PCall Try.prog 33 [.agg (api_Event.cs x0)] (.int .i64 r) := by
  unfold rootcauseref27_Of at hM
  refine PCall.body Try.func33 Try.ntmps33 rfl rfl rfl rfl ?_
  refine a_seq ?_
  refine a_region (.cons (o_box rfl rfl) <| .cons (o_assign rfl) <| .nil _) (by kernel_rfl) (by kernel_rfl) ?_
  refine a_cut (α := Unit) (fun s => ⟨[], [], []⟩) (fun s => rootcauseref27_Of_K1 = some r) ?_ ?_
  · refine a_seq ?_
    refine a_region (.cons (o_fieldAddr rfl) <| .cons (o_load_s rfl rfl rfl) <| .nil _) (by kernel_rfl) (by kernel_rfl) ?_
    refine a_block ?_
    refine a_cut (α := Bool) (fun s => ⟨[(1, .ref 1 0), (4, .int .u8 x0.gKind), (5, .bool s)], [(1, some (.blk 27 (api_Event.cs x0)))], [1]⟩) (fun s => rootcauseref27_Of_K3 x0 s = some r) ?_ ?_
    · refine a_seq ?_
      refine a_region (.cons (o_int rfl rfl rfl) <| .cons (o_assign rfl) <| .nil _) (by kernel_rfl) (by kernel_rfl) ?_
      refine a_cond _ rfl (fun h16 => ?_) (fun h16 => ?_)
      · replace hM := (of_if hM).1 h16
        refine a_skip ?_
        exact ⟨(x0.gKind == 1), hM, (Imp.of (fun i => i) (.cons rfl (DLe.refl _) (.cons rfl (DLe.refl _) (.cons rfl (DLe.refl _) .nil))) (.cons rfl (.refl _) .nil) rfl rfl rfl)⟩
      · replace hM := (of_if hM).2 h16
        refine a_seq ?_
        refine a_region (.cons (o_int rfl rfl rfl) <| .cons (o_assign rfl) <| .nil _) (by kernel_rfl) (by kernel_rfl) ?_
        refine a_cond _ rfl (fun h17 => ?_) (fun h17 => ?_)
        · replace hM := (of_if hM).1 h17
          refine a_skip ?_
          exact ⟨(x0.gKind == 2), hM, (Imp.of (fun i => i) (.cons rfl (DLe.refl _) (.cons rfl (DLe.refl _) (.cons rfl (DLe.refl _) .nil))) (.cons rfl (.refl _) .nil) rfl rfl rfl)⟩
        · replace hM := (of_if hM).2 h17
          refine a_seq ?_
          refine a_region (.cons (o_int rfl rfl rfl) <| .cons (o_assign rfl) <| .nil _) (by kernel_rfl) (by kernel_rfl) ?_
          refine a_cond _ rfl (fun h18 => ?_) (fun h18 => ?_)
          · replace hM := (of_if hM).1 h18
            refine a_skip ?_
            exact ⟨(x0.gKind == 3), hM, (Imp.of (fun i => i) (.cons rfl (DLe.refl _) (.cons rfl (DLe.refl _) (.cons rfl (DLe.refl _) .nil))) (.cons rfl (.refl _) .nil) rfl rfl rfl)⟩
          · replace hM := (of_if hM).2 h18
            refine a_seq ?_
            refine a_region (.cons (o_int rfl rfl rfl) <| .cons (o_assign rfl) <| .nil _) (by kernel_rfl) (by kernel_rfl) ?_
            refine a_cond _ rfl (fun h19 => ?_) (fun h19 => ?_)
            · replace hM := (of_if hM).1 h19
              refine a_skip ?_
              exact ⟨(x0.gKind == 4), hM, (Imp.of (fun i => i) (.cons rfl (DLe.refl _) (.cons rfl (DLe.refl _) (.cons rfl (DLe.refl _) .nil))) (.cons rfl (.refl _) .nil) rfl rfl rfl)⟩
            · replace hM := (of_if hM).2 h19
              refine a_region (.cons (o_int rfl rfl rfl) <| .cons (o_assign rfl) <| .nil _) (by kernel_rfl) (by kernel_rfl) ?_
              exact ⟨(x0.gKind == 11), hM, (Imp.of (fun i => i) (.cons rfl (DLe.refl _) (.cons rfl (DLe.refl _) (.cons rfl (DLe.refl _) .nil))) (.cons rfl (.refl _) .nil) rfl rfl rfl)⟩
    · rintro a2 hM
      replace hM : rootcauseref27_Of_K3 x0 a2 = some r := hM
      unfold rootcauseref27_Of_K3 at hM
      refine a_cond _ rfl (fun h4 => ?_) (fun h4 => ?_)
      · replace hM := (of_if hM).1 h4
        refine a_seq ?_
        refine a_region (.cons (o_assign rfl) <| .nil _) (by kernel_rfl) (by kernel_rfl) ?_
        obtain rfl := Option.some.inj hM
        exact a_ret (a_post (.r1 (.tmp rfl)) (DLe.refl _) PostOk.nil.spec)
      · replace hM := (of_if hM).2 h4
        refine a_seq ?_
        refine a_region (.cons (o_int rfl rfl rfl) <| .cons (o_assign rfl) <| .nil _) (by kernel_rfl) (by kernel_rfl) ?_
        refine a_cond _ rfl (fun h5 => ?_) (fun h5 => ?_)
        · replace hM := (of_if hM).1 h5
          refine a_seq ?_
          refine a_seq ?_
          refine a_region (.cons (o_fieldAddr rfl) <| .cons (o_load_s rfl rfl rfl) <| .cons (o_int rfl rfl rfl) <| .nil _) (by kernel_rfl) (by kernel_rfl) ?_
          refine a_cond _ rfl (fun h6 => ?_) (fun h6 => ?_)
          · replace hM := (of_if hM).1 h6
            refine a_seq ?_
            refine a_region (.cons (o_assign rfl) <| .nil _) (by kernel_rfl) (by kernel_rfl) ?_
            obtain rfl := Option.some.inj hM
            exact a_ret (a_post (.r1 (.tmp rfl)) (DLe.refl _) PostOk.nil.spec)
          · replace hM := (of_if hM).2 h6
            refine a_skip ?_
            refine a_seq ?_
            refine a_region (.cons (o_assign rfl) <| .nil _) (by kernel_rfl) (by kernel_rfl) ?_
            obtain rfl := Option.some.inj hM
            exact a_ret (a_post (.r1 (.tmp rfl)) (DLe.refl _) PostOk.nil.spec)
        · replace hM := (of_if hM).2 h5
          refine a_cut (α := Bool) (fun s => ⟨[(4, .int .u8 x0.gKind), (16, .bool s)], [], []⟩) (fun s => rootcauseref27_Of_K8 x0 s = some r) ?_ ?_
          · refine a_seq ?_
            refine a_region (.cons (o_int rfl rfl rfl) <| .cons (o_assign rfl) <| .nil _) (by kernel_rfl) (by kernel_rfl) ?_
            refine a_cond _ rfl (fun h15 => ?_) (fun h15 => ?_)
            · replace hM := (of_if hM).1 h15
              refine a_skip ?_
              exact ⟨(x0.gKind == 5), hM, (Imp.of (fun i => i) (.cons rfl (DLe.refl _) (.cons rfl (DLe.refl _) .nil)) .nil rfl rfl rfl)⟩
            · replace hM := (of_if hM).2 h15
              refine a_region (.cons (o_int rfl rfl rfl) <| .cons (o_assign rfl) <| .nil _) (by kernel_rfl) (by kernel_rfl) ?_
              exact ⟨(x0.gKind == 6), hM, (Imp.of (fun i => i) (.cons rfl (DLe.refl _) (.cons rfl (DLe.refl _) .nil)) .nil rfl rfl rfl)⟩
          · rintro a7 hM
            replace hM : rootcauseref27_Of_K8 x0 a7 = some r := hM
            unfold rootcauseref27_Of_K8 at hM
            refine a_cond _ rfl (fun h9 => ?_) (fun h9 => ?_)
            · replace hM := (of_if hM).1 h9
              refine a_seq ?_
              refine a_region (.cons (o_assign rfl) <| .nil _) (by kernel_rfl) (by kernel_rfl) ?_
              obtain rfl := Option.some.inj hM
              exact a_ret (a_post (.r1 (.tmp rfl)) (DLe.refl _) PostOk.nil.spec)
            · replace hM := (of_if hM).2 h9
              refine a_cut (α := Bool) (fun s => ⟨[(4, .int .u8 x0.gKind), (19, .bool s)], [], []⟩) (fun s => rootcauseref27_Of_K11 x0 s = some r) ?_ ?_
              · refine a_seq ?_
                refine a_region (.cons (o_int rfl rfl rfl) <| .cons (o_assign rfl) <| .nil _) (by kernel_rfl) (by kernel_rfl) ?_
                refine a_cond _ rfl (fun h14 => ?_) (fun h14 => ?_)
                · replace hM := (of_if hM).1 h14
                  refine a_skip ?_
                  exact ⟨(x0.gKind == 8), hM, (Imp.of (fun i => i) (.cons rfl (DLe.refl _) (.cons rfl (DLe.refl _) .nil)) .nil rfl rfl rfl)⟩
                · replace hM := (of_if hM).2 h14
                  refine a_region (.cons (o_int rfl rfl rfl) <| .cons (o_assign rfl) <| .nil _) (by kernel_rfl) (by kernel_rfl) ?_
                  exact ⟨(x0.gKind == 9), hM, (Imp.of (fun i => i) (.cons rfl (DLe.refl _) (.cons rfl (DLe.refl _) .nil)) .nil rfl rfl rfl)⟩
              · rintro a10 hM
                replace hM : rootcauseref27_Of_K11 x0 a10 = some r := hM
                unfold rootcauseref27_Of_K11 at hM
                refine a_cond _ rfl (fun h12 => ?_) (fun h12 => ?_)
                · replace hM := (of_if hM).1 h12
                  refine a_seq ?_
                  refine a_region (.cons (o_assign rfl) <| .nil _) (by kernel_rfl) (by kernel_rfl) ?_
                  obtain rfl := Option.some.inj hM
                  exact a_ret (a_post (.r1 (.tmp rfl)) (DLe.refl _) PostOk.nil.spec)
                · replace hM := (of_if hM).2 h12
                  refine a_seq ?_
                  refine a_region (.cons (o_int rfl rfl rfl) <| .cons (o_assign rfl) <| .nil _) (by kernel_rfl) (by kernel_rfl) ?_
                  refine a_cond _ rfl (fun h13 => ?_) (fun h13 => ?_)
                  · replace hM := (of_if hM).1 h13
                    refine a_seq ?_
                    refine a_region (.cons (o_assign rfl) <| .nil _) (by kernel_rfl) (by kernel_rfl) ?_
                    obtain rfl := Option.some.inj hM
                    exact a_ret (a_post (.r1 (.tmp rfl)) (DLe.refl _) PostOk.nil.spec)
                  · replace hM := (of_if hM).2 h13
                    refine a_skip ?_
                    exact ⟨(), hM, (Imp.of (fun i => i) .nil .nil rfl rfl rfl)⟩
  · rintro _ hM
    replace hM : rootcauseref27_Of_K1 = some r := hM
    unfold rootcauseref27_Of_K1 at hM
    refine a_seq ?_
    refine a_region (.cons (o_assign rfl) <| .nil _) (by kernel_rfl) (by kernel_rfl) ?_
    obtain rfl := Option.some.inj hM
    exact a_ret (a_post (.r1 (.tmp rfl)) (DLe.refl _) PostOk.nil.spec)

def rootcauseref27_Spread_K4 (a3 : List Int) : Option (List Int) :=
  some a3
def rootcauseref27_Spread_L7 (x0 : Int) (a1 : Int) (a5 : List Int) (a6 : Int) : Option (Ctl ((List Int) × Int) (List Int)) :=
  if (decide (a6 < a1)) = true then
    chk (dvOk .i64 (IntKind.wrap .i64 (a6 * x0)) a1) <|
    chk (apOk 8 (List.length a5 + List.length [((IntKind.wrap .i64 (a6 * x0)) / a1)])) <|
    some (.next ((a5 ++ [((IntKind.wrap .i64 (a6 * x0)) / a1)]), (IntKind.wrap .i64 (a6 + 1))))
  else
    some (.done a5)
def rootcauseref27_Spread_K2 (x0 : Int) (a1 : Int) : Option (List Int) :=
  (whileM (E := (List Int)) (fun s => rootcauseref27_Spread_L7 x0 a1 s.1 s.2) (([] : List Int), 0)).bind fun e => rootcauseref27_Spread_K4 e
def rootcauseref27_Spread (x0 : Int) (x1 : Int) : Option (List Int) :=
  if (decide (x0 < x1)) = true then
    rootcauseref27_Spread_K2 x0 x0
  else
    rootcauseref27_Spread_K2 x0 x1
theorem rootcauseref27_Spread_c {x0 : Int} {x1 : Int} {r : (List Int)} (hM : rootcauseref27_Spread x0 x1 = some r) : PCall Try.prog 35 [.int .i64 x0, .int .i64 x1] (.sl 1 (List.map (DV.int .i64) r)) := by
  unfold rootcauseref27_Spread at hM
  refine PCall.body Try.func35 Try.ntmps35 rfl rfl rfl rfl ?_
  refine a_seq ?_
  refine a_region (.cons (o_assign rfl) <| .nil _) (by kernel_rfl) (by kernel_rfl) ?_
  refine a_seq ?_
  refine a_region (.cons (o_assign rfl) <| .nil _) (by kernel_rfl) (by kernel_rfl) ?_
  refine a_cut (α := Int) (fun s => ⟨[(0, .int .i64 x0), (1, .int .i64 s), (5, .row 10001)], [(10001, some (.row 3 1 (List.map (DV.int .i64) [])))], [10001]⟩) (fun s => rootcauseref27_Spread_K2 x0 s = some r) ?_ ?_
  · refine a_seq ?_
    refine a_region (.cons (o_move rfl) <| .cons (o_move rfl) <| .cons (o_int rfl rfl rfl) <| .nil _) (by kernel_rfl) (by kernel_rfl) ?_
    refine a_cond _ rfl (fun h12 => ?_) (fun h12 => ?_)
    · replace hM := (of_if hM).1 h12
      refine a_region (.cons (o_move rfl) <| .cons (o_assign rfl) <| .nil _) (by kernel_rfl) (by kernel_rfl) ?_
      exact ⟨x0, hM, ((Imp.nilRow (t := 5) (id := 10003) 3 1 rfl rfl).trans (Imp.of (fun i => bif Nat.beq i 10001 then 10003 else i) (.cons rfl (DLe.refl _) (.cons rfl (DLe.refl _) (.cons rfl (DLe.refl _) .nil))) (.cons rfl (.refl _) .nil) rfl rfl rfl))⟩
    · replace hM := (of_if hM).2 h12
      refine a_skip ?_
      exact ⟨x1, hM, ((Imp.nilRow (t := 5) (id := 10004) 3 1 rfl rfl).trans (Imp.of (fun i => bif Nat.beq i 10001 then 10004 else i) (.cons rfl (DLe.refl _) (.cons rfl (DLe.refl _) (.cons rfl (DLe.refl _) .nil))) (.cons rfl (.refl _) .nil) rfl rfl rfl))⟩
  · rintro a1 hM
    replace hM : rootcauseref27_Spread_K2 x0 a1 = some r := hM
    unfold rootcauseref27_Spread_K2 at hM
    refine a_cut (α := (List Int)) (fun s => ⟨[(5, .sl 1 (List.map (DV.int .i64) s))], [], []⟩) (fun s => rootcauseref27_Spread_K4 s = some r) ?_ ?_
    · refine a_seq ?_
      refine a_region (.cons (o_assign rfl) <| .nil _) (by kernel_rfl) (by kernel_rfl) ?_
      obtain ⟨e7, hL7, hK7⟩ := of_bind hM
      refine a_block ?_
      refine a_while (fun s => ⟨[(0, .int .i64 x0), (1, .int .i64 a1), (5, .row 10002), (6, .int .i64 s.2)], [(10002, some (.row 3 1 (List.map (DV.int .i64) s.1)))], [10002]⟩) _ hL7 (Imp.of (fun i => bif Nat.beq i 10002 then 10001 else i) (.cons rfl (DLe.refl _) (.cons rfl (DLe.refl _) (.cons rfl (DLe.refl _) (.cons rfl (DLe.refl _) .nil)))) (.cons rfl (.refl _) .nil) rfl rfl rfl) ?_
      rintro ⟨a5, a6⟩ t8 hM hE7
      replace hM : rootcauseref27_Spread_L7 x0 a1 a5 a6 = some t8 := hM
      unfold rootcauseref27_Spread_L7 at hM
      refine a_seq ?_
      refine a_seq ?_
      refine a_region (.cons (o_move rfl) <| .cons (o_move rfl) <| .cons (o_int rfl rfl rfl) <| .nil _) (by kernel_rfl) (by kernel_rfl) ?_
      refine a_cond _ rfl (fun h9 => ?_) (fun h9 => ?_)
      · replace hM := (of_if hM).1 h9
        refine a_skip ?_
        refine a_seq ?_
        refine a_block ?_
        obtain ⟨h10, hM⟩ := of_chk hM
        obtain ⟨h11, hM⟩ := of_chk hM
        refine a_region (.cons (o_move rfl) <| .cons (o_move rfl) <| .cons (o_move rfl) <| .cons (o_int rfl rfl rfl) <| .cons (o_move rfl) <| .cons (o_quo rfl rfl h10) <| .cons (t_build (DV.int .i64) ([((IntKind.wrap .i64 (a6 * x0)) / a1)] : List Int) rfl rfl rfl rfl rfl rfl rfl) <| .cons (t_append [((IntKind.wrap .i64 (a6 * x0)) / a1)] h11 rfl rfl rfl (Src.row rfl)) <| .cons (o_assign rfl) <| .nil _) (by kernel_rfl) (by kernel_rfl) ?_
        refine a_region (.cons (o_move rfl) <| .cons (o_int rfl rfl rfl) <| .cons (o_assign rfl) <| .nil _) (by kernel_rfl) (by kernel_rfl) ?_
        obtain rfl := Option.some.inj hM
        exact ⟨((a5 ++ [((IntKind.wrap .i64 (a6 * x0)) / a1)]), (IntKind.wrap .i64 (a6 + 1))), rfl, (Imp.of (fun i => bif Nat.beq i 10002 then 23 else i) (.cons rfl (DLe.refl _) (.cons rfl (DLe.refl _) (.cons rfl (DLe.refl _) (.cons rfl (DLe.refl _) .nil)))) (.cons rfl (.refl _) .nil) rfl rfl rfl)⟩
      · replace hM := (of_if hM).2 h9
        refine a_exit ?_
        obtain rfl := Option.some.inj hM
        obtain rfl := hE7 _ rfl
        exact ⟨a5, hK7, ((Imp.freeze (id := 10002) rfl).trans (Imp.of (fun i => i) (.cons rfl (DLe.refl _) .nil) .nil rfl rfl rfl))⟩
    · rintro a3 hM
      replace hM : rootcauseref27_Spread_K4 a3 = some r := hM
      unfold rootcauseref27_Spread_K4 at hM
      refine a_seq ?_
      refine a_region (.cons (o_move rfl) <| .cons (o_assign rfl) <| .nil _) (by kernel_rfl) (by kernel_rfl) ?_
      obtain rfl := Option.some.inj hM
      exact a_ret (a_post (.r1 (.tmp rfl)) (DLe.refl _) PostOk.nil.spec)

def rootcauseref27_total_K2 (a1 : Int) : Option Int :=
  some a1
def rootcauseref27_total_L5 (x0 : List rootcauseref27_Item) (x1 : List Int) (k3 : Nat) (a4 : Int) : Option Int :=
  (idx x1 (k3 : Int)).bind fun v9 =>
  (idx x0 v9).bind fun v11 =>
  some (IntKind.wrap .i64 (a4 + v11.gSize))
def rootcauseref27_total (x0 : List rootcauseref27_Item) (x1 : List Int) : Option Int :=
  (foldM' 9223372036854775807 (List.length x1 : Int) (fun k3 s => rootcauseref27_total_L5 x0 x1 k3 s) 0).bind fun s => rootcauseref27_total_K2 s
theorem rootcauseref27_total_c {x0 : List rootcauseref27_Item} {x1 : List Int} {r : Int} (hM : rootcauseref27_total x0 x1 = some r) : PCall Try.prog 68 [.sl 2 (List.map rootcauseref27_Item.dv x0), .sl 1 (List.map (DV.int .i64) x1)] (.int .i64 r) := by
  unfold rootcauseref27_total at hM
  refine PCall.body Try.func68 Try.ntmps68 rfl rfl rfl rfl ?_
  refine a_seq ?_
  refine a_region (.cons (o_assign rfl) <| .nil _) (by kernel_rfl) (by kernel_rfl) ?_
  refine a_seq ?_
  refine a_region (.cons (o_assign rfl) <| .nil _) (by kernel_rfl) (by kernel_rfl) ?_
  refine a_cut (α := Int) (fun s => ⟨[(5, .int .i64 s)], [], []⟩) (fun s => rootcauseref27_total_K2 s = some r) ?_ ?_
  · refine a_seq ?_
    refine a_region (.cons (o_move rfl) <| .cons (t_len rfl) <| .cons (o_move rfl) <| .nil _) (by kernel_rfl) (by kernel_rfl) ?_
    obtain ⟨a4, hL5, hK5⟩ := of_bind hM
    refine a_block ?_
    refine a_fold (fun k3 s => ⟨[(0, .sl 2 (List.map rootcauseref27_Item.dv x0)), (5, .int .i64 s), (8, .sl 1 (List.map (DV.int .i64) x1)), (9, .int .i64 (List.length x1 : Int)), (10, .int .i64 (k3 : Int))], [], []⟩) _ hL5 (Imp.of (fun i => i) (.cons rfl (DLe.refl _) (.cons rfl (DLe.refl _) (.cons rfl (DLe.refl _) (.cons rfl (DLe.refl _) (.cons rfl (DLe.refl _) .nil))))) .nil rfl rfl rfl) ?_ ?_
    · rintro k3 a4 t6 hk3 hx3 hM
      replace hM : rootcauseref27_total_L5 x0 x1 k3 a4 = some t6 := hM
      unfold rootcauseref27_total_L5 at hM
      refine a_seq ?_
      refine a_region (.cons (o_int rfl rfl rfl) <| .nil _) (by kernel_rfl) (by kernel_rfl) ?_
      refine a_seq ?_
      refine a_cond _ rfl (fun _ => ?_) (fun c => absurd hk3 (of_decide_eq_false c))
      refine a_skip ?_
      refine a_seq ?_
      refine a_block ?_
      refine a_seq ?_
      obtain ⟨v9, h8, hM⟩ := of_bind hM
      refine a_region (.cons (t_index h8 rfl rfl rfl) <| .cons (o_load_es rfl rfl) <| .cons (o_assign rfl) <| .nil _) (by kernel_rfl) (by kernel_rfl) ?_
      obtain ⟨v11, h10, hM⟩ := of_bind hM
      refine a_region (.cons (o_move rfl) <| .cons (o_move rfl) <| .cons (o_move rfl) <| .cons (t_index h10 rfl rfl rfl) <| .cons (o_fieldAddr_e rfl rfl) <| .cons (o_load_es rfl rfl) <| .cons (o_int rfl rfl rfl) <| .cons (o_assign rfl) <| .nil _) (by kernel_rfl) (by kernel_rfl) ?_
      refine a_region (.cons (o_add rfl rfl (inR_i64 hk3 hx3)) <| .cons (o_move rfl) <| .nil _) (by kernel_rfl) (by kernel_rfl) ?_
      obtain rfl := Option.some.inj hM
      exact (Imp.of (fun i => i) (.cons rfl (DLe.refl _) (.cons rfl (DLe.refl _) (.cons rfl (DLe.refl _) (.cons rfl (DLe.refl _) (.cons rfl (DLe.succ _ _) .nil))))) .nil rfl rfl rfl)
    · rintro k3 hk3 hx3
      refine a_seq ?_
      refine a_region (.cons (o_int rfl rfl rfl) <| .nil _) (by kernel_rfl) (by kernel_rfl) ?_
      refine a_seq ?_
      refine a_cond _ rfl (fun c => absurd (of_decide_eq_true c) (Int.not_lt.2 hk3)) (fun _ => ?_)
      refine a_exit ?_
      exact ⟨a4, hK5, (Imp.of (fun i => i) (.cons rfl (DLe.refl _) .nil) .nil rfl rfl rfl)⟩
  · rintro a1 hM
    replace hM : rootcauseref27_total_K2 a1 = some r := hM
    unfold rootcauseref27_total_K2 at hM
    refine a_seq ?_
    refine a_region (.cons (o_move rfl) <| .cons (o_assign rfl) <| .nil _) (by kernel_rfl) (by kernel_rfl) ?_
    obtain rfl := Option.some.inj hM
    exact a_ret (a_post (.r1 (.tmp rfl)) (DLe.refl _) PostOk.nil.spec)

def rootcauselaw27_size_K2 (a1 : Int) : Option Int :=
  some a1
def rootcauselaw27_size_L5 (x0 : List rootcauseref27_Item) (k3 : Nat) (a4 : Int) : Option Int :=
  (idx x0 (k3 : Int)).bind fun v9 =>
  some (IntKind.wrap .i64 (a4 + v9.gSize))
def rootcauselaw27_size (x0 : List rootcauseref27_Item) : Option Int :=
  (foldM' 9223372036854775807 (List.length x0 : Int) (fun k3 s => rootcauselaw27_size_L5 x0 k3 s) 0).bind fun s => rootcauselaw27_size_K2 s
theorem rootcauselaw27_size_c {x0 : List rootcauseref27_Item} {r : Int} (hM : rootcauselaw27_size x0 = some r) : PCall Try.prog 40 [.sl 2 (List.map rootcauseref27_Item.dv x0)] (.int .i64 r) := by
  unfold rootcauselaw27_size at hM
  refine PCall.body Try.func40 Try.ntmps40 rfl rfl rfl rfl ?_
  refine a_seq ?_
  refine a_region (.cons (o_assign rfl) <| .nil _) (by kernel_rfl) (by kernel_rfl) ?_
  refine a_seq ?_
  refine a_region (.cons (o_assign rfl) <| .nil _) (by kernel_rfl) (by kernel_rfl) ?_
  refine a_cut (α := Int) (fun s => ⟨[(3, .int .i64 s)], [], []⟩) (fun s => rootcauselaw27_size_K2 s = some r) ?_ ?_
  · refine a_seq ?_
    refine a_region (.cons (o_move rfl) <| .cons (t_len rfl) <| .cons (o_move rfl) <| .nil _) (by kernel_rfl) (by kernel_rfl) ?_
    obtain ⟨a4, hL5, hK5⟩ := of_bind hM
    refine a_block ?_
    refine a_fold (fun k3 s => ⟨[(3, .int .i64 s), (6, .sl 2 (List.map rootcauseref27_Item.dv x0)), (7, .int .i64 (List.length x0 : Int)), (8, .int .i64 (k3 : Int))], [], []⟩) _ hL5 (Imp.of (fun i => i) (.cons rfl (DLe.refl _) (.cons rfl (DLe.refl _) (.cons rfl (DLe.refl _) (.cons rfl (DLe.refl _) .nil)))) .nil rfl rfl rfl) ?_ ?_
    · rintro k3 a4 t6 hk3 hx3 hM
      replace hM : rootcauselaw27_size_L5 x0 k3 a4 = some t6 := hM
      unfold rootcauselaw27_size_L5 at hM
      refine a_seq ?_
      refine a_region (.cons (o_int rfl rfl rfl) <| .nil _) (by kernel_rfl) (by kernel_rfl) ?_
      refine a_seq ?_
      refine a_cond _ rfl (fun _ => ?_) (fun c => absurd hk3 (of_decide_eq_false c))
      refine a_skip ?_
      refine a_seq ?_
      refine a_block ?_
      refine a_seq ?_
      obtain ⟨v9, h8, hM⟩ := of_bind hM
      refine a_region (.cons (t_index h8 rfl rfl rfl) <| .cons (o_load_er rfl rfl rfl) <| .cons (o_alloc rfl) <| .cons (o_store rfl rfl rfl rfl rfl rfl rfl) <| .nil _) (by kernel_rfl) (by kernel_rfl) ?_
      refine a_region (.cons (o_move rfl) <| .cons (o_fieldAddr rfl) <| .cons (o_load_s rfl rfl rfl) <| .cons (o_int rfl rfl rfl) <| .cons (o_assign rfl) <| .nil _) (by kernel_rfl) (by kernel_rfl) ?_
      refine a_region (.cons (o_add rfl rfl (inR_i64 hk3 hx3)) <| .cons (o_move rfl) <| .nil _) (by kernel_rfl) (by kernel_rfl) ?_
      obtain rfl := Option.some.inj hM
      exact (Imp.of (fun i => i) (.cons rfl (DLe.refl _) (.cons rfl (DLe.refl _) (.cons rfl (DLe.refl _) (.cons rfl (DLe.succ _ _) .nil)))) .nil rfl rfl rfl)
    · rintro k3 hk3 hx3
      refine a_seq ?_
      refine a_region (.cons (o_int rfl rfl rfl) <| .nil _) (by kernel_rfl) (by kernel_rfl) ?_
      refine a_seq ?_
      refine a_cond _ rfl (fun c => absurd (of_decide_eq_true c) (Int.not_lt.2 hk3)) (fun _ => ?_)
      refine a_exit ?_
      exact ⟨a4, hK5, (Imp.of (fun i => i) (.cons rfl (DLe.refl _) .nil) .nil rfl rfl rfl)⟩
  · rintro a1 hM
    replace hM : rootcauselaw27_size_K2 a1 = some r := hM
    unfold rootcauselaw27_size_K2 at hM
    refine a_seq ?_
    refine a_region (.cons (o_move rfl) <| .cons (o_assign rfl) <| .nil _) (by kernel_rfl) (by kernel_rfl) ?_
    obtain rfl := Option.some.inj hM
    exact a_ret (a_post (.r1 (.tmp rfl)) (DLe.refl _) PostOk.nil.spec)

def rootcauselaw27_kept_K3 (a1 : List Int) (a2 : Int) : Option ((List Int) × Int) :=
  some (a1, a2)
def rootcauselaw27_kept_L7 (x0 : List rootcauseref27_Item) (x1 : List Bool) (x2 : Int) (k4 : Nat) (a5 : List Int) (a6 : Int) : Option ((List Int) × Int) :=
  (idx x0 (k4 : Int)).bind fun v11 =>
  if (v11.gClass == x2) = true then
    (idx x1 (k4 : Int)).bind fun v14 =>
    if v14 = true then
      chk (apOk 8 (List.length a5 + List.length [a6])) <|
      some ((a5 ++ [a6]), (IntKind.wrap .i64 (a6 + 1)))
    else
      some (a5, (IntKind.wrap .i64 (a6 + 1)))
  else
    some (a5, a6)
def rootcauselaw27_kept (x0 : List rootcauseref27_Item) (x1 : List Bool) (x2 : Int) : Option ((List Int) × Int) :=
  (foldM' 9223372036854775807 (List.length x0 : Int) (fun k4 s => rootcauselaw27_kept_L7 x0 x1 x2 k4 s.1 s.2) (([] : List Int), 0)).bind fun s => rootcauselaw27_kept_K3 s.1 s.2
theorem rootcauselaw27_kept_c {x0 : List rootcauseref27_Item} {x1 : List Bool} {x2 : Int} {r : (List Int) × Int} (hM : rootcauselaw27_kept x0 x1 x2 = some r) : PCall Try.prog 39 [.sl 2 (List.map rootcauseref27_Item.dv x0), .sl 1 (List.map DV.bool x1), .int .i64 x2] (.tup [.sl 1 (List.map (DV.int .i64) r.1), .int .i64 r.2]) := by
  unfold rootcauselaw27_kept at hM
  refine PCall.body Try.func39 Try.ntmps39 rfl rfl rfl rfl ?_
  refine a_seq ?_
  refine a_region (.cons (o_assign rfl) <| .cons (o_assign rfl) <| .nil _) (by kernel_rfl) (by kernel_rfl) ?_
  refine a_cut (α := (List Int) × Int) (fun s => ⟨[(6, .sl 1 (List.map (DV.int .i64) s.1)), (7, .int .i64 s.2)], [], []⟩) (fun s => rootcauselaw27_kept_K3 s.1 s.2 = some r) ?_ ?_
  · refine a_seq ?_
    refine a_region (.cons (o_move rfl) <| .cons (t_len rfl) <| .cons (o_move rfl) <| .nil _) (by kernel_rfl) (by kernel_rfl) ?_
    obtain ⟨⟨a5, a6⟩, hL7, hK7⟩ := of_bind hM
    refine a_block ?_
    refine a_fold (fun k4 s => ⟨[(1, .sl 1 (List.map DV.bool x1)), (2, .int .i64 x2), (6, .row 10001), (7, .int .i64 s.2), (10, .sl 2 (List.map rootcauseref27_Item.dv x0)), (11, .int .i64 (List.length x0 : Int)), (12, .int .i64 (k4 : Int))], [(10001, some (.row 3 1 (List.map (DV.int .i64) s.1)))], [10001]⟩) _ hL7 ((Imp.nilRow (t := 6) (id := 10002) 3 1 rfl rfl).trans (Imp.of (fun i => bif Nat.beq i 10001 then 10002 else i) (.cons rfl (DLe.refl _) (.cons rfl (DLe.refl _) (.cons rfl (DLe.refl _) (.cons rfl (DLe.refl _) (.cons rfl (DLe.refl _) (.cons rfl (DLe.refl _) (.cons rfl (DLe.refl _) .nil))))))) (.cons rfl (.refl _) .nil) rfl rfl rfl)) ?_ ?_
    · rintro k4 ⟨a5, a6⟩ t8 hk4 hx4 hM
      replace hM : rootcauselaw27_kept_L7 x0 x1 x2 k4 a5 a6 = some t8 := hM
      unfold rootcauselaw27_kept_L7 at hM
      refine a_seq ?_
      refine a_region (.cons (o_int rfl rfl rfl) <| .nil _) (by kernel_rfl) (by kernel_rfl) ?_
      refine a_seq ?_
      refine a_cond _ rfl (fun _ => ?_) (fun c => absurd hk4 (of_decide_eq_false c))
      refine a_skip ?_
      refine a_seq ?_
      refine a_block ?_
      refine a_seq ?_
      obtain ⟨v11, h10, hM⟩ := of_bind hM
      refine a_region (.cons (o_move rfl) <| .cons (t_index h10 rfl rfl rfl) <| .cons (o_load_er rfl rfl rfl) <| .cons (o_alloc rfl) <| .cons (o_assign rfl) <| .cons (o_store rfl rfl rfl rfl rfl rfl rfl) <| .nil _) (by kernel_rfl) (by kernel_rfl) ?_
      refine a_seq ?_
      refine a_region (.cons (o_fieldAddr rfl) <| .cons (o_load_s rfl rfl rfl) <| .cons (o_move rfl) <| .cons (o_int rfl rfl rfl) <| .nil _) (by kernel_rfl) (by kernel_rfl) ?_
      refine a_cond _ rfl (fun h12 => ?_) (fun h12 => ?_)
      · replace hM := (of_if hM).1 h12
        refine a_seq ?_
        refine a_seq ?_
        obtain ⟨v14, h13, hM⟩ := of_bind hM
        refine a_region (.cons (o_move rfl) <| .cons (o_move rfl) <| .cons (t_index h13 rfl rfl rfl) <| .cons (o_load_es rfl rfl) <| .nil _) (by kernel_rfl) (by kernel_rfl) ?_
        refine a_cond _ rfl (fun h15 => ?_) (fun h15 => ?_)
        · replace hM := (of_if hM).1 h15
          obtain ⟨h16, hM⟩ := of_chk hM
          refine a_region (.cons (o_move rfl) <| .cons (o_move rfl) <| .cons (t_build (DV.int .i64) ([a6] : List Int) rfl rfl rfl rfl rfl rfl rfl) <| .cons (t_append [a6] h16 rfl rfl rfl (Src.row rfl)) <| .cons (o_assign rfl) <| .nil _) (by kernel_rfl) (by kernel_rfl) ?_
          refine a_region (.cons (o_move rfl) <| .cons (o_int rfl rfl rfl) <| .cons (o_assign rfl) <| .nil _) (by kernel_rfl) (by kernel_rfl) ?_
          refine a_region (.cons (o_add rfl rfl (inR_i64 hk4 hx4)) <| .cons (o_move rfl) <| .nil _) (by kernel_rfl) (by kernel_rfl) ?_
          obtain rfl := Option.some.inj hM
          exact (Imp.of (fun i => bif Nat.beq i 10001 then 28 else i) (.cons rfl (DLe.refl _) (.cons rfl (DLe.refl _) (.cons rfl (DLe.refl _) (.cons rfl (DLe.refl _) (.cons rfl (DLe.refl _) (.cons rfl (DLe.refl _) (.cons rfl (DLe.succ _ _) .nil))))))) (.cons rfl (.refl _) .nil) rfl rfl rfl)
        · replace hM := (of_if hM).2 h15
          refine a_skip ?_
          refine a_region (.cons (o_move rfl) <| .cons (o_int rfl rfl rfl) <| .cons (o_assign rfl) <| .nil _) (by kernel_rfl) (by kernel_rfl) ?_
          refine a_region (.cons (o_add rfl rfl (inR_i64 hk4 hx4)) <| .cons (o_move rfl) <| .nil _) (by kernel_rfl) (by kernel_rfl) ?_
          obtain rfl := Option.some.inj hM
          exact (Imp.of (fun i => i) (.cons rfl (DLe.refl _) (.cons rfl (DLe.refl _) (.cons rfl (DLe.refl _) (.cons rfl (DLe.refl _) (.cons rfl (DLe.refl _) (.cons rfl (DLe.refl _) (.cons rfl (DLe.succ _ _) .nil))))))) (.cons rfl (.refl _) .nil) rfl rfl rfl)
      · replace hM := (of_if hM).2 h12
        refine a_skip ?_
        refine a_region (.cons (o_add rfl rfl (inR_i64 hk4 hx4)) <| .cons (o_move rfl) <| .nil _) (by kernel_rfl) (by kernel_rfl) ?_
        obtain rfl := Option.some.inj hM
        exact (Imp.of (fun i => i) (.cons rfl (DLe.refl _) (.cons rfl (DLe.refl _) (.cons rfl (DLe.refl _) (.cons rfl (DLe.refl _) (.cons rfl (DLe.refl _) (.cons rfl (DLe.refl _) (.cons rfl (DLe.succ _ _) .nil))))))) (.cons rfl (.refl _) .nil) rfl rfl rfl)
    · rintro k4 hk4 hx4
      refine a_seq ?_
      refine a_region (.cons (o_int rfl rfl rfl) <| .nil _) (by kernel_rfl) (by kernel_rfl) ?_
      refine a_seq ?_
      refine a_cond _ rfl (fun c => absurd (of_decide_eq_true c) (Int.not_lt.2 hk4)) (fun _ => ?_)
      refine a_exit ?_
      exact ⟨(a5, a6), hK7, ((Imp.freeze (id := 10001) rfl).trans (Imp.of (fun i => i) (.cons rfl (DLe.refl _) (.cons rfl (DLe.refl _) .nil)) .nil rfl rfl rfl))⟩
  · rintro ⟨a1, a2⟩ hM
    replace hM : rootcauselaw27_kept_K3 a1 a2 = some r := hM
    unfold rootcauselaw27_kept_K3 at hM
    refine a_seq ?_
    refine a_region (.cons (o_move rfl) <| .cons (o_move rfl) <| .cons (o_assign rfl) <| .cons (o_assign rfl) <| .nil _) (by kernel_rfl) (by kernel_rfl) ?_
    obtain rfl := Option.some.inj hM
    exact a_ret (a_post (.r2 (.tmp rfl) (.tmp rfl)) (DLe.refl _) PostOk.nil.spec)

end Go.Proofs.Ytkadjbpmnpcfhaa
