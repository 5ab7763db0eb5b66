/-
  BudgetEvenSaid: for every input the law BudgetEven (the kept entries of a class lie evenly among its entries) returns true and leaves its arguments as they were. No condition.
-/
import Derived.Test.YtkadjbpmnpcfhaaOpn
import Derived.Test.YtkadjbpmnpcfhaaBuB
set_option maxHeartbeats 2000000
set_option maxRecDepth 100000
set_option linter.unusedVariables false
set_option linter.unusedSimpArgs false
namespace Go.Proofs.Ytkadjbpmnpcfhaa
open Go.ChangeShapes Go.WideShapes Go.ChangeAt Go.RowKit
theorem cellsT109 : Try.prog.cellsOf 109 = 5 := by kernel_rfl
theorem cellsT2 : Try.prog.cellsOf 2 = 1 := by kernel_rfl
theorem cellsT5 : Try.prog.cellsOf 5 = 1 := by kernel_rfl
theorem cellsT4 : Try.prog.cellsOf 4 = 1 := by kernel_rfl
theorem cellsT25 : Try.prog.cellsOf 25 = 1 := by kernel_rfl
def rootcauselaw27_Raw.ok (x : rootcauselaw27_Raw) : Prop := InR .u8 x.gWhat ∧ InR .u8 x.gKind ∧ True ∧ InR .u8 x.gTick ∧ (x.gArgs.length ≤ 9223372036854775807 ∧ ∀ y ∈ x.gArgs, InR .i64 y)
theorem op_rootcauselaw27_Raw {H : Type} {enc : TypeId × Value → H} {w : World} {fuel : Nat} {cs : List Value} {y : DataW H × List MemPlace} (h : DataW.trod enc Try.prog w 0 (fun _ => true) true fuel 109 cs = some y) : ∃ x : rootcauselaw27_Raw, RsL (allF w) Gam.no (rootcauselaw27_Raw.cs x) cs ∧ rootcauselaw27_Raw.ok x := by
  obtain ⟨xs, n, _, _, hlen, hxl, hg⟩ := DataW.trod_struct Try.underlying109 h
  rw [cellsT109] at hlen
  obtain ⟨y0, hy0⟩ : ∃ y, xs[0]? = some y := ⟨_, List.getElem?_eq_getElem (by rw [hxl]; decide)⟩
  have g0 : DataW.trod enc Try.prog w 0 (fun _ => true) true n 5 ((cs.drop 0).take (Try.prog.cellsOf 5)) = xs[0]? := hg 0 _ rfl
  rw [cellsT5, hy0] at g0
  obtain ⟨x0, r0, k0⟩ := (op_int Try.underlying5) g0
  obtain ⟨y1, hy1⟩ : ∃ y, xs[1]? = some y := ⟨_, List.getElem?_eq_getElem (by rw [hxl]; decide)⟩
  have g1 : DataW.trod enc Try.prog w 0 (fun _ => true) true n 5 ((cs.drop 1).take (Try.prog.cellsOf 5)) = xs[1]? := hg 1 _ rfl
  rw [cellsT5, hy1] at g1
  obtain ⟨x1, r1, k1⟩ := (op_int Try.underlying5) g1
  obtain ⟨y2, hy2⟩ : ∃ y, xs[2]? = some y := ⟨_, List.getElem?_eq_getElem (by rw [hxl]; decide)⟩
  have g2 : DataW.trod enc Try.prog w 0 (fun _ => true) true n 4 ((cs.drop 2).take (Try.prog.cellsOf 4)) = xs[2]? := hg 2 _ rfl
  rw [cellsT4, hy2] at g2
  obtain ⟨x2, r2, k2⟩ := (op_bool Try.underlying4) g2
  obtain ⟨y3, hy3⟩ : ∃ y, xs[3]? = some y := ⟨_, List.getElem?_eq_getElem (by rw [hxl]; decide)⟩
  have g3 : DataW.trod enc Try.prog w 0 (fun _ => true) true n 5 ((cs.drop 3).take (Try.prog.cellsOf 5)) = xs[3]? := hg 3 _ rfl
  rw [cellsT5, hy3] at g3
  obtain ⟨x3, r3, k3⟩ := (op_int Try.underlying5) g3
  obtain ⟨y4, hy4⟩ : ∃ y, xs[4]? = some y := ⟨_, List.getElem?_eq_getElem (by rw [hxl]; decide)⟩
  have g4 : DataW.trod enc Try.prog w 0 (fun _ => true) true n 25 ((cs.drop 4).take (Try.prog.cellsOf 25)) = xs[4]? := hg 4 _ rfl
  rw [cellsT25, hy4] at g4
  obtain ⟨x4, r4, k4⟩ := (op_slice (α := Int) (dv := (DV.int .i64)) (ok := (fun y => InR .i64 y)) Try.underlying25 cellsT2 (by decide) (fun _ => rfl) (fun _ _ _ h => (op_int Try.underlying2) h)) g4
  exact ⟨⟨x0, x1, x2, x3, x4⟩, RsL.join (off := 0) (n := 1) (by rw [hlen]; decide) r0 (RsL.join (off := 1) (n := 1) (by rw [hlen]; decide) r1 (RsL.join (off := 2) (n := 1) (by rw [hlen]; decide) r2 (RsL.join (off := 3) (n := 1) (by rw [hlen]; decide) r3 (RsL.join (off := 4) (n := 1) (by rw [hlen]; decide) r4 (RsL.done (n := 5) hlen))))), ⟨k0, k1, k2, k3, k4⟩⟩
theorem cellsT64 : Try.prog.cellsOf 64 = 1 := by kernel_rfl
theorem cellsT3 : Try.prog.cellsOf 3 = 1 := by kernel_rfl
theorem own : ownKnob Try.prog.godebug = none := by kernel_rfl
theorem laidOut : laidOutB Try.prog = true := by kernel_rfl
theorem BudgetEven_lifted (os : Os) (started : os.Started) (H : Type) (enc : TypeId × Value → H) :
    ReturnsInHanded {} Try.checked os 16 .any (Rows.budgetEvenSpec.pre6 enc Try.prog Try.f16 Rows.budgetEvenRow.domain false) (Rows.budgetEvenSpec.post enc Try.prog Try.f16 false true false false) := by
  refine returnsInHanded_of_change (C := Try.checked) own started (by kernel_rfl) Try.func16
    (ChangeSpec.witness6 (enc := enc) (C := Try.checked) false ⟨#[], #[.slice none 0 0, .int .i64 0], []⟩ 8 (by kernel_rfl) (by kernel_rfl) (by kernel_rfl) (by kernel_rfl)) ?_
  intro W base args ds gs before hval0 hW hcnd _
  have hval : ∀ (j : Nat) t v, Try.f16.params[j]? = some t → args[j]? = some v → Value.okWide Try.prog W .any base t v := hval0
  have hW' := hW
  obtain ⟨p, q, hA0, hV, rfl, hfz, hnd⟩ := hW
  have hA : DataW.TrodAll enc Try.prog W 0 (fun _ => true) true Try.f16.params.toList args.toList ds p := hA0
  rw [Try.params16] at hA hval
  obtain ⟨v0, vs0, d0, ds0, p0, q0, hargs0, rfl, rfl, h0, r0⟩ := trodAll_cons hA
  obtain ⟨v1, vs1, d1, ds1, p1, q1, hargs1, rfl, rfl, h1, r1⟩ := trodAll_cons r0
  obtain ⟨rfl, rfl, rfl⟩ := trodAll_nil r1
  obtain rfl : args = #[v0, v1] := by cases args; simp_all
  obtain ⟨rfl, rfl⟩ := trodVars_none hV
  obtain ⟨sa0, sn0, sc0, rfl⟩ := okWide_slice Try.underlying64 (hval 0 64 v0 rfl rfl)
  obtain ⟨fuel0, hf0⟩ := h0
  obtain ⟨x0, rs0, k0⟩ := (op_slice (α := rootcauselaw27_Raw) (dv := rootcauselaw27_Raw.dv) (ok := (fun y => rootcauselaw27_Raw.ok y)) Try.underlying64 cellsT109 (by decide) (fun _ => rfl) (fun _ _ _ h => (op_rootcauselaw27_Raw) h)) hf0
  obtain ⟨n1, rfl⟩ := okWide_int Try.underlying3 (hval 1 3 v1 rfl rfl)
  obtain ⟨fuel1, hf1⟩ := h1
  obtain ⟨x1, rs1, k1⟩ := (op_int Try.underlying3) hf1
  have hrs : RsT (allF W) Gam.no [.sl 5 (List.map rootcauselaw27_Raw.dv x0), .int .i64 x1] [_, _] := ⟨_, _, rfl, rs_one rs0, _, _, rfl, rs_one rs1, rfl⟩
  refine (law_run (rootcauselaw27_BudgetEven_c (even_law (fun r hr => ⟨(k0.2 r hr).1, (k0.2 r hr).2.1, (k0.2 r hr).2.2.2.1, fun v hv => (k0.2 r hr).2.2.2.2.2 v hv⟩) k0.1 k1)) hrs).mono fun e W' ⟨he, hg⟩ => ?_
  subst he
  exact ⟨_, rfl, law_post (tb := 4) laidOut hW' rfl rfl Try.underlying4 (by rw [Try.params16]; intro t ht; simp only [List.mem_cons, List.not_mem_nil, or_false] at ht; rcases ht with rfl | rfl <;> exact ⟨by kernel_rfl, by decide +kernel⟩) rfl hg⟩
theorem budgetEven_holds : Rows.BudgetEvenSaid :=
  OpenClaim.holds_of_wide 16 Try.f16 rfl rfl rfl rfl rfl rfl rfl ⟨rfl, rfl, rfl, rfl, rfl⟩ rfl rfl rfl rfl rfl (by kernel_rfl) Try.func16 (by kernel_rfl)
    (of_decide_eq_true (by kernel_rfl)) (by unfold Func.isWrapper; first | (rw [if_pos (by decide +kernel)]; kernel_rfl) | (rw [if_neg (by decide +kernel)]; exact ⟨rfl, rfl⟩))
    (fun os started H enc _ => BudgetEven_lifted os started H enc)
end Go.Proofs.Ytkadjbpmnpcfhaa
