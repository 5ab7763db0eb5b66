/-
  GraphNilSaid: for every input the law GraphNil (nil collectors and graphs, and collectors without records) returns true and leaves its arguments as they were. No condition.
-/
import Derived.Test.YtcgfgilddjkpkaaGreatGNi13
set_option maxHeartbeats 2000000
set_option maxRecDepth 100000
set_option linter.unusedVariables false
set_option linter.unusedSimpArgs false
namespace Go.Proofs.YtcgfgilddjkpkaaGreat
open Go.ChangeShapes Go.WideShapes Go.ChangeAt Go.RowKit
theorem cellsT3 : Tryz.prog.cellsOf 3 = 1 := by kernel_rfl
theorem cellsT22 : Tryz.prog.cellsOf 22 = 1 := by kernel_rfl
theorem cellsT24 : Tryz.prog.cellsOf 24 = 2 := by kernel_rfl
def graph_Node.ok (x : graph_Node) : Prop := InR .i64 x.gComponent ∧ InR .u64 x.gSeq
theorem op_graph_Node {H : Type} {enc : TypeId × Value → H} {w : World} {fuel : Nat} {cs : List Value} {y : DataW H × List MemPlace} (h : DataW.trod enc Tryz.prog w 0 (fun _ => true) true fuel 24 cs = some y) : ∃ x : graph_Node, RsL (allF w) Gam.no (graph_Node.cs x) cs ∧ graph_Node.ok x := by
  obtain ⟨xs, n, _, _, hlen, hxl, hg⟩ := DataW.trod_struct Tryz.underlying24 h
  rw [cellsT24] at hlen
  obtain ⟨y0, hy0⟩ : ∃ y, xs[0]? = some y := ⟨_, List.getElem?_eq_getElem (by rw [hxl]; decide)⟩
  have g0 : DataW.trod enc Tryz.prog w 0 (fun _ => true) true n 3 ((cs.drop 0).take (Tryz.prog.cellsOf 3)) = xs[0]? := hg 0 _ rfl
  rw [cellsT3, hy0] at g0
  obtain ⟨x0, r0, k0⟩ := (op_int Tryz.underlying3) g0
  obtain ⟨y1, hy1⟩ : ∃ y, xs[1]? = some y := ⟨_, List.getElem?_eq_getElem (by rw [hxl]; decide)⟩
  have g1 : DataW.trod enc Tryz.prog w 0 (fun _ => true) true n 22 ((cs.drop 1).take (Tryz.prog.cellsOf 22)) = xs[1]? := hg 1 _ rfl
  rw [cellsT22, hy1] at g1
  obtain ⟨x1, r1, k1⟩ := (op_int Tryz.underlying22) g1
  exact ⟨⟨x0, x1⟩, RsL.join (off := 0) (n := 1) (by rw [hlen]; decide) r0 (RsL.join (off := 1) (n := 1) (by rw [hlen]; decide) r1 (RsL.done (n := 2) hlen)), ⟨k0, k1⟩⟩
theorem own : ownKnob Tryz.prog.godebug = none := by kernel_rfl
theorem laidOut : laidOutB Tryz.prog = true := by kernel_rfl
theorem GraphNil_lifted (os : Os) (started : os.Started) (H : Type) (enc : TypeId × Value → H) :
    ReturnsInHanded {} Tryz.checked os 3 .any (Rows.graphNilSpec.pre6 enc Tryz.prog Tryz.f3 Rows.graphNilRow.domain false) (Rows.graphNilSpec.post enc Tryz.prog Tryz.f3 false true false false) := by
  refine returnsInHanded_of_change (C := Tryz.checked) own started (by kernel_rfl) Tryz.func3
    (ChangeSpec.witness6 (enc := enc) (C := Tryz.checked) false ⟨#[], #[.agg #[.int .i64 0, .int .u64 0], .agg #[.int .i64 0, .int .u64 0], .int .u8 0], []⟩ 8 (by kernel_rfl) (by kernel_rfl) (by kernel_rfl) (by kernel_rfl)) ?_
  intro W base args ds gs before hval0 hW hcnd _
  have hval : ∀ (j : Nat) t v, Tryz.f3.params[j]? = some t → args[j]? = some v → Value.okWide Tryz.prog W .any base t v := hval0
  have hW' := hW
  obtain ⟨p, q, hA0, hV, rfl, hfz, hnd⟩ := hW
  have hA : DataW.TrodAll enc Tryz.prog W 0 (fun _ => true) true Tryz.f3.params.toList args.toList ds p := hA0
  rw [Tryz.params3] at hA hval
  obtain ⟨v0, vs0, d0, ds0, p0, q0, hargs0, rfl, rfl, h0, r0⟩ := trodAll_cons hA
  obtain ⟨v1, vs1, d1, ds1, p1, q1, hargs1, rfl, rfl, h1, r1⟩ := trodAll_cons r0
  obtain ⟨v2, vs2, d2, ds2, p2, q2, hargs2, rfl, rfl, h2, r2⟩ := trodAll_cons r1
  obtain ⟨rfl, rfl, rfl⟩ := trodAll_nil r2
  obtain rfl : args = #[v0, v1, v2] := by cases args; simp_all
  obtain ⟨rfl, rfl⟩ := trodVars_none hV
  obtain ⟨cs0, rfl, hsz0⟩ := okWide_struct Tryz.underlying24 (hval 0 24 v0 rfl rfl)
  obtain ⟨fuel0, hf0⟩ := h0
  obtain ⟨x0, rs0, k0⟩ := (op_graph_Node) hf0
  obtain ⟨cs1, rfl, hsz1⟩ := okWide_struct Tryz.underlying24 (hval 1 24 v1 rfl rfl)
  obtain ⟨fuel1, hf1⟩ := h1
  obtain ⟨x1, rs1, k1⟩ := (op_graph_Node) hf1
  obtain ⟨n2, rfl⟩ := okWide_int Tryz.underlying5 (hval 2 5 v2 rfl rfl)
  obtain ⟨fuel2, hf2⟩ := h2
  obtain ⟨x2, rs2, k2⟩ := (op_int Tryz.underlying5) hf2
  have hrs : RsT (allF W) Gam.no [.agg (graph_Node.cs x0), .agg (graph_Node.cs x1), .int .u8 x2] [_, _, _] := ⟨_, _, rfl, rs_cells rs0, _, _, rfl, rs_cells rs1, _, _, rfl, rs_one rs2, rfl⟩
  refine (law_run (rootcauselaw31_GraphNil_c (graphNil_law x0 x1 x2 k2.1)) (fun b hb => by simp [knBs] at hb) hrs).mono fun e W' ⟨he, hg⟩ => ?_
  subst he
  exact ⟨_, rfl, law_post (tb := 4) laidOut hW' rfl rfl Tryz.underlying4 (by rw [Tryz.params3]; intro t ht; simp only [List.mem_cons, List.not_mem_nil, or_false] at ht; rcases ht with rfl | rfl | rfl <;> exact ⟨by kernel_rfl, by decide +kernel⟩) rfl hg⟩
theorem told0 : (Rows.graphNilRow.inPlace == Tryz.checked.prog.inPlace 3) = true := by kernel_rfl
theorem told1 : (Rows.graphNilRow.unfollowed == Tryz.checked.prog.unfollowed 3) = true := by kernel_rfl
theorem told2 : (Rows.graphNilRow.recurses == Tryz.checked.prog.recurses 3) = true := by kernel_rfl
theorem told3 : (Rows.graphNilRow.named == Tryz.checked.prog.varsNamed 3) = true := by kernel_rfl
theorem told4 : laidOutB Tryz.checked.prog = true := by kernel_rfl
theorem told5 : mapsRowed Tryz.checked.prog = true := by kernel_rfl
theorem told6 : (Rows.graphNilRow.plainKeys == Tryz.checked.prog.plainKeys) = true := by kernel_rfl
theorem told7 : Program.stopsHeard Tryz.checked.prog = true := by kernel_rfl
theorem told8 : Program.mayEnter Tryz.checked.prog = true := by kernel_rfl
theorem told9 : (Rows.graphNilRow.lifted == Tryz.checked.prog.liftsFinal) = true := by kernel_rfl
theorem told10 : (Program.make Tryz.checked.prog == some Rows.graphNilRow.make) = true := by kernel_rfl
theorem told : joinedFacts Tryz.checked.prog 3 Tryz.f3 Rows.graphNilSpec Rows.graphNilRow = true := by
  unfold joinedFacts
  rw [told0, told1, told2, told3, told4, told5, told6, told7, told8, told9, told10]
  kernel_rfl
theorem graphNil_holds : Rows.GraphNilSaid :=
  OpenClaim.holds_of_wide 3 Tryz.f3 rfl rfl rfl rfl rfl rfl rfl ⟨rfl, rfl, rfl, rfl, rfl⟩ rfl rfl rfl rfl rfl (by kernel_rfl) Tryz.func3 told
    (of_decide_eq_true (by kernel_rfl)) (by unfold Func.isWrapper; first | (rw [if_pos (by decide +kernel)]; kernel_rfl) | (rw [if_neg (by decide +kernel)]; exact ⟨rfl, rfl⟩))
    (fun os started H enc _ => GraphNil_lifted os started H enc)
end Go.Proofs.YtcgfgilddjkpkaaGreat
