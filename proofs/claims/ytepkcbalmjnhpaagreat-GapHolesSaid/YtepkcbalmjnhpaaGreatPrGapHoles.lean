/-
  GapHolesSaid: for every input the law GapHoles (Holes, Could and Until, as specified, for any gaps) returns true and leaves its arguments as they were. No condition.
-/
import Derived.Test.YtepkcbalmjnhpaaGreatOpn
import Derived.Test.YtepkcbalmjnhpaaGreatLwGap
set_option maxHeartbeats 2000000
set_option maxRecDepth 100000
set_option linter.unusedVariables false
set_option linter.unusedSimpArgs false
namespace Go.Proofs.YtepkcbalmjnhpaaGreat
open Go.ChangeShapes Go.WideShapes Go.ChangeAt Go.RowKit
theorem cellsT85 : Tryz.prog.cellsOf 85 = 6 := by kernel_rfl
theorem cellsT3 : Tryz.prog.cellsOf 3 = 1 := by kernel_rfl
theorem cellsT42 : Tryz.prog.cellsOf 42 = 1 := by kernel_rfl
theorem cellsT4 : Tryz.prog.cellsOf 4 = 1 := by kernel_rfl
def gap_Gap.ok (x : gap_Gap) : Prop := InR .i64 x.gComponent ∧ InR .u64 x.gFirst ∧ InR .u64 x.gCount ∧ True ∧ InR .i64 x.gFrom ∧ InR .i64 x.gTo
theorem op_gap_Gap {H : Type} {enc : TypeId × Value → H} {w : World} {fuel : Nat} {cs : List Value} {y : DataW H × List MemPlace} (h : DataW.trod enc Tryz.prog w 0 (fun _ => true) true fuel 85 cs = some y) : ∃ x : gap_Gap, RsL (allF w) Gam.no (gap_Gap.cs x) cs ∧ gap_Gap.ok x := by
  obtain ⟨xs, n, _, _, hlen, hxl, hg⟩ := DataW.trod_struct Tryz.underlying85 h
  rw [cellsT85] at hlen
  obtain ⟨y0, hy0⟩ : ∃ y, xs[0]? = some y := ⟨_, List.getElem?_eq_getElem (by rw [hxl]; decide)⟩
  have g0 : DataW.trod enc Tryz.prog w 0 (fun _ => true) true n 3 ((cs.drop 0).take (Tryz.prog.cellsOf 3)) = xs[0]? := hg 0 _ rfl
  rw [cellsT3, hy0] at g0
  obtain ⟨x0, r0, k0⟩ := (op_int Tryz.underlying3) g0
  obtain ⟨y1, hy1⟩ : ∃ y, xs[1]? = some y := ⟨_, List.getElem?_eq_getElem (by rw [hxl]; decide)⟩
  have g1 : DataW.trod enc Tryz.prog w 0 (fun _ => true) true n 42 ((cs.drop 1).take (Tryz.prog.cellsOf 42)) = xs[1]? := hg 1 _ rfl
  rw [cellsT42, hy1] at g1
  obtain ⟨x1, r1, k1⟩ := (op_int Tryz.underlying42) g1
  obtain ⟨y2, hy2⟩ : ∃ y, xs[2]? = some y := ⟨_, List.getElem?_eq_getElem (by rw [hxl]; decide)⟩
  have g2 : DataW.trod enc Tryz.prog w 0 (fun _ => true) true n 42 ((cs.drop 2).take (Tryz.prog.cellsOf 42)) = xs[2]? := hg 2 _ rfl
  rw [cellsT42, hy2] at g2
  obtain ⟨x2, r2, k2⟩ := (op_int Tryz.underlying42) g2
  obtain ⟨y3, hy3⟩ : ∃ y, xs[3]? = some y := ⟨_, List.getElem?_eq_getElem (by rw [hxl]; decide)⟩
  have g3 : DataW.trod enc Tryz.prog w 0 (fun _ => true) true n 4 ((cs.drop 3).take (Tryz.prog.cellsOf 4)) = xs[3]? := hg 3 _ rfl
  rw [cellsT4, hy3] at g3
  obtain ⟨x3, r3, k3⟩ := (op_bool Tryz.underlying4) g3
  obtain ⟨y4, hy4⟩ : ∃ y, xs[4]? = some y := ⟨_, List.getElem?_eq_getElem (by rw [hxl]; decide)⟩
  have g4 : DataW.trod enc Tryz.prog w 0 (fun _ => true) true n 3 ((cs.drop 4).take (Tryz.prog.cellsOf 3)) = xs[4]? := hg 4 _ rfl
  rw [cellsT3, hy4] at g4
  obtain ⟨x4, r4, k4⟩ := (op_int Tryz.underlying3) g4
  obtain ⟨y5, hy5⟩ : ∃ y, xs[5]? = some y := ⟨_, List.getElem?_eq_getElem (by rw [hxl]; decide)⟩
  have g5 : DataW.trod enc Tryz.prog w 0 (fun _ => true) true n 3 ((cs.drop 5).take (Tryz.prog.cellsOf 3)) = xs[5]? := hg 5 _ rfl
  rw [cellsT3, hy5] at g5
  obtain ⟨x5, r5, k5⟩ := (op_int Tryz.underlying3) g5
  exact ⟨⟨x0, x1, x2, x3, x4, x5⟩, RsL.join (off := 0) (n := 1) (by rw [hlen]; decide) r0 (RsL.join (off := 1) (n := 1) (by rw [hlen]; decide) r1 (RsL.join (off := 2) (n := 1) (by rw [hlen]; decide) r2 (RsL.join (off := 3) (n := 1) (by rw [hlen]; decide) r3 (RsL.join (off := 4) (n := 1) (by rw [hlen]; decide) r4 (RsL.join (off := 5) (n := 1) (by rw [hlen]; decide) r5 (RsL.done (n := 6) hlen)))))), ⟨k0, k1, k2, k3, k4, k5⟩⟩
theorem cellsT2 : Tryz.prog.cellsOf 2 = 1 := by kernel_rfl
theorem cellsT47 : Tryz.prog.cellsOf 47 = 1 := by kernel_rfl
theorem cellsT48 : Tryz.prog.cellsOf 48 = 1 := by kernel_rfl
theorem cellsT50 : Tryz.prog.cellsOf 50 = 9 := by kernel_rfl
def api_Event.ok (x : api_Event) : Prop := InR .i64 x.gTick ∧ InR .i64 x.gComponent ∧ InR .u8 x.gKind ∧ InR .i64 x.gPeer ∧ InR .i64 x.gN ∧ InR .i64 x.gCopy ∧ InR .i64 x.gHandler ∧ InR .i64 x.gD ∧ (x.gArgs.length ≤ 9223372036854775807 ∧ ∀ y ∈ x.gArgs, InR .i64 y)
theorem op_api_Event {H : Type} {enc : TypeId × Value → H} {w : World} {fuel : Nat} {cs : List Value} {y : DataW H × List MemPlace} (h : DataW.trod enc Tryz.prog w 0 (fun _ => true) true fuel 50 cs = some y) : ∃ x : api_Event, RsL (allF w) Gam.no (api_Event.cs x) cs ∧ api_Event.ok x := by
  obtain ⟨xs, n, _, _, hlen, hxl, hg⟩ := DataW.trod_struct Tryz.underlying50 h
  rw [cellsT50] at hlen
  obtain ⟨y0, hy0⟩ : ∃ y, xs[0]? = some y := ⟨_, List.getElem?_eq_getElem (by rw [hxl]; decide)⟩
  have g0 : DataW.trod enc Tryz.prog w 0 (fun _ => true) true n 3 ((cs.drop 0).take (Tryz.prog.cellsOf 3)) = xs[0]? := hg 0 _ rfl
  rw [cellsT3, hy0] at g0
  obtain ⟨x0, r0, k0⟩ := (op_int Tryz.underlying3) g0
  obtain ⟨y1, hy1⟩ : ∃ y, xs[1]? = some y := ⟨_, List.getElem?_eq_getElem (by rw [hxl]; decide)⟩
  have g1 : DataW.trod enc Tryz.prog w 0 (fun _ => true) true n 3 ((cs.drop 1).take (Tryz.prog.cellsOf 3)) = xs[1]? := hg 1 _ rfl
  rw [cellsT3, hy1] at g1
  obtain ⟨x1, r1, k1⟩ := (op_int Tryz.underlying3) g1
  obtain ⟨y2, hy2⟩ : ∃ y, xs[2]? = some y := ⟨_, List.getElem?_eq_getElem (by rw [hxl]; decide)⟩
  have g2 : DataW.trod enc Tryz.prog w 0 (fun _ => true) true n 47 ((cs.drop 2).take (Tryz.prog.cellsOf 47)) = xs[2]? := hg 2 _ rfl
  rw [cellsT47, hy2] at g2
  obtain ⟨x2, r2, k2⟩ := (op_int Tryz.underlying47) g2
  obtain ⟨y3, hy3⟩ : ∃ y, xs[3]? = some y := ⟨_, List.getElem?_eq_getElem (by rw [hxl]; decide)⟩
  have g3 : DataW.trod enc Tryz.prog w 0 (fun _ => true) true n 3 ((cs.drop 3).take (Tryz.prog.cellsOf 3)) = xs[3]? := hg 3 _ rfl
  rw [cellsT3, hy3] at g3
  obtain ⟨x3, r3, k3⟩ := (op_int Tryz.underlying3) g3
  obtain ⟨y4, hy4⟩ : ∃ y, xs[4]? = some y := ⟨_, List.getElem?_eq_getElem (by rw [hxl]; decide)⟩
  have g4 : DataW.trod enc Tryz.prog w 0 (fun _ => true) true n 3 ((cs.drop 4).take (Tryz.prog.cellsOf 3)) = xs[4]? := hg 4 _ rfl
  rw [cellsT3, hy4] at g4
  obtain ⟨x4, r4, k4⟩ := (op_int Tryz.underlying3) g4
  obtain ⟨y5, hy5⟩ : ∃ y, xs[5]? = some y := ⟨_, List.getElem?_eq_getElem (by rw [hxl]; decide)⟩
  have g5 : DataW.trod enc Tryz.prog w 0 (fun _ => true) true n 3 ((cs.drop 5).take (Tryz.prog.cellsOf 3)) = xs[5]? := hg 5 _ rfl
  rw [cellsT3, hy5] at g5
  obtain ⟨x5, r5, k5⟩ := (op_int Tryz.underlying3) g5
  obtain ⟨y6, hy6⟩ : ∃ y, xs[6]? = some y := ⟨_, List.getElem?_eq_getElem (by rw [hxl]; decide)⟩
  have g6 : DataW.trod enc Tryz.prog w 0 (fun _ => true) true n 3 ((cs.drop 6).take (Tryz.prog.cellsOf 3)) = xs[6]? := hg 6 _ rfl
  rw [cellsT3, hy6] at g6
  obtain ⟨x6, r6, k6⟩ := (op_int Tryz.underlying3) g6
  obtain ⟨y7, hy7⟩ : ∃ y, xs[7]? = some y := ⟨_, List.getElem?_eq_getElem (by rw [hxl]; decide)⟩
  have g7 : DataW.trod enc Tryz.prog w 0 (fun _ => true) true n 2 ((cs.drop 7).take (Tryz.prog.cellsOf 2)) = xs[7]? := hg 7 _ rfl
  rw [cellsT2, hy7] at g7
  obtain ⟨x7, r7, k7⟩ := (op_int Tryz.underlying2) g7
  obtain ⟨y8, hy8⟩ : ∃ y, xs[8]? = some y := ⟨_, List.getElem?_eq_getElem (by rw [hxl]; decide)⟩
  have g8 : DataW.trod enc Tryz.prog w 0 (fun _ => true) true n 48 ((cs.drop 8).take (Tryz.prog.cellsOf 48)) = xs[8]? := hg 8 _ rfl
  rw [cellsT48, hy8] at g8
  obtain ⟨x8, r8, k8⟩ := (op_slice (α := Int) (dv := (DV.int .i64)) (ok := (fun y => InR .i64 y)) Tryz.underlying48 cellsT2 (by decide) (fun _ => rfl) (fun _ _ _ h => (op_int Tryz.underlying2) h)) g8
  exact ⟨⟨x0, x1, x2, x3, x4, x5, x6, x7, x8⟩, RsL.join (off := 0) (n := 1) (by rw [hlen]; decide) r0 (RsL.join (off := 1) (n := 1) (by rw [hlen]; decide) r1 (RsL.join (off := 2) (n := 1) (by rw [hlen]; decide) r2 (RsL.join (off := 3) (n := 1) (by rw [hlen]; decide) r3 (RsL.join (off := 4) (n := 1) (by rw [hlen]; decide) r4 (RsL.join (off := 5) (n := 1) (by rw [hlen]; decide) r5 (RsL.join (off := 6) (n := 1) (by rw [hlen]; decide) r6 (RsL.join (off := 7) (n := 1) (by rw [hlen]; decide) r7 (RsL.join (off := 8) (n := 1) (by rw [hlen]; decide) r8 (RsL.done (n := 9) hlen))))))))), ⟨k0, k1, k2, k3, k4, k5, k6, k7, k8⟩⟩
theorem cellsT82 : Tryz.prog.cellsOf 82 = 1 := by kernel_rfl
theorem own : ownKnob Tryz.prog.godebug = none := by kernel_rfl
theorem laidOut : laidOutB Tryz.prog = true := by kernel_rfl
theorem GapHoles_lifted (os : Os) (started : os.Started) (H : Type) (enc : TypeId × Value → H) :
    ReturnsInHanded {} Tryz.checked os 9 .any (Rows.gapHolesSpec.pre6 enc Tryz.prog Tryz.f9 Rows.gapHolesRow.domain false) (Rows.gapHolesSpec.post enc Tryz.prog Tryz.f9 false true false false) := by
  refine returnsInHanded_of_change (C := Tryz.checked) own started (by kernel_rfl) Tryz.func9
    (ChangeSpec.witness6 (enc := enc) (C := Tryz.checked) false ⟨#[], #[.slice none 0 0, .agg #[.int .i64 0, .int .i64 0, .int .u8 0, .int .i64 0, .int .i64 0, .int .i64 0, .int .i64 0, .int .i64 0, .slice none 0 0], .int .i64 0], []⟩ 8 (by kernel_rfl) (by kernel_rfl) (by kernel_rfl) (by kernel_rfl)) ?_
  intro W base args ds gs before hval0 hW hcnd _
  have hval : ∀ (j : Nat) t v, Tryz.f9.params[j]? = some t → args[j]? = some v → Value.okWide Tryz.prog W .any base t v := hval0
  have hW' := hW
  obtain ⟨p, q, hA0, hV, rfl, hfz, hnd⟩ := hW
  have hA : DataW.TrodAll enc Tryz.prog W 0 (fun _ => true) true Tryz.f9.params.toList args.toList ds p := hA0
  rw [Tryz.params9] at hA hval
  obtain ⟨v0, vs0, d0, ds0, p0, q0, hargs0, rfl, rfl, h0, r0⟩ := trodAll_cons hA
  obtain ⟨v1, vs1, d1, ds1, p1, q1, hargs1, rfl, rfl, h1, r1⟩ := trodAll_cons r0
  obtain ⟨v2, vs2, d2, ds2, p2, q2, hargs2, rfl, rfl, h2, r2⟩ := trodAll_cons r1
  obtain ⟨rfl, rfl, rfl⟩ := trodAll_nil r2
  obtain rfl : args = #[v0, v1, v2] := by cases args; simp_all
  obtain ⟨rfl, rfl⟩ := trodVars_none hV
  obtain ⟨sa0, sn0, sc0, rfl⟩ := okWide_slice Tryz.underlying82 (hval 0 82 v0 rfl rfl)
  obtain ⟨fuel0, hf0⟩ := h0
  obtain ⟨x0, rs0, k0⟩ := (op_slice (α := gap_Gap) (dv := gap_Gap.dv) (ok := (fun y => gap_Gap.ok y)) Tryz.underlying82 cellsT85 (by decide) (fun _ => rfl) (fun _ _ _ h => (op_gap_Gap) h)) hf0
  obtain ⟨cs1, rfl, hsz1⟩ := okWide_struct Tryz.underlying50 (hval 1 50 v1 rfl rfl)
  obtain ⟨fuel1, hf1⟩ := h1
  obtain ⟨x1, rs1, k1⟩ := (op_api_Event) hf1
  obtain ⟨n2, rfl⟩ := okWide_int Tryz.underlying3 (hval 2 3 v2 rfl rfl)
  obtain ⟨fuel2, hf2⟩ := h2
  obtain ⟨x2, rs2, k2⟩ := (op_int Tryz.underlying3) hf2
  have hrs : RsT (allF W) Gam.no [.sl 6 (List.map gap_Gap.dv x0), .agg (api_Event.cs x1), .int .i64 x2] [_, _, _] := ⟨_, _, rfl, rs_one rs0, _, _, rfl, rs_cells rs1, _, _, rfl, rs_one rs2, rfl⟩
  refine (law_run (rootcauselaw32_GapHoles_c (gapHoles_law x0 x1 x2 (fun g hg => (k0.2 g hg).2.2.2.2.1))) hrs).mono fun e W' ⟨he, hg⟩ => ?_
  subst he
  exact ⟨_, rfl, law_post (tb := 4) laidOut hW' rfl rfl Tryz.underlying4 (by rw [Tryz.params9]; intro t ht; simp only [List.mem_cons, List.not_mem_nil, or_false] at ht; rcases ht with rfl | rfl | rfl <;> exact ⟨by kernel_rfl, by decide +kernel⟩) rfl hg⟩
theorem gapHoles_holds : Rows.GapHolesSaid :=
  OpenClaim.holds_of_wide 9 Tryz.f9 rfl rfl rfl rfl rfl rfl rfl ⟨rfl, rfl, rfl, rfl, rfl⟩ rfl rfl rfl rfl rfl (by kernel_rfl) Tryz.func9 (by kernel_rfl)
    (of_decide_eq_true (by kernel_rfl)) (by unfold Func.isWrapper; first | (rw [if_pos (by decide +kernel)]; kernel_rfl) | (rw [if_neg (by decide +kernel)]; exact ⟨rfl, rfl⟩))
    (fun os started H enc _ => GapHoles_lifted os started H enc)
end Go.Proofs.YtepkcbalmjnhpaaGreat
