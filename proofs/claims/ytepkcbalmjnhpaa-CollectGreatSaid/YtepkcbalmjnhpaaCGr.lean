/-
  CollectGreatSaid: for every input the law CollectGreat (great numbers leave great gaps) returns true and leaves its arguments as they were. No condition.
-/
import Derived.Test.YtepkcbalmjnhpaaCGr11
set_option maxHeartbeats 2000000
set_option maxRecDepth 100000
set_option linter.unusedVariables false
set_option linter.unusedSimpArgs false
namespace Go.Proofs.Ytepkcbalmjnhpaa
open Go.ChangeShapes Go.WideShapes Go.ChangeAt Go.RowKit
theorem own : ownKnob Try.prog.godebug = none := by kernel_rfl
theorem laidOut : laidOutB Try.prog = true := by kernel_rfl
theorem CollectGreat_lifted (os : Os) (started : os.Started) (H : Type) (enc : TypeId × Value → H) :
    ReturnsInHanded {} Try.checked os 3 .any (Rows.collectGreatSpec.pre6 enc Try.prog Try.f3 Rows.collectGreatRow.domain false) (Rows.collectGreatSpec.post enc Try.prog Try.f3 false true false false) := by
  refine returnsInHanded_of_change (C := Try.checked) own started (by kernel_rfl) Try.func3
    (ChangeSpec.witness6 (enc := enc) (C := Try.checked) false ⟨#[], #[.int .u64 0, .int .u64 0, .int .u64 0], []⟩ 8 (by kernel_rfl) (by kernel_rfl) (by kernel_rfl) (by kernel_rfl)) ?_
  intro W base args ds gs before hval0 hW hcnd _
  have hval : ∀ (j : Nat) t v, Try.f3.params[j]? = some t → args[j]? = some v → Value.okWide Try.prog W .any base t v := hval0
  have hW' := hW
  obtain ⟨p, q, hA0, hV, rfl, hfz, hnd⟩ := hW
  have hA : DataW.TrodAll enc Try.prog W 0 (fun _ => true) true Try.f3.params.toList args.toList ds p := hA0
  rw [Try.params3] at hA hval
  obtain ⟨v0, vs0, d0, ds0, p0, q0, hargs0, rfl, rfl, h0, r0⟩ := trodAll_cons hA
  obtain ⟨v1, vs1, d1, ds1, p1, q1, hargs1, rfl, rfl, h1, r1⟩ := trodAll_cons r0
  obtain ⟨v2, vs2, d2, ds2, p2, q2, hargs2, rfl, rfl, h2, r2⟩ := trodAll_cons r1
  obtain ⟨rfl, rfl, rfl⟩ := trodAll_nil r2
  obtain rfl : args = #[v0, v1, v2] := by cases args; simp_all
  obtain ⟨rfl, rfl⟩ := trodVars_none hV
  obtain ⟨n0, rfl⟩ := okWide_int Try.underlying22 (hval 0 22 v0 rfl rfl)
  obtain ⟨fuel0, hf0⟩ := h0
  obtain ⟨x0, rs0, k0⟩ := (op_int Try.underlying22) hf0
  obtain ⟨n1, rfl⟩ := okWide_int Try.underlying22 (hval 1 22 v1 rfl rfl)
  obtain ⟨fuel1, hf1⟩ := h1
  obtain ⟨x1, rs1, k1⟩ := (op_int Try.underlying22) hf1
  obtain ⟨n2, rfl⟩ := okWide_int Try.underlying22 (hval 2 22 v2 rfl rfl)
  obtain ⟨fuel2, hf2⟩ := h2
  obtain ⟨x2, rs2, k2⟩ := (op_int Try.underlying22) hf2
  have hrs : RsT (allF W) Gam.no [.int .u64 x0, .int .u64 x1, .int .u64 x2] [_, _, _] := ⟨_, _, rfl, rs_one rs0, _, _, rfl, rs_one rs1, _, _, rfl, rs_one rs2, rfl⟩
  refine (law_run (w30_CollectGreat_c (great_law x0 x1 x2 k0 k1 k2)) hrs).mono fun e W' ⟨he, hg⟩ => ?_
  subst he
  exact ⟨_, rfl, law_post (tb := 4) laidOut hW' rfl rfl Try.underlying4 (by rw [Try.params3]; intro t ht; simp only [List.mem_cons, List.not_mem_nil, or_false] at ht; rcases ht with rfl | rfl | rfl <;> exact ⟨by kernel_rfl, by decide +kernel⟩) rfl hg⟩
theorem told0 : (Rows.collectGreatRow.inPlace == Try.checked.prog.inPlace 3) = true := by kernel_rfl
theorem told1 : (Rows.collectGreatRow.unfollowed == Try.checked.prog.unfollowed 3) = true := by kernel_rfl
theorem told2 : (Rows.collectGreatRow.recurses == Try.checked.prog.recurses 3) = true := by kernel_rfl
theorem told3 : (Rows.collectGreatRow.named == Try.checked.prog.varsNamed 3) = true := by kernel_rfl
theorem told4 : laidOutB Try.checked.prog = true := by kernel_rfl
theorem told5 : mapsRowed Try.checked.prog = true := by kernel_rfl
theorem told6 : (Rows.collectGreatRow.plainKeys == Try.checked.prog.plainKeys) = true := by kernel_rfl
theorem told7 : Program.stopsHeard Try.checked.prog = true := by kernel_rfl
theorem told8 : Program.mayEnter Try.checked.prog = true := by kernel_rfl
theorem told9 : (Rows.collectGreatRow.lifted == Try.checked.prog.liftsFinal) = true := by kernel_rfl
theorem told10 : (Program.make Try.checked.prog == some Rows.collectGreatRow.make) = true := by kernel_rfl
theorem told : joinedFacts Try.checked.prog 3 Try.f3 Rows.collectGreatSpec Rows.collectGreatRow = true := by
  unfold joinedFacts
  rw [told0, told1, told2, told3, told4, told5, told6, told7, told8, told9, told10]
  kernel_rfl
theorem collectGreat_holds : Rows.CollectGreatSaid :=
  OpenClaim.holds_of_wide 3 Try.f3 rfl rfl rfl rfl rfl rfl rfl ⟨rfl, rfl, rfl, rfl, rfl⟩ rfl rfl rfl rfl rfl (by kernel_rfl) Try.func3 told
    (of_decide_eq_true (by kernel_rfl)) (by unfold Func.isWrapper; first | (rw [if_pos (by decide +kernel)]; kernel_rfl) | (rw [if_neg (by decide +kernel)]; exact ⟨rfl, rfl⟩))
    (fun os started H enc _ => CollectGreat_lifted os started H enc)
end Go.Proofs.Ytepkcbalmjnhpaa
