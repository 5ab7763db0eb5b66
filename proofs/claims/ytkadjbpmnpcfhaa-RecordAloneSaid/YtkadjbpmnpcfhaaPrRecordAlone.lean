/-
  RecordAloneSaid: for every input the law RecordAlone (a record that was read shares no memory with the bytes) returns true and leaves its arguments as they were. No condition.
-/
import Derived.Test.YtkadjbpmnpcfhaaOpenR
import Derived.Test.YtkadjbpmnpcfhaaOpenE
import Derived.Test.YtkadjbpmnpcfhaaLwAlone
set_option maxHeartbeats 1000000
set_option maxRecDepth 100000
set_option linter.unusedVariables false
namespace Go.Proofs.Ytkadjbpmnpcfhaa
open Go.ChangeShapes Go.WideShapes Go.ChangeAt Go.RowKit
theorem own : ownKnob Try.prog.godebug = none := by kernel_rfl
theorem laidOut : laidOutB Try.prog = true := by kernel_rfl
theorem RecordAlone_lifted (os : Os) (started : os.Started) (H : Type) (enc : TypeId × Value → H) :
    ReturnsInHanded {} Try.checked os 7 .any (Rows.recordAloneSpec.pre6 enc Try.prog Try.f7 Rows.recordAloneRow.domain false) (Rows.recordAloneSpec.post enc Try.prog Try.f7 false true false false) := by
  refine returnsInHanded_of_change (C := Try.checked) own started (by kernel_rfl) Try.func7
    (ChangeSpec.witness6 (enc := enc) (C := Try.checked) false ⟨#[], #[.agg (rrA ⟨0, 0, 0, 0, [], ev0⟩ none 0 none 0), .int .u8 0], []⟩ 8 (by kernel_rfl) (by kernel_rfl) (by kernel_rfl) (by kernel_rfl)) ?_
  intro W base args ds gs before hval0 hW hcnd _
  have hval : ∀ (j : Nat) t v, Try.f7.params[j]? = some t → args[j]? = some v → Value.okWide Try.prog W .any base t v := hval0
  have hW' := hW
  obtain ⟨p, q, hA0, hV, rfl, hfz, hnd⟩ := hW
  have hA : DataW.TrodAll enc Try.prog W 0 (fun _ => true) true Try.f7.params.toList args.toList ds p := hA0
  rw [Try.params7] at hA hval
  obtain ⟨v0, vs0, d0, ds0, p0, q0, hargs, rfl, rfl, h0, r0⟩ := trodAll_cons hA
  obtain ⟨v1, vs1, d1, ds1, p1, q1, hargs1, rfl, rfl, h1, r1⟩ := trodAll_cons r0
  obtain ⟨rfl, rfl, rfl⟩ := trodAll_nil r1
  obtain rfl : args = #[v0, v1] := by cases args; simp_all
  obtain ⟨rfl, rfl⟩ := trodVars_none hV
  obtain ⟨x, C, cc, A, c, rfl, hR, hT⟩ := open_rr (hval 0 29 v0 rfl rfl) h0
  obtain ⟨n, rfl⟩ := okWide_int Try.underlying5 (hval 1 5 v1 rfl rfl)
  obtain ⟨fuel1, hf1⟩ := h1
  obtain ⟨n', en, _, wn⟩ := DataW.trod_int Try.underlying5 hf1
  have en' : n' = n := by simp [Value.cells] at en; exact en.symm
  subst en'
  have hrs : RsT (allF W) Gam.no [.agg (rrD x), .int .u8 n'] [Value.agg (rrA x C cc A c), .int .u8 n'] := ⟨_, _, rfl, rs_rrA hR, _, _, rfl, by simp only [Rs], rfl⟩
  refine (law_run (alone_c x n' hT (wf_u8 wn)) hrs).mono fun e W' ⟨he, hg⟩ => ?_
  subst he
  exact ⟨_, rfl, law_post (tb := 4) laidOut hW' rfl rfl Try.underlying4 (by rw [Try.params7]; intro t ht; simp at ht; rcases ht with rfl | rfl <;> exact ⟨by kernel_rfl, by decide +kernel⟩) rfl hg⟩
theorem recordAlone_holds : Rows.RecordAloneSaid :=
  OpenClaim.holds_of_wide 7 Try.f7 rfl rfl rfl rfl rfl rfl rfl ⟨rfl, rfl, rfl, rfl, rfl⟩ rfl rfl rfl rfl rfl (by kernel_rfl) Try.func7 (by kernel_rfl)
    (of_decide_eq_true (by kernel_rfl)) (by unfold Func.isWrapper; first | (rw [if_pos (by decide +kernel)]; kernel_rfl) | (rw [if_neg (by decide +kernel)]; exact ⟨rfl, rfl⟩))
    (fun os started H enc _ => RecordAlone_lifted os started H enc)
end Go.Proofs.Ytkadjbpmnpcfhaa
