/-
  RecordReadsSaid: for every input the law RecordReads (a valid record is read back from its bytes; with more bytes, or fewer, there is none) returns true and leaves its arguments as they were. No condition.
-/
import Derived.Test.YtkadjbpmnpcfhaaOpenR
import Derived.Test.YtkadjbpmnpcfhaaOpenE
import Derived.Test.YtkadjbpmnpcfhaaLwReads
import Derived.SizedLaws
set_option maxHeartbeats 1000000
set_option maxRecDepth 100000
set_option linter.unusedVariables false
namespace Go.Proofs.Ytkadjbpmnpcfhaa
open Go.ChangeShapes Go.WideShapes Go.ChangeAt Go.RowKit
theorem bytes_u8 : Try.prog.bytesOf 5 = 1 := by kernel_rfl
theorem open_ints_len {H : Type} {enc : TypeId × Value → H} {w : World} {fuel : Nat} {P : Program} {t e : TypeId} {k : IntKind} {v : Value} {y : DataW H × List MemPlace} (ht : P.underlying t = some (.slice e)) (he : P.underlying e = some (.int k)) (hc : P.cellsOf e = 1)
    (h : DataW.trod enc P w 0 (fun _ => true) true fuel t [v] = some y) (n : Nat) (A : Option Addr) (c : Nat) (hv : v = .slice A n c) : n = 0 ∨ ∃ es sp, y.1 = .slice es sp ∧ n ≤ es.length := by
  rcases ChangeShapes.open_ints ht he hc h with ⟨hcs, _⟩ | ⟨a, len, cap, zs, hcs, _, hl, hm, hz, hy, hcell, hwz⟩
  · injection hcs with hcs _; rw [hcs] at hv; injection hv with _ hv _; exact .inl hv.symm
  · injection hcs with hcs _; rw [hcs] at hv; injection hv with _ hv _
    refine .inr ⟨_, _, by rw [hy], ?_⟩
    rw [if_pos rfl] at hz
    simp [ChangeShapes.lits]; omega
theorem own : ownKnob Try.prog.godebug = none := by kernel_rfl
theorem laidOut : laidOutB Try.prog = true := by kernel_rfl
theorem RecordReads_lifted (os : Os) (started : os.Started) (H : Type) (enc : TypeId × Value → H) :
    ReturnsInHanded {} Try.checked os 17 .any (Rows.recordReadsSpec.pre6 enc Try.prog Try.f17 Rows.recordReadsRow.domain false) (Rows.recordReadsSpec.post enc Try.prog Try.f17 false true false false) := by
  refine returnsInHanded_of_change_sized (C := Try.checked) own started (by kernel_rfl) Try.func17
    (ChangeSpec.witness6 (enc := enc) (C := Try.checked) false ⟨#[], #[.agg (rrA ⟨0, 0, 0, 0, [], ev0⟩ none 0 none 0), .slice none 0 0, .int .u8 0], []⟩ 8 (by kernel_rfl) (by kernel_rfl) (by kernel_rfl) (by kernel_rfl)) ?_
  intro W base args ds gs before hval0 hW hcnd hsz _
  have hval : ∀ (j : Nat) t v, Try.f17.params[j]? = some t → args[j]? = some v → Value.okWide Try.prog W .any base t v := hval0
  have hW' := hW
  obtain ⟨p, q, hA0, hV, rfl, hfz, hnd⟩ := hW
  have hA : DataW.TrodAll enc Try.prog W 0 (fun _ => true) true Try.f17.params.toList args.toList ds p := hA0
  rw [Try.params17] at hA hval
  obtain ⟨v0, vs0, d0, ds0, p0, q0, hargs, rfl, rfl, h0, r0⟩ := trodAll_cons hA
  obtain ⟨v1, vs1, d1, ds1, p1, q1, hargs1, rfl, rfl, h1, r1⟩ := trodAll_cons r0
  obtain ⟨v2, vs2, d2, ds2, p2, q2, hargs2, rfl, rfl, h2, r2⟩ := trodAll_cons r1
  obtain ⟨rfl, rfl, rfl⟩ := trodAll_nil r2
  obtain rfl : args = #[v0, v1, v2] := by cases args; simp_all
  obtain ⟨rfl, rfl⟩ := trodVars_none hV
  obtain ⟨x, C, cc, A, c, rfl, hR, hT⟩ := open_rr (hval 0 29 v0 rfl rfl) h0
  obtain ⟨sa, sn, sc, hsl⟩ := okWide_slice Try.underlying44 (hval 1 44 v1 rfl rfl)
  obtain ⟨fuel, hf⟩ := h1
  have hcl : v1.cells = #[v1] := by rw [hsl]; rfl
  rw [hcl] at hf
  have hlen := open_ints_len Try.underlying44 Try.underlying5 cells_u8 hf
  obtain ⟨B, d, xs, rfl, hat, hl, hm, hn, hwf⟩ := open_ints_at Try.underlying44 Try.underlying5 cells_u8 hf
  have hml : xs.length ≤ 140737488351232 := by
    rcases hlen xs.length B d rfl with h | ⟨es, sp, he, hle⟩
    · omega
    · have he' : d1 = .slice es sp := he
      subst he'
      have := sized_slice (j := 1) hsz (by rw [Try.params17]; rfl) rfl Try.underlying44
      have hb1 : Try.checked.prog.bytesOf 5 = 1 := bytes_u8
      rw [hb1] at this
      have e : reachBytes = 140737488351232 := rfl
      omega
  obtain ⟨n, rfl⟩ := okWide_int Try.underlying5 (hval 2 5 v2 rfl rfl)
  obtain ⟨fuel2, hf2⟩ := h2
  obtain ⟨n', en, _, wn⟩ := DataW.trod_int Try.underlying5 hf2
  have en' : n' = n := by simp [Value.cells] at en; exact en.symm
  subst en'
  have hrs : RsT (allF W) Gam.no [.agg (rrD x), u8s xs, .int .u8 n'] [Value.agg (rrA x C cc A c), .slice B xs.length d, .int .u8 n'] := ⟨_, _, rfl, rs_rrA hR, _, _, rfl, rs_at hat hl hm hn, _, _, rfl, by simp only [Rs], rfl⟩
  refine (law_run (reads_c x xs n' hT (fun b hb => wf_u8 (hwf b hb)) hml (wf_u8 wn)) hrs).mono fun e W' ⟨he, hg⟩ => ?_
  subst he
  exact ⟨_, rfl, law_post (tb := 4) laidOut hW' rfl rfl Try.underlying4 (by rw [Try.params17]; intro t ht; simp at ht; rcases ht with rfl | rfl | rfl <;> exact ⟨by kernel_rfl, by decide +kernel⟩) rfl hg⟩
theorem recordReads_holds : Rows.RecordReadsSaid :=
  OpenClaim.holds_of_wide 17 Try.f17 rfl rfl rfl rfl rfl rfl rfl ⟨rfl, rfl, rfl, rfl, rfl⟩ rfl rfl rfl rfl rfl (by kernel_rfl) Try.func17 (by kernel_rfl)
    (of_decide_eq_true (by kernel_rfl)) (by unfold Func.isWrapper; first | (rw [if_pos (by decide +kernel)]; kernel_rfl) | (rw [if_neg (by decide +kernel)]; exact ⟨rfl, rfl⟩))
    (fun os started H enc _ => RecordReads_lifted os started H enc)
end Go.Proofs.Ytkadjbpmnpcfhaa
