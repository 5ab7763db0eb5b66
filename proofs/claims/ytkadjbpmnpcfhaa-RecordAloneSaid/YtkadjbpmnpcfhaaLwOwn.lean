/-
  Contracts whose result is a slice of the caller's own: the reference 24's Bytes.
-/
import Derived.Test.YtkadjbpmnpcfhaaLwReads
set_option maxRecDepth 100000
set_option maxHeartbeats 1000000
set_option linter.unusedVariables false
set_option linter.unusedSimpArgs false
namespace Go.Proofs.Ytkadjbpmnpcfhaa
open Go.RowKit
theorem ACall.ofInts {P : Program} {f : FuncId} {args : List DV} {E : TypeId} {k : IntKind} {xs : List Int} (hi : idsL args = []) (h : ∀ F w vs, FSat F w → RsT F Gam.no args vs → Calls P f vs.toArray w (RetInts E k w.heap.size xs w)) :
    ACall P f ⟨args, [], .row 0, [(0, some (.row E 1 (xs.map (.int k))))], [0]⟩ := by
  intro C F γ heap used w vs g _ hnew _ H hv
  have hv' : RsT F Gam.no args vs := (RsT_ren g args vs (by rw [hi]; intro i hi; cases hi)).1 hv
  refine (h F w vs H.fs hv').mono ?_
  rintro e w' ⟨A, c, rfl, ho, b⟩
  have W := H.quiet (w' := w') ⟨b.os, b.tape, b.output, b.size, fun k hk _ => b.block k hk⟩
  have hn : g 0 ∉ used := hnew 0 (by simp)
  have ho' : w'.ownsRow 0 E 1 (.slice A xs.length c) (xs.map (DV.int k)).length (xs.map (Value.int k)) := by
    rw [List.length_map]
    refine ⟨ho.1, ?_⟩
    rcases ho.2 with h | ⟨b, cap, cur, h1, h2, h3⟩
    · exact .inl h
    · exact .inr ⟨b, cap, cur, h1, Nat.zero_le _, h3⟩
  refine ⟨_, F, γ.up (g 0) (.slice A xs.length c), rfl, FLe.refl _, Gam.up_le _ (H.fresh hn), ?_, ?_⟩
  · refine W.add hn ⟨xs.map (Value.int k), ho', rse_ints k xs⟩ (fun b' hb' => ?_)
    have hge : w.heap.size ≤ b' := by
      rcases ho.2 with ⟨h, _⟩ | ⟨b1, cap, cur, h1, h2, h3⟩
      · injection h with h _ _; rw [h] at hb'; cases hb'
      · injection h1 with h1 _ _; rw [h1] at hb'; injection hb' with hb'; subst hb'; exact h2
    refine ⟨?_, .inr (Nat.le_trans H.size hge), fun id' e' g' hh hg' hb'' => ?_⟩
    · cases hF : F b' with
      | none => rfl
      | some cs => have := H.flt hF; omega
    · obtain ⟨g1, q1, q2⟩ := H.ent id' e' hh
      rw [hg'] at q1; injection q1 with q1; subst q1
      have := q2.lt _ hb''; omega
  · simp only [DV.ren, Rs]; exact Gam.up_same _ _ _
theorem refBytes_o (x : RR) (h1 : x.clock.length ≤ 16) (h2 : x.ev.args.length ≤ 6) (hT : RRT x) : ACall Try.prog 25 ⟨[.agg (rrD x)], [], .row 0, [(0, some (.row 5 1 ((recBytes (toRe x)).map (.int .u8))))], [0]⟩ := ACall.ofInts rfl fun F w vs hF hv => by
  obtain ⟨v, rfl, hw⟩ := one_arg hv
  obtain ⟨C, cc, A, c, rfl, hR⟩ := rr_of hF hw
  exact refBytes_any x C cc A c w (hR.at h1 h2) hT
end Go.Proofs.Ytkadjbpmnpcfhaa
