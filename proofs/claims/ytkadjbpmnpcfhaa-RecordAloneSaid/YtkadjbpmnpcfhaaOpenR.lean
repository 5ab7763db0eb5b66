/-
  A record of the reference as an argument: its cells, its slices, its ranges.
-/
import Derived.Test.YtkadjbpmnpcfhaaOpen
set_option maxHeartbeats 1000000
set_option maxRecDepth 100000
set_option linter.unusedVariables false
set_option linter.unusedSimpArgs false
namespace Go.Proofs.Ytkadjbpmnpcfhaa
open Go.ChangeShapes Go.WideShapes Go.ChangeAt Go.RowKit
theorem cells_u8 : Try.prog.cellsOf 5 = 1 := by kernel_rfl
theorem cells_int : Try.prog.cellsOf 3 = 1 := by kernel_rfl
theorem cells_i64 : Try.prog.cellsOf 2 = 1 := by kernel_rfl
theorem cells_u64 : Try.prog.cellsOf 22 = 1 := by kernel_rfl
theorem cells_kind : Try.prog.cellsOf 24 = 1 := by kernel_rfl
theorem cells_su64 : Try.prog.cellsOf 23 = 1 := by kernel_rfl
theorem cells_si64 : Try.prog.cellsOf 25 = 1 := by kernel_rfl
theorem cells_ev : Try.prog.cellsOf 27 = 9 := by kernel_rfl
theorem cells_rr : Try.prog.cellsOf 29 = 14 := by kernel_rfl
theorem wf_i64 {n : Int} (h : (Lit.int .i64 n).wf = true) : I64 n := by
  simpa [Lit.wf, IntKind.min, IntKind.max, IntKind.signed, IntKind.bits, I64] using h
theorem wf_u64 {n : Int} (h : (Lit.int .u64 n).wf = true) : U64 n := by
  have : 0 ≤ n ∧ n ≤ 18446744073709551615 := by simpa [Lit.wf, IntKind.min, IntKind.max, IntKind.signed, IntKind.bits] using h
  exact ⟨this.1, by omega⟩
theorem wf_u8 {n : Int} (h : (Lit.int .u8 n).wf = true) : 0 ≤ n ∧ n ≤ 255 := by
  simpa [Lit.wf, IntKind.min, IntKind.max, IntKind.signed, IntKind.bits] using h
section
variable {H : Type} {enc : TypeId × Value → H} {w : World} {fuel : Nat}
/-- a slice of integers, read: where it lies -/
theorem open_ints_at {P : Program} {t e : TypeId} {k : IntKind} {v : Value} {y : DataW H × List MemPlace} (ht : P.underlying t = some (.slice e)) (he : P.underlying e = some (.int k)) (hc : P.cellsOf e = 1)
    (h : DataW.trod enc P w 0 (fun _ => true) true fuel t [v] = some y) :
    ∃ (A : Option Addr) (c : Nat) (xs : List Int), v = .slice A xs.length c ∧ At w A (xs.map (Value.int k)) ∧ xs.length ≤ c ∧ c ≤ 9223372036854775807 ∧ (A = none → c = 0) ∧ ∀ n ∈ xs, (Lit.int k n).wf = true := by
  rcases ChangeShapes.open_ints ht he hc h with ⟨hcs, _⟩ | ⟨a, len, cap, zs, hcs, _, hl, hm, hz, _, hcell, hwz⟩
  · injection hcs with hv _
    exact ⟨none, 0, [], hv, At.nil _ _, by simp, by omega, fun _ => rfl, by simp⟩
  · injection hcs with hv _
    rw [if_pos rfl] at hz
    have hlen : (zs.take len).length = len := by rw [List.length_take]; omega
    refine ⟨some a, cap, zs.take len, by rw [hlen]; exact hv, At.mk fun hn => ?_, by omega, by unfold maxLen at hm; omega, (fun h => by cases h), fun n hn => hwz n (List.mem_of_mem_take hn)⟩
    have h0 : 0 < zs.length := by
      rcases Nat.eq_zero_or_pos zs.length with h0 | h0
      · exfalso; apply hn; rw [List.eq_nil_of_length_eq_zero h0]; simp
      · exact h0
    have hsp : a.spot = none := by
      have := hcell 0 h0
      have e0 : a.add 0 = a := rfl
      rw [e0] at this
      cases hs : a.spot with
      | none => rfl
      | some s =>
        unfold World.cell? at this
        split at this
        · simp [hs] at this
        · cases this
    obtain ⟨b, o, sp⟩ := a
    simp only at hsp
    subst hsp
    refine ⟨b, o, rfl, fun j u hu => ?_⟩
    rw [List.getElem?_map] at hu
    obtain ⟨x, hx, rfl⟩ := Option.map_eq_some_iff.1 hu
    rw [List.getElem?_take] at hx
    split at hx
    · have hj : j < zs.length := (List.getElem?_eq_some_iff.1 hx).1
      have := hcell j hj
      rw [Addr.add_mid] at this
      rw [this, List.getD_eq_getElem?_getD, hx]; rfl
    · cases hx
/-- an event's nine cells, read -/
theorem open_ev {cs : List Value} {y : DataW H × List MemPlace} (h : DataW.trod enc Try.prog w 0 (fun _ => true) true fuel 27 cs = some y) :
    ∃ (e : Ev) (A : Option Addr) (c : Nat), cs = (evA e A c).toList ∧ EvT e ∧ At w A (e.args.map (Value.int .i64)) ∧ e.args.length ≤ c ∧ c ≤ 9223372036854775807 ∧ (A = none → c = 0) := by
  obtain ⟨xs, n, _, _, hlen, hxl, hg⟩ := DataW.trod_struct Try.underlying27 h
  rw [cells_ev] at hlen
  match cs, hlen with
  | [c0, c1, c2, c3, c4, c5, c6, c7, c8], _ =>
    match xs, hxl with
    | [y0, y1, y2, y3, y4, y5, y6, y7, y8], _ =>
      have g0 := hg 0 _ rfl
      have g1 := hg 1 _ rfl
      have g2 := hg 2 _ rfl
      have g3 := hg 3 _ rfl
      have g4 := hg 4 _ rfl
      have g5 := hg 5 _ rfl
      have g6 := hg 6 _ rfl
      have g7 := hg 7 _ rfl
      have g8 := hg 8 _ rfl
      simp [cells_int, cells_i64, cells_kind, cells_si64] at g0 g1 g2 g3 g4 g5 g6 g7 g8
      obtain ⟨tick, e0, _, w0⟩ := DataW.trod_int Try.underlying3 g0
      obtain ⟨comp, e1, _, w1⟩ := DataW.trod_int Try.underlying3 g1
      obtain ⟨kind, e2, _, w2⟩ := DataW.trod_int Try.underlying24 g2
      obtain ⟨peer, e3, _, w3⟩ := DataW.trod_int Try.underlying3 g3
      obtain ⟨nn, e4, _, w4⟩ := DataW.trod_int Try.underlying3 g4
      obtain ⟨copy, e5, _, w5⟩ := DataW.trod_int Try.underlying3 g5
      obtain ⟨handler, e6, _, w6⟩ := DataW.trod_int Try.underlying3 g6
      obtain ⟨d, e7, _, w7⟩ := DataW.trod_int Try.underlying2 g7
      obtain ⟨A, c, args, rfl, hat, hl, hm, hn, hwf⟩ := open_ints_at Try.underlying25 Try.underlying2 cells_i64 g8
      injection e0 with e0; injection e1 with e1; injection e2 with e2; injection e3 with e3; injection e4 with e4; injection e5 with e5; injection e6 with e6; injection e7 with e7
      subst e0 e1 e2 e3 e4 e5 e6 e7
      exact ⟨⟨tick, comp, kind, peer, nn, copy, handler, d, args⟩, A, c, rfl, ⟨wf_i64 w0, wf_i64 w1, wf_u8 w2, wf_i64 w3, wf_i64 w4, wf_i64 w5, wf_i64 w6, wf_i64 w7, fun x hx => wf_i64 (hwf x hx)⟩, hat, hl, hm, hn⟩
/-- a record of the reference -/
theorem open_rr {base : Nat} {v : Value} {d : DataW H} {p : List MemPlace} (hv : Value.okWide Try.prog w .any base 29 v) (h : DataW.Trod enc Try.prog w 0 (fun _ => true) true 29 v d p) :
    ∃ (x : RR) (C : Option Addr) (cc : Nat) (A : Option Addr) (c : Nat), v = .agg (rrA x C cc A c) ∧ RAt0 w x C cc A c ∧ RRT x := by
  obtain ⟨⟨cs⟩, rfl, hsz⟩ := okWide_struct Try.underlying29 hv
  rw [cells_rr] at hsz
  obtain ⟨fuel, hf⟩ := h
  obtain ⟨xs, n, _, _, hlen, hxl, hg⟩ := DataW.trod_struct Try.underlying29 hf
  match cs, hsz with
  | [c0, c1, c2, c3, c4, c5, c6, c7, c8, c9, c10, c11, c12, c13], _ =>
    match xs, hxl with
    | [y0, y1, y2, y3, y4, y5], _ =>
      have g0 := hg 0 _ rfl
      have g1 := hg 1 _ rfl
      have g2 := hg 2 _ rfl
      have g3 := hg 3 _ rfl
      have g4 := hg 4 _ rfl
      have g5 := hg 5 _ rfl
      simp [Value.cells, cells_int, cells_u8, cells_u64, cells_su64, cells_ev] at g0 g1 g2 g3 g4 g5
      obtain ⟨what, e0, _, w0⟩ := DataW.trod_int Try.underlying5 g0
      obtain ⟨comp, e1, _, w1⟩ := DataW.trod_int Try.underlying3 g1
      obtain ⟨seq, e2, _, w2⟩ := DataW.trod_int Try.underlying22 g2
      obtain ⟨count, e3, _, w3⟩ := DataW.trod_int Try.underlying22 g3
      obtain ⟨C, cc, ck, rfl, hat, hl, hm, hn, hwf⟩ := open_ints_at Try.underlying23 Try.underlying22 cells_u64 g4
      obtain ⟨ev, A, c, hev, hT, hatA, hlA, hmA, hnA⟩ := open_ev g5
      injection e0 with e0; injection e1 with e1; injection e2 with e2; injection e3 with e3
      subst e0 e1 e2 e3
      refine ⟨⟨what, comp, seq, count, ck, ev⟩, C, cc, A, c, ?_, ⟨hat, hatA, ⟨hl, hm⟩, ⟨hlA, hmA⟩, hn, hnA⟩, ⟨wf_u8 w0, wf_i64 w1, wf_u64 w2, wf_u64 w3, fun x hx => wf_u64 (hwf x hx), hT⟩⟩
      have : rrA ⟨what, comp, seq, count, ck, ev⟩ C cc A c = (.int .u8 what :: .int .i64 comp :: .int .u64 seq :: .int .u64 count :: .slice C ck.length cc :: (evA ev A c).toList).toArray := rfl
      rw [this, ← hev]
end
end Go.Proofs.Ytkadjbpmnpcfhaa
