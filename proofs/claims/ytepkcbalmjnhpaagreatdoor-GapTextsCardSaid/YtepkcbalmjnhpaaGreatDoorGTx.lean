/-
  GapTextsCardSaid: for every input the law GapTexts (the text of any gap that is open or has a number) returns true and leaves its arguments as they were. No condition.
-/
import Derived.Test.YtepkcbalmjnhpaaGreatDoorGTx16
import Derived.Test.YtepkcbalmjnhpaaGreatDoorTie
import Derived.Test.YtepkcbalmjnhpaaGreatDoorCards
import Derived.SevenTiedAt
import Derived.LaidLaws
import Derived.Lib.LaidTab
set_option maxHeartbeats 2000000
set_option maxRecDepth 100000
set_option linter.unusedVariables false
set_option linter.unusedSimpArgs false
namespace Go.Proofs.YtepkcbalmjnhpaaGreatDoor
open Go.ChangeShapes Go.WideShapes Go.ChangeAt Go.RowKit
theorem own : ownKnob Tryz.prog.godebug = none := by kernel_rfl
theorem laidOut : laidOutB Tryz.prog = true := by kernel_rfl
def litV : DataW Unit → Value
  | .lit (.int k n) => .int k n
  | _ => .nilIface
def aggV : DataW Unit → Array Value
  | .agg l => (l.map litV).toArray
  | _ => #[]
noncomputable def laidWorld (os : Os) : World :=
  let w0 := World.holding Tryz.prog os ⟨#[], #[], []⟩
  { w0 with heap := ((w0.heap.modify 0 fun
      | .cells _ t frozen => .cells (aggV Rows.laid_internal_strconv_uint64pow10) t frozen
      | o => o).modify 4 fun
      | .cells _ t frozen => .cells (aggV Rows.laid_math_bits_deBruijn32tab) t frozen
      | o => o).modify 5 fun
      | .cells _ t frozen => .cells (aggV Rows.laid_math_bits_deBruijn64tab) t frozen
      | o => o }
theorem laid_met (os : Os) (args : Array Value) : laidMet Tryz.prog Rows.gapTextsRow.laid ((laidWorld os).forCall (fun _ _ => 0) ⟨#[], args, []⟩).memory :=
  laidMet_of_run' 8 (by kernel_rfl) (by kernel_rfl)
theorem tab_of {W : World} (h : laidMet Tryz.prog Rows.gapTextsRow.laid W) : Lib.TabIs Tryz.prog W "internal/strconv.uint64pow10" .u64 Lib.pow10Tab := by
  have e : Rows.gapTextsRow.laid = [("math/bits.deBruijn32tab", Rows.laid_math_bits_deBruijn32tab), ("math/bits.deBruijn64tab", Rows.laid_math_bits_deBruijn64tab), ("internal/strconv.uint64pow10", Lib.tabData .u64 Lib.pow10Tab)] := by kernel_rfl
  rw [e] at h
  obtain ⟨ps, ⟨g1, t1, cs1, fu1, p1, q1, _, _, _, _, ⟨g2, t2, cs2, fu2, p2, q2, _, _, _, _, ⟨g, t, cs, fuel, p, q, hg, ht, hvar, hd, _, _⟩, _⟩, _⟩, _⟩ := h
  have hg' : Tryz.prog.globalNamed "internal/strconv.uint64pow10" = some 0 := by kernel_rfl
  obtain rfl := Option.some.inj (hg'.symm.trans hg)
  have ht' : (Tryz.prog.globals[0]?).map (·.type) = some 231 := by kernel_rfl
  obtain rfl := Option.some.inj (ht'.symm.trans ht)
  unfold Lib.TabIs
  rw [hvar, ← Lib.cells_of_tab Tryz.underlying231 Tryz.underlying41 (by kernel_rfl) (by kernel_rfl) hd]
theorem GapTexts_lifted (os : Os) (started : os.Started) (H : Type) (enc : TypeId × Value → H) :
    ReturnsInHanded {} Tryz.checked os 5 .any (fun w args => (Rows.gapTextsSpec.pre enc Tryz.prog Tryz.f5 Rows.gapTextsRow.domain false w args ∧ laidMet Tryz.prog Rows.gapTextsRow.laid w) ∧ sizedMet enc Tryz.prog Tryz.f5 (OpenSpec.ofChange Rows.gapTextsSpec) false w args)
      (Rows.gapTextsSpec.post enc Tryz.prog Tryz.f5 false true false false) := by
  refine returnsInHanded_of_change_and (C := Tryz.checked) (X := fun w _ => laidMet Tryz.prog Rows.gapTextsRow.laid w) (fun _ _ _ hh h => h.of_heap hh) own started (by kernel_rfl) Tryz.func5
    (ChangeSpec.witness_at (enc := enc) (C := Tryz.checked) (os := os) (X := fun w _ => laidMet Tryz.prog Rows.gapTextsRow.laid w) false (laidWorld os) #[.agg #[.int .i64 0, .int .u64 0, .int .u64 0, .bool false, .int .i64 0, .int .i64 0]] 8 rfl (by kernel_rfl) (by kernel_rfl) (by kernel_rfl) (by kernel_rfl) (by kernel_rfl) (laid_met os _)) ?_
  intro W base args ds gs before hval0 hW hcnd0 _ hL _
  have hval : ∀ (j : Nat) t v, Tryz.f5.params[j]? = some t → args[j]? = some v → Value.okWide Tryz.prog W .any base t v := hval0
  have hW' := hW
  obtain ⟨p, q, hA0, hV, rfl, hfz, hnd⟩ := hW
  have hA : DataW.TrodAll enc Tryz.prog W 0 (fun _ => true) true Tryz.f5.params.toList args.toList ds p := hA0
  rw [Tryz.params5] at hA hval
  obtain ⟨v0, vs0, d0, ds0, p0, q0, hargs0, rfl, rfl, h0, r0⟩ := trodAll_cons hA
  obtain ⟨rfl, rfl, rfl⟩ := trodAll_nil r0
  obtain rfl : args = #[v0] := by cases args; simp_all
  obtain ⟨rfl, rfl⟩ := trodVars_none hV
  obtain ⟨cs0, rfl, hsz0⟩ := okWide_struct Tryz.underlying57 (hval 0 57 v0 rfl rfl)
  obtain ⟨fuel0, hf0⟩ := h0
  obtain ⟨x, rs, k1, k2, k3, _, k5, k6⟩ := op_gap_Gap hf0
  obtain rfl : cs0 = #[.int .i64 x.gComponent, .int .u64 x.gFirst, .int .u64 x.gCount, .bool x.gOpen, .int .i64 x.gFrom, .int .i64 x.gTo] := by
    have hl := rs.len
    simp only [gap_Gap.cs, RsL, Rs] at rs
    obtain ⟨_, _, e1, _, rfl, _, _, e2, _, rfl, _, _, e3, _, rfl, _, _, e4, _, rfl, _, _, e5, _, rfl, _, _, e6, _, rfl, e7⟩ := rs
    apply Array.ext'
    show (Value.agg cs0).cells.toList = _
    rw [e1, e2, e3, e4, e5, e6, e7]
  have b1 : -9223372036854775808 ≤ x.gComponent ∧ x.gComponent ≤ 9223372036854775807 := k1
  have b2 : 0 ≤ x.gFirst ∧ x.gFirst ≤ 18446744073709551615 := k2
  have b3 : 0 ≤ x.gCount ∧ x.gCount ≤ 18446744073709551615 := k3
  have b5 : -9223372036854775808 ≤ x.gFrom ∧ x.gFrom ≤ 9223372036854775807 := k5
  have b6 : -9223372036854775808 ≤ x.gTo ∧ x.gTo ≤ 9223372036854775807 := k6
  refine (Tryz.gapTexts_any x.gComponent x.gFirst x.gCount x.gOpen x.gFrom x.gTo b1 ⟨b2.1, by omega⟩ ⟨b3.1, by omega⟩ b5 b6 W (tab_of hL)).mono fun e W' ⟨he, hb⟩ => ?_
  subst he
  have hg : Ext W W' := hb
  exact ⟨_, rfl, law_post (tb := 4) laidOut hW' rfl rfl Tryz.underlying4 (by rw [Tryz.params5]; intro t ht; simp only [List.mem_cons, List.not_mem_nil, or_false] at ht; rcases ht with rfl <;> exact ⟨by kernel_rfl, by decide +kernel⟩) rfl hg⟩
theorem told0 : (Rows.gapTextsRow.inPlace == Tryz.checked.prog.inPlace 5) = true := by kernel_rfl
theorem told1 : (Rows.gapTextsRow.unfollowed == Tryz.checked.prog.unfollowed 5) = true := by kernel_rfl
theorem told2 : (Rows.gapTextsRow.recurses == Tryz.checked.prog.recurses 5) = true := by kernel_rfl
theorem told3 : (Rows.gapTextsRow.named == Tryz.checked.prog.varsNamed 5) = true := by kernel_rfl
theorem told4 : laidOutB Tryz.checked.prog = true := by kernel_rfl
theorem told5 : mapsRowed Tryz.checked.prog = true := by kernel_rfl
theorem told6 : (Rows.gapTextsRow.plainKeys == Tryz.checked.prog.plainKeys) = true := by kernel_rfl
theorem told7 : Program.stopsHeard Tryz.checked.prog = true := by kernel_rfl
theorem told8 : Program.mayEnter Tryz.checked.prog = true := by kernel_rfl
theorem told9 : (Rows.gapTextsRow.lifted == Tryz.checked.prog.liftsFinal) = true := by kernel_rfl
theorem told10 : (Program.make Tryz.checked.prog == some Rows.gapTextsRow.make) = true := by kernel_rfl
theorem told : joinedFacts Tryz.checked.prog 5 Tryz.f5 Rows.gapTextsSpec Rows.gapTextsRow = true := by
  unfold joinedFacts
  rw [told0, told1, told2, told3, told4, told5, told6, told7, told8, told9, told10]
  kernel_rfl
theorem gapTexts_holds : Rows.GapTextsSaid :=
  OpenClaim.holds_of_wide 5 Tryz.f5 rfl rfl rfl rfl rfl rfl rfl ⟨rfl, rfl, rfl, rfl, rfl⟩ rfl rfl rfl rfl rfl (by kernel_rfl) Tryz.func5 told
    (of_decide_eq_true (by kernel_rfl)) (by unfold Func.isWrapper; first | (rw [if_pos (by decide +kernel)]; kernel_rfl) | (rw [if_neg (by decide +kernel)]; exact ⟨rfl, rfl⟩))
    (fun os started H enc _ => GapTexts_lifted os started H enc)
theorem gapTextsCard_holds : Rows.GapTextsCardSaid :=
  Claim7.holds_tied_plain_at .later [] [.data, .data, .data] true (true, "0132e2d0b97d3721cf0b40f2a77afd74ee0c34ffd85f8634b6be05885a650aab") false
    gapTexts_holds (fun _ h => by cases h) (by kernel_rfl) (fun _ h => by cases h) gapTexts_row_tie rfl ⟨rfl, rfl⟩ (by kernel_rfl) rfl
    (fun f fn hf hfn => by
      obtain rfl : f = 5 := Option.some.inj ((show Tryz.prog.funcNamed "rootcause/rootcauselaw32.GapTexts" = some 5 by kernel_rfl).symm.trans hf) |>.symm
      obtain rfl : fn = Tryz.f5 := (Option.some.inj (Tryz.func5.symm.trans hfn)).symm
      exact ⟨by kernel_rfl, fun j t ht => by
        rw [Tryz.params5] at ht
        have hm : t ∈ [57] := by simpa using Array.mem_of_getElem? ht
        have hall : ([57].all fun u => !Tryz.prog.wantsStandIn u) = true := by kernel_rfl
        exact (show Tryz.prog.wantsStandIn t = false by simpa using List.all_eq_true.1 hall t hm)⟩)
    (by kernel_rfl)
end Go.Proofs.YtepkcbalmjnhpaaGreatDoor
