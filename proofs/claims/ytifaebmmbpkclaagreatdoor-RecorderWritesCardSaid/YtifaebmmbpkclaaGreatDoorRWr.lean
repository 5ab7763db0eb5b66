/-
  RecorderWritesCardSaid: for every input the law RecorderWrites (the file of any component, for any configuration, consists of the frames of the specified records, or the first error is returned) returns true and leaves its arguments as they were. No condition.
-/
import Derived.Test.YtifaebmmbpkclaaGreatDoorRWr15
import Derived.Test.YtifaebmmbpkclaaGreatDoorTie
import Derived.Test.YtifaebmmbpkclaaGreatDoorCards
import Derived.SevenTiedAt
import Derived.LaidLaws
set_option maxHeartbeats 2000000
set_option maxRecDepth 100000
set_option linter.unusedVariables false
set_option linter.unusedSimpArgs false
namespace Go.Proofs.YtifaebmmbpkclaaGreatDoor
open Go.ChangeShapes Go.WideShapes Go.ChangeAt Go.RowKit
theorem cellsT49 : Tryz.prog.cellsOf 49 = 9 := by kernel_rfl
theorem cellsT2 : Tryz.prog.cellsOf 2 = 1 := by kernel_rfl
theorem cellsT3 : Tryz.prog.cellsOf 3 = 1 := by kernel_rfl
theorem cellsT46 : Tryz.prog.cellsOf 46 = 1 := by kernel_rfl
theorem cellsT47 : Tryz.prog.cellsOf 47 = 1 := by kernel_rfl
def AEv.ok (x : AEv) : Prop := InR .i64 x.gTick ∧ InR .i64 x.gComponent ∧ InR .u8 x.gKind ∧ InR .i64 x.gPeer ∧ InR .i64 x.gN ∧ InR .i64 x.gCopy ∧ InR .i64 x.gHandler ∧ InR .i64 x.gD ∧ (x.gArgs.length ≤ 9223372036854775807 ∧ ∀ y ∈ x.gArgs, InR .i64 y)
theorem op_api_Event {H : Type} {enc : TypeId × Value → H} {w : World} {fuel : Nat} {cs : List Value} {y : DataW H × List MemPlace} (h : DataW.trod enc Tryz.prog w 0 (fun _ => true) true fuel 49 cs = some y) : ∃ x : AEv, RsL (allF w) Gam.no (AEv.cs x) cs ∧ AEv.ok x := by
  obtain ⟨xs, n, _, _, hlen, hxl, hg⟩ := DataW.trod_struct Tryz.underlying49 h
  rw [cellsT49] at hlen
  obtain ⟨y0, hy0⟩ : ∃ y, xs[0]? = some y := ⟨_, List.getElem?_eq_getElem (by rw [hxl]; decide)⟩
  have g0 : DataW.trod enc Tryz.prog w 0 (fun _ => true) true n 3 ((cs.drop 0).take (Tryz.prog.cellsOf 3)) = xs[0]? := hg 0 _ rfl
  rw [cellsT3, hy0] at g0
  obtain ⟨x0, r0, k0⟩ := (op_int Tryz.underlying3) g0
  obtain ⟨y1, hy1⟩ : ∃ y, xs[1]? = some y := ⟨_, List.getElem?_eq_getElem (by rw [hxl]; decide)⟩
  have g1 : DataW.trod enc Tryz.prog w 0 (fun _ => true) true n 3 ((cs.drop 1).take (Tryz.prog.cellsOf 3)) = xs[1]? := hg 1 _ rfl
  rw [cellsT3, hy1] at g1
  obtain ⟨x1, r1, k1⟩ := (op_int Tryz.underlying3) g1
  obtain ⟨y2, hy2⟩ : ∃ y, xs[2]? = some y := ⟨_, List.getElem?_eq_getElem (by rw [hxl]; decide)⟩
  have g2 : DataW.trod enc Tryz.prog w 0 (fun _ => true) true n 46 ((cs.drop 2).take (Tryz.prog.cellsOf 46)) = xs[2]? := hg 2 _ rfl
  rw [cellsT46, hy2] at g2
  obtain ⟨x2, r2, k2⟩ := (op_int Tryz.underlying46) g2
  obtain ⟨y3, hy3⟩ : ∃ y, xs[3]? = some y := ⟨_, List.getElem?_eq_getElem (by rw [hxl]; decide)⟩
  have g3 : DataW.trod enc Tryz.prog w 0 (fun _ => true) true n 3 ((cs.drop 3).take (Tryz.prog.cellsOf 3)) = xs[3]? := hg 3 _ rfl
  rw [cellsT3, hy3] at g3
  obtain ⟨x3, r3, k3⟩ := (op_int Tryz.underlying3) g3
  obtain ⟨y4, hy4⟩ : ∃ y, xs[4]? = some y := ⟨_, List.getElem?_eq_getElem (by rw [hxl]; decide)⟩
  have g4 : DataW.trod enc Tryz.prog w 0 (fun _ => true) true n 3 ((cs.drop 4).take (Tryz.prog.cellsOf 3)) = xs[4]? := hg 4 _ rfl
  rw [cellsT3, hy4] at g4
  obtain ⟨x4, r4, k4⟩ := (op_int Tryz.underlying3) g4
  obtain ⟨y5, hy5⟩ : ∃ y, xs[5]? = some y := ⟨_, List.getElem?_eq_getElem (by rw [hxl]; decide)⟩
  have g5 : DataW.trod enc Tryz.prog w 0 (fun _ => true) true n 3 ((cs.drop 5).take (Tryz.prog.cellsOf 3)) = xs[5]? := hg 5 _ rfl
  rw [cellsT3, hy5] at g5
  obtain ⟨x5, r5, k5⟩ := (op_int Tryz.underlying3) g5
  obtain ⟨y6, hy6⟩ : ∃ y, xs[6]? = some y := ⟨_, List.getElem?_eq_getElem (by rw [hxl]; decide)⟩
  have g6 : DataW.trod enc Tryz.prog w 0 (fun _ => true) true n 3 ((cs.drop 6).take (Tryz.prog.cellsOf 3)) = xs[6]? := hg 6 _ rfl
  rw [cellsT3, hy6] at g6
  obtain ⟨x6, r6, k6⟩ := (op_int Tryz.underlying3) g6
  obtain ⟨y7, hy7⟩ : ∃ y, xs[7]? = some y := ⟨_, List.getElem?_eq_getElem (by rw [hxl]; decide)⟩
  have g7 : DataW.trod enc Tryz.prog w 0 (fun _ => true) true n 2 ((cs.drop 7).take (Tryz.prog.cellsOf 2)) = xs[7]? := hg 7 _ rfl
  rw [cellsT2, hy7] at g7
  obtain ⟨x7, r7, k7⟩ := (op_int Tryz.underlying2) g7
  obtain ⟨y8, hy8⟩ : ∃ y, xs[8]? = some y := ⟨_, List.getElem?_eq_getElem (by rw [hxl]; decide)⟩
  have g8 : DataW.trod enc Tryz.prog w 0 (fun _ => true) true n 47 ((cs.drop 8).take (Tryz.prog.cellsOf 47)) = xs[8]? := hg 8 _ rfl
  rw [cellsT47, hy8] at g8
  obtain ⟨x8, r8, k8⟩ := (op_slice (α := Int) (dv := (DV.int .i64)) (ok := (fun y => InR .i64 y)) Tryz.underlying47 cellsT2 (by decide) (fun _ => rfl) (fun _ _ _ h => (op_int Tryz.underlying2) h)) g8
  exact ⟨⟨x0, x1, x2, x3, x4, x5, x6, x7, x8⟩, RsL.join (off := 0) (n := 1) (by rw [hlen]; decide) r0 (RsL.join (off := 1) (n := 1) (by rw [hlen]; decide) r1 (RsL.join (off := 2) (n := 1) (by rw [hlen]; decide) r2 (RsL.join (off := 3) (n := 1) (by rw [hlen]; decide) r3 (RsL.join (off := 4) (n := 1) (by rw [hlen]; decide) r4 (RsL.join (off := 5) (n := 1) (by rw [hlen]; decide) r5 (RsL.join (off := 6) (n := 1) (by rw [hlen]; decide) r6 (RsL.join (off := 7) (n := 1) (by rw [hlen]; decide) r7 (RsL.join (off := 8) (n := 1) (by rw [hlen]; decide) r8 (RsL.done (n := 9) hlen))))))))), ⟨k0, k1, k2, k3, k4, k5, k6, k7, k8⟩⟩
theorem cellsT34 : Tryz.prog.cellsOf 34 = 2 := by kernel_rfl
theorem op_array_2_int {H : Type} {enc : TypeId × Value → H} {w : World} {fuel : Nat} {cs : List Value} {y : DataW H × List MemPlace} (h : DataW.trod enc Tryz.prog w 0 (fun _ => true) true fuel 34 cs = some y) : ∃ x : Nat → Int, RsL (allF w) Gam.no (array_2_int.cs x) cs ∧ (∀ i : Nat, i < 2 → InR .i64 (x i)) := by
  obtain ⟨xs, n, _, _, hlen, hxl, hg⟩ := DataW.trod_array Tryz.underlying34 h
  rw [cellsT34] at hlen
  obtain ⟨y0, hy0⟩ : ∃ y, xs[0]? = some y := ⟨_, List.getElem?_eq_getElem (by rw [hxl]; decide)⟩
  have g0 := hg 0 (by decide)
  rw [cellsT3, hy0] at g0
  obtain ⟨x0, r0, k0⟩ := (op_int Tryz.underlying3) g0
  obtain ⟨y1, hy1⟩ : ∃ y, xs[1]? = some y := ⟨_, List.getElem?_eq_getElem (by rw [hxl]; decide)⟩
  have g1 := hg 1 (by decide)
  rw [cellsT3, hy1] at g1
  obtain ⟨x1, r1, k1⟩ := (op_int Tryz.underlying3) g1
  refine ⟨arr 0 [x0, x1], RsL.join (off := 0) (n := 1) (by rw [hlen]; decide) r0 (RsL.join (off := 1) (n := 1) (by rw [hlen]; decide) r1 (RsL.done (n := 2) hlen)), fun i hi => ?_⟩
  match i, hi with
  | 0, _ => exact k0
  | 1, _ => exact k1
theorem cellsT36 : Tryz.prog.cellsOf 36 = 2 := by kernel_rfl
def recorder_Config.ok (x : recorder_Config) : Prop := InR .i64 x.gCapacity ∧ InR .i64 x.gBudget
theorem op_recorder_Config {H : Type} {enc : TypeId × Value → H} {w : World} {fuel : Nat} {cs : List Value} {y : DataW H × List MemPlace} (h : DataW.trod enc Tryz.prog w 0 (fun _ => true) true fuel 36 cs = some y) : ∃ x : recorder_Config, RsL (allF w) Gam.no (recorder_Config.cs x) cs ∧ recorder_Config.ok x := by
  obtain ⟨xs, n, _, _, hlen, hxl, hg⟩ := DataW.trod_struct Tryz.underlying36 h
  rw [cellsT36] at hlen
  obtain ⟨y0, hy0⟩ : ∃ y, xs[0]? = some y := ⟨_, List.getElem?_eq_getElem (by rw [hxl]; decide)⟩
  have g0 : DataW.trod enc Tryz.prog w 0 (fun _ => true) true n 3 ((cs.drop 0).take (Tryz.prog.cellsOf 3)) = xs[0]? := hg 0 _ rfl
  rw [cellsT3, hy0] at g0
  obtain ⟨x0, r0, k0⟩ := (op_int Tryz.underlying3) g0
  obtain ⟨y1, hy1⟩ : ∃ y, xs[1]? = some y := ⟨_, List.getElem?_eq_getElem (by rw [hxl]; decide)⟩
  have g1 : DataW.trod enc Tryz.prog w 0 (fun _ => true) true n 3 ((cs.drop 1).take (Tryz.prog.cellsOf 3)) = xs[1]? := hg 1 _ rfl
  rw [cellsT3, hy1] at g1
  obtain ⟨x1, r1, k1⟩ := (op_int Tryz.underlying3) g1
  exact ⟨⟨x0, x1⟩, RsL.join (off := 0) (n := 1) (by rw [hlen]; decide) r0 (RsL.join (off := 1) (n := 1) (by rw [hlen]; decide) r1 (RsL.done (n := 2) hlen)), ⟨k0, k1⟩⟩
def litV : DataW Unit → Value
  | .lit (.int k n) => .int k n
  | _ => .nilIface
def aggV : DataW Unit → Array Value
  | .agg l => (l.map litV).toArray
  | _ => #[]
noncomputable def laidWorld (os : Os) : World :=
  let w0 := World.holding Tryz.prog os ⟨#[], #[], []⟩
  { w0 with heap := (((w0.heap.modify 4 fun
      | .cells _ t frozen => .cells (aggV Rows.laid_math_bits_deBruijn32tab) t frozen
      | o => o).modify 5 fun
      | .cells _ t frozen => .cells (aggV Rows.laid_math_bits_deBruijn64tab) t frozen
      | o => o).modify 0 fun
      | .cells _ t frozen => .cells (aggV Rows.laid_internal_strconv_uint64pow10) t frozen
      | o => o) }
theorem laid_met (os : Os) (args : Array Value) : laidMet Tryz.prog Rows.recorderWritesRow.laid ((laidWorld os).forCall (fun _ _ => 0) ⟨#[], args, []⟩).memory :=
  laidMet_of_run' 8 (by kernel_rfl) (by kernel_rfl)
theorem tab_of {W : World} (h : laidMet Tryz.prog Rows.recorderWritesRow.laid W) : Tbs (allF W) := by
  have e : Rows.recorderWritesRow.laid = [("math/bits.deBruijn32tab", Rows.laid_math_bits_deBruijn32tab), ("math/bits.deBruijn64tab", Rows.laid_math_bits_deBruijn64tab), ("internal/strconv.uint64pow10", Lib.tabData .u64 Lib.pow10Tab)] := by kernel_rfl
  rw [e] at h
  obtain ⟨ps, ⟨g1, t1, cs1, fu1, p1, q1, _, _, _, _, ⟨g2, t2, cs2, fu2, p2, q2, _, _, _, _, ⟨g, t, cs, fuel, p, q, hg, ht, hvar, hd, _, _⟩, _⟩, _⟩, _⟩ := h
  have hg' : Tryz.prog.globalNamed "internal/strconv.uint64pow10" = some 0 := by kernel_rfl
  obtain rfl := Option.some.inj (hg'.symm.trans hg)
  have ht' : (Tryz.prog.globals[0]?).map (·.type) = some 179 := by kernel_rfl
  obtain rfl := Option.some.inj (ht'.symm.trans ht)
  have hc := Lib.cells_of_tab Tryz.underlying179 Tryz.underlying41 (by kernel_rfl) (by kernel_rfl) hd
  intro b hb
  obtain rfl : b = 0 := by simpa [knBs] using hb
  unfold World.var? at hvar
  rw [hg'] at hvar
  simp only [Option.bind_some] at hvar
  unfold allF
  refine hvar.trans ?_
  congr 1
  apply Array.ext'
  rw [hc]
  rfl
theorem own : ownKnob Tryz.prog.godebug = none := by kernel_rfl
theorem laidOut : laidOutB Tryz.prog = true := by kernel_rfl
theorem RecorderWrites_lifted (os : Os) (started : os.Started) (H : Type) (enc : TypeId × Value → H) :
    ReturnsInHanded {} Tryz.checked os 4 .any (fun w args => (Rows.recorderWritesSpec.pre enc Tryz.prog Tryz.f4 Rows.recorderWritesRow.domain false w args ∧ laidMet Tryz.prog Rows.recorderWritesRow.laid w) ∧ sizedMet enc Tryz.prog Tryz.f4 (OpenSpec.ofChange Rows.recorderWritesSpec) false w args) (Rows.recorderWritesSpec.post enc Tryz.prog Tryz.f4 false true false false) := by
  refine returnsInHanded_of_change_and (C := Tryz.checked) (X := fun w _ => laidMet Tryz.prog Rows.recorderWritesRow.laid w) (fun _ _ _ hh h => h.of_heap hh) own started (by kernel_rfl) Tryz.func4
    (ChangeSpec.witness_at (enc := enc) (C := Tryz.checked) (os := os) (X := fun w _ => laidMet Tryz.prog Rows.recorderWritesRow.laid w) false (laidWorld os) #[.slice none 0 0, .agg #[.int .i64 0, .int .i64 0], .agg #[.int .i64 0, .int .i64 0]] 8 rfl (by kernel_rfl) (by kernel_rfl) (by kernel_rfl) (by kernel_rfl) (by kernel_rfl) (laid_met os _)) ?_
  intro W base args ds gs before hval0 hW hcnd _ hL _
  have hval : ∀ (j : Nat) t v, Tryz.f4.params[j]? = some t → args[j]? = some v → Value.okWide Tryz.prog W .any base t v := hval0
  have hW' := hW
  obtain ⟨p, q, hA0, hV, rfl, hfz, hnd⟩ := hW
  have hA : DataW.TrodAll enc Tryz.prog W 0 (fun _ => true) true Tryz.f4.params.toList args.toList ds p := hA0
  rw [Tryz.params4] at hA hval
  obtain ⟨v0, vs0, d0, ds0, p0, q0, hargs0, rfl, rfl, h0, r0⟩ := trodAll_cons hA
  obtain ⟨v1, vs1, d1, ds1, p1, q1, hargs1, rfl, rfl, h1, r1⟩ := trodAll_cons r0
  obtain ⟨v2, vs2, d2, ds2, p2, q2, hargs2, rfl, rfl, h2, r2⟩ := trodAll_cons r1
  obtain ⟨rfl, rfl, rfl⟩ := trodAll_nil r2
  obtain rfl : args = #[v0, v1, v2] := by cases args; simp_all
  obtain ⟨rfl, rfl⟩ := trodVars_none hV
  obtain ⟨sa0, sn0, sc0, rfl⟩ := okWide_slice Tryz.underlying22 (hval 0 22 v0 rfl rfl)
  obtain ⟨fuel0, hf0⟩ := h0
  obtain ⟨x0, rs0, k0⟩ := (op_slice (α := AEv) (dv := AEv.dv) (ok := (fun y => AEv.ok y)) Tryz.underlying22 cellsT49 (by decide) (fun _ => rfl) (fun _ _ _ h => (op_api_Event) h)) hf0
  obtain ⟨cs1, rfl, hsz1, _⟩ : ∃ cs, v1 = .agg cs ∧ cs.size = Tryz.prog.cellsOf 34 ∧ Row.okWide Tryz.prog W .any base 34 cs := by
    have hh := (hval 1 34 v1 rfl rfl)
    simpa [Value.okWide, Tryz.underlying34] using hh
  obtain ⟨fuel1, hf1⟩ := h1
  obtain ⟨x1, rs1, k1⟩ := (op_array_2_int) hf1
  obtain ⟨cs2, rfl, hsz2⟩ := okWide_struct Tryz.underlying36 (hval 2 36 v2 rfl rfl)
  obtain ⟨fuel2, hf2⟩ := h2
  obtain ⟨x2, rs2, k2⟩ := (op_recorder_Config) hf2
  have hrs : RsT (allF W) Gam.no [.sl 9 (List.map AEv.dv x0), .agg (array_2_int.cs x1), .agg (recorder_Config.cs x2)] [_, _, _] := ⟨_, _, rfl, rs_one rs0, _, _, rfl, rs_cells rs1, _, _, rfl, rs_cells rs2, rfl⟩
  refine (law_run (rootcauselaw28_RecorderWrites_c (recorderWrites_plain x0 x1 x2 k0.1 (fun e he => ⟨(k0.2 e he).1, (k0.2 e he).2.1, (k0.2 e he).2.2.1, (k0.2 e he).2.2.2.1, (k0.2 e he).2.2.2.2.1, (k0.2 e he).2.2.2.2.2.1, (k0.2 e he).2.2.2.2.2.2.1, (k0.2 e he).2.2.2.2.2.2.2.1, (k0.2 e he).2.2.2.2.2.2.2.2.2⟩) (k1 1 (by decide)) k2.2)) (tab_of hL) hrs).mono fun e W' ⟨he, hg⟩ => ?_
  subst he
  exact ⟨_, rfl, law_post (tb := 4) laidOut hW' rfl rfl Tryz.underlying4 (by rw [Tryz.params4]; intro t ht; simp only [List.mem_cons, List.not_mem_nil, or_false] at ht; rcases ht with rfl | rfl | rfl <;> exact ⟨by kernel_rfl, by decide +kernel⟩) rfl hg⟩
theorem told0 : (Rows.recorderWritesRow.inPlace == Tryz.checked.prog.inPlace 4) = true := by kernel_rfl
theorem told1 : (Rows.recorderWritesRow.unfollowed == Tryz.checked.prog.unfollowed 4) = true := by kernel_rfl
theorem told2 : (Rows.recorderWritesRow.recurses == Tryz.checked.prog.recurses 4) = true := by kernel_rfl
theorem told3 : (Rows.recorderWritesRow.named == Tryz.checked.prog.varsNamed 4) = true := by kernel_rfl
theorem told4 : laidOutB Tryz.checked.prog = true := by kernel_rfl
theorem told5 : mapsRowed Tryz.checked.prog = true := by kernel_rfl
theorem told6 : (Rows.recorderWritesRow.plainKeys == Tryz.checked.prog.plainKeys) = true := by kernel_rfl
theorem told7 : Program.stopsHeard Tryz.checked.prog = true := by kernel_rfl
theorem told8 : Program.mayEnter Tryz.checked.prog = true := by kernel_rfl
theorem told9 : (Rows.recorderWritesRow.lifted == Tryz.checked.prog.liftsFinal) = true := by kernel_rfl
theorem told10 : (Program.make Tryz.checked.prog == some Rows.recorderWritesRow.make) = true := by kernel_rfl
theorem told : joinedFacts Tryz.checked.prog 4 Tryz.f4 Rows.recorderWritesSpec Rows.recorderWritesRow = true := by
  unfold joinedFacts
  rw [told0, told1, told2, told3, told4, told5, told6, told7, told8, told9, told10]
  kernel_rfl
theorem recorderWrites_holds : Rows.RecorderWritesSaid :=
  OpenClaim.holds_of_wide 4 Tryz.f4 rfl rfl rfl rfl rfl rfl rfl ⟨rfl, rfl, rfl, rfl, rfl⟩ rfl rfl rfl rfl rfl (by kernel_rfl) Tryz.func4 told
    (of_decide_eq_true (by kernel_rfl)) (by unfold Func.isWrapper; first | (rw [if_pos (by decide +kernel)]; kernel_rfl) | (rw [if_neg (by decide +kernel)]; exact ⟨rfl, rfl⟩))
    (fun os started H enc _ => RecorderWrites_lifted os started H enc)
theorem recorderWritesCard_holds : Rows.RecorderWritesCardSaid :=
  Claim7.holds_tied_plain_at .later [] [.data, .data, .data] true (true, "0082deb5530a332ceb7cc4a955d139dabd4eb7d653dd066db8377a6a3644b0ab") false
    recorderWrites_holds (fun _ h => by cases h) (by kernel_rfl) (fun _ h => by cases h) recorderWrites_row_tie rfl ⟨rfl, rfl⟩ (by kernel_rfl) rfl
    (fun f fn hf hfn => by
      obtain rfl : f = 4 := Option.some.inj ((show Tryz.prog.funcNamed "rootcause/rootcauselaw28.RecorderWrites" = some 4 by kernel_rfl).symm.trans hf) |>.symm
      obtain rfl : fn = Tryz.f4 := (Option.some.inj (Tryz.func4.symm.trans hfn)).symm
      exact ⟨by kernel_rfl, fun j t ht => by
        rw [Tryz.params4] at ht
        have hm : t ∈ [22, 34, 36] := by simpa using Array.mem_of_getElem? ht
        have hall : ([22, 34, 36].all fun u => !Tryz.prog.wantsStandIn u) = true := by kernel_rfl
        exact (show Tryz.prog.wantsStandIn t = false by simpa using List.all_eq_true.1 hall t hm)⟩)
    (by kernel_rfl)
end Go.Proofs.YtifaebmmbpkclaaGreatDoor
