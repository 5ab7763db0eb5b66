/-
  CollectDamagedSaid: for every input the law CollectDamaged (of a damaged file exactly the records are taken that the recorder reads from it) returns true and leaves its arguments as they were. No condition.
-/
import Derived.Test.YtepkcbalmjnhpaaGreatCDa12
set_option maxHeartbeats 2000000
set_option maxRecDepth 100000
set_option linter.unusedVariables false
set_option linter.unusedSimpArgs false
namespace Go.Proofs.YtepkcbalmjnhpaaGreat
open Go.ChangeShapes Go.WideShapes Go.ChangeAt Go.RowKit
theorem cellsT117 : Tryz.prog.cellsOf 117 = 4 := by kernel_rfl
theorem cellsT5 : Tryz.prog.cellsOf 5 = 1 := by kernel_rfl
def w30_Raw.ok (x : w30_Raw) : Prop := InR .u8 x.gWhat ∧ InR .u8 x.gSeq ∧ InR .u8 x.gId ∧ InR .u8 x.gCount
theorem op_rootcauselaw30_Raw {H : Type} {enc : TypeId × Value → H} {w : World} {fuel : Nat} {cs : List Value} {y : DataW H × List MemPlace} (h : DataW.trod enc Tryz.prog w 0 (fun _ => true) true fuel 117 cs = some y) : ∃ x : w30_Raw, RsL (allF w) Gam.no (w30_Raw.cs x) cs ∧ w30_Raw.ok x := by
  obtain ⟨xs, n, _, _, hlen, hxl, hg⟩ := DataW.trod_struct Tryz.underlying117 h
  rw [cellsT117] at hlen
  obtain ⟨y0, hy0⟩ : ∃ y, xs[0]? = some y := ⟨_, List.getElem?_eq_getElem (by rw [hxl]; decide)⟩
  have g0 : DataW.trod enc Tryz.prog w 0 (fun _ => true) true n 5 ((cs.drop 0).take (Tryz.prog.cellsOf 5)) = xs[0]? := hg 0 _ rfl
  rw [cellsT5, hy0] at g0
  obtain ⟨x0, r0, k0⟩ := (op_int Tryz.underlying5) g0
  obtain ⟨y1, hy1⟩ : ∃ y, xs[1]? = some y := ⟨_, List.getElem?_eq_getElem (by rw [hxl]; decide)⟩
  have g1 : DataW.trod enc Tryz.prog w 0 (fun _ => true) true n 5 ((cs.drop 1).take (Tryz.prog.cellsOf 5)) = xs[1]? := hg 1 _ rfl
  rw [cellsT5, hy1] at g1
  obtain ⟨x1, r1, k1⟩ := (op_int Tryz.underlying5) g1
  obtain ⟨y2, hy2⟩ : ∃ y, xs[2]? = some y := ⟨_, List.getElem?_eq_getElem (by rw [hxl]; decide)⟩
  have g2 : DataW.trod enc Tryz.prog w 0 (fun _ => true) true n 5 ((cs.drop 2).take (Tryz.prog.cellsOf 5)) = xs[2]? := hg 2 _ rfl
  rw [cellsT5, hy2] at g2
  obtain ⟨x2, r2, k2⟩ := (op_int Tryz.underlying5) g2
  obtain ⟨y3, hy3⟩ : ∃ y, xs[3]? = some y := ⟨_, List.getElem?_eq_getElem (by rw [hxl]; decide)⟩
  have g3 : DataW.trod enc Tryz.prog w 0 (fun _ => true) true n 5 ((cs.drop 3).take (Tryz.prog.cellsOf 5)) = xs[3]? := hg 3 _ rfl
  rw [cellsT5, hy3] at g3
  obtain ⟨x3, r3, k3⟩ := (op_int Tryz.underlying5) g3
  exact ⟨⟨x0, x1, x2, x3⟩, RsL.join (off := 0) (n := 1) (by rw [hlen]; decide) r0 (RsL.join (off := 1) (n := 1) (by rw [hlen]; decide) r1 (RsL.join (off := 2) (n := 1) (by rw [hlen]; decide) r2 (RsL.join (off := 3) (n := 1) (by rw [hlen]; decide) r3 (RsL.done (n := 4) hlen)))), ⟨k0, k1, k2, k3⟩⟩
theorem cellsT31 : Tryz.prog.cellsOf 31 = 1 := by kernel_rfl
theorem cellsT33 : Tryz.prog.cellsOf 33 = 2 := by kernel_rfl
def w30_File.ok (x : w30_File) : Prop := InR .u8 x.gComponent ∧ (x.gRecords.length ≤ 9223372036854775807 ∧ ∀ y ∈ x.gRecords, w30_Raw.ok y)
theorem op_rootcauselaw30_File {H : Type} {enc : TypeId × Value → H} {w : World} {fuel : Nat} {cs : List Value} {y : DataW H × List MemPlace} (h : DataW.trod enc Tryz.prog w 0 (fun _ => true) true fuel 33 cs = some y) : ∃ x : w30_File, RsL (allF w) Gam.no (w30_File.cs x) cs ∧ w30_File.ok x := by
  obtain ⟨xs, n, _, _, hlen, hxl, hg⟩ := DataW.trod_struct Tryz.underlying33 h
  rw [cellsT33] at hlen
  obtain ⟨y0, hy0⟩ : ∃ y, xs[0]? = some y := ⟨_, List.getElem?_eq_getElem (by rw [hxl]; decide)⟩
  have g0 : DataW.trod enc Tryz.prog w 0 (fun _ => true) true n 5 ((cs.drop 0).take (Tryz.prog.cellsOf 5)) = xs[0]? := hg 0 _ rfl
  rw [cellsT5, hy0] at g0
  obtain ⟨x0, r0, k0⟩ := (op_int Tryz.underlying5) g0
  obtain ⟨y1, hy1⟩ : ∃ y, xs[1]? = some y := ⟨_, List.getElem?_eq_getElem (by rw [hxl]; decide)⟩
  have g1 : DataW.trod enc Tryz.prog w 0 (fun _ => true) true n 31 ((cs.drop 1).take (Tryz.prog.cellsOf 31)) = xs[1]? := hg 1 _ rfl
  rw [cellsT31, hy1] at g1
  obtain ⟨x1, r1, k1⟩ := (op_slice (α := w30_Raw) (dv := w30_Raw.dv) (ok := (fun y => w30_Raw.ok y)) Tryz.underlying31 cellsT117 (by decide) (fun _ => rfl) (fun _ _ _ h => (op_rootcauselaw30_Raw) h)) g1
  exact ⟨⟨x0, x1⟩, RsL.join (off := 0) (n := 1) (by rw [hlen]; decide) r0 (RsL.join (off := 1) (n := 1) (by rw [hlen]; decide) r1 (RsL.done (n := 2) hlen)), ⟨k0, k1⟩⟩
theorem own : ownKnob Tryz.prog.godebug = none := by kernel_rfl
theorem laidOut : laidOutB Tryz.prog = true := by kernel_rfl
theorem CollectDamaged_lifted (os : Os) (started : os.Started) (H : Type) (enc : TypeId × Value → H) :
    ReturnsInHanded {} Tryz.checked os 4 .any (Rows.collectDamagedSpec.pre6 enc Tryz.prog Tryz.f4 Rows.collectDamagedRow.domain false) (Rows.collectDamagedSpec.post enc Tryz.prog Tryz.f4 false true false false) := by
  refine returnsInHanded_of_change (C := Tryz.checked) own started (by kernel_rfl) Tryz.func4
    (ChangeSpec.witness6 (enc := enc) (C := Tryz.checked) false ⟨#[], #[.agg #[.int .u8 0, .slice none 0 0], .int .u16 0, .int .u8 0], []⟩ 8 (by kernel_rfl) (by kernel_rfl) (by kernel_rfl) (by kernel_rfl)) ?_
  intro W base args ds gs before hval0 hW hcnd _
  have hval : ∀ (j : Nat) t v, Tryz.f4.params[j]? = some t → args[j]? = some v → Value.okWide Tryz.prog W .any base t v := hval0
  have hW' := hW
  obtain ⟨p, q, hA0, hV, rfl, hfz, hnd⟩ := hW
  have hA : DataW.TrodAll enc Tryz.prog W 0 (fun _ => true) true Tryz.f4.params.toList args.toList ds p := hA0
  rw [Tryz.params4] at hA hval
  obtain ⟨v0, vs0, d0, ds0, p0, q0, hargs0, rfl, rfl, h0, r0⟩ := trodAll_cons hA
  obtain ⟨v1, vs1, d1, ds1, p1, q1, hargs1, rfl, rfl, h1, r1⟩ := trodAll_cons r0
  obtain ⟨v2, vs2, d2, ds2, p2, q2, hargs2, rfl, rfl, h2, r2⟩ := trodAll_cons r1
  obtain ⟨rfl, rfl, rfl⟩ := trodAll_nil r2
  obtain rfl : args = #[v0, v1, v2] := by cases args; simp_all
  obtain ⟨rfl, rfl⟩ := trodVars_none hV
  obtain ⟨cs0, rfl, hsz0⟩ := okWide_struct Tryz.underlying33 (hval 0 33 v0 rfl rfl)
  obtain ⟨fuel0, hf0⟩ := h0
  obtain ⟨x0, rs0, k0⟩ := (op_rootcauselaw30_File) hf0
  obtain ⟨n1, rfl⟩ := okWide_int Tryz.underlying34 (hval 1 34 v1 rfl rfl)
  obtain ⟨fuel1, hf1⟩ := h1
  obtain ⟨x1, rs1, k1⟩ := (op_int Tryz.underlying34) hf1
  obtain ⟨n2, rfl⟩ := okWide_int Tryz.underlying5 (hval 2 5 v2 rfl rfl)
  obtain ⟨fuel2, hf2⟩ := h2
  obtain ⟨x2, rs2, k2⟩ := (op_int Tryz.underlying5) hf2
  have hrs : RsT (allF W) Gam.no [.agg (w30_File.cs x0), .int .u16 x1, .int .u8 x2] [_, _, _] := ⟨_, _, rfl, rs_cells rs0, _, _, rfl, rs_one rs1, _, _, rfl, rs_one rs2, rfl⟩
  refine (law_run (w30_CollectDamaged_c (damaged_law x0 x1 x2 ⟨k0.1, fun x hx => ⟨(k0.2.2 x hx).1, (k0.2.2 x hx).2.1, (k0.2.2 x hx).2.2.1, (k0.2.2 x hx).2.2.2⟩⟩ k1 k2)) hrs).mono fun e W' ⟨he, hg⟩ => ?_
  subst he
  exact ⟨_, rfl, law_post (tb := 4) laidOut hW' rfl rfl Tryz.underlying4 (by rw [Tryz.params4]; intro t ht; simp only [List.mem_cons, List.not_mem_nil, or_false] at ht; rcases ht with rfl | rfl | rfl <;> exact ⟨by kernel_rfl, by decide +kernel⟩) rfl hg⟩
theorem told0 : (Rows.collectDamagedRow.inPlace == Tryz.checked.prog.inPlace 4) = true := by kernel_rfl
theorem told1 : (Rows.collectDamagedRow.unfollowed == Tryz.checked.prog.unfollowed 4) = true := by kernel_rfl
theorem told2 : (Rows.collectDamagedRow.recurses == Tryz.checked.prog.recurses 4) = true := by kernel_rfl
theorem told3 : (Rows.collectDamagedRow.named == Tryz.checked.prog.varsNamed 4) = true := by kernel_rfl
theorem told4 : laidOutB Tryz.checked.prog = true := by kernel_rfl
theorem told5 : mapsRowed Tryz.checked.prog = true := by kernel_rfl
theorem told6 : (Rows.collectDamagedRow.plainKeys == Tryz.checked.prog.plainKeys) = true := by kernel_rfl
theorem told7 : Program.stopsHeard Tryz.checked.prog = true := by kernel_rfl
theorem told8 : Program.mayEnter Tryz.checked.prog = true := by kernel_rfl
theorem told9 : (Rows.collectDamagedRow.lifted == Tryz.checked.prog.liftsFinal) = true := by kernel_rfl
theorem told10 : (Program.make Tryz.checked.prog == some Rows.collectDamagedRow.make) = true := by kernel_rfl
theorem told : joinedFacts Tryz.checked.prog 4 Tryz.f4 Rows.collectDamagedSpec Rows.collectDamagedRow = true := by
  unfold joinedFacts
  rw [told0, told1, told2, told3, told4, told5, told6, told7, told8, told9, told10]
  kernel_rfl
theorem collectDamaged_holds : Rows.CollectDamagedSaid :=
  OpenClaim.holds_of_wide 4 Tryz.f4 rfl rfl rfl rfl rfl rfl rfl ⟨rfl, rfl, rfl, rfl, rfl⟩ rfl rfl rfl rfl rfl (by kernel_rfl) Tryz.func4 told
    (of_decide_eq_true (by kernel_rfl)) (by unfold Func.isWrapper; first | (rw [if_pos (by decide +kernel)]; kernel_rfl) | (rw [if_neg (by decide +kernel)]; exact ⟨rfl, rfl⟩))
    (fun os started H enc _ => CollectDamaged_lifted os started H enc)
end Go.Proofs.YtepkcbalmjnhpaaGreat
