/-
  What the claim leans on, part 15.
-/
import Derived.Test.YtepkcbalmjnhpaaGreatDoorGTx14
import Derived.Deep.Slices
set_option maxHeartbeats 1000000
set_option maxRecDepth 100000
set_option linter.unusedVariables false
set_option linter.unusedSimpArgs false
namespace Go.Proofs.YtepkcbalmjnhpaaGreatDoor
open Go.ChangeShapes Go.WideShapes Go.ChangeAt Go.RowKit
theorem wf_in {k : IntKind} {n : Int} (h : (Lit.int k n).wf = true) : InR k n:=by
 cases k <;> simpa [Lit.wf,IntKind.min,IntKind.max,IntKind.signed,IntKind.bits,InR] using h
theorem RsL.join {F : FMap} {γ : Gam} {ds es : List DV} {cs : List Value} {off n : Nat} (hn : off + n≤cs.length) (h1 : RsL F γ ds ((cs.drop off).take n)) (h2 : RsL F γ es (cs.drop (off + n))) : RsL F γ (ds++es) (cs.drop off):=by
 have : cs.drop off = (cs.drop off).take n++cs.drop (off + n):=by
  rw [← List.drop_drop,List.take_append_drop]
 rw [this]; exact h1.append h2
theorem RsL.done {F : FMap} {γ : Gam} {cs : List Value} {n : Nat} (h : cs.length = n) : RsL F γ [] (cs.drop n):=by
 simp only [RsL]; rw [← h,List.drop_length]
section
variable {H : Type} {enc : TypeId × Value→H} {P : Program} {w : World} {fuel : Nat}
theorem op_int {t : TypeId} {k : IntKind} {cs : List Value} {y : DataW H × List MemPlace} (ht : P.underlying t = some (.int k)) (h : DataW.trod enc P w 0 (fun _=>true) true fuel t cs = some y) : ∃ x : Int,RsL (allF w) Gam.no [.int k x] cs∧InR k x:=by
 obtain ⟨n,rfl,_,hw⟩ := DataW.trod_int ht h
 exact ⟨n,RsL.single (by simp only [Rs]) rfl,wf_in hw⟩
theorem op_bool {t : TypeId} {cs : List Value} {y : DataW H × List MemPlace} (ht : P.underlying t = some .bool) (h : DataW.trod enc P w 0 (fun _=>true) true fuel t cs = some y) : ∃ x : Bool,RsL (allF w) Gam.no [.bool x] cs∧True:=by
 obtain ⟨n,rfl,_⟩ := DataW.trod_bool ht h
 exact ⟨n,RsL.single (by simp only [Rs]) rfl,trivial⟩
end
end Go.Proofs.YtepkcbalmjnhpaaGreatDoor
