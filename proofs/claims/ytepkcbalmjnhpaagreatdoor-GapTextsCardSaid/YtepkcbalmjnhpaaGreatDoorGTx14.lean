/-
  What the claim leans on, part 14.
-/
import Derived.Test.YtepkcbalmjnhpaaGreatDoorGTx13
import Derived.ProofKit
import Derived.OpenShut
import Derived.JoinedCond
set_option maxHeartbeats 1000000
set_option maxRecDepth 100000
set_option linter.unusedVariables false
set_option linter.unusedSimpArgs false
namespace Go.Proofs.YtepkcbalmjnhpaaGreatDoor
open Go.ChangeShapes Go.WideShapes Go.ChangeAt Go.RowKit
section
variable {H : Type} {enc : TypeId × Value→H} {P : Program}
theorem trodAll_below (hl : laidOutB P = true) {W W' : World} (hb : Ext W W') : ∀ (ts : List TypeId) (vs : List Value) (ds : List (DataW H)) (ps : List MemPlace),
  (∀ t∈ts,P.readableRec t = true∧t < P.types.size)→DataW.TrodAll enc P W 0 (fun _=>true) true ts vs ds ps→(∀ x∈ps,x.block < W.heap.size) →
  DataW.TrodAll enc P W' 0 (fun b=>decide (b < W.heap.size)) true ts vs ds ps
 | [],vs,ds,ps,_,h,_=>by
  obtain ⟨rfl,rfl,rfl⟩ := trodAll_nil h
  exact trodAll_mk0
 | t :: ts,vs,ds,ps,hr,h,hlt=>by
  obtain ⟨v0,vs0,d0,ds0,p0,q0,rfl,rfl,rfl,h0,r0⟩ := trodAll_cons h
  have h1:=Below.trod hl (hr t (by simp)).1 (hr t (by simp)).2 h0 hb.below (fun x hx=>hlt x (by simp [hx]))
  have h2:=trodAll_below hl hb ts vs0 ds0 q0 (fun t' ht'=>hr t' (by simp [ht'])) r0 (fun x hx=>hlt x (by simp [hx]))
  exact trodAll_cons_mk h1 h2
theorem law_post {f : Func} {s : ChangeSpec} {W W' : World} {args : Array Value} {ds : List (DataW H)} {before : List MemPlace} {tb : TypeId} (hl : laidOutB P = true)
  (hW : DataW.Whole enc P f.params.toList s.vars false W args.toList ds [] before) (hvars : s.vars = [])
  (hres : f.resultTypes = #[tb]) (hbool : P.underlying tb = some .bool) (hr : ∀ t∈f.params.toList,P.readableRec t = true∧t < P.types.size)
  (hf : s.fn H ds = { results:=[.lit (.bool true)],args:=ds }) (hb : Ext W W') :
  s.post enc P f false true false false W args (.bool true) W' := by
 have hW' := hW
 obtain ⟨p,q,hA,hV,rfl,hfz,hnd⟩ := hW
 rw [hvars] at hV
 obtain ⟨_,rfl⟩ := trodVars_none hV
 have hlt : ∀ x∈p,x.block < W.heap.size:=fun x hx=>hW'.lt x (by simp [hx])
 refine ⟨ds,[],p++[],[],p,[],hW',?_,?_,?_,hb.below.frame _,fun h=>by cases h⟩
 ·rw [List.append_nil,hf,hres]
  exact trodAll_cons_mk (shut_bool hbool true) trodAll_mk0
 ·rw [List.append_nil,hf]
  exact trodAll_below hl hb _ _ _ _ hr hA hlt
 ·rw [List.append_nil,hf,hvars]; rfl
end
end Go.Proofs.YtepkcbalmjnhpaaGreatDoor
