/-
  From a contract of the engine to a run in a world whose blocks are data.
-/
import Derived.Test.YtepkcbalmjnhpaaGreatBrP
import Derived.Test.YtepkcbalmjnhpaaGreatEngQ
set_option maxHeartbeats 1000000
set_option maxRecDepth 100000
set_option linter.unusedVariables false
set_option linter.unusedSimpArgs false
namespace Go.Proofs.YtepkcbalmjnhpaaGreat
open Go.RowKit
def allF (w : World) : FMap := fun b => match w.heap[b]? with
  | some (.cells cs _ _) => some cs
  | _ => none
theorem allF_sat (w : World) : FSat (allF w) w := by
  intro b cs h
  unfold allF at h
  split at h
  · rename_i c t fz hb; injection h with h; subst h; exact ⟨t, fz, hb⟩
  · cases h
theorem law_run {P : Program} {f : FuncId} {args : List DV} {vs : List Value} {W : World} (h : PCall P f args (.bool true)) (hv : RsT (allF W) Gam.no args vs) : Calls P f vs.toArray W (fun e W' => e = .returned (.bool true) ∧ Ext W W') := by
  have H : WS ⟨W, fun _ => False, allF W, 0, Gam.no, none, []⟩ (allF W) Gam.no [] [] W := {
    ent := fun id e h => by simp [hget, look] at h
    own := fun id e g b h => by simp [hget, look] at h
    apart := fun id id' e e' g g' b h => by simp [hget, look] at h
    fs := allF_sat W
    f0 := FLe.refl _
    fnew := fun b cs h => .inl h
    os := rfl, tape := rfl, output := rfl
    size := Nat.le_refl _
    keep := fun _ _ _ => rfl
    us := fun id g h => by cases h
    gone := GOne.no
    g0 := GLe.refl _
    gk := fun id g h => by cases h }
  refine (h _ (allF W) Gam.no [] [] W vs H hv).mono ?_
  rintro e w' ⟨v, F', rfl, _, K, hr⟩
  simp only [Rs] at hr
  exact ⟨by rw [hr], ⟨K.os, K.tape, K.output, K.size, fun k hk => K.keep k hk (fun h => h)⟩⟩
end Go.Proofs.YtepkcbalmjnhpaaGreat
