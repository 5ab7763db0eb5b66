/-
  Whole structs loaded inside regions that draw their order: the cells of a block as a function of the world.
-/
import Derived.Test.YtkadjbpmnpcfhaaMem
import Derived.Test.YtkadjbpmnpcfhaaRec
set_option linter.unusedVariables false
set_option linter.unusedSimpArgs false
namespace Go.Proofs.Ytkadjbpmnpcfhaa
open Go.RowKit
def cellsAt (w : World) (b : Nat) : Array Value := match w.heap[b]? with
  | some (.cells c _ _) => c
  | _ => #[]
theorem Blk.cellsAt {w : World} {g : Nat} {t : TypeId} {cs : Array Value} (h : Blk w g t cs) : cellsAt w g = cs := by
  have := h.eq
  simp [Proofs.Ytkadjbpmnpcfhaa.cellsAt, this]
theorem cellsAt_range {w : World} {b : Nat} (h : (cellsAt w b).size ≠ 0) : w.rangeAt b 0 (cellsAt w b).toList := by
  intro j v hv
  unfold cellsAt at hv h
  rw [Nat.zero_add]
  unfold World.cell?
  simp only
  split at hv
  · rename_i c t f heq
    rw [heq]
    simpa using hv
  · simp at h
theorem cellsAt_drew (w : World) (b : Nat) : cellsAt w.drew b = cellsAt w b := rfl
/-- a load of a whole struct, as one step -/
def loadRow (T : TypeId) (v : Value) : Sem Next := do pure (.value (← Instr.loadAt T v))
theorem run_loadRow {P : Program} {T : TypeId} {d : TypeDesc} {n : Nat} (hu : P.underlying T = some d) (hd : d.isRow = true) (hi : (P.info? T).map (·.size) = some n) (h0 : n ≠ 0) (b : Nat) (w : World) (h : (cellsAt w b).size = n) :
    (loadRow T (.pointer (some ⟨b, 0, none⟩))).run P w = .ok (.value (.agg (cellsAt w b))) w := by
  have := run_loadAt_mid (P := P) w b 0 T (cellsAt w b).toList d (cellsAt_range (by omega)) hu hd (by rw [hi, Array.length_toList, h])
  simp only [loadRow, Sem.run_bind, this, Result.andThen_ok, Sem.run_pure, Array.toArray_toList]
theorem load_rec (b : Nat) (w : World) (h : (cellsAt w b).size = 29) : (loadRow 37 (.pointer (some ⟨b, 0, none⟩))).run Try.prog w = .ok (.value (.agg (cellsAt w b))) w :=
  run_loadRow Try.underlying37 rfl rec_size (by decide) b w h
theorem exec_rec (ρ : Operand → Value) (dst : Option Tmp) (x : Operand) (ty : TypeId) (pos : String) (after : Array Edge) (guard : Option (Nat × Bool)) :
    execOp ρ { dst, op := .load 37 x, type := ty, pos, after, guard } = loadRow 37 (ρ x) := rfl
theorem rr_size' : (Try.prog.info? 29).map (·.size) = some 14 := by kernel_rfl
theorem load_rr (b : Nat) (w : World) (h : (cellsAt w b).size = 14) : (loadRow 29 (.pointer (some ⟨b, 0, none⟩))).run Try.prog w = .ok (.value (.agg (cellsAt w b))) w :=
  run_loadRow Try.underlying29 rfl rr_size' (by decide) b w h
theorem exec_rr (ρ : Operand → Value) (dst : Option Tmp) (x : Operand) (ty : TypeId) (pos : String) (after : Array Edge) (guard : Option (Nat × Bool)) :
    execOp ρ { dst, op := .load 29 x, type := ty, pos, after, guard } = loadRow 29 (ρ x) := rfl
end Go.Proofs.Ytkadjbpmnpcfhaa
