/-
  Walk of vclock.Of for at most 16 entries.
-/
import Derived.Test.YtepkcbalmjnhpaaGreatClk
import Derived.Test.YtepkcbalmjnhpaaGreatMem
set_option maxHeartbeats 400000
set_option linter.unusedVariables false
set_option linter.unusedSimpArgs false
namespace Go.Proofs.YtepkcbalmjnhpaaGreat
open Go.RowKit
def clkOf (xs : List Int) : Nat → Int := fun i => xs.getD i 0
theorem pad_get (xs : List Int) (n i : Nat) (h : xs.length ≤ n) : (xs.map (Value.int .u64) ++ (List.replicate n (Value.int .u64 0)).drop xs.length)[i]? = ((List.range n).map fun i => Value.int .u64 (clkOf xs i))[i]? := by
  rw [List.drop_replicate, List.getElem?_append, List.getElem?_map, List.getElem?_replicate]
  simp only [List.length_map]
  by_cases hi : i < xs.length
  · have h16 : i < n := by omega
    simp [hi, h16, clkOf]
  · by_cases h16 : i < n
    · have hx : xs[i]? = none := List.getElem?_eq_none (by omega)
      have h1 : i - xs.length < n - xs.length := by omega
      simp [hi, h16, clkOf, hx, h1]
    · have h1 : ¬ i - xs.length < n - xs.length := by omega
      simp [hi, h16, h1]
theorem lay_clk {xs : List Int} (h : xs.length ≤ 16) : lay (clkA clk0) 0 (xs.map (Value.int .u64)) = clkA (clkOf xs) := by
  apply Array.toList_inj.1
  rw [clkA_list]
  have h0 : (clkA clk0).toList = List.replicate 16 (.int .u64 0) := rfl
  have : (lay (clkA clk0) 0 (xs.map (Value.int .u64))).toList = xs.map (Value.int .u64) ++ (List.replicate 16 (Value.int .u64 0)).drop xs.length := by
    rw [← h0]; simp [lay]
  rw [this]
  exact List.ext_getElem? fun i => pad_get xs 16 i h
theorem clkOf_u {xs : List Int} (h : ∀ v ∈ xs, U64 v) (i : Nat) : U64 (clkOf xs i) := by
  unfold clkOf
  by_cases hi : i < xs.length
  · simp only [List.getD_eq_getElem?_getD, List.getElem?_eq_getElem hi, Option.getD_some]
    exact h _ (List.getElem_mem hi)
  · simp only [List.getD_eq_getElem?_getD, List.getElem?_eq_none (Nat.le_of_not_lt hi), Option.getD_none]
    exact ⟨by omega, by omega⟩
def RetClk (c : Nat → Int) (w : World) (e : Ending) (w' : World) : Prop := e = .returned (.tuple #[.agg (clkA c), .int .i64 0]) ∧ Ext w w'
theorem clk_zero : ((Tryz.prog.info? 45).bind (·.zero)).map (·.cells) = some (clkA clk0) := by kernel_rfl
theorem u64_size : (Tryz.prog.info? 42).map (·.size) = some 1 := by kernel_rfl
end Go.Proofs.YtepkcbalmjnhpaaGreat
