/-
  Walk of vclock.Of for at most 16 entries.
-/
import Derived.Test.YtkadjbpmnpcfhaaClk
import Derived.Test.YtkadjbpmnpcfhaaMem
set_option maxHeartbeats 400000
set_option linter.unusedVariables false
set_option linter.unusedSimpArgs false
namespace Go.Proofs.Ytkadjbpmnpcfhaa
open Go.RowKit
def clkOf (xs : List Int) : Nat → Int := fun i => xs.getD i 0
theorem pad_get (xs : List Int) (n i : Nat) (h : xs.length ≤ n) : (xs.map (Value.int .u64) ++ (List.replicate n (Value.int .u64 0)).drop xs.length)[i]? = ((List.range n).map fun i => Value.int .u64 (clkOf xs i))[i]? := by
  rw [List.drop_replicate, List.getElem?_append, List.getElem?_map, List.getElem?_replicate]
  simp only [List.length_map]
  by_cases hi : i < xs.length
  · have h16 : i < n := by omega
    simp [hi, h16, clkOf]
  · by_cases h16 : i < n
    · have hx : xs[i]? = none := List.getElem?_eq_none (by omega)
      have h1 : i - xs.length < n - xs.length := by omega
      simp [hi, h16, clkOf, hx, h1]
    · have h1 : ¬ i - xs.length < n - xs.length := by omega
      simp [hi, h16, h1]
theorem lay_clk {xs : List Int} (h : xs.length ≤ 16) : lay (clkA clk0) 0 (xs.map (Value.int .u64)) = clkA (clkOf xs) := by
  apply Array.toList_inj.1
  rw [clkA_list]
  have h0 : (clkA clk0).toList = List.replicate 16 (.int .u64 0) := rfl
  have : (lay (clkA clk0) 0 (xs.map (Value.int .u64))).toList = xs.map (Value.int .u64) ++ (List.replicate 16 (Value.int .u64 0)).drop xs.length := by
    rw [← h0]; simp [lay]
  rw [this]
  exact List.ext_getElem? fun i => pad_get xs 16 i h
def RetClk (c : Nat → Int) (w : World) (e : Ending) (w' : World) : Prop := e = .returned (.tuple #[.agg (clkA c), .int .i64 0]) ∧ Ext w w'
theorem elU64 : El Try.prog 23 22 (.int .u64 0) 1 8 := El.of Try.underlying23 (by kernel_rfl) rfl (by decide)
theorem clk_zero : ((Try.prog.info? 34).bind (·.zero)).map (·.cells) = some (clkA clk0) := by kernel_rfl
theorem u64_size : (Try.prog.info? 22).map (·.size) = some 1 := by kernel_rfl
set_option maxRecDepth 100000 in
theorem Of_any (A : Option Addr) (cap : Nat) (xs : List Int) (w : World) (hat : At w A (xs.map (Value.int .u64))) (hnil : A = none → cap = 0) (hl : xs.length ≤ 16) :
    Calls Try.prog 42 #[.slice A xs.length cap] w (RetClk (clkOf xs) w) := by
  have hx0 : A = none → xs.length = 0 := by
    intro h
    rcases List.eq_nil_or_concat xs with h2 | ⟨l, x, h2⟩
    · simp [h2]
    · obtain ⟨b, o, h3, _⟩ := hat.elim (by rw [h2]; simp)
      rw [h] at h3
      cases h3
  have hnil2 : A = none → xs.length = 0 ∧ cap = 0 := fun h => ⟨hx0 h, hnil h⟩
  have Hnil := Lib.hid hnil2
  clear hnil2 hx0 hnil
  have tok1 : True := trivial
  have hgt : ¬ (16 : Int) < (xs.length : Int) := by omega
  go_enter Try.func42, Try.ntmps42
  go_wp2_with (first
    | (have _t := tok1; refine wpList_alloc_blk 34 (by rfl) (by rfl) (clkA clk0) clk_zero ?_; intro w1 hB1 hx1 hs1; clear tok1)
    | (refine wpList_alloc_blk 34 (by rfl) (by rfl) (clkA clk0) clk_zero ?_; intro w2 hB2 hx2 hs2)
    | (refine wpList_copy_blk (.tmp 10) (.tmp 11) (by rfl) (by rfl) Try.underlying23 u64_size (w.heap.size + 1) 0 16 16 34 (clkA clk0) A xs.length cap (xs.map (Value.int .u64)) (by rfl) (by rfl) ?_ ?_ Hnil.out ?_ (ints_one _ _) ?_ ?_; (rw [List.length_map]; exact (Nat.min_eq_left hl).symm); exact (hat.ext hx1).ext hx2; (rw [List.length_map, clkA_size]; omega); (rw [hs1] at hB2; exact hB2); intro w3 hB3 hu3; rw [lay_clk hl] at hB3)
    | (refine wpList_load_blk 34 (.tmp 4) (by rfl) (by rfl) (w.heap.size + 1) 34 (clkA (clkOf xs)) (by rfl) Try.underlying34 (by rfl) clk_size hB3 ?_)
    | (refine wpList_store_all 34 (.tmp 2) (.tmp 13) (by rfl) (by rfl) w.heap.size 34 (clkA clk0) (clkA (clkOf xs)) (by rfl) (by rfl) clk_size rfl (clkA_one _) ?_ ?_; exact hu3.blk (hB1.ext hx2) (by omega); intro w4 hB4 hu4))
  go_goals
  refine bodyPost_ret (results_cell2 (cs := clkA (clkOf xs)) _ rfl rfl Try.underlying34 rfl clk_size hB4) rfl ⟨rfl, ?_⟩
  exact hu4.ext (hu3.ext (hx1.trans hx2) (by omega)) (Nat.le_refl _)
end Go.Proofs.Ytkadjbpmnpcfhaa
