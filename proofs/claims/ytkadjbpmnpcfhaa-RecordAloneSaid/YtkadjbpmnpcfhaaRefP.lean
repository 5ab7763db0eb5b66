/-
  Walks of the reference 24: put, putInt.
-/
import Derived.Test.YtkadjbpmnpcfhaaNum
import Derived.Test.YtkadjbpmnpcfhaaMem
set_option maxHeartbeats 400000
set_option maxRecDepth 100000
set_option linter.unusedVariables false
set_option linter.unusedSimpArgs false
namespace Go.Proofs.Ytkadjbpmnpcfhaa
open Go.RowKit
theorem rput_any (base : Nat) (A : Option Addr) (c : Nat) (xs : List Int) (v : Int) (w : World) (hv0 : 0 ≤ v) (hv1 : v < 18446744073709551616)
    (hown : w.ownsRow base 5 1 (.slice A xs.length c) xs.length (xs.map (Value.int .u8))) (hb : base ≤ w.heap.size) (hn : xs.length ≤ 1099511627776) :
    Calls Try.prog 51 #[.slice A xs.length c, .int .u64 v] w (RetMoved 5 .u8 base (.slice A xs.length c) (xs ++ putU v) w) := by
  go_enter Try.func51, Try.ntmps51
  go_wp2
  go_loopw [0, 1] (fun p q wr => ∃ (A' : Option Addr) (c' : Nat) (ys : List Int) (v' : Int), p = .slice A' (xs.length + ys.length) c' ∧ q = .int .u64 v' ∧ 0 ≤ v' ∧ v' < 18446744073709551616 ∧ Hid (ys ++ putU v' = putU v) ∧
      wr.ownsRow base 5 1 (.slice A' (xs.length + ys.length) c') (xs.length + ys.length) ((xs ++ ys).map (Value.int .u8)) ∧ Below base w wr ∧ base ≤ wr.heap.size ∧ Moved w wr (.slice A xs.length c) p) (fun _ q _ => (intOf q).toNat)
  case atStart => exact ⟨A, c, [], v, rfl, rfl, hv0, hv1, rfl, by simpa using hown, Below.refl _ _, hb, Moved.refl _ _⟩
  case round =>
    obtain ⟨A', c', ys, v', rfl, rfl, h0, h1, hy, ho, hbw, hbs, hmv⟩ := hrel
    have hyl : ys.length ≤ 10 := by have := congrArg List.length hy.out; have := putU_ten hv1; simp at *; omega
    by_cases hlt : 128 ≤ v'
    · have hgt : (127 : Int) < v' := by omega
      have hw8 : (v' % 128 + 128) % 256 = v' % 128 + 128 := by omega
      go_wp2_with (at_builtin; refine wpList_app1 _ (.tmp 7) (.tmp 12) elU8 (by rfl) (by rfl) base (.slice A' (xs.length + ys.length) c') _ _ (by rfl) ho _ (by rfl) (by rfl) ⟨?_, ?_, hbs⟩ ?_; omega; omega; intro A1 c1 w1 ho1 hb1 hg1 hw1)
      go_roundw
      case rel =>
        refine ⟨A1, c1, ys ++ [v' % 128 + 128], v' / 128, by simp [Nat.add_assoc], rfl, by omega, by omega, ?_, ?_, hbw.trans hb1, Nat.le_trans hbs hb1.size, hmv.trans ⟨hg1, hw1.imp id (fun h => ⟨_, h, by omega⟩)⟩⟩
        · have := hy.out
          rw [putU_big hlt] at this
          simpa [Hid] using this
        · simpa [Nat.add_assoc] using ho1
      case measure => simp [intOf]; omega
    · have hsm := putU_small (v := v') (by omega)
      have hyy : xs ++ putU v = (xs ++ ys) ++ [v'] := by rw [← hy.out, hsm]; simp
      have Hyy := Lib.hid hyy
      clear hyy hsm
      have hm : v' % 256 = v' := by omega
      have hgt : ¬ (127 : Int) < v' := by omega
      go_wp2_with (at_builtin; refine wpList_app1 _ (.tmp 16) (.tmp 19) elU8 (by rfl) (by rfl) base (.slice A' (xs.length + ys.length) c') _ _ (by rfl) ho _ (by rfl) (by rfl) ⟨?_, ?_, hbs⟩ ?_; omega; omega; intro A1 c1 w1 ho1 hb1 hg1 hw1)
      go_ret
      have hmv1 := hmv.trans ⟨hg1, hw1.imp id (fun h => ⟨_, h, by omega⟩)⟩
      refine ⟨A1, c1, ?_, ?_, hbw.trans hb1, ?_⟩
      · rw [Hyy.out]; simp [Nat.add_assoc]
      · rw [Hyy.out]; simpa [Nat.add_assoc] using ho1
      · rw [Hyy.out]; simpa [Nat.add_assoc] using hmv1
theorem rputInt_any (base : Nat) (A : Option Addr) (c : Nat) (xs : List Int) (v : Int) (w : World) (h0 : -9223372036854775808 ≤ v) (h1 : v ≤ 9223372036854775807)
    (hown : w.ownsRow base 5 1 (.slice A xs.length c) xs.length (xs.map (Value.int .u8))) (hb : base ≤ w.heap.size) (hn : xs.length ≤ 1099511627776) :
    Calls Try.prog 53 #[.slice A xs.length c, .int .i64 v] w (RetMoved 5 .u8 base (.slice A xs.length c) (xs ++ putI v) w) := by
  have hz := zig_range h0 h1
  by_cases hneg : v < 0
  · have hp : putI v = putU (2 * -(v + 1) + 1) := by simp [putI, zig, hneg]
    rw [hp]
    clear hp
    go_enter Try.func53, Try.ntmps53
    go_wp2_with (go_at_call 51; refine (rput_any base A c xs (2 * -(v + 1) + 1) w (by omega) (by omega) hown hb hn).mono ?_; rintro e w1 ⟨A1, c1, rfl, ho1, hb1, hm1⟩)
    go_ret
    exact ⟨A1, c1, ret_slice (by simp), ho1, hb1, hm1⟩
  · have hp : putI v = putU (2 * v) := by simp [putI, zig, hneg]
    rw [hp]
    clear hp
    go_enter Try.func53, Try.ntmps53
    go_wp2_with (go_at_call 51; refine (rput_any base A c xs (2 * v) w (by omega) (by omega) hown hb hn).mono ?_; rintro e w1 ⟨A1, c1, rfl, ho1, hb1, hm1⟩)
    go_ret
    exact ⟨A1, c1, ret_slice (by simp), ho1, hb1, hm1⟩
end Go.Proofs.Ytkadjbpmnpcfhaa
