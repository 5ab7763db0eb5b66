/-
  Walks of package num: put, PutUint, Zigzag, PutInt.
-/
import Derived.Test.YtepkcbalmjnhpaaGreatRows
import Derived.Test.YtepkcbalmjnhpaaGreatBase
import Derived.Test.YtepkcbalmjnhpaaGreatPlain
set_option maxHeartbeats 400000
set_option linter.unusedVariables false
set_option linter.unusedSimpArgs false
namespace Go.Proofs.YtepkcbalmjnhpaaGreat
open Go.RowKit

theorem elU8 : El Tryz.prog 35 5 (.int .u8 0) 1 1 := El.of Tryz.underlying35 (by kernel_rfl) rfl (by decide)

theorem put_any (base : Nat) (A : Option Addr) (c : Nat) (xs : List Int) (v : Int) (w : World) (hv0 : 0 ≤ v) (hv1 : v < 18446744073709551616)
    (hown : w.ownsRow base 5 1 (.slice A xs.length c) xs.length (xs.map (Value.int .u8))) (hb : base ≤ w.heap.size) (hn : xs.length ≤ 1099511627776) :
    Calls Tryz.prog 128 #[.slice A xs.length c, .int .u64 v] w (RetInts 5 .u8 base (xs ++ putU v) w) := by
  go_enter Tryz.func128, Tryz.ntmps128
  go_wp2
  go_loopw [0, 1] (fun p q wr => ∃ (A' : Option Addr) (c' : Nat) (ys : List Int) (v' : Int), p = .slice A' (xs.length + ys.length) c' ∧ q = .int .u64 v' ∧ 0 ≤ v' ∧ v' < 18446744073709551616 ∧ Hid (ys ++ putU v' = putU v) ∧
      wr.ownsRow base 5 1 (.slice A' (xs.length + ys.length) c') (xs.length + ys.length) ((xs ++ ys).map (Value.int .u8)) ∧ Below base w wr ∧ base ≤ wr.heap.size) (fun _ q _ => (intOf q).toNat)
  case atStart => exact ⟨A, c, [], v, rfl, rfl, hv0, hv1, rfl, by simpa using hown, Below.refl _ _, hb⟩
  case round =>
    obtain ⟨A', c', ys, v', rfl, rfl, h0, h1, hy, ho, hbw, hbs⟩ := hrel
    have hyl : ys.length ≤ 10 := by have := congrArg List.length hy.out; have := putU_ten hv1; simp at *; omega
    by_cases hlt : 128 ≤ v'
    · have hor := or_128 h0
      go_wp2_with (at_builtin; refine wpList_app1 _ (.tmp 7) (.tmp 11) elU8 (by rfl) (by rfl) base (.slice A' (xs.length + ys.length) c') _ _ (by rfl) ho _ (by rfl) (by rfl) ⟨?_, ?_, hbs⟩ ?_; omega; omega; intro A1 c1 w1 ho1 hb1 hg1 hw1)
      go_roundw
      case rel =>
        refine ⟨A1, c1, ys ++ [v' % 128 + 128], v' / 128, by simp [Nat.add_assoc], rfl, by omega, by omega, ?_, ?_, hbw.trans hb1, Nat.le_trans hbs hb1.size⟩
        · have := hy.out
          rw [putU_big hlt] at this
          simpa [Hid] using this
        · simpa [Nat.add_assoc] using ho1
      case measure => simp [intOf]; omega
    · have hsm := putU_small (v := v') (by omega)
      have hyy : xs ++ putU v = (xs ++ ys) ++ [v'] := by rw [← hy.out, hsm]; simp
      have Hyy := Lib.hid hyy
      clear hyy hsm
      have hm : v' % 256 = v' := by omega
      go_wp2_with (at_builtin; refine wpList_app1 _ (.tmp 15) (.tmp 18) elU8 (by rfl) (by rfl) base (.slice A' (xs.length + ys.length) c') _ _ (by rfl) ho _ (by rfl) (by rfl) ⟨?_, ?_, hbs⟩ ?_; omega; omega; intro A1 c1 w1 ho1 hb1 hg1 hw1)
      go_ret
      refine ⟨A1, c1, ?_, ?_, hbw.trans hb1⟩
      · rw [Hyy.out]; simp [Nat.add_assoc]
      · rw [Hyy.out]; simpa [Nat.add_assoc] using ho1

theorem PutUint_any (A : Option Addr) (c : Nat) (xs : List Int) (v : Int) (w : World) (hv0 : 0 ≤ v) (hv1 : v < 18446744073709551616)
    (hat : At w A (xs.map (Value.int .u8))) (hn : xs.length ≤ 1099511627776) :
    Calls Tryz.prog 82 #[.slice A xs.length c, .int .u64 v] w (RetInts 5 .u8 w.heap.size (xs ++ putU v) w) := by
  go_enter Tryz.func82, Tryz.ntmps82
  go_wp2_with (first
    | (at_make; refine wpList_mk0 _ _ _ elU8 (by rfl) (by rfl) (xs.length + 10) _ (by rfl) (by rfl) (by omega) ⟨?_, ?_⟩ ?_; omega; omega; intro w1 ho1 he1 hs1)
    | (at_builtin; refine wpList_app _ (.tmp 10) (.tmp 11) elU8 (by rfl) (by rfl) w.heap.size _ 0 [] (by rfl) ho1 A xs.length c (xs.map (Value.int .u8)) (by rfl) ?_ (hat.ext he1) (ints_one _ _) ?_ ?_ ?_ ?_; simp; omega; omega; omega; intro A2 c2 w2 ho2 hb2 hg2 hl2))
  have h12 : Ext w w2 := Below.trans he1.below hb2
  refine (put_any w.heap.size A2 c2 xs v _ hv0 hv1 (by simpa using ho2) h12.size hn).mono ?_
  rintro e w3 ⟨A3, c3, rfl, ho3, hb3⟩
  go_wp2
  go_ret
  exact ⟨A3, c3, ret_slice (by simp), ho3, Below.trans h12 hb3⟩

theorem Zigzag_any (v : Int) (w : World) (h0 : -9223372036854775808 ≤ v) (h1 : v ≤ 9223372036854775807) :
    Calls Tryz.prog 151 #[.int .i64 v] w fun e w' => e = .returned (.int .u64 (zig v)) ∧ w = w' := by
  by_cases hneg : v < 0
  · go_enter Tryz.func151, Tryz.ntmps151
    go_wp2
    go_ret
    exact ⟨ret_int (zig_neg h0 hneg), rfl⟩
  · go_enter Tryz.func151, Tryz.ntmps151
    go_wp2
    go_ret
    exact ⟨ret_int (zig_pos (by omega)), rfl⟩

theorem PutInt_any (A : Option Addr) (c : Nat) (xs : List Int) (v : Int) (w : World) (h0 : -9223372036854775808 ≤ v) (h1 : v ≤ 9223372036854775807)
    (hat : At w A (xs.map (Value.int .u8))) (hn : xs.length ≤ 1099511627776) :
    Calls Tryz.prog 112 #[.slice A xs.length c, .int .i64 v] w (RetInts 5 .u8 w.heap.size (xs ++ putI v) w) := by
  have hz := zig_range h0 h1
  go_enter Tryz.func112, Tryz.ntmps112
  go_wp2_with (first
    | (go_at_call 151; refine (Zigzag_any _ _ h0 h1).mono ?_; rintro e w' ⟨rfl, rfl⟩)
    | (go_at_call 82; refine (PutUint_any A c xs (zig v) _ hz.1 hz.2 hat hn).mono ?_; rintro e w1 ⟨A1, c1, rfl, ho1, hb1⟩))
  go_ret
  exact ⟨A1, c1, ret_slice (by simp [putI]), ho1, hb1⟩
end Go.Proofs.YtepkcbalmjnhpaaGreat
