/-
  Walks of slices.Equal at bytes and at int64.
-/
import Derived.Test.YtepkcbalmjnhpaaGreatNum
set_option maxHeartbeats 400000
set_option linter.unusedVariables false
set_option linter.unusedSimpArgs false
namespace Go.Proofs.YtepkcbalmjnhpaaGreat
open Go.RowKit
theorem take_ne {xs ys : List Int} {k : Nat} {x y : Int} (hx : xs[k]? = some x) (hy : ys[k]? = some y) (h : x ≠ y) : (xs == ys) = false := by
  rw [beq_eq_false_iff_ne]; rintro rfl
  rw [hx] at hy; injection hy with hy; exact h hy

theorem slEqI64_any (A B : Option Addr) (c d : Nat) (xs ys : List Int) (w : World) (ha : At w A (xs.map (Value.int .i64))) (hb : At w B (ys.map (Value.int .i64))) (hn : xs.length ≤ 1099511627776) :
    Calls Tryz.prog 125 #[.slice A xs.length c, .slice B ys.length d] w fun e w' => e = .returned (.bool (xs == ys)) ∧ Ext w w' := by
  by_cases hl : xs.length = ys.length
  · have hl0 : ((xs.length : Int) != (ys.length : Int)) = false := by simp [hl]
    have HL := Lib.hid hl
    clear hl
    go_enter Tryz.func125, Tryz.ntmps125
    go_wp2
    go_loopw [13] (fun i wr => ∃ k : Nat, k ≤ xs.length ∧ i = .int .i64 k ∧ Hid (xs.take k = ys.take k) ∧ Ext w wr) (fun i _ => xs.length - (intOf i).toNat)
    case atStart => exact ⟨0, by omega, rfl, rfl, Ext.refl w⟩
    case round =>
      obtain ⟨k, hk, rfl, ht, hx⟩ := hrel
      by_cases hlt : k < xs.length
      · have hlt2 : k < ys.length := by have := HL.out; omega
        obtain ⟨b1, o1, rfl, hc1⟩ := (ha.ext hx).cell (j := k) (v := .int .i64 xs[k]) (by simp [hlt])
        obtain ⟨b2, o2, rfl, hc2⟩ := (hb.ext hx).cell (j := k) (v := .int .i64 ys[k]) (by simp [hlt2])
        have h3 : (0 : Int) ≤ (k : Int) := by omega
        have h4 : (k : Int) < (xs.length : Int) := by omega
        have h5 : (k : Int) < (ys.length : Int) := by omega
        have ht1 : xs.take (k + 1) = xs.take k ++ [xs[k]] := List.take_succ_eq_append_getElem (by omega)
        have ht2 : ys.take (k + 1) = ys.take k ++ [ys[k]] := List.take_succ_eq_append_getElem (by omega)
        have hne := Lib.hid (take_ne (xs := xs) (ys := ys) (List.getElem?_eq_getElem hlt) (List.getElem?_eq_getElem hlt2))
        have HT1 := Lib.hid ht1
        have HT2 := Lib.hid ht2
        clear ht1 ht2
        generalize xs[k] = x at *
        generalize ys[k] = y at *
        by_cases he : x = y
        · subst he
          have hbe : (x != x) = false := by simp
          go_wp2
          go_quiet (fail)
          go_wp2
          go_roundw
          case rel => exact ⟨k + 1, by omega, by go_num, by unfold Hid; rw [HT1.out, HT2.out, ht.out], hx.drewN _⟩
          case measure => simp [intOf]; omega
        · have hbe : (x != y) = true := by simp [he]
          go_wp2
          go_quiet (fail)
          go_wp2
          go_ret
          exact ⟨ret_bool (hne.out he).symm, hx.drewN _⟩
      · go_wp2
        go_ret
        refine ⟨ret_bool ?_, hx⟩
        have h1 := ht.out
        have h2 := HL.out
        rw [List.take_of_length_le (by omega), List.take_of_length_le (by omega)] at h1
        simp [h1]
  · have hl0 : ((xs.length : Int) != (ys.length : Int)) = true := by simp; omega
    go_enter Tryz.func125, Tryz.ntmps125
    go_wp2
    go_ret
    refine ⟨ret_bool ?_, Ext.refl w⟩
    symm
    rw [beq_eq_false_iff_ne]
    rintro rfl
    exact hl rfl

end Go.Proofs.YtepkcbalmjnhpaaGreat
