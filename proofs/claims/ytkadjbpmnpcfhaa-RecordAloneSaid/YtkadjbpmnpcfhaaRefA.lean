/-
  Walks of the reference 24 and of SameEvent: in, Trim, SameEvent.
-/
import Derived.Test.YtkadjbpmnpcfhaaRecE
set_option maxHeartbeats 1000000
set_option maxRecDepth 100000
set_option linter.unusedVariables false
set_option linter.unusedSimpArgs false
namespace Go.Proofs.Ytkadjbpmnpcfhaa
open Go.RowKit
theorem in_any (n lo hi : Int) (w : World) :
    Calls Try.prog 43 #[.int .i64 n, .int .i64 lo, .int .i64 hi] w fun e w' => e = .returned (.bool (decide (lo ≤ n ∧ n ≤ hi))) ∧ w = w' := by
  by_cases h0 : lo ≤ n
  · go_enter Try.func43, Try.ntmps43
    go_wp2
    go_ret
    exact ⟨by simp [h0], rfl⟩
  · go_enter Try.func43, Try.ntmps43
    go_wp2
    go_ret
    exact ⟨by simp; omega, rfl⟩
theorem clenTo_stop {c : Nat → Int} {k : Nat} (h : c k = 0) : clenTo c (k + 1) = clenTo c k := by simp [clenTo, h]
theorem clenTo_keep {c : Nat → Int} {k : Nat} (h : c k ≠ 0) : clenTo c (k + 1) = k + 1 := by simp [clenTo, h]
theorem Trim_any (A : Option Addr) (cap : Nat) (xs : List Int) (w : World) (hat : At w A (xs.map (Value.int .u64))) (hc : xs.length ≤ cap) (hm : cap ≤ 9223372036854775807) :
    Calls Try.prog 52 #[.slice A xs.length cap] w fun e w' => e = .returned (.slice A (clenTo (clkOf xs) xs.length) cap) ∧ w = w' := by
  go_enter Try.func52, Try.ntmps52
  go_wp2
  go_loop [3] (fun n => ∃ k : Nat, k ≤ xs.length ∧ n = .int .i64 k ∧ Hid (clenTo (clkOf xs) xs.length = clenTo (clkOf xs) k)) (fun n => (intOf n).toNat)
  case atStart => exact ⟨xs.length, Nat.le_refl _, rfl, rfl⟩
  case round =>
    obtain ⟨k, hk, rfl, hz⟩ := hrel
    cases k with
    | zero =>
      have h1 : ¬ (0 : Int) < ((0 : Nat) : Int) := by omega
      go_wp2
      go_ret
      refine ⟨?_, rfl⟩
      rw [hz.out]; rfl
    | succ k =>
      have h1 : (0 : Int) < ((k : Int) + 1) := by omega
      have hlt : k < xs.length := by omega
      obtain ⟨b1, o1, rfl, hc1⟩ := hat.cell (j := k) (v := .int .u64 xs[k]) (by simp [hlt])
      have hck : clkOf xs k = xs[k] := by simp [clkOf, hlt]
      have HS := Lib.hid (clenTo_stop (c := clkOf xs) (k := k))
      have HK := Lib.hid (clenTo_keep (c := clkOf xs) (k := k))
      rw [hck] at HS HK
      have e1 : ((k + 1 : Nat) : Int) = (k : Int) + 1 := by omega
      rw [e1]
      clear hck e1
      generalize xs[k] = x at *
      by_cases hx0 : x = 0
      · have hb : (x == 0) = true := by simp [hx0]
        have h4 : (k : Int) < (xs.length : Int) := by omega
        go_wp2
        go_round
        case rel => exact ⟨k, by omega, by go_num, by have := hz.out; rw [HS.out hx0] at this; exact this⟩
        case measure => simp [intOf]
      · have hb : (x == 0) = false := by simp [hx0]
        have h4 : (k : Int) < (xs.length : Int) := by omega
        go_wp2
        go_ret
        refine ⟨?_, rfl⟩
        have hfin := hz.out
        rw [HK.out hx0] at hfin
        rw [hfin]
        simp
theorem SameEvent_any (a b : Ev) (A B : Option Addr) (c d : Nat) (w : World) (ha : At w A (a.args.map (Value.int .i64))) (hb : At w B (b.args.map (Value.int .i64))) (hn : a.args.length ≤ 1099511627776) :
    Calls Try.prog 56 #[.agg (evA a A c), .agg (evA b B d)] w fun e' w' => e' = .returned (.bool (evEq a b)) ∧ Ext w w' := by
  obtain ⟨tick, comp, kind, peer, n, copy, handler, d1, xs⟩ := a
  obtain ⟨tick', comp', kind', peer', n', copy', handler', d', ys⟩ := b
  unfold evA
  simp only at *
  by_cases hall : tick = tick' ∧ comp = comp' ∧ kind = kind' ∧ peer = peer' ∧ n = n' ∧ copy = copy' ∧ handler = handler' ∧ d1 = d' ∧ xs.length = ys.length
  · obtain ⟨rfl, rfl, rfl, rfl, rfl, rfl, rfl, rfl, hl⟩ := hall
    have hl0 : ((xs.length : Int) != (ys.length : Int)) = false := by simp [hl]
    have HL := Lib.hid hl
    have hev : evEq ⟨tick, comp, kind, peer, n, copy, handler, d1, xs⟩ ⟨tick, comp, kind, peer, n, copy, handler, d1, ys⟩ = (xs == ys) := by simp [evEq]
    rw [hev]
    clear hl hev
    go_enter Try.func56, Try.ntmps56
    go_wp2
    obtain ⟨W, hW⟩ : ∃ W : World, W = (w.alloc (.cells #[.int .i64 tick, .int .i64 comp, .int .u8 kind, .int .i64 peer, .int .i64 n, .int .i64 copy, .int .i64 handler, .int .i64 d1, .slice A xs.length c] 27)).alloc (.cells #[.int .i64 tick, .int .i64 comp, .int .u8 kind, .int .i64 peer, .int .i64 n, .int .i64 copy, .int .i64 handler, .int .i64 d1, .slice B ys.length d] 27) := ⟨_, rfl⟩
    have hA8 : W.cell? ⟨w.heap.size, 8, none⟩ = some (.slice A xs.length c) := by rw [hW]; simp
    have hB8 : W.cell? ⟨w.heap.size + 1, 8, none⟩ = some (.slice B ys.length d) := by rw [hW]; simp
    have hxW : Ext w W := by rw [hW]; exact ((Ext.refl w).alloc _).alloc _
    have hzW : w.heap.size + 1 < W.heap.size := by rw [hW]; simp
    rw [← hW]
    clear hW
    go_loopw [72] (fun i wr => ∃ k : Nat, k ≤ xs.length ∧ i = .int .i64 k ∧ Hid (xs.take k = ys.take k) ∧ Ext W wr) (fun i _ => xs.length - (intOf i).toNat)
    case atStart => exact ⟨0, by omega, rfl, rfl, Ext.refl W⟩
    case round =>
      obtain ⟨k, hk, rfl, ht, hx⟩ := hrel
      by_cases hlt : k < xs.length
      · have hlt2 : k < ys.length := by have := HL.out; omega
        obtain ⟨b1, o1, rfl, hc1⟩ := ((ha.ext hxW).ext hx).cell (j := k) (v := .int .i64 xs[k]) (by simp [hlt])
        obtain ⟨b2, o2, rfl, hc2⟩ := ((hb.ext hxW).ext hx).cell (j := k) (v := .int .i64 ys[k]) (by simp [hlt2])
        have h3 : (0 : Int) ≤ (k : Int) := by omega
        have h4 : (k : Int) < (xs.length : Int) := by omega
        have h5 : (k : Int) < (ys.length : Int) := by omega
        have hA9 := (hx.cell w.heap.size 8 (by omega)).trans hA8
        have hB9 := (hx.cell (w.heap.size + 1) 8 (by omega)).trans hB8
        have HT1 := Lib.hid (List.take_succ_eq_append_getElem hlt)
        have HT2 := Lib.hid (List.take_succ_eq_append_getElem hlt2)
        have hne := Lib.hid (take_ne (xs := xs) (ys := ys) (List.getElem?_eq_getElem hlt) (List.getElem?_eq_getElem hlt2))
        generalize xs[k] = x at *
        generalize ys[k] = y at *
        by_cases he : x = y
        · subst he
          have hbe : (x != x) = false := by simp
          go_wp2
          go_quiet (fail)
          go_wp2
          go_roundw
          case rel => exact ⟨k + 1, by omega, by go_num, by unfold Hid; rw [HT1.out, HT2.out, ht.out], hx.drewN _⟩
          case measure => simp [intOf]; omega
        · have hbe : (x != y) = true := by simp [he]
          go_wp2
          go_quiet (fail)
          go_wp2
          go_ret
          exact ⟨ret_bool (hne.out he).symm, hxW.trans (hx.drewN _)⟩
      · go_wp2
        go_ret
        refine ⟨ret_bool ?_, hxW.trans hx⟩
        have h1 := ht.out
        have h2 := HL.out
        rw [List.take_of_length_le (by omega), List.take_of_length_le (by omega)] at h1
        simp [h1]
  · have hev : evEq ⟨tick, comp, kind, peer, n, copy, handler, d1, xs⟩ ⟨tick', comp', kind', peer', n', copy', handler', d', ys⟩ = false := by
      rw [Bool.eq_false_iff]
      intro h
      apply hall
      unfold evEq at h
      simp only [Bool.and_eq_true, beq_iff_eq] at h
      obtain ⟨⟨⟨⟨⟨⟨⟨⟨h1, h2⟩, h3⟩, h4⟩, h5⟩, h6⟩, h7⟩, h8⟩, h9⟩ := h
      exact ⟨h1, h2, h3, h4, h5, h6, h7, h8, by rw [h9]⟩
    rw [hev]
    have Hall := Lib.hid hall
    clear hall hev
    go_enter Try.func56, Try.ntmps56
    go_wp2
    all_goals first
      | (go_ret; exact ⟨rfl, ((Ext.refl w).alloc _).alloc _⟩)
      | (exfalso; apply Hall.out; clear ha hb hn; refine ⟨?_, ?_, ?_, ?_, ?_, ?_, ?_, ?_, ?_⟩ <;> first | omega | (simp_all; done) | (simp_all; omega))
end Go.Proofs.Ytkadjbpmnpcfhaa
