/-
  Walk of the reference's Same.
-/
import Derived.Test.YtkadjbpmnpcfhaaRefC
import Derived.Test.YtkadjbpmnpcfhaaEq
import Derived.Deep.RegionHeld3
import Derived.Deep.DrawnRows
set_option maxHeartbeats 1000000
set_option maxRecDepth 100000
set_option linter.unusedVariables false
set_option linter.unusedSimpArgs false
namespace Go.Proofs.Ytkadjbpmnpcfhaa
open Go.RowKit
theorem clenTo_above (c : Nat → Int) (n : Nat) : ∀ i, clenTo c n ≤ i → i < n → c i = 0 := by
  induction n with
  | zero => intro i h1 h2; omega
  | succ n ih =>
    intro i h1 h2
    simp only [clenTo] at h1
    split at h1
    · rename_i h
      by_cases hi : i = n
      · rw [hi]; exact h
      · exact ih i h1 (by omega)
    · omega
theorem clenTo_last (c : Nat → Int) (n : Nat) (h : 0 < clenTo c n) : c (clenTo c n - 1) ≠ 0 := by
  induction n with
  | zero => simp [clenTo] at h
  | succ n ih =>
    simp only [clenTo] at h ⊢
    split
    · rename_i h1; rw [if_pos h1] at h; exact ih h
    · rename_i h1; simpa using h1
theorem clenTo_congr {a b : Nat → Int} {n : Nat} (h : ∀ i < n, a i = b i) : clenTo a n = clenTo b n := by
  induction n with
  | zero => rfl
  | succ n ih => simp only [clenTo]; rw [h n (by omega), ih (fun i hi => h i (by omega))]
theorem clk_all {xs : List Int} {n : Nat} (hl : xs.length ≤ 16) : clenTo (clkOf xs) xs.length ≤ xs.length := clenTo_le _ _
theorem same_of_trim {xs ys : List Int} (hx : xs.length ≤ 16) (hy : ys.length ≤ 16) (hl : clenTo (clkOf xs) xs.length = clenTo (clkOf ys) ys.length)
    (h : ∀ i < clenTo (clkOf xs) xs.length, clkOf xs i = clkOf ys i) : sameTo (clkOf xs) (clkOf ys) 16 = true := by
  rw [sameTo_iff]
  intro i hi
  by_cases h1 : i < clenTo (clkOf xs) xs.length
  · exact h i h1
  · rw [← clen_of hx] at h1
    rw [← clen_of hx, ← clen_of hy] at hl
    have e1 := clenTo_above (clkOf xs) 16 i (Nat.le_of_not_lt h1) hi
    have e2 := clenTo_above (clkOf ys) 16 i (by rw [hl] at h1; exact Nat.le_of_not_lt h1) hi
    rw [e1, e2]
theorem trim_of_same {xs ys : List Int} (hx : xs.length ≤ 16) (hy : ys.length ≤ 16) (h : sameTo (clkOf xs) (clkOf ys) 16 = true) :
    clenTo (clkOf xs) xs.length = clenTo (clkOf ys) ys.length := by
  rw [← clen_of hx, ← clen_of hy]
  exact clenTo_congr ((sameTo_iff _ _ _).1 h)
theorem Same_any (x y : RR) (C D : Option Addr) (cc dd : Nat) (A B : Option Addr) (c d : Nat) (w : World) (hx : RAt w x C cc A c) (hy : RAt w y D dd B d) :
    Calls Try.prog 28 #[.agg (rrA x C cc A c), .agg (rrA y D dd B d)] w fun e w' => e = .returned (.bool (recEq (toRe x) (toRe y))) ∧ Ext w w' := by
  have hs1 := rrA_size x C cc A c
  have hs2 := rrA_size y D dd B d
  obtain ⟨W, hW0⟩ : ∃ W : World, W = (w.alloc (.cells (rrA x C cc A c) 29)).alloc (.cells (rrA y D dd B d) 29) := ⟨_, rfl⟩
  have hB1 : Blk W w.heap.size 29 (rrA x C cc A c) := by rw [hW0]; exact (Blk.new w _ _).ext ((Ext.refl _).alloc _)
  have hB2 : Blk W (w.heap.size + 1) 29 (rrA y D dd B d) := by rw [hW0]; exact Blk.new2 w _ _ _ _
  have hx0 : Ext w W := by rw [hW0]; exact ((Ext.refl w).alloc _).alloc _
  have hW := Lib.hid hW0
  clear hW0
  have hre := Lib.hid (show recEq (toRe x) (toRe y) = (x.comp == y.comp && x.seq == y.seq && sameTo (clkOf x.clock) (clkOf y.clock) 16 && x.what == y.what && evEq x.ev y.ev && x.count == y.count) from rfl)
  have Hst := Lib.hid (same_of_trim hx.cl hy.cl)
  have Hts := Lib.hid (trim_of_same hx.cl hy.cl)
  have hn1 := clenTo_le (clkOf x.clock) x.clock.length
  have hn2 := clenTo_le (clkOf y.clock) y.clock.length
  have K1 := Lib.hid (fun w' (e : Ext w w') => Trim_any C cc x.clock w' (hx.clock.ext e) hx.ccl.1 hx.ccl.2)
  have K2 := Lib.hid (fun w' (e : Ext w w') => Trim_any D dd y.clock w' (hy.clock.ext e) hy.ccl.1 hy.ccl.2)
  have K3 := Lib.hid (fun w' (e : Ext w w') => SameEvent_any x.ev y.ev A B c d w' (hx.args.ext e) (hy.args.ext e) (by have := hx.al; omega))
  have HA1 := Lib.hid hx.clock
  have HA2 := Lib.hid hy.clock
  have hxl := hx.cl
  have hyl := hy.cl
  generalize recEq (toRe x) (toRe y) = req at *
  generalize evEq x.ev y.ev = ee at *
  have Hsm := Lib.hid (sameTo_iff (clkOf x.clock) (clkOf y.clock) 16)
  generalize sameTo (clkOf x.clock) (clkOf y.clock) 16 = sm at *
  generalize clenTo (clkOf x.clock) x.clock.length = n1 at *
  generalize clenTo (clkOf y.clock) y.clock.length = n2 at *
  have HC1 := Lib.hid hB1.cell
  have HC2 := Lib.hid hB2.cell
  have tk1 : True := trivial
  have tk2 : True := trivial
  have tk3 : True := trivial
  have tk4 : True := trivial
  have c14 : W.cell? ⟨w.heap.size, 4, none⟩ = some (.slice C x.clock.length cc) := HC1.out 4
  have c24 : W.cell? ⟨w.heap.size + 1, 4, none⟩ = some (.slice D y.clock.length dd) := HC2.out 4
  have hE1 : Hid (W.drew.rangeAt w.heap.size 5 (evA x.ev A c).toList) := (hB1.ext (Ext.refl _).drew).rev
  have hE2 : Hid (W.drew.rangeAt (w.heap.size + 1) 5 (evA y.ev B d).toList) := (hB2.ext (Ext.refl _).drew).rev
  have hxd : Ext w W.drew := hx0.drew
  clear hB1 hB2
  by_cases hall : x.what = y.what ∧ x.comp = y.comp ∧ x.seq = y.seq ∧ x.count = y.count ∧ n1 = n2 ∧ ee = true
  · obtain ⟨e1, e2, e3, e4, e5, e6⟩ := hall
    have b1 : (x.what != y.what) = false := by simp [e1]
    have b2 : (x.comp != y.comp) = false := by simp [e2]
    have b3 : (x.seq != y.seq) = false := by simp [e3]
    have b4 : (x.count != y.count) = false := by simp [e4]
    have b5 : ((n1 : Int) != (n2 : Int)) = false := by simp [e5]
    have hre' : Hid (req = sm) := by unfold Hid; rw [hre.out]; simp [e1, e2, e3, e4, e6]
    have E5 := Lib.hid e5
    clear e1 e2 e3 e4 e5 hre
    subst e6
    go_enter Try.func28, Try.ntmps28
    go_wp2
    rw [← hW.out]
    clear hW
    go_region_held3 (fun w' => w'.cell? ⟨w.heap.size, 4, none⟩ = some (.slice C x.clock.length cc) ∧ w'.cell? ⟨w.heap.size + 1, 4, none⟩ = some (.slice D y.clock.length dd)) (go_keep)
      (first
        | (have _t := tk1; go_at_call 52; refine (K1.out W.drew hx0.drew).mono ?_; rintro e w1 ⟨rfl, rfl⟩; clear tk1)
        | (go_at_call 52; refine (K2.out W.drew hx0.drew).mono ?_; rintro e w1 ⟨rfl, rfl⟩))
    have hC1 := HC1.out
    have hC2 := HC2.out
    go_wp2_with (first
      | (have _t := tk3; refine wpList_load_rg 27 (.tmp 48) (by rfl) (by rfl) w.heap.size 5 (evA x.ev A c) (by rfl) Try.underlying27 (by rfl) ev_size hE1.out ?_; clear tk3)
      | (have _t := tk4; refine wpList_load_rg 27 (.tmp 50) (by rfl) (by rfl) (w.heap.size + 1) 5 (evA y.ev B d) (by rfl) Try.underlying27 (by rfl) ev_size hE2.out ?_; clear tk4)
      | (go_at_call 56; refine (K3.out W.drew hxd).mono ?_; rintro e w2 ⟨rfl, hx2⟩))
    have hx3 : Ext w w2 := hxd.trans hx2
    clear hC1 hC2 HC1 HC2 hE1 hE2 c14 c24 K1 K2 K3 hx hy hs1 hs2
    go_loopw [57] (fun i wr => ∃ k : Nat, k ≤ n1 ∧ i = .int .i64 k ∧ Hid (∀ j < k, clkOf x.clock j = clkOf y.clock j) ∧ Ext w2 wr) (fun i _ => n1 - (intOf i).toNat)
    case atStart => exact ⟨0, by omega, rfl, (fun j hj => absurd hj (Nat.not_lt_zero j)), Ext.refl w2⟩
    case round =>
      obtain ⟨k, hk, rfl, ht, hxr⟩ := hrel
      by_cases hlt : k < n1
      · have hn : k < n2 := by have := E5.out; omega
        have hl1 : k < x.clock.length := by omega
        have hl2 : k < y.clock.length := by omega
        obtain ⟨q1, o1, rfl, hc1⟩ := ((HA1.out.ext hx3).ext hxr).cell (j := k) (v := .int .u64 x.clock[k]) (by simp [hl1])
        obtain ⟨q2, o2, rfl, hc2⟩ := ((HA2.out.ext hx3).ext hxr).cell (j := k) (v := .int .u64 y.clock[k]) (by simp [hl2])
        have hk1 : Hid (clkOf x.clock k = x.clock[k]) := by unfold Hid; simp [clkOf, hl1]
        have hk2 : Hid (clkOf y.clock k = y.clock[k]) := by unfold Hid; simp [clkOf, hl2]
        have h3 : (0 : Int) ≤ (k : Int) := by omega
        have h4 : (k : Int) < (n1 : Int) := by omega
        have h5 : (k : Int) < (n2 : Int) := by omega
        generalize x.clock[k] = u at *
        generalize y.clock[k] = v at *
        by_cases he : u = v
        · subst he
          have hbe : (u != u) = false := by simp
          go_wp2
          go_quiet (fail)
          go_wp2
          go_roundw
          case rel =>
            refine ⟨k + 1, by omega, by go_num, ?_, hxr.drewN _⟩
            intro j hj
            by_cases hj' : j = k
            · rw [hj', hk1.out, hk2.out]
            · exact ht.out j (by omega)
          case measure => simp [intOf]; omega
        · have hbe : (u != v) = true := by simp [he]
          go_wp2
          go_quiet (fail)
          go_wp2
          go_ret
          refine ⟨ret_bool ?_, hx3.trans (hxr.drewN _)⟩
          rw [hre'.out]
          cases hsm : sm with
          | false => rfl
          | true => exact absurd ((Hsm.out.1 hsm) k (by omega)) (by rw [hk1.out, hk2.out]; exact he)
      · go_wp2
        go_ret
        refine ⟨ret_bool ?_, hx3.trans hxr⟩
        rw [hre'.out, Hst.out E5.out (fun i hi => ht.out i (by omega))]
  · have hrf : req = false := by
      cases hq : req with
      | false => rfl
      | true =>
        exfalso
        apply hall
        have h1 := hre.out
        rw [hq] at h1
        have h2 := h1.symm
        simp only [Bool.and_eq_true, beq_iff_eq] at h2
        obtain ⟨⟨⟨⟨⟨g1, g2⟩, g3⟩, g4⟩, g5⟩, g6⟩ := h2
        exact ⟨g4, g1, g2, g6, Hts.out g3, g5⟩
    subst hrf
    have Hall := Lib.hid hall
    clear hall hre Hst Hts Hsm
    go_enter Try.func28, Try.ntmps28
    go_wp2
    rw [← hW.out]
    clear hW
    go_region_held3 (fun w' => w'.cell? ⟨w.heap.size, 4, none⟩ = some (.slice C x.clock.length cc) ∧ w'.cell? ⟨w.heap.size + 1, 4, none⟩ = some (.slice D y.clock.length dd)) (go_keep)
      (first
        | (have _t := tk1; go_at_call 52; refine (K1.out W.drew hx0.drew).mono ?_; rintro e w1 ⟨rfl, rfl⟩; clear tk1)
        | (go_at_call 52; refine (K2.out W.drew hx0.drew).mono ?_; rintro e w1 ⟨rfl, rfl⟩))
    have hC1 := HC1.out
    have hC2 := HC2.out
    go_wp2_with (first
      | (have _t := tk3; refine wpList_load_rg 27 (.tmp 48) (by rfl) (by rfl) w.heap.size 5 (evA x.ev A c) (by rfl) Try.underlying27 (by rfl) ev_size hE1.out ?_; clear tk3)
      | (have _t := tk4; refine wpList_load_rg 27 (.tmp 50) (by rfl) (by rfl) (w.heap.size + 1) 5 (evA y.ev B d) (by rfl) Try.underlying27 (by rfl) ev_size hE2.out ?_; clear tk4)
      | (go_at_call 56; refine (K3.out W.drew hxd).mono ?_; rintro e w2 ⟨rfl, hx2⟩))
    all_goals first
      | (go_ret; refine ⟨ret_bool rfl, ?_⟩; first | exact hxd | exact hxd.trans hx2)
      | (exfalso; apply Hall.out; clear hx hy HA1 HA2 hE1 hE2 K1 K2 K3 HC1 HC2 hC1 hC2; refine ⟨?_, ?_, ?_, ?_, ?_, ?_⟩ <;> first | omega | (simp_all; done) | (simp_all; omega))
end Go.Proofs.Ytkadjbpmnpcfhaa
