/-
  Walks of the reference 24: Valid, the other kinds.
-/
import Derived.Test.YtkadjbpmnpcfhaaRefB
set_option maxHeartbeats 1000000
set_option maxRecDepth 100000
set_option linter.unusedVariables false
set_option linter.unusedSimpArgs false
namespace Go.Proofs.Ytkadjbpmnpcfhaa
open Go.RowKit
theorem Valid_rest (x : RR) (C : Option Addr) (cc : Nat) (A : Option Addr) (c : Nat) (w : World) (hR : RAt w x C cc A c) (hu : U64 x.seq) (hib : inB x.comp 8 = true) (h1 : ¬ x.what = 1) :
    Calls Try.prog 21 #[.agg (rrA x C cc A c)] w fun e w' => e = .returned (.bool (validB (toRe x))) ∧ Ext w w' := by
  have hs := rrA_size x C cc A c
  have hB : Blk (w.alloc (.cells (rrA x C cc A c) 29)) w.heap.size 29 (rrA x C cc A c) := Blk.new w _ _
  have hx0 : Ext w (w.alloc (.cells (rrA x C cc A c) 29)) := (Ext.refl w).alloc _
  have hu0 := hu.1
  have hu1 := hu.2
  have hv := Lib.hid (show validB (toRe x) = ((if x.what = 1 then evOk x.ev x.comp && x.count == 0
    else if x.what = 2 then bareB (toRe x) && decide (0 < x.count) && decide (x.count ≤ 18446744073709551615 - x.seq)
    else if x.what = 3 then bareB (toRe x) && x.count == 0 else false) && inB x.comp 8) from rfl)
  generalize validB (toRe x) = va at *
  rw [hib] at hv
  have K2a := fun w' (e : Ext w w') => zero_any x C cc A c w' (hR.ext e)
  generalize bareB (toRe x) = br at *
  have K2 := Lib.hid K2a
  clear K2a
  by_cases h2 : x.what = 2
  · have b1 : (x.what == 1) = false := by simp [h1]
    have b2 : (x.what == 2) = true := by simp [h2]
    have hv' : Hid (va = (br && decide (0 < x.count) && decide (x.count ≤ 18446744073709551615 - x.seq))) := by rw [hv.out, if_neg h1, if_pos h2]; exact Bool.and_true _
    clear hv h1 h2
    have tk1 : True := trivial
    have tk2 : True := trivial
    have tk3 : True := trivial
    have tk4 : True := trivial
    go_enter Try.func21, Try.ntmps21
    go_wp2_with (first
      | (go_at_call 43; refine (in0_any _ _ _).mono ?_; rintro e w1 ⟨rfl, rfl⟩)
      | (have _t := tk1; refine wpList_load_rg 27 (.tmp 8) (by rfl) (by rfl) w.heap.size 5 (evA x.ev A c) (by rfl) Try.underlying27 (by rfl) ev_size hB.rev ?_; clear tk1)
      | (have _t := tk2; refine wpList_alloc_blk 27 (by rfl) (by rfl) (evA ev0 none 0) ev_zero ?_; intro w4 hB4 hx4 hs4; clear tk2)
      | (have _t := tk3; refine wpList_store_all 27 (.tmp 3) (.tmp 9) (by rfl) (by rfl) (w.alloc (.cells (rrA x C cc A c) 29)).heap.size 27 (evA ev0 none 0) (evA x.ev A c) (by rfl) (by rfl) ev_size rfl (evA_one _ _ _) hB4 ?_; intro w5 hB5 hu5; have hx5 := hu5.ext (hx0.trans hx4) hx0.size; have hb5 := hu5.blk (hB.ext hx4) (by simp); have hr5 := hb5.cell; clear tk3)
      | (have _t := tk4; refine wpList_load_rg 29 (.tmp 1) (by rfl) (by rfl) w.heap.size 0 (rrA x C cc A c) (by rfl) Try.underlying29 (by rfl) rr_size hb5.range ?_; clear tk4)
      | (go_at_call 44; refine (K2.out _ hx5).mono ?_; rintro e w6 ⟨rfl, hx6⟩; have hC6 := (hb5.ext hx6).cell; have hx56 := hx5.trans hx6))
    all_goals go_ret
    all_goals refine ⟨ret_bool ?_, hx56⟩
    all_goals rw [hv'.out]
    all_goals clear hB hR hB4 hB5 hu5 K2 hb5
    all_goals first | (simp [*]; done) | (simp [*]; omega) | (simp_all; done) | (simp_all; omega)
  by_cases h3 : x.what = 3
  · have b1 : (x.what == 1) = false := by simp [h1]
    have b2 : (x.what == 2) = false := by simp [h2]
    have b3 : (x.what == 3) = true := by simp [h3]
    have hv' : Hid (va = (br && x.count == 0)) := by rw [hv.out, if_neg h1, if_neg h2, if_pos h3]; exact Bool.and_true _
    clear hv h1 h2 h3
    have tk1 : True := trivial
    have tk2 : True := trivial
    have tk3 : True := trivial
    have tk4 : True := trivial
    go_enter Try.func21, Try.ntmps21
    go_wp2_with (first
      | (go_at_call 43; refine (in0_any _ _ _).mono ?_; rintro e w1 ⟨rfl, rfl⟩)
      | (have _t := tk1; refine wpList_load_rg 27 (.tmp 8) (by rfl) (by rfl) w.heap.size 5 (evA x.ev A c) (by rfl) Try.underlying27 (by rfl) ev_size hB.rev ?_; clear tk1)
      | (have _t := tk2; refine wpList_alloc_blk 27 (by rfl) (by rfl) (evA ev0 none 0) ev_zero ?_; intro w4 hB4 hx4 hs4; clear tk2)
      | (have _t := tk3; refine wpList_store_all 27 (.tmp 3) (.tmp 9) (by rfl) (by rfl) (w.alloc (.cells (rrA x C cc A c) 29)).heap.size 27 (evA ev0 none 0) (evA x.ev A c) (by rfl) (by rfl) ev_size rfl (evA_one _ _ _) hB4 ?_; intro w5 hB5 hu5; have hx5 := hu5.ext (hx0.trans hx4) hx0.size; have hb5 := hu5.blk (hB.ext hx4) (by simp); have hr5 := hb5.cell; clear tk3)
      | (have _t := tk4; refine wpList_load_rg 29 (.tmp 1) (by rfl) (by rfl) w.heap.size 0 (rrA x C cc A c) (by rfl) Try.underlying29 (by rfl) rr_size hb5.range ?_; clear tk4)
      | (go_at_call 44; refine (K2.out _ hx5).mono ?_; rintro e w6 ⟨rfl, hx6⟩; have hC6 := (hb5.ext hx6).cell; have hx56 := hx5.trans hx6))
    all_goals go_ret
    all_goals refine ⟨ret_bool ?_, hx56⟩
    all_goals rw [hv'.out]
    all_goals clear hB hR hB4 hB5 hu5 K2 hb5
    all_goals first | (simp [*]; done) | (simp [*]; omega) | (simp_all; done) | (simp_all; omega)
  · have b1 : (x.what == 1) = false := by simp [h1]
    have b2 : (x.what == 2) = false := by simp [h2]
    have b3 : (x.what == 3) = false := by simp [h3]
    have hv' : Hid (va = false) := by rw [hv.out, if_neg h1, if_neg h2, if_neg h3]; exact Bool.and_true _
    clear hv h1 h2 h3
    have tk1 : True := trivial
    have tk2 : True := trivial
    have tk3 : True := trivial
    have tk4 : True := trivial
    go_enter Try.func21, Try.ntmps21
    go_wp2_with (first
      | (go_at_call 43; refine (in0_any _ _ _).mono ?_; rintro e w1 ⟨rfl, rfl⟩)
      | (have _t := tk1; refine wpList_load_rg 27 (.tmp 8) (by rfl) (by rfl) w.heap.size 5 (evA x.ev A c) (by rfl) Try.underlying27 (by rfl) ev_size hB.rev ?_; clear tk1)
      | (have _t := tk2; refine wpList_alloc_blk 27 (by rfl) (by rfl) (evA ev0 none 0) ev_zero ?_; intro w4 hB4 hx4 hs4; clear tk2)
      | (have _t := tk3; refine wpList_store_all 27 (.tmp 3) (.tmp 9) (by rfl) (by rfl) (w.alloc (.cells (rrA x C cc A c) 29)).heap.size 27 (evA ev0 none 0) (evA x.ev A c) (by rfl) (by rfl) ev_size rfl (evA_one _ _ _) hB4 ?_; intro w5 hB5 hu5; have hx5 := hu5.ext (hx0.trans hx4) hx0.size; have hb5 := hu5.blk (hB.ext hx4) (by simp); have hr5 := hb5.cell; clear tk3))
    all_goals go_ret
    all_goals exact ⟨ret_bool (by rw [hv'.out]), hx5⟩
theorem Valid_any (x : RR) (C : Option Addr) (cc : Nat) (A : Option Addr) (c : Nat) (w : World) (hR : RAt w x C cc A c) (hu : U64 x.seq) :
    Calls Try.prog 21 #[.agg (rrA x C cc A c)] w fun e w' => e = .returned (.bool (validB (toRe x))) ∧ Ext w w' := by
  cases hib : inB x.comp 8
  · have hs := rrA_size x C cc A c
    have hB : Blk (w.alloc (.cells (rrA x C cc A c) 29)) w.heap.size 29 (rrA x C cc A c) := Blk.new w _ _
    have hx0 : Ext w (w.alloc (.cells (rrA x C cc A c) 29)) := (Ext.refl w).alloc _
    have hu0 := hu.1
    have hu1 := hu.2
    have hv := Lib.hid (show validB (toRe x) = ((if x.what = 1 then evOk x.ev x.comp && x.count == 0
      else if x.what = 2 then bareB (toRe x) && decide (0 < x.count) && decide (x.count ≤ 18446744073709551615 - x.seq)
      else if x.what = 3 then bareB (toRe x) && x.count == 0 else false) && inB x.comp 8) from rfl)
    generalize validB (toRe x) = va at *
    have hv' : Hid (va = false) := by rw [hv.out, hib]; exact Bool.and_false _
    clear hv
    have tk1 : True := trivial
    have tk2 : True := trivial
    have tk3 : True := trivial
    have tk4 : True := trivial
    go_enter Try.func21, Try.ntmps21
    go_wp2_with (go_at_call 43; refine (in0_any _ _ _).mono ?_; rintro e w1 ⟨rfl, rfl⟩)
    go_ret
    exact ⟨ret_bool (by rw [hv'.out]), hx0⟩
  · by_cases h1 : x.what = 1
    · exact Valid_entry x C cc A c w hR hu hib h1
    · exact Valid_rest x C cc A c w hR hu hib h1
end Go.Proofs.Ytkadjbpmnpcfhaa
