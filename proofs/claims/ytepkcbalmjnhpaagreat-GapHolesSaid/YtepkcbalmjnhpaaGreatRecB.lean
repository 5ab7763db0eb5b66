/-
  Walks of package record: Check, Equal, Bytes, Size.
-/
import Derived.Test.YtepkcbalmjnhpaaGreatRec
set_option maxHeartbeats 400000
set_option linter.unusedVariables false
set_option linter.unusedSimpArgs false
namespace Go.Proofs.YtepkcbalmjnhpaaGreat
open Go.RowKit
theorem Check_any (r : Re) (A : Option Addr) (c : Nat) (w : World) (ha : At w A (r.ev.args.map (Value.int .i64))) (hn : r.ev.args.length ≤ 1099511627776) (hu : U64 r.seq) :
    Calls Tryz.prog 110 #[.agg (recA r A c)] w fun e w' => e = .returned (.int .i64 (checkN r)) ∧ Ext w w' := by
  have hs := recA_size r A c
  have hB : Blk (w.alloc (.cells (recA r A c) 52)) w.heap.size 52 (recA r A c) := Blk.new w _ _
  have hx0 : Ext w (w.alloc (.cells (recA r A c) 52)) := (Ext.refl w).alloc _
  have hu0 := hu.1
  have hu1 := hu.2
  have hv := Lib.hid (show checkN r = if (if r.what = 1 then evOk r.ev r.comp && r.count == 0
    else if r.what = 2 then bareB r && decide (0 < r.count) && decide (r.count ≤ 18446744073709551615 - r.seq)
    else if r.what = 3 then bareB r && r.count == 0 else false) && inB r.comp 8 then 0 else 1 from rfl)
  have K1 := Lib.hid (checkEvent_any r.ev A c r.comp)
  have K2 := Lib.hid (bare_any r A c _ (ha.ext hx0) hn)
  have K3 := Lib.hid (within_any r.comp 8)
  generalize checkN r = cn at *
  generalize evOk r.ev r.comp = eo at *
  generalize bareB r = br at *
  generalize inB r.comp 8 = ib at *
  by_cases h1 : r.what = 1
  · have b1 : (r.what == 1) = true := by simp [h1]
    have hv' : Hid (cn = if (eo && r.count == 0) && ib then 0 else 1) := by rw [hv.out, if_pos h1]; exact rfl
    clear hv
    have H1 := Lib.hid h1
    clear h1
    go_enter Tryz.func110, Tryz.ntmps110
    go_wp2_with (first
      | (refine wpList_load_rg 50 (.tmp 8) (by rfl) (by rfl) w.heap.size 19 (evA r.ev A c) (by rfl) Tryz.underlying50 (by rfl) ev_size hB.ev ?_)
      | (go_at_call 147; refine (K1.out _).mono ?_; rintro e w1 ⟨rfl, hx1⟩; have hC := (hB.ext hx1).cell; have hx01 := hx0.trans hx1)
      | (go_at_call 149; refine (K3.out _).mono ?_; rintro e w2 ⟨rfl, rfl⟩))
    all_goals go_ret
    all_goals refine ⟨ret_int ?_, hx01⟩
    all_goals rw [hv'.out]
    all_goals clear K1 K2 K3 hB ha
    all_goals cases ib <;> first | (simp [*]; done) | (simp_all; done)
  by_cases h2 : r.what = 2
  · have b1 : (r.what == 1) = false := by simp [h1]
    have b2 : (r.what == 2) = true := by simp [h2]
    have hv' : Hid (cn = if (br && decide (0 < r.count) && decide (r.count ≤ 18446744073709551615 - r.seq)) && ib then 0 else 1) := by rw [hv.out, if_neg h1, if_pos h2]; exact rfl
    clear hv h1 h2
    go_enter Tryz.func110, Tryz.ntmps110
    go_wp2_with (first
      | (refine wpList_load_rg 52 (.tmp 1) (by rfl) (by rfl) w.heap.size 0 (recA r A c) (by rfl) Tryz.underlying52 (by rfl) rec_size hB.range ?_)
      | (go_at_call 148; refine K2.out.mono ?_; rintro e w1 ⟨rfl, hx1⟩; have hC := (hB.ext hx1).cell; have hx01 := hx0.trans hx1)
      | (go_at_call 149; refine (K3.out _).mono ?_; rintro e w2 ⟨rfl, rfl⟩))
    all_goals go_ret
    all_goals refine ⟨ret_int ?_, hx01⟩
    all_goals rw [hv'.out]
    all_goals clear K1 K2 K3 hB ha
    all_goals cases ib <;> first | (simp [*]; done) | (simp_all; done) | (simp_all; omega)
  by_cases h3 : r.what = 3
  · have b1 : (r.what == 1) = false := by simp [h1]
    have b2 : (r.what == 2) = false := by simp [h2]
    have b3 : (r.what == 3) = true := by simp [h3]
    have hv' : Hid (cn = if (br && r.count == 0) && ib then 0 else 1) := by rw [hv.out, if_neg h1, if_neg h2, if_pos h3]; exact rfl
    clear hv h1 h2 h3
    go_enter Tryz.func110, Tryz.ntmps110
    go_wp2_with (first
      | (refine wpList_load_rg 52 (.tmp 1) (by rfl) (by rfl) w.heap.size 0 (recA r A c) (by rfl) Tryz.underlying52 (by rfl) rec_size hB.range ?_)
      | (go_at_call 148; refine K2.out.mono ?_; rintro e w1 ⟨rfl, hx1⟩; have hC := (hB.ext hx1).cell; have hx01 := hx0.trans hx1)
      | (go_at_call 149; refine (K3.out _).mono ?_; rintro e w2 ⟨rfl, rfl⟩))
    all_goals go_ret
    all_goals refine ⟨ret_int ?_, hx01⟩
    all_goals rw [hv'.out]
    all_goals clear K1 K2 K3 hB ha
    all_goals cases ib <;> first | (simp [*]; done) | (simp_all; done)
  · have b1 : (r.what == 1) = false := by simp [h1]
    have b2 : (r.what == 2) = false := by simp [h2]
    have b3 : (r.what == 3) = false := by simp [h3]
    have hv' : Hid (cn = 1) := by rw [hv.out, if_neg h1, if_neg h2, if_neg h3]; exact rfl
    clear hv h1 h2 h3
    go_enter Tryz.func110, Tryz.ntmps110
    go_wp2_with fail
    all_goals go_ret
    all_goals exact ⟨ret_int (by rw [hv'.out]), hx0⟩
end Go.Proofs.YtepkcbalmjnhpaaGreat
