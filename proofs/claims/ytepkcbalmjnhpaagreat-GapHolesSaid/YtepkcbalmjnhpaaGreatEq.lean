/-
  Walk of record.Equal.
-/
import Derived.Test.YtepkcbalmjnhpaaGreatRecE
set_option maxHeartbeats 1000000
set_option maxRecDepth 100000
set_option linter.unusedVariables false
set_option linter.unusedSimpArgs false
namespace Go.Proofs.YtepkcbalmjnhpaaGreat
open Go.RowKit
theorem clenTo_last (c : Nat → Int) (n : Nat) (h : 0 < clenTo c n) : c (clenTo c n - 1) ≠ 0 := by
  induction n with
  | zero => simp [clenTo] at h
  | succ n ih =>
    simp only [clenTo] at h ⊢
    split
    · rename_i h1; rw [if_pos h1] at h; exact ih h
    · rename_i h1; simpa using h1
theorem clenTo_congr {a b : Nat → Int} {n : Nat} (h : ∀ i < n, a i = b i) : clenTo a n = clenTo b n := by
  induction n with
  | zero => rfl
  | succ n ih => simp only [clenTo]; rw [h n (by omega), ih (fun i hi => h i (by omega))]
def recEq (a b : Re) : Bool := a.comp == b.comp && a.seq == b.seq && sameTo a.clk b.clk 16 && a.what == b.what && evEq a.ev b.ev && a.count == b.count
theorem Equal_any (a b : Re) (A B : Option Addr) (c d : Nat) (w : World) (ha : At w A (a.ev.args.map (Value.int .i64))) (hb : At w B (b.ev.args.map (Value.int .i64))) (hn : a.ev.args.length ≤ 1099511627776) :
    Calls Tryz.prog 29 #[.agg (recA a A c), .agg (recA b B d)] w fun e w' => e = .returned (.bool (recEq a b)) ∧ Ext w w' := by
  have hs1 := recA_size a A c
  have hs2 := recA_size b B d
  have hB1 : Blk ((w.alloc (.cells (recA a A c) 52)).alloc (.cells (recA b B d) 52)) w.heap.size 52 (recA a A c) := (Blk.new w _ _).ext ((Ext.refl _).alloc _)
  have hB2 : Blk ((w.alloc (.cells (recA a A c) 52)).alloc (.cells (recA b B d) 52)) (w.heap.size + 1) 52 (recA b B d) := Blk.new2 w _ _ _ _
  have hx0 : Ext w ((w.alloc (.cells (recA a A c) 52)).alloc (.cells (recA b B d) 52)) := ((Ext.refl w).alloc _).alloc _
  have hcm := cmpC_one a.clk b.clk
  have hre := Lib.hid (show recEq a b = (a.comp == b.comp && a.seq == b.seq && sameTo a.clk b.clk 16 && a.what == b.what && evEq a.ev b.ev && a.count == b.count) from rfl)
  have K1 := Lib.hid (Compare_any a.clk b.clk)
  have K2 := Lib.hid (fun w' (e : Ext w w') => equalEvent_any a.ev b.ev A B c d w' (ha.ext e) (hb.ext e) hn)
  generalize recEq a b = req at *
  generalize evEq a.ev b.ev = ee at *
  generalize sameTo a.clk b.clk 16 = sm at *
  have tk1 : True := trivial
  have tk2 : True := trivial
  have tk3 : True := trivial
  have tk4 : True := trivial
  go_enter Tryz.func29, Tryz.ntmps29
  go_wp2_with (first
    | (have _t := tk1; refine wpList_load_rg 45 (.tmp 18) (by rfl) (by rfl) w.heap.size 2 (clkA a.clk) (by rfl) Tryz.underlying45 (by rfl) clk_size hB1.clk ?_; clear tk1)
    | (have _t := tk2; refine wpList_load_rg 45 (.tmp 20) (by rfl) (by rfl) (w.heap.size + 1) 2 (clkA b.clk) (by rfl) Tryz.underlying45 (by rfl) clk_size hB2.clk ?_; clear tk2)
    | (go_at_call 77; refine (K1.out _).mono ?_; rintro e w1 ⟨rfl, hx1⟩; have hC1 := (hB1.ext hx1).cell; have hC2 := (hB2.ext hx1).cell; have hx01 := hx0.trans hx1)
    | (have _t := tk3; refine wpList_load_rg 50 (.tmp 33) (by rfl) (by rfl) w.heap.size 19 (evA a.ev A c) (by rfl) Tryz.underlying50 (by rfl) ev_size (hB1.ext hx1).ev ?_; clear tk3)
    | (have _t := tk4; refine wpList_load_rg 50 (.tmp 35) (by rfl) (by rfl) (w.heap.size + 1) 19 (evA b.ev B d) (by rfl) Tryz.underlying50 (by rfl) ev_size (hB2.ext hx1).ev ?_; clear tk4)
    | (go_at_call 78; refine (K2.out _ hx01).mono ?_; rintro e w2 ⟨rfl, hx2⟩; have hC3 := ((hB1.ext hx1).ext hx2).cell; have hC4 := ((hB2.ext hx1).ext hx2).cell; have hx02 := hx01.trans hx2))
  all_goals go_ret
  all_goals refine ⟨ret_bool ?_, ?_⟩
  all_goals first | exact hx02 | exact hx01 | exact hx0 | skip
  all_goals rw [hre.out]
  all_goals clear K1 K2 hB1 hB2 ha hb
  all_goals first | (simp [*]; done) | (simp_all; done)
theorem clenTo_above (c : Nat → Int) (n : Nat) : ∀ i, clenTo c n ≤ i → i < n → c i = 0 := by
  induction n with
  | zero => intro i h1 h2; omega
  | succ n ih =>
    intro i h1 h2
    simp only [clenTo] at h1
    split at h1
    · rename_i h
      by_cases hi : i = n
      · rw [hi]; exact h
      · exact ih i h1 (by omega)
    · omega
end Go.Proofs.YtepkcbalmjnhpaaGreat
