/-
  Walks of package record: within, checkEvent, equalEvent, bare, Check, Bytes, Size, Equal.
-/
import Derived.Test.YtepkcbalmjnhpaaGreatClk
import Derived.Test.YtepkcbalmjnhpaaGreatSl
set_option maxHeartbeats 400000
set_option linter.unusedVariables false
set_option linter.unusedSimpArgs false
namespace Go.Proofs.YtepkcbalmjnhpaaGreat
open Go.RowKit
theorem within_any (a b : Int) (w : World) :
    Calls Tryz.prog 149 #[.int .i64 a, .int .i64 b] w fun e w' => e = .returned (.bool (inB a b)) ∧ w = w' := by
  by_cases h0 : 0 ≤ a
  · go_enter Tryz.func149, Tryz.ntmps149
    go_wp2
    go_ret
    exact ⟨by simp [inB, h0], rfl⟩
  · go_enter Tryz.func149, Tryz.ntmps149
    go_wp2
    go_ret
    exact ⟨by simp [inB]; omega, rfl⟩
theorem checkEvent_any (e : Ev) (A : Option Addr) (cap : Nat) (c : Int) (w : World) :
    Calls Tryz.prog 147 #[.agg (evA e A cap), .int .i64 c] w fun e' w' => e' = .returned (.bool (evOk e c)) ∧ Ext w w' := by
  obtain ⟨tick, comp, kind, peer, n, copy, handler, d, args⟩ := e
  unfold evOk
  unfold evA
  simp only
  go_enter Tryz.func147, Tryz.ntmps147
  go_wp2_with (go_at_call 149; refine (within_any _ _ _).mono ?_; rintro e w' ⟨rfl, rfl⟩)
  all_goals go_ret
  all_goals refine ⟨ret_bool ?_, (Ext.refl w).alloc _⟩
  all_goals first | (simp [*]; done) | (simp [*]; omega)
theorem equalEvent_any (a b : Ev) (A B : Option Addr) (c d : Nat) (w : World) (ha : At w A (a.args.map (Value.int .i64))) (hb : At w B (b.args.map (Value.int .i64))) (hn : a.args.length ≤ 1099511627776) :
    Calls Tryz.prog 78 #[.agg (evA a A c), .agg (evA b B d)] w fun e' w' => e' = .returned (.bool (evEq a b)) ∧ Ext w w' := by
  obtain ⟨tick, comp, kind, peer, n, copy, handler, d1, args⟩ := a
  obtain ⟨tick', comp', kind', peer', n', copy', handler', d', args'⟩ := b
  have HE := Lib.hid (slEqI64_any A B c d args args')
  unfold evEq
  unfold evA
  simp only at *
  go_enter Tryz.func78, Tryz.ntmps78
  go_wp2_with (go_at_call 125; refine (HE.out _ (ha.ext (((Ext.refl w).alloc _).alloc _)) (hb.ext (((Ext.refl w).alloc _).alloc _)) hn).mono ?_; rintro e w1 ⟨rfl, hx1⟩)
  all_goals go_ret
  all_goals refine ⟨ret_bool ?_, ?_⟩
  all_goals first | exact ((Ext.refl w).alloc _).alloc _ | exact Ext.trans (((Ext.refl w).alloc _).alloc _) hx1 | (simp [*]; done) | (simp [*]; omega)
theorem ev_size : (Tryz.prog.info? 50).map (·.size) = some 9 := by kernel_rfl
theorem rec_size : (Tryz.prog.info? 52).map (·.size) = some 29 := by kernel_rfl
theorem Blk.clk {w : World} {g : Nat} {t : TypeId} {r : Re} {A : Option Addr} {c : Nat} (h : Blk w g t (recA r A c)) : w.rangeAt g 2 (clkA r.clk).toList := by
  have := rangeAt.take (rangeAt.drop h.range 2) 16
  rwa [recA_clk, Nat.zero_add] at this
theorem Blk.ev {w : World} {g : Nat} {t : TypeId} {r : Re} {A : Option Addr} {c : Nat} (h : Blk w g t (recA r A c)) : w.rangeAt g 19 (evA r.ev A c).toList := by
  have := rangeAt.take (rangeAt.drop h.range 19) 9
  rwa [recA_ev, Nat.zero_add] at this
theorem bare_any (r : Re) (A : Option Addr) (c : Nat) (w : World) (ha : At w A (r.ev.args.map (Value.int .i64))) (hn : r.ev.args.length ≤ 1099511627776) :
    Calls Tryz.prog 148 #[.agg (recA r A c)] w fun e w' => e = .returned (.bool (bareB r)) ∧ Ext w w' := by
  have hs := recA_size r A c
  have hB : Blk (w.alloc (.cells (recA r A c) 52)) w.heap.size 52 (recA r A c) := Blk.new w _ _
  have hx0 : Ext w (w.alloc (.cells (recA r A c) 52)) := (Ext.refl w).alloc _
  have hcm := cmpC_one r.clk clk0
  have hbB := Lib.hid (show bareB r = (sameTo r.clk clk0 16 && evEq r.ev ev0) from rfl)
  have K1 := Lib.hid (Compare_any r.clk clk0)
  generalize bareB r = br at *
  cases hsm : sameTo r.clk clk0 16
  all_goals
    rw [hsm] at hcm hbB
    go_enter Tryz.func148, Tryz.ntmps148
    go_wp2_with (first
      | (refine wpList_load_rg 45 (.tmp 3) (by rfl) (by rfl) w.heap.size 2 (clkA r.clk) (by rfl) Tryz.underlying45 (by rfl) clk_size hB.clk ?_)
      | (go_at_call 77; refine (K1.out _).mono ?_; rintro e w1 ⟨rfl, hx1⟩)
      | (refine wpList_load_rg 50 (.tmp 9) (by rfl) (by rfl) w.heap.size 19 (evA r.ev A c) (by rfl) Tryz.underlying50 (by rfl) ev_size (hB.ext hx1).ev ?_)
      | (go_at_call 78; refine (equalEvent_any r.ev ev0 A none c 0 _ ((ha.ext hx0).ext hx1) (At.nil _ _) hn).mono ?_; rintro e w2 ⟨rfl, hx2⟩))
    go_ret
  · exact ⟨ret_bool (by rw [hbB.out]; rfl), hx0.trans hx1⟩
  · exact ⟨ret_bool (by rw [hbB.out]; rfl), (hx0.trans hx1).trans hx2⟩
end Go.Proofs.YtepkcbalmjnhpaaGreat
