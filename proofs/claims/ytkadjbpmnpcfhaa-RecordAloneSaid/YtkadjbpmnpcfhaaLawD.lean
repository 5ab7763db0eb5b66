/-
  Walk of the law RecordChecks.
-/
import Derived.Test.YtkadjbpmnpcfhaaLawA
import Derived.Test.YtkadjbpmnpcfhaaLawC
set_option maxHeartbeats 1000000
set_option maxRecDepth 100000
set_option linter.unusedVariables false
set_option linter.unusedSimpArgs false
namespace Go.Proofs.Ytkadjbpmnpcfhaa
open Go.RowKit
/-- where the slices of a record lie, of whatever length -/
structure RAt0 (w : World) (x : RR) (C : Option Addr) (cc : Nat) (A : Option Addr) (c : Nat) : Prop where
  clock : At w C (x.clock.map (Value.int .u64))
  args : At w A (x.ev.args.map (Value.int .i64))
  ccl : x.clock.length ≤ cc ∧ cc ≤ 9223372036854775807
  acl : x.ev.args.length ≤ c ∧ c ≤ 9223372036854775807
  cn : C = none → cc = 0
  an : A = none → c = 0
theorem RAt0.ext {w w' : World} {x : RR} {C : Option Addr} {cc : Nat} {A : Option Addr} {c : Nat} (h : RAt0 w x C cc A c) (e : Ext w w') : RAt0 w' x C cc A c :=
  ⟨h.clock.ext e, h.args.ext e, h.ccl, h.acl, h.cn, h.an⟩
theorem RAt0.small {w : World} {x : RR} {C : Option Addr} {cc : Nat} {A : Option Addr} {c : Nat} (h : RAt0 w x C cc A c) : RAt w (smallR x) C cc A c := by
  refine ⟨?_, ?_, ?_, ?_, ?_, ?_, h.cn, h.an⟩
  · show At w C ((x.clock.take 16).map _)
    rw [List.map_take]; exact h.clock.take 16
  · show At w A ((x.ev.args.take 6).map _)
    rw [List.map_take]; exact h.args.take 6
  · simp [smallR]; omega
  · simp [smallR]; omega
  · have := h.ccl; simp [smallR]; omega
  · have := h.acl; simp [smallR]; omega
theorem small_T {x : RR} (h : RRT x) : RRT (smallR x) :=
  ⟨h.what, h.comp, h.seq, h.count, fun v hv => h.clock v (List.mem_of_mem_take hv), ⟨h.ev.tick, h.ev.comp, h.ev.kind, h.ev.peer, h.ev.n, h.ev.copy, h.ev.handler, h.ev.d, fun v hv => h.ev.args v (List.mem_of_mem_take hv)⟩⟩
theorem RecordChecks_walk (x : RR) (C : Option Addr) (cc : Nat) (A : Option Addr) (c : Nat) (w : World) (h0 : RAt0 w x C cc A c) (hT : RRT x) :
    Calls Try.prog 3 #[.agg (rrA x C cc A c)] w fun e w' => e = .returned (.bool true) ∧ Ext w w' := by
  have hs := rrA_size x C cc A c
  have hB : Blk (w.alloc (.cells (rrA x C cc A c) 29)) w.heap.size 29 (rrA x C cc A c) := Blk.new w _ _
  have hx0 : Ext w (w.alloc (.cells (rrA x C cc A c) 29)) := (Ext.refl w).alloc _
  have hT' := (small_T hT).re
  have hTS := (small_T hT).seq
  have hcn : checkN (toRe (smallR x)) = if validB (toRe (smallR x)) then 0 else 1 := rfl
  have Hcn := Lib.hid hcn
  have KV := Lib.hid (fun w' (e : Ext w w') => Valid_any (smallR x) C cc A c w' (h0.small.ext e) hTS)
  have KC := Lib.hid (fun w' (e : Ext w w') => Check_any (toRe (smallR x)) A c w' ((h0.small.ext e).args) (by have := h0.small.al; exact Nat.le_trans this (by omega)) hTS)
  have KR := Lib.hid (fun w' (e : Ext w w') => LRecord_any (smallR x) C cc A c w' (h0.small.ext e))
  clear hcn
  generalize checkN (toRe (smallR x)) = cn at *
  generalize validB (toRe (smallR x)) = va at *
  have tk1 : True := trivial
  have tk2 : True := trivial
  have tk3 : True := trivial
  have tk4 : True := trivial
  have tk5 : True := trivial
  have tk6 : True := trivial
  have tk7 : True := trivial
  cases va
  all_goals
    go_enter Try.func3, Try.ntmps3
    go_wp2_with (first
      | (go_at_call 18; refine (lawake_any _).mono ?_; rintro e w1 ⟨rfl, hx1⟩; have hB1 := hB.ext hx1)
      | (have _t := tk1; refine wpList_load_rg 29 (.tmp 1) (by rfl) (by rfl) w.heap.size 0 (rrA x C cc A c) (by rfl) Try.underlying29 (by rfl) rr_size hB1.range ?_; clear tk1)
      | (go_at_call 19; refine (small_any x C cc A c _ h0.ccl h0.acl).mono ?_; rintro e w2 ⟨rfl, hx2⟩; have hB2 := hB1.ext hx2)
      | (have _t := tk2; refine wpList_store_all 29 (.tmp 1) (.tmp 8) (by rfl) (by rfl) w.heap.size 29 (rrA x C cc A c) (rrA (smallR x) C cc A c) (by rfl) (by rfl) rr_size rfl (rrA_one _ _ _ _ _) hB2 ?_; intro w3 hB3 hu3; have hx3 := hu3.ext ((hx0.trans hx1).trans hx2) (Nat.le_refl _); clear tk2)
      | (have _t := tk3; refine wpList_load_rg 29 (.tmp 1) (by rfl) (by rfl) w.heap.size 0 (rrA (smallR x) C cc A c) (by rfl) Try.underlying29 (by rfl) rr_size hB3.range ?_; clear tk3)
      | (go_at_call 20; refine (KR.out _ hx3).mono ?_; rintro e w4 ⟨rfl, hx4⟩; have hB4 := hB3.ext hx4; have hz4 := hB4.lt)
      | (have _t := tk4; refine wpList_alloc_blk 37 (by rfl) (by rfl) (recA re0 none 0) rec_zero ?_; intro w5 hB5 hx5 hs5; have hb5 := hB4.ext hx5; clear tk4)
      | (have _t := tk5; refine wpList_store_all 37 (.tmp 3) (.tmp 12) (by rfl) (by rfl) w4.heap.size 37 (recA re0 none 0) (recA (toRe (smallR x)) A c) (by rfl) (by rfl) rec_size rfl (recA_one _ _ _) hB5 ?_; intro w6 hB6 hu6; have hx6 := hu6.ext ((hx3.trans hx4).trans hx5) (hx3.trans hx4).size; have hb6 := hu6.blk hb5 (Nat.ne_of_lt hz4); clear tk5)
      | (have _t := tk6; refine wpList_load_rg 29 (.tmp 1) (by rfl) (by rfl) w.heap.size 0 (rrA (smallR x) C cc A c) (by rfl) Try.underlying29 (by rfl) rr_size hb6.range ?_; clear tk6)
      | (go_at_call 21; refine (KV.out _ hx6).mono ?_; rintro e w7 ⟨rfl, hx7⟩; have hB7 := hB6.ext hx7)
      | (have _t := tk7; refine wpList_load_rg 37 (.tmp 18) (by rfl) (by rfl) w4.heap.size 0 (recA (toRe (smallR x)) A c) (by rfl) Try.underlying37 (by rfl) rec_size hB7.range ?_; clear tk7)
      | (have _t := tk7; refine wpList_load_rg 37 (.tmp 3) (by rfl) (by rfl) w4.heap.size 0 (recA (toRe (smallR x)) A c) (by rfl) Try.underlying37 (by rfl) rec_size hB7.range ?_; clear tk7)
      | (go_at_call 22; refine (KC.out _ (hx6.trans hx7)).mono ?_; rintro e w8 ⟨rfl, hx8⟩))
    go_ret
    exact ⟨ret_bool (by rw [Hcn.out]; rfl), (hx6.trans hx7).trans hx8⟩
end Go.Proofs.Ytkadjbpmnpcfhaa
