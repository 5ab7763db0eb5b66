/-
  Walks of the reference 24: zero, Valid.
-/
import Derived.Test.YtkadjbpmnpcfhaaRefA
import Derived.Test.YtkadjbpmnpcfhaaRefD
set_option maxHeartbeats 1000000
set_option maxRecDepth 100000
set_option linter.unusedVariables false
set_option linter.unusedSimpArgs false
namespace Go.Proofs.Ytkadjbpmnpcfhaa
open Go.RowKit
theorem rr_size : (Try.prog.info? 29).map (·.size) = some 14 := by kernel_rfl
theorem Blk.rev {w : World} {g : Nat} {t : TypeId} {x : RR} {C : Option Addr} {cc : Nat} {A : Option Addr} {c : Nat} (h : Blk w g t (rrA x C cc A c)) : w.rangeAt g 5 (evA x.ev A c).toList := by
  have := rangeAt.take (rangeAt.drop h.range 5) 9
  rwa [rrA_ev, Nat.zero_add] at this
/-- where the slices of a record of the reference lie -/
structure RAt (w : World) (x : RR) (C : Option Addr) (cc : Nat) (A : Option Addr) (c : Nat) : Prop where
  clock : At w C (x.clock.map (Value.int .u64))
  args : At w A (x.ev.args.map (Value.int .i64))
  cl : x.clock.length ≤ 16
  al : x.ev.args.length ≤ 6
  ccl : x.clock.length ≤ cc ∧ cc ≤ 9223372036854775807
  acl : x.ev.args.length ≤ c ∧ c ≤ 9223372036854775807
  cn : C = none → cc = 0
  an : A = none → c = 0
theorem RAt.ext {w w' : World} {x : RR} {C : Option Addr} {cc : Nat} {A : Option Addr} {c : Nat} (h : RAt w x C cc A c) (e : Ext w w') : RAt w' x C cc A c :=
  ⟨h.clock.ext e, h.args.ext e, h.cl, h.al, h.ccl, h.acl, h.cn, h.an⟩
theorem zero_any (x : RR) (C : Option Addr) (cc : Nat) (A : Option Addr) (c : Nat) (w : World) (hR : RAt w x C cc A c) :
    Calls Try.prog 44 #[.agg (rrA x C cc A c)] w fun e w' => e = .returned (.bool (bareB (toRe x))) ∧ Ext w w' := by
  have hs := rrA_size x C cc A c
  have hB : Blk (w.alloc (.cells (rrA x C cc A c) 29)) w.heap.size 29 (rrA x C cc A c) := Blk.new w _ _
  have hx0 : Ext w (w.alloc (.cells (rrA x C cc A c) 29)) := (Ext.refl w).alloc _
  have hbB := Lib.hid (show bareB (toRe x) = (sameTo (clkOf x.clock) clk0 16 && evEq x.ev ev0) from rfl)
  have htz := trim_zero hR.cl
  have K1 := Lib.hid (Trim_any C cc x.clock _ (hR.clock.ext hx0) hR.ccl.1 hR.ccl.2)
  generalize bareB (toRe x) = br at *
  generalize clenTo (clkOf x.clock) x.clock.length = tl at *
  cases hsm : sameTo (clkOf x.clock) clk0 16
  · rw [hsm] at htz hbB
    have ht0 : ((tl : Int) == 0) = false := by simp at htz ⊢; omega
    go_enter Try.func44, Try.ntmps44
    go_wp2_with (go_at_call 52; refine K1.out.mono ?_; rintro e w1 ⟨rfl, rfl⟩)
    go_ret
    exact ⟨ret_bool (by rw [hbB.out]; rfl), hx0⟩
  · rw [hsm] at htz hbB
    have ht0 : ((tl : Int) == 0) = true := by simp at htz ⊢; omega
    go_enter Try.func44, Try.ntmps44
    go_wp2_with (first
      | (go_at_call 52; refine K1.out.mono ?_; rintro e w1 ⟨rfl, rfl⟩)
      | (refine wpList_load_rg 27 (.tmp 9) (by rfl) (by rfl) w.heap.size 5 (evA x.ev A c) (by rfl) Try.underlying27 (by rfl) ev_size hB.rev ?_)
      | (go_at_call 56; refine (SameEvent_any x.ev ev0 A none c 0 _ (hR.args.ext hx0) (At.nil _ _) (by have := hR.al; omega)).mono ?_; rintro e w2 ⟨rfl, hx2⟩))
    go_ret
    exact ⟨ret_bool (by rw [hbB.out]; rfl), hx0.trans hx2⟩
theorem in0_any (n hi : Int) (w : World) :
    Calls Try.prog 43 #[.int .i64 n, .int .i64 0, .int .i64 hi] w fun e w' => e = .returned (.bool (inB n hi)) ∧ w = w' := in_any n 0 hi w
theorem Valid_entry (x : RR) (C : Option Addr) (cc : Nat) (A : Option Addr) (c : Nat) (w : World) (hR : RAt w x C cc A c) (hu : U64 x.seq) (hib : inB x.comp 8 = true) (h1 : x.what = 1) :
    Calls Try.prog 21 #[.agg (rrA x C cc A c)] w fun e w' => e = .returned (.bool (validB (toRe x))) ∧ Ext w w' := by
  have hs := rrA_size x C cc A c
  have hB : Blk (w.alloc (.cells (rrA x C cc A c) 29)) w.heap.size 29 (rrA x C cc A c) := Blk.new w _ _
  have hx0 : Ext w (w.alloc (.cells (rrA x C cc A c) 29)) := (Ext.refl w).alloc _
  have hu0 := hu.1
  have hu1 := hu.2
  have hv := Lib.hid (show validB (toRe x) = ((if x.what = 1 then evOk x.ev x.comp && x.count == 0
    else if x.what = 2 then bareB (toRe x) && decide (0 < x.count) && decide (x.count ≤ 18446744073709551615 - x.seq)
    else if x.what = 3 then bareB (toRe x) && x.count == 0 else false) && inB x.comp 8) from rfl)
  generalize validB (toRe x) = va at *
  rw [hib] at hv
  have b1 : (x.what == 1) = true := by simp [h1]
  have hv' : Hid (va = (evOk x.ev x.comp && x.count == 0)) := by rw [hv.out, if_pos h1]; exact Bool.and_true _
  clear hv
  have H1 := Lib.hid h1
  clear h1
  have hev : evA x.ev A c = #[.int .i64 x.ev.tick, .int .i64 x.ev.comp, .int .u8 x.ev.kind, .int .i64 x.ev.peer, .int .i64 x.ev.n, .int .i64 x.ev.copy, .int .i64 x.ev.handler, .int .i64 x.ev.d, .slice A x.ev.args.length c] := rfl
  have Hev := Lib.hid hev
  have Hsz := Lib.hid (show (w.alloc (.cells (rrA x C cc A c) 29)).heap.size = w.heap.size + 1 by simp)
  clear hev
  have tk1 : True := trivial
  have tk2 : True := trivial
  have tk3 : True := trivial
  go_enter Try.func21, Try.ntmps21
  go_wp2_with (first
    | (go_at_call 43; refine (in0_any _ _ _).mono ?_; rintro e w1 ⟨rfl, rfl⟩)
    | (have _t := tk1; refine wpList_load_rg 27 (.tmp 8) (by rfl) (by rfl) w.heap.size 5 (evA x.ev A c) (by rfl) Try.underlying27 (by rfl) ev_size hB.rev ?_; clear tk1)
    | (have _t := tk2; refine wpList_alloc_blk 27 (by rfl) (by rfl) (evA ev0 none 0) ev_zero ?_; intro w4 hB4 hx4 hs4; clear tk2)
    | (have _t := tk3; refine wpList_store_all 27 (.tmp 3) (.tmp 9) (by rfl) (by rfl) (w.alloc (.cells (rrA x C cc A c) 29)).heap.size 27 (evA ev0 none 0) (evA x.ev A c) (by rfl) (by rfl) ev_size rfl (evA_one _ _ _) hB4 ?_; intro w5 hB5 hu5; have hx5 := hu5.ext (hx0.trans hx4) hx0.size; have hr5 := (hu5.blk (hB.ext hx4) (by simp)).cell; rw [Hev.out, Hsz.out] at hB5; have hC5 := hB5.cell; clear tk3))
  all_goals go_ret
  all_goals refine ⟨ret_bool ?_, hx5⟩
  all_goals rw [hv'.out]
  all_goals unfold evOk
  all_goals clear hB hR hB4 hB5 hu5
  all_goals first | (simp [*]; done) | (simp [*]; omega) | (simp_all; done) | (simp_all; omega)
end Go.Proofs.Ytkadjbpmnpcfhaa
