/-
  Walks of the law 24's helpers: small, Record.
-/
import Derived.Test.YtkadjbpmnpcfhaaRefC
set_option maxHeartbeats 1000000
set_option maxRecDepth 100000
set_option linter.unusedVariables false
set_option linter.unusedSimpArgs false
namespace Go.Proofs.Ytkadjbpmnpcfhaa
open Go.RowKit
def smallR (x : RR) : RR := ⟨x.what, x.comp, x.seq, x.count, x.clock.take 16, ⟨x.ev.tick, x.ev.comp, x.ev.kind, x.ev.peer, x.ev.n, x.ev.copy, x.ev.handler, x.ev.d, x.ev.args.take 6⟩⟩
theorem rr_zero : ((Try.prog.info? 29).bind (·.zero)).map (·.cells) = some (rrA ⟨0, 0, 0, 0, [], ev0⟩ none 0 none 0) := by kernel_rfl
theorem small_core (what comp seq count : Int) (xs : List Int) (tick ecomp kind peer n copy handler d : Int) (ys : List Int) (m k : Nat) (C : Option Addr) (cc : Nat) (A : Option Addr) (c : Nat) (w : World) (h11 : xs.length ≤ cc) (h12 : cc ≤ 9223372036854775807) (h21 : ys.length ≤ c) (h22 : c ≤ 9223372036854775807)
    (hm : (16 < xs.length ∧ m = 16) ∨ (xs.length ≤ 16 ∧ m = xs.length)) (hk : (6 < ys.length ∧ k = 6) ∨ (ys.length ≤ 6 ∧ k = ys.length)) :
    Calls Try.prog 19 #[.agg #[.int .u8 what, .int .i64 comp, .int .u64 seq, .int .u64 count, .slice C xs.length cc, .int .i64 tick, .int .i64 ecomp, .int .u8 kind, .int .i64 peer, .int .i64 n, .int .i64 copy, .int .i64 handler, .int .i64 d, .slice A ys.length c]] w fun e w' =>
      e = .returned (.agg #[.int .u8 what, .int .i64 comp, .int .u64 seq, .int .u64 count, .slice C m cc, .int .i64 tick, .int .i64 ecomp, .int .u8 kind, .int .i64 peer, .int .i64 n, .int .i64 copy, .int .i64 handler, .int .i64 d, .slice A k c]) ∧ Ext w w' := by
  have hB := Blk.new w 29 #[.int .u8 what, .int .i64 comp, .int .u64 seq, .int .u64 count, .slice C xs.length cc, .int .i64 tick, .int .i64 ecomp, .int .u8 kind, .int .i64 peer, .int .i64 n, .int .i64 copy, .int .i64 handler, .int .i64 d, .slice A ys.length c]
  have HB := Lib.hid hB
  have hx0 : Ext w (w.alloc (.cells #[.int .u8 what, .int .i64 comp, .int .u64 seq, .int .u64 count, .slice C xs.length cc, .int .i64 tick, .int .i64 ecomp, .int .u8 kind, .int .i64 peer, .int .i64 n, .int .i64 copy, .int .i64 handler, .int .i64 d, .slice A ys.length c] 29)) := (Ext.refl w).alloc _
  have Hsz := Lib.hid (show (w.alloc (.cells #[.int .u8 what, .int .i64 comp, .int .u64 seq, .int .u64 count, .slice C xs.length cc, .int .i64 tick, .int .i64 ecomp, .int .u8 kind, .int .i64 peer, .int .i64 n, .int .i64 copy, .int .i64 handler, .int .i64 d, .slice A ys.length c] 29)).heap.size = w.heap.size + 1 by simp)
  clear hB
  have tk2 : True := trivial
  have tk3 : True := trivial
  have tk4 : True := trivial
  rcases hm with ⟨hm1, rfl⟩ | ⟨hm1, rfl⟩ <;> rcases hk with ⟨hk1, rfl⟩ | ⟨hk1, rfl⟩
  all_goals
    go_enter Try.func19, Try.ntmps19
    go_wp2_with (first
      | (have _t := tk2; refine wpList_alloc_blk 29 (by rfl) (by rfl) (rrA ⟨0, 0, 0, 0, [], ev0⟩ none 0 none 0) rr_zero ?_; intro w4 hB4 hx4 hs4; have hC4 := (HB.out.ext hx4).cell; have hF4 := (HB.out.ext hx4).frozen; rw [Hsz.out] at hB4; clear tk2)
      | (have _t := tk3; refine wpList_load_rg 29 (.tmp 1) (by rfl) (by rfl) w.heap.size 0 _ (by rfl) Try.underlying29 (by rfl) rr_size (((HB.out.ext hx4).set 4 _).set 13 _).range ?_; clear tk3)
      | (have _t := tk4; refine wpList_store_all 29 (.tmp 2) (.tmp 22) (by rfl) (by rfl) (w.heap.size + 1) 29 (rrA ⟨0, 0, 0, 0, [], ev0⟩ none 0 none 0) _ (by rfl) (by rfl) (by exact rr_size) (by rfl) ?_ ((hB4.far (by simp) _).far (by simp) _) ?_; (simp [Value.oneCell']); intro w5 hB5 hu5; clear tk4))
  all_goals
    refine bodyPost_ret (results_cell1 _ rfl rfl Try.underlying29 rfl (by exact rr_size) hB5) rfl ⟨rfl, ?_⟩
    exact hu5.ext (((hx0.trans hx4).setCell (Nat.le_refl _) _).setCell (Nat.le_refl _) _) (by omega)
theorem small_any (x : RR) (C : Option Addr) (cc : Nat) (A : Option Addr) (c : Nat) (w : World) (h1 : x.clock.length ≤ cc ∧ cc ≤ 9223372036854775807) (h2 : x.ev.args.length ≤ c ∧ c ≤ 9223372036854775807) :
    Calls Try.prog 19 #[.agg (rrA x C cc A c)] w fun e w' => e = .returned (.agg (rrA (smallR x) C cc A c)) ∧ Ext w w' := by
  have hfin : rrA (smallR x) C cc A c =
    #[.int .u8 x.what, .int .i64 x.comp, .int .u64 x.seq, .int .u64 x.count, .slice C (min 16 x.clock.length) cc, .int .i64 x.ev.tick, .int .i64 x.ev.comp, .int .u8 x.ev.kind, .int .i64 x.ev.peer, .int .i64 x.ev.n, .int .i64 x.ev.copy, .int .i64 x.ev.handler, .int .i64 x.ev.d, .slice A (min 6 x.ev.args.length) c] := by
    simp [rrA, smallR]
  rw [hfin]
  exact small_core x.what x.comp x.seq x.count x.clock x.ev.tick x.ev.comp x.ev.kind x.ev.peer x.ev.n x.ev.copy x.ev.handler x.ev.d x.ev.args _ _ C cc A c w h1.1 h1.2 h2.1 h2.2 (by omega) (by omega)
end Go.Proofs.Ytkadjbpmnpcfhaa
