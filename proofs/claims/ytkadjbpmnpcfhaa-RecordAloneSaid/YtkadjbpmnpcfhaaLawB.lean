/-
  Walk of the law 24's Record.
-/
import Derived.Test.YtkadjbpmnpcfhaaRefC
set_option maxHeartbeats 1000000
set_option maxRecDepth 100000
set_option linter.unusedVariables false
set_option linter.unusedSimpArgs false
namespace Go.Proofs.Ytkadjbpmnpcfhaa
open Go.RowKit
def re0 : Re := ⟨0, 0, clk0, 0, ev0, 0⟩
theorem rec_zero : ((Try.prog.info? 37).bind (·.zero)).map (·.cells) = some (recA re0 none 0) := by kernel_rfl
theorem build_rec (comp seq : Int) (clk : Nat → Int) (what : Int) (ev : Ev) (A : Option Addr) (c : Nat) (count : Int) (w : World) :
    (Instr.build 37 #[(0, .int .i64 comp), (1, .int .u64 seq), (2, .agg (clkA clk)), (3, .int .u8 what), (4, .agg (evA ev A c)), (5, .int .u64 count)]).run Try.prog w = .ok (.agg (recA ⟨comp, seq, clk, what, ev, count⟩ A c)) w := by kernel_rfl
def RetRec (x : RR) (A : Option Addr) (c : Nat) (w : World) (e : Ending) (w' : World) : Prop := e = .returned (.tuple #[.agg (recA (toRe x) A c), .bool true]) ∧ Ext w w'
theorem wpList_build {P : Program} {ops : Array Oper} {rest : List Oper} {op : Oper} {a : Act} {w : World} {Q : Exit → Act → World → Prop} (ty : TypeId) (parts : List (Nat × Operand)) (ho : op.op = .build ty parts.toArray) (hw : Region.wanted op (yielded ops a.tmps) = true)
    (vals : List (Nat × Value)) (v : Value) (hv : parts.map (fun p => (p.1, a.eval p.2)) = vals) (hrun : (Instr.build ty vals.toArray).run P w = .ok v w)
    (h : wpList P ops Q rest (a.put op.dst v) w) : wpList P ops Q (op :: rest) a w :=
  BigFrame.wpList_want hw fun K hK => by
    have hv' : parts.toArray.map (fun (x : Nat × Operand) => match x with | (i, x) => (i, a.eval x)) = vals.toArray := by rw [List.map_toArray]; exact congrArg List.toArray hv
    unfold Oper.wp execOp
    simp only [ho, Sem.run_bind, Sem.run_pure, hv', hrun, Result.andThen_ok]
    exact hK _ _ h
theorem LRecord_any (x : RR) (C : Option Addr) (cc : Nat) (A : Option Addr) (c : Nat) (w : World) (hR : RAt w x C cc A c) :
    Calls Try.prog 20 #[.agg (rrA x C cc A c)] w (RetRec x A c w) := by
  have hs := rrA_size x C cc A c
  have hB : Blk (w.alloc (.cells (rrA x C cc A c) 29)) w.heap.size 29 (rrA x C cc A c) := Blk.new w _ _
  have hx0 : Ext w (w.alloc (.cells (rrA x C cc A c) 29)) := (Ext.refl w).alloc _
  have Hsz := Lib.hid (show (w.alloc (.cells (rrA x C cc A c) 29)).heap.size = w.heap.size + 1 by simp)
  have K1 := Lib.hid (fun w' e => Of_any C cc x.clock w' (hR.clock.ext e) hR.cn hR.cl)
  generalize hck : clkOf x.clock = ck at *
  have Hck := Lib.hid hck
  clear hck
  have tk1 : True := trivial
  have tk2 : True := trivial
  have tk3 : True := trivial
  have tk4 : True := trivial
  have tk5 : True := trivial
  have tk6 : True := trivial
  have tk7 : True := trivial
  go_enter Try.func20, Try.ntmps20
  go_wp2_with (first
    | (have _t := tk1; refine wpList_alloc_blk 37 (by rfl) (by rfl) (recA re0 none 0) rec_zero ?_; intro w1 hB1 hx1 hs1; rw [Hsz.out] at hB1 hs1; have hr1 := hB.ext hx1; have hC1 := hr1.cell; clear tk1)
    | (go_at_call 42; refine (K1.out w1 (hx0.trans hx1)).mono ?_; rintro e w2 ⟨rfl, hx2⟩; have hr2 := hr1.ext hx2; have hC2 := hr2.cell)
    | (have _t := tk2; refine wpList_alloc_blk 34 (by rfl) (by rfl) (clkA clk0) clk_zero ?_; intro w3 hB3 hx3 hs3; have hr3 := hr2.ext hx3; clear tk2)
    | (have _t := tk3; refine wpList_store_all 34 (.tmp 4) (.tmp 10) (by rfl) (by rfl) w2.heap.size 34 (clkA clk0) (clkA ck) (by rfl) (by rfl) clk_size rfl (clkA_one _) hB3 ?_; intro w4 hB4 hu4; have hr4 := hu4.blk hr3 (Nat.ne_of_lt hr2.lt); have hC4 := hr4.cell; clear tk3)
    | (have _t := tk4; refine wpList_load_rg 34 (.tmp 4) (by rfl) (by rfl) w2.heap.size 0 (clkA ck) (by rfl) Try.underlying34 (by rfl) clk_size hB4.range ?_; clear tk4)
    | (have _t := tk5; refine wpList_load_rg 27 (.tmp 19) (by rfl) (by rfl) w.heap.size 5 (evA x.ev A c) (by rfl) Try.underlying27 (by rfl) ev_size hr4.rev ?_; clear tk5)
    | (have _t := tk7; refine wpList_build 37 [(0, .tmp 13), (1, .tmp 15), (2, .tmp 16), (3, .tmp 18), (4, .tmp 20), (5, .tmp 22)] (by rfl) (by rfl) [(0, .int .i64 x.comp), (1, .int .u64 x.seq), (2, .agg (clkA ck)), (3, .int .u8 x.what), (4, .agg (evA x.ev A c)), (5, .int .u64 x.count)] _ (by rfl) (build_rec x.comp x.seq ck x.what x.ev A c x.count _) ?_; clear tk7)
    | (have _t := tk6; refine wpList_store_all 37 (.tmp 2) (.tmp 23) (by rfl) (by rfl) (w.heap.size + 1) 37 (recA re0 none 0) (recA ⟨x.comp, x.seq, ck, x.what, x.ev, x.count⟩ A c) (by rfl) (by rfl) rec_size rfl (recA_one _ _ _) ?_ ?_; exact hu4.blk ((hB1.ext hx2).ext hx3) (Nat.ne_of_lt (hB1.ext hx2).lt); intro w5 hB5 hu5; clear tk6))
  refine bodyPost_ret (results_cell2 (cs := recA ⟨x.comp, x.seq, ck, x.what, x.ev, x.count⟩ A c) _ rfl rfl Try.underlying37 rfl rec_size hB5) rfl ⟨?_, ?_⟩
  · rw [← Hck.out]; rfl
  · have h2 : Ext w w2 := (hx0.trans hx1).trans hx2
    exact hu5.ext (hu4.ext (h2.trans hx3) h2.size) (by omega)
end Go.Proofs.Ytkadjbpmnpcfhaa
