/-
  Walk of the law 24's awake.
-/
import Derived.Test.YtkadjbpmnpcfhaaLawB
set_option maxHeartbeats 1000000
set_option maxRecDepth 100000
set_option linter.unusedVariables false
set_option linter.unusedSimpArgs false
namespace Go.Proofs.Ytkadjbpmnpcfhaa
open Go.RowKit
def wakeEnd : Re := ⟨2, 300, clk0, 3, ev0, 0⟩
def wakeRR : RR := ⟨1, 1, 0, 0, [0, 1], ⟨3, 1, 4, 0, 0, 0, 2, 0, [-1]⟩⟩
theorem build_end (w : World) : (Instr.build 37 #[(0, .int .i64 2), (1, .int .u64 300), (3, .int .u8 3)]).run Try.prog w = .ok (.agg (recA wakeEnd none 0)) w := by kernel_rfl
theorem build_ev (A : Option Addr) (w : World) : (Instr.build 27 #[(0, .int .i64 3), (1, .int .i64 1), (2, .int .u8 4), (6, .int .i64 2), (8, .slice A 1 1)]).run Try.prog w = .ok (.agg (evA wakeRR.ev A 1)) w := by kernel_rfl
theorem build_rr (C A : Option Addr) (w : World) : (Instr.build 29 #[(0, .int .u8 1), (1, .int .i64 1), (4, .slice C 2 2), (5, .agg (evA wakeRR.ev A 1))]).run Try.prog w = .ok (.agg (rrA wakeRR C 2 A 1)) w := by kernel_rfl
theorem end_bytes : recBytes wakeEnd = [3, 2, 172, 2] := by
  have h1 : putU 2 = [2] := putU_small (by omega)
  have h2 : putU 300 = [172, 2] := by rw [putU_big (by omega), putU_small (by omega)]; rfl
  have hv : validB wakeEnd = true := by decide
  rw [recBytes, if_pos hv]
  show 3 :: (putU 2 ++ putU 300) ++ [] = [3, 2, 172, 2]
  rw [h1, h2]; rfl
theorem ent_bytes : recBytes (toRe wakeRR) = [1, 1, 0, 2, 0, 1, 3, 4, 0, 0, 0, 2, 0, 1, 1] := by
  have h0 : putU 0 = [0] := putU_small (by omega)
  have h1 : putU 1 = [1] := putU_small (by omega)
  have h2 : putU 2 = [2] := putU_small (by omega)
  have h3 : putU 3 = [3] := putU_small (by omega)
  have h4 : putU 4 = [4] := putU_small (by omega)
  have hv : validB (toRe wakeRR) = true := by decide
  have hc : clkBytes (clkOf [0, 1]) = [2, 0, 1] := by
    show (2 : Int) :: (putU 0 ++ (putU 1 ++ [])) = _
    rw [h0, h1]; rfl
  rw [recBytes, if_pos hv]
  show (1 :: (putU 1 ++ putU 0)) ++ (clkBytes (clkOf [0, 1]) ++ ((putU 3 ++ (putU 4 ++ (putU 0 ++ (putU 0 ++ (putU 0 ++ (putU 2 ++ [])))))) ++ putU 0 ++ putU 1 ++ (putU 1 ++ []))) = _
  rw [hc, h0, h1, h2, h3, h4]; rfl
theorem wakeEnd_T : ReT wakeEnd := by
  refine ⟨?_, ?_, fun _ => ?_, ?_, ⟨?_, ?_, ?_, ?_, ?_, ?_, ?_, ?_, ?_⟩, ?_⟩
  all_goals first | (unfold I64; decide) | (unfold U64; decide) | decide | (show U64 0; unfold U64; decide) | (intro x hx; cases hx)
theorem wakeRR_T : RRT wakeRR := by
  refine ⟨?_, ?_, ?_, ?_, ?_, ⟨?_, ?_, ?_, ?_, ?_, ?_, ?_, ?_, ?_⟩⟩
  all_goals first | (unfold I64; decide) | (unfold U64; decide) | decide | (intro x hx; simp [wakeRR] at hx; rcases hx with rfl | rfl <;> (unfold U64; decide)) | (intro x hx; simp [wakeRR] at hx; subst hx; unfold I64; decide)
theorem lawake_any (w : World) : Calls Try.prog 18 #[] w fun e w' => e = .returned (.bool true) ∧ Ext w w' := by
  have tk1 : True := trivial
  have tk2 : True := trivial
  have tk3 : True := trivial
  have tk4 : True := trivial
  have tk5 : True := trivial
  have tk6 : True := trivial
  have tk7 : True := trivial
  go_enter Try.func18, Try.ntmps18
  go_wp2_with (first
    | (have _t := tk1; refine wpList_build 37 [(0, .const (.int .i64 2)), (1, .const (.int .u64 300)), (3, .const (.int .u8 3))] (by rfl) (by rfl) [(0, .int .i64 2), (1, .int .u64 300), (3, .int .u8 3)] _ (by rfl) (build_end _) ?_; clear tk1)
    | (have _t := tk2; refine wpList_alloc_blk 37 (by rfl) (by rfl) (recA re0 none 0) rec_zero ?_; intro w1 hB1 hx1 hs1; clear tk2)
    | (have _t := tk3; refine wpList_store_all 37 (.tmp 1) (.tmp 4) (by rfl) (by rfl) w.heap.size 37 (recA re0 none 0) (recA wakeEnd none 0) (by rfl) (by rfl) rec_size rfl (recA_one _ _ _) hB1 ?_; intro w2 hB2 hu2; have hx2 : Ext w w2 := hu2.ext hx1 (Nat.le_refl _); clear tk3)
    | (have _t := tk4; refine wpList_build 27 [(0, .const (.int .i64 3)), (1, .const (.int .i64 1)), (2, .const (.int .u8 4)), (6, .const (.int .i64 2)), (8, .tmp 7)] (by rfl) (by rfl) _ _ (by rfl) (build_ev _ _) ?_; clear tk4)
    | (have _t := tk5; refine wpList_build 29 [(0, .const (.int .u8 1)), (1, .const (.int .i64 1)), (4, .tmp 6), (5, .tmp 8)] (by rfl) (by rfl) _ _ (by rfl) (build_rr _ _ _) ?_; clear tk5))
  have hxW : Ext w2 ((w2.alloc (.cells #[.int .u64 0, .int .u64 1] 22)).alloc (.cells #[.int .i64 (-1)] 2)) := ((Ext.refl w2).alloc _).alloc _
  have hR : RAt ((w2.alloc (.cells #[.int .u64 0, .int .u64 1] 22)).alloc (.cells #[.int .i64 (-1)] 2)) wakeRR (some ⟨w2.heap.size, 0, none⟩) 2 (some ⟨w2.heap.size + 1, 0, none⟩) 1 := by
    refine ⟨?_, ?_, by decide, by decide, by decide, by decide, (fun h => by cases h), (fun h => by cases h)⟩
    · exact (At.new w2 [.int .u64 0, .int .u64 1] 22).ext ((Ext.refl _).alloc _)
    · have := At.new (w2.alloc (.cells #[.int .u64 0, .int .u64 1] 22)) [.int .i64 (-1)] 2
      have hs : (w2.alloc (.cells #[.int .u64 0, .int .u64 1] 22)).heap.size = w2.heap.size + 1 := by simp
      rw [hs] at this
      exact this
  refine (LRecord_any wakeRR _ _ _ _ _ hR).mono ?_
  rintro e w3 ⟨rfl, hx3⟩
  have hB3 := (hB2.ext hxW).ext hx3
  have hA3 := (hR.ext hx3).args
  have hx23 := hxW.trans hx3
  have hT1 := wakeRR_T.re
  generalize hA : some (⟨w2.heap.size + 1, 0, none⟩ : Addr) = A at *
  clear hR hA hxW
  go_wp2_with (first
    | (have _t := tk6; refine wpList_alloc_blk 37 (by rfl) (by rfl) (recA re0 none 0) rec_zero ?_; intro w4 hB4 hx4 hs4; clear tk6)
    | (have _t := tk7; refine wpList_store_all 37 (.tmp 2) (.tmp 11) (by rfl) (by rfl) w3.heap.size 37 (recA re0 none 0) (recA (toRe wakeRR) A 1) (by rfl) (by rfl) rec_size rfl (recA_one _ _ _) hB4 ?_; intro w5 hB5 hu5; have hx5 : Ext w3 w5 := hu5.ext hx4 (Nat.le_refl _); clear tk7)
    | (refine wpList_load_rg 37 (.tmp 1) (by rfl) (by rfl) w.heap.size 0 (recA wakeEnd none 0) (by rfl) Try.underlying37 (by rfl) rec_size (hB3.ext hx5).range ?_))
  have Kb := RecBytes_any wakeEnd none 0 w5 (At.nil _ _) (by decide) wakeEnd_T
  rw [end_bytes] at Kb
  refine Kb.mono ?_
  intro e w6 h6
  obtain ⟨A6, c6, rfl, ho6, hb6⟩ := h6
  have hx6 : Ext w5 w6 := hb6
  clear Kb
  go_wp2_with fail
  refine (slEqU8_any A6 _ c6 4 [3, 2, 172, 2] [3, 2, 172, 2] _ ((At.of_own ho6).ext ((Ext.refl _).alloc _)) (At.new w6 [.int .u8 3, .int .u8 2, .int .u8 172, .int .u8 2] 5) (by decide)).mono ?_
  rintro e w7 ⟨rfl, hx7⟩
  have hx57 := hx6.trans (((Ext.refl w6).alloc _).trans hx7)
  have hB7 := hB5.ext hx57
  have hA7 := (hA3.ext hx5).ext hx57
  have htt : ([3, 2, 172, 2] == ([3, 2, 172, 2] : List Int)) = true := by decide
  have tk8 : True := trivial
  clear ho6
  go_wp2_with (first
    | (have _t := tk8; refine wpList_load_rg 37 (.tmp 2) (by rfl) (by rfl) w3.heap.size 0 (recA (toRe wakeRR) A 1) (by rfl) Try.underlying37 (by rfl) rec_size hB7.range ?_; clear tk8))
  have Kc := RecBytes_any (toRe wakeRR) A 1 w7 hA7 (by decide) hT1
  rw [ent_bytes] at Kc
  refine Kc.mono ?_
  intro e w8 h8
  obtain ⟨A8, c8, rfl, ho8, hb8⟩ := h8
  have hx8 : Ext w7 w8 := hb8
  clear Kc
  go_wp2_with fail
  refine (slEqU8_any A8 _ c8 15 [1, 1, 0, 2, 0, 1, 3, 4, 0, 0, 0, 2, 0, 1, 1] [1, 1, 0, 2, 0, 1, 3, 4, 0, 0, 0, 2, 0, 1, 1] _ ((At.of_own ho8).ext ((Ext.refl _).alloc _)) (At.new w8 [.int .u8 1, .int .u8 1, .int .u8 0, .int .u8 2, .int .u8 0, .int .u8 1, .int .u8 3, .int .u8 4, .int .u8 0, .int .u8 0, .int .u8 0, .int .u8 2, .int .u8 0, .int .u8 1, .int .u8 1] 5) (by decide)).mono ?_
  rintro e w9 ⟨rfl, hx9⟩
  go_wp2_with fail
  go_ret
  exact ⟨rfl, (((hx2.trans hx23).trans hx5).trans hx57).trans (hx8.trans (((Ext.refl w8).alloc _).trans hx9))⟩
end Go.Proofs.Ytkadjbpmnpcfhaa
