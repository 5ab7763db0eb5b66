/-
  Walk of the law RecordAlone.
-/
import Derived.Test.YtkadjbpmnpcfhaaLwSpoilt
import Derived.Test.YtkadjbpmnpcfhaaRdO
set_option maxRecDepth 100000
set_option maxHeartbeats 4000000
set_option linter.unusedVariables false
set_option linter.unusedSimpArgs false
namespace Go.Proofs.Ytkadjbpmnpcfhaa
open Go.RowKit

theorem alone_c (x : RR) (v : Int) (hx : RRT x) (hvb : Byt v) : PCall Try.prog 7 [.agg (rrD x), .int .u8 v] (.bool true) := by
  have kx := small_c x
  have sx := small_T hx
  have cx := smallR_cl x
  have ax := smallR_al x
  generalize smallR x = X at *
  have kb := refBytes_o X cx ax sx
  have hby := recBytes_byt sx.re
  have hle := recBytes_small sx.re
  cases hv : validB (toRe X) with
  | false =>
    have h0 : recBytes (toRe X) = [] := by unfold recBytes; rw [hv]; rfl
    rw [h0] at kb
    have kr := read_c [] (by simp) (by simp)
    have hr0 : recRD (readRec []) = .tup [.agg (recD re0), .int .i64 6] := rfl
    rw [hr0] at kr
    refine PCall.body Try.func7 Try.ntmps7 rfl rfl rfl rfl ?_
    refine a_seq ?_
    (apply a_region; (case ht => ((apply Trace.cons; (case h => exact o_box rfl rfl)); (apply Trace.cons; (case h => exact o_assign rfl)); exact Trace.nil _)); (case hd => kernel_rfl); (case hnew => kernel_rfl))
    refine a_seq ?_
    refine a_seq ?_
    (apply a_region; (case ht => ((apply Trace.cons; (case h => exact o_call awake_c rfl (DLeL.refl _) rfl)); (apply Trace.cons; (case h => exact o_not rfl)); exact Trace.nil _)); (case hd => kernel_rfl); (case hnew => kernel_rfl))
    refine a_cond _ rfl (fun c1 => ?_) (fun c1 => ?_)
    · exact absurd c1 (by decide)
    · refine a_skip ?_
      refine a_seq ?_
      (apply a_region; (case ht => ((apply Trace.cons; (case h => (first | (exact o_call kx rfl (DLeL.refl _) rfl) | (exact o_load_r rfl rfl rfl rfl) | (exact o_load_er rfl rfl rfl) | (exact o_load_pr rfl rfl rfl rfl rfl rfl)))); (apply Trace.cons; (case h => exact o_call kx rfl (DLeL.refl _) rfl)); (apply Trace.cons; (case h => (first | (exact o_call kx rfl (DLeL.refl _) rfl) | (exact o_store rfl rfl rfl rfl rfl rfl rfl)))); exact Trace.nil _)); (case hd => kernel_rfl); (case hnew => kernel_rfl))
      refine a_seq ?_
      (apply a_region; (case ht => ((apply Trace.cons; (case h => (first | (exact o_callA (fun _ => 17) kb rfl (DLeL.refl _) PreOk.nil rfl) | (exact o_load_r rfl rfl rfl rfl) | (exact o_load_er rfl rfl rfl) | (exact o_load_pr rfl rfl rfl rfl rfl rfl)))); (apply Trace.cons; (case h => exact o_callA (fun _ => 17) kb rfl (DLeL.refl _) PreOk.nil rfl)); (apply Trace.cons; (case h => exact o_assign rfl)); exact Trace.nil _)); (case hd => kernel_rfl); (case hnew => kernel_rfl))
      refine a_imp (Imp.freeze (id := 17) rfl) ?_
      refine a_seq ?_
      (apply a_region; (case ht => ((apply Trace.cons; (case h => exact o_move rfl)); (apply Trace.cons; (case h => exact o_call kr rfl (DLeL.refl _) rfl)); (apply Trace.cons; (case h => exact o_move rfl)); (apply Trace.cons; (case h => exact o_extract rfl rfl)); (apply Trace.cons; (case h => exact o_extract rfl rfl)); (apply Trace.cons; (case h => exact o_alloc rfl)); (apply Trace.cons; (case h => (first | (exact o_call kr rfl (DLeL.refl _) rfl) | (exact o_store rfl rfl rfl rfl rfl rfl rfl)))); (apply Trace.cons; (case h => exact o_assign rfl)); exact Trace.nil _)); (case hd => kernel_rfl); (case hnew => kernel_rfl))
      refine a_seq ?_
      refine a_seq ?_
      (apply a_region; (case ht => ((apply Trace.cons; (case h => exact o_move rfl)); (apply Trace.cons; (case h => exact o_int rfl rfl rfl)); exact Trace.nil _)); (case hd => kernel_rfl); (case hnew => kernel_rfl))
      refine a_cond _ rfl (fun c2 => ?_) (fun c2 => ?_)
      · refine a_seq ?_
        (apply a_region; (case ht => ((apply Trace.cons; (case h => exact o_move rfl)); (apply Trace.cons; (case h => (first | (exact o_len rfl) | (exact o_len_r rfl rfl) | (exact o_len_n rfl)))); (apply Trace.cons; (case h => exact o_int rfl rfl rfl)); (apply Trace.cons; (case h => exact o_assign rfl)); exact Trace.nil _)); (case hd => kernel_rfl); (case hnew => kernel_rfl))
        refine a_ret ?_
        ((refine a_post (ResV.r1 (ResOk.tmp rfl)) (DLe.of_eq ?_) PostOk.nil.spec) <;> (rfl))
      · exact absurd c2 (by decide)
  | true =>
    obtain ⟨z, hz1, hz2⟩ := readRec_of hv sx.re
    generalize hP : recBytes (toRe X) = P at *
    have kr := read_o P hby (by omega) z hz2
    obtain ⟨y1, y2, y3, y4⟩ := readRec_ok hby (by omega) hz2
    have k1 := rec2_c z
    have k4 := same_c (toRR z) X (toRR_cl z) (Nat.le_trans y4 (by omega)) cx ax
    have hq : recEq (toRe (toRR z)) (toRe X) = true := recEq_trans (toRR_eq z) (by first | exact hz1 | (rw [recEq_comm]; exact hz1))
    rw [hq] at k4
    refine PCall.body Try.func7 Try.ntmps7 rfl rfl rfl rfl ?_
    refine a_seq ?_
    (apply a_region; (case ht => ((apply Trace.cons; (case h => exact o_box rfl rfl)); (apply Trace.cons; (case h => exact o_assign rfl)); exact Trace.nil _)); (case hd => kernel_rfl); (case hnew => kernel_rfl))
    refine a_seq ?_
    refine a_seq ?_
    (apply a_region; (case ht => ((apply Trace.cons; (case h => exact o_call awake_c rfl (DLeL.refl _) rfl)); (apply Trace.cons; (case h => exact o_not rfl)); exact Trace.nil _)); (case hd => kernel_rfl); (case hnew => kernel_rfl))
    refine a_cond _ rfl (fun c1 => ?_) (fun c1 => ?_)
    · exact absurd c1 (by decide)
    · refine a_skip ?_
      refine a_seq ?_
      (apply a_region; (case ht => ((apply Trace.cons; (case h => (first | (exact o_call kx rfl (DLeL.refl _) rfl) | (exact o_load_r rfl rfl rfl rfl) | (exact o_load_er rfl rfl rfl) | (exact o_load_pr rfl rfl rfl rfl rfl rfl)))); (apply Trace.cons; (case h => exact o_call kx rfl (DLeL.refl _) rfl)); (apply Trace.cons; (case h => (first | (exact o_call kx rfl (DLeL.refl _) rfl) | (exact o_store rfl rfl rfl rfl rfl rfl rfl)))); exact Trace.nil _)); (case hd => kernel_rfl); (case hnew => kernel_rfl))
      refine a_seq ?_
      (apply a_region; (case ht => ((apply Trace.cons; (case h => (first | (exact o_callA (fun _ => 17) kb rfl (DLeL.refl _) PreOk.nil rfl) | (exact o_load_r rfl rfl rfl rfl) | (exact o_load_er rfl rfl rfl) | (exact o_load_pr rfl rfl rfl rfl rfl rfl)))); (apply Trace.cons; (case h => exact o_callA (fun _ => 17) kb rfl (DLeL.refl _) PreOk.nil rfl)); (apply Trace.cons; (case h => exact o_assign rfl)); exact Trace.nil _)); (case hd => kernel_rfl); (case hnew => kernel_rfl))
      refine a_seq ?_
      (apply a_region; (case ht => ((apply Trace.cons; (case h => exact o_move rfl)); (apply Trace.cons; (case h => exact o_callQA (k := .i64) (l := z.ev.args) 900 kr rfl (ViewL.row rfl ViewL.nil) rfl rfl rfl rfl rfl)); (apply Trace.cons; (case h => exact o_move rfl)); (apply Trace.cons; (case h => exact o_extract rfl rfl)); (apply Trace.cons; (case h => exact o_extract rfl rfl)); (apply Trace.cons; (case h => exact o_alloc rfl)); (apply Trace.cons; (case h => (first | (exact o_callQA (k := .i64) (l := z.ev.args) 900 kr rfl (ViewL.row rfl ViewL.nil) rfl rfl rfl rfl rfl) | (exact o_store rfl rfl rfl rfl rfl rfl rfl)))); (apply Trace.cons; (case h => exact o_assign rfl)); exact Trace.nil _)); (case hd => kernel_rfl); (case hnew => kernel_rfl))
      refine a_seq ?_
      refine a_seq ?_
      (apply a_region; (case ht => ((apply Trace.cons; (case h => exact o_move rfl)); (apply Trace.cons; (case h => exact o_int rfl rfl rfl)); exact Trace.nil _)); (case hd => kernel_rfl); (case hnew => kernel_rfl))
      refine a_cond _ rfl (fun c2 => ?_) (fun c2 => ?_)
      · exact absurd c2 (by decide)
      · refine a_skip ?_
        refine a_seq ?_
        refine a_seq ?_
        (apply a_region; (case ht => ((apply Trace.cons; (case h => exact o_move rfl)); (apply Trace.cons; (case h => (first | (exact o_len rfl) | (exact o_len_r rfl rfl) | (exact o_len_n rfl)))); (apply Trace.cons; (case h => exact o_move rfl)); exact Trace.nil _)); (case hd => kernel_rfl); (case hnew => kernel_rfl))
        refine a_block ?_
        refine a_loop (fun p : List Int × Nat => ⟨[(1, .int .u8 v), (2, .ref 2 0), (5, .row 17), (6, .ref 6 0), (26, .int .i64 (P.length : Int)), (27, .int .i64 (p.2 : Int))],
            [(2, some (.blk 29 (rrD X))), (6, some (.blk 37 (recX z (.row 900)))), (17, some (.row 5 1 (p.1.map (DV.int .u8)))), (900, some (.row 2 1 (z.ev.args.map (DV.int .i64))))], [2, 6, 17, 900]⟩)
          (fun p => p.1.length = P.length ∧ p.2 ≤ P.length) (fun p => P.length - p.2) (P, 0) ?_ ?_ ?_
        · exact Imp.of (fun i => i) (.cons rfl (DLe.refl _) (.cons rfl (DLe.refl _) (.cons rfl (DLe.refl _) (.cons rfl (DLe.refl _) (.cons rfl (DLe.of_eq (by simp [DV.ren])) (.cons rfl (DLe.refl _) .nil)))))) (.cons rfl (.refl _) (.cons rfl (.refl _) (.cons rfl (.refl _) (.cons rfl (.refl _) .nil)))) rfl rfl rfl
        · exact ⟨rfl, Nat.zero_le _⟩
        rintro ⟨l, k⟩ ⟨i1, i2⟩
        simp only at i1 i2
        dsimp only
        refine a_seq ?_
        (apply a_region; (case ht => ((apply Trace.cons; (case h => exact o_int rfl rfl rfl)); exact Trace.nil _)); (case hd => kernel_rfl); (case hnew => kernel_rfl))
        refine a_seq ?_
        refine a_cond _ rfl (fun c3 => ?_) (fun c3 => ?_)
        · have hlt : k < P.length := by simp only [decide_eq_true_eq] at c3; omega
          obtain ⟨p, hp⟩ : ∃ p, l[k]? = some p := ⟨_, List.getElem?_eq_getElem (by omega)⟩
          have hget : (l.map (DV.int .u8))[k]? = some (.int .u8 p) := by rw [List.getElem?_map, hp]; rfl
          have hset : (l.map (DV.int .u8)).set k (.int .u8 v) = (l.set k v).map (DV.int .u8) := by rw [List.map_set]
          refine a_skip ?_
          refine a_seq ?_
          refine a_block ?_
          refine a_seq ?_
          (apply a_region; (case ht => ((apply Trace.cons; (case h => exact o_move rfl)); (apply Trace.cons; (case h => exact o_assign rfl)); exact Trace.nil _)); (case hd => kernel_rfl); (case hnew => kernel_rfl))
          (apply a_region; (case ht => ((apply Trace.cons; (case h => exact o_move rfl)); (apply Trace.cons; (case h => exact o_move rfl)); (apply Trace.cons; (case h => exact o_move rfl)); (apply Trace.cons; (case h => (first | (exact o_indexAddr_r k rfl rfl rfl rfl (by simp; omega)) | (exact o_store_p (e' := .int .u8 v) rfl rfl rfl hget rfl rfl rfl rfl rfl rfl rfl (by decide)) | (exact o_indexAddr _ rfl rfl rfl (by assumption) rfl) | (exact o_indexAddr_r _ rfl rfl rfl rfl (by omega)) | (exact o_indexAddr_a _ rfl rfl rfl (by omega))))); (apply Trace.cons; (case h => (first | (exact o_indexAddr_r k rfl rfl rfl rfl (by simp; omega)) | (exact o_store_p (e' := .int .u8 v) rfl rfl rfl hget rfl rfl rfl rfl rfl rfl rfl (by decide)) | (exact o_store_s rfl rfl rfl rfl rfl)))); exact Trace.nil _)); (case hd => kernel_rfl); (case hnew => kernel_rfl))
          (apply a_region; (case ht => ((apply Trace.cons; (case h => (first | (exact o_add rfl rfl (by simp only [InR]; omega)) | (exact o_int rfl rfl rfl)))); (apply Trace.cons; (case h => exact o_move rfl)); exact Trace.nil _)); (case hd => kernel_rfl); (case hnew => kernel_rfl))
          refine QLoop.next (l.set k v, k + 1) ⟨by simp; omega, by simp only; omega⟩ (by simp only; omega) (Imp.of (fun i => i) (.cons rfl (DLe.refl _) (.cons rfl (DLe.refl _) (.cons rfl (DLe.refl _) (.cons rfl (DLe.refl _) (.cons rfl (DLe.refl _) (.cons rfl (DLe.of_eq ?_) .nil)))))) (.cons rfl (.refl _) (.cons rfl (.refl _) (.cons rfl (HLe.of_eq ?_) (.cons rfl (.refl _) .nil)))) rfl rfl rfl)
          · simp [DV.ren]
          · simp [HE.ren, DV.ren, ← hset]
        · refine a_exit ?_
          refine a_imp (Imp.freeze (id := 900) rfl) ?_
          refine a_seq ?_
          (apply a_draw mixed; (case ht => ((apply Trace.cons; (case h => (first | (exact o_call k1 rfl (DLeL.refl _) rfl) | (exact o_call k4 rfl (DLeL.refl _) rfl) | (exact o_load_r rfl rfl rfl rfl) | (exact o_load_er rfl rfl rfl) | (exact o_load_pr rfl rfl rfl rfl rfl rfl)))); (apply Trace.cons; (case h => (first | (exact o_call k1 rfl (DLeL.refl _) rfl) | (exact o_call k4 rfl (DLeL.refl _) rfl)))); (apply Trace.cons; (case h => (first | (exact o_call k1 rfl (DLeL.refl _) rfl) | (exact o_call k4 rfl (DLeL.refl _) rfl) | (exact o_load_r rfl rfl rfl rfl) | (exact o_load_er rfl rfl rfl) | (exact o_load_pr rfl rfl rfl rfl rfl rfl)))); (apply Trace.cons; (case h => (first | (exact o_call k1 rfl (DLeL.refl _) rfl) | (exact o_call k4 rfl (DLeL.refl _) rfl)))); (apply Trace.cons; (case h => exact o_assign rfl)); exact Trace.nil _)); (case hk => kernel_rfl); (case hd => kernel_rfl); (case hnew => kernel_rfl))
          refine a_ret ?_
          ((refine a_post (ResV.r1 (ResOk.tmp rfl)) (DLe.of_eq ?_) PostOk.nil.spec) <;> ((simp [constDV])))
end Go.Proofs.Ytkadjbpmnpcfhaa
