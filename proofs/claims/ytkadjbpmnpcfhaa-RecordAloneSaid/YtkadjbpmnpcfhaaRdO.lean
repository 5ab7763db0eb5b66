/-
  Walks of record.readEvent and record.Read again: the arguments of the event are memory of the caller's own.
-/
import Derived.Test.YtkadjbpmnpcfhaaEngR
import Derived.Test.YtkadjbpmnpcfhaaRdE
set_option maxRecDepth 100000
set_option maxHeartbeats 1000000
set_option linter.unusedVariables false
set_option linter.unusedSimpArgs false
namespace Go.Proofs.Ytkadjbpmnpcfhaa
open Go.RowKit
def evX (e : Ev) (a : DV) : List DV := [.int .i64 e.tick, .int .i64 e.comp, .int .u8 e.kind, .int .i64 e.peer, .int .i64 e.n, .int .i64 e.copy, .int .i64 e.handler, .int .i64 e.d, a]
def recX (r : Re) (a : DV) : List DV := (.int .i64 r.comp :: .int .u64 r.seq :: clkD r.clk) ++ (.int .u8 r.what :: evX r.ev a) ++ [.int .u64 r.count]

theorem readEvent_o (c : Int) (r : Rd) (hr : RdOk r) : ACall Try.prog 63 ⟨[.ref 100000 0, .int .i64 c], [(100000, some (rdE r))], .agg (evX (r.event c).1 (.row 900)), [(900, some (.row 2 1 ((r.event c).1.args.map (.int .i64)))), (100000, some (rdE (r.event c).2))], [900]⟩ := by
  have hev : r.event c = (let p1 := r.uint M31
    let p2 := p1.2.uint 255
    let p3 := p2.2.uint M31
    let p4 := p3.2.uint M31
    let p5 := p4.2.uint M31
    let p6 := p5.2.uint M31
    let p7 := p6.2.int
    let p8 := p7.2.uint 4
    let p9 := p8.2.ints p8.1.toNat
    (⟨p1.1, c, p2.1, p3.1, p4.1, p5.1, p6.1, p7.1, p9.1⟩, p9.2)) := rfl
  simp only at hev
  have k1 := num_c r hr
  have o1 := hr.uint M31
  generalize r.uint M31 = q1 at *
  obtain ⟨v1, r1⟩ := q1
  have k2 := rUint_c r1 255 o1 ⟨by decide, by decide⟩
  have b2 := uint_range o1 (m := 255) (by decide)
  have o2 := o1.uint 255
  simp only at hev
  generalize r1.uint 255 = q2 at *
  obtain ⟨v2, r2⟩ := q2
  have k3 := num_c r2 o2
  have o3 := o2.uint M31
  simp only at hev
  generalize r2.uint M31 = q3 at *
  obtain ⟨v3, r3⟩ := q3
  have k4 := num_c r3 o3
  have o4 := o3.uint M31
  simp only at hev
  generalize r3.uint M31 = q4 at *
  obtain ⟨v4, r4⟩ := q4
  have k5 := num_c r4 o4
  have o5 := o4.uint M31
  simp only at hev
  generalize r4.uint M31 = q5 at *
  obtain ⟨v5, r5⟩ := q5
  have k6 := num_c r5 o5
  have o6 := o5.uint M31
  simp only at hev
  generalize r5.uint M31 = q6 at *
  obtain ⟨v6, r6⟩ := q6
  have k7 := rInt_c r6 o6
  have o7 := o6.int
  simp only at hev
  generalize r6.int = q7 at *
  obtain ⟨v7, r7⟩ := q7
  have k8 := rUint_c r7 4 o7 ⟨by decide, by decide⟩
  have b8 := uint_range o7 (m := 4) (by decide)
  have o8 := o7.uint 4
  simp only at hev
  generalize r7.uint 4 = q8 at *
  obtain ⟨v8, r8⟩ := q8
  simp only at hev k1 k2 k3 k4 k5 k6 k7 k8 o1 o2 o3 o4 o5 o6 o7 o8 b2 b8
  obtain ⟨cnt, rfl⟩ : ∃ cnt : Nat, v8 = cnt := ⟨v8.toNat, by omega⟩
  rw [Int.toNat_natCast] at hev
  rw [hev]
  clear hev
  refine ACall.body Try.func63 Try.ntmps63 rfl rfl rfl rfl ?_
  refine a_seq ?_
  (apply a_region; (case ht => ((apply Trace.cons; (case h => exact o_box rfl rfl)); (apply Trace.cons; (case h => exact o_alloc rfl)); exact Trace.nil _)); (case hd => kernel_rfl); (case hnew => kernel_rfl))
  refine a_seq ?_
  (apply a_region; (case ht => ((apply Trace.cons; (case h => exact o_makeFunc rfl)); (apply Trace.cons; (case h => exact o_assign rfl)); exact Trace.nil _)); (case hd => kernel_rfl); (case hnew => kernel_rfl))
  refine a_seq ?_
  (apply a_draw mixed; (case ht => ((apply Trace.cons; (case h => exact o_move rfl)); (apply Trace.cons; (case h => exact o_move rfl)); (apply Trace.cons; (case h => (first | (exact o_callV fB 1 k1 rfl rfl (DLeL.refl _) (PreOk.cons rfl (PreOk.cons rfl PreOk.nil)) rfl (RoOk.cons rfl RoOk.nil)) | (exact o_callN (fun _ => 100000) 1 k2 rfl (DLeL.refl _) (PreOk.cons rfl PreOk.nil) rfl RoOk.nil)))); (apply Trace.cons; (case h => (first | (exact o_callV fB 1 k1 rfl rfl (DLeL.refl _) (PreOk.cons rfl (PreOk.cons rfl PreOk.nil)) rfl (RoOk.cons rfl RoOk.nil)) | (exact o_callN (fun _ => 100000) 1 k2 rfl (DLeL.refl _) (PreOk.cons rfl PreOk.nil) rfl RoOk.nil) | (exact o_load_s rfl rfl rfl) | (exact o_load_es rfl rfl) | (exact o_load_ps rfl rfl rfl rfl rfl)))); (apply Trace.cons; (case h => (first | (exact o_callV fB 1 k1 rfl rfl (DLeL.refl _) (PreOk.cons rfl (PreOk.cons rfl PreOk.nil)) rfl (RoOk.cons rfl RoOk.nil)) | (exact o_callN (fun _ => 100000) 1 k2 rfl (DLeL.refl _) (PreOk.cons rfl PreOk.nil) rfl RoOk.nil)))); (apply Trace.cons; (case h => (first | (exact o_callV fB 1 k1 rfl rfl (DLeL.refl _) (PreOk.cons rfl (PreOk.cons rfl PreOk.nil)) rfl (RoOk.cons rfl RoOk.nil)) | (exact o_callN (fun _ => 100000) 1 k2 rfl (DLeL.refl _) (PreOk.cons rfl PreOk.nil) rfl RoOk.nil) | (exact o_conv rfl (by simp only [InR]; omega)) | (exact o_conv_w rfl)))); (apply Trace.cons; (case h => (first | (exact o_callV fB 1 k1 rfl rfl (DLeL.refl _) (PreOk.cons rfl (PreOk.cons rfl PreOk.nil)) rfl (RoOk.cons rfl RoOk.nil)) | (exact o_callN (fun _ => 100000) 1 k2 rfl (DLeL.refl _) (PreOk.cons rfl PreOk.nil) rfl RoOk.nil) | (exact o_build rfl rfl rfl)))); (apply Trace.cons; (case h => exact o_alloc rfl)); (apply Trace.cons; (case h => (first | (exact o_callV fB 1 k1 rfl rfl (DLeL.refl _) (PreOk.cons rfl (PreOk.cons rfl PreOk.nil)) rfl (RoOk.cons rfl RoOk.nil)) | (exact o_callN (fun _ => 100000) 1 k2 rfl (DLeL.refl _) (PreOk.cons rfl PreOk.nil) rfl RoOk.nil) | (exact o_store rfl rfl rfl rfl rfl rfl rfl)))); exact Trace.nil _)); (case hk => kernel_rfl); (case hd => kernel_rfl); (case hnew => kernel_rfl))
  refine a_seq ?_
  (apply a_region; (case ht => ((apply Trace.cons; (case h => exact o_move rfl)); (apply Trace.cons; (case h => (first | (exact o_callV fB 1 k3 rfl rfl (DLeL.refl _) (PreOk.cons rfl (PreOk.cons rfl PreOk.nil)) rfl (RoOk.cons rfl RoOk.nil)) | (exact o_callV fB 1 k4 rfl rfl (DLeL.refl _) (PreOk.cons rfl (PreOk.cons rfl PreOk.nil)) rfl (RoOk.cons rfl RoOk.nil)) | (exact o_callV fB 1 k5 rfl rfl (DLeL.refl _) (PreOk.cons rfl (PreOk.cons rfl PreOk.nil)) rfl (RoOk.cons rfl RoOk.nil)) | (exact o_callV fB 1 k6 rfl rfl (DLeL.refl _) (PreOk.cons rfl (PreOk.cons rfl PreOk.nil)) rfl (RoOk.cons rfl RoOk.nil))))); (apply Trace.cons; (case h => exact o_move rfl)); (apply Trace.cons; (case h => (first | (exact o_callV fB 1 k3 rfl rfl (DLeL.refl _) (PreOk.cons rfl (PreOk.cons rfl PreOk.nil)) rfl (RoOk.cons rfl RoOk.nil)) | (exact o_callV fB 1 k4 rfl rfl (DLeL.refl _) (PreOk.cons rfl (PreOk.cons rfl PreOk.nil)) rfl (RoOk.cons rfl RoOk.nil)) | (exact o_callV fB 1 k5 rfl rfl (DLeL.refl _) (PreOk.cons rfl (PreOk.cons rfl PreOk.nil)) rfl (RoOk.cons rfl RoOk.nil)) | (exact o_callV fB 1 k6 rfl rfl (DLeL.refl _) (PreOk.cons rfl (PreOk.cons rfl PreOk.nil)) rfl (RoOk.cons rfl RoOk.nil))))); (apply Trace.cons; (case h => exact o_move rfl)); (apply Trace.cons; (case h => (first | (exact o_callV fB 1 k3 rfl rfl (DLeL.refl _) (PreOk.cons rfl (PreOk.cons rfl PreOk.nil)) rfl (RoOk.cons rfl RoOk.nil)) | (exact o_callV fB 1 k4 rfl rfl (DLeL.refl _) (PreOk.cons rfl (PreOk.cons rfl PreOk.nil)) rfl (RoOk.cons rfl RoOk.nil)) | (exact o_callV fB 1 k5 rfl rfl (DLeL.refl _) (PreOk.cons rfl (PreOk.cons rfl PreOk.nil)) rfl (RoOk.cons rfl RoOk.nil)) | (exact o_callV fB 1 k6 rfl rfl (DLeL.refl _) (PreOk.cons rfl (PreOk.cons rfl PreOk.nil)) rfl (RoOk.cons rfl RoOk.nil))))); (apply Trace.cons; (case h => exact o_move rfl)); (apply Trace.cons; (case h => (first | (exact o_callV fB 1 k3 rfl rfl (DLeL.refl _) (PreOk.cons rfl (PreOk.cons rfl PreOk.nil)) rfl (RoOk.cons rfl RoOk.nil)) | (exact o_callV fB 1 k4 rfl rfl (DLeL.refl _) (PreOk.cons rfl (PreOk.cons rfl PreOk.nil)) rfl (RoOk.cons rfl RoOk.nil)) | (exact o_callV fB 1 k5 rfl rfl (DLeL.refl _) (PreOk.cons rfl (PreOk.cons rfl PreOk.nil)) rfl (RoOk.cons rfl RoOk.nil)) | (exact o_callV fB 1 k6 rfl rfl (DLeL.refl _) (PreOk.cons rfl (PreOk.cons rfl PreOk.nil)) rfl (RoOk.cons rfl RoOk.nil))))); (apply Trace.cons; (case h => (first | (exact o_fieldAddr rfl) | (exact o_fieldAddr_e rfl rfl) | (exact o_fieldAddr_p rfl)))); (apply Trace.cons; (case h => (first | (exact o_callV fB 1 k3 rfl rfl (DLeL.refl _) (PreOk.cons rfl (PreOk.cons rfl PreOk.nil)) rfl (RoOk.cons rfl RoOk.nil)) | (exact o_callV fB 1 k4 rfl rfl (DLeL.refl _) (PreOk.cons rfl (PreOk.cons rfl PreOk.nil)) rfl (RoOk.cons rfl RoOk.nil)) | (exact o_callV fB 1 k5 rfl rfl (DLeL.refl _) (PreOk.cons rfl (PreOk.cons rfl PreOk.nil)) rfl (RoOk.cons rfl RoOk.nil)) | (exact o_callV fB 1 k6 rfl rfl (DLeL.refl _) (PreOk.cons rfl (PreOk.cons rfl PreOk.nil)) rfl (RoOk.cons rfl RoOk.nil)) | (exact o_store_s rfl rfl rfl rfl rfl)))); (apply Trace.cons; (case h => (first | (exact o_fieldAddr rfl) | (exact o_fieldAddr_e rfl rfl) | (exact o_fieldAddr_p rfl)))); (apply Trace.cons; (case h => (first | (exact o_callV fB 1 k3 rfl rfl (DLeL.refl _) (PreOk.cons rfl (PreOk.cons rfl PreOk.nil)) rfl (RoOk.cons rfl RoOk.nil)) | (exact o_callV fB 1 k4 rfl rfl (DLeL.refl _) (PreOk.cons rfl (PreOk.cons rfl PreOk.nil)) rfl (RoOk.cons rfl RoOk.nil)) | (exact o_callV fB 1 k5 rfl rfl (DLeL.refl _) (PreOk.cons rfl (PreOk.cons rfl PreOk.nil)) rfl (RoOk.cons rfl RoOk.nil)) | (exact o_callV fB 1 k6 rfl rfl (DLeL.refl _) (PreOk.cons rfl (PreOk.cons rfl PreOk.nil)) rfl (RoOk.cons rfl RoOk.nil)) | (exact o_store_s rfl rfl rfl rfl rfl)))); (apply Trace.cons; (case h => (first | (exact o_fieldAddr rfl) | (exact o_fieldAddr_e rfl rfl) | (exact o_fieldAddr_p rfl)))); (apply Trace.cons; (case h => (first | (exact o_callV fB 1 k3 rfl rfl (DLeL.refl _) (PreOk.cons rfl (PreOk.cons rfl PreOk.nil)) rfl (RoOk.cons rfl RoOk.nil)) | (exact o_callV fB 1 k4 rfl rfl (DLeL.refl _) (PreOk.cons rfl (PreOk.cons rfl PreOk.nil)) rfl (RoOk.cons rfl RoOk.nil)) | (exact o_callV fB 1 k5 rfl rfl (DLeL.refl _) (PreOk.cons rfl (PreOk.cons rfl PreOk.nil)) rfl (RoOk.cons rfl RoOk.nil)) | (exact o_callV fB 1 k6 rfl rfl (DLeL.refl _) (PreOk.cons rfl (PreOk.cons rfl PreOk.nil)) rfl (RoOk.cons rfl RoOk.nil)) | (exact o_store_s rfl rfl rfl rfl rfl)))); (apply Trace.cons; (case h => (first | (exact o_fieldAddr rfl) | (exact o_fieldAddr_e rfl rfl) | (exact o_fieldAddr_p rfl)))); (apply Trace.cons; (case h => (first | (exact o_callV fB 1 k3 rfl rfl (DLeL.refl _) (PreOk.cons rfl (PreOk.cons rfl PreOk.nil)) rfl (RoOk.cons rfl RoOk.nil)) | (exact o_callV fB 1 k4 rfl rfl (DLeL.refl _) (PreOk.cons rfl (PreOk.cons rfl PreOk.nil)) rfl (RoOk.cons rfl RoOk.nil)) | (exact o_callV fB 1 k5 rfl rfl (DLeL.refl _) (PreOk.cons rfl (PreOk.cons rfl PreOk.nil)) rfl (RoOk.cons rfl RoOk.nil)) | (exact o_callV fB 1 k6 rfl rfl (DLeL.refl _) (PreOk.cons rfl (PreOk.cons rfl PreOk.nil)) rfl (RoOk.cons rfl RoOk.nil)) | (exact o_store_s rfl rfl rfl rfl rfl)))); exact Trace.nil _)); (case hd => kernel_rfl); (case hnew => kernel_rfl))
  refine a_seq ?_
  (apply a_region; (case ht => ((apply Trace.cons; (case h => (first | (exact o_callN (fun _ => 100000) 1 k7 rfl (DLeL.refl _) (PreOk.cons rfl PreOk.nil) rfl RoOk.nil) | (exact o_load_s rfl rfl rfl) | (exact o_load_es rfl rfl) | (exact o_load_ps rfl rfl rfl rfl rfl)))); (apply Trace.cons; (case h => exact o_callN (fun _ => 100000) 1 k7 rfl (DLeL.refl _) (PreOk.cons rfl PreOk.nil) rfl RoOk.nil)); (apply Trace.cons; (case h => (first | (exact o_fieldAddr rfl) | (exact o_fieldAddr_e rfl rfl) | (exact o_fieldAddr_p rfl)))); (apply Trace.cons; (case h => (first | (exact o_callN (fun _ => 100000) 1 k7 rfl (DLeL.refl _) (PreOk.cons rfl PreOk.nil) rfl RoOk.nil) | (exact o_store_s rfl rfl rfl rfl rfl)))); exact Trace.nil _)); (case hd => kernel_rfl); (case hnew => kernel_rfl))
  refine a_seq ?_
  refine a_seq ?_
  (apply a_region; (case ht => ((apply Trace.cons; (case h => (first | (exact o_callN (fun _ => 100000) 1 k8 rfl (DLeL.refl _) (PreOk.cons rfl PreOk.nil) rfl RoOk.nil) | (exact o_load_s rfl rfl rfl) | (exact o_load_es rfl rfl) | (exact o_load_ps rfl rfl rfl rfl rfl)))); (apply Trace.cons; (case h => exact o_callN (fun _ => 100000) 1 k8 rfl (DLeL.refl _) (PreOk.cons rfl PreOk.nil) rfl RoOk.nil)); (apply Trace.cons; (case h => exact o_move rfl)); exact Trace.nil _)); (case hd => kernel_rfl); (case hnew => kernel_rfl))
  refine a_block ?_
  refine a_imp (Imp.nilCell (id := 6) (rid := 900) (j := 8) 2 1 rfl rfl rfl rfl) ?_
  refine a_loop (fun p : List Int × Rd => ⟨[(2, .ref 2 0), (4, .ref 4 0), (6, .ref 6 0), (31, .int .u64 (cnt : Int)), (32, .int .u64 (p.1.length : Int))],
      [(2, some bxE), (4, some (.blk 27 (evD ev0))), (6, some (.blk 27 [.int .i64 v1, .int .i64 c, .int .u8 v2, .int .i64 v3, .int .i64 v4, .int .i64 v5, .int .i64 v6, .int .i64 v7, .row 900])), (900, some (.row 2 1 (p.1.map (DV.int .i64)))), (100000, some (rdE p.2))], [2, 4, 6, 900, 100000]⟩)
    (fun p => p.1.length ≤ cnt ∧ RdOk p.2 ∧ r8.ints cnt = (p.1 ++ (p.2.ints (cnt - p.1.length)).1, (p.2.ints (cnt - p.1.length)).2)) (fun p => cnt - p.1.length) ([], r8) ?_ ?_ ?_
  · exact Imp.of (fun i => i) (.cons rfl (DLe.refl _) (.cons rfl (DLe.refl _) (.cons rfl (DLe.refl _) (.cons rfl (DLe.refl _) (.cons rfl (DLe.refl _) .nil))))) (.cons rfl (.refl _) (.cons rfl (.blk (.cons (DLe.refl _) (.cons (DLe.refl _) (.cons (DLe.refl _) (.cons (DLe.refl _) (.cons (DLe.refl _) (.cons (DLe.refl _) (.cons (DLe.refl _) (.cons (DLe.refl _) (.cons (DLe.nils 1) .nil)))))))))) (.cons rfl (.refl _) (.cons rfl (.refl _) (.cons rfl (.refl _) .nil))))) rfl rfl rfl
  · exact ⟨by simp, o8, by simp⟩
  rintro ⟨l, q⟩ ⟨i1, i2, i3⟩
  simp only at i1 i2 i3
  dsimp only
  refine a_seq ?_
  (apply a_region; (case ht => ((apply Trace.cons; (case h => exact o_int rfl rfl rfl)); exact Trace.nil _)); (case hd => kernel_rfl); (case hnew => kernel_rfl))
  refine a_seq ?_
  refine a_cond _ rfl (fun c1 => ?_) (fun c1 => ?_)
  · have hlt : l.length < cnt := by simp only [decide_eq_true_eq] at c1; omega
    have kq := rInt_c q i2
    have oq := i2.int
    have hst := ints_step cnt l.length hlt q l _ i3
    generalize q.int = pq at *
    obtain ⟨x, q'⟩ := pq
    refine a_skip ?_
    refine a_seq ?_
    refine a_block ?_
    (apply a_draw mixed; (case ht => ((apply Trace.cons; (case h => (first | (exact o_fieldAddr rfl) | (exact o_fieldAddr_e rfl rfl) | (exact o_fieldAddr_p rfl)))); (apply Trace.cons; (case h => (first | (exact o_callN (fun _ => 100000) 1 kq rfl (DLeL.refl _) (PreOk.cons rfl PreOk.nil) rfl RoOk.nil) | (exact o_append rfl rfl rfl (Src.row rfl) (by simp; omega)) | (exact o_load_s rfl rfl rfl) | (exact o_load_es rfl rfl) | (exact o_load_ps rfl rfl rfl rfl rfl)))); (apply Trace.cons; (case h => (first | (exact o_callN (fun _ => 100000) 1 kq rfl (DLeL.refl _) (PreOk.cons rfl PreOk.nil) rfl RoOk.nil) | (exact o_append rfl rfl rfl (Src.row rfl) (by simp; omega)) | (exact o_load_s rfl rfl rfl) | (exact o_load_es rfl rfl) | (exact o_load_ps rfl rfl rfl rfl rfl)))); (apply Trace.cons; (case h => (first | (exact o_callN (fun _ => 100000) 1 kq rfl (DLeL.refl _) (PreOk.cons rfl PreOk.nil) rfl RoOk.nil) | (exact o_append rfl rfl rfl (Src.row rfl) (by simp; omega))))); (apply Trace.cons; (case h => (first | (exact o_callN (fun _ => 100000) 1 kq rfl (DLeL.refl _) (PreOk.cons rfl PreOk.nil) rfl RoOk.nil) | (exact o_append rfl rfl rfl (Src.row rfl) (by simp; omega)) | (exact o_buildSlice rfl rfl rfl rfl rfl rfl)))); (apply Trace.cons; (case h => (first | (exact o_callN (fun _ => 100000) 1 kq rfl (DLeL.refl _) (PreOk.cons rfl PreOk.nil) rfl RoOk.nil) | (exact o_append rfl rfl rfl (Src.row rfl) (by simp; omega)) | (exact o_append rfl rfl rfl Src.sl (by simp; omega)) | (exact o_append rfl rfl rfl (Src.row rfl) (by simp; omega)) | (exact o_append_n rfl rfl Src.sl (by simp; omega)) | (exact o_append_n rfl rfl (Src.row rfl) (by simp; omega))))); (apply Trace.cons; (case h => (first | (exact o_fieldAddr rfl) | (exact o_fieldAddr_e rfl rfl) | (exact o_fieldAddr_p rfl)))); (apply Trace.cons; (case h => (first | (exact o_callN (fun _ => 100000) 1 kq rfl (DLeL.refl _) (PreOk.cons rfl PreOk.nil) rfl RoOk.nil) | (exact o_append rfl rfl rfl (Src.row rfl) (by simp; omega)) | (exact o_store_s rfl rfl rfl rfl rfl)))); exact Trace.nil _)); (case hk => kernel_rfl); (case hd => kernel_rfl); (case hnew => kernel_rfl))
    (apply a_region; (case ht => ((apply Trace.cons; (case h => (first | (exact o_add rfl rfl (by simp only [InR]; omega)) | (exact o_int rfl rfl rfl)))); (apply Trace.cons; (case h => exact o_move rfl)); exact Trace.nil _)); (case hd => kernel_rfl); (case hnew => kernel_rfl))
    refine QLoop.next (l ++ [x], q') ⟨by simp; omega, oq, ?_⟩ (by simp; omega) (Imp.of (fun i => bif Nat.beq i 900 then 39 else i) (.cons rfl (DLe.refl _) (.cons rfl (DLe.refl _) (.cons rfl (DLe.refl _) (.cons rfl (DLe.refl _) (.cons rfl (DLe.of_eq ?_) .nil))))) (.cons rfl (.refl _) (.cons rfl (.refl _) (.cons rfl (.refl _) (.cons rfl (HLe.of_eq ?_) (.cons rfl (.refl _) .nil))))) rfl rfl rfl)
    · simp only [List.length_append, List.length_cons, List.length_nil, Nat.zero_add]; exact hst
    · simp [DV.ren]
    · simp [HE.ren, DV.ren]
  · have hlt : l.length = cnt := by simp only [decide_eq_false_iff_not] at c1; omega
    rw [hlt, Nat.sub_self] at i3
    simp only [Rd.ints, List.append_nil] at i3
    rw [i3]
    refine a_exit ?_
    refine a_seq ?_
    (apply a_region; (case ht => ((apply Trace.cons; (case h => (first | (exact o_load_r rfl rfl rfl rfl) | (exact o_load_er rfl rfl rfl) | (exact o_load_pr rfl rfl rfl rfl rfl rfl)))); (apply Trace.cons; (case h => exact o_store rfl rfl rfl rfl rfl rfl rfl)); exact Trace.nil _)); (case hd => kernel_rfl); (case hnew => kernel_rfl))
    refine a_ret ?_
    ((refine a_post (ResV.r1 (ResOk.cell rfl rfl (.row _ CRow.h (Nat.le_of_ble_eq_true rfl) rfl))) (DLe.of_eq ?_) (PostOk.consE rfl ?_ (PostOk.consE rfl ?_ PostOk.nil)).spec) <;> (first | rfl | simp [constDV, layD, DV.cs, renL, DV.ren, HE.ren, u8s, rdE, List.set, List.take_of_length_le, evX]))

theorem read_o (xs : List Int) (hx : ∀ b ∈ xs, Byt b) (hl : xs.length ≤ 140737488355328) (y : Re) (hy : readRec xs = some y) : ACall Try.prog 29 ⟨[u8s xs], [], .tup [.agg (recX y (.row 900)), .int .i64 0], [(900, some (.row 2 1 (y.ev.args.map (.int .i64))))], [900]⟩ := by
  have hrr : readRec xs = (
    let p1 := (⟨xs, 0⟩ : Rd).byte
    let p2 := p1.2.uint 8
    let p3 := p2.2.uint M64
    if p3.2.err ≠ 0 then none
    else if p1.1 = 1 then
      match clkR (xs.drop (xs.length - p3.2.xs.length)) with
      | none => none
      | some (c, n) => fin1 ((⟨(xs.drop (xs.length - p3.2.xs.length)).drop n, 0⟩ : Rd).event p2.1).2 ⟨p2.1, p3.1, c, 1, ((⟨(xs.drop (xs.length - p3.2.xs.length)).drop n, 0⟩ : Rd).event p2.1).1, 0⟩
    else if p1.1 = 2 then fin1 (p3.2.uint M64).2 ⟨p2.1, p3.1, clk0, 2, ev0, (p3.2.uint M64).1⟩
    else fin1 p3.2 ⟨p2.1, p3.1, clk0, p1.1, ev0, 0⟩) := rfl
  simp only at hrr
  have o0 : RdOk ⟨xs, 0⟩ := ⟨hx, by simp only; omega⟩
  have k0 := newReader_c xs hl
  have k1 := rByte_c ⟨xs, 0⟩ o0
  have b1 := byte_range o0
  have s1 := sfx_byte ⟨xs, 0⟩
  have o1 := o0.byte
  generalize (⟨xs, 0⟩ : Rd).byte = q1 at *
  obtain ⟨v1, r1⟩ := q1
  simp only at hrr k1 b1 s1 o1
  have k2 := rUint_c r1 8 o1 ⟨by decide, by decide⟩
  have b2 := uint_range o1 (m := 8) (by decide)
  have s2 := sfx_uint r1 8
  have o2 := o1.uint 8
  generalize r1.uint 8 = q2 at *
  obtain ⟨v2, r2⟩ := q2
  simp only at hrr k2 b2 s2 o2
  have k3 := rUint_c r2 M64 o2 ⟨by decide, by decide⟩
  have b3 := uint_range o2 (m := M64) (by decide)
  have s3 := sfx_uint r2 M64
  have o3 := o2.uint M64
  generalize r2.uint M64 = q3 at *
  obtain ⟨v3, r3⟩ := q3
  simp only at hrr k3 b3 s3 o3
  have k4 := rErr_c r3
  have k5 := rLeft_c r3
  have hle : r3.xs.length ≤ xs.length := by
    obtain ⟨n1, e1⟩ := s1
    obtain ⟨n2, e2⟩ := s2
    obtain ⟨n3, e3⟩ := s3
    rw [e3, e2, e1]; simp only [List.length_drop]; omega
  clear s1 s2 s3
  have hm : M64 = 18446744073709551615 := rfl
  refine ACall.body Try.func29 Try.ntmps29 rfl rfl rfl rfl ?_
  rw [hrr] at hy
  clear hrr
  refine a_seq ?_
  (apply a_region; (case ht => ((apply Trace.cons; (case h => exact o_alloc rfl)); (apply Trace.cons; (case h => exact o_assign rfl)); exact Trace.nil _)); (case hd => kernel_rfl); (case hnew => kernel_rfl))
  refine a_seq ?_
  (apply a_region; (case ht => ((apply Trace.cons; (case h => exact o_move rfl)); (apply Trace.cons; (case h => exact o_callN (fun _ => 11) 1 k0 rfl (DLeL.refl _) PreOk.nil rfl RoOk.nil)); (apply Trace.cons; (case h => exact o_assign rfl)); exact Trace.nil _)); (case hd => kernel_rfl); (case hnew => kernel_rfl))
  refine a_seq ?_
  (apply a_region; (case ht => ((apply Trace.cons; (case h => exact o_move rfl)); (apply Trace.cons; (case h => (first | (exact o_callN (fun _ => 11) 1 k1 rfl (DLeL.refl _) (PreOk.cons rfl PreOk.nil) rfl RoOk.nil) | (exact o_callN (fun _ => 11) 1 k2 rfl (DLeL.refl _) (PreOk.cons rfl PreOk.nil) rfl RoOk.nil) | (exact o_callN (fun _ => 11) 1 k3 rfl (DLeL.refl _) (PreOk.cons rfl PreOk.nil) rfl RoOk.nil)))); (apply Trace.cons; (case h => exact o_move rfl)); (apply Trace.cons; (case h => (first | (exact o_callN (fun _ => 11) 1 k1 rfl (DLeL.refl _) (PreOk.cons rfl PreOk.nil) rfl RoOk.nil) | (exact o_callN (fun _ => 11) 1 k2 rfl (DLeL.refl _) (PreOk.cons rfl PreOk.nil) rfl RoOk.nil) | (exact o_callN (fun _ => 11) 1 k3 rfl (DLeL.refl _) (PreOk.cons rfl PreOk.nil) rfl RoOk.nil)))); (apply Trace.cons; (case h => (first | (exact o_callN (fun _ => 11) 1 k1 rfl (DLeL.refl _) (PreOk.cons rfl PreOk.nil) rfl RoOk.nil) | (exact o_callN (fun _ => 11) 1 k2 rfl (DLeL.refl _) (PreOk.cons rfl PreOk.nil) rfl RoOk.nil) | (exact o_callN (fun _ => 11) 1 k3 rfl (DLeL.refl _) (PreOk.cons rfl PreOk.nil) rfl RoOk.nil) | (exact o_conv rfl (by simp only [InR]; omega)) | (exact o_conv_w rfl)))); (apply Trace.cons; (case h => exact o_move rfl)); (apply Trace.cons; (case h => (first | (exact o_callN (fun _ => 11) 1 k1 rfl (DLeL.refl _) (PreOk.cons rfl PreOk.nil) rfl RoOk.nil) | (exact o_callN (fun _ => 11) 1 k2 rfl (DLeL.refl _) (PreOk.cons rfl PreOk.nil) rfl RoOk.nil) | (exact o_callN (fun _ => 11) 1 k3 rfl (DLeL.refl _) (PreOk.cons rfl PreOk.nil) rfl RoOk.nil)))); (apply Trace.cons; (case h => (first | (exact o_callN (fun _ => 11) 1 k1 rfl (DLeL.refl _) (PreOk.cons rfl PreOk.nil) rfl RoOk.nil) | (exact o_callN (fun _ => 11) 1 k2 rfl (DLeL.refl _) (PreOk.cons rfl PreOk.nil) rfl RoOk.nil) | (exact o_callN (fun _ => 11) 1 k3 rfl (DLeL.refl _) (PreOk.cons rfl PreOk.nil) rfl RoOk.nil) | (exact o_build rfl rfl rfl)))); (apply Trace.cons; (case h => exact o_alloc rfl)); (apply Trace.cons; (case h => (first | (exact o_callN (fun _ => 11) 1 k1 rfl (DLeL.refl _) (PreOk.cons rfl PreOk.nil) rfl RoOk.nil) | (exact o_callN (fun _ => 11) 1 k2 rfl (DLeL.refl _) (PreOk.cons rfl PreOk.nil) rfl RoOk.nil) | (exact o_callN (fun _ => 11) 1 k3 rfl (DLeL.refl _) (PreOk.cons rfl PreOk.nil) rfl RoOk.nil) | (exact o_store rfl rfl rfl rfl rfl rfl rfl)))); exact Trace.nil _)); (case hd => kernel_rfl); (case hnew => kernel_rfl))
  refine a_imp (σ' := ⟨[(0, u8s xs), (2, .ref 2 0), (4, .ref 11 0), (5, .ref 5 0)], [(2, some (.blk 37 (recD re0))), (11, some (rdE r3)), (5, some (.blk 37 (recX ⟨v2, v3, clk0, v1, ev0, 0⟩ .nils)))], [2, 5, 11]⟩) (Imp.of (fun i => i) (.cons rfl (DLe.refl _) (.cons rfl (DLe.refl _) (.cons rfl (DLe.refl _) (.cons rfl (DLe.refl _) .nil)))) (.cons rfl (.blk ?_) (.cons rfl (.refl _) (.cons rfl (.blk ?_) .nil))) rfl rfl rfl) ?_
  · repeat (first | exact DLeL.nil | refine DLeL.cons (DLe.refl _) ?_ | refine DLeL.cons (DLe.nils 1) ?_)
  · repeat (first | exact DLeL.nil | refine DLeL.cons (DLe.refl _) ?_ | refine DLeL.cons (DLe.nils 1) ?_)
  refine a_seq ?_
  refine a_seq ?_
  (apply a_region; (case ht => ((apply Trace.cons; (case h => exact o_move rfl)); (apply Trace.cons; (case h => exact o_callN (fun _ => 11) 0 k4 rfl (DLeL.refl _) (PreOk.cons rfl PreOk.nil) rfl (RoOk.cons rfl RoOk.nil))); (apply Trace.cons; (case h => exact o_int rfl rfl rfl)); exact Trace.nil _)); (case hd => kernel_rfl); (case hnew => kernel_rfl))
  refine a_cond _ rfl (fun c1 => ?_) (fun c1 => ?_)
  · have he : r3.err ≠ 0 := by simpa using c1
    rw [if_pos he] at hy
    cases hy
  · have he : r3.err = 0 := by simpa using c1
    rw [if_neg (by simp [he])] at hy
    refine a_skip ?_
    refine a_seq ?_
    refine a_seq ?_
    (apply a_region; (case ht => ((apply Trace.cons; (case h => (first | (exact o_fieldAddr rfl) | (exact o_fieldAddr_e rfl rfl) | (exact o_fieldAddr_p rfl)))); (apply Trace.cons; (case h => (first | (exact o_load_s rfl rfl rfl) | (exact o_load_es rfl rfl) | (exact o_load_ps rfl rfl rfl rfl rfl)))); exact Trace.nil _)); (case hd => kernel_rfl); (case hnew => kernel_rfl))
    refine a_block ?_
    refine a_seq ?_
    (apply a_region; (case ht => ((apply Trace.cons; (case h => exact o_int rfl rfl rfl)); (apply Trace.cons; (case h => exact o_assign rfl)); exact Trace.nil _)); (case hd => kernel_rfl); (case hnew => kernel_rfl))
    refine a_cond _ rfl (fun c2 => ?_) (fun c2 => ?_)
    · have h1 : v1 = 1 := by simpa using c2
      subst h1
      rw [if_pos rfl] at hy
      have hb := byt_drop hx (xs.length - r3.xs.length)
      have kc := clkRead_c (xs.drop (xs.length - r3.xs.length)) hb (by simp; omega)
      have hml : (List.map (DV.int IntKind.u8) xs).length = xs.length := by simp
      have hsl := u8s_dropB xs (xs.length - r3.xs.length)
      refine a_seq ?_
      (apply a_region; (case ht => ((apply Trace.cons; (case h => exact o_move rfl)); (apply Trace.cons; (case h => exact o_move rfl)); (apply Trace.cons; (case h => (first | (exact o_callN (fun _ => 11) 0 k5 rfl (DLeL.refl _) (PreOk.cons rfl PreOk.nil) rfl (RoOk.cons rfl RoOk.nil)) | (exact o_slice (xs.length - r3.xs.length) _ rfl (Bd.at rfl (by simp; omega)) Bd.no (by simp) (Nat.le_refl _)) | (exact o_len rfl) | (exact o_len_r rfl rfl) | (exact o_len_n rfl)))); (apply Trace.cons; (case h => exact o_move rfl)); (apply Trace.cons; (case h => (first | (exact o_callN (fun _ => 11) 0 k5 rfl (DLeL.refl _) (PreOk.cons rfl PreOk.nil) rfl (RoOk.cons rfl RoOk.nil)) | (exact o_slice (xs.length - r3.xs.length) _ rfl (Bd.at rfl (by simp; omega)) Bd.no (by simp) (Nat.le_refl _))))); (apply Trace.cons; (case h => (first | (exact o_callN (fun _ => 11) 0 k5 rfl (DLeL.refl _) (PreOk.cons rfl PreOk.nil) rfl (RoOk.cons rfl RoOk.nil)) | (exact o_slice (xs.length - r3.xs.length) _ rfl (Bd.at rfl (by simp; omega)) Bd.no (by simp) (Nat.le_refl _)) | (exact o_sub rfl rfl (by simp only [InR]; omega)) | (exact o_int rfl rfl rfl)))); (apply Trace.cons; (case h => (first | (exact o_callN (fun _ => 11) 0 k5 rfl (DLeL.refl _) (PreOk.cons rfl PreOk.nil) rfl (RoOk.cons rfl RoOk.nil)) | (exact o_slice (xs.length - r3.xs.length) _ rfl (Bd.at rfl (by simp; omega)) Bd.no (by simp) (Nat.le_refl _)) | (exact o_slice _ _ rfl (Bd.at rfl rfl) Bd.no (by omega) (by omega)) | (exact o_slice _ _ rfl Bd.no (Bd.at rfl rfl) (by omega) (by omega)) | (exact o_slice _ _ rfl (Bd.at rfl rfl) (Bd.at rfl rfl) (by omega) (by omega))))); (apply Trace.cons; (case h => exact o_assign rfl)); exact Trace.nil _)); (case hd => kernel_rfl); (case hnew => kernel_rfl))
      refine a_imp (σ' := ⟨[(0, u8s xs), (2, .ref 2 0), (4, .ref 11 0), (5, .ref 5 0), (6, u8s (xs.drop (xs.length - r3.xs.length)))], [(2, some (.blk 37 (recD re0))), (11, some (rdE r3)), (5, some (.blk 37 (recX ⟨v2, v3, clk0, 1, ev0, 0⟩ .nils)))], [2, 5, 11]⟩) (Imp.of (fun i => i) (.cons rfl (DLe.refl _) (.cons rfl (DLe.refl _) (.cons rfl (DLe.refl _) (.cons rfl (DLe.refl _) (.cons rfl (DLe.of_eq ?_) .nil))))) (.cons rfl (.refl _) (.cons rfl (.refl _) (.cons rfl (.refl _) .nil))) rfl rfl rfl) ?_
      · exact hsl
      have hyl : (xs.drop (xs.length - r3.xs.length)).length ≤ 140737488355328 := by simp; omega
      generalize xs.drop (xs.length - r3.xs.length) = ys at *
      refine a_seq ?_
      cases hc : clkR ys with
      | none =>
        rw [hc] at hy
        cases hy
      | some p =>
        obtain ⟨c, n⟩ := p
        simp only [clkRD, hc] at kc
        rw [hc] at hy
        have hnl := clkR_le ys c n hc
        have kn := newReader_c (ys.drop n) (by simp; omega)
        have hr5 : RdOk ⟨ys.drop n, 0⟩ := ⟨byt_drop hb n, by simp; omega⟩
        have ke := readEvent_o v2 ⟨ys.drop n, 0⟩ hr5
        have al := event_args ⟨ys.drop n, 0⟩ hr5 v2
        dsimp only at hy
        generalize Rd.event v2 ⟨ys.drop n, 0⟩ = qe at *
        obtain ⟨ev, r5⟩ := qe
        simp only at ke al hy
        have kf := rEnd_c r5
        have kk := QCall.plain (check_c ⟨v2, v3, c, 1, ev, 0⟩ (by simp only; omega) ⟨b3.1, by simp only; omega⟩) rfl
        have hsl2 := u8s_dropB ys n
        (apply a_region; (case ht => ((apply Trace.cons; (case h => exact o_move rfl)); (apply Trace.cons; (case h => exact o_call kc rfl (DLeL.refl _) rfl)); (apply Trace.cons; (case h => exact o_move rfl)); (apply Trace.cons; (case h => exact o_extract rfl rfl)); (apply Trace.cons; (case h => exact o_extract rfl rfl)); (apply Trace.cons; (case h => exact o_extract rfl rfl)); (apply Trace.cons; (case h => exact o_alloc rfl)); (apply Trace.cons; (case h => (first | (exact o_call kc rfl (DLeL.refl _) rfl) | (exact o_store rfl rfl rfl rfl rfl rfl rfl)))); (apply Trace.cons; (case h => exact o_assign rfl)); (apply Trace.cons; (case h => exact o_assign rfl)); exact Trace.nil _)); (case hd => kernel_rfl); (case hnew => kernel_rfl))
        refine a_seq ?_
        refine a_seq ?_
        (apply a_region; (case ht => ((apply Trace.cons; (case h => exact o_move rfl)); (apply Trace.cons; (case h => exact o_int rfl rfl rfl)); exact Trace.nil _)); (case hd => kernel_rfl); (case hnew => kernel_rfl))
        refine a_cond _ rfl (fun c3 => ?_) (fun c3 => ?_)
        · simp at c3
        · refine a_skip ?_
          refine a_seq ?_
          (apply a_region; (case ht => ((apply Trace.cons; (case h => (first | (exact o_load_r rfl rfl rfl rfl) | (exact o_load_er rfl rfl rfl) | (exact o_load_pr rfl rfl rfl rfl rfl rfl)))); (apply Trace.cons; (case h => (first | (exact o_fieldAddr rfl) | (exact o_fieldAddr_e rfl rfl) | (exact o_fieldAddr_p rfl)))); (apply Trace.cons; (case h => exact o_store rfl rfl rfl rfl rfl rfl rfl)); exact Trace.nil _)); (case hd => kernel_rfl); (case hnew => kernel_rfl))
          refine a_seq ?_
          (apply a_region; (case ht => ((apply Trace.cons; (case h => exact o_move rfl)); (apply Trace.cons; (case h => exact o_move rfl)); (apply Trace.cons; (case h => (first | (exact o_slice n _ rfl (Bd.at rfl rfl) Bd.no (by simp; omega) (Nat.le_refl _)) | (exact o_callN (fun _ => 49) 1 kn rfl (DLeL.of_eq (by rw [hsl2]; rfl)) PreOk.nil rfl RoOk.nil) | (exact o_slice _ _ rfl (Bd.at rfl rfl) Bd.no (by omega) (by omega)) | (exact o_slice _ _ rfl Bd.no (Bd.at rfl rfl) (by omega) (by omega)) | (exact o_slice _ _ rfl (Bd.at rfl rfl) (Bd.at rfl rfl) (by omega) (by omega))))); (apply Trace.cons; (case h => (first | (exact o_slice n _ rfl (Bd.at rfl rfl) Bd.no (by simp; omega) (Nat.le_refl _)) | (exact o_callN (fun _ => 49) 1 kn rfl (DLeL.of_eq (by rw [hsl2]; rfl)) PreOk.nil rfl RoOk.nil)))); (apply Trace.cons; (case h => exact o_assign rfl)); exact Trace.nil _)); (case hd => kernel_rfl); (case hnew => kernel_rfl))
          (apply a_region; (case ht => ((apply Trace.cons; (case h => exact o_move rfl)); (apply Trace.cons; (case h => (first | (exact o_fieldAddr rfl) | (exact o_fieldAddr_e rfl rfl) | (exact o_fieldAddr_p rfl)))); (apply Trace.cons; (case h => (first | (exact o_callN (fun i => bif Nat.beq i 900 then 900 else 49) 2 ke rfl (DLeL.refl _) (PreOk.cons rfl PreOk.nil) rfl RoOk.nil) | (exact o_load_s rfl rfl rfl) | (exact o_load_es rfl rfl) | (exact o_load_ps rfl rfl rfl rfl rfl)))); (apply Trace.cons; (case h => exact o_callN (fun i => bif Nat.beq i 900 then 900 else 49) 2 ke rfl (DLeL.refl _) (PreOk.cons rfl PreOk.nil) rfl RoOk.nil)); (apply Trace.cons; (case h => (first | (exact o_fieldAddr rfl) | (exact o_fieldAddr_e rfl rfl) | (exact o_fieldAddr_p rfl)))); (apply Trace.cons; (case h => (first | (exact o_callN (fun i => bif Nat.beq i 900 then 900 else 49) 2 ke rfl (DLeL.refl _) (PreOk.cons rfl PreOk.nil) rfl RoOk.nil) | (exact o_store rfl rfl rfl rfl rfl rfl rfl)))); exact Trace.nil _)); (case hd => kernel_rfl); (case hnew => kernel_rfl))
          refine a_imp (σ' := ⟨[(0, u8s xs), (2, .ref 2 0), (4, .ref 49 0), (5, .ref 5 0)], [(2, some (.blk 37 (recD re0))), (49, some (rdE r5)), (5, some (.blk 37 (recX ⟨v2, v3, c, 1, ev, 0⟩ (.row 900)))), (900, some (.row 2 1 (ev.args.map (.int .i64))))], [2, 5, 49, 900]⟩) (Imp.of (fun i => i) (.cons rfl (DLe.refl _) (.cons rfl (DLe.refl _) (.cons rfl (DLe.refl _) (.cons rfl (DLe.refl _) .nil)))) (.cons rfl (.refl _) (.cons rfl (.refl _) (.cons rfl (.refl _) (.cons rfl (.refl _) .nil)))) rfl rfl rfl) ?_
          refine a_seq ?_
          refine a_seq ?_
          (apply a_region; (case ht => ((apply Trace.cons; (case h => exact o_move rfl)); (apply Trace.cons; (case h => (first | (exact o_callN (fun _ => 49) 0 kf rfl (DLeL.refl _) (PreOk.cons rfl PreOk.nil) rfl (RoOk.cons rfl RoOk.nil)) | (exact o_callQ kk rfl (ViewL.agg (viewC_spec rfl) ViewL.nil))))); (apply Trace.cons; (case h => exact o_int rfl rfl rfl)); (apply Trace.cons; (case h => exact o_move rfl)); (apply Trace.cons; (case h => (apply o_guardF rfl rfl; (case hS => intro hb; exact (Strips.keep Strips.nil)); (case h => intro hb; (first | (exact o_callN (fun _ => 49) 0 kf rfl (DLeL.refl _) (PreOk.cons rfl PreOk.nil) rfl (RoOk.cons rfl RoOk.nil)) | (exact o_callQ kk rfl (ViewL.agg (viewC_spec rfl) ViewL.nil)) | (exact o_load_r rfl rfl rfl rfl) | (exact o_load_er rfl rfl rfl) | (exact o_load_pr rfl rfl rfl rfl rfl rfl)))))); (apply Trace.cons; (case h => (apply o_guardF rfl rfl; (case hS => intro hb; exact (Strips.strip rfl (nt hb) Strips.nil)); (case h => intro hb; (first | (exact o_callN (fun _ => 49) 0 kf rfl (DLeL.refl _) (PreOk.cons rfl PreOk.nil) rfl (RoOk.cons rfl RoOk.nil)) | (exact o_callQ kk rfl (ViewL.agg (viewC_spec rfl) ViewL.nil))))))); (apply Trace.cons; (case h => (apply o_guardF rfl rfl; (case hS => intro hb; exact (Strips.strip rfl (nt hb) Strips.nil)); (case h => intro hb; (first | (exact o_int rfl rfl rfl) | (exact o_callN (fun _ => 49) 0 kf rfl (DLeL.refl _) (PreOk.cons rfl PreOk.nil) rfl (RoOk.cons rfl RoOk.nil)) | (exact o_callQ kk rfl (ViewL.agg (viewC_spec rfl) ViewL.nil))))))); (apply Trace.cons; (case h => (first | (exact o_and rfl rfl) | (exact o_or rfl rfl)))); exact Trace.nil _)); (case hd => kernel_rfl); (case hnew => kernel_rfl))
          refine a_cond _ rfl (fun c7 => ?_) (fun c7 => ?_)
          · have hf : fin1 r5 ⟨v2, v3, c, 1, ev, 0⟩ = none := by
              unfold fin1
              simp only [Bool.or_eq_true, bne_iff_ne] at c7
              rcases c7 with h | h
              · rw [if_pos h]
              · rw [if_pos h]; split <;> rfl
            rw [hf] at hy
            cases hy
          · have hf : fin1 r5 ⟨v2, v3, c, 1, ev, 0⟩ = some ⟨v2, v3, c, 1, ev, 0⟩ := by
              unfold fin1
              simp only [Bool.or_eq_false_iff, bne_eq_false_iff_eq] at c7
              rw [if_neg (by simp [c7.1]), if_neg (by simp [c7.2])]
            rw [hf] at hy
            injection hy with hy
            subst hy
            refine a_skip ?_
            refine a_seq ?_
            (apply a_region; (case ht => ((apply Trace.cons; (case h => (first | (exact o_load_r rfl rfl rfl rfl) | (exact o_load_er rfl rfl rfl) | (exact o_load_pr rfl rfl rfl rfl rfl rfl)))); (apply Trace.cons; (case h => exact o_store rfl rfl rfl rfl rfl rfl rfl)); (apply Trace.cons; (case h => exact o_assign rfl)); exact Trace.nil _)); (case hd => kernel_rfl); (case hnew => kernel_rfl))
            refine a_ret ?_
            refine a_post (ResV.r2 (ResOk.cell rfl rfl (.row _ CRow.h (Nat.le_of_ble_eq_true rfl) rfl)) (ResOk.tmp rfl)) (DLe.refl _) (PostOk.cons rfl PostOk.nil).spec
    · have h1 : v1 ≠ 1 := by simpa using c2
      rw [if_neg h1] at hy
      refine a_seq ?_
      (apply a_region; (case ht => ((apply Trace.cons; (case h => exact o_int rfl rfl rfl)); (apply Trace.cons; (case h => exact o_assign rfl)); exact Trace.nil _)); (case hd => kernel_rfl); (case hnew => kernel_rfl))
      refine a_cond _ rfl (fun c4 => ?_) (fun c4 => ?_)
      · have h2 : v1 = 2 := by simpa using c4
        subst h2
        rw [if_pos rfl] at hy
        have k6 := rUint_c r3 M64 o3 ⟨by decide, by decide⟩
        have b6 := uint_range o3 (m := M64) (by decide)
        have o6 := o3.uint M64
        generalize r3.uint M64 = q6 at *
        obtain ⟨v6, r6⟩ := q6
        simp only at k6 b6 o6 hy
        have kf := rEnd_c r6
        have kk := check_c ⟨v2, v3, clk0, 2, ev0, v6⟩ (Nat.zero_le _) ⟨b3.1, by simp only; omega⟩
        (apply a_region; (case ht => ((apply Trace.cons; (case h => exact o_move rfl)); (apply Trace.cons; (case h => exact o_callN (fun _ => 11) 1 k6 rfl (DLeL.refl _) (PreOk.cons rfl PreOk.nil) rfl RoOk.nil)); (apply Trace.cons; (case h => (first | (exact o_fieldAddr rfl) | (exact o_fieldAddr_e rfl rfl) | (exact o_fieldAddr_p rfl)))); (apply Trace.cons; (case h => (first | (exact o_callN (fun _ => 11) 1 k6 rfl (DLeL.refl _) (PreOk.cons rfl PreOk.nil) rfl RoOk.nil) | (exact o_store_s rfl rfl rfl rfl rfl)))); exact Trace.nil _)); (case hd => kernel_rfl); (case hnew => kernel_rfl))
        refine a_imp (σ' := ⟨[(0, u8s xs), (2, .ref 2 0), (4, .ref 11 0), (5, .ref 5 0)], [(2, some (.blk 37 (recD re0))), (11, some (rdE r6)), (5, some (.blk 37 (recX ⟨v2, v3, clk0, 2, ev0, v6⟩ .nils)))], [2, 5, 11]⟩) (Imp.of (fun i => i) (.cons rfl (DLe.refl _) (.cons rfl (DLe.refl _) (.cons rfl (DLe.refl _) (.cons rfl (DLe.refl _) .nil)))) (.cons rfl (.refl _) (.cons rfl (.refl _) (.cons rfl (.refl _) .nil))) rfl rfl rfl) ?_
        refine a_seq ?_
        refine a_seq ?_
        (apply a_region; (case ht => ((apply Trace.cons; (case h => exact o_move rfl)); (apply Trace.cons; (case h => (first | (exact o_callN (fun _ => 11) 0 kf rfl (DLeL.refl _) (PreOk.cons rfl PreOk.nil) rfl (RoOk.cons rfl RoOk.nil)) | (exact o_call kk rfl (DLeL.cons (DLe.agg (by repeat (first | exact DLeL.nil | refine DLeL.cons (DLe.refl _) ?_ | refine DLeL.cons (DLe.nils 1) ?_))) DLeL.nil) rfl)))); (apply Trace.cons; (case h => exact o_int rfl rfl rfl)); (apply Trace.cons; (case h => exact o_move rfl)); (apply Trace.cons; (case h => (apply o_guardF rfl rfl; (case hS => intro hb; exact (Strips.keep Strips.nil)); (case h => intro hb; (first | (exact o_callN (fun _ => 11) 0 kf rfl (DLeL.refl _) (PreOk.cons rfl PreOk.nil) rfl (RoOk.cons rfl RoOk.nil)) | (exact o_call kk rfl (DLeL.cons (DLe.agg (by repeat (first | exact DLeL.nil | refine DLeL.cons (DLe.refl _) ?_ | refine DLeL.cons (DLe.nils 1) ?_))) DLeL.nil) rfl) | (exact o_load_r rfl rfl rfl rfl) | (exact o_load_er rfl rfl rfl) | (exact o_load_pr rfl rfl rfl rfl rfl rfl)))))); (apply Trace.cons; (case h => (apply o_guardF rfl rfl; (case hS => intro hb; exact (Strips.strip rfl (nt hb) Strips.nil)); (case h => intro hb; (first | (exact o_callN (fun _ => 11) 0 kf rfl (DLeL.refl _) (PreOk.cons rfl PreOk.nil) rfl (RoOk.cons rfl RoOk.nil)) | (exact o_call kk rfl (DLeL.cons (DLe.agg (by repeat (first | exact DLeL.nil | refine DLeL.cons (DLe.refl _) ?_ | refine DLeL.cons (DLe.nils 1) ?_))) DLeL.nil) rfl)))))); (apply Trace.cons; (case h => (apply o_guardF rfl rfl; (case hS => intro hb; exact (Strips.strip rfl (nt hb) Strips.nil)); (case h => intro hb; (first | (exact o_int rfl rfl rfl) | (exact o_callN (fun _ => 11) 0 kf rfl (DLeL.refl _) (PreOk.cons rfl PreOk.nil) rfl (RoOk.cons rfl RoOk.nil)) | (exact o_call kk rfl (DLeL.cons (DLe.agg (by repeat (first | exact DLeL.nil | refine DLeL.cons (DLe.refl _) ?_ | refine DLeL.cons (DLe.nils 1) ?_))) DLeL.nil) rfl)))))); (apply Trace.cons; (case h => (first | (exact o_and rfl rfl) | (exact o_or rfl rfl)))); exact Trace.nil _)); (case hd => kernel_rfl); (case hnew => kernel_rfl))
        refine a_cond _ rfl (fun c7 => ?_) (fun c7 => ?_)
        · have hf : fin1 r6 ⟨v2, v3, clk0, 2, ev0, v6⟩ = none := by
            unfold fin1
            simp only [Bool.or_eq_true, bne_iff_ne] at c7
            rcases c7 with h | h
            · rw [if_pos h]
            · rw [if_pos h]; split <;> rfl
          rw [hf] at hy
          cases hy
        · have hf : fin1 r6 ⟨v2, v3, clk0, 2, ev0, v6⟩ = some ⟨v2, v3, clk0, 2, ev0, v6⟩ := by
            unfold fin1
            simp only [Bool.or_eq_false_iff, bne_eq_false_iff_eq] at c7
            rw [if_neg (by simp [c7.1]), if_neg (by simp [c7.2])]
          rw [hf] at hy
          injection hy with hy
          subst hy
          refine a_imp (Imp.nilCell (id := 5) (rid := 900) (j := 27) 2 1 rfl rfl rfl rfl) ?_
          refine a_skip ?_
          refine a_seq ?_
          (apply a_region; (case ht => ((apply Trace.cons; (case h => (first | (exact o_load_r rfl rfl rfl rfl) | (exact o_load_er rfl rfl rfl) | (exact o_load_pr rfl rfl rfl rfl rfl rfl)))); (apply Trace.cons; (case h => exact o_store rfl rfl rfl rfl rfl rfl rfl)); (apply Trace.cons; (case h => exact o_assign rfl)); exact Trace.nil _)); (case hd => kernel_rfl); (case hnew => kernel_rfl))
          refine a_ret ?_
          refine a_post (ResV.r2 (ResOk.cell rfl rfl (.row _ CRow.h (Nat.le_of_ble_eq_true rfl) rfl)) (ResOk.tmp rfl)) (DLe.refl _) (PostOk.cons rfl PostOk.nil).spec
      · have h2 : v1 ≠ 2 := by simpa using c4
        rw [if_neg h2] at hy
        have kf := rEnd_c r3
        have kk := check_c ⟨v2, v3, clk0, v1, ev0, 0⟩ (Nat.zero_le _) ⟨b3.1, by simp only; omega⟩
        refine a_skip ?_
        refine a_seq ?_
        refine a_seq ?_
        (apply a_region; (case ht => ((apply Trace.cons; (case h => exact o_move rfl)); (apply Trace.cons; (case h => (first | (exact o_callN (fun _ => 11) 0 kf rfl (DLeL.refl _) (PreOk.cons rfl PreOk.nil) rfl (RoOk.cons rfl RoOk.nil)) | (exact o_call kk rfl (DLeL.cons (DLe.agg (by repeat (first | exact DLeL.nil | refine DLeL.cons (DLe.refl _) ?_ | refine DLeL.cons (DLe.nils 1) ?_))) DLeL.nil) rfl)))); (apply Trace.cons; (case h => exact o_int rfl rfl rfl)); (apply Trace.cons; (case h => exact o_move rfl)); (apply Trace.cons; (case h => (apply o_guardF rfl rfl; (case hS => intro hb; exact (Strips.keep Strips.nil)); (case h => intro hb; (first | (exact o_callN (fun _ => 11) 0 kf rfl (DLeL.refl _) (PreOk.cons rfl PreOk.nil) rfl (RoOk.cons rfl RoOk.nil)) | (exact o_call kk rfl (DLeL.cons (DLe.agg (by repeat (first | exact DLeL.nil | refine DLeL.cons (DLe.refl _) ?_ | refine DLeL.cons (DLe.nils 1) ?_))) DLeL.nil) rfl) | (exact o_load_r rfl rfl rfl rfl) | (exact o_load_er rfl rfl rfl) | (exact o_load_pr rfl rfl rfl rfl rfl rfl)))))); (apply Trace.cons; (case h => (apply o_guardF rfl rfl; (case hS => intro hb; exact (Strips.strip rfl (nt hb) Strips.nil)); (case h => intro hb; (first | (exact o_callN (fun _ => 11) 0 kf rfl (DLeL.refl _) (PreOk.cons rfl PreOk.nil) rfl (RoOk.cons rfl RoOk.nil)) | (exact o_call kk rfl (DLeL.cons (DLe.agg (by repeat (first | exact DLeL.nil | refine DLeL.cons (DLe.refl _) ?_ | refine DLeL.cons (DLe.nils 1) ?_))) DLeL.nil) rfl)))))); (apply Trace.cons; (case h => (apply o_guardF rfl rfl; (case hS => intro hb; exact (Strips.strip rfl (nt hb) Strips.nil)); (case h => intro hb; (first | (exact o_int rfl rfl rfl) | (exact o_callN (fun _ => 11) 0 kf rfl (DLeL.refl _) (PreOk.cons rfl PreOk.nil) rfl (RoOk.cons rfl RoOk.nil)) | (exact o_call kk rfl (DLeL.cons (DLe.agg (by repeat (first | exact DLeL.nil | refine DLeL.cons (DLe.refl _) ?_ | refine DLeL.cons (DLe.nils 1) ?_))) DLeL.nil) rfl)))))); (apply Trace.cons; (case h => (first | (exact o_and rfl rfl) | (exact o_or rfl rfl)))); exact Trace.nil _)); (case hd => kernel_rfl); (case hnew => kernel_rfl))
        refine a_cond _ rfl (fun c7 => ?_) (fun c7 => ?_)
        · have hf : fin1 r3 ⟨v2, v3, clk0, v1, ev0, 0⟩ = none := by
            unfold fin1
            simp only [Bool.or_eq_true, bne_iff_ne] at c7
            rcases c7 with h | h
            · rw [if_pos h]
            · rw [if_pos h]; split <;> rfl
          rw [hf] at hy
          cases hy
        · have hf : fin1 r3 ⟨v2, v3, clk0, v1, ev0, 0⟩ = some ⟨v2, v3, clk0, v1, ev0, 0⟩ := by
            unfold fin1
            simp only [Bool.or_eq_false_iff, bne_eq_false_iff_eq] at c7
            rw [if_neg (by simp [c7.1]), if_neg (by simp [c7.2])]
          rw [hf] at hy
          injection hy with hy
          subst hy
          refine a_imp (Imp.nilCell (id := 5) (rid := 900) (j := 27) 2 1 rfl rfl rfl rfl) ?_
          refine a_skip ?_
          refine a_seq ?_
          (apply a_region; (case ht => ((apply Trace.cons; (case h => (first | (exact o_load_r rfl rfl rfl rfl) | (exact o_load_er rfl rfl rfl) | (exact o_load_pr rfl rfl rfl rfl rfl rfl)))); (apply Trace.cons; (case h => exact o_store rfl rfl rfl rfl rfl rfl rfl)); (apply Trace.cons; (case h => exact o_assign rfl)); exact Trace.nil _)); (case hd => kernel_rfl); (case hnew => kernel_rfl))
          refine a_ret ?_
          refine a_post (ResV.r2 (ResOk.cell rfl rfl (.row _ CRow.h (Nat.le_of_ble_eq_true rfl) rfl)) (ResOk.tmp rfl)) (DLe.refl _) (PostOk.cons rfl PostOk.nil).spec
end Go.Proofs.Ytkadjbpmnpcfhaa
