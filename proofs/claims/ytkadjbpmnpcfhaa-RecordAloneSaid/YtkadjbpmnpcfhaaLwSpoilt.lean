/-
  Walk of the law RecordSpoilt.
-/
import Derived.Test.YtkadjbpmnpcfhaaLwOwn
set_option maxRecDepth 100000
set_option maxHeartbeats 4000000
set_option linter.unusedVariables false
set_option linter.unusedSimpArgs false
namespace Go.Proofs.Ytkadjbpmnpcfhaa
open Go.RowKit
theorem validB_congr {a b : Re} (h : recEq a b = true) : validB a = validB b := by
  rw [recEq_iff] at h
  obtain ⟨h1, h2, h3, h4, h5, h6⟩ := h
  have h7 : sameTo a.clk clk0 16 = sameTo b.clk clk0 16 := by
    rw [Bool.eq_iff_iff, sameTo_iff, sameTo_iff]
    rw [sameTo_iff] at h3
    exact ⟨fun k i hi => (h3 i hi).symm.trans (k i hi), fun k i hi => (h3 i hi).trans (k i hi)⟩
  unfold validB okWhat bareB
  rw [h1, h2, h4, h5, h6, h7]
theorem ReT_toRR {y : Re} (h : ReT y) : RRT (toRR y) := ⟨h.what, h.comp, h.seq, h.count, fun v hv => by simp only [toRR, cents, List.mem_map] at hv; obtain ⟨i, _, rfl⟩ := hv; exact h.clk i, h.ev⟩
theorem toRR_bytes {y : Re} (hv : validB y = true) (hT : ReT y) : recBytes (toRe (toRR y)) = recBytes y := by
  have h := recBytes_inj (a := toRe (toRR y)) (b := y) ((validB_congr (toRR_eq y)).trans hv) hv (ReT_toRR hT).re hT
  rw [toRR_eq, beq_iff_eq] at h; exact h
theorem recEq_congr {a b c : Re} (h : recEq a b = true) : recEq a c = recEq b c := by
  rw [Bool.eq_iff_iff]
  exact ⟨fun k => recEq_trans (by rw [recEq_comm]; exact h) k, fun k => recEq_trans h k⟩
theorem set_same {P : List Int} {i : Nat} {p v : Int} (h : P[i]? = some p) : (P.set i v == P) = (p == v) := by
  rw [Bool.eq_iff_iff, beq_iff_eq, beq_iff_eq]
  have hi : i < P.length := (List.getElem?_eq_some_iff.1 h).1
  constructor
  · intro e
    have := congrArg (fun l => l[i]?) e
    simp only [List.getElem?_set_self hi, h, Option.some.injEq] at this
    exact this.symm
  · rintro rfl
    apply List.ext_getElem?
    intro j
    rw [List.getElem?_set]
    split
    · rename_i e; subst e; first | exact h.symm | (rw [if_pos hi, h])
    · rfl
theorem mem_set_byt {P : List Int} (h : ∀ b ∈ P, Byt b) {v : Int} (hv : Byt v) (i : Nat) : ∀ b ∈ P.set i v, Byt b := by
  intro b hb
  rcases List.mem_or_eq_of_mem_set hb with hb | rfl
  · exact h b hb
  · exact hv

theorem spoilt_c (x : RR) (ix v : Int) (hx : RRT x) (hix : Byt ix) (hvb : Byt v) : PCall Try.prog 6 [.agg (rrD x), .int .u8 ix, .int .u8 v] (.bool true) := by
  have hi0 := hix.1
  have hi1 := hix.2
  have kx := small_c x
  have sx := small_T hx
  have cx := smallR_cl x
  have ax := smallR_al x
  generalize smallR x = X at *
  have kb := refBytes_o X cx ax sx
  have hby := recBytes_byt sx.re
  have hle := recBytes_small sx.re
  cases hv : validB (toRe X) with
  | false =>
    have h0 : recBytes (toRe X) = [] := by unfold recBytes; rw [hv]; rfl
    rw [h0] at kb
    refine PCall.body Try.func6 Try.ntmps6 rfl rfl rfl rfl ?_
    refine a_seq ?_
    (apply a_region; (case ht => ((apply Trace.cons; (case h => exact o_box rfl rfl)); (apply Trace.cons; (case h => exact o_assign rfl)); exact Trace.nil _)); (case hd => kernel_rfl); (case hnew => kernel_rfl))
    refine a_seq ?_
    refine a_seq ?_
    (apply a_region; (case ht => ((apply Trace.cons; (case h => exact o_call awake_c rfl (DLeL.refl _) rfl)); (apply Trace.cons; (case h => exact o_not rfl)); exact Trace.nil _)); (case hd => kernel_rfl); (case hnew => kernel_rfl))
    refine a_cond _ rfl (fun c1 => ?_) (fun c1 => ?_)
    · exact absurd c1 (by decide)
    · refine a_skip ?_
      refine a_seq ?_
      (apply a_region; (case ht => ((apply Trace.cons; (case h => (first | (exact o_call kx rfl (DLeL.refl _) rfl) | (exact o_load_r rfl rfl rfl rfl) | (exact o_load_er rfl rfl rfl) | (exact o_load_pr rfl rfl rfl rfl rfl rfl)))); (apply Trace.cons; (case h => exact o_call kx rfl (DLeL.refl _) rfl)); (apply Trace.cons; (case h => (first | (exact o_call kx rfl (DLeL.refl _) rfl) | (exact o_store rfl rfl rfl rfl rfl rfl rfl)))); exact Trace.nil _)); (case hd => kernel_rfl); (case hnew => kernel_rfl))
      refine a_seq ?_
      (apply a_region; (case ht => ((apply Trace.cons; (case h => (first | (exact o_callA (fun _ => 17) kb rfl (DLeL.refl _) PreOk.nil rfl) | (exact o_load_r rfl rfl rfl rfl) | (exact o_load_er rfl rfl rfl) | (exact o_load_pr rfl rfl rfl rfl rfl rfl)))); (apply Trace.cons; (case h => exact o_callA (fun _ => 17) kb rfl (DLeL.refl _) PreOk.nil rfl)); (apply Trace.cons; (case h => exact o_assign rfl)); exact Trace.nil _)); (case hd => kernel_rfl); (case hnew => kernel_rfl))
      refine a_seq ?_
      refine a_seq ?_
      (apply a_region; (case ht => ((apply Trace.cons; (case h => exact o_move rfl)); (apply Trace.cons; (case h => (first | (exact o_len rfl) | (exact o_len_r rfl rfl) | (exact o_len_n rfl)))); (apply Trace.cons; (case h => exact o_int rfl rfl rfl)); exact Trace.nil _)); (case hd => kernel_rfl); (case hnew => kernel_rfl))
      refine a_cond _ rfl (fun c2 => ?_) (fun c2 => ?_)
      · refine a_seq ?_
        (apply a_region; (case ht => ((apply Trace.cons; (case h => exact o_assign rfl)); exact Trace.nil _)); (case hd => kernel_rfl); (case hnew => kernel_rfl))
        refine a_ret ?_
        ((refine a_post (ResV.r1 (ResOk.tmp rfl)) (DLe.of_eq ?_) PostOk.nil.spec) <;> (rfl))
      · exact absurd c2 (by simp)
  | true =>
    obtain ⟨z, hz1, hz2⟩ := readRec_of hv sx.re
    have hne := recBytes_ne hv
    have hinj := fun (y : Re) hy hT => recBytes_inj (a := y) (b := toRe X) hy hv hT sx.re
    generalize hP : recBytes (toRe X) = P at *
    have hPl : 0 < P.length := List.length_pos_iff.2 hne
    have hml' : (P.map (DV.int .u8)).length = P.length := by simp
    obtain ⟨i, hi, hmod⟩ : ∃ n : Nat, n < P.length ∧ ix % (((P.map (DV.int .u8)).length : Nat) : Int) = (n : Int) := by
      refine ⟨(ix % (P.length : Int)).toNat, ?_, ?_⟩
      · have := Int.emod_lt_of_pos ix (show (0 : Int) < P.length by omega)
        have := Int.emod_nonneg ix (show (P.length : Int) ≠ 0 by omega)
        omega
      · have := Int.emod_nonneg ix (show (P.length : Int) ≠ 0 by omega)
        rw [hml']; omega
    have hrem : 0 ≤ ix ∧ 0 < (((P.map (DV.int .u8)).length : Nat) : Int) := ⟨hix.1, by rw [hml']; omega⟩
    obtain ⟨p, hp⟩ : ∃ p, P[i]? = some p := ⟨_, List.getElem?_eq_getElem hi⟩
    have hget : (P.map (DV.int .u8))[i]? = some (.int .u8 p) := by rw [List.getElem?_map, hp]; rfl
    have hset : (P.map (DV.int .u8)).set i (.int .u8 v) = (P.set i v).map (DV.int .u8) := by rw [List.map_set]
    have hss := set_same (v := v) hp
    have hbq := mem_set_byt hby hvb i
    have hql : (P.set i v).length = P.length := by simp
    have kr := read_c (P.set i v) hbq (by omega)
    refine PCall.body Try.func6 Try.ntmps6 rfl rfl rfl rfl ?_
    refine a_seq ?_
    (apply a_region; (case ht => ((apply Trace.cons; (case h => exact o_box rfl rfl)); (apply Trace.cons; (case h => exact o_assign rfl)); exact Trace.nil _)); (case hd => kernel_rfl); (case hnew => kernel_rfl))
    refine a_seq ?_
    refine a_seq ?_
    (apply a_region; (case ht => ((apply Trace.cons; (case h => exact o_call awake_c rfl (DLeL.refl _) rfl)); (apply Trace.cons; (case h => exact o_not rfl)); exact Trace.nil _)); (case hd => kernel_rfl); (case hnew => kernel_rfl))
    refine a_cond _ rfl (fun c1 => ?_) (fun c1 => ?_)
    · exact absurd c1 (by decide)
    · refine a_skip ?_
      refine a_seq ?_
      (apply a_region; (case ht => ((apply Trace.cons; (case h => (first | (exact o_call kx rfl (DLeL.refl _) rfl) | (exact o_load_r rfl rfl rfl rfl) | (exact o_load_er rfl rfl rfl) | (exact o_load_pr rfl rfl rfl rfl rfl rfl)))); (apply Trace.cons; (case h => exact o_call kx rfl (DLeL.refl _) rfl)); (apply Trace.cons; (case h => (first | (exact o_call kx rfl (DLeL.refl _) rfl) | (exact o_store rfl rfl rfl rfl rfl rfl rfl)))); exact Trace.nil _)); (case hd => kernel_rfl); (case hnew => kernel_rfl))
      refine a_seq ?_
      (apply a_region; (case ht => ((apply Trace.cons; (case h => (first | (exact o_callA (fun _ => 17) kb rfl (DLeL.refl _) PreOk.nil rfl) | (exact o_load_r rfl rfl rfl rfl) | (exact o_load_er rfl rfl rfl) | (exact o_load_pr rfl rfl rfl rfl rfl rfl)))); (apply Trace.cons; (case h => exact o_callA (fun _ => 17) kb rfl (DLeL.refl _) PreOk.nil rfl)); (apply Trace.cons; (case h => exact o_assign rfl)); exact Trace.nil _)); (case hd => kernel_rfl); (case hnew => kernel_rfl))
      refine a_seq ?_
      refine a_seq ?_
      (apply a_region; (case ht => ((apply Trace.cons; (case h => exact o_move rfl)); (apply Trace.cons; (case h => (first | (exact o_len rfl) | (exact o_len_r rfl rfl) | (exact o_len_n rfl)))); (apply Trace.cons; (case h => exact o_int rfl rfl rfl)); exact Trace.nil _)); (case hd => kernel_rfl); (case hnew => kernel_rfl))
      refine a_cond _ rfl (fun c2 => ?_) (fun c2 => ?_)
      · exfalso; simp [hne] at c2
      · refine a_skip ?_
        refine a_seq ?_
        (apply a_region; (case ht => ((apply Trace.cons; (case h => exact o_move rfl)); (apply Trace.cons; (case h => (first | (exact o_rem rfl rfl hrem) | (exact o_conv rfl (by simp only [InR]; omega)) | (exact o_conv_w rfl)))); (apply Trace.cons; (case h => exact o_move rfl)); (apply Trace.cons; (case h => (first | (exact o_rem rfl rfl hrem) | (exact o_len rfl) | (exact o_len_r rfl rfl) | (exact o_len_n rfl)))); (apply Trace.cons; (case h => (first | (exact o_rem rfl rfl hrem) | (exact o_rem rfl rfl (by omega))))); (apply Trace.cons; (case h => exact o_assign rfl)); exact Trace.nil _)); (case hd => kernel_rfl); (case hnew => kernel_rfl))
        refine a_seq ?_
        (apply a_region; (case ht => ((apply Trace.cons; (case h => exact o_move rfl)); (apply Trace.cons; (case h => exact o_move rfl)); (apply Trace.cons; (case h => (first | (exact o_indexAddr_r i rfl rfl rfl hmod (by rw [hml']; exact hi)) | (exact o_load_ps rfl rfl hget rfl rfl) | (exact o_indexAddr _ rfl rfl rfl (by assumption) rfl) | (exact o_indexAddr_r _ rfl rfl rfl rfl (by omega)) | (exact o_indexAddr_a _ rfl rfl rfl (by omega))))); (apply Trace.cons; (case h => (first | (exact o_indexAddr_r i rfl rfl rfl hmod (by rw [hml']; exact hi)) | (exact o_load_ps rfl rfl hget rfl rfl) | (exact o_load_s rfl rfl rfl) | (exact o_load_es rfl rfl) | (exact o_load_ps rfl rfl rfl rfl rfl)))); (apply Trace.cons; (case h => exact o_move rfl)); (apply Trace.cons; (case h => exact o_int rfl rfl rfl)); (apply Trace.cons; (case h => exact o_assign rfl)); exact Trace.nil _)); (case hd => kernel_rfl); (case hnew => kernel_rfl))
        refine a_seq ?_
        (apply a_region; (case ht => ((apply Trace.cons; (case h => exact o_move rfl)); (apply Trace.cons; (case h => exact o_move rfl)); (apply Trace.cons; (case h => exact o_move rfl)); (apply Trace.cons; (case h => (first | (exact o_indexAddr_r i rfl rfl rfl hmod (by rw [hml']; exact hi)) | (exact o_store_p (e' := .int .u8 v) rfl rfl rfl hget rfl rfl rfl rfl rfl rfl rfl (by decide)) | (exact o_indexAddr _ rfl rfl rfl (by assumption) rfl) | (exact o_indexAddr_r _ rfl rfl rfl rfl (by omega)) | (exact o_indexAddr_a _ rfl rfl rfl (by omega))))); (apply Trace.cons; (case h => (first | (exact o_indexAddr_r i rfl rfl rfl hmod (by rw [hml']; exact hi)) | (exact o_store_p (e' := .int .u8 v) rfl rfl rfl hget rfl rfl rfl rfl rfl rfl rfl (by decide)) | (exact o_store_s rfl rfl rfl rfl rfl)))); exact Trace.nil _)); (case hd => kernel_rfl); (case hnew => kernel_rfl))
        refine a_imp (Imp.freeze (id := 17) rfl) ?_
        cases hr : readRec (P.set i v) with
        | none =>
          rw [hr] at kr
          simp only [recRD] at kr
          have hpv : (p == v) = false := by
            rw [← hss, Bool.eq_false_iff]
            intro h
            rw [beq_iff_eq] at h
            rw [h, hz2] at hr; cases hr
          refine a_seq ?_
          (apply a_region; (case ht => ((apply Trace.cons; (case h => exact o_move rfl)); (apply Trace.cons; (case h => exact o_call kr rfl (DLeL.of_eq (congrArg (fun l => [DV.sl 1 l]) hset)) rfl)); (apply Trace.cons; (case h => exact o_move rfl)); (apply Trace.cons; (case h => exact o_extract rfl rfl)); (apply Trace.cons; (case h => exact o_extract rfl rfl)); (apply Trace.cons; (case h => exact o_alloc rfl)); (apply Trace.cons; (case h => (first | (exact o_call kr rfl (DLeL.of_eq (congrArg (fun l => [DV.sl 1 l]) hset)) rfl) | (exact o_store rfl rfl rfl rfl rfl rfl rfl)))); (apply Trace.cons; (case h => exact o_assign rfl)); exact Trace.nil _)); (case hd => kernel_rfl); (case hnew => kernel_rfl))
          refine a_seq ?_
          refine a_seq ?_
          (apply a_region; (case ht => ((apply Trace.cons; (case h => exact o_move rfl)); (apply Trace.cons; (case h => exact o_int rfl rfl rfl)); exact Trace.nil _)); (case hd => kernel_rfl); (case hnew => kernel_rfl))
          refine a_cond _ rfl (fun c3 => ?_) (fun c3 => ?_)
          · refine a_seq ?_
            (apply a_region; (case ht => ((apply Trace.cons; (case h => exact o_move rfl)); (apply Trace.cons; (case h => exact o_int rfl rfl rfl)); (apply Trace.cons; (case h => exact o_move rfl)); (apply Trace.cons; (case h => (apply o_guardT rfl rfl; (case hS => intro hb; exact (Strips.keep Strips.nil)); (case h => intro hb; exact o_move rfl)))); (apply Trace.cons; (case h => (apply o_guardT rfl rfl; (case hS => intro hb; exact (Strips.strip rfl hb Strips.nil)); (case h => intro hb; exact o_not rfl)))); (apply Trace.cons; (case h => (first | (exact o_and rfl rfl) | (exact o_or rfl rfl)))); (apply Trace.cons; (case h => exact o_assign rfl)); exact Trace.nil _)); (case hd => kernel_rfl); (case hnew => kernel_rfl))
            refine a_ret ?_
            ((refine a_post (ResV.r1 (ResOk.tmp rfl)) (DLe.of_eq ?_) PostOk.nil.spec) <;> ((simp [constDV, hpv])))
          · exact absurd c3 (by decide)
        | some y =>
          rw [hr] at kr
          simp only [recRD] at kr
          obtain ⟨y1, y2, y3, y4⟩ := readRec_ok hbq (by omega) hr
          have k1 := rec2_c y
          have k2 := refBytes_c (toRR y) (toRR_cl y) (Nat.le_trans y4 (by omega)) (ReT_toRR y3)
          rw [toRR_bytes y1 y3, y2] at k2
          have k3 := slEq_c (P.set i v) (P.set i v) (by omega)
          have hbe : (P.set i v == P.set i v) = true := by simp
          rw [hbe] at k3
          have k4 := same_c (toRR y) X (toRR_cl y) (Nat.le_trans y4 (by omega)) cx ax
          have hq : recEq (toRe (toRR y)) (toRe X) = (p == v) := by
            rw [recEq_congr (toRR_eq y), ← hinj y y1 y3, y2, hss]
          rw [hq] at k4
          refine a_seq ?_
          (apply a_region; (case ht => ((apply Trace.cons; (case h => exact o_move rfl)); (apply Trace.cons; (case h => exact o_call kr rfl (DLeL.of_eq (congrArg (fun l => [DV.sl 1 l]) hset)) rfl)); (apply Trace.cons; (case h => exact o_move rfl)); (apply Trace.cons; (case h => exact o_extract rfl rfl)); (apply Trace.cons; (case h => exact o_extract rfl rfl)); (apply Trace.cons; (case h => exact o_alloc rfl)); (apply Trace.cons; (case h => (first | (exact o_call kr rfl (DLeL.of_eq (congrArg (fun l => [DV.sl 1 l]) hset)) rfl) | (exact o_store rfl rfl rfl rfl rfl rfl rfl)))); (apply Trace.cons; (case h => exact o_assign rfl)); exact Trace.nil _)); (case hd => kernel_rfl); (case hnew => kernel_rfl))
          refine a_seq ?_
          refine a_seq ?_
          (apply a_region; (case ht => ((apply Trace.cons; (case h => exact o_move rfl)); (apply Trace.cons; (case h => exact o_int rfl rfl rfl)); exact Trace.nil _)); (case hd => kernel_rfl); (case hnew => kernel_rfl))
          refine a_cond _ rfl (fun c3 => ?_) (fun c3 => ?_)
          · exact absurd c3 (by decide)
          · refine a_skip ?_
            refine a_seq ?_
            (apply a_draw mixed; (case ht => ((apply Trace.cons; (case h => (first | (exact o_call k1 rfl (DLeL.refl _) rfl) | (exact o_call k2 rfl (DLeL.refl _) rfl) | (exact o_call k3 rfl (DLeL.of_eq (congrArg (fun l => [u8s (P.set i v), DV.sl 1 l]) hset)) rfl) | (exact o_call k4 rfl (DLeL.refl _) rfl) | (exact o_load_r rfl rfl rfl rfl) | (exact o_load_er rfl rfl rfl) | (exact o_load_pr rfl rfl rfl rfl rfl rfl)))); (apply Trace.cons; (case h => (first | (exact o_call k1 rfl (DLeL.refl _) rfl) | (exact o_call k2 rfl (DLeL.refl _) rfl) | (exact o_call k3 rfl (DLeL.of_eq (congrArg (fun l => [u8s (P.set i v), DV.sl 1 l]) hset)) rfl) | (exact o_call k4 rfl (DLeL.refl _) rfl)))); (apply Trace.cons; (case h => (first | (exact o_call k1 rfl (DLeL.refl _) rfl) | (exact o_call k2 rfl (DLeL.refl _) rfl) | (exact o_call k3 rfl (DLeL.of_eq (congrArg (fun l => [u8s (P.set i v), DV.sl 1 l]) hset)) rfl) | (exact o_call k4 rfl (DLeL.refl _) rfl)))); (apply Trace.cons; (case h => exact o_move rfl)); (apply Trace.cons; (case h => (first | (exact o_call k1 rfl (DLeL.refl _) rfl) | (exact o_call k2 rfl (DLeL.refl _) rfl) | (exact o_call k3 rfl (DLeL.of_eq (congrArg (fun l => [u8s (P.set i v), DV.sl 1 l]) hset)) rfl) | (exact o_call k4 rfl (DLeL.refl _) rfl)))); (apply Trace.cons; (case h => exact o_move rfl)); (apply Trace.cons; (case h => (apply o_guardT rfl rfl; (case hS => intro hb; exact (Strips.keep Strips.nil)); (case h => intro hb; (first | (exact o_move rfl) | (exact o_call k1 rfl (DLeL.refl _) rfl) | (exact o_call k2 rfl (DLeL.refl _) rfl) | (exact o_call k3 rfl (DLeL.of_eq (congrArg (fun l => [u8s (P.set i v), DV.sl 1 l]) hset)) rfl) | (exact o_call k4 rfl (DLeL.refl _) rfl)))))); (apply Trace.cons; (case h => (apply o_guardT rfl rfl; (case hS => intro hb; exact (Strips.keep Strips.nil)); (case h => intro hb; (first | (exact o_call k1 rfl (DLeL.refl _) rfl) | (exact o_call k2 rfl (DLeL.refl _) rfl) | (exact o_call k3 rfl (DLeL.of_eq (congrArg (fun l => [u8s (P.set i v), DV.sl 1 l]) hset)) rfl) | (exact o_call k4 rfl (DLeL.refl _) rfl) | (exact o_load_r rfl rfl rfl rfl) | (exact o_load_er rfl rfl rfl) | (exact o_load_pr rfl rfl rfl rfl rfl rfl)))))); (apply Trace.cons; (case h => (apply o_guardT rfl rfl; (case hS => intro hb; exact (Strips.strip rfl hb Strips.nil)); (case h => intro hb; (first | (exact o_call k1 rfl (DLeL.refl _) rfl) | (exact o_call k2 rfl (DLeL.refl _) rfl) | (exact o_call k3 rfl (DLeL.of_eq (congrArg (fun l => [u8s (P.set i v), DV.sl 1 l]) hset)) rfl) | (exact o_call k4 rfl (DLeL.refl _) rfl)))))); (apply Trace.cons; (case h => (apply o_guardT rfl rfl; (case hS => intro hb; exact (Strips.keep Strips.nil)); (case h => intro hb; (first | (exact o_call k1 rfl (DLeL.refl _) rfl) | (exact o_call k2 rfl (DLeL.refl _) rfl) | (exact o_call k3 rfl (DLeL.of_eq (congrArg (fun l => [u8s (P.set i v), DV.sl 1 l]) hset)) rfl) | (exact o_call k4 rfl (DLeL.refl _) rfl) | (exact o_load_r rfl rfl rfl rfl) | (exact o_load_er rfl rfl rfl) | (exact o_load_pr rfl rfl rfl rfl rfl rfl)))))); (apply Trace.cons; (case h => (apply o_guardT rfl rfl; (case hS => intro hb; exact (Strips.strip rfl hb (Strips.strip rfl hb Strips.nil))); (case h => intro hb; (first | (exact o_call k1 rfl (DLeL.refl _) rfl) | (exact o_call k2 rfl (DLeL.refl _) rfl) | (exact o_call k3 rfl (DLeL.of_eq (congrArg (fun l => [u8s (P.set i v), DV.sl 1 l]) hset)) rfl) | (exact o_call k4 rfl (DLeL.refl _) rfl)))))); (apply Trace.cons; (case h => (apply o_guardT rfl rfl; (case hS => intro hb; exact (Strips.strip rfl hb (Strips.strip rfl hb Strips.nil))); (case h => intro hb; (first | (exact o_booleq rfl rfl) | (exact o_boolne rfl rfl) | (exact o_call k1 rfl (DLeL.refl _) rfl) | (exact o_call k2 rfl (DLeL.refl _) rfl) | (exact o_call k3 rfl (DLeL.of_eq (congrArg (fun l => [u8s (P.set i v), DV.sl 1 l]) hset)) rfl) | (exact o_call k4 rfl (DLeL.refl _) rfl)))))); (apply Trace.cons; (case h => (first | (exact o_and rfl rfl) | (exact o_or rfl rfl)))); (apply Trace.cons; (case h => exact o_assign rfl)); exact Trace.nil _)); (case hk => kernel_rfl); (case hd => kernel_rfl); (case hnew => kernel_rfl))
            refine a_ret ?_
            ((refine a_post (ResV.r1 (ResOk.tmp rfl)) (DLe.of_eq ?_) PostOk.nil.spec) <;> ((simp [constDV])))
end Go.Proofs.Ytkadjbpmnpcfhaa
