/-
  Walk of vclock.Read.
-/
import Derived.Test.YtepkcbalmjnhpaaGreatBr
set_option maxRecDepth 100000
set_option maxHeartbeats 1000000
set_option linter.unusedVariables false
set_option linter.unusedSimpArgs false
namespace Go.Proofs.YtepkcbalmjnhpaaGreat
open Go.RowKit
theorem byt_drop {xs : List Int} (h : ∀ b ∈ xs, Byt b) (n : Nat) : ∀ b ∈ xs.drop n, Byt b := fun b hb => h b (List.mem_of_mem_drop hb)
theorem ents_none {b : Int} {rest : List Int} (h16 : ¬ 16 < b) (h : ents b.toNat rest = none) : clkR (b :: rest) = none := by simp [clkR, h16, h]
theorem u8s_dropB (xs : List Int) (n : Nat) : (DV.sl 1 (((xs.map (DV.int IntKind.u8)).take (xs.map (DV.int IntKind.u8)).length).drop n)) = u8s (xs.drop n) := u8s_drop xs n

theorem clkRead_c (xs : List Int) (hx : ∀ b ∈ xs, Byt b) (hl : xs.length ≤ 4611686018427387904) : PCall Tryz.prog 118 [u8s xs] (clkRD xs) := by
  cases xs with
  | nil =>
    refine PCall.body Tryz.func118 Tryz.ntmps118 rfl rfl rfl (clkRD_ids _) ?_
    refine a_seq ?_
    (apply a_region; (case ht => ((apply Trace.cons; (case h => exact o_alloc rfl)); (apply Trace.cons; (case h => exact o_assign rfl)); (apply Trace.cons; (case h => exact o_assign rfl)); exact Trace.nil _)); (case hd => kernel_rfl); (case hnew => kernel_rfl))
    refine a_seq ?_
    refine a_seq ?_
    (apply a_region; (case ht => ((apply Trace.cons; (case h => exact o_move rfl)); (apply Trace.cons; (case h => (first | (exact o_deadB (by simp at hb)) | (exact o_dead (by simp at hb)) | (exact o_len rfl) | (exact o_len_r rfl rfl) | (exact o_len_n rfl)))); (apply Trace.cons; (case h => exact o_int rfl rfl rfl)); (apply Trace.cons; (case h => exact o_move rfl)); (apply Trace.cons; (case h => (apply o_guardF rfl rfl; (case hS => intro hb; exact (Strips.keep Strips.nil)); (case h => intro hb; (first | (exact o_move rfl) | (exact o_deadB (by simp at hb)) | (exact o_dead (by simp at hb))))))); (apply Trace.cons; (case h => (apply o_guardF rfl rfl; (case hS => intro hb; exact (Strips.strip rfl (nt hb) Strips.nil)); (case h => intro hb; (first | (exact o_deadB (by simp at hb)) | (exact o_dead (by simp at hb)) | (exact o_indexAddr _ rfl rfl rfl (by assumption) rfl) | (exact o_indexAddr_r _ rfl rfl rfl rfl (by omega)) | (exact o_indexAddr_a _ rfl rfl rfl (by omega))))))); (apply Trace.cons; (case h => (apply o_guardF rfl rfl; (case hS => intro hb; exact (Strips.strip rfl (nt hb) Strips.nil)); (case h => intro hb; (first | (exact o_deadB (by simp at hb)) | (exact o_dead (by simp at hb)) | (exact o_load_s rfl rfl rfl) | (exact o_load_es rfl rfl) | (exact o_load_ps rfl rfl rfl rfl rfl)))))); (apply Trace.cons; (case h => (apply o_guardF rfl rfl; (case hS => intro hb; exact (Strips.strip rfl (nt hb) Strips.nil)); (case h => intro hb; (first | (exact o_int rfl rfl rfl) | (exact o_deadB (by simp at hb)) | (exact o_dead (by simp at hb))))))); (apply Trace.cons; (case h => (first | (exact o_and rfl rfl) | (exact o_or rfl rfl)))); exact Trace.nil _)); (case hd => kernel_rfl); (case hnew => kernel_rfl))
    refine a_cond _ rfl (fun c1 => ?_) (fun c1 => ?_)
    · refine a_seq ?_
      (apply a_region; (case ht => ((apply Trace.cons; (case h => exact o_build rfl rfl rfl)); (apply Trace.cons; (case h => exact o_store rfl rfl rfl rfl rfl rfl rfl)); (apply Trace.cons; (case h => exact o_assign rfl)); (apply Trace.cons; (case h => exact o_assign rfl)); exact Trace.nil _)); (case hd => kernel_rfl); (case hnew => kernel_rfl))
      refine a_ret ?_
      ((refine a_post (ResV.r3 (ResOk.cell rfl rfl (.row _ CRow.h (Nat.le_of_ble_eq_true rfl) rfl)) (ResOk.tmp rfl) (ResOk.tmp rfl)) (DLe.of_eq ?_) PostOk.nil.spec) <;> (rfl))
    · simp at c1
  | cons b rest =>
    have hb := hx b (by simp)
    have hb0 := hb.1
    have hb1 := hb.2
    have hrl : rest.length < 4611686018427387904 := by simp at hl; omega
    have hlen : (List.map (DV.int IntKind.u8) (b :: rest)).length = rest.length + 1 := by simp
    refine PCall.body Tryz.func118 Tryz.ntmps118 rfl rfl rfl (clkRD_ids _) ?_
    refine a_seq ?_
    (apply a_region; (case ht => ((apply Trace.cons; (case h => exact o_alloc rfl)); (apply Trace.cons; (case h => exact o_assign rfl)); (apply Trace.cons; (case h => exact o_assign rfl)); exact Trace.nil _)); (case hd => kernel_rfl); (case hnew => kernel_rfl))
    refine a_seq ?_
    refine a_seq ?_
    (apply a_region; (case ht => ((apply Trace.cons; (case h => exact o_move rfl)); (apply Trace.cons; (case h => (first | (exact o_indexAddr 0 rfl rfl rfl rfl rfl) | (exact o_len rfl) | (exact o_len_r rfl rfl) | (exact o_len_n rfl)))); (apply Trace.cons; (case h => exact o_int rfl rfl rfl)); (apply Trace.cons; (case h => exact o_move rfl)); (apply Trace.cons; (case h => (apply o_guardF rfl rfl; (case hS => intro hb; exact (Strips.keep Strips.nil)); (case h => intro hb; (first | (exact o_move rfl) | (exact o_indexAddr 0 rfl rfl rfl rfl rfl)))))); (apply Trace.cons; (case h => (apply o_guardF rfl rfl; (case hS => intro hb; exact (Strips.strip rfl (nt hb) Strips.nil)); (case h => intro hb; (first | (exact o_indexAddr 0 rfl rfl rfl rfl rfl) | (exact o_indexAddr _ rfl rfl rfl (by assumption) rfl) | (exact o_indexAddr_r _ rfl rfl rfl rfl (by omega)) | (exact o_indexAddr_a _ rfl rfl rfl (by omega))))))); (apply Trace.cons; (case h => (apply o_guardF rfl rfl; (case hS => intro hb; exact (Strips.strip rfl (nt hb) Strips.nil)); (case h => intro hb; (first | (exact o_indexAddr 0 rfl rfl rfl rfl rfl) | (exact o_load_s rfl rfl rfl) | (exact o_load_es rfl rfl) | (exact o_load_ps rfl rfl rfl rfl rfl)))))); (apply Trace.cons; (case h => (apply o_guardF rfl rfl; (case hS => intro hb; exact (Strips.strip rfl (nt hb) Strips.nil)); (case h => intro hb; (first | (exact o_int rfl rfl rfl) | (exact o_indexAddr 0 rfl rfl rfl rfl rfl)))))); (apply Trace.cons; (case h => (first | (exact o_and rfl rfl) | (exact o_or rfl rfl)))); exact Trace.nil _)); (case hd => kernel_rfl); (case hnew => kernel_rfl))
    refine a_cond _ rfl (fun c1 => ?_) (fun c1 => ?_)
    · have h16 : 16 < b := by
        have hne : (((List.map (DV.int IntKind.u8) (b :: rest)).length : Int) == 0) = false := by rw [hlen]; simp; omega
        rw [hne] at c1
        simpa using c1
      refine a_seq ?_
      (apply a_region; (case ht => ((apply Trace.cons; (case h => exact o_build rfl rfl rfl)); (apply Trace.cons; (case h => exact o_store rfl rfl rfl rfl rfl rfl rfl)); (apply Trace.cons; (case h => exact o_assign rfl)); (apply Trace.cons; (case h => exact o_assign rfl)); exact Trace.nil _)); (case hd => kernel_rfl); (case hnew => kernel_rfl))
      refine a_ret ?_
      ((refine a_post (ResV.r3 (ResOk.cell rfl rfl (.row _ CRow.h (Nat.le_of_ble_eq_true rfl) rfl)) (ResOk.tmp rfl) (ResOk.tmp rfl)) (DLe.of_eq ?_) PostOk.nil.spec) <;> ((simp [clkRD, clkR, h16, constDV]; rfl)))
    · have h16 : ¬ 16 < b := by
        simp only [Bool.or_eq_false_iff, decide_eq_false_iff_not] at c1
        exact c1.2
      refine a_skip ?_
      refine a_seq ?_
      (apply a_region; (case ht => ((apply Trace.cons; (case h => exact o_alloc rfl)); exact Trace.nil _)); (case hd => kernel_rfl); (case hnew => kernel_rfl))
      refine a_seq ?_
      (apply a_region; (case ht => ((apply Trace.cons; (case h => exact o_move rfl)); (apply Trace.cons; (case h => (first | (exact o_indexAddr 0 rfl rfl rfl rfl rfl) | (exact o_indexAddr _ rfl rfl rfl (by assumption) rfl) | (exact o_indexAddr_r _ rfl rfl rfl rfl (by omega)) | (exact o_indexAddr_a _ rfl rfl rfl (by omega))))); (apply Trace.cons; (case h => (first | (exact o_indexAddr 0 rfl rfl rfl rfl rfl) | (exact o_load_s rfl rfl rfl) | (exact o_load_es rfl rfl) | (exact o_load_ps rfl rfl rfl rfl rfl)))); (apply Trace.cons; (case h => (first | (exact o_indexAddr 0 rfl rfl rfl rfl rfl) | (exact o_conv rfl (by simp only [InR]; omega)) | (exact o_conv_w rfl)))); (apply Trace.cons; (case h => exact o_assign rfl)); (apply Trace.cons; (case h => exact o_assign rfl)); exact Trace.nil _)); (case hd => kernel_rfl); (case hnew => kernel_rfl))
      refine a_seq ?_
      refine a_seq ?_
      (apply a_region; (case ht => ((apply Trace.cons; (case h => exact o_move rfl)); (apply Trace.cons; (case h => exact o_move rfl)); exact Trace.nil _)); (case hd => kernel_rfl); (case hnew => kernel_rfl))
      refine a_block ?_
      refine a_loop (fun p : List Int × Nat => ⟨[(0, u8s (b :: rest)), (2, .ref 2 0), (5, .ref 5 0), (6, .int .i64 b), (7, .int .i64 ((1 + p.2 : Nat) : Int)), (26, .int .i64 b), (27, .int .i64 (p.1.length : Int))], [(2, some (.blk 45 (clkD clk0))), (5, some (.blk 45 (clkD (clkOf p.1))))], [5, 2]⟩)
        (fun p => p.1.length ≤ b.toNat ∧ p.2 ≤ rest.length ∧ ents b.toNat rest = (ents (b.toNat - p.1.length) (rest.drop p.2)).map (fun q => (p.1 ++ q.1, p.2 + q.2))) (fun p => b.toNat - p.1.length) ([], 0) ?_ ?_ ?_
      · exact Imp.of (fun i => i) (.cons rfl (DLe.refl _) (.cons rfl (DLe.refl _) (.cons rfl (DLe.refl _) (.cons rfl (DLe.refl _) (.cons rfl (DLe.refl _) (.cons rfl (DLe.refl _) (.cons rfl (DLe.refl _) .nil))))))) (.cons rfl (.refl _) (.cons rfl (.refl _) .nil)) rfl rfl rfl
      · refine ⟨by simp, by simp, ?_⟩
        simp only [List.length_nil, Nat.sub_zero, List.drop_zero, List.nil_append, Nat.zero_add]
        cases ents b.toNat rest <;> rfl
      rintro ⟨l, t⟩ ⟨i1, i2, i3⟩
      simp only at i1 i2 i3
      dsimp only
      refine a_seq ?_
      (apply a_region; (case ht => ((apply Trace.cons; (case h => exact o_int rfl rfl rfl)); exact Trace.nil _)); (case hd => kernel_rfl); (case hnew => kernel_rfl))
      refine a_seq ?_
      refine a_cond _ rfl (fun c2 => ?_) (fun c2 => ?_)
      · have hlt : l.length < b.toNat := by simp only [decide_eq_true_eq] at c2; omega
        obtain ⟨m, hm⟩ : ∃ m, b.toNat - l.length = m + 1 := ⟨b.toNat - l.length - 1, by omega⟩
        rw [hm, ents] at i3
        have hu := uint_c (rest.drop t) (byt_drop (fun c hc => hx c (by simp [hc])) t) (by simp; omega)
        have hsl : (u8s ((b :: rest).drop (1 + t))) = u8s (rest.drop t) := by rw [Nat.add_comm, List.drop_succ_cons]
        refine a_skip ?_
        refine a_seq ?_
        refine a_block ?_
        refine a_seq ?_
        (apply a_region; (case ht => ((apply Trace.cons; (case h => exact o_move rfl)); (apply Trace.cons; (case h => exact o_assign rfl)); exact Trace.nil _)); (case hd => kernel_rfl); (case hnew => kernel_rfl))
        refine a_seq ?_
        cases hd : decU 0 0 (rest.drop t) with
        | none =>
          rw [hd] at i3
          simp only [uintD, hd] at hu
          (apply a_region; (case ht => ((apply Trace.cons; (case h => exact o_move rfl)); (apply Trace.cons; (case h => exact o_move rfl)); (apply Trace.cons; (case h => (first | (exact o_slice (1 + t) _ rfl (Bd.at rfl rfl) Bd.no (by simp; omega) (Nat.le_refl _)) | (exact o_call hu rfl (DLeL.of_eq (by rw [u8s_dropB, hsl])) rfl) | (exact o_slice _ _ rfl (Bd.at rfl rfl) Bd.no (by omega) (by omega)) | (exact o_slice _ _ rfl Bd.no (Bd.at rfl rfl) (by omega) (by omega)) | (exact o_slice _ _ rfl (Bd.at rfl rfl) (Bd.at rfl rfl) (by omega) (by omega))))); (apply Trace.cons; (case h => (first | (exact o_slice (1 + t) _ rfl (Bd.at rfl rfl) Bd.no (by simp; omega) (Nat.le_refl _)) | (exact o_call hu rfl (DLeL.of_eq (by rw [u8s_dropB, hsl])) rfl)))); (apply Trace.cons; (case h => exact o_move rfl)); (apply Trace.cons; (case h => exact o_extract rfl rfl)); (apply Trace.cons; (case h => exact o_extract rfl rfl)); (apply Trace.cons; (case h => exact o_extract rfl rfl)); (apply Trace.cons; (case h => exact o_assign rfl)); (apply Trace.cons; (case h => exact o_assign rfl)); (apply Trace.cons; (case h => exact o_assign rfl)); exact Trace.nil _)); (case hd => kernel_rfl); (case hnew => kernel_rfl))
          refine a_seq ?_
          refine a_seq ?_
          (apply a_region; (case ht => ((apply Trace.cons; (case h => exact o_move rfl)); (apply Trace.cons; (case h => exact o_int rfl rfl rfl)); exact Trace.nil _)); (case hd => kernel_rfl); (case hnew => kernel_rfl))
          refine a_cond _ rfl (fun c3 => ?_) (fun c3 => ?_)
          · refine a_seq ?_
            (apply a_region; (case ht => ((apply Trace.cons; (case h => exact o_build rfl rfl rfl)); (apply Trace.cons; (case h => exact o_store rfl rfl rfl rfl rfl rfl rfl)); (apply Trace.cons; (case h => exact o_assign rfl)); (apply Trace.cons; (case h => exact o_assign rfl)); exact Trace.nil _)); (case hd => kernel_rfl); (case hnew => kernel_rfl))
            refine a_ret ?_
            ((refine a_post (ResV.r3 (ResOk.cell rfl rfl (.row _ CRow.h (Nat.le_of_ble_eq_true rfl) rfl)) (ResOk.tmp rfl) (ResOk.tmp rfl)) (DLe.of_eq ?_) PostOk.nil.spec) <;> ((simp [clkRD, ents_none h16 i3, constDV]; rfl)))
          · simp at c3
        | some p =>
          obtain ⟨v, k⟩ := p
          have hkl := decU_le _ 0 0 v k hd
          simp only [List.length_drop] at hkl
          rw [hd] at i3
          simp only [uintD, hd] at hu
          (apply a_region; (case ht => ((apply Trace.cons; (case h => exact o_move rfl)); (apply Trace.cons; (case h => exact o_move rfl)); (apply Trace.cons; (case h => (first | (exact o_slice (1 + t) _ rfl (Bd.at rfl rfl) Bd.no (by simp; omega) (Nat.le_refl _)) | (exact o_call hu rfl (DLeL.of_eq (by rw [u8s_dropB, hsl])) rfl) | (exact o_slice _ _ rfl (Bd.at rfl rfl) Bd.no (by omega) (by omega)) | (exact o_slice _ _ rfl Bd.no (Bd.at rfl rfl) (by omega) (by omega)) | (exact o_slice _ _ rfl (Bd.at rfl rfl) (Bd.at rfl rfl) (by omega) (by omega))))); (apply Trace.cons; (case h => (first | (exact o_slice (1 + t) _ rfl (Bd.at rfl rfl) Bd.no (by simp; omega) (Nat.le_refl _)) | (exact o_call hu rfl (DLeL.of_eq (by rw [u8s_dropB, hsl])) rfl)))); (apply Trace.cons; (case h => exact o_move rfl)); (apply Trace.cons; (case h => exact o_extract rfl rfl)); (apply Trace.cons; (case h => exact o_extract rfl rfl)); (apply Trace.cons; (case h => exact o_extract rfl rfl)); (apply Trace.cons; (case h => exact o_assign rfl)); (apply Trace.cons; (case h => exact o_assign rfl)); (apply Trace.cons; (case h => exact o_assign rfl)); exact Trace.nil _)); (case hd => kernel_rfl); (case hnew => kernel_rfl))
          refine a_seq ?_
          refine a_seq ?_
          (apply a_region; (case ht => ((apply Trace.cons; (case h => exact o_move rfl)); (apply Trace.cons; (case h => exact o_int rfl rfl rfl)); exact Trace.nil _)); (case hd => kernel_rfl); (case hnew => kernel_rfl))
          refine a_cond _ rfl (fun c3 => ?_) (fun c3 => ?_)
          · simp at c3
          · refine a_skip ?_
            refine a_seq ?_
            (apply a_region; (case ht => ((apply Trace.cons; (case h => exact o_move rfl)); (apply Trace.cons; (case h => exact o_move rfl)); (apply Trace.cons; (case h => (first | (exact o_fieldAddr rfl) | (exact o_fieldAddr_e rfl rfl) | (exact o_fieldAddr_p rfl)))); (apply Trace.cons; (case h => (first | (exact o_indexAddr_a l.length rfl rfl rfl (by omega)) | (exact o_store_at rfl rfl rfl rfl (by simp [clkD]; omega) (clkD_set l v (by omega))) | (exact o_indexAddr _ rfl rfl rfl (by assumption) rfl) | (exact o_indexAddr_r _ rfl rfl rfl rfl (by omega)) | (exact o_indexAddr_a _ rfl rfl rfl (by omega))))); (apply Trace.cons; (case h => (first | (exact o_indexAddr_a l.length rfl rfl rfl (by omega)) | (exact o_store_at rfl rfl rfl rfl (by simp [clkD]; omega) (clkD_set l v (by omega))) | (exact o_store_s rfl rfl rfl rfl rfl)))); exact Trace.nil _)); (case hd => kernel_rfl); (case hnew => kernel_rfl))
            (apply a_region; (case ht => ((apply Trace.cons; (case h => exact o_move rfl)); (apply Trace.cons; (case h => exact o_move rfl)); (apply Trace.cons; (case h => (first | (exact o_add rfl rfl (by simp only [InR]; omega)) | (exact o_int rfl rfl rfl)))); (apply Trace.cons; (case h => exact o_assign rfl)); exact Trace.nil _)); (case hd => kernel_rfl); (case hnew => kernel_rfl))
            (apply a_region; (case ht => ((apply Trace.cons; (case h => (first | (exact o_add rfl rfl (by simp only [InR]; omega)) | (exact o_int rfl rfl rfl)))); (apply Trace.cons; (case h => exact o_move rfl)); exact Trace.nil _)); (case hd => kernel_rfl); (case hnew => kernel_rfl))
            refine QLoop.next (l ++ [v], t + k) ⟨by simp; omega, by simp; omega, ?_⟩ (by simp; omega) (Imp.of (fun i => i) (.cons rfl (DLe.refl _) (.cons rfl (DLe.refl _) (.cons rfl (DLe.refl _) (.cons rfl (DLe.refl _) (.cons rfl (DLe.of_eq ?_) (.cons rfl (DLe.refl _) (.cons rfl (DLe.of_eq ?_) .nil))))))) (.cons rfl (.refl _) (.cons rfl (.refl _) .nil)) rfl rfl rfl)
            · have e : b.toNat - (l ++ [v]).length = m := by simp; omega
              simp only [List.drop_drop] at i3 ⊢
              rw [i3, e]
              cases ents m (rest.drop (t + k)) with
              | none => rfl
              | some q => obtain ⟨l', t'⟩ := q; simp [Nat.add_assoc]
            · simp [DV.ren]; omega
            · simp [DV.ren]
      · have hlt : l.length = b.toNat := by simp only [decide_eq_false_iff_not] at c2; omega
        have he : ents b.toNat rest = some (l, t) := by
          rw [i3, hlt, Nat.sub_self]; simp [ents]
        refine a_exit ?_
        refine a_seq ?_
        refine a_seq ?_
        (apply a_region; (case ht => ((apply Trace.cons; (case h => (first | (exact o_call (length_c (clkOf l)) rfl (DLeL.refl _) rfl) | (exact o_load_r rfl rfl rfl rfl) | (exact o_load_er rfl rfl rfl) | (exact o_load_pr rfl rfl rfl rfl rfl rfl)))); (apply Trace.cons; (case h => exact o_call (length_c (clkOf l)) rfl (DLeL.refl _) rfl)); (apply Trace.cons; (case h => exact o_move rfl)); (apply Trace.cons; (case h => exact o_int rfl rfl rfl)); exact Trace.nil _)); (case hd => kernel_rfl); (case hnew => kernel_rfl))
        refine a_cond _ rfl (fun c4 => ?_) (fun c4 => ?_)
        · have hne : ¬ clen (clkOf l) = b.toNat := by
            simp only [bne_iff_ne] at c4; omega
          refine a_seq ?_
          (apply a_region; (case ht => ((apply Trace.cons; (case h => exact o_build rfl rfl rfl)); (apply Trace.cons; (case h => exact o_store rfl rfl rfl rfl rfl rfl rfl)); (apply Trace.cons; (case h => exact o_assign rfl)); (apply Trace.cons; (case h => exact o_assign rfl)); exact Trace.nil _)); (case hd => kernel_rfl); (case hnew => kernel_rfl))
          refine a_ret ?_
          ((refine a_post (ResV.r3 (ResOk.cell rfl rfl (.row _ CRow.h (Nat.le_of_ble_eq_true rfl) rfl)) (ResOk.tmp rfl) (ResOk.tmp rfl)) (DLe.of_eq ?_) PostOk.nil.spec) <;> ((simp [clkRD, clkR, h16, he, hne, constDV]; rfl)))
        · have hne : clen (clkOf l) = b.toNat := by
            simp only [bne_eq_false_iff_eq] at c4; omega
          refine a_skip ?_
          refine a_seq ?_
          (apply a_region; (case ht => ((apply Trace.cons; (case h => (first | (exact o_load_r rfl rfl rfl rfl) | (exact o_load_er rfl rfl rfl) | (exact o_load_pr rfl rfl rfl rfl rfl rfl)))); (apply Trace.cons; (case h => exact o_move rfl)); (apply Trace.cons; (case h => exact o_store rfl rfl rfl rfl rfl rfl rfl)); (apply Trace.cons; (case h => exact o_assign rfl)); (apply Trace.cons; (case h => exact o_assign rfl)); exact Trace.nil _)); (case hd => kernel_rfl); (case hnew => kernel_rfl))
          refine a_ret ?_
          ((refine a_post (ResV.r3 (ResOk.cell rfl rfl (.row _ CRow.h (Nat.le_of_ble_eq_true rfl) rfl)) (ResOk.tmp rfl) (ResOk.tmp rfl)) (DLe.of_eq ?_) PostOk.nil.spec) <;> ((simp [clkRD, clkR, h16, he, hne, constDV]; rfl)))
end Go.Proofs.YtepkcbalmjnhpaaGreat
