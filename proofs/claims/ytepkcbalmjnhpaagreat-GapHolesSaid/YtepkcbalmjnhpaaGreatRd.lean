/-
  Walks of num.Uint, num.Int and num.Reader.
-/
import Derived.Test.YtepkcbalmjnhpaaGreatTy
import Derived.Test.YtepkcbalmjnhpaaGreatPlE
set_option maxRecDepth 100000
set_option linter.unusedVariables false
set_option linter.unusedSimpArgs false
namespace Go.Proofs.YtepkcbalmjnhpaaGreat
open Go.RowKit
def u8s (xs : List Int) : DV := .sl 1 (xs.map (.int .u8))
def rdE (r : Rd) : HE := .blk 221 [u8s r.xs, .int .i64 r.err]
theorem idx_map {α : Type} {l : List α} {f : α → DV} {k : Nat} {x : α} (h : l[k]? = some x) : (l.map f)[k]? = some (f x) := by simp [h]
theorem u8s_drop (xs : List Int) (n : Nat) : DV.sl 1 (((xs.map (.int .u8)).take (xs.map (DV.int .u8)).length).drop n) = u8s (xs.drop n) := by
  unfold u8s; rw [List.take_of_length_le (by simp), List.map_drop]

theorem open_c (r : Rd) : ACall Tryz.prog 129 ⟨[.ref 100000 0], [(100000, some (rdE r))], .bool (r.err == 0), [(100000, some (rdE r))], []⟩ := by
  refine ACall.body Tryz.func129 Tryz.ntmps129 rfl rfl rfl rfl ?_
  (refine a_seq ?_; (apply a_region; (case ht => ((apply Trace.cons; (case h => exact o_assign rfl)); exact Trace.nil _)); (case hd => kernel_rfl); (case hnew => kernel_rfl)); refine a_seq ?_; (apply a_region; (case ht => ((apply Trace.cons; (case h => exact o_move rfl)); (apply Trace.cons; (case h => (first | (exact o_ptr_eq rfl) | (exact o_ptr_ne rfl) | (exact o_nil_eq rfl) | (exact o_nil_ne rfl)))); (apply Trace.cons; (case h => exact o_move rfl)); (apply Trace.cons; (case h => (apply o_guardT rfl rfl; (case hS => intro hb; exact (Strips.keep Strips.nil)); (case h => intro hb; exact o_move rfl)))); (apply Trace.cons; (case h => (apply o_guardT rfl rfl; (case hS => intro hb; exact (Strips.strip rfl hb Strips.nil)); (case h => intro hb; exact o_nilCheck rfl)))); (apply Trace.cons; (case h => (apply o_guardT rfl rfl; (case hS => intro hb; exact (Strips.strip rfl hb Strips.nil)); (case h => intro hb; (first | (exact o_fieldAddr rfl) | (exact o_fieldAddr_e rfl rfl) | (exact o_fieldAddr_p rfl)))))); (apply Trace.cons; (case h => (apply o_guardT rfl rfl; (case hS => intro hb; exact (Strips.strip rfl hb Strips.nil)); (case h => intro hb; (first | (exact o_load_s rfl rfl rfl) | (exact o_load_es rfl rfl) | (exact o_load_ps rfl rfl rfl rfl rfl)))))); (apply Trace.cons; (case h => (apply o_guardT rfl rfl; (case hS => intro hb; exact (Strips.strip rfl hb Strips.nil)); (case h => intro hb; exact o_int rfl rfl rfl)))); (apply Trace.cons; (case h => (first | (exact o_and rfl rfl) | (exact o_or rfl rfl)))); (apply Trace.cons; (case h => exact o_assign rfl)); exact Trace.nil _)); (case hd => kernel_rfl); (case hnew => kernel_rfl)); refine a_ret ?_; ((refine a_post (ResV.r1 (ResOk.tmp rfl)) (DLe.of_eq ?_) (PostOk.consE rfl ?_ PostOk.nil).spec) <;> ((first | rfl | simp))))

theorem take_c (r : Rd) (n : Nat) (e : Int) (hn : e = 0 → n ≤ r.xs.length) : ACall Tryz.prog 131 ⟨[.ref 100000 0, .int .i64 n, .int .i64 e], [(100000, some (rdE r))], .bool (r.take n e).1, [(100000, some (rdE (r.take n e).2))], []⟩ := by
  by_cases he : e = 0
  · have hle := hn he
    subst he
    have hl : (List.map (DV.int IntKind.u8) r.xs).length = r.xs.length := by simp
    refine ACall.body Tryz.func131 Tryz.ntmps131 rfl rfl rfl rfl ?_
    (refine a_seq ?_; (apply a_region; (case ht => ((apply Trace.cons; (case h => exact o_assign rfl)); exact Trace.nil _)); (case hd => kernel_rfl); (case hnew => kernel_rfl)); refine a_seq ?_; refine a_seq ?_; (apply a_region; (case ht => ((apply Trace.cons; (case h => exact o_move rfl)); (apply Trace.cons; (case h => exact o_int rfl rfl rfl)); exact Trace.nil _)); (case hd => kernel_rfl); (case hnew => kernel_rfl)); (apply a_cond _ rfl; (case ht => intro c1; (first | (cases c1; done) | (exact absurd c1 (by decide))  | (refine a_seq ?_; (apply a_region; (case ht => ((apply Trace.cons; (case h => exact o_move rfl)); (apply Trace.cons; (case h => exact o_move rfl)); (apply Trace.cons; (case h => exact o_nilCheck rfl)); (apply Trace.cons; (case h => (first | (exact o_fieldAddr rfl) | (exact o_fieldAddr_e rfl rfl) | (exact o_fieldAddr_p rfl)))); (apply Trace.cons; (case h => (first | (exact o_slice n _ rfl (Bd.at rfl rfl) Bd.no (by omega) (by omega)) | (exact o_store_s rfl rfl rfl rfl rfl)))); exact Trace.nil _)); (case hd => kernel_rfl); (case hnew => kernel_rfl)); refine a_seq ?_; (apply a_region; (case ht => ((apply Trace.cons; (case h => exact o_assign rfl)); exact Trace.nil _)); (case hd => kernel_rfl); (case hnew => kernel_rfl)); refine a_ret ?_; ((refine a_post (ResV.r1 (ResOk.tmp rfl)) (DLe.of_eq ?_) (PostOk.consE rfl ?_ PostOk.nil).spec) <;> ((simp [Rd.take, rdE, constDV, layD, DV.cs, u8s, List.map_drop, List.take_of_length_le])))))); (case hf => intro c1; (first | (cases c1; done) | (exact absurd c1 (by decide))  | (refine a_skip ?_; refine a_seq ?_; (apply a_region; (case ht => ((apply Trace.cons; (case h => exact o_move rfl)); (apply Trace.cons; (case h => exact o_move rfl)); (apply Trace.cons; (case h => exact o_nilCheck rfl)); (apply Trace.cons; (case h => (first | (exact o_fieldAddr rfl) | (exact o_fieldAddr_e rfl rfl) | (exact o_fieldAddr_p rfl)))); (apply Trace.cons; (case h => (first | (exact o_slice n _ rfl (Bd.at rfl rfl) Bd.no (by omega) (by omega)) | (exact o_load_s rfl rfl rfl) | (exact o_load_es rfl rfl) | (exact o_load_ps rfl rfl rfl rfl rfl)))); (apply Trace.cons; (case h => exact o_move rfl)); (apply Trace.cons; (case h => (first | (exact o_slice n _ rfl (Bd.at rfl rfl) Bd.no (by omega) (by omega)) | (exact o_slice _ _ rfl (Bd.at rfl rfl) Bd.no (by omega) (by omega)) | (exact o_slice _ _ rfl Bd.no (Bd.at rfl rfl) (by omega) (by omega)) | (exact o_slice _ _ rfl (Bd.at rfl rfl) (Bd.at rfl rfl) (by omega) (by omega))))); (apply Trace.cons; (case h => exact o_nilCheck rfl)); (apply Trace.cons; (case h => (first | (exact o_fieldAddr rfl) | (exact o_fieldAddr_e rfl rfl) | (exact o_fieldAddr_p rfl)))); (apply Trace.cons; (case h => (first | (exact o_slice n _ rfl (Bd.at rfl rfl) Bd.no (by omega) (by omega)) | (exact o_store_s rfl rfl rfl rfl rfl)))); exact Trace.nil _)); (case hd => kernel_rfl); (case hnew => kernel_rfl)); refine a_seq ?_; (apply a_region; (case ht => ((apply Trace.cons; (case h => exact o_assign rfl)); exact Trace.nil _)); (case hd => kernel_rfl); (case hnew => kernel_rfl)); refine a_ret ?_; ((refine a_post (ResV.r1 (ResOk.tmp rfl)) (DLe.of_eq ?_) (PostOk.consE rfl ?_ PostOk.nil).spec) <;> ((simp [Rd.take, rdE, constDV, layD, DV.cs, u8s, List.map_drop, List.take_of_length_le]))))))))
  · refine ACall.body Tryz.func131 Tryz.ntmps131 rfl rfl rfl rfl ?_
    (refine a_seq ?_; (apply a_region; (case ht => ((apply Trace.cons; (case h => exact o_assign rfl)); exact Trace.nil _)); (case hd => kernel_rfl); (case hnew => kernel_rfl)); refine a_seq ?_; refine a_seq ?_; (apply a_region; (case ht => ((apply Trace.cons; (case h => exact o_move rfl)); (apply Trace.cons; (case h => exact o_int rfl rfl rfl)); exact Trace.nil _)); (case hd => kernel_rfl); (case hnew => kernel_rfl)); (apply a_cond _ rfl; (case ht => intro c1; (first | (cases c1; done) | (exact absurd c1 (by decide)) | (exfalso; simp [he] at c1; done) | (refine a_seq ?_; (apply a_region; (case ht => ((apply Trace.cons; (case h => exact o_move rfl)); (apply Trace.cons; (case h => exact o_move rfl)); (apply Trace.cons; (case h => exact o_nilCheck rfl)); (apply Trace.cons; (case h => (first | (exact o_fieldAddr rfl) | (exact o_fieldAddr_e rfl rfl) | (exact o_fieldAddr_p rfl)))); (apply Trace.cons; (case h => exact o_store_s rfl rfl rfl rfl rfl)); exact Trace.nil _)); (case hd => kernel_rfl); (case hnew => kernel_rfl)); refine a_seq ?_; (apply a_region; (case ht => ((apply Trace.cons; (case h => exact o_assign rfl)); exact Trace.nil _)); (case hd => kernel_rfl); (case hnew => kernel_rfl)); refine a_ret ?_; ((refine a_post (ResV.r1 (ResOk.tmp rfl)) (DLe.of_eq ?_) (PostOk.consE rfl ?_ PostOk.nil).spec) <;> ((simp [Rd.take, he, rdE, layD, DV.cs, constDV])))))); (case hf => intro c1; (first | (cases c1; done) | (exact absurd c1 (by decide)) | (exfalso; simp [he] at c1; done) | (refine a_skip ?_; refine a_seq ?_; (apply a_region; (case ht => ((apply Trace.cons; (case h => exact o_move rfl)); (apply Trace.cons; (case h => exact o_move rfl)); (apply Trace.cons; (case h => exact o_nilCheck rfl)); (apply Trace.cons; (case h => (first | (exact o_fieldAddr rfl) | (exact o_fieldAddr_e rfl rfl) | (exact o_fieldAddr_p rfl)))); (apply Trace.cons; (case h => (first | (exact o_load_s rfl rfl rfl) | (exact o_load_es rfl rfl) | (exact o_load_ps rfl rfl rfl rfl rfl)))); (apply Trace.cons; (case h => exact o_move rfl)); (apply Trace.cons; (case h => (first | (exact o_slice _ _ rfl (Bd.at rfl rfl) Bd.no (by omega) (by omega)) | (exact o_slice _ _ rfl Bd.no (Bd.at rfl rfl) (by omega) (by omega)) | (exact o_slice _ _ rfl (Bd.at rfl rfl) (Bd.at rfl rfl) (by omega) (by omega))))); (apply Trace.cons; (case h => exact o_nilCheck rfl)); (apply Trace.cons; (case h => (first | (exact o_fieldAddr rfl) | (exact o_fieldAddr_e rfl rfl) | (exact o_fieldAddr_p rfl)))); (apply Trace.cons; (case h => exact o_store_s rfl rfl rfl rfl rfl)); exact Trace.nil _)); (case hd => kernel_rfl); (case hnew => kernel_rfl)); refine a_seq ?_; (apply a_region; (case ht => ((apply Trace.cons; (case h => exact o_assign rfl)); exact Trace.nil _)); (case hd => kernel_rfl); (case hnew => kernel_rfl)); refine a_ret ?_; ((refine a_post (ResV.r1 (ResOk.tmp rfl)) (DLe.of_eq ?_) (PostOk.consE rfl ?_ PostOk.nil).spec) <;> ((simp [Rd.take, he, rdE, layD, DV.cs, constDV]))))))))

theorem uint_c (xs : List Int) (hx : ∀ b ∈ xs, Byt b) (hl : xs.length ≤ 4611686018427387904) : PCall Tryz.prog 130 [u8s xs] (.tup [.int .u64 (uintD xs).1, .int .i64 (uintD xs).2.1, .int .i64 (uintD xs).2.2]) := by
  refine PCall.body Tryz.func130 Tryz.ntmps130 rfl rfl rfl rfl ?_
  refine a_seq ?_
  (apply a_region; (case ht => ((apply Trace.cons; (case h => exact o_assign rfl)); (apply Trace.cons; (case h => exact o_assign rfl)); (apply Trace.cons; (case h => exact o_assign rfl)); exact Trace.nil _)); (case hd => kernel_rfl); (case hnew => kernel_rfl))
  refine a_seq ?_
  refine a_seq ?_
  (apply a_region; (case ht => ((apply Trace.cons; (case h => exact o_move rfl)); (apply Trace.cons; (case h => (first | (exact o_len rfl) | (exact o_len_r rfl rfl) | (exact o_len_n rfl)))); (apply Trace.cons; (case h => exact o_move rfl)); exact Trace.nil _)); (case hd => kernel_rfl); (case hnew => kernel_rfl))
  refine a_block ?_
  refine a_loop (fun p : Nat × Int => ⟨[(7, u8s xs), (8, .int .i64 (xs.map (DV.int .u8)).length), (9, .int .i64 (p.1 : Int)), (2, .int .u64 p.2)], [], []⟩) (fun p => p.1 ≤ xs.length ∧ p.1 ≤ 9 ∧ 0 ≤ p.2 ∧ p.2 < 128 ^ p.1 ∧ decU 0 0 xs = decU p.1 p.2 (xs.drop p.1)) (fun p => xs.length - p.1) (0, 0) ?_ ?_ ?_
  · exact Imp.le (.cons rfl (DLe.refl _) (.cons rfl (DLe.refl _) (.cons rfl (DLe.refl _) (.cons rfl (DLe.refl _) .nil))))
  · exact ⟨by omega, by omega, by omega, by simp, by simp⟩
  rintro ⟨k, acc⟩ ⟨h1, h2, h3, h4, h5⟩
  simp only at h1 h2 h3 h4 h5
  refine a_seq ?_
  (apply a_region; (case ht => ((apply Trace.cons; (case h => exact o_int rfl rfl rfl)); exact Trace.nil _)); (case hd => kernel_rfl); (case hnew => kernel_rfl))
  refine a_seq ?_
  refine a_cond _ rfl (fun c1 => ?_) (fun c1 => ?_)
  · simp only [List.length_map, decide_eq_true_eq] at c1
    have hk : k < xs.length := by omega
    obtain ⟨b, hb⟩ : ∃ b, xs[k]? = some b := ⟨xs[k], by simp [hk]⟩
    have hby : Byt b := hx b (List.mem_of_getElem? hb)
    have hdr : xs.drop k = b :: xs.drop (k + 1) := by
      rw [List.drop_eq_getElem_cons hk]
      congr 1
      rw [List.getElem?_eq_getElem hk] at hb; injection hb
    rw [hdr] at h5
    refine a_skip ?_
    refine a_seq ?_
    refine a_block ?_
    refine a_seq ?_
    (apply a_region; (case ht => ((apply Trace.cons; (case h => exact o_move rfl)); (apply Trace.cons; (case h => (first | (exact o_indexAddr k rfl rfl rfl (idx_map hb) rfl) | (exact o_indexAddr _ rfl rfl rfl (by assumption) rfl) | (exact o_indexAddr_r _ rfl rfl rfl rfl (by omega)) | (exact o_indexAddr_a _ rfl rfl rfl (by omega))))); (apply Trace.cons; (case h => (first | (exact o_indexAddr k rfl rfl rfl (idx_map hb) rfl) | (exact o_load_s rfl rfl rfl) | (exact o_load_es rfl rfl) | (exact o_load_ps rfl rfl rfl rfl rfl)))); (apply Trace.cons; (case h => exact o_assign rfl)); (apply Trace.cons; (case h => exact o_assign rfl)); exact Trace.nil _)); (case hd => kernel_rfl); (case hnew => kernel_rfl))
    refine a_seq ?_
    refine a_seq ?_
    (apply a_region; (case ht => ((apply Trace.cons; (case h => exact o_move rfl)); (apply Trace.cons; (case h => exact o_int rfl rfl rfl)); (apply Trace.cons; (case h => exact o_move rfl)); (apply Trace.cons; (case h => (apply o_guardT rfl rfl; (case hS => intro hb; exact (Strips.keep Strips.nil)); (case h => intro hb; exact o_move rfl)))); (apply Trace.cons; (case h => (apply o_guardT rfl rfl; (case hS => intro hb; exact (Strips.strip rfl hb Strips.nil)); (case h => intro hb; exact o_int rfl rfl rfl)))); (apply Trace.cons; (case h => (first | (exact o_and rfl rfl) | (exact o_or rfl rfl)))); exact Trace.nil _)); (case hd => kernel_rfl); (case hnew => kernel_rfl))
    refine a_cond _ rfl (fun c2 => ?_) (fun c2 => ?_)
    · have hd : decU 0 0 xs = none := by
        simp only [Bool.and_eq_true, beq_iff_eq, decide_eq_true_eq] at c2
        rw [h5, decU, if_pos ⟨by omega, c2.2⟩]
      refine a_seq ?_
      (apply a_region; (case ht => ((apply Trace.cons; (case h => exact o_assign rfl)); (apply Trace.cons; (case h => exact o_assign rfl)); (apply Trace.cons; (case h => exact o_assign rfl)); exact Trace.nil _)); (case hd => kernel_rfl); (case hnew => kernel_rfl))
      refine a_ret ?_
      ((refine a_post (ResV.r3 (ResOk.tmp rfl) (ResOk.tmp rfl) (ResOk.tmp rfl)) (DLe.of_eq ?_) PostOk.nil.spec) <;> (simp [uintD, hd, constDV]))
    · have hnd : ¬ (k = 9 ∧ 1 < b) := by
        intro h
        have : ((k : Int) == 9 && decide (1 < b)) = true := by simp [h.1, h.2]
        rw [c2] at this; cases this
      have hpow : (128 : Int) ^ k ≤ 9223372036854775808 ∧ (k = 9 ∨ (128 : Int) ^ k ≤ 72057594037927936) := by
        have : k = 0 ∨ k = 1 ∨ k = 2 ∨ k = 3 ∨ k = 4 ∨ k = 5 ∨ k = 6 ∨ k = 7 ∨ k = 8 ∨ k = 9 := by omega
        rcases this with rfl | rfl | rfl | rfl | rfl | rfl | rfl | rfl | rfl | rfl <;> simp
      have hb0 := hby.1
      have hb1 := hby.2
      have hp0 : (0 : Int) < 128 ^ k := Int.pow_pos (by omega)
      have hm : 0 ≤ b % 128 ∧ b % 128 ≤ 127 := by omega
      have hsum : acc + b % 128 * 128 ^ k < 18446744073709551616 ∧ acc + b % 128 * 128 ^ k < 128 ^ (k + 1) ∧ 0 ≤ b % 128 * 128 ^ k := by
        have e : b % 128 * 128 ^ k ≤ 127 * 128 ^ k := Int.mul_le_mul_of_nonneg_right hm.2 (by omega)
        have e0 : 0 ≤ b % 128 * 128 ^ k := Int.mul_nonneg hm.1 (by omega)
        have e2 : (128 : Int) ^ (k + 1) = 128 * 128 ^ k := by rw [Int.pow_succ, Int.mul_comm]
        refine ⟨?_, by omega, e0⟩
        rcases hpow.2 with h9 | h9
        · have hb9 : b ≤ 1 := by
            rcases Int.lt_or_le 1 b with h | h
            · exact absurd ⟨h9, h⟩ hnd
            · exact h
          have : b % 128 = b := by omega
          rw [this]
          have : b * 128 ^ k ≤ 1 * 128 ^ k := Int.mul_le_mul_of_nonneg_right hb9 (by omega)
          omega
        · omega
      refine a_skip ?_
      refine a_seq ?_
      (apply a_region; (case ht => ((apply Trace.cons; (case h => exact o_move rfl)); (apply Trace.cons; (case h => exact o_move rfl)); (apply Trace.cons; (case h => exact o_int rfl rfl rfl)); (apply Trace.cons; (case h => (first | (exact o_conv rfl (by simp only [InR]; omega)) | (exact o_conv_w rfl)))); (apply Trace.cons; (case h => exact o_move rfl)); (apply Trace.cons; (case h => (first | (exact o_mul rfl rfl (by simp only [InR]; omega)) | (exact o_int rfl rfl rfl)))); (apply Trace.cons; (case h => exact o_shl rfl rfl (by omega))); (apply Trace.cons; (case h => exact o_int rfl rfl rfl)); (apply Trace.cons; (case h => exact o_assign rfl)); exact Trace.nil _)); (case hd => kernel_rfl); (case hnew => kernel_rfl))
      have ea := and_127 hby
      have es := shl_7 (c := b % 128) h2 hm.1 (by omega)
      have eo := or_add (a := acc) (c := b % 128) (i := k) h3 h4 hm.1 hsum.1
      refine a_imp (Imp.le (env' := [(7, u8s xs), (8, .int .i64 (xs.map (DV.int .u8)).length), (9, .int .i64 (k : Int)), (5, .int .i64 (k : Int)), (6, .int .u8 b), (2, .int .u64 (acc + b % 128 * 128 ^ k))]) (.cons rfl (DLe.refl _) (.cons rfl (DLe.refl _) (.cons rfl (DLe.refl _) (.cons rfl (DLe.refl _) (.cons rfl (DLe.refl _) (.cons rfl (DLe.of_eq ?_) .nil))))))) ?_
      · rw [ea, wrap_in (k := .u64) (n := b % 128) (by simp only [InR]; omega), es, eo]
      refine a_seq ?_
      (apply a_region; (case ht => ((apply Trace.cons; (case h => exact o_move rfl)); (apply Trace.cons; (case h => exact o_shr rfl rfl (by omega))); (apply Trace.cons; (case h => exact o_int rfl rfl rfl)); exact Trace.nil _)); (case hd => kernel_rfl); (case hnew => kernel_rfl))
      refine a_cond _ rfl (fun c3 => ?_) (fun c3 => ?_)
      · have hlt : b < 128 := by
          rw [shr_7] at c3
          simp only [beq_iff_eq] at c3
          omega
        refine a_seq ?_
        refine a_seq ?_
        (apply a_region; (case ht => ((apply Trace.cons; (case h => exact o_move rfl)); (apply Trace.cons; (case h => exact o_int rfl rfl rfl)); (apply Trace.cons; (case h => exact o_move rfl)); (apply Trace.cons; (case h => (apply o_guardT rfl rfl; (case hS => intro hb; exact (Strips.keep Strips.nil)); (case h => intro hb; exact o_move rfl)))); (apply Trace.cons; (case h => (apply o_guardT rfl rfl; (case hS => intro hb; exact (Strips.strip rfl hb Strips.nil)); (case h => intro hb; exact o_int rfl rfl rfl)))); (apply Trace.cons; (case h => (first | (exact o_and rfl rfl) | (exact o_or rfl rfl)))); exact Trace.nil _)); (case hd => kernel_rfl); (case hnew => kernel_rfl))
        refine a_cond _ rfl (fun c4 => ?_) (fun c4 => ?_)
        · have hd : decU 0 0 xs = none := by
            simp only [Bool.and_eq_true, beq_iff_eq, decide_eq_true_eq] at c4
            rw [h5, decU, if_neg hnd, if_pos hlt, if_pos ⟨c4.1, by omega⟩]
          refine a_seq ?_
          (apply a_region; (case ht => ((apply Trace.cons; (case h => exact o_assign rfl)); (apply Trace.cons; (case h => exact o_assign rfl)); (apply Trace.cons; (case h => exact o_assign rfl)); exact Trace.nil _)); (case hd => kernel_rfl); (case hnew => kernel_rfl))
          refine a_ret ?_
          ((refine a_post (ResV.r3 (ResOk.tmp rfl) (ResOk.tmp rfl) (ResOk.tmp rfl)) (DLe.of_eq ?_) PostOk.nil.spec) <;> (simp [uintD, hd, constDV]))
        · have hn0 : ¬ (b = 0 ∧ 0 < k) := by
            intro h
            have : ((b == 0) && decide (0 < (k : Int))) = true := by simp [h.1, h.2]
            rw [c4] at this; cases this
          have hd : decU 0 0 xs = some (acc + b % 128 * 128 ^ k, k + 1) := by
            rw [h5, decU, if_neg hnd, if_pos hlt, if_neg hn0]
          refine a_skip ?_
          refine a_seq ?_
          (apply a_region; (case ht => ((apply Trace.cons; (case h => exact o_move rfl)); (apply Trace.cons; (case h => exact o_move rfl)); (apply Trace.cons; (case h => (first | (exact o_add rfl rfl (by simp only [InR]; omega)) | (exact o_int rfl rfl rfl)))); (apply Trace.cons; (case h => exact o_assign rfl)); (apply Trace.cons; (case h => exact o_assign rfl)); (apply Trace.cons; (case h => exact o_assign rfl)); exact Trace.nil _)); (case hd => kernel_rfl); (case hnew => kernel_rfl))
          refine a_ret ?_
          ((refine a_post (ResV.r3 (ResOk.tmp rfl) (ResOk.tmp rfl) (ResOk.tmp rfl)) (DLe.of_eq ?_) PostOk.nil.spec) <;> (simp [uintD, hd, constDV]))
      · have hge : ¬ b < 128 := by
          rw [shr_7] at c3
          intro h
          have : (b / 128 == 0) = true := by simp only [beq_iff_eq]; omega
          rw [c3] at this; cases this
        have h9 : k < 9 := by
          rcases Nat.lt_or_ge k 9 with h | h
          · exact h
          · exact absurd ⟨by omega, by omega⟩ hnd
        refine a_skip ?_
        (apply a_region; (case ht => ((apply Trace.cons; (case h => (first | (exact o_add rfl rfl (by simp only [InR]; omega)) | (exact o_int rfl rfl rfl)))); (apply Trace.cons; (case h => exact o_move rfl)); exact Trace.nil _)); (case hd => kernel_rfl); (case hnew => kernel_rfl))
        refine QLoop.next (k + 1, acc + b % 128 * 128 ^ k) ⟨by simp only; omega, by simp only; omega, by simp only; omega, hsum.2.1, ?_⟩ (by simp only; omega) (Imp.le (.cons rfl (DLe.refl _) (.cons rfl (DLe.refl _) (.cons rfl (DLe.of_eq ?_) (.cons rfl (DLe.refl _) .nil)))))
        · rw [h5, decU, if_neg hnd, if_neg hge]
        · simp
  · have hd : decU 0 0 xs = none := by
      simp only [List.length_map, decide_eq_false_iff_not] at c1
      have : k = xs.length := by omega
      rw [h5, this, List.drop_length]; rfl
    refine a_exit ?_
    refine a_seq ?_
    (apply a_region; (case ht => ((apply Trace.cons; (case h => exact o_assign rfl)); (apply Trace.cons; (case h => exact o_assign rfl)); (apply Trace.cons; (case h => exact o_assign rfl)); exact Trace.nil _)); (case hd => kernel_rfl); (case hnew => kernel_rfl))
    refine a_ret ?_
    ((refine a_post (ResV.r3 (ResOk.tmp rfl) (ResOk.tmp rfl) (ResOk.tmp rfl)) (DLe.of_eq ?_) PostOk.nil.spec) <;> (simp [uintD, hd, constDV]))
end Go.Proofs.YtepkcbalmjnhpaaGreat
