/-
  Walk of record.readEvent.
-/
import Derived.Test.YtepkcbalmjnhpaaGreatRdC
set_option maxRecDepth 100000
set_option maxHeartbeats 1000000
set_option linter.unusedVariables false
set_option linter.unusedSimpArgs false
namespace Go.Proofs.YtepkcbalmjnhpaaGreat
open Go.RowKit
def evD (e : Ev) : List DV := [.int .i64 e.tick, .int .i64 e.comp, .int .u8 e.kind, .int .i64 e.peer, .int .i64 e.n, .int .i64 e.copy, .int .i64 e.handler, .int .i64 e.d, .sl 1 (e.args.map (.int .i64))]
def Rd.ints : Nat → Rd → List Int × Rd
  | 0, r => ([], r)
  | n + 1, r => (r.int.1 :: (ints n r.int.2).1, (ints n r.int.2).2)
def M31 : Int := 2147483647
def Rd.event (c : Int) (r : Rd) : Ev × Rd :=
  let p1 := r.uint M31
  let p2 := p1.2.uint 255
  let p3 := p2.2.uint M31
  let p4 := p3.2.uint M31
  let p5 := p4.2.uint M31
  let p6 := p5.2.uint M31
  let p7 := p6.2.int
  let p8 := p7.2.uint 4
  let p9 := p8.2.ints p8.1.toNat
  (⟨p1.1, c, p2.1, p3.1, p4.1, p5.1, p6.1, p7.1, p9.1⟩, p9.2)
theorem RdOk.drop {xs : List Int} {e e' : Int} (h : RdOk ⟨xs, e⟩) (n : Nat) : RdOk ⟨xs.drop n, e'⟩ := ⟨byt_drop h.byt n, by have := h.len; simp at this ⊢; omega⟩
theorem RdOk.err {xs : List Int} {e e' : Int} (h : RdOk ⟨xs, e⟩) : RdOk ⟨xs, e'⟩ := ⟨h.byt, h.len⟩
theorem RdOk.uint {r : Rd} (h : RdOk r) (m : Int) : RdOk (r.uint m).2 := by
  obtain ⟨xs, e⟩ := r
  unfold Rd.uint
  split
  · exact h
  · split
    · exact h.err
    · split
      · exact h.err
      · exact h.drop _
theorem RdOk.int {r : Rd} (h : RdOk r) : RdOk r.int.2 := by
  obtain ⟨xs, e⟩ := r
  unfold Rd.int
  split
  · exact h
  · split
    · exact h.err
    · exact h.drop _
theorem RdOk.byte {r : Rd} (h : RdOk r) : RdOk r.byte.2 := by
  obtain ⟨xs, e⟩ := r
  unfold Rd.byte
  split
  · exact h
  · cases xs with
    | nil => exact h.err
    | cons b rest =>
      have := h.drop (e' := e) 1
      simpa using this
theorem uint_range {r : Rd} (h : RdOk r) {m : Int} (hm : 0 ≤ m) : 0 ≤ (r.uint m).1 ∧ (r.uint m).1 ≤ m := by
  obtain ⟨xs, e⟩ := r
  unfold Rd.uint
  split
  · exact ⟨Int.le_refl _, hm⟩
  · split
    · exact ⟨Int.le_refl _, hm⟩
    · rename_i v n hd
      have := decU_u64 xs 0 0 v n h.byt (by omega) (by omega) (by simp) hd
      split
      · exact ⟨Int.le_refl _, hm⟩
      · exact ⟨this.1, by simp only; omega⟩
/-- nil in a cell of a block is an empty row of the call's own -/
theorem Imp.nilCell {σ : AS} {id rid j : Nat} {T : TypeId} {ds : List DV} (E sz : Nat) (hh : hget σ.heap id = some (.blk T ds)) (hj : ds[j]? = some .nils) (hi : memB rid σ.used = false) (hne : Nat.beq rid id = false) :
    Imp σ ⟨σ.env, (id, some (.blk T (ds.set j (.row rid)))) :: (rid, some (.row E sz [])) :: σ.heap, rid :: σ.used⟩ := fun C F γ a w hs => by
  have hn : rid ∉ σ.used := fun h => by
    have : memB rid σ.used = true := List.any_eq_true.2 ⟨rid, h, by simp⟩
    rw [hi] at this; cases this
  have hrid : rid ≠ id := fun e => by subst e; simp at hne
  have hle := Gam.up_le (.slice none 0 0) (hs.ws.fresh hn)
  have W := hs.ws.add hn (e0 := .row E sz []) (g := .slice none 0 0) ⟨[], own_nil _ _ _ _, by simp [RsE]⟩ (fun b hb => by simp [Value.pblk] at hb)
  have hh' : hget ((rid, some (.row E sz [])) :: σ.heap) id = some (.blk T ds) := by rw [hget_cons, if_neg hrid]; exact hh
  obtain ⟨g, hg, b, cs, rfl, hb, hl⟩ := W.ent id _ hh'
  have hl' : RsL F (γ.up rid (.slice none 0 0)) (ds.set j (.row rid)) cs.toList := by
    refine RsL.of_get (by rw [List.length_set]; exact hl.len) (fun i d hd => ?_)
    rw [List.getElem?_set] at hd
    by_cases hij : j = i
    · subst hij
      obtain ⟨v, q1, q2, q3⟩ := hl.get hj
      have hjl : j < ds.length := (List.getElem?_eq_some_iff.1 hj).1
      simp [hjl] at hd
      subst hd
      refine ⟨v, q1, q2, ?_⟩
      simp only [Rs] at q3 ⊢
      rw [q3]; exact Gam.up_same _ _ _
    · rw [if_neg hij] at hd; exact hl.get hd
  have W2 := W.put (id0 := id) (e0 := .blk T (ds.set j (.row rid))) hg ⟨b, cs, rfl, hb, hl'⟩ (fun b' hb' => by
    have ho := W.own id _ _ b' hh' hg hb'
    exact ⟨ho.1, ho.2, fun i e g hne hi hgi hbi => hne (W.apart i id e _ g _ b' hi hh' hgi hg hbi hb')⟩)
  exact ⟨F, _, fun t' d hd => ⟨(hs.env t' d hd).1, (hs.env t' d hd).2.mono (FLe.refl _) hle⟩, W2, hs.size, hs.defers⟩
theorem HLe.of_eq {e e' : HE} (h : e = e') : HLe e e' := h ▸ .refl e
def bxE : HE := .blk 163 [.ref 100000 0]

theorem num_c (r : Rd) (hr : RdOk r) : ACall Tryz.prog 153 ⟨[.ref 100001 0], [(100001, some bxE), (100000, some (rdE r))], .int .i64 (r.uint M31).1, [(100000, some (rdE (r.uint M31).2)), (100001, some bxE)], []⟩ := by
  have h1 := rUint_c r M31 hr ⟨by decide, by decide⟩
  have h2 := uint_range hr (m := M31) (by decide)
  have h3 : M31 = 2147483647 := rfl
  generalize r.uint M31 = p at *
  obtain ⟨v, r'⟩ := p
  refine ACall.body Tryz.func153 Tryz.ntmps153 rfl rfl rfl rfl ?_
  (refine a_seq ?_; (apply a_region; (case ht => ((apply Trace.cons; (case h => exact o_assign rfl)); exact Trace.nil _)); (case hd => kernel_rfl); (case hnew => kernel_rfl)); refine a_seq ?_; (apply a_region; (case ht => ((apply Trace.cons; (case h => (first | (exact o_callN (fun _ => 100000) 1 h1 rfl (DLeL.refl _) (PreOk.cons rfl PreOk.nil) rfl RoOk.nil) | (exact o_load_s rfl rfl rfl) | (exact o_load_es rfl rfl) | (exact o_load_ps rfl rfl rfl rfl rfl)))); (apply Trace.cons; (case h => exact o_callN (fun _ => 100000) 1 h1 rfl (DLeL.refl _) (PreOk.cons rfl PreOk.nil) rfl RoOk.nil)); (apply Trace.cons; (case h => (first | (exact o_callN (fun _ => 100000) 1 h1 rfl (DLeL.refl _) (PreOk.cons rfl PreOk.nil) rfl RoOk.nil) | (exact o_conv rfl (by simp only [InR]; omega)) | (exact o_conv_w rfl)))); (apply Trace.cons; (case h => exact o_assign rfl)); exact Trace.nil _)); (case hd => kernel_rfl); (case hnew => kernel_rfl)); refine a_ret ?_; ((refine a_post (ResV.r1 (ResOk.tmp rfl)) (DLe.of_eq ?_) (PostOk.consE rfl ?_ (PostOk.consE rfl ?_ PostOk.nil)).spec) <;> ((first | rfl | simp))))
theorem ints_step (cnt k : Nat) (hk : k < cnt) (r : Rd) (l : List Int) (R : List Int × Rd) (h : R = (l ++ (r.ints (cnt - k)).1, (r.ints (cnt - k)).2)) : R = (l ++ [r.int.1] ++ (r.int.2.ints (cnt - (k + 1))).1, (r.int.2.ints (cnt - (k + 1))).2) := by
  obtain ⟨m, hm⟩ : ∃ m, cnt - k = m + 1 := ⟨cnt - k - 1, by omega⟩
  have hm2 : cnt - (k + 1) = m := by omega
  rw [h, hm, hm2, Rd.ints]; simp
def fB : Nat → Nat := fun i => bif Nat.beq i 100001 then 2 else 100000

theorem readEvent_c (c : Int) (r : Rd) (hr : RdOk r) : ACall Tryz.prog 119 ⟨[.ref 100000 0, .int .i64 c], [(100000, some (rdE r))], .agg (evD (r.event c).1), [(100000, some (rdE (r.event c).2))], []⟩ := by
  have hev : r.event c = (let p1 := r.uint M31
    let p2 := p1.2.uint 255
    let p3 := p2.2.uint M31
    let p4 := p3.2.uint M31
    let p5 := p4.2.uint M31
    let p6 := p5.2.uint M31
    let p7 := p6.2.int
    let p8 := p7.2.uint 4
    let p9 := p8.2.ints p8.1.toNat
    (⟨p1.1, c, p2.1, p3.1, p4.1, p5.1, p6.1, p7.1, p9.1⟩, p9.2)) := rfl
  simp only at hev
  have k1 := num_c r hr
  have o1 := hr.uint M31
  generalize r.uint M31 = q1 at *
  obtain ⟨v1, r1⟩ := q1
  have k2 := rUint_c r1 255 o1 ⟨by decide, by decide⟩
  have b2 := uint_range o1 (m := 255) (by decide)
  have o2 := o1.uint 255
  simp only at hev
  generalize r1.uint 255 = q2 at *
  obtain ⟨v2, r2⟩ := q2
  have k3 := num_c r2 o2
  have o3 := o2.uint M31
  simp only at hev
  generalize r2.uint M31 = q3 at *
  obtain ⟨v3, r3⟩ := q3
  have k4 := num_c r3 o3
  have o4 := o3.uint M31
  simp only at hev
  generalize r3.uint M31 = q4 at *
  obtain ⟨v4, r4⟩ := q4
  have k5 := num_c r4 o4
  have o5 := o4.uint M31
  simp only at hev
  generalize r4.uint M31 = q5 at *
  obtain ⟨v5, r5⟩ := q5
  have k6 := num_c r5 o5
  have o6 := o5.uint M31
  simp only at hev
  generalize r5.uint M31 = q6 at *
  obtain ⟨v6, r6⟩ := q6
  have k7 := rInt_c r6 o6
  have o7 := o6.int
  simp only at hev
  generalize r6.int = q7 at *
  obtain ⟨v7, r7⟩ := q7
  have k8 := rUint_c r7 4 o7 ⟨by decide, by decide⟩
  have b8 := uint_range o7 (m := 4) (by decide)
  have o8 := o7.uint 4
  simp only at hev
  generalize r7.uint 4 = q8 at *
  obtain ⟨v8, r8⟩ := q8
  simp only at hev k1 k2 k3 k4 k5 k6 k7 k8 o1 o2 o3 o4 o5 o6 o7 o8 b2 b8
  obtain ⟨cnt, rfl⟩ : ∃ cnt : Nat, v8 = cnt := ⟨v8.toNat, by omega⟩
  rw [Int.toNat_natCast] at hev
  rw [hev]
  clear hev
  refine ACall.body Tryz.func119 Tryz.ntmps119 rfl rfl rfl rfl ?_
  refine a_seq ?_
  (apply a_region; (case ht => ((apply Trace.cons; (case h => exact o_box rfl rfl)); (apply Trace.cons; (case h => exact o_alloc rfl)); exact Trace.nil _)); (case hd => kernel_rfl); (case hnew => kernel_rfl))
  refine a_seq ?_
  (apply a_region; (case ht => ((apply Trace.cons; (case h => exact o_makeFunc rfl)); (apply Trace.cons; (case h => exact o_assign rfl)); exact Trace.nil _)); (case hd => kernel_rfl); (case hnew => kernel_rfl))
  refine a_seq ?_
  (apply a_draw mixed; (case ht => ((apply Trace.cons; (case h => exact o_move rfl)); (apply Trace.cons; (case h => exact o_move rfl)); (apply Trace.cons; (case h => (first | (exact o_callV fB 1 k1 rfl rfl (DLeL.refl _) (PreOk.cons rfl (PreOk.cons rfl PreOk.nil)) rfl (RoOk.cons rfl RoOk.nil)) | (exact o_callN (fun _ => 100000) 1 k2 rfl (DLeL.refl _) (PreOk.cons rfl PreOk.nil) rfl RoOk.nil)))); (apply Trace.cons; (case h => (first | (exact o_callV fB 1 k1 rfl rfl (DLeL.refl _) (PreOk.cons rfl (PreOk.cons rfl PreOk.nil)) rfl (RoOk.cons rfl RoOk.nil)) | (exact o_callN (fun _ => 100000) 1 k2 rfl (DLeL.refl _) (PreOk.cons rfl PreOk.nil) rfl RoOk.nil) | (exact o_load_s rfl rfl rfl) | (exact o_load_es rfl rfl) | (exact o_load_ps rfl rfl rfl rfl rfl)))); (apply Trace.cons; (case h => (first | (exact o_callV fB 1 k1 rfl rfl (DLeL.refl _) (PreOk.cons rfl (PreOk.cons rfl PreOk.nil)) rfl (RoOk.cons rfl RoOk.nil)) | (exact o_callN (fun _ => 100000) 1 k2 rfl (DLeL.refl _) (PreOk.cons rfl PreOk.nil) rfl RoOk.nil)))); (apply Trace.cons; (case h => (first | (exact o_callV fB 1 k1 rfl rfl (DLeL.refl _) (PreOk.cons rfl (PreOk.cons rfl PreOk.nil)) rfl (RoOk.cons rfl RoOk.nil)) | (exact o_callN (fun _ => 100000) 1 k2 rfl (DLeL.refl _) (PreOk.cons rfl PreOk.nil) rfl RoOk.nil) | (exact o_conv rfl (by simp only [InR]; omega)) | (exact o_conv_w rfl)))); (apply Trace.cons; (case h => (first | (exact o_callV fB 1 k1 rfl rfl (DLeL.refl _) (PreOk.cons rfl (PreOk.cons rfl PreOk.nil)) rfl (RoOk.cons rfl RoOk.nil)) | (exact o_callN (fun _ => 100000) 1 k2 rfl (DLeL.refl _) (PreOk.cons rfl PreOk.nil) rfl RoOk.nil) | (exact o_build rfl rfl rfl)))); (apply Trace.cons; (case h => exact o_alloc rfl)); (apply Trace.cons; (case h => (first | (exact o_callV fB 1 k1 rfl rfl (DLeL.refl _) (PreOk.cons rfl (PreOk.cons rfl PreOk.nil)) rfl (RoOk.cons rfl RoOk.nil)) | (exact o_callN (fun _ => 100000) 1 k2 rfl (DLeL.refl _) (PreOk.cons rfl PreOk.nil) rfl RoOk.nil) | (exact o_store rfl rfl rfl rfl rfl rfl rfl)))); exact Trace.nil _)); (case hk => kernel_rfl); (case hd => kernel_rfl); (case hnew => kernel_rfl))
  refine a_seq ?_
  (apply a_region; (case ht => ((apply Trace.cons; (case h => exact o_move rfl)); (apply Trace.cons; (case h => (first | (exact o_callV fB 1 k3 rfl rfl (DLeL.refl _) (PreOk.cons rfl (PreOk.cons rfl PreOk.nil)) rfl (RoOk.cons rfl RoOk.nil)) | (exact o_callV fB 1 k4 rfl rfl (DLeL.refl _) (PreOk.cons rfl (PreOk.cons rfl PreOk.nil)) rfl (RoOk.cons rfl RoOk.nil)) | (exact o_callV fB 1 k5 rfl rfl (DLeL.refl _) (PreOk.cons rfl (PreOk.cons rfl PreOk.nil)) rfl (RoOk.cons rfl RoOk.nil)) | (exact o_callV fB 1 k6 rfl rfl (DLeL.refl _) (PreOk.cons rfl (PreOk.cons rfl PreOk.nil)) rfl (RoOk.cons rfl RoOk.nil))))); (apply Trace.cons; (case h => exact o_move rfl)); (apply Trace.cons; (case h => (first | (exact o_callV fB 1 k3 rfl rfl (DLeL.refl _) (PreOk.cons rfl (PreOk.cons rfl PreOk.nil)) rfl (RoOk.cons rfl RoOk.nil)) | (exact o_callV fB 1 k4 rfl rfl (DLeL.refl _) (PreOk.cons rfl (PreOk.cons rfl PreOk.nil)) rfl (RoOk.cons rfl RoOk.nil)) | (exact o_callV fB 1 k5 rfl rfl (DLeL.refl _) (PreOk.cons rfl (PreOk.cons rfl PreOk.nil)) rfl (RoOk.cons rfl RoOk.nil)) | (exact o_callV fB 1 k6 rfl rfl (DLeL.refl _) (PreOk.cons rfl (PreOk.cons rfl PreOk.nil)) rfl (RoOk.cons rfl RoOk.nil))))); (apply Trace.cons; (case h => exact o_move rfl)); (apply Trace.cons; (case h => (first | (exact o_callV fB 1 k3 rfl rfl (DLeL.refl _) (PreOk.cons rfl (PreOk.cons rfl PreOk.nil)) rfl (RoOk.cons rfl RoOk.nil)) | (exact o_callV fB 1 k4 rfl rfl (DLeL.refl _) (PreOk.cons rfl (PreOk.cons rfl PreOk.nil)) rfl (RoOk.cons rfl RoOk.nil)) | (exact o_callV fB 1 k5 rfl rfl (DLeL.refl _) (PreOk.cons rfl (PreOk.cons rfl PreOk.nil)) rfl (RoOk.cons rfl RoOk.nil)) | (exact o_callV fB 1 k6 rfl rfl (DLeL.refl _) (PreOk.cons rfl (PreOk.cons rfl PreOk.nil)) rfl (RoOk.cons rfl RoOk.nil))))); (apply Trace.cons; (case h => exact o_move rfl)); (apply Trace.cons; (case h => (first | (exact o_callV fB 1 k3 rfl rfl (DLeL.refl _) (PreOk.cons rfl (PreOk.cons rfl PreOk.nil)) rfl (RoOk.cons rfl RoOk.nil)) | (exact o_callV fB 1 k4 rfl rfl (DLeL.refl _) (PreOk.cons rfl (PreOk.cons rfl PreOk.nil)) rfl (RoOk.cons rfl RoOk.nil)) | (exact o_callV fB 1 k5 rfl rfl (DLeL.refl _) (PreOk.cons rfl (PreOk.cons rfl PreOk.nil)) rfl (RoOk.cons rfl RoOk.nil)) | (exact o_callV fB 1 k6 rfl rfl (DLeL.refl _) (PreOk.cons rfl (PreOk.cons rfl PreOk.nil)) rfl (RoOk.cons rfl RoOk.nil))))); (apply Trace.cons; (case h => (first | (exact o_fieldAddr rfl) | (exact o_fieldAddr_e rfl rfl) | (exact o_fieldAddr_p rfl)))); (apply Trace.cons; (case h => (first | (exact o_callV fB 1 k3 rfl rfl (DLeL.refl _) (PreOk.cons rfl (PreOk.cons rfl PreOk.nil)) rfl (RoOk.cons rfl RoOk.nil)) | (exact o_callV fB 1 k4 rfl rfl (DLeL.refl _) (PreOk.cons rfl (PreOk.cons rfl PreOk.nil)) rfl (RoOk.cons rfl RoOk.nil)) | (exact o_callV fB 1 k5 rfl rfl (DLeL.refl _) (PreOk.cons rfl (PreOk.cons rfl PreOk.nil)) rfl (RoOk.cons rfl RoOk.nil)) | (exact o_callV fB 1 k6 rfl rfl (DLeL.refl _) (PreOk.cons rfl (PreOk.cons rfl PreOk.nil)) rfl (RoOk.cons rfl RoOk.nil)) | (exact o_store_s rfl rfl rfl rfl rfl)))); (apply Trace.cons; (case h => (first | (exact o_fieldAddr rfl) | (exact o_fieldAddr_e rfl rfl) | (exact o_fieldAddr_p rfl)))); (apply Trace.cons; (case h => (first | (exact o_callV fB 1 k3 rfl rfl (DLeL.refl _) (PreOk.cons rfl (PreOk.cons rfl PreOk.nil)) rfl (RoOk.cons rfl RoOk.nil)) | (exact o_callV fB 1 k4 rfl rfl (DLeL.refl _) (PreOk.cons rfl (PreOk.cons rfl PreOk.nil)) rfl (RoOk.cons rfl RoOk.nil)) | (exact o_callV fB 1 k5 rfl rfl (DLeL.refl _) (PreOk.cons rfl (PreOk.cons rfl PreOk.nil)) rfl (RoOk.cons rfl RoOk.nil)) | (exact o_callV fB 1 k6 rfl rfl (DLeL.refl _) (PreOk.cons rfl (PreOk.cons rfl PreOk.nil)) rfl (RoOk.cons rfl RoOk.nil)) | (exact o_store_s rfl rfl rfl rfl rfl)))); (apply Trace.cons; (case h => (first | (exact o_fieldAddr rfl) | (exact o_fieldAddr_e rfl rfl) | (exact o_fieldAddr_p rfl)))); (apply Trace.cons; (case h => (first | (exact o_callV fB 1 k3 rfl rfl (DLeL.refl _) (PreOk.cons rfl (PreOk.cons rfl PreOk.nil)) rfl (RoOk.cons rfl RoOk.nil)) | (exact o_callV fB 1 k4 rfl rfl (DLeL.refl _) (PreOk.cons rfl (PreOk.cons rfl PreOk.nil)) rfl (RoOk.cons rfl RoOk.nil)) | (exact o_callV fB 1 k5 rfl rfl (DLeL.refl _) (PreOk.cons rfl (PreOk.cons rfl PreOk.nil)) rfl (RoOk.cons rfl RoOk.nil)) | (exact o_callV fB 1 k6 rfl rfl (DLeL.refl _) (PreOk.cons rfl (PreOk.cons rfl PreOk.nil)) rfl (RoOk.cons rfl RoOk.nil)) | (exact o_store_s rfl rfl rfl rfl rfl)))); (apply Trace.cons; (case h => (first | (exact o_fieldAddr rfl) | (exact o_fieldAddr_e rfl rfl) | (exact o_fieldAddr_p rfl)))); (apply Trace.cons; (case h => (first | (exact o_callV fB 1 k3 rfl rfl (DLeL.refl _) (PreOk.cons rfl (PreOk.cons rfl PreOk.nil)) rfl (RoOk.cons rfl RoOk.nil)) | (exact o_callV fB 1 k4 rfl rfl (DLeL.refl _) (PreOk.cons rfl (PreOk.cons rfl PreOk.nil)) rfl (RoOk.cons rfl RoOk.nil)) | (exact o_callV fB 1 k5 rfl rfl (DLeL.refl _) (PreOk.cons rfl (PreOk.cons rfl PreOk.nil)) rfl (RoOk.cons rfl RoOk.nil)) | (exact o_callV fB 1 k6 rfl rfl (DLeL.refl _) (PreOk.cons rfl (PreOk.cons rfl PreOk.nil)) rfl (RoOk.cons rfl RoOk.nil)) | (exact o_store_s rfl rfl rfl rfl rfl)))); exact Trace.nil _)); (case hd => kernel_rfl); (case hnew => kernel_rfl))
  refine a_seq ?_
  (apply a_region; (case ht => ((apply Trace.cons; (case h => (first | (exact o_callN (fun _ => 100000) 1 k7 rfl (DLeL.refl _) (PreOk.cons rfl PreOk.nil) rfl RoOk.nil) | (exact o_load_s rfl rfl rfl) | (exact o_load_es rfl rfl) | (exact o_load_ps rfl rfl rfl rfl rfl)))); (apply Trace.cons; (case h => exact o_callN (fun _ => 100000) 1 k7 rfl (DLeL.refl _) (PreOk.cons rfl PreOk.nil) rfl RoOk.nil)); (apply Trace.cons; (case h => (first | (exact o_fieldAddr rfl) | (exact o_fieldAddr_e rfl rfl) | (exact o_fieldAddr_p rfl)))); (apply Trace.cons; (case h => (first | (exact o_callN (fun _ => 100000) 1 k7 rfl (DLeL.refl _) (PreOk.cons rfl PreOk.nil) rfl RoOk.nil) | (exact o_store_s rfl rfl rfl rfl rfl)))); exact Trace.nil _)); (case hd => kernel_rfl); (case hnew => kernel_rfl))
  refine a_seq ?_
  refine a_seq ?_
  (apply a_region; (case ht => ((apply Trace.cons; (case h => (first | (exact o_callN (fun _ => 100000) 1 k8 rfl (DLeL.refl _) (PreOk.cons rfl PreOk.nil) rfl RoOk.nil) | (exact o_load_s rfl rfl rfl) | (exact o_load_es rfl rfl) | (exact o_load_ps rfl rfl rfl rfl rfl)))); (apply Trace.cons; (case h => exact o_callN (fun _ => 100000) 1 k8 rfl (DLeL.refl _) (PreOk.cons rfl PreOk.nil) rfl RoOk.nil)); (apply Trace.cons; (case h => exact o_move rfl)); exact Trace.nil _)); (case hd => kernel_rfl); (case hnew => kernel_rfl))
  refine a_block ?_
  refine a_imp (Imp.nilCell (id := 6) (rid := 900) (j := 8) 2 1 rfl rfl rfl rfl) ?_
  refine a_loop (fun p : List Int × Rd => ⟨[(2, .ref 2 0), (4, .ref 4 0), (6, .ref 6 0), (31, .int .u64 (cnt : Int)), (32, .int .u64 (p.1.length : Int))],
      [(2, some bxE), (4, some (.blk 50 (evD ev0))), (6, some (.blk 50 [.int .i64 v1, .int .i64 c, .int .u8 v2, .int .i64 v3, .int .i64 v4, .int .i64 v5, .int .i64 v6, .int .i64 v7, .row 900])), (900, some (.row 2 1 (p.1.map (DV.int .i64)))), (100000, some (rdE p.2))], [2, 4, 6, 900, 100000]⟩)
    (fun p => p.1.length ≤ cnt ∧ RdOk p.2 ∧ r8.ints cnt = (p.1 ++ (p.2.ints (cnt - p.1.length)).1, (p.2.ints (cnt - p.1.length)).2)) (fun p => cnt - p.1.length) ([], r8) ?_ ?_ ?_
  · exact Imp.of (fun i => i) (.cons rfl (DLe.refl _) (.cons rfl (DLe.refl _) (.cons rfl (DLe.refl _) (.cons rfl (DLe.refl _) (.cons rfl (DLe.refl _) .nil))))) (.cons rfl (.refl _) (.cons rfl (.blk (.cons (DLe.refl _) (.cons (DLe.refl _) (.cons (DLe.refl _) (.cons (DLe.refl _) (.cons (DLe.refl _) (.cons (DLe.refl _) (.cons (DLe.refl _) (.cons (DLe.refl _) (.cons (DLe.nils 1) .nil)))))))))) (.cons rfl (.refl _) (.cons rfl (.refl _) (.cons rfl (.refl _) .nil))))) rfl rfl rfl
  · exact ⟨by simp, o8, by simp⟩
  rintro ⟨l, q⟩ ⟨i1, i2, i3⟩
  simp only at i1 i2 i3
  dsimp only
  refine a_seq ?_
  (apply a_region; (case ht => ((apply Trace.cons; (case h => exact o_int rfl rfl rfl)); exact Trace.nil _)); (case hd => kernel_rfl); (case hnew => kernel_rfl))
  refine a_seq ?_
  refine a_cond _ rfl (fun c1 => ?_) (fun c1 => ?_)
  · have hlt : l.length < cnt := by simp only [decide_eq_true_eq] at c1; omega
    have kq := rInt_c q i2
    have oq := i2.int
    have hst := ints_step cnt l.length hlt q l _ i3
    generalize q.int = pq at *
    obtain ⟨x, q'⟩ := pq
    refine a_skip ?_
    refine a_seq ?_
    refine a_block ?_
    (apply a_draw mixed; (case ht => ((apply Trace.cons; (case h => (first | (exact o_fieldAddr rfl) | (exact o_fieldAddr_e rfl rfl) | (exact o_fieldAddr_p rfl)))); (apply Trace.cons; (case h => (first | (exact o_callN (fun _ => 100000) 1 kq rfl (DLeL.refl _) (PreOk.cons rfl PreOk.nil) rfl RoOk.nil) | (exact o_append rfl rfl rfl (Src.row rfl) (by simp; omega)) | (exact o_load_s rfl rfl rfl) | (exact o_load_es rfl rfl) | (exact o_load_ps rfl rfl rfl rfl rfl)))); (apply Trace.cons; (case h => (first | (exact o_callN (fun _ => 100000) 1 kq rfl (DLeL.refl _) (PreOk.cons rfl PreOk.nil) rfl RoOk.nil) | (exact o_append rfl rfl rfl (Src.row rfl) (by simp; omega)) | (exact o_load_s rfl rfl rfl) | (exact o_load_es rfl rfl) | (exact o_load_ps rfl rfl rfl rfl rfl)))); (apply Trace.cons; (case h => (first | (exact o_callN (fun _ => 100000) 1 kq rfl (DLeL.refl _) (PreOk.cons rfl PreOk.nil) rfl RoOk.nil) | (exact o_append rfl rfl rfl (Src.row rfl) (by simp; omega))))); (apply Trace.cons; (case h => (first | (exact o_callN (fun _ => 100000) 1 kq rfl (DLeL.refl _) (PreOk.cons rfl PreOk.nil) rfl RoOk.nil) | (exact o_append rfl rfl rfl (Src.row rfl) (by simp; omega)) | (exact o_buildSlice rfl rfl rfl rfl rfl rfl)))); (apply Trace.cons; (case h => (first | (exact o_callN (fun _ => 100000) 1 kq rfl (DLeL.refl _) (PreOk.cons rfl PreOk.nil) rfl RoOk.nil) | (exact o_append rfl rfl rfl (Src.row rfl) (by simp; omega)) | (exact o_append rfl rfl rfl Src.sl (by simp; omega)) | (exact o_append rfl rfl rfl (Src.row rfl) (by simp; omega)) | (exact o_append_n rfl rfl Src.sl (by simp; omega)) | (exact o_append_n rfl rfl (Src.row rfl) (by simp; omega))))); (apply Trace.cons; (case h => (first | (exact o_fieldAddr rfl) | (exact o_fieldAddr_e rfl rfl) | (exact o_fieldAddr_p rfl)))); (apply Trace.cons; (case h => (first | (exact o_callN (fun _ => 100000) 1 kq rfl (DLeL.refl _) (PreOk.cons rfl PreOk.nil) rfl RoOk.nil) | (exact o_append rfl rfl rfl (Src.row rfl) (by simp; omega)) | (exact o_store_s rfl rfl rfl rfl rfl)))); exact Trace.nil _)); (case hk => kernel_rfl); (case hd => kernel_rfl); (case hnew => kernel_rfl))
    (apply a_region; (case ht => ((apply Trace.cons; (case h => (first | (exact o_add rfl rfl (by simp only [InR]; omega)) | (exact o_int rfl rfl rfl)))); (apply Trace.cons; (case h => exact o_move rfl)); exact Trace.nil _)); (case hd => kernel_rfl); (case hnew => kernel_rfl))
    refine QLoop.next (l ++ [x], q') ⟨by simp; omega, oq, ?_⟩ (by simp; omega) (Imp.of (fun i => bif Nat.beq i 900 then 39 else i) (.cons rfl (DLe.refl _) (.cons rfl (DLe.refl _) (.cons rfl (DLe.refl _) (.cons rfl (DLe.refl _) (.cons rfl (DLe.of_eq ?_) .nil))))) (.cons rfl (.refl _) (.cons rfl (.refl _) (.cons rfl (.refl _) (.cons rfl (HLe.of_eq ?_) (.cons rfl (.refl _) .nil))))) rfl rfl rfl)
    · simp only [List.length_append, List.length_cons, List.length_nil, Nat.zero_add]; exact hst
    · simp [DV.ren]
    · simp [HE.ren, DV.ren]
  · have hlt : l.length = cnt := by simp only [decide_eq_false_iff_not] at c1; omega
    rw [hlt, Nat.sub_self] at i3
    simp only [Rd.ints, List.append_nil] at i3
    rw [i3]
    refine a_exit ?_
    refine a_imp (Imp.freeze (id := 900) rfl) ?_
    refine a_seq ?_
    (apply a_region; (case ht => ((apply Trace.cons; (case h => (first | (exact o_load_r rfl rfl rfl rfl) | (exact o_load_er rfl rfl rfl) | (exact o_load_pr rfl rfl rfl rfl rfl rfl)))); (apply Trace.cons; (case h => exact o_store rfl rfl rfl rfl rfl rfl rfl)); exact Trace.nil _)); (case hd => kernel_rfl); (case hnew => kernel_rfl))
    refine a_ret ?_
    ((refine a_post (ResV.r1 (ResOk.cell rfl rfl (.row _ CRow.h (Nat.le_of_ble_eq_true rfl) rfl))) (DLe.of_eq ?_) (PostOk.consE rfl ?_ PostOk.nil).spec) <;> (first | rfl | simp [constDV, layD, DV.cs, renL, DV.ren, HE.ren, u8s, rdE, List.set, List.take_of_length_le, evD]))
end Go.Proofs.YtepkcbalmjnhpaaGreat
