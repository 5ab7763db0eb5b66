/-
  Plain law: what is read from bytes gives these bytes again.
-/
import Derived.Test.YtepkcbalmjnhpaaGreatRdE
set_option linter.unusedVariables false
set_option linter.unusedSimpArgs false
namespace Go.Proofs.YtepkcbalmjnhpaaGreat
open Go.RowKit
theorem decU_put : ∀ (xs : List Int) (i : Nat) (acc v : Int) (n : Nat), (∀ b ∈ xs, Byt b) → decU i acc xs = some (v, n) →
    ∃ u, 0 ≤ u ∧ (0 < i → 0 < u) ∧ v = acc + u * 128 ^ i ∧ xs = putU u ++ xs.drop (n - i)
  | [], i, acc, v, n, _, h => by simp [decU] at h
  | b :: rest, i, acc, v, n, hx, h => by
    have hb := hx b (by simp)
    have hb0 := hb.1
    have hb1 := hb.2
    unfold decU at h
    split at h
    · cases h
    · split at h
      · rename_i hlt
        split at h
        · cases h
        · rename_i hz
          injection h with h; injection h with h1 h2
          refine ⟨b, hb0, fun hi => ?_, ?_, ?_⟩
          · rcases Int.lt_or_eq_of_le hb0 with h | h
            · exact h
            · exact absurd ⟨h.symm, hi⟩ hz
          · rw [← h1, Int.emod_eq_of_lt hb0 (by omega)]
          · rw [putU_small hlt, ← h2]
            have : i + 1 - i = 1 := by omega
            rw [this]; rfl
      · rename_i hge
        obtain ⟨u, q0, q1, q2, q3⟩ := decU_put rest (i + 1) _ v n (fun c hc => hx c (by simp [hc])) h
        have hle := decU_le rest (i + 1) _ v n h
        have hu := q1 (by omega)
        refine ⟨b % 128 + 128 * u, by omega, fun _ => by omega, ?_, ?_⟩
        · rw [q2, Int.pow_succ, Int.add_mul]
          have : u * (128 ^ i * 128) = 128 * u * 128 ^ i := by rw [Int.mul_comm (128 ^ i) 128, ← Int.mul_assoc, Int.mul_comm u 128]
          rw [this]; omega
        · rw [putU_big (by omega)]
          have e1 : (b % 128 + 128 * u) % 128 + 128 = b := by omega
          have e2 : (b % 128 + 128 * u) / 128 = u := by omega
          rw [e1, e2, List.cons_append]
          have e3 : n - i = (n - (i + 1)) + 1 := by omega
          rw [e3, List.drop_succ_cons, ← q3]
theorem dec_put {xs : List Int} {v : Int} {n : Nat} (hx : ∀ b ∈ xs, Byt b) (h : decU 0 0 xs = some (v, n)) : xs = putU v ++ xs.drop n := by
  obtain ⟨u, _, _, h1, h2⟩ := decU_put xs 0 0 v n hx h
  simp at h1
  rw [h1]; simpa using h2
theorem zig_unzig {u : Int} (h : U64 u) : zig (unzig u) = u ∧ I64 (unzig u) := by
  have h0 := h.1
  have h1 := h.2
  unfold zig unzig I64
  split <;> split <;> omega
theorem uint_ok {r : Rd} (hr : RdOk r) {m : Int} (h : (r.uint m).2.err = 0) : r.err = 0 ∧ r.xs = putU (r.uint m).1 ++ (r.uint m).2.xs := by
  obtain ⟨xs, e⟩ := r
  unfold Rd.uint at h ⊢
  by_cases he : e ≠ 0
  · rw [if_pos he] at h; exact absurd h he
  · have he' : e = 0 := Classical.not_not.1 he
    rw [if_neg he] at h ⊢
    cases hd : decU 0 0 xs with
    | none => rw [hd] at h; simp at h
    | some p =>
      obtain ⟨v, n⟩ := p
      rw [hd] at h
      simp only at h ⊢
      split at h
      · simp at h
      · rename_i hm
        rw [if_neg hm]
        exact ⟨he', dec_put hr.byt hd⟩
theorem int_ok {r : Rd} (hr : RdOk r) (h : r.int.2.err = 0) : r.err = 0 ∧ r.xs = putI r.int.1 ++ r.int.2.xs := by
  obtain ⟨xs, e⟩ := r
  unfold Rd.int at h ⊢
  by_cases he : e ≠ 0
  · rw [if_pos he] at h; exact absurd h he
  · have he' : e = 0 := Classical.not_not.1 he
    rw [if_neg he] at h ⊢
    cases hd : decU 0 0 xs with
    | none => rw [hd] at h; simp at h
    | some p =>
      obtain ⟨v, n⟩ := p
      have hu := decU_u64 xs 0 0 v n hr.byt (by omega) (by omega) (by simp) hd
      rw [hd] at h
      simp only at h ⊢
      refine ⟨he', ?_⟩
      rw [putI, (zig_unzig hu).1]
      exact dec_put hr.byt hd
theorem int_range {r : Rd} (hr : RdOk r) : I64 r.int.1 := by
  obtain ⟨xs, e⟩ := r
  unfold Rd.int
  split
  · exact ⟨by simp, by simp⟩
  · split
    · exact ⟨by simp, by simp⟩
    · rename_i v n hd
      exact (zig_unzig (decU_u64 xs 0 0 v n hr.byt (by omega) (by omega) (by simp) hd)).2
theorem byte_ok {r : Rd} (h : r.byte.2.err = 0) : r.err = 0 ∧ r.xs = r.byte.1 :: r.byte.2.xs := by
  obtain ⟨xs, e⟩ := r
  unfold Rd.byte at h ⊢
  by_cases he : e ≠ 0
  · rw [if_pos he] at h; exact absurd h he
  · have he' : e = 0 := Classical.not_not.1 he
    rw [if_neg he] at h ⊢
    cases xs with
    | nil => simp at h
    | cons b rest => exact ⟨he', rfl⟩
theorem ints_ok : ∀ (n : Nat) {r : Rd}, RdOk r → (r.ints n).2.err = 0 → r.err = 0 ∧ r.xs = (r.ints n).1.flatMap putI ++ (r.ints n).2.xs ∧ ∀ x ∈ (r.ints n).1, I64 x
  | 0, r, _, h => ⟨h, rfl, by simp [Rd.ints]⟩
  | n + 1, r, hr, h => by
    simp only [Rd.ints] at h ⊢
    obtain ⟨h1, h2, h3⟩ := ints_ok n hr.int h
    obtain ⟨k1, k2⟩ := int_ok hr h1
    refine ⟨k1, ?_, ?_⟩
    · rw [List.flatMap_cons, List.append_assoc, ← h2]; exact k2
    · intro x hx
      rcases List.mem_cons.1 hx with rfl | hx
      · exact int_range hr
      · exact h3 x hx
theorem event_ok {r : Rd} (hr : RdOk r) {c : Int} (h : (r.event c).2.err = 0) : r.err = 0 ∧ r.xs = evBytes (r.event c).1 ++ (r.event c).2.xs ∧ (I64 c → EvT (r.event c).1) := by
  unfold Rd.event at h ⊢
  simp only at h ⊢
  have o1 := hr.uint M31
  have o2 := o1.uint 255
  have o3 := o2.uint M31
  have o4 := o3.uint M31
  have o5 := o4.uint M31
  have o6 := o5.uint M31
  have o7 := o6.int
  have o8 := o7.uint 4
  obtain ⟨h9, e9, t9⟩ := ints_ok _ o8 h
  obtain ⟨h8, e8⟩ := uint_ok o7 h9
  obtain ⟨h7, e7⟩ := int_ok o6 h8
  obtain ⟨h6, e6⟩ := uint_ok o5 h7
  obtain ⟨h5, e5⟩ := uint_ok o4 h6
  obtain ⟨h4, e4⟩ := uint_ok o3 h5
  obtain ⟨h3, e3⟩ := uint_ok o2 h4
  obtain ⟨h2, e2⟩ := uint_ok o1 h3
  obtain ⟨h1, e1⟩ := uint_ok hr h2
  have m : M31 = 2147483647 := rfl
  have b1 := uint_range hr (m := M31) (by decide)
  have b2 := uint_range o1 (m := 255) (by decide)
  have b3 := uint_range o2 (m := M31) (by decide)
  have b4 := uint_range o3 (m := M31) (by decide)
  have b5 := uint_range o4 (m := M31) (by decide)
  have b6 := uint_range o5 (m := M31) (by decide)
  have b7 := int_range o6
  have b8 := uint_range o7 (m := 4) (by decide)
  refine ⟨h1, ?_, fun hc => ⟨?_, hc, b2, ?_, ?_, ?_, ?_, b7, t9⟩⟩
  · rw [e1, e2, e3, e4, e5, e6, e7, e8, e9]
    simp only [evBytes, evNums, List.flatMap_cons, List.flatMap_nil, ints_len, List.append_assoc, List.append_nil]
    rw [Int.toNat_of_nonneg b8.1]
  all_goals (unfold I64; simp only; omega)
theorem ents_ok : ∀ (n : Nat) (xs l : List Int) (t : Nat), (∀ b ∈ xs, Byt b) → ents n xs = some (l, t) → xs = l.flatMap putU ++ xs.drop t ∧ ∀ v ∈ l, U64 v
  | 0, xs, l, t, _, h => by
    simp only [ents, Option.some.injEq, Prod.mk.injEq] at h
    rw [← h.1, ← h.2]; simp
  | n + 1, xs, l, t, hx, h => by
    unfold ents at h
    cases hd : decU 0 0 xs with
    | none => rw [hd] at h; cases h
    | some p =>
      obtain ⟨v, m⟩ := p
      have hu := decU_u64 xs 0 0 v m hx (by omega) (by omega) (by simp) hd
      have hp := dec_put hx hd
      rw [hd] at h
      simp only at h
      cases he : ents n (xs.drop m) with
      | none => rw [he] at h; cases h
      | some q =>
        obtain ⟨l', t'⟩ := q
        rw [he] at h
        simp only [Option.some.injEq, Prod.mk.injEq] at h
        obtain ⟨k1, k2⟩ := ents_ok n _ l' t' (byt_drop hx m) he
        rw [← h.1, ← h.2]
        constructor
        · rw [List.flatMap_cons, List.append_assoc]
          rw [List.drop_drop] at k1
          rw [← k1]; exact hp
        · intro y hy
          rcases List.mem_cons.1 hy with rfl | hy
          · exact hu
          · exact k2 y hy
theorem clkOf_ents (l : List Int) : (List.range l.length).map (clkOf l) = l := by
  apply List.ext_getElem?
  intro i
  rw [List.getElem?_map]
  by_cases h : i < l.length
  · simp [h, clkOf]
  · rw [List.getElem?_eq_none (by simpa using h), List.getElem?_eq_none (by simpa using h)]; rfl
theorem clkR_ok {ys : List Int} {c : Nat → Int} {n : Nat} (hx : ∀ b ∈ ys, Byt b) (h : clkR ys = some (c, n)) : ys = clkBytes c ++ ys.drop n ∧ ∀ i, U64 (c i) := by
  unfold clkR at h
  cases ys with
  | nil => cases h
  | cons b rest =>
    have hb := hx b (by simp)
    simp only at h
    split at h
    · cases h
    · cases he : ents b.toNat rest with
      | none => rw [he] at h; cases h
      | some q =>
        obtain ⟨l, t⟩ := q
        have h1 := ents_le _ _ l t he
        obtain ⟨h2, h3⟩ := ents_ok _ _ l t (fun c hc => hx c (by simp [hc])) he
        rw [he] at h
        simp only at h
        split at h
        · rename_i hcl
          simp only [Option.some.injEq, Prod.mk.injEq] at h
          obtain ⟨rfl, rfl⟩ := h
          refine ⟨?_, clkOf_u h3⟩
          rw [clkBytes_eq, hcl, entB, ← h1.2, clkOf_ents, h1.2, Int.toNat_of_nonneg hb.1, Nat.add_comm, List.drop_succ_cons, List.cons_append, ← h2]
        · cases h
theorem fin_ok {r : Rd} (h : r.fin = 0) : r.err = 0 ∧ r.xs = [] := by
  unfold Rd.fin at h
  by_cases he : r.err ≠ 0
  · rw [if_pos he] at h; exact absurd h he
  · rw [if_neg he] at h
    split at h
    · exact ⟨Classical.not_not.1 he, by assumption⟩
    · cases h
theorem fin1_ok {r : Rd} {x y : Re} (h : fin1 r x = some y) : y = x ∧ r.err = 0 ∧ r.xs = [] ∧ validB x = true := by
  unfold fin1 at h
  split at h
  · cases h
  · rename_i h1
    split at h
    · cases h
    · rename_i h2
      injection h with h
      have := fin_ok (Classical.not_not.1 h1)
      refine ⟨h.symm, this.1, this.2, ?_⟩
      have h3 : checkN x = 0 := Classical.not_not.1 h2
      unfold checkN at h3
      cases hv : validB x
      · rw [hv] at h3; simp at h3
      · rfl
/-- what was read has these bytes -/
theorem readRec_ok {xs : List Int} {y : Re} (hx : ∀ b ∈ xs, Byt b) (hl : xs.length ≤ 4611686018427387904) (h : readRec xs = some y) : validB y = true ∧ recBytes y = xs ∧ ReT y ∧ y.ev.args.length ≤ 4 := by
  unfold readRec at h
  simp only at h
  have o0 : RdOk ⟨xs, 0⟩ := ⟨hx, hl⟩
  have o1 := o0.byte
  have o2 := o1.uint 8
  have o3 := o2.uint M64
  have mm : M64 = 18446744073709551615 := rfl
  have b1 := byte_range o0
  have b2 := uint_range o1 (m := 8) (by decide)
  have b3 := uint_range o2 (m := M64) (by decide)
  split at h
  · cases h
  · rename_i he
    have h3 : (((⟨xs, 0⟩ : Rd).byte.2.uint 8).2.uint M64).2.err = 0 := Classical.not_not.1 he
    obtain ⟨h2, e3⟩ := uint_ok o2 h3
    obtain ⟨h1, e2⟩ := uint_ok o1 h2
    obtain ⟨_, e1⟩ := byte_ok h1
    simp only at e1
    generalize hr1 : (⟨xs, 0⟩ : Rd).byte = p1 at *
    generalize hr2 : p1.2.uint 8 = p2 at *
    generalize hr3 : p2.2.uint M64 = p3 at *
    have hxs : xs = p1.1 :: (putU p2.1 ++ putU p3.1) ++ p3.2.xs := by
      rw [List.cons_append, List.append_assoc, ← e3, ← e2]; exact e1
    have hdrop : xs.drop (xs.length - p3.2.xs.length) = p3.2.xs := by
      have hlen : xs.length - p3.2.xs.length = (p1.1 :: (putU p2.1 ++ putU p3.1)).length := by
        conv => lhs; rw [hxs]
        simp; omega
      rw [hlen]
      conv => lhs; rw [hxs]
      exact List.drop_left
    have fincase : ∀ (z : Re), z.comp = p2.1 → z.seq = p3.1 → z.what = p1.1 → validB z = true → recTail z = p3.2.xs → recBytes z = xs := by
      intro z z1 z2 z3 z4 z5
      unfold recBytes recHead
      rw [if_pos z4, z1, z2, z3, z5]; exact hxs.symm
    have hc : I64 p2.1 := ⟨by omega, by omega⟩
    split at h
    · rename_i hw
      rw [hdrop] at h
      cases hk : clkR p3.2.xs with
      | none => rw [hk] at h; cases h
      | some q =>
        obtain ⟨c, n⟩ := q
        rw [hk] at h
        simp only at h
        obtain ⟨c1, c2⟩ := clkR_ok o3.byt hk
        have hre : RdOk ⟨p3.2.xs.drop n, 0⟩ := ⟨byt_drop o3.byt n, by have := o3.len; simp; omega⟩
        obtain ⟨rfl, f1, f2, f3⟩ := fin1_ok h
        obtain ⟨_, g2, g3⟩ := event_ok hre f1
        have g4 := event_args _ hre p2.1
        refine ⟨f3, fincase _ rfl rfl hw.symm f3 ?_, ⟨hc, ⟨b3.1, by simp only; omega⟩, c2, by simp only; omega, g3 hc, by simp only [U64]; omega⟩, g4⟩
        unfold recTail
        simp only [if_true]
        rw [f2, List.append_nil] at g2
        simp only at g2
        rw [← g2]; exact c1.symm
    · rename_i hw
      have clk0u : ∀ i, U64 (clk0 i) := fun i => ⟨by simp [clk0], by simp [clk0]⟩
      have ev0t : EvT ev0 := ⟨by simp [ev0, I64], by simp [ev0, I64], by simp [ev0], by simp [ev0, I64], by simp [ev0, I64], by simp [ev0, I64], by simp [ev0, I64], by simp [ev0, I64], by simp [ev0]⟩
      split at h
      · rename_i hw2
        obtain ⟨rfl, f1, f2, f3⟩ := fin1_ok h
        obtain ⟨_, g2⟩ := uint_ok o3 f1
        have b4 := uint_range o3 (m := M64) (by decide)
        refine ⟨f3, fincase _ rfl rfl hw2.symm f3 ?_, ⟨hc, ⟨b3.1, by simp only; omega⟩, clk0u, by simp only; omega, ev0t, ⟨b4.1, by simp only; omega⟩⟩, by simp [ev0]⟩
        unfold recTail
        simp only
        rw [if_neg (by omega)]
        simp only [if_true]
        rw [f2, List.append_nil] at g2
        exact g2.symm
      · rename_i hw2
        obtain ⟨rfl, f1, f2, f3⟩ := fin1_ok h
        refine ⟨f3, fincase _ rfl rfl rfl f3 ?_, ⟨hc, ⟨b3.1, by simp only; omega⟩, clk0u, b1, ev0t, by simp only [U64]; omega⟩, by simp [ev0]⟩
        unfold recTail
        simp only
        rw [if_neg hw, if_neg hw2, f2]
end Go.Proofs.YtepkcbalmjnhpaaGreat
