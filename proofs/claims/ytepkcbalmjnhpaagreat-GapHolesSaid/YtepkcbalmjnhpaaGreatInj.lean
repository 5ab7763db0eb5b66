/-
  Plain: the bytes of a valid record tell the record.
-/
import Derived.Test.YtepkcbalmjnhpaaGreatEq
set_option linter.unusedVariables false
set_option linter.unusedSimpArgs false
namespace Go.Proofs.YtepkcbalmjnhpaaGreat
theorem putU_inj : ∀ (n : Nat) (v v' : Int), v.toNat ≤ n → 0 ≤ v → 0 ≤ v' → ∀ s s' : List Int, putU v ++ s = putU v' ++ s' → v = v' ∧ s = s' := by
  intro n
  induction n with
  | zero =>
    intro v v' hn h0 h0' s s' h
    have hv : v = 0 := by omega
    subst hv
    rw [putU_small (by omega)] at h
    by_cases hb : 128 ≤ v'
    · rw [putU_big hb] at h
      simp only [List.cons_append, List.nil_append, List.cons.injEq] at h
      omega
    · rw [putU_small (by omega)] at h
      simpa using h
  | succ n ih =>
    intro v v' hn h0 h0' s s' h
    by_cases ha : 128 ≤ v
    · by_cases hb : 128 ≤ v'
      · rw [putU_big ha, putU_big hb] at h
        simp only [List.cons_append, List.cons.injEq] at h
        obtain ⟨h1, h2⟩ := h
        obtain ⟨h3, h4⟩ := ih (v / 128) (v' / 128) (by omega) (by omega) (by omega) s s' h2
        exact ⟨by omega, h4⟩
      · rw [putU_big ha, putU_small (v := v') (by omega)] at h
        simp only [List.cons_append, List.nil_append, List.cons.injEq] at h
        omega
    · by_cases hb : 128 ≤ v'
      · rw [putU_small (v := v) (by omega), putU_big hb] at h
        simp only [List.cons_append, List.nil_append, List.cons.injEq] at h
        omega
      · rw [putU_small (v := v) (by omega), putU_small (v := v') (by omega)] at h
        simpa using h
theorem putU_pre {v v' : Int} (h0 : 0 ≤ v) (h0' : 0 ≤ v') {s s' : List Int} (h : putU v ++ s = putU v' ++ s') : v = v' ∧ s = s' := putU_inj _ v v' (Nat.le_refl _) h0 h0' s s' h
theorem zig_nonneg (v : Int) : 0 ≤ zig v := by unfold zig; split <;> omega
theorem zig_inj {v v' : Int} (h : zig v = zig v') : v = v' := by unfold zig at h; split at h <;> split at h <;> omega
theorem putI_pre {v v' : Int} {s s' : List Int} (h : putI v ++ s = putI v' ++ s') : v = v' ∧ s = s' := by
  obtain ⟨h1, h2⟩ := putU_pre (zig_nonneg v) (zig_nonneg v') h
  exact ⟨zig_inj h1, h2⟩
theorem mapU_pre : ∀ (l l' : List Int), l.length = l'.length → (∀ x ∈ l, 0 ≤ x) → (∀ x ∈ l', 0 ≤ x) → ∀ s s' : List Int, l.flatMap putU ++ s = l'.flatMap putU ++ s' → l = l' ∧ s = s'
  | [], [], _, _, _, s, s', h => ⟨rfl, by simpa using h⟩
  | [], _ :: _, hl, _, _, _, _, _ => by simp at hl
  | _ :: _, [], hl, _, _, _, _, _ => by simp at hl
  | x :: l, y :: l', hl, hp, hp', s, s', h => by
    simp only [List.flatMap_cons, List.append_assoc] at h
    obtain ⟨h1, h2⟩ := putU_pre (hp x (by simp)) (hp' y (by simp)) h
    obtain ⟨h3, h4⟩ := mapU_pre l l' (by simpa using hl) (fun z hz => hp z (by simp [hz])) (fun z hz => hp' z (by simp [hz])) s s' h2
    exact ⟨by rw [h1, h3], h4⟩
theorem mapI_pre : ∀ (l l' : List Int), l.length = l'.length → ∀ s s' : List Int, l.flatMap putI ++ s = l'.flatMap putI ++ s' → l = l' ∧ s = s'
  | [], [], _, s, s', h => ⟨rfl, by simpa using h⟩
  | [], _ :: _, hl, _, _, _ => by simp at hl
  | _ :: _, [], hl, _, _, _ => by simp at hl
  | x :: l, y :: l', hl, s, s', h => by
    simp only [List.flatMap_cons, List.append_assoc] at h
    obtain ⟨h1, h2⟩ := putI_pre h
    obtain ⟨h3, h4⟩ := mapI_pre l l' (by simpa using hl) s s' h2
    exact ⟨by rw [h1, h3], h4⟩
theorem cents_congr {a b : Nat → Int} (h : sameTo a b 16 = true) : clkBytes a = clkBytes b := by
  have h1 := (sameTo_iff a b 16).1 h
  have h2 : clen a = clen b := clenTo_congr h1
  have h3 : cents a = cents b := by
    unfold cents
    rw [h2]
    apply List.map_congr_left
    intro i hi
    have := clen_le b
    exact h1 i (by simp at hi; omega)
  unfold clkBytes
  rw [h2, h3]
theorem clk_pre {a b : Nat → Int} (ha : ∀ i, U64 (a i)) (hb : ∀ i, U64 (b i)) {s s' : List Int} (h : clkBytes a ++ s = clkBytes b ++ s') : sameTo a b 16 = true ∧ s = s' := by
  unfold clkBytes at h
  simp only [List.cons_append, List.cons.injEq] at h
  obtain ⟨h1, h2⟩ := h
  have hl : clen a = clen b := by omega
  obtain ⟨h3, h4⟩ := mapU_pre (cents a) (cents b) (by simp [cents, hl]) (fun x hx => by simp only [cents, List.mem_map] at hx; obtain ⟨i, _, rfl⟩ := hx; exact (ha i).1) (fun x hx => by simp only [cents, List.mem_map] at hx; obtain ⟨i, _, rfl⟩ := hx; exact (hb i).1) s s' h2
  refine ⟨(sameTo_iff a b 16).2 fun i hi => ?_, h4⟩
  by_cases hc : i < clen a
  · have h5 := congrArg (fun l => l[i]?) h3
    simp only [cents] at h5
    rw [List.getElem?_map, List.getElem?_map, List.getElem?_range hc, List.getElem?_range (by omega)] at h5
    simpa using h5
  · rw [clenTo_above a 16 i (Nat.le_of_not_lt hc) hi]
    exact (clenTo_above b 16 i (by rw [hl] at hc; exact Nat.le_of_not_lt hc) hi).symm
theorem evEq_iff {a b : Ev} : evEq a b = true ↔ a = b := by
  obtain ⟨tick, comp, kind, peer, n, copy, handler, d1, xs⟩ := a
  obtain ⟨tick', comp', kind', peer', n', copy', handler', d', ys⟩ := b
  simp [evEq, and_assoc]
theorem evBytes_inj {a b : Ev} {c c' : Int} (ha : evOk a c = true) (hb : evOk b c' = true) (hc : c = c') (h : evBytes a = evBytes b) : a = b := by
  obtain ⟨p0, p1, p2, p3, p4, p5, p6, _⟩ := evOk_ranges ha
  obtain ⟨q0, q1, q2, q3, q4, q5, q6, _⟩ := evOk_ranges hb
  unfold evBytes at h
  simp only [List.append_assoc] at h
  obtain ⟨h1, h2⟩ := mapU_pre (evNums a) (evNums b) rfl (by simp only [evNums, List.mem_cons, List.not_mem_nil, or_false]; rintro x (rfl | rfl | rfl | rfl | rfl | rfl) <;> omega) (by simp only [evNums, List.mem_cons, List.not_mem_nil, or_false]; rintro x (rfl | rfl | rfl | rfl | rfl | rfl) <;> omega) _ _ h
  obtain ⟨h3, h4⟩ := putI_pre h2
  obtain ⟨h5, h6⟩ := putU_pre (by omega) (by omega) h4
  obtain ⟨h7, _⟩ := mapI_pre a.args b.args (by omega) [] [] (by simpa using h6)
  simp only [evNums, List.cons.injEq, and_true] at h1
  obtain ⟨tick, comp, kind, peer, n, copy, handler, d1, xs⟩ := a
  obtain ⟨tick', comp', kind', peer', n', copy', handler', d', ys⟩ := b
  simp_all
theorem valid_gap {r : Re} (h : validB r = true) (h1 : r.what ≠ 1) : bareB r = true := by
  unfold validB okWhat at h
  simp only [Bool.and_eq_true] at h
  obtain ⟨h, _⟩ := h
  rw [if_neg h1] at h
  split at h
  · simp only [Bool.and_eq_true] at h; exact h.1.1
  · split at h
    · simp only [Bool.and_eq_true] at h; exact h.1
    · cases h
theorem bare_same {a b : Re} (ha : bareB a = true) (hb : bareB b = true) : sameTo a.clk b.clk 16 = true ∧ a.ev = b.ev := by
  unfold bareB at ha hb
  simp only [Bool.and_eq_true, evEq_iff] at ha hb
  refine ⟨(sameTo_iff _ _ _).2 fun i hi => ?_, by rw [ha.2, hb.2]⟩
  rw [(sameTo_iff _ _ _).1 ha.1 i hi, (sameTo_iff _ _ _).1 hb.1 i hi]
theorem valid_count3 {r : Re} (h : validB r = true) (h1 : r.what ≠ 1) (h2 : r.what ≠ 2) : r.count = 0 := by
  unfold validB okWhat at h
  simp only [Bool.and_eq_true] at h
  obtain ⟨h, _⟩ := h
  rw [if_neg h1, if_neg h2] at h
  split at h
  · simp only [Bool.and_eq_true, beq_iff_eq] at h; exact h.2
  · cases h
theorem recBytes_inj {a b : Re} (ha : validB a = true) (hb : validB b = true) (hA : ReT a) (hB : ReT b) : (recBytes a == recBytes b) = recEq a b := by
  rw [Bool.eq_iff_iff, beq_iff_eq]
  unfold recEq
  simp only [Bool.and_eq_true, beq_iff_eq, evEq_iff]
  have ca := valid_comp ha
  have cb := valid_comp hb
  unfold recBytes
  rw [if_pos ha, if_pos hb]
  constructor
  · intro h
    unfold recHead at h
    simp only [List.cons_append, List.append_assoc, List.cons.injEq] at h
    obtain ⟨hw, h⟩ := h
    obtain ⟨h1, h2⟩ := putU_pre ca.1 cb.1 h
    obtain ⟨h3, h4⟩ := putU_pre hA.seq.1 hB.seq.1 h2
    unfold recTail at h4
    by_cases w1 : a.what = 1
    · have w1' : b.what = 1 := by omega
      rw [if_pos w1, if_pos w1'] at h4
      obtain ⟨h5, h6⟩ := clk_pre hA.clk hB.clk h4
      have va := valid_entry ha w1
      have vb := valid_entry hb w1'
      exact ⟨⟨⟨⟨⟨h1, h3⟩, h5⟩, hw⟩, evBytes_inj va.1 vb.1 h1 h6⟩, by rw [va.2, vb.2]⟩
    · have w1' : b.what ≠ 1 := by omega
      obtain ⟨s1, s2⟩ := bare_same (valid_gap ha w1) (valid_gap hb w1')
      rw [if_neg w1, if_neg w1'] at h4
      by_cases w2 : a.what = 2
      · have w2' : b.what = 2 := by omega
        rw [if_pos w2, if_pos w2'] at h4
        obtain ⟨h5, _⟩ := putU_pre (s := []) (s' := []) hA.count.1 hB.count.1 (by simpa using h4)
        exact ⟨⟨⟨⟨⟨h1, h3⟩, s1⟩, hw⟩, s2⟩, h5⟩
      · exact ⟨⟨⟨⟨⟨h1, h3⟩, s1⟩, hw⟩, s2⟩, by rw [valid_count3 ha w1 w2, valid_count3 hb w1' (by omega)]⟩
  · rintro ⟨⟨⟨⟨⟨h1, h3⟩, h5⟩, hw⟩, h6⟩, h7⟩
    unfold recHead recTail
    rw [h1, h3, hw, h6, h7, cents_congr h5]
end Go.Proofs.YtepkcbalmjnhpaaGreat
