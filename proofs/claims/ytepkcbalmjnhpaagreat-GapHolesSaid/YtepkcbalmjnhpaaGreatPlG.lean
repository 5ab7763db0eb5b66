/-
  Plain law: the bytes of a valid record are read as that record; with more behind them they are refused.
-/
import Derived.Test.YtepkcbalmjnhpaaGreatPlF
import Derived.Test.YtepkcbalmjnhpaaGreatInj
set_option linter.unusedVariables false
set_option linter.unusedSimpArgs false
namespace Go.Proofs.YtepkcbalmjnhpaaGreat
open Go.RowKit
theorem decU_of : ∀ (n : Nat) (v : Int) (i : Nat) (acc : Int) (s : List Int), v.toNat ≤ n → 0 ≤ v → i ≤ 9 → v * 128 ^ i < 18446744073709551616 → (0 < i → 0 < v) →
    decU i acc (putU v ++ s) = some (acc + v * 128 ^ i, i + (putU v).length) := by
  intro n
  induction n with
  | zero =>
    intro v i acc s hn h0 hi hs hp
    have hv : v = 0 := by omega
    subst hv
    have hi0 : i = 0 := by
      rcases Nat.eq_zero_or_pos i with h | h
      · exact h
      · have := hp h; omega
    subst hi0
    rw [putU_small (by omega)]
    simp [decU]
  | succ n ih =>
    intro v i acc s hn h0 hi hs hp
    have h9 : i = 9 → v ≤ 1 := by
      intro h; subst h
      have : (128 : Int) ^ 9 = 9223372036854775808 := by decide
      rw [this] at hs; omega
    by_cases hb : 128 ≤ v
    · rw [putU_big hb, List.cons_append]
      unfold decU
      rw [if_neg (by rintro ⟨h1, _⟩; have := h9 h1; omega), if_neg (by omega)]
      have e1 : (v % 128 + 128) % 128 = v % 128 := by omega
      have e2 : (128 : Int) ^ (i + 1) = 128 * 128 ^ i := by rw [Int.pow_succ, Int.mul_comm]
      have e3 : v * 128 ^ i = v % 128 * 128 ^ i + v / 128 * 128 ^ (i + 1) := by
        rw [e2, ← Int.mul_assoc, ← Int.add_mul]
        congr 1; omega
      have hp0 : (0 : Int) < 128 ^ i := Int.pow_pos (by omega)
      have hm : 0 ≤ v % 128 * 128 ^ i := Int.mul_nonneg (by omega) (by omega)
      have hi9 : i < 9 := by
        rcases Nat.lt_or_ge i 9 with h | h
        · exact h
        · have := h9 (by omega); omega
      rw [e1, ih (v / 128) (i + 1) _ s (by omega) (by omega) (by omega) (by omega) (fun _ => by omega)]
      rw [e3, Int.add_assoc, List.length_cons, Nat.add_assoc, Nat.add_comm 1]
    · rw [putU_small (by omega)]
      simp only [List.cons_append, List.nil_append]
      unfold decU
      rw [if_neg (by rintro ⟨h1, h2⟩; have := h9 h1; omega), if_pos (by omega), if_neg (by rintro ⟨h1, h2⟩; have := hp h2; omega), Int.emod_eq_of_lt h0 (by omega)]
      rfl
theorem dec_of {v : Int} (h : U64 v) (s : List Int) : decU 0 0 (putU v ++ s) = some (v, (putU v).length) := by
  have := decU_of v.toNat v 0 0 s (Nat.le_refl _) h.1 (by omega) (by simpa using h.2) (by omega)
  simpa using this
theorem uint_put {v m : Int} (h : U64 v) (hm : v ≤ m) (s : List Int) : (⟨putU v ++ s, 0⟩ : Rd).uint m = (v, ⟨s, 0⟩) := by
  unfold Rd.uint
  simp only [ne_eq, not_true_eq_false, if_false, dec_of h]
  rw [if_neg (by omega), List.drop_left]
theorem unzig_zig {v : Int} : unzig (zig v) = v := by
  unfold zig unzig
  split <;> split <;> omega
theorem int_put {v : Int} (h : I64 v) (s : List Int) : (⟨putI v ++ s, 0⟩ : Rd).int = (v, ⟨s, 0⟩) := by
  unfold Rd.int putI
  simp only [ne_eq, not_true_eq_false, if_false, dec_of (show U64 (zig v) from zig_range h.1 h.2), unzig_zig]
  rw [List.drop_left]
theorem ints_put : ∀ (l : List Int), (∀ x ∈ l, I64 x) → ∀ s : List Int, (⟨l.flatMap putI ++ s, 0⟩ : Rd).ints l.length = (l, ⟨s, 0⟩)
  | [], _, s => rfl
  | x :: l, h, s => by
    simp only [List.flatMap_cons, List.append_assoc, List.length_cons, Rd.ints, int_put (h x (by simp)), ints_put l (fun y hy => h y (by simp [hy])) s]
theorem event_put {e : Ev} {c : Int} (h : evOk e c = true) (hT : EvT e) (s : List Int) : (⟨evBytes e ++ s, 0⟩ : Rd).event c = (e, ⟨s, 0⟩) := by
  obtain ⟨rfl, p0, p1, p2, p3, p4, p5, p6⟩ := evOk_ranges h
  have m : M31 = 2147483647 := rfl
  have hu : ∀ {v : Int}, 0 ≤ v → v ≤ 2147483647 → U64 v := fun a b => ⟨a, by omega⟩
  unfold Rd.event evBytes evNums
  simp only [List.flatMap_cons, List.flatMap_nil, List.append_assoc, List.nil_append, List.append_nil]
  rw [uint_put (hu p0.1 (by omega)) (by omega)]
  simp only
  rw [uint_put (hu (by omega) (by omega)) (by omega)]
  simp only
  rw [uint_put (hu p2.1 (by omega)) (by omega)]
  simp only
  rw [uint_put (hu p3.1 (by omega)) (by omega)]
  simp only
  rw [uint_put (hu p4.1 (by omega)) (by omega)]
  simp only
  rw [uint_put (hu p5.1 (by omega)) (by omega)]
  simp only
  rw [int_put hT.d]
  simp only
  rw [uint_put (hu (by omega) (by omega)) (by omega)]
  simp only [Int.toNat_natCast]
  rw [ints_put _ hT.args]
theorem ents_put : ∀ (l : List Int), (∀ x ∈ l, U64 x) → ∀ s : List Int, ents l.length (l.flatMap putU ++ s) = some (l, (l.flatMap putU).length)
  | [], _, s => rfl
  | x :: l, h, s => by
    simp only [List.flatMap_cons, List.append_assoc, List.length_cons, ents, dec_of (h x (by simp)), List.drop_left, ents_put l (fun y hy => h y (by simp [hy])) s, List.length_append]
theorem cents_same (c : Nat → Int) : sameTo (clkOf (cents c)) c 16 = true := by
  rw [sameTo_iff]
  intro i hi
  unfold clkOf cents
  by_cases h : i < clen c
  · simp [h]
  · rw [List.getD_eq_getElem?_getD, List.getElem?_eq_none (by simpa using h)]
    exact (clenTo_above c 16 i (by unfold clen at h; omega) hi).symm
theorem clkR_put {c : Nat → Int} (h : ∀ i, U64 (c i)) (s : List Int) : clkR (clkBytes c ++ s) = some (clkOf (cents c), (clkBytes c).length) := by
  have hl : (cents c).length = clen c := by simp [cents]
  have hle := clen_le c
  have hc : clen (clkOf (cents c)) = clen c := clenTo_congr ((sameTo_iff _ _ _).1 (cents_same c))
  have he := ents_put (cents c) (fun x hx => by simp only [cents, List.mem_map] at hx; obtain ⟨i, _, rfl⟩ := hx; exact h i) s
  rw [hl] at he
  unfold clkR clkBytes
  simp only [List.cons_append, Int.toNat_natCast, he, hc, if_true]
  rw [if_neg (by omega), List.length_cons, Nat.add_comm]
theorem fin1_put {x : Re} (h : validB x = true) (s : List Int) : fin1 ⟨s, 0⟩ x = if s = [] then some x else none := by
  unfold fin1 Rd.fin checkN
  rw [h]
  by_cases hs : s = []
  · simp [hs]
  · simp [hs]
/-- a valid record's bytes are read as that record; with more behind them they are refused -/
theorem readRec_put {r : Re} (hv : validB r = true) (hT : ReT r) (s : List Int) : ∃ y, recEq y r = true ∧ validB y = true ∧ readRec (recBytes r ++ s) = if s = [] then some y else none := by
  have hc := valid_comp hv
  have hw := valid_what hv
  have mm : M64 = 18446744073709551615 := rfl
  have hs := hT.seq
  unfold U64 at hs
  have hb : recBytes r ++ s = r.what :: (putU r.comp ++ (putU r.seq ++ (recTail r ++ s))) := by
    unfold recBytes recHead
    rw [if_pos hv]; simp
  have hdrop : (recBytes r ++ s).drop ((recBytes r ++ s).length - (recTail r ++ s).length) = recTail r ++ s := by
    have e : recBytes r ++ s = recHead r ++ (recTail r ++ s) := by unfold recBytes; rw [if_pos hv]; simp
    rw [e]
    have : (recHead r ++ (recTail r ++ s)).length - (recTail r ++ s).length = (recHead r).length := by simp
    rw [this, List.drop_left]
  have h1 : (⟨recBytes r ++ s, 0⟩ : Rd).byte = (r.what, ⟨putU r.comp ++ (putU r.seq ++ (recTail r ++ s)), 0⟩) := by rw [hb]; rfl
  have h2 := uint_put (v := r.comp) (m := 8) ⟨hc.1, by omega⟩ hc.2 (putU r.seq ++ (recTail r ++ s))
  have h3 := uint_put (v := r.seq) (m := M64) hT.seq (by omega) (recTail r ++ s)
  unfold readRec
  simp only [h1, h2, h3, ne_eq, not_true_eq_false, if_false, hdrop]
  by_cases w1 : r.what = 1
  · have hok : evOk r.ev r.comp = true ∧ r.count = 0 := by
      have := hv
      unfold validB okWhat at this
      rw [if_pos w1] at this
      simp only [Bool.and_eq_true, beq_iff_eq] at this
      exact this.1
    have ht : recTail r ++ s = clkBytes r.clk ++ (evBytes r.ev ++ s) := by unfold recTail; rw [if_pos w1]; simp
    have hvy : validB ⟨r.comp, r.seq, clkOf (cents r.clk), 1, r.ev, 0⟩ = true := by
      unfold validB okWhat
      simp [hok.1, inB_iff, hc]
    refine ⟨_, ?_, hvy, ?_⟩
    · unfold recEq
      simp [evEq_iff, cents_same, w1, hok.2]
    · rw [if_pos w1, ht, clkR_put hT.clk]
      simp only [List.drop_left, event_put hok.1 hT.ev]
      exact fin1_put hvy s
  · have hbare := valid_gap hv w1
    have hba := hbare
    unfold bareB at hba
    simp only [Bool.and_eq_true, evEq_iff] at hba
    have hcl : sameTo clk0 r.clk 16 = true := by
      rw [sameTo_iff]; intro i hi; exact ((sameTo_iff _ _ _).1 hba.1 i hi).symm
    have h00 : sameTo clk0 clk0 16 = true := (sameTo_iff _ _ _).2 fun _ _ => rfl
    rw [if_neg w1]
    by_cases w2 : r.what = 2
    · have hcn : 0 < r.count ∧ r.count ≤ 18446744073709551615 - r.seq := by
        have := hv
        unfold validB okWhat at this
        rw [if_neg w1, if_pos w2] at this
        simp only [Bool.and_eq_true, decide_eq_true_eq] at this
        exact ⟨this.1.1.2, this.1.2⟩
      have ht : recTail r ++ s = putU r.count ++ s := by unfold recTail; rw [if_neg w1, if_pos w2]
      have hvy : validB ⟨r.comp, r.seq, clk0, 2, ev0, r.count⟩ = true := by
        unfold validB okWhat bareB
        simp [h00, evEq_iff, inB_iff, hc, hcn]
      refine ⟨_, ?_, hvy, ?_⟩
      · unfold recEq
        simp [evEq_iff, hcl, w2, hba.2]
      · rw [if_pos w2, ht, uint_put hT.count (by have := hT.count.2; omega)]
        exact fin1_put hvy s
    · have w3 : r.what = 3 := by omega
      have hcn := valid_count3 hv w1 w2
      have ht : recTail r ++ s = s := by unfold recTail; rw [if_neg w1, if_neg w2]; rfl
      have hvy : validB ⟨r.comp, r.seq, clk0, r.what, ev0, 0⟩ = true := by
        unfold validB okWhat bareB
        simp [h00, evEq_iff, inB_iff, hc, w3]
      refine ⟨_, ?_, hvy, ?_⟩
      · unfold recEq
        simp [evEq_iff, hcl, hba.2, hcn]
      · rw [if_neg w2, ht]
        exact fin1_put hvy s
theorem readRec_of {r : Re} (hv : validB r = true) (hT : ReT r) : ∃ y, recEq y r = true ∧ readRec (recBytes r) = some y := by
  obtain ⟨y, h1, _, h2⟩ := readRec_put hv hT []
  exact ⟨y, h1, by simpa using h2⟩
theorem readRec_more {r : Re} (hv : validB r = true) (hT : ReT r) {s : List Int} (hs : s ≠ []) : readRec (recBytes r ++ s) = none := by
  obtain ⟨y, _, _, h⟩ := readRec_put hv hT s
  rw [h, if_neg hs]
theorem readRec_less {r : Re} (hv : validB r = true) (hT : ReT r) (hx : ∀ b ∈ recBytes r, Byt b) (hl : (recBytes r).length ≤ 4611686018427387904) {n : Nat} (hn : n < (recBytes r).length) : readRec ((recBytes r).take n) = none := by
  cases h : readRec ((recBytes r).take n) with
  | none => rfl
  | some y =>
    obtain ⟨h1, h2, h3, _⟩ := readRec_ok (fun b hb => hx b (List.mem_of_mem_take hb)) (by simp; omega) h
    have h4 : (recBytes r).drop n ≠ [] := by intro he; have := congrArg List.length he; simp at this; omega
    have h5 := readRec_more h1 h3 h4
    rw [h2, List.take_append_drop] at h5
    obtain ⟨z, _, hz⟩ := readRec_of hv hT
    rw [hz] at h5; cases h5
theorem readRec_nil : readRec [] = none := rfl
theorem putU_byt {v : Int} (h : 0 ≤ v) : ∀ b ∈ putU v, Byt b := putU_byte _ v (Nat.le_refl _) h
theorem putI_byt (v : Int) : ∀ b ∈ putI v, Byt b := putU_byt (zig_nonneg v)
theorem flatU_byt {l : List Int} (h : ∀ x ∈ l, 0 ≤ x) : ∀ b ∈ l.flatMap putU, Byt b := by
  intro b hb
  obtain ⟨x, hx, hb⟩ := List.mem_flatMap.1 hb
  exact putU_byt (h x hx) b hb
theorem recBytes_byt {r : Re} (hT : ReT r) : ∀ b ∈ recBytes r, Byt b := by
  unfold recBytes
  split
  · rename_i hv
    have hc := valid_comp hv
    have hw := hT.what
    intro b hb
    rcases List.mem_append.1 hb with hb | hb
    · unfold recHead at hb
      rcases List.mem_cons.1 hb with rfl | hb
      · exact hw
      · rcases List.mem_append.1 hb with hb | hb
        · exact putU_byt hc.1 b hb
        · exact putU_byt hT.seq.1 b hb
    · unfold recTail at hb
      split at hb
      · rename_i h1
        obtain ⟨he, _⟩ := valid_entry hv h1
        obtain ⟨_, p0, p1, p2, p3, p4, p5, p6⟩ := evOk_ranges he
        rcases List.mem_append.1 hb with hb | hb
        · rcases List.mem_cons.1 hb with rfl | hb
          · have := clen_le r.clk; exact ⟨by omega, by omega⟩
          · exact flatU_byt (fun x hx => by simp only [cents, List.mem_map] at hx; obtain ⟨i, _, rfl⟩ := hx; exact (hT.clk i).1) b hb
        · unfold evBytes at hb
          rcases List.mem_append.1 hb with hb | hb
          · rcases List.mem_append.1 hb with hb | hb
            · rcases List.mem_append.1 hb with hb | hb
              · exact flatU_byt (by simp only [evNums, List.mem_cons, List.not_mem_nil, or_false]; rintro x (rfl | rfl | rfl | rfl | rfl | rfl) <;> omega) b hb
              · exact putI_byt _ b hb
            · exact putU_byt (by omega) b hb
          · obtain ⟨x, _, hb⟩ := List.mem_flatMap.1 hb
            exact putI_byt x b hb
      · split at hb
        · exact putU_byt hT.count.1 b hb
        · cases hb
  · intro b hb; cases hb
theorem recBytes_ne {r : Re} (h : validB r = true) : recBytes r ≠ [] := by
  unfold recBytes recHead; rw [if_pos h]; simp
theorem flat_len {f : Int → List Int} {k : Nat} : ∀ (l : List Int), (∀ x ∈ l, (f x).length ≤ k) → (l.flatMap f).length ≤ k * l.length
  | [], _ => by simp
  | x :: l, h => by
    have h1 := h x (by simp)
    have h2 := flat_len l (fun y hy => h y (by simp [hy]))
    rw [List.flatMap_cons, List.length_append, List.length_cons, Nat.mul_succ]; omega
theorem recBytes_small {r : Re} (hT : ReT r) : (recBytes r).length ≤ 400 := by
  unfold recBytes
  split
  · rename_i hv
    have hc := valid_comp hv
    have l1 := putU_ten (v := r.comp) (by omega)
    have l2 := putU_ten hT.seq.2
    have l3 := putU_ten hT.count.2
    have hh : (recHead r).length ≤ 21 := by unfold recHead; simp; omega
    have ht : (recTail r).length ≤ 300 := by
      unfold recTail
      split
      · rename_i h1
        obtain ⟨he, _⟩ := valid_entry hv h1
        obtain ⟨_, p0, p1, p2, p3, p4, p5, p6⟩ := evOk_ranges he
        have k1 := clen_le r.clk
        have k2 := entB_len hT.clk (clen r.clk)
        have k3 := flat_len (f := putU) (k := 10) (evNums r.ev) (by
          simp only [evNums, List.mem_cons, List.not_mem_nil, or_false]
          rintro x (rfl | rfl | rfl | rfl | rfl | rfl) <;> exact putU_ten (by omega))
        have k4 := flat_len (f := putI) (k := 10) r.ev.args (fun x hx => putU_ten (zig_range (hT.ev.args x hx).1 (hT.ev.args x hx).2).2)
        have k5 : (putI r.ev.d).length ≤ 10 := putU_ten (zig_range hT.ev.d.1 hT.ev.d.2).2
        have k6 := putU_ten (v := (r.ev.args.length : Int)) (by omega)
        have k7 : (evNums r.ev).length = 6 := rfl
        rw [clkBytes_eq]
        unfold evBytes
        simp only [List.length_append, List.length_cons]
        omega
      · split
        · omega
        · simp
    rw [List.length_append]; omega
  · simp
end Go.Proofs.YtepkcbalmjnhpaaGreat
