/-
  Plain mathematics of the decoding: numbers out of bytes, readers. No program in sight.
-/
import Derived.Test.YtepkcbalmjnhpaaGreatEngP
import Derived.Test.YtepkcbalmjnhpaaGreatPlain
set_option linter.unusedVariables false
set_option linter.unusedSimpArgs false
namespace Go.Proofs.YtepkcbalmjnhpaaGreat
/-- a number out of bytes: the i-th byte is next, acc is what the earlier ones gave -/
def decU (i : Nat) (acc : Int) : List Int → Option (Int × Nat)
  | [] => none
  | b :: rest => if i = 9 ∧ 1 < b then none else if b < 128 then (if b = 0 ∧ 0 < i then none else some (acc + b % 128 * 128 ^ i, i + 1)) else decU (i + 1) (acc + b % 128 * 128 ^ i) rest
def Byt (b : Int) : Prop := 0 ≤ b ∧ b ≤ 255
theorem bit_nat {k : IntKind} {x : Int} (h0 : 0 ≤ x) (h1 : x < 2 ^ k.bits) : (BitVec.ofInt k.bits x).toNat = x.toNat := by
  rw [BitVec.toNat_ofInt]
  rw [Int.emod_eq_of_lt h0 (by exact_mod_cast h1)]
theorem and_127 {b : Int} (h : Byt b) : bitI .and .u8 b 127 = b % 128 := by
  have key : ∀ x : Fin 256, bitI .and .u8 ((x.val : Nat) : Int) 127 = ((x.val % 128 : Nat) : Int) := by decide +kernel
  have := key ⟨b.toNat, by have := h.2; omega⟩
  simp only at this
  rw [Int.toNat_of_nonneg h.1] at this
  rw [this]; have := h.1; omega
theorem or_add {a c : Int} {i : Nat} (ha : 0 ≤ a) (ha' : a < 128 ^ i) (hc : 0 ≤ c) (hs : a + c * 128 ^ i < 18446744073709551616) : bitI .or .u64 a (c * 128 ^ i) = a + c * 128 ^ i := by
  have hp : (0 : Int) < 128 ^ i := Int.pow_pos (by omega)
  have hcm : 0 ≤ c * 128 ^ i := Int.mul_nonneg hc (by omega)
  have e64 : (2 : Int) ^ IntKind.u64.bits = 18446744073709551616 := rfl
  have n1 := bit_nat (k := .u64) ha (by rw [e64]; omega)
  have n2 := bit_nat (k := .u64) hcm (by rw [e64]; omega)
  unfold bitI
  simp only [BitVec.toNat_or, n1, n2]
  obtain ⟨A, rfl⟩ := Int.eq_ofNat_of_zero_le ha
  obtain ⟨C, rfl⟩ := Int.eq_ofNat_of_zero_le hc
  have e1 : ((C : Int) * 128 ^ i) = ((C * 2 ^ (7 * i) : Nat) : Int) := by
    rw [Nat.pow_mul]; simp
  rw [e1, Int.toNat_natCast, Int.toNat_natCast]
  have hA : A < 2 ^ (7 * i) := by
    rw [Nat.pow_mul]
    have : (A : Int) < ((128 ^ i : Nat) : Int) := by simpa using ha'
    exact_mod_cast this
  have hor : A ||| C * 2 ^ (7 * i) = A + C * 2 ^ (7 * i) := by
    rw [Nat.or_comm, Nat.mul_comm, ← Nat.two_pow_add_eq_or_of_lt hA, Nat.add_comm]
  rw [hor]
  rw [wrap_in (k := .u64) ⟨by omega, by rw [e1] at hs; push_cast at hs ⊢; omega⟩]
  push_cast; rfl
/-- the shift of seven bits a byte -/
theorem shl_7 {c : Int} {i : Nat} (hi : i ≤ 9) (hc : 0 ≤ c) (hs : c * 128 ^ i < 18446744073709551616) : IntKind.u64.wrap (c * 2 ^ min ((7 : Int) * (i : Int)).toNat IntKind.u64.bits) = c * 128 ^ i := by
  have e : min ((7 : Int) * (i : Int)).toNat IntKind.u64.bits = 7 * i := by
    have : IntKind.u64.bits = 64 := rfl
    rw [this]; omega
  have e2 : (2 : Int) ^ (7 * i) = 128 ^ i := by rw [Int.pow_mul]; rfl
  rw [e, e2, wrap_in]
  have hp : (0 : Int) < 128 ^ i := Int.pow_pos (by omega)
  exact ⟨Int.mul_nonneg hc (by omega), by omega⟩
theorem shr_7 (b : Int) : b.fdiv (2 ^ min (7 : Int).toNat IntKind.u8.bits) = b / 128 := by
  have : (2 : Int) ^ min (7 : Int).toNat IntKind.u8.bits = 128 := rfl
  rw [this, Int.fdiv_eq_ediv_of_nonneg _ (by omega)]
/-- a reader -/
structure Rd where
  xs : List Int
  err : Int
def uintD (xs : List Int) : Int × Int × Int := match decU 0 0 xs with
  | some (v, n) => (v, n, 0)
  | none => (0, 0, 6)
def Rd.take (n e : Int) (r : Rd) : Bool × Rd := if e ≠ 0 then (false, { r with err := e }) else (true, { r with xs := r.xs.drop n.toNat })
def Rd.uint (m : Int) (r : Rd) : Int × Rd := if r.err ≠ 0 then (0, r) else match decU 0 0 r.xs with
  | none => (0, { r with err := 6 })
  | some (v, n) => if m < v then (0, { r with err := 2 }) else (v, { r with xs := r.xs.drop n })
def unzig (u : Int) : Int := if u % 2 = 1 then -(u / 2) - 1 else u / 2
def Rd.int (r : Rd) : Int × Rd := if r.err ≠ 0 then (0, r) else match decU 0 0 r.xs with
  | none => (0, { r with err := 6 })
  | some (v, n) => (unzig v, { r with xs := r.xs.drop n })
def Rd.byte (r : Rd) : Int × Rd := if r.err ≠ 0 then (0, r) else match r.xs with
  | [] => (0, { r with err := 6 })
  | b :: rest => (b, { r with xs := rest })
def Rd.fin (r : Rd) : Int := if r.err ≠ 0 then r.err else if r.xs = [] then 0 else 6
theorem and_1 {u : Int} (h : U64 u) : bitI .and .u64 u 1 = u % 2 := by
  have h0 := h.1
  have h1 := h.2
  have e64 : (2 : Int) ^ IntKind.u64.bits = 18446744073709551616 := rfl
  have n1 := bit_nat (k := .u64) h0 (by rw [e64]; omega)
  have n2 := bit_nat (k := .u64) (x := 1) (by omega) (by rw [e64]; omega)
  unfold bitI
  simp only [BitVec.toNat_and, n1, n2]
  have : u.toNat &&& (1 : Int).toNat = u.toNat % 2 := Nat.and_one_is_mod _
  rw [this, wrap_in (k := .u64) (by simp only [InR]; omega)]
  omega
theorem shr_1 (u : Int) : u.fdiv (2 ^ min (1 : Int).toNat IntKind.u64.bits) = u / 2 := by
  have : (2 : Int) ^ min (1 : Int).toNat IntKind.u64.bits = 2 := rfl
  rw [this, Int.fdiv_eq_ediv_of_nonneg _ (by omega)]
theorem not_i64 {x : Int} (h : 0 ≤ x ∧ x ≤ 9223372036854775807) : bitI .xor .i64 (if IntKind.i64.signed then -1 else IntKind.i64.max) x = -x - 1 := by
  have e64 : (2 : Int) ^ IntKind.i64.bits = 18446744073709551616 := rfl
  have n1 := bit_nat (k := .i64) h.1 (by rw [e64]; omega)
  have e1 : (BitVec.ofInt IntKind.i64.bits (-1)).toNat = 2 ^ 64 - 1 := rfl
  have es : (if IntKind.i64.signed = true then (-1 : Int) else IntKind.i64.max) = -1 := rfl
  rw [es]
  unfold bitI
  simp only [BitVec.toNat_xor, n1, e1]
  have hx : (2 ^ 64 - 1) ^^^ x.toNat = 2 ^ 64 - 1 - x.toNat := Lib.xor_ones64 x.toNat (by omega)
  rw [hx]
  have hc : ((2 ^ 64 - 1 - x.toNat : Nat) : Int) = 18446744073709551615 - x := by omega
  rw [hc, IntKind.wrap_i64]; omega
theorem decU_u64 : ∀ (xs : List Int) (i : Nat) (acc v : Int) (n : Nat), (∀ b ∈ xs, Byt b) → i ≤ 9 → 0 ≤ acc → acc < 128 ^ i → decU i acc xs = some (v, n) → U64 v
  | [], i, acc, v, n, _, _, _, _, h => by simp [decU] at h
  | b :: rest, i, acc, v, n, hx, hi, h0, h1, h => by
    have hb := hx b (by simp)
    have hb0 := hb.1
    have hb1 := hb.2
    unfold decU at h
    split at h
    · cases h
    · rename_i hnd
      have hpow : (128 : Int) ^ i ≤ 9223372036854775808 ∧ (i = 9 ∨ (128 : Int) ^ i ≤ 72057594037927936) := by
        have : i = 0 ∨ i = 1 ∨ i = 2 ∨ i = 3 ∨ i = 4 ∨ i = 5 ∨ i = 6 ∨ i = 7 ∨ i = 8 ∨ i = 9 := by omega
        rcases this with rfl | rfl | rfl | rfl | rfl | rfl | rfl | rfl | rfl | rfl <;> simp
      have hp0 : (0 : Int) < 128 ^ i := Int.pow_pos (by omega)
      have hm : 0 ≤ b % 128 ∧ b % 128 ≤ 127 := by omega
      have e : b % 128 * 128 ^ i ≤ 127 * 128 ^ i := Int.mul_le_mul_of_nonneg_right hm.2 (by omega)
      have e0 : 0 ≤ b % 128 * 128 ^ i := Int.mul_nonneg hm.1 (by omega)
      have e2 : (128 : Int) ^ (i + 1) = 128 * 128 ^ i := by rw [Int.pow_succ, Int.mul_comm]
      split at h
      · split at h
        · cases h
        · injection h with h; injection h with h2 h3
          rw [← h2]
          refine ⟨by omega, ?_⟩
          rcases hpow.2 with h9 | h9
          · have hb9 : b ≤ 1 := by
              rcases Int.lt_or_le 1 b with h | h
              · exact absurd ⟨h9, h⟩ hnd
              · exact h
            have : b % 128 = b := by omega
            rw [this]
            have : b * 128 ^ i ≤ 1 * 128 ^ i := Int.mul_le_mul_of_nonneg_right hb9 (by omega)
            omega
          · omega
      · rename_i hge
        have hi9 : i < 9 := by
          rcases Nat.lt_or_ge i 9 with h | h
          · exact h
          · exact absurd ⟨by omega, by omega⟩ hnd
        exact decU_u64 rest (i + 1) _ v n (fun c hc => hx c (by simp [hc])) (by omega) (by omega) (by omega) h
theorem uintD_u64 (xs : List Int) (hx : ∀ b ∈ xs, Byt b) : U64 (uintD xs).1 := by
  unfold uintD
  cases h : decU 0 0 xs with
  | none => exact ⟨by simp, by simp⟩
  | some p => obtain ⟨v, n⟩ := p; exact decU_u64 xs 0 0 v n hx (by omega) (by omega) (by simp) h
end Go.Proofs.YtepkcbalmjnhpaaGreat
