/-
  Plain laws of the models' combinators: how a loop's value is found.
-/
import Derived.Test.YtepkcbalmjnhpaaGreatEngT
set_option linter.unusedVariables false
set_option linter.unusedSimpArgs false
namespace Go.Proofs.YtepkcbalmjnhpaaGreat
theorem foldGo_spec {S : Type} {body : Nat → S → Option S} (f : Nat → S) : ∀ (m k : Nat), (∀ j, k ≤ j → j < k + m → body j (f j) = some (f (j + 1))) → foldGo body m k (f k) = some (f (k + m))
  | 0, k, _ => rfl
  | m + 1, k, h => by
    unfold foldGo
    rw [h k (Nat.le_refl _) (by omega), Option.bind_some, foldGo_spec f m (k + 1) (fun j h1 h2 => h j (by omega) (by omega)), show k + 1 + m = k + (m + 1) by omega]
theorem foldM_spec {S : Type} {mx n : Int} {body : Nat → S → Option S} {s0 : S} (N : Nat) (f : Nat → S) (h0 : f 0 = s0) (hn : n = (N : Int)) (hx : n ≤ mx) (h : ∀ j, j < N → body j (f j) = some (f (j + 1))) : foldM' mx n body s0 = some (f N) := by
  unfold foldM'
  rw [chk_pos hx, ← h0, hn, Int.toNat_natCast, foldGo_spec f N 0 (fun j _ h2 => h j (by omega)), Nat.zero_add]
theorem forGo_next {S E : Type} {body : Nat → S → Option (Ctl S E)} (f : Nat → S) : ∀ (m k : Nat), (∀ j, k ≤ j → j < k + m → body j (f j) = some (.next (f (j + 1)))) → forGo body m k (f k) = some (.next (f (k + m)))
  | 0, k, _ => rfl
  | m + 1, k, h => by
    unfold forGo
    rw [h k (Nat.le_refl _) (by omega)]
    show forGo body m (k + 1) (f (k + 1)) = _
    rw [forGo_next f m (k + 1) (fun j h1 h2 => h j (by omega) (by omega)), show k + 1 + m = k + (m + 1) by omega]
theorem forM_next {S E : Type} {mx n : Int} {body : Nat → S → Option (Ctl S E)} {s0 : S} (N : Nat) (f : Nat → S) (h0 : f 0 = s0) (hn : n = (N : Int)) (hx : n ≤ mx) (h : ∀ j, j < N → body j (f j) = some (.next (f (j + 1)))) : forM' mx n body s0 = some (.next (f N)) := by
  unfold forM'
  rw [chk_pos hx, ← h0, hn, Int.toNat_natCast, forGo_next f N 0 (fun j _ h2 => h j (by omega)), Nat.zero_add]
theorem forGo_done {S E : Type} {body : Nat → S → Option (Ctl S E)} (f : Nat → S) (e : E) : ∀ (i m k : Nat), i < m → (∀ j, k ≤ j → j < k + i → body j (f j) = some (.next (f (j + 1)))) → body (k + i) (f (k + i)) = some (.done e) → forGo body m k (f k) = some (.done e)
  | i, 0, k, hi, _, _ => by omega
  | 0, m + 1, k, _, _, he => by
    unfold forGo
    rw [Nat.add_zero] at he
    rw [he]; rfl
  | i + 1, m + 1, k, hi, h, he => by
    unfold forGo
    rw [h k (Nat.le_refl _) (by omega)]
    show forGo body m (k + 1) (f (k + 1)) = _
    exact forGo_done f e i m (k + 1) (by omega) (fun j h1 h2 => h j (by omega) (by omega)) (by rw [show k + 1 + i = k + (i + 1) by omega]; exact he)
theorem forM_done {S E : Type} {mx n : Int} {body : Nat → S → Option (Ctl S E)} {s0 : S} {e : E} (N i : Nat) (f : Nat → S) (h0 : f 0 = s0) (hn : n = (N : Int)) (hx : n ≤ mx) (hi : i < N) (h : ∀ j, j < i → body j (f j) = some (.next (f (j + 1)))) (he : body i (f i) = some (.done e)) : forM' mx n body s0 = some (.done e) := by
  unfold forM'
  rw [chk_pos hx, ← h0, hn, Int.toNat_natCast]
  exact forGo_done f e i N 0 hi (fun j _ h2 => h j (by omega)) (by rw [Nat.zero_add]; exact he)
theorem whileGo_spec {S E : Type} {step : S → Option (Ctl S E)} (f : Nat → S) (e : E) : ∀ (m k n : Nat), m < n → (∀ j, k ≤ j → j < k + m → step (f j) = some (.next (f (j + 1)))) → step (f (k + m)) = some (.done e) → whileGo step n (f k) = some e
  | m, k, 0, hn, _, _ => by omega
  | 0, k, n + 1, _, _, he => by
    unfold whileGo
    rw [Nat.add_zero] at he
    rw [he]; rfl
  | m + 1, k, n + 1, hn, h, he => by
    unfold whileGo
    rw [h k (Nat.le_refl _) (by omega)]
    show whileGo step n (f (k + 1)) = _
    exact whileGo_spec f e m (k + 1) n (by omega) (fun j h1 h2 => h j (by omega) (by omega)) (by rw [show k + 1 + m = k + (m + 1) by omega]; exact he)
theorem whileM_spec {S E : Type} {step : S → Option (Ctl S E)} {s0 : S} {e : E} (m : Nat) (f : Nat → S) (h0 : f 0 = s0) (hm : m < 1180591620717411303424) (h : ∀ j, j < m → step (f j) = some (.next (f (j + 1)))) (he : step (f m) = some (.done e)) : whileM step s0 = some e := by
  unfold whileM
  rw [← h0]
  exact whileGo_spec f e m 0 _ hm (fun j _ h2 => h j (by omega)) (by rw [Nat.zero_add]; exact he)
/-- the least round from which on the loop ends -/
theorem whileM_ind {S E : Type} {step : S → Option (Ctl S E)} {s0 : S} (I : S → Prop) (μ : S → Nat) (Q : E → Prop) (hI : I s0) (hb : μ s0 < 1180591620717411303424)
    (h : ∀ s, I s → (∃ s', step s = some (.next s') ∧ I s' ∧ μ s' < μ s) ∨ (∃ e, step s = some (.done e) ∧ Q e)) : ∃ e, whileM step s0 = some e ∧ Q e := by
  unfold whileM
  have : ∀ n s, I s → μ s < n → ∃ e, whileGo step n s = some e ∧ Q e := by
    intro n
    induction n with
    | zero => intro s _ h; omega
    | succ n ih =>
      intro s hs hm
      rcases h s hs with ⟨s', h1, h2, h3⟩ | ⟨e, h1, h2⟩
      · obtain ⟨e, k1, k2⟩ := ih s' h2 (by omega)
        refine ⟨e, ?_, k2⟩
        unfold whileGo
        rw [h1]; exact k1
      · refine ⟨e, ?_, h2⟩
        unfold whileGo
        rw [h1]; rfl
  exact this _ s0 hI hb
theorem forM_ind {S E : Type} {mx n : Int} {body : Nat → S → Option (Ctl S E)} {s0 : S} (I : Nat → S → Prop) (Q : Ctl S E → Prop) (hx : n ≤ mx) (hn : 0 ≤ n) (hI : I 0 s0)
    (h : ∀ (k : Nat) s, (k : Int) < n → I k s → (∃ s', body k s = some (.next s') ∧ I (k + 1) s') ∨ (∃ e, body k s = some (.done e) ∧ Q (.done e))) (hq : ∀ s, I n.toNat s → Q (.next s)) : ∃ t, forM' mx n body s0 = some t ∧ Q t := by
  unfold forM'
  rw [chk_pos hx]
  have : ∀ m k s, m + k = n.toNat → I k s → ∃ t, forGo body m k s = some t ∧ Q t := by
    intro m
    induction m with
    | zero => intro k s hk hs; exact ⟨_, rfl, hq s (by rw [← hk, Nat.zero_add]; exact hs)⟩
    | succ m ih =>
      intro k s hk hs
      rcases h k s (by omega) hs with ⟨s', h1, h2⟩ | ⟨e, h1, h2⟩
      · obtain ⟨t, k1, k2⟩ := ih (k + 1) s' (by omega) h2
        refine ⟨t, ?_, k2⟩
        unfold forGo
        rw [h1]; exact k1
      · refine ⟨_, ?_, h2⟩
        unfold forGo
        rw [h1]; rfl
  exact this n.toNat 0 s0 (by omega) hI
theorem wrap_i64 {n : Int} (h1 : -9223372036854775808 ≤ n) (h2 : n ≤ 9223372036854775807) : IntKind.wrap .i64 n = n := wrap_in (k := .i64) ⟨h1, h2⟩
theorem wrap_u64 {n : Int} (h1 : 0 ≤ n) (h2 : n ≤ 18446744073709551615) : IntKind.wrap .u64 n = n := wrap_in (k := .u64) ⟨h1, h2⟩
theorem wrap_u8 {n : Int} (h1 : 0 ≤ n) (h2 : n ≤ 255) : IntKind.wrap .u8 n = n := wrap_in (k := .u8) ⟨h1, h2⟩
theorem and_mask {x : Int} (m : Nat) (hm : m ≤ 63) (h : 0 ≤ x) (hx : x < 18446744073709551616) : bitI .and .u64 x (2 ^ m - 1) = x % 2 ^ m := by
  obtain ⟨n, rfl⟩ := Int.eq_ofNat_of_zero_le h
  have hp : (2 : Nat) ^ m ≤ 2 ^ 63 := Nat.pow_le_pow_right (by omega) hm
  have hpos : 0 < (2 : Nat) ^ m := Nat.pow_pos (by omega)
  have e1 : ((2 : Int) ^ m - 1) = ((2 ^ m - 1 : Nat) : Int) := by
    rw [Int.natCast_sub (by omega), Int.natCast_pow]; rfl
  have hn : n < 18446744073709551616 := by omega
  have hand : n % 2 ^ m ≤ n := Nat.mod_le _ _
  have e2 : ((n : Int) % 2 ^ m) = ((n % 2 ^ m : Nat) : Int) := by
    rw [Int.natCast_emod, Int.natCast_pow]; rfl
  rw [e1, e2]
  have t0 : bitI .and .u64 ((n : Nat) : Int) ((2 ^ m - 1 : Nat) : Int) = IntKind.wrap .u64 (((BitVec.ofInt 64 ((n : Nat) : Int) &&& BitVec.ofInt 64 ((2 ^ m - 1 : Nat) : Int)).toNat : Nat) : Int) := rfl
  rw [t0]
  have t1 : BitVec.ofInt 64 ((n : Nat) : Int) = BitVec.ofNat 64 n := BitVec.ofInt_natCast 64 n
  have t2 : BitVec.ofInt 64 ((2 ^ m - 1 : Nat) : Int) = BitVec.ofNat 64 (2 ^ m - 1) := BitVec.ofInt_natCast 64 _
  rw [t1, t2, BitVec.toNat_and, BitVec.toNat_ofNat, BitVec.toNat_ofNat, Nat.mod_eq_of_lt (by omega), Nat.mod_eq_of_lt (by omega), Nat.and_two_pow_sub_one_eq_mod]
  exact wrap_u64 (by omega) (by omega)
theorem idx_some {α : Type} {xs : List α} {k : Nat} {x : α} (h : xs[k]? = some x) : idx xs (k : Int) = some x := by rw [idx_nat]; exact h
theorem idx_lt_some {α : Type} {xs : List α} {i : Int} (h0 : 0 ≤ i) (h1 : i < xs.length) : ∃ x, idx xs i = some x ∧ xs[i.toNat]? = some x := by
  have hlt : i.toNat < xs.length := by omega
  refine ⟨xs[i.toNat], ?_, List.getElem?_eq_getElem hlt⟩
  rw [idx, if_pos h0, List.getElem?_eq_getElem hlt]
end Go.Proofs.YtepkcbalmjnhpaaGreat
