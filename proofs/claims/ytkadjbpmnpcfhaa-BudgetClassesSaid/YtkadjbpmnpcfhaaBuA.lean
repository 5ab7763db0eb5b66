/-
  Plain laws of the budget: classes, evenly spread numbers, the greatest number that fits, what Plan computes.
-/
import Derived.Test.YtkadjbpmnpcfhaaGBuC
import Derived.Test.YtkadjbpmnpcfhaaPlM
set_option maxRecDepth 100000
set_option maxHeartbeats 2000000
set_option linter.unusedVariables false
set_option linter.unusedSimpArgs false
namespace Go.Proofs.Ytkadjbpmnpcfhaa
/-! classes -/
def ofc (e : api_Event) : Int :=
  if e.gKind = 1 ∨ e.gKind = 2 ∨ e.gKind = 3 ∨ e.gKind = 4 ∨ e.gKind = 11 then 1
  else if e.gKind = 5 ∨ e.gKind = 6 then 2
  else if e.gKind = 8 ∨ e.gKind = 9 then 3
  else if e.gKind = 10 then (if e.gCopy = 1 then 1 else 3)
  else if e.gKind = 7 then 4 else 0
theorem of_eq (e : api_Event) : budget_Of e = some (ofc e) := by
  unfold budget_Of budget_Of_K3 budget_Of_K6 budget_Of_K9 budget_Of_K1 ofc
  generalize e.gKind = k
  generalize e.gCopy = c
  by_cases h1 : k = 1 <;> by_cases h2 : k = 2 <;> by_cases h3 : k = 3 <;> by_cases h4 : k = 4 <;> by_cases h5 : k = 5 <;> by_cases h6 : k = 6 <;> by_cases h7 : k = 7 <;> by_cases h8 : k = 8 <;> by_cases h9 : k = 9 <;> by_cases h10 : k = 10 <;> by_cases h11 : k = 11 <;> first | (exfalso; omega; done) | (by_cases hc : c = 1 <;> simp [h1, h2, h3, h4, h5, h6, h7, h8, h9, h10, h11, hc])
theorem rof_eq (e : api_Event) : rootcauseref27_Of e = some (ofc e) := by
  unfold rootcauseref27_Of rootcauseref27_Of_K3 rootcauseref27_Of_K8 rootcauseref27_Of_K11 rootcauseref27_Of_K1 ofc
  generalize e.gKind = k
  generalize e.gCopy = c
  by_cases h1 : k = 1 <;> by_cases h2 : k = 2 <;> by_cases h3 : k = 3 <;> by_cases h4 : k = 4 <;> by_cases h5 : k = 5 <;> by_cases h6 : k = 6 <;> by_cases h7 : k = 7 <;> by_cases h8 : k = 8 <;> by_cases h9 : k = 9 <;> by_cases h10 : k = 10 <;> by_cases h11 : k = 11 <;> first | (exfalso; omega; done) | (by_cases hc : c = 1 <;> simp [h1, h2, h3, h4, h5, h6, h7, h8, h9, h10, h11, hc])
theorem ofc_range (e : api_Event) : 0 ≤ ofc e ∧ ofc e ≤ 4 := by
  unfold ofc
  repeat' split
  all_goals omega
/-! share -/
theorem and32 {x : Int} (h : 0 ≤ x) (hx : x < 18446744073709551616) : bitI .and .u64 x 4294967295 = x % 4294967296 := by
  have := and_mask (x := x) 32 (by omega) h hx
  have e : ((2 : Int) ^ 32 - 1) = 4294967295 := by decide
  have e2 : ((2 : Int) ^ 32) = 4294967296 := by decide
  rw [e, e2] at this; exact this
theorem mul_small {x y : Int} (h0 : 0 ≤ x) (h1 : x < 65536) (h2 : 0 ≤ y) (h3 : y < 65536) : math_bits_Mul64 x y = some (0, x * y) := by
  have hp0 : 0 ≤ x * y := Int.mul_nonneg h0 h2
  have hp : x * y ≤ 65535 * 65535 := Int.le_trans (Int.mul_le_mul_of_nonneg_right (show x ≤ 65535 by omega) h2) (Int.mul_le_mul_of_nonneg_left (show y ≤ 65535 by omega) (by omega))
  unfold math_bits_Mul64
  have e : (2 : Int) ^ min (Int.toNat 32) (IntKind.bits .u64) = 4294967296 := by decide
  rw [e, and32 h0 (by omega), and32 h2 (by omega), Int.fdiv_eq_ediv_of_nonneg _ (by omega), Int.fdiv_eq_ediv_of_nonneg _ (by omega)]
  have a1 : x / 4294967296 = 0 := by omega
  have a2 : y / 4294967296 = 0 := by omega
  have a3 : x % 4294967296 = x := by omega
  have a4 : y % 4294967296 = y := by omega
  rw [a1, a2, a3, a4, wrap_u64 hp0 (by omega)]
  simp only [Int.zero_mul, Int.mul_zero, Int.fdiv_eq_ediv_of_nonneg _ (show (0 : Int) ≤ 4294967296 by omega)]
  have a5 : x * y / 4294967296 = 0 := by omega
  rw [a5]
  have w0 : IntKind.wrap .u64 0 = 0 := by decide
  simp only [w0, Int.add_zero, Int.zero_ediv]
  rw [and32 (by omega) (by omega)]
  simp only [Int.zero_emod, w0, Int.zero_ediv, Int.add_zero]
theorem div_small {x y : Int} (h0 : 0 ≤ x) (h1 : x < 18446744073709551616) (h2 : 0 < y) : math_bits_Div64 0 x y = some (x / y, x % y) := by
  unfold math_bits_Div64 math_bits_Div64_K1 math_bits_Div64_K2
  have e1 : (y == 0) = false := by simp; omega
  have e2 : decide (y ≤ 0) = false := by simp; omega
  rw [e1, e2]
  simp only [Bool.false_eq_true, if_false, beq_self_eq_true, if_true]
  have hd : x / y ≤ x := Int.ediv_le_self _ h0
  have hd0 : 0 ≤ x / y := Int.ediv_nonneg h0 (by omega)
  rw [chk_pos ⟨h0, h2, by simp only [InR]; omega⟩, chk_pos ⟨h0, h2⟩]
theorem share_eq {i n m : Int} (hi : 0 ≤ i) (hi2 : i < 65536) (hn : 0 ≤ n) (hn2 : n < 65536) (hm : 0 < m) (hm2 : m < 65536) : budget_share i n m = some (i * n / m) := by
  have hp0 : 0 ≤ i * n := Int.mul_nonneg hi hn
  have hp : i * n ≤ 65535 * 65535 := Int.le_trans (Int.mul_le_mul_of_nonneg_right (show i ≤ 65535 by omega) hn) (Int.mul_le_mul_of_nonneg_left (show n ≤ 65535 by omega) (by omega))
  unfold budget_share
  rw [wrap_u64 hi (by omega), wrap_u64 hn (by omega), wrap_u64 (by omega) (by omega), mul_small hi hi2 hn hn2, Option.bind_some, div_small hp0 (by omega) hm, Option.bind_some]
  have hd : i * n / m ≤ i * n := Int.ediv_le_self _ hp0
  have hd0 : 0 ≤ i * n / m := Int.ediv_nonneg hp0 (by omega)
  rw [wrap_i64 (by omega) (by omega)]
/-! evenly spread numbers -/
def sp (n m i : Nat) : Nat := i * n / m
def spr (n m : Nat) : List Int := (List.range m).map fun i => (sp n m i : Int)
theorem spr_len (n m : Nat) : (spr n m).length = m := by simp [spr]
theorem sp_lt {n m i : Nat} (hi : i < m) (hn : 0 < n) : sp n m i < n := by
  unfold sp
  rw [Nat.div_lt_iff_lt_mul (by omega), Nat.mul_comm n m]
  exact Nat.mul_lt_mul_of_pos_right hi hn
theorem sp_int (n m i : Nat) : ((i : Int) * (n : Int) / (m : Int)) = ((sp n m i : Nat) : Int) := by
  unfold sp; rw [Int.natCast_ediv, Int.natCast_mul]
theorem range_succ_map {α : Type} (k : Nat) (g : Nat → α) : (List.range (k + 1)).map g = (List.range k).map g ++ [g k] := by
  rw [List.range_succ, List.map_append]; rfl
theorem spread_eq (n m : Int) (hn : n < 65536) : budget_Spread n m = some (spr n.toNat (min n.toNat m.toNat)) := by
  unfold budget_Spread
  by_cases h : n < 1 ∨ m < 1
  · have e : (decide (n < 1) || decide (m < 1)) = true := by simp; exact h
    rw [e, if_pos rfl]
    have : min n.toNat m.toNat = 0 := by omega
    rw [this]; rfl
  · have e : (decide (n < 1) || decide (m < 1)) = false := by simp; omega
    rw [e, if_neg (by decide)]
    have hm : (if m < n then m else n) = ((min n.toNat m.toNat : Nat) : Int) := by split <;> omega
    obtain ⟨N, hN⟩ : ∃ N : Nat, n = (N : Int) := ⟨n.toNat, by omega⟩
    subst hN
    simp only [Int.toNat_natCast] at *
    generalize hM : min N m.toNat = M at *
    have hM1 : 0 < M := by omega
    have hM2 : M ≤ N := by omega
    rw [hm, chk_pos (by unfold mkOk; omega)]
    have : foldM' 9223372036854775807 (M : Int) (fun k5 s => budget_Spread_L7 (N : Int) m k5 s) ([] : List Int) = some (spr N M) := by
      refine foldM_spec M (fun k => (List.range k).map fun i => (sp N M i : Int)) rfl rfl (by omega) (fun j hj => ?_)
      simp only [budget_Spread_L7, hm]
      rw [share_eq (by omega) (by omega) (by omega) (by omega) (by omega) (by omega), Option.bind_some, sp_int, chk_pos (by simp [apOk]; omega), range_succ_map]
    rw [this]; rfl
theorem rspread_eq (n m : Int) (hn : n < 65536) (hn' : -65536 < n) : rootcauseref27_Spread n m = some (spr n.toNat (min n.toNat m.toNat)) := by
  have key : ∀ m' : Int, m' ≤ n → rootcauseref27_Spread_K2 n m' = some (spr n.toNat m'.toNat) := by
    intro m' hm'
    unfold rootcauseref27_Spread_K2
    have : whileM (E := List Int) (fun s => rootcauseref27_Spread_L7 n m' s.1 s.2) (([] : List Int), 0) = some (spr n.toNat m'.toNat) := by
      refine whileM_spec m'.toNat (fun k => ((List.range k).map fun i => (sp n.toNat m'.toNat i : Int), (k : Int))) rfl (by omega) (fun j hj => ?_) ?_
      · simp only [rootcauseref27_Spread_L7]
        have e : decide ((j : Int) < m') = true := by simp; omega
        have hp0 : 0 ≤ (j : Int) * n := Int.mul_nonneg (by omega) (by omega)
        have hp : (j : Int) * n ≤ 65535 * 65535 := Int.le_trans (Int.mul_le_mul_of_nonneg_right (show (j : Int) ≤ 65535 by omega) (by omega)) (Int.mul_le_mul_of_nonneg_left (show n ≤ 65535 by omega) (by omega))
        have hd : (j : Int) * n / m' ≤ (j : Int) * n := Int.ediv_le_self _ hp0
        have hd0 : 0 ≤ (j : Int) * n / m' := Int.ediv_nonneg hp0 (by omega)
        rw [e, if_pos rfl, wrap_i64 (by omega) (by omega), chk_pos ⟨hp0, by omega, by simp only [InR]; omega⟩, chk_pos (by simp [apOk]; omega), wrap_i64 (by omega) (by omega), range_succ_map]
        have e2 : (j : Int) * n / m' = ((sp n.toNat m'.toNat j : Nat) : Int) := by
          rw [← sp_int, Int.toNat_of_nonneg (by omega), Int.toNat_of_nonneg (by omega)]
        rw [e2]; rfl
      · simp only [rootcauseref27_Spread_L7]
        have e : decide (((m'.toNat : Nat) : Int) < m') = false := by simp; omega
        rw [e, if_neg (by decide)]; rfl
    rw [this]; rfl
  unfold rootcauseref27_Spread
  by_cases h : n < m
  · have e : decide (n < m) = true := by simp; exact h
    rw [e, if_pos rfl, key n (Int.le_refl _)]
    congr 2; omega
  · have e : decide (n < m) = false := by simp; omega
    rw [e, if_neg (by decide), key m (by omega)]
    congr 2; omega
/-! sums over evenly spread entries -/
def psum (ss : List Int) (m k : Nat) : Int := ((List.range k).map fun i => ss.getD (sp ss.length m i) 0).sum
def ssum (ss : List Int) (m : Nat) : Int := psum ss m m
def Szs (ss : List Int) : Prop := ∀ s ∈ ss, 1 ≤ s ∧ s ≤ 400
theorem psum_zero (ss : List Int) (m : Nat) : psum ss m 0 = 0 := rfl
theorem psum_succ (ss : List Int) (m k : Nat) : psum ss m (k + 1) = psum ss m k + ss.getD (sp ss.length m k) 0 := by
  unfold psum
  rw [range_succ_map, List.sum_append]; simp
theorem getD_range {ss : List Int} (hs : Szs ss) {i : Nat} (hi : i < ss.length) : 1 ≤ ss.getD i 0 ∧ ss.getD i 0 ≤ 400 := by
  rw [List.getD_eq_getElem?_getD, List.getElem?_eq_getElem hi]
  exact hs _ (List.getElem_mem hi)
theorem psum_le {ss : List Int} (hs : Szs ss) {m : Nat} (hm : m ≤ ss.length) : ∀ k, k ≤ m → (k : Int) ≤ psum ss m k ∧ psum ss m k ≤ 400 * k
  | 0, _ => by rw [psum_zero]; omega
  | k + 1, h => by
    have ih := psum_le hs hm k (by omega)
    have := getD_range hs (sp_lt (n := ss.length) (m := m) (i := k) (by omega) (by omega))
    rw [psum_succ]; omega
theorem psum_mono {ss : List Int} (hs : Szs ss) {m : Nat} (hm : m ≤ ss.length) {k : Nat} : ∀ j, k + j ≤ m → psum ss m k ≤ psum ss m (k + j)
  | 0, _ => Int.le_refl _
  | j + 1, h => by
    have ih := psum_mono hs hm (k := k) j (by omega)
    have := getD_range hs (sp_lt (n := ss.length) (m := m) (i := k + j) (by omega) (by omega))
    rw [← Nat.add_assoc, psum_succ]; omega
theorem ssum_range {ss : List Int} (hs : Szs ss) {m : Nat} (hm : m ≤ ss.length) : (m : Int) ≤ ssum ss m ∧ ssum ss m ≤ 400 * m := psum_le hs hm m (Nat.le_refl _)
def pickGo (ss : List Int) (left : Int) : Nat → Nat
  | 0 => 0
  | m + 1 => if ssum ss (m + 1) ≤ left then m + 1 else pickGo ss left m
def pick (ss : List Int) (left : Int) : Nat := pickGo ss left ss.length
theorem pickGo_le (ss : List Int) (left : Int) : ∀ m, pickGo ss left m ≤ m
  | 0 => Nat.le_refl _
  | m + 1 => by
    unfold pickGo
    split
    · exact Nat.le_refl _
    · exact Nat.le_succ_of_le (pickGo_le ss left m)
theorem pick_le (ss : List Int) (left : Int) : pick ss left ≤ ss.length := pickGo_le _ _ _
theorem pickGo_fits (ss : List Int) {left : Int} (h : 0 ≤ left) : ∀ m, ssum ss (pickGo ss left m) ≤ left
  | 0 => by unfold pickGo; exact h
  | m + 1 => by
    unfold pickGo
    split
    · assumption
    · exact pickGo_fits ss h m
theorem pick_fits (ss : List Int) {left : Int} (h : 0 ≤ left) : ssum ss (pick ss left) ≤ left := pickGo_fits ss h _
theorem pickGo_max (ss : List Int) {left : Int} : ∀ m j, j ≤ m → ssum ss j ≤ left → j ≤ pickGo ss left m
  | 0, j, hj, _ => by omega
  | m + 1, j, hj, h => by
    unfold pickGo
    split
    · exact hj
    · rename_i hn
      by_cases he : j = m + 1
      · subst he; exact absurd h hn
      · exact pickGo_max ss m j (by omega) h
theorem pick_max (ss : List Int) {left : Int} {j : Nat} (hj : j ≤ ss.length) (h : ssum ss j ≤ left) : j ≤ pick ss left := pickGo_max ss _ _ hj h
theorem pick_mono (ss : List Int) {l l' : Int} (h0 : 0 ≤ l) (h : l ≤ l') : pick ss l ≤ pick ss l' := pick_max ss (pick_le _ _) (Int.le_trans (pick_fits ss h0) h)
theorem pick_zero {ss : List Int} (hs : Szs ss) : pick ss 0 = 0 := by
  have h1 := pick_fits ss (left := 0) (by omega)
  have h2 := (ssum_range hs (pick_le ss 0)).1
  omega
/-! most -/
theorem inner_eq {ss : List Int} (hs : Szs ss) (hl : ss.length < 65536) {m : Nat} (h0 : 0 < m) (hm : m ≤ ss.length) (left : Int) :
    ∃ e, whileM (E := Int) (fun s => budget_most_L12 ss left (m : Int) s.1 s.2) (0, 0) = some e ∧ ((ssum ss m ≤ left → e = ssum ss m) ∧ (left < ssum ss m → left < e)) := by
  refine whileM_ind (fun s => ∃ k : Nat, k ≤ m ∧ s = (psum ss m k, (k : Int))) (fun s => m - s.2.toNat) _ ⟨0, by omega, rfl⟩ (by simp only []; omega) ?_
  rintro s ⟨k, hk, rfl⟩
  have hb := psum_le hs hm k hk
  simp only [budget_most_L12]
  by_cases hc : (k : Int) < (m : Int) ∧ psum ss m k ≤ left
  · left
    have e : (decide ((k : Int) < (m : Int)) && decide (psum ss m k ≤ left)) = true := by simp; omega
    have hlt := sp_lt (n := ss.length) (m := m) (i := k) (by omega) (by omega)
    have hg := getD_range hs hlt
    refine ⟨(psum ss m (k + 1), ((k + 1 : Nat) : Int)), ?_, ⟨k + 1, by omega, rfl⟩, by simp only [Int.toNat_natCast]; omega⟩
    rw [e, if_pos rfl, share_eq (by omega) (by omega) (by omega) (by omega) (by omega) (by omega), Option.bind_some, sp_int]
    have hi : idx ss ((sp ss.length m k : Nat) : Int) = some (ss.getD (sp ss.length m k) 0) := by
      rw [idx_nat, List.getElem?_eq_getElem hlt, List.getD_eq_getElem?_getD, List.getElem?_eq_getElem hlt]; rfl
    rw [hi, Option.bind_some, psum_succ, wrap_i64 (by omega) (by omega), wrap_i64 (by omega) (by omega)]
    simp
  · right
    have e : (decide ((k : Int) < (m : Int)) && decide (psum ss m k ≤ left)) = false := by
      rw [Bool.and_eq_false_iff]; simp only [decide_eq_false_iff_not]; omega
    refine ⟨psum ss m k, by rw [e, if_neg (by decide)], ?_⟩
    by_cases he : k = m
    · subst he; exact ⟨fun _ => rfl, fun h => h⟩
    · have hmo := psum_mono hs hm (k := k) (m - k) (by omega)
      rw [show k + (m - k) = m by omega] at hmo
      unfold ssum
      exact ⟨fun h => by omega, fun h => by omega⟩
theorem most_eq {ss : List Int} (hs : Szs ss) (hl : ss.length < 65536) (left : Int) : budget_most ss left = some ((pick ss left : Int), ssum ss (pick ss left)) := by
  unfold budget_most
  obtain ⟨e, h1, h2⟩ := whileM_ind (step := fun s => budget_most_L3 ss left s) (s0 := (List.length ss : Int)) (fun s => ∃ m : Nat, m ≤ ss.length ∧ s = (m : Int) ∧ pick ss left = pickGo ss left m) (fun s => s.toNat)
    (fun e => (e = .inl () ∧ pick ss left = 0) ∨ e = .inr ((pick ss left : Int), ssum ss (pick ss left))) ⟨ss.length, Nat.le_refl _, rfl, rfl⟩ (by simp only [Int.toNat_natCast]; omega) (by
    rintro s ⟨m, hm, rfl, hp⟩
    simp only [budget_most_L3]
    cases m with
    | zero =>
      right
      exact ⟨.inl (), by simp, .inl ⟨rfl, hp⟩⟩
    | succ m =>
      have e : decide ((0 : Int) < ((m + 1 : Nat) : Int)) = true := decide_eq_true (by omega)
      rw [e, if_pos rfl]
      obtain ⟨x, k1, k2, k3⟩ := inner_eq hs hl (Nat.succ_pos m) hm left
      rw [k1, Option.bind_some]
      simp only [budget_most_K8, budget_most_K6]
      unfold pickGo at hp
      by_cases hc : ssum ss (m + 1) ≤ left
      · right
        rw [if_pos hc] at hp
        have := k2 hc
        subst this
        have e2 : decide (ssum ss (m + 1) ≤ left) = true := by simp; exact hc
        rw [e2, if_pos rfl]
        exact ⟨_, rfl, .inr (by rw [hp])⟩
      · left
        rw [if_neg hc] at hp
        have := k3 (Int.not_le.1 hc)
        have e2 : decide (x ≤ left) = false := by simp; exact this
        rw [e2, if_neg (by decide), wrap_i64 (by omega) (by omega), show ((m + 1 : Nat) : Int) - 1 = (m : Int) by omega]
        exact ⟨(m : Int), rfl, ⟨m, by omega, rfl, hp⟩, by simp only [Int.toNat_natCast]; omega⟩)
  rw [h1]
  rcases h2 with ⟨rfl, hz⟩ | rfl
  · rw [hz]; rfl
  · rfl
def posN (cf : Nat → Int) (N : Nat) (c : Int) : List Nat := (List.range N).filter fun i => cf i == c
def szN (cf sf : Nat → Int) (N : Nat) (c : Int) : List Int := (posN cf N c).map sf
def selP (ps : List Nat) (v j i : Nat) : Bool := (List.range j).any fun t => ps.getD (sp ps.length v t) 0 == i
def kp (cf : Nat → Int) (N : Nat) (m : Int → Nat) (i : Nat) : Bool := decide (cf i < 0) || selP (posN cf N (cf i)) (m (cf i)) (m (cf i)) i
def keepL (cf : Nat → Int) (N : Nat) (m : Int → Nat) : List Bool := (List.range N).map (kp cf N m)
def updm (m : Int → Nat) (c : Int) (v : Nat) : Int → Nat := fun x => if x = c then v else m x
def allo (cf sf : Nat → Int) (N : Nat) : List Int → (Int → Nat) → Int → Int → (Int → Nat) × Int
  | [], m, used, left => (m, used)
  | c :: cs, m, used, left =>
    if pick (szN cf sf N c) left < (posN cf N c).length then (updm m c (pick (szN cf sf N c) left), used + ssum (szN cf sf N c) (pick (szN cf sf N c) left))
    else allo cf sf N cs (updm m c (pick (szN cf sf N c) left)) (used + ssum (szN cf sf N c) (pick (szN cf sf N c) left)) (left - ssum (szN cf sf N c) (pick (szN cf sf N c) left))
def usedN (cf sf : Nat → Int) (N : Nat) : Int := ((List.range N).map fun i => if cf i < 0 then sf i else 0).sum
theorem posN_succ (cf : Nat → Int) (k : Nat) (c : Int) : posN cf (k + 1) c = if cf k = c then posN cf k c ++ [k] else posN cf k c := by
  unfold posN
  rw [List.range_succ, List.filter_append]
  by_cases h : cf k = c <;> simp [h]
theorem szN_succ (cf sf : Nat → Int) (k : Nat) (c : Int) : szN cf sf (k + 1) c = if cf k = c then szN cf sf k c ++ [sf k] else szN cf sf k c := by
  unfold szN
  rw [posN_succ]
  split <;> simp
theorem posN_len (cf : Nat → Int) (N : Nat) (c : Int) : (posN cf N c).length ≤ N := by
  unfold posN
  exact Nat.le_trans (List.length_filter_le _ _) (by simp)
theorem szN_len (cf sf : Nat → Int) (N : Nat) (c : Int) : (szN cf sf N c).length = (posN cf N c).length := by simp [szN]
theorem mem_posN {cf : Nat → Int} {N : Nat} {c : Int} {i : Nat} : i ∈ posN cf N c ↔ i < N ∧ cf i = c := by simp [posN]
theorem usedN_succ (cf sf : Nat → Int) (k : Nat) : usedN cf sf (k + 1) = usedN cf sf k + (if cf k < 0 then sf k else 0) := by
  unfold usedN
  rw [range_succ_map, List.sum_append]; simp
theorem szN_szs {cf sf : Nat → Int} {N : Nat} (h : ∀ i, i < N → 1 ≤ sf i ∧ sf i ≤ 400) (c : Int) : Szs (szN cf sf N c) := by
  intro s hs
  simp only [szN, List.mem_map] at hs
  obtain ⟨i, hi, rfl⟩ := hs
  exact h i (mem_posN.1 hi).1
theorem usedN_range {cf sf : Nat → Int} {N : Nat} (h : ∀ i, i < N → 1 ≤ sf i ∧ sf i ≤ 400) : ∀ k, k ≤ N → 0 ≤ usedN cf sf k ∧ usedN cf sf k ≤ 400 * k
  | 0, _ => by simp [usedN]
  | k + 1, hk => by
    have ih := usedN_range (cf := cf) h k (by omega)
    have := h k (by omega)
    rw [usedN_succ]
    split <;> omega
theorem set_range (N p : Nat) (g : Nat → Bool) : ((List.range N).map g).set p true = (List.range N).map fun i => g i || (p == i) := by
  apply List.ext_getElem?
  intro i
  rw [List.getElem?_set, List.getElem?_map, List.getElem?_map, List.length_map, List.length_range]
  by_cases h : p = i
  · subst h
    by_cases hp : p < N
    · rw [if_pos rfl, if_pos hp, List.getElem?_range hp]; simp
    · rw [if_pos rfl, if_neg hp, List.getElem?_eq_none (by simp; omega)]; rfl
  · rw [if_neg h]
    have : (p == i) = false := by simp [h]
    by_cases hi : i < N
    · rw [List.getElem?_range hi]; simp [this]
    · rw [List.getElem?_eq_none (by simp; omega)]; rfl
theorem selP_zero (ps : List Nat) (v i : Nat) : selP ps v 0 i = false := rfl
theorem selP_succ (ps : List Nat) (v j i : Nat) : selP ps v (j + 1) i = (selP ps v j i || (ps.getD (sp ps.length v j) 0 == i)) := by
  unfold selP
  rw [List.range_succ, List.any_append]; simp
theorem spr_get {n v j : Nat} (h : j < v) : (spr n v)[j]? = some ((sp n v j : Nat) : Int) := by
  unfold spr
  rw [List.getElem?_map, List.getElem?_range h]; rfl
theorem mark_eq (P : List Nat) (N v : Nat) (hN : N < 65536) (hP : ∀ p ∈ P, p < N) (hv : v ≤ P.length) (hPl : P.length ≤ N) (g : Nat → Bool) :
    foldM' 9223372036854775807 (List.length (spr P.length v) : Int) (fun k s => budget_Plan_L41 (P.map Int.ofNat) (spr P.length v) k s) ((List.range N).map g) = some ((List.range N).map fun i => g i || selP P v v i) := by
  have e0 : (List.range N).map g = (List.range N).map fun i => g i || selP P v 0 i := by simp [selP_zero]
  rw [e0]
  refine foldM_spec v (fun j => (List.range N).map fun i => g i || selP P v j i) rfl (by rw [spr_len]) (by rw [spr_len]; omega) (fun j hj => ?_)
  have hlt := sp_lt (n := P.length) (m := v) (i := j) hj (by omega)
  have hp : P.getD (sp P.length v j) 0 < N := by
    rw [List.getD_eq_getElem?_getD, List.getElem?_eq_getElem hlt]; exact hP _ (List.getElem_mem hlt)
  simp only [budget_Plan_L41]
  have i1 : idx (P.map Int.ofNat) ((sp P.length v j : Nat) : Int) = some ((P.getD (sp P.length v j) 0 : Nat) : Int) := by
    rw [idx_nat, List.getElem?_map, List.getElem?_eq_getElem hlt, List.getD_eq_getElem?_getD, List.getElem?_eq_getElem hlt]; rfl
  rw [idx_some (spr_get hj), Option.bind_some, i1, Option.bind_some]
  generalize hpe : P.getD (sp P.length v j) 0 = p at *
  have i2 : ∃ b, idx ((List.range N).map fun i => g i || selP P v j i) ((p : Nat) : Int) = some b := by
    rw [idx_nat, List.getElem?_map, List.getElem?_range hp]; exact ⟨_, rfl⟩
  obtain ⟨b, hb⟩ := i2
  rw [hb, Option.bind_some, Int.toNat_natCast, set_range]
  congr 2
  funext i
  rw [selP_succ, hpe, Bool.or_assoc]
theorem ofNat_cast (P : List Nat) : P.map Int.ofNat = P.map (fun i => ((i : Nat) : Int)) := rfl
theorem selP_mem {ps : List Nat} {v j i : Nat} (hv : v ≤ ps.length) (hj : j ≤ v) (h : selP ps v j i = true) : i ∈ ps := by
  unfold selP at h
  rw [List.any_eq_true] at h
  obtain ⟨t, ht, he⟩ := h
  rw [List.mem_range] at ht
  have hlt := sp_lt (n := ps.length) (m := v) (i := t) (by omega) (by omega)
  rw [beq_iff_eq, List.getD_eq_getElem?_getD, List.getElem?_eq_getElem hlt] at he
  rw [← he]; exact List.getElem_mem hlt
theorem kp_upd {cf : Nat → Int} {N : Nat} {m : Int → Nat} {c : Int} {v : Nat} (hc : 0 ≤ c) (hm : m c = 0) (hv : v ≤ (posN cf N c).length) (i : Nat) : (kp cf N m i || selP (posN cf N c) v v i) = kp cf N (updm m c v) i := by
  unfold kp updm
  by_cases h : cf i = c
  · rw [h, if_pos rfl, hm, selP_zero, Bool.or_false]
  · rw [if_neg h]
    have : selP (posN cf N c) v v i = false := by
      rw [Bool.eq_false_iff]
      intro hs
      exact h (mem_posN.1 (selP_mem hv (Nat.le_refl _) hs)).2
    rw [this, Bool.or_false]
/-- one class -/
def one (P S : List Int) (keep : List Bool) (used left : Int) : Option (Ctl (List Bool × Int × Int) (List Bool × Int)) :=
  (budget_most S left).bind fun v33 =>
  (budget_Spread (List.length P : Int) v33.1).bind fun v38 =>
  (foldM' 9223372036854775807 (List.length v38 : Int) (fun k39 s => budget_Plan_L41 P v38 k39 s) keep).bind fun s => budget_Plan_K35 P used left v33 s
theorem L22_eq (p0 p1 p2 p3 p4 s0 s1 s2 s3 s4 : List Int) (k : Nat) (keep : List Bool) (used left : Int) : budget_Plan_L22 p0 p1 p2 p3 p4 s0 s1 s2 s3 s4 k keep used left =
    (idx ([1, 2, 3, 4, 0] : List Int) (k : Int)).bind fun v =>
      if (v == 0) = true then one p0 s0 keep used left else if (v == 1) = true then one p1 s1 keep used left else if (v == 2) = true then one p2 s2 keep used left else if (v == 3) = true then one p3 s3 keep used left else if (v == 4) = true then one p4 s4 keep used left else none := rfl
theorem one_eq {cf sf : Nat → Int} {N : Nat} (hN : N ≤ 1000) (hs : ∀ i, i < N → 1 ≤ sf i ∧ sf i ≤ 400) {m : Int → Nat} {c : Int} (hc : 0 ≤ c) (hm : m c = 0) {used left : Int} (hu : 0 ≤ used ∧ used ≤ 4000000) (hl : 0 ≤ left ∧ left ≤ 9223372036854775807) :
    one ((posN cf N c).map Int.ofNat) (szN cf sf N c) (keepL cf N m) used left = some (if pick (szN cf sf N c) left < (posN cf N c).length then .done (keepL cf N (updm m c (pick (szN cf sf N c) left)), used + ssum (szN cf sf N c) (pick (szN cf sf N c) left))
      else .next (keepL cf N (updm m c (pick (szN cf sf N c) left)), used + ssum (szN cf sf N c) (pick (szN cf sf N c) left), left - ssum (szN cf sf N c) (pick (szN cf sf N c) left))) := by
  have hz := szN_szs (cf := cf) hs c
  have hle := pick_le (szN cf sf N c) left
  have hle2 := posN_len cf N c
  have hsl := szN_len cf sf N c
  have hf := pick_fits (szN cf sf N c) hl.1
  have hr := ssum_range hz hle
  unfold one
  rw [most_eq hz (by omega), Option.bind_some]
  generalize hv : pick (szN cf sf N c) left = v at *
  have e1 : (List.length ((posN cf N c).map Int.ofNat) : Int) = ((posN cf N c).length : Int) := by simp
  simp only []
  rw [e1, spread_eq _ _ (by omega), Option.bind_some, Int.toNat_natCast, Int.toNat_natCast, Nat.min_eq_right (by omega)]
  rw [keepL, mark_eq (posN cf N c) N v (by omega) (fun p hp => (mem_posN.1 hp).1) (by omega) hle2 (kp cf N m), Option.bind_some]
  have e2 : (List.range N).map (fun i => kp cf N m i || selP (posN cf N c) v v i) = keepL cf N (updm m c v) := by
    unfold keepL
    congr 1
    funext i
    exact kp_upd hc hm (by omega) i
  rw [e2]
  simp only [budget_Plan_K35, budget_Plan_K28, e1]
  rw [wrap_i64 (by omega) (by omega), wrap_i64 (by omega) (by omega)]
  by_cases h : v < (posN cf N c).length
  · have : decide ((v : Int) < ((posN cf N c).length : Int)) = true := decide_eq_true (by omega)
    rw [this, if_pos rfl, if_pos h]
  · have : decide ((v : Int) < ((posN cf N c).length : Int)) = false := decide_eq_false (by omega)
    rw [this, if_neg (by decide), if_neg h]
/-- the loop over the classes -/
theorem classes_eq {cf sf : Nat → Int} {N : Nat} (hN : N ≤ 1000) (hs : ∀ i, i < N → 1 ≤ sf i ∧ sf i ≤ 400) (p0 p1 p2 p3 p4 s0 s1 s2 s3 s4 : List Int)
    (hp0 : p0 = (posN cf N 0).map Int.ofNat) (hp1 : p1 = (posN cf N 1).map Int.ofNat) (hp2 : p2 = (posN cf N 2).map Int.ofNat) (hp3 : p3 = (posN cf N 3).map Int.ofNat) (hp4 : p4 = (posN cf N 4).map Int.ofNat)
    (hs0 : s0 = szN cf sf N 0) (hs1 : s1 = szN cf sf N 1) (hs2 : s2 = szN cf sf N 2) (hs3 : s3 = szN cf sf N 3) (hs4 : s4 = szN cf sf N 4) :
    ∀ (n k : Nat) (m : Int → Nat) (used left : Int), n + k = 5 → (∀ c ∈ ([1, 2, 3, 4, 0] : List Int).drop k, m c = 0) → 0 ≤ used → used ≤ 400000 + 400000 * (k : Int) → 0 ≤ left → left ≤ 9223372036854775807 →
      (forGo (fun k18 s => budget_Plan_L22 p0 p1 p2 p3 p4 s0 s1 s2 s3 s4 k18 s.1 s.2.1 s.2.2) n k (keepL cf N m, used, left)).bind (fun
        | .next s => budget_Plan_K17 s.1 s.2.1
        | .done e => budget_Plan_K17 e.1 e.2) = some (keepL cf N (allo cf sf N (([1, 2, 3, 4, 0] : List Int).drop k) m used left).1, (allo cf sf N (([1, 2, 3, 4, 0] : List Int).drop k) m used left).2)
  | 0, k, m, used, left, hk, _, _, _, _, _ => by
    have : k = 5 := by omega
    subst this
    rfl
  | n + 1, k, m, used, left, hk, hm, h1, h2, h3, h4 => by
    obtain ⟨c, hc1, hc2⟩ : ∃ c, ([1, 2, 3, 4, 0] : List Int).drop k = c :: ([1, 2, 3, 4, 0] : List Int).drop (k + 1) ∧ 0 ≤ c := by
      have : k = 0 ∨ k = 1 ∨ k = 2 ∨ k = 3 ∨ k = 4 := by omega
      rcases this with rfl | rfl | rfl | rfl | rfl <;> exact ⟨_, rfl, by decide⟩
    have hbody : budget_Plan_L22 p0 p1 p2 p3 p4 s0 s1 s2 s3 s4 k (keepL cf N m) used left = one ((posN cf N c).map Int.ofNat) (szN cf sf N c) (keepL cf N m) used left := by
      rw [L22_eq]
      subst hp0 hp1 hp2 hp3 hp4 hs0 hs1 hs2 hs3 hs4
      have : k = 0 ∨ k = 1 ∨ k = 2 ∨ k = 3 ∨ k = 4 := by omega
      rcases this with rfl | rfl | rfl | rfl | rfl <;> (injection hc1 with hc1 _; subst hc1; rfl)
    have hmc : m c = 0 := hm c (by rw [hc1]; simp)
    have ho := one_eq (cf := cf) hN hs hc2 hmc (used := used) (left := left) ⟨h1, by omega⟩ ⟨h3, h4⟩
    have hz := szN_szs (cf := cf) hs c
    have hr := ssum_range hz (pick_le (szN cf sf N c) left)
    have hf := pick_fits (szN cf sf N c) h3
    have hle := pick_le (szN cf sf N c) left
    have hle2 := posN_len cf N c
    have hsl := szN_len cf sf N c
    have hnd : ∀ c' ∈ ([1, 2, 3, 4, 0] : List Int).drop (k + 1), c' ≠ c := by
      have : k = 0 ∨ k = 1 ∨ k = 2 ∨ k = 3 ∨ k = 4 := by omega
      rcases this with rfl | rfl | rfl | rfl | rfl <;> (injection hc1 with hc1 _; subst hc1; decide)
    unfold forGo
    rw [hbody, ho, Option.bind_some, hc1]
    unfold allo
    by_cases h : pick (szN cf sf N c) left < (posN cf N c).length
    · rw [if_pos h, if_pos h]; rfl
    · rw [if_neg h, if_neg h]
      exact classes_eq hN hs p0 p1 p2 p3 p4 s0 s1 s2 s3 s4 hp0 hp1 hp2 hp3 hp4 hs0 hs1 hs2 hs3 hs4 n (k + 1) _ _ _ (by omega) (fun c' hc' => by
        unfold updm
        rw [if_neg (hnd c' hc')]
        exact hm c' (by rw [hc1]; exact List.mem_cons_of_mem _ hc')) (by omega) (by push_cast; omega) (by omega) (by omega)
def rcls (r : record_Record) : Int := if r.gWhat = 1 then ofc r.gEvent else -1
def rsz (r : record_Record) : Int := ((recBytes (reOf r)).length : Int)
def cfOf (rs : List record_Record) (i : Nat) : Int := match rs[i]? with
  | some r => rcls r
  | none => 0
def sfOf (rs : List record_Record) (i : Nat) : Int := match rs[i]? with
  | some r => rsz r
  | none => 0
def left0 (x u : Int) : Int := if (if x > 0 then x else 0) - u > 0 then (if x > 0 then x else 0) - u else 0
def planM (cf sf : Nat → Int) (N : Nat) (x : Int) : (Int → Nat) × Int := allo cf sf N [1, 2, 3, 4, 0] (fun _ => 0) (usedN cf sf N) (left0 x (usedN cf sf N))
def RFit (r : record_Record) : Prop := reFits r = true ∧ 1 ≤ rsz r ∧ rsz r ≤ 400
theorem size_eq {r : record_Record} (h : RFit r) : record_Size r = some (rsz r) := by
  unfold record_Size
  rw [chk_pos h.1]; rfl
theorem sfOf_range {rs : List record_Record} (h : ∀ r ∈ rs, RFit r) : ∀ i, i < rs.length → 1 ≤ sfOf rs i ∧ sfOf rs i ≤ 400 := by
  intro i hi
  unfold sfOf
  rw [List.getElem?_eq_getElem hi]
  exact (h _ (List.getElem_mem hi)).2
def keepK (cf : Nat → Int) (N k : Nat) : List Bool := (List.range N).map fun i => decide (i < k) && decide (cf i < 0)
theorem keepK_end (cf : Nat → Int) (N : Nat) : keepK cf N N = keepL cf N (fun _ => 0) := by
  unfold keepK keepL
  apply List.map_congr_left
  intro i hi
  rw [List.mem_range] at hi
  simp [kp, hi, selP_zero]
theorem first_eq {rs : List record_Record} (h : ∀ r ∈ rs, RFit r) (hN : rs.length ≤ 1000) :
    foldM' 9223372036854775807 (List.length rs : Int) (fun k126 s => budget_Plan_L139 rs k126 s.1 s.2.1 s.2.2.1 s.2.2.2.1 s.2.2.2.2.1 s.2.2.2.2.2.1 s.2.2.2.2.2.2.1 s.2.2.2.2.2.2.2.1 s.2.2.2.2.2.2.2.2.1 s.2.2.2.2.2.2.2.2.2.1 s.2.2.2.2.2.2.2.2.2.2.1 s.2.2.2.2.2.2.2.2.2.2.2)
      ((List.replicate (Int.toNat (List.length rs : Int)) false), 0, ([] : List Int), ([] : List Int), ([] : List Int), ([] : List Int), ([] : List Int), ([] : List Int), ([] : List Int), ([] : List Int), ([] : List Int), ([] : List Int)) =
    some (keepK (cfOf rs) rs.length rs.length, usedN (cfOf rs) (sfOf rs) rs.length, (posN (cfOf rs) rs.length 0).map Int.ofNat, (posN (cfOf rs) rs.length 1).map Int.ofNat, (posN (cfOf rs) rs.length 2).map Int.ofNat, (posN (cfOf rs) rs.length 3).map Int.ofNat, (posN (cfOf rs) rs.length 4).map Int.ofNat,
      szN (cfOf rs) (sfOf rs) rs.length 0, szN (cfOf rs) (sfOf rs) rs.length 1, szN (cfOf rs) (sfOf rs) rs.length 2, szN (cfOf rs) (sfOf rs) rs.length 3, szN (cfOf rs) (sfOf rs) rs.length 4) := by
  have hsr := sfOf_range h
  refine foldM_spec rs.length (fun k => (keepK (cfOf rs) rs.length k, usedN (cfOf rs) (sfOf rs) k, (posN (cfOf rs) k 0).map Int.ofNat, (posN (cfOf rs) k 1).map Int.ofNat, (posN (cfOf rs) k 2).map Int.ofNat, (posN (cfOf rs) k 3).map Int.ofNat, (posN (cfOf rs) k 4).map Int.ofNat,
      szN (cfOf rs) (sfOf rs) k 0, szN (cfOf rs) (sfOf rs) k 1, szN (cfOf rs) (sfOf rs) k 2, szN (cfOf rs) (sfOf rs) k 3, szN (cfOf rs) (sfOf rs) k 4)) ?_ rfl (by omega) (fun j hj => ?_)
  · have : keepK (cfOf rs) rs.length 0 = List.replicate rs.length false := by
      unfold keepK
      apply List.ext_getElem
      · simp
      · intro i h1 h2; simp
    rw [this, Int.toNat_natCast]; rfl
  · obtain ⟨r, hr⟩ : ∃ r, rs[j]? = some r := ⟨_, List.getElem?_eq_getElem hj⟩
    have hrm : r ∈ rs := List.mem_of_getElem? hr
    have hcf : cfOf rs j = rcls r := by unfold cfOf; rw [hr]
    have hsf : sfOf rs j = rsz r := by unfold sfOf; rw [hr]
    have hu := usedN_range (cf := cfOf rs) hsr j (by omega)
    have hs1 := hsr j hj
    have hlen : ∀ c, (posN (cfOf rs) j c).length ≤ j := posN_len (cfOf rs) j
    have hlen2 : ∀ c, (szN (cfOf rs) (sfOf rs) j c).length ≤ j := fun c => by rw [szN_len]; exact hlen c
    simp only [budget_Plan_L139]
    rw [idx_some hr, Option.bind_some, size_eq (h r hrm), Option.bind_some, ← hsf]
    simp only [posN_succ, szN_succ, usedN_succ]
    by_cases hw : r.gWhat = 1
    · have e1 : (r.gWhat != 1) = false := by simp [hw]
      have hc : cfOf rs j = ofc r.gEvent := by rw [hcf, rcls, if_pos hw]
      have hor := ofc_range r.gEvent
      rw [e1, if_neg (by decide), of_eq, Option.bind_some, ← hc]
      rw [← hc] at hor
      have hk : keepK (cfOf rs) rs.length (j + 1) = keepK (cfOf rs) rs.length j := by
        unfold keepK
        apply List.map_congr_left
        intro i hi
        by_cases hij : i = j
        · subst hij
          have : decide (cfOf rs i < 0) = false := decide_eq_false (by omega)
          rw [this, Bool.and_false, Bool.and_false]
        · have : decide (i < j + 1) = decide (i < j) := by rw [decide_eq_decide]; omega
          rw [this]
      rw [hk]
      generalize cfOf rs j = c at *
      have hneg : ¬ c < 0 := by omega
      have l0 := hlen 0; have l1 := hlen 1; have l2 := hlen 2; have l3 := hlen 3; have l4 := hlen 4
      have q0 := hlen2 0; have q1 := hlen2 1; have q2 := hlen2 2; have q3 := hlen2 3; have q4 := hlen2 4
      have : c = 0 ∨ c = 1 ∨ c = 2 ∨ c = 3 ∨ c = 4 := by omega
      rcases this with rfl | rfl | rfl | rfl | rfl <;> (simp only [Int.reduceBEq, Bool.false_eq_true, if_false, if_true, beq_self_eq_true, Int.reduceEq, Int.reduceLT, Int.add_zero, List.map_append, List.map_cons, List.map_nil]; rw [chk_pos (by simp [apOk]; omega), chk_pos (by simp [apOk]; omega)]; rfl)
    · have e1 : (r.gWhat != 1) = true := by simp [hw]
      have hc : cfOf rs j = -1 := by rw [hcf, rcls, if_neg hw]
      rw [e1, if_pos rfl]
      have hset : (keepK (cfOf rs) rs.length j).set j true = keepK (cfOf rs) rs.length (j + 1) := by
        unfold keepK
        rw [set_range]
        apply List.map_congr_left
        intro i hi
        by_cases hij : j = i
        · subst hij
          have : decide (cfOf rs j < 0) = true := decide_eq_true (by omega)
          simp [this]
        · have e2 : (j == i) = false := by simp [hij]
          have : decide (i < j + 1) = decide (i < j) := by rw [decide_eq_decide]; omega
          rw [this, e2, Bool.or_false]
      have hi : ∃ b, idx (keepK (cfOf rs) rs.length j) (j : Int) = some b := by
        unfold keepK
        rw [idx_nat, List.getElem?_map, List.getElem?_range hj]; exact ⟨_, rfl⟩
      obtain ⟨b, hb⟩ := hi
      rw [hb, Option.bind_some, Int.toNat_natCast, hset, hc, wrap_i64 (by omega) (by omega)]
      simp
theorem plan_eq {rs : List record_Record} (h : ∀ r ∈ rs, RFit r) (hN : rs.length ≤ 1000) {x : Int} (hx : -9223372036854775808 ≤ x ∧ x ≤ 9223372036854775807) :
    budget_Plan rs x = some (keepL (cfOf rs) rs.length (planM (cfOf rs) (sfOf rs) rs.length x).1, (planM (cfOf rs) (sfOf rs) rs.length x).2) := by
  have hu := usedN_range (cf := cfOf rs) (sfOf_range h) rs.length (Nat.le_refl _)
  unfold budget_Plan
  rw [chk_pos (by unfold mkOk; omega), first_eq h hN, Option.bind_some]
  simp only [budget_Plan_K14]
  rw [keepK_end]
  have hl : (if x > 0 then x else 0) - usedN (cfOf rs) (sfOf rs) rs.length ≤ 9223372036854775807 ∧ -9223372036854775808 ≤ (if x > 0 then x else 0) - usedN (cfOf rs) (sfOf rs) rs.length := by split <;> omega
  rw [wrap_i64 hl.2 hl.1]
  unfold forM'
  rw [chk_pos (by omega)]
  have hl0 : 0 ≤ left0 x (usedN (cfOf rs) (sfOf rs) rs.length) ∧ left0 x (usedN (cfOf rs) (sfOf rs) rs.length) ≤ 9223372036854775807 := by
    unfold left0; split <;> omega
  exact classes_eq hN (sfOf_range h) _ _ _ _ _ _ _ _ _ _ rfl rfl rfl rfl rfl rfl rfl rfl rfl rfl 5 0 (fun _ => 0) _ _ rfl (fun _ _ => rfl) (by omega) (by omega) hl0.1 hl0.2
end Go.Proofs.Ytkadjbpmnpcfhaa
