/-
  Plain: records as the reference has them.
-/
import Derived.Test.YtkadjbpmnpcfhaaRecD
import Derived.Test.YtkadjbpmnpcfhaaClkO
set_option linter.unusedVariables false
set_option linter.unusedSimpArgs false
namespace Go.Proofs.Ytkadjbpmnpcfhaa
structure RR where
  what : Int
  comp : Int
  seq : Int
  count : Int
  clock : List Int
  ev : Ev
def rrA (x : RR) (C : Option Addr) (cc : Nat) (A : Option Addr) (c : Nat) : Array Value :=
  #[.int .u8 x.what, .int .i64 x.comp, .int .u64 x.seq, .int .u64 x.count, .slice C x.clock.length cc,
    .int .i64 x.ev.tick, .int .i64 x.ev.comp, .int .u8 x.ev.kind, .int .i64 x.ev.peer, .int .i64 x.ev.n, .int .i64 x.ev.copy, .int .i64 x.ev.handler, .int .i64 x.ev.d, .slice A x.ev.args.length c]
def toRe (x : RR) : Re := ⟨x.comp, x.seq, clkOf x.clock, x.what, x.ev, x.count⟩
theorem rrA_size (x : RR) (C : Option Addr) (cc : Nat) (A : Option Addr) (c : Nat) : (rrA x C cc A c).size = 14 := rfl
@[go_sem] theorem rrA_0 (x : RR) (C : Option Addr) (cc : Nat) (A : Option Addr) (c : Nat) : (rrA x C cc A c)[0]? = some (.int .u8 x.what) := rfl
@[go_sem] theorem rrA_0' (x : RR) (C : Option Addr) (cc : Nat) (A : Option Addr) (c : Nat) (h : 0 < (rrA x C cc A c).size) : (rrA x C cc A c)[0] = .int .u8 x.what := rfl
@[go_sem] theorem rrA_1 (x : RR) (C : Option Addr) (cc : Nat) (A : Option Addr) (c : Nat) : (rrA x C cc A c)[1]? = some (.int .i64 x.comp) := rfl
@[go_sem] theorem rrA_1' (x : RR) (C : Option Addr) (cc : Nat) (A : Option Addr) (c : Nat) (h : 1 < (rrA x C cc A c).size) : (rrA x C cc A c)[1] = .int .i64 x.comp := rfl
@[go_sem] theorem rrA_2 (x : RR) (C : Option Addr) (cc : Nat) (A : Option Addr) (c : Nat) : (rrA x C cc A c)[2]? = some (.int .u64 x.seq) := rfl
@[go_sem] theorem rrA_2' (x : RR) (C : Option Addr) (cc : Nat) (A : Option Addr) (c : Nat) (h : 2 < (rrA x C cc A c).size) : (rrA x C cc A c)[2] = .int .u64 x.seq := rfl
@[go_sem] theorem rrA_3 (x : RR) (C : Option Addr) (cc : Nat) (A : Option Addr) (c : Nat) : (rrA x C cc A c)[3]? = some (.int .u64 x.count) := rfl
@[go_sem] theorem rrA_3' (x : RR) (C : Option Addr) (cc : Nat) (A : Option Addr) (c : Nat) (h : 3 < (rrA x C cc A c).size) : (rrA x C cc A c)[3] = .int .u64 x.count := rfl
@[go_sem] theorem rrA_4 (x : RR) (C : Option Addr) (cc : Nat) (A : Option Addr) (c : Nat) : (rrA x C cc A c)[4]? = some (.slice C x.clock.length cc) := rfl
@[go_sem] theorem rrA_4' (x : RR) (C : Option Addr) (cc : Nat) (A : Option Addr) (c : Nat) (h : 4 < (rrA x C cc A c).size) : (rrA x C cc A c)[4] = .slice C x.clock.length cc := rfl
@[go_sem] theorem rrA_13 (x : RR) (C : Option Addr) (cc : Nat) (A : Option Addr) (c : Nat) : (rrA x C cc A c)[13]? = some (.slice A x.ev.args.length c) := rfl
@[go_sem] theorem rrA_13' (x : RR) (C : Option Addr) (cc : Nat) (A : Option Addr) (c : Nat) (h : 13 < (rrA x C cc A c).size) : (rrA x C cc A c)[13] = .slice A x.ev.args.length c := rfl
theorem rrA_ev (x : RR) (C : Option Addr) (cc : Nat) (A : Option Addr) (c : Nat) : ((rrA x C cc A c).toList.drop 5).take 9 = (evA x.ev A c).toList := rfl
theorem rrA_one (x : RR) (C : Option Addr) (cc : Nat) (A : Option Addr) (c : Nat) : ∀ u ∈ (rrA x C cc A c).toList, u.oneCell' = true := by
  intro u hu
  simp only [rrA, List.mem_cons, List.not_mem_nil, or_false] at hu
  rcases hu with rfl | rfl | rfl | rfl | rfl | rfl | rfl | rfl | rfl | rfl | rfl | rfl | rfl | rfl <;> rfl
theorem clenTo_zero (c : Nat → Int) (n : Nat) : clenTo c n = 0 ↔ ∀ i < n, c i = 0 := by
  induction n with
  | zero => simp [clenTo]
  | succ n ih =>
    simp only [clenTo]
    split
    · rename_i h
      rw [ih]
      constructor
      · intro hh i hi
        rcases Nat.lt_succ_iff_lt_or_eq.1 hi with h' | rfl
        · exact hh i h'
        · exact h
      · exact fun hh i hi => hh i (by omega)
    · rename_i h
      constructor
      · intro hh; omega
      · intro hh; exact absurd (hh n (by omega)) h
theorem clkOf_far {xs : List Int} {i : Nat} (h : xs.length ≤ i) : clkOf xs i = 0 := by
  simp [clkOf, List.getElem?_eq_none h]
theorem clenTo_far {xs : List Int} (n : Nat) (h : xs.length ≤ n) : clenTo (clkOf xs) n = clenTo (clkOf xs) xs.length := by
  induction n with
  | zero => rw [show xs.length = 0 by omega]
  | succ n ih =>
    by_cases h1 : xs.length ≤ n
    · rw [← ih h1]; simp [clenTo, clkOf_far h1]
    · rw [show xs.length = n + 1 by omega]
theorem clen_of {xs : List Int} (h : xs.length ≤ 16) : clen (clkOf xs) = clenTo (clkOf xs) xs.length := clenTo_far 16 h
theorem trim_zero {xs : List Int} (h : xs.length ≤ 16) : (clenTo (clkOf xs) xs.length == 0) = sameTo (clkOf xs) clk0 16 := by
  rw [Bool.eq_iff_iff, sameTo_iff, beq_iff_eq, ← clen_of h]
  exact clenTo_zero _ _
/-- the ranges -/
structure RRT (x : RR) : Prop where
  what : 0 ≤ x.what ∧ x.what ≤ 255
  comp : I64 x.comp
  seq : U64 x.seq
  count : U64 x.count
  clock : ∀ v ∈ x.clock, U64 v
  ev : EvT x.ev
theorem clkOf_u {xs : List Int} (h : ∀ v ∈ xs, U64 v) (i : Nat) : U64 (clkOf xs i) := by
  unfold clkOf
  by_cases hi : i < xs.length
  · simp only [List.getD_eq_getElem?_getD, List.getElem?_eq_getElem hi, Option.getD_some]
    exact h _ (List.getElem_mem hi)
  · simp only [List.getD_eq_getElem?_getD, List.getElem?_eq_none (Nat.le_of_not_lt hi), Option.getD_none]
    exact ⟨by omega, by omega⟩
theorem RRT.re {x : RR} (h : RRT x) : ReT (toRe x) := ⟨h.comp, h.seq, clkOf_u h.clock, h.what, h.ev, h.count⟩
end Go.Proofs.Ytkadjbpmnpcfhaa
