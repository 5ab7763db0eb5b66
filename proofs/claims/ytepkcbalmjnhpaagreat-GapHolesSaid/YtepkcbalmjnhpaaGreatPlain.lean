/-
  Plain mathematics of the layers 1, 23, 24: numbers as bytes, clocks, events, records. No program in sight.
-/
import Derived.WalkKit
import Derived.Lib.Zigzag
set_option linter.unusedVariables false
set_option linter.unusedSimpArgs false
namespace Go.Proofs.YtepkcbalmjnhpaaGreat

/-- a number as bytes, seven bits to a byte -/
def putU (v : Int) : List Int := if h : 128 ≤ v then (v % 128 + 128) :: putU (v / 128) else [v]
  termination_by v.toNat
  decreasing_by omega
theorem putU_big {v : Int} (h : 128 ≤ v) : putU v = (v % 128 + 128) :: putU (v / 128) := by rw [putU]; simp [h]
theorem putU_small {v : Int} (h : v < 128) : putU v = [v] := by rw [putU]; simp; omega
/-- groups of seven bits: n bytes are enough below 128^n -/
theorem putU_len (n : Nat) : ∀ v : Int, v < 128 ^ (n + 1) → (putU v).length ≤ n + 1 := by
  induction n with
  | zero => intro v hv; rw [putU_small (by simpa using hv)]; simp
  | succ n ih =>
    intro v hv
    by_cases h : 128 ≤ v
    · rw [putU_big h]
      have : v / 128 < 128 ^ (n + 1) := by
        rw [Int.ediv_lt_iff_lt_mul (by omega)]
        rw [Int.pow_succ] at hv; exact hv
      have := ih _ this
      simp; omega
    · rw [putU_small (by omega)]; simp
theorem putU_ten {v : Int} (h : v < 18446744073709551616) : (putU v).length ≤ 10 := by
  have : v < 128 ^ (9 + 1) := by
    have : (128 : Int) ^ (9 + 1) = 1180591620717411303424 := by decide
    omega
  exact putU_len 9 v this
theorem putU_pos (v : Int) : 0 < (putU v).length := by
  by_cases h : 128 ≤ v
  · rw [putU_big h]; simp
  · rw [putU_small (by omega)]; simp
theorem putU_byte : ∀ (n : Nat) (v : Int), v.toNat ≤ n → 0 ≤ v → ∀ b ∈ putU v, 0 ≤ b ∧ b ≤ 255 := by
  intro n
  induction n with
  | zero => intro v h h0 b hb; rw [putU_small (by omega)] at hb; simp at hb; omega
  | succ n ih =>
    intro v h h0 b hb
    by_cases h1 : 128 ≤ v
    · rw [putU_big h1] at hb
      rcases List.mem_cons.1 hb with rfl | hb
      · omega
      · exact ih (v / 128) (by omega) (by omega) b hb
    · rw [putU_small (by omega)] at hb; simp at hb; omega
theorem or_128 {v : Int} (h : 0 ≤ v) : bits .or .u8 (v % 256) 128 = v % 128 + 128 := by
  have key : ∀ x : Fin 256, bits .or .u8 ((x.val : Nat) : Int) 128 = ((x.val % 128 + 128 : Nat) : Int) := by decide +kernel
  have := key ⟨(v % 256).toNat, by omega⟩
  simp only at this
  rw [Int.toNat_of_nonneg (by omega)] at this
  rw [this]; omega
def zig (v : Int) : Int := if v < 0 then 2 * (-(v + 1)) + 1 else 2 * v
theorem u64_not {x : Int} (h0 : 0 ≤ x) (h1 : x < 18446744073709551616) : bits .xor .u64 IntKind.u64.max x = 18446744073709551615 - x := by
  have e : IntKind.u64.max = 18446744073709551615 := rfl
  rw [e, u64_xor _ _ (by omega) (by omega) h0 h1]
  have := Lib.xor_ones64 x.toNat (by omega)
  have e2 : (18446744073709551615 : Int).toNat = 2 ^ 64 - 1 := rfl
  rw [e2, this]; omega
theorem zig_neg {v : Int} (h0 : -9223372036854775808 ≤ v) (h : v < 0) : bits .xor .u64 IntKind.u64.max (IntKind.u64.wrap (IntKind.u64.wrap v * 2)) = zig v := by
  have e1 : IntKind.u64.wrap v = v + 18446744073709551616 := by
    rw [IntKind.wrap_u64]; omega
  have e2 : IntKind.u64.wrap (IntKind.u64.wrap v * 2) = 2 * v + 18446744073709551616 := by
    rw [e1, IntKind.wrap_u64]; omega
  rw [e2, u64_not (by omega) (by omega)]
  unfold zig; rw [if_pos h]; omega
theorem zig_pos {v : Int} (h : 0 ≤ v) : v * 2 = zig v := by unfold zig; rw [if_neg (by omega)]; omega
theorem zig_range {v : Int} (h0 : -9223372036854775808 ≤ v) (h1 : v ≤ 9223372036854775807) : 0 ≤ zig v ∧ zig v < 18446744073709551616 := by unfold zig; split <;> omega
def putI (v : Int) : List Int := putU (zig v)

/-- a vector clock's 16 entries, as cells -/
def clkA (c : Nat → Int) : Array Value := #[.int .u64 (c 0), .int .u64 (c 1), .int .u64 (c 2), .int .u64 (c 3), .int .u64 (c 4), .int .u64 (c 5), .int .u64 (c 6), .int .u64 (c 7), .int .u64 (c 8), .int .u64 (c 9), .int .u64 (c 10), .int .u64 (c 11), .int .u64 (c 12), .int .u64 (c 13), .int .u64 (c 14), .int .u64 (c 15)]
theorem clkA_size (c : Nat → Int) : (clkA c).size = 16 := rfl
theorem clkA_get (c : Nat → Int) {k : Nat} (h : k < 16) : (clkA c)[k]? = some (.int .u64 (c k)) := by
  match k, h with
  | 0, _ => rfl
  | 1, _ => rfl
  | 2, _ => rfl
  | 3, _ => rfl
  | 4, _ => rfl
  | 5, _ => rfl
  | 6, _ => rfl
  | 7, _ => rfl
  | 8, _ => rfl
  | 9, _ => rfl
  | 10, _ => rfl
  | 11, _ => rfl
  | 12, _ => rfl
  | 13, _ => rfl
  | 14, _ => rfl
  | 15, _ => rfl
  | k + 16, h => exact absurd h (by omega)
theorem clkA_list (c : Nat → Int) : (clkA c).toList = (List.range 16).map fun i => .int .u64 (c i) := rfl
theorem clkA_one (c : Nat → Int) : ∀ u ∈ (clkA c).toList, u.oneCell' = true := by
  rw [clkA_list]; intro u hu; obtain ⟨x, _, rfl⟩ := List.mem_map.1 hu; rfl
/-- equal in the first k entries -/
def sameTo (a b : Nat → Int) : Nat → Bool
  | 0 => true
  | k + 1 => sameTo a b k && a k == b k
def leqTo (a b : Nat → Int) : Nat → Bool
  | 0 => true
  | k + 1 => leqTo a b k && decide (a k ≤ b k)
theorem leqTo_iff (a b : Nat → Int) (n : Nat) : leqTo a b n = true ↔ ∀ i < n, a i ≤ b i := by
  induction n with
  | zero => simp [leqTo]
  | succ n ih =>
    simp only [leqTo, Bool.and_eq_true, ih, decide_eq_true_eq]
    constructor
    · rintro ⟨h1, h2⟩ i hi
      rcases Nat.lt_succ_iff_lt_or_eq.1 hi with h | rfl
      · exact h1 i h
      · exact h2
    · exact fun h => ⟨fun i hi => h i (by omega), h n (by omega)⟩
theorem leqTo_false {a b : Nat → Int} {n k : Nat} (hk : k < n) (h : b k < a k) : leqTo a b n = false := by
  rw [Bool.eq_false_iff]; intro ht
  have := (leqTo_iff a b n).1 ht k hk
  omega
theorem sameTo_iff (a b : Nat → Int) (n : Nat) : sameTo a b n = true ↔ ∀ i < n, a i = b i := by
  induction n with
  | zero => simp [sameTo]
  | succ n ih =>
    simp only [sameTo, Bool.and_eq_true, ih, beq_iff_eq]
    constructor
    · rintro ⟨h1, h2⟩ i hi
      rcases Nat.lt_succ_iff_lt_or_eq.1 hi with h | rfl
      · exact h1 i h
      · exact h2
    · exact fun h => ⟨fun i hi => h i (by omega), h n (by omega)⟩
/-- the order of two clocks -/
def cmpC (a b : Nat → Int) : Int := if sameTo a b 16 then 1 else if leqTo a b 16 then 2 else if leqTo b a 16 then 3 else 4
/-- the number of entries up to the last one that is not 0 -/
def clenTo (c : Nat → Int) : Nat → Nat
  | 0 => 0
  | k + 1 => if c k = 0 then clenTo c k else k + 1
theorem clenTo_le (c : Nat → Int) (k : Nat) : clenTo c k ≤ k := by
  induction k with
  | zero => simp [clenTo]
  | succ k ih => simp only [clenTo]; split <;> omega
def clen (c : Nat → Int) : Nat := clenTo c 16
def cents (c : Nat → Int) : List Int := (List.range (clen c)).map c
def clkBytes (c : Nat → Int) : List Int := (clen c : Int) :: (cents c).flatMap putU
/-- the bytes of the first k entries -/
def entB (c : Nat → Int) (k : Nat) : List Int := ((List.range k).map c).flatMap putU
theorem entB_succ (c : Nat → Int) (k : Nat) : entB c (k + 1) = entB c k ++ putU (c k) := by
  simp [entB, List.range_succ]
theorem clkBytes_eq (c : Nat → Int) : clkBytes c = (clen c : Int) :: entB c (clen c) := rfl
def U64 (v : Int) : Prop := 0 ≤ v ∧ v < 18446744073709551616
def I64 (v : Int) : Prop := -9223372036854775808 ≤ v ∧ v ≤ 9223372036854775807
theorem entB_len {c : Nat → Int} (hc : ∀ i, U64 (c i)) (k : Nat) : (entB c k).length ≤ 10 * k := by
  induction k with
  | zero => simp [entB]
  | succ k ih => rw [entB_succ]; have := putU_ten (hc k).2; simp; omega
theorem clen_le (c : Nat → Int) : clen c ≤ 16 := clenTo_le c 16

/-- an event -/
structure Ev where
  tick : Int
  comp : Int
  kind : Int
  peer : Int
  n : Int
  copy : Int
  handler : Int
  d : Int
  args : List Int
def evA (e : Ev) (A : Option Addr) (c : Nat) : Array Value :=
  #[.int .i64 e.tick, .int .i64 e.comp, .int .u8 e.kind, .int .i64 e.peer, .int .i64 e.n, .int .i64 e.copy, .int .i64 e.handler, .int .i64 e.d, .slice A e.args.length c]
/-- a record -/
structure Re where
  comp : Int
  seq : Int
  clk : Nat → Int
  what : Int
  ev : Ev
  count : Int
def recA (r : Re) (A : Option Addr) (c : Nat) : Array Value :=
  #[.int .i64 r.comp, .int .u64 r.seq, .int .u64 (r.clk 0), .int .u64 (r.clk 1), .int .u64 (r.clk 2), .int .u64 (r.clk 3), .int .u64 (r.clk 4), .int .u64 (r.clk 5), .int .u64 (r.clk 6), .int .u64 (r.clk 7), .int .u64 (r.clk 8), .int .u64 (r.clk 9), .int .u64 (r.clk 10), .int .u64 (r.clk 11), .int .u64 (r.clk 12), .int .u64 (r.clk 13), .int .u64 (r.clk 14), .int .u64 (r.clk 15), .int .u8 r.what,
    .int .i64 r.ev.tick, .int .i64 r.ev.comp, .int .u8 r.ev.kind, .int .i64 r.ev.peer, .int .i64 r.ev.n, .int .i64 r.ev.copy, .int .i64 r.ev.handler, .int .i64 r.ev.d, .slice A r.ev.args.length c, .int .u64 r.count]
theorem recA_size (r : Re) (A : Option Addr) (c : Nat) : (recA r A c).size = 29 := rfl
theorem evA_size (e : Ev) (A : Option Addr) (c : Nat) : (evA e A c).size = 9 := rfl
@[go_sem] theorem recA_0 (r : Re) (A : Option Addr) (c : Nat) : (recA r A c)[0]? = some (.int .i64 r.comp) := rfl
@[go_sem] theorem recA_0' (r : Re) (A : Option Addr) (c : Nat) (h : 0 < (recA r A c).size) : (recA r A c)[0] = .int .i64 r.comp := rfl
@[go_sem] theorem recA_1 (r : Re) (A : Option Addr) (c : Nat) : (recA r A c)[1]? = some (.int .u64 r.seq) := rfl
@[go_sem] theorem recA_1' (r : Re) (A : Option Addr) (c : Nat) (h : 1 < (recA r A c).size) : (recA r A c)[1] = .int .u64 r.seq := rfl
@[go_sem] theorem recA_18 (r : Re) (A : Option Addr) (c : Nat) : (recA r A c)[18]? = some (.int .u8 r.what) := rfl
@[go_sem] theorem recA_18' (r : Re) (A : Option Addr) (c : Nat) (h : 18 < (recA r A c).size) : (recA r A c)[18] = .int .u8 r.what := rfl
@[go_sem] theorem recA_19 (r : Re) (A : Option Addr) (c : Nat) : (recA r A c)[19]? = some (.int .i64 r.ev.tick) := rfl
@[go_sem] theorem recA_19' (r : Re) (A : Option Addr) (c : Nat) (h : 19 < (recA r A c).size) : (recA r A c)[19] = .int .i64 r.ev.tick := rfl
@[go_sem] theorem recA_27 (r : Re) (A : Option Addr) (c : Nat) : (recA r A c)[27]? = some (.slice A r.ev.args.length c) := rfl
@[go_sem] theorem recA_27' (r : Re) (A : Option Addr) (c : Nat) (h : 27 < (recA r A c).size) : (recA r A c)[27] = .slice A r.ev.args.length c := rfl
@[go_sem] theorem recA_28 (r : Re) (A : Option Addr) (c : Nat) : (recA r A c)[28]? = some (.int .u64 r.count) := rfl
@[go_sem] theorem recA_28' (r : Re) (A : Option Addr) (c : Nat) (h : 28 < (recA r A c).size) : (recA r A c)[28] = .int .u64 r.count := rfl
theorem recA_clk (r : Re) (A : Option Addr) (c : Nat) : ((recA r A c).toList.drop 2).take 16 = (clkA r.clk).toList := rfl
theorem recA_ev (r : Re) (A : Option Addr) (c : Nat) : ((recA r A c).toList.drop 19).take 9 = (evA r.ev A c).toList := rfl
theorem recA_one (r : Re) (A : Option Addr) (c : Nat) : ∀ u ∈ (recA r A c).toList, u.oneCell' = true := by
  intro u hu
  simp only [recA, List.mem_cons, List.not_mem_nil, or_false] at hu
  rcases hu with rfl | rfl | rfl | rfl | rfl | rfl | rfl | rfl | rfl | rfl | rfl | rfl | rfl | rfl | rfl | rfl | rfl | rfl | rfl | rfl | rfl | rfl | rfl | rfl | rfl | rfl | rfl | rfl | rfl <;> rfl
def inB (a b : Int) : Bool := decide (0 ≤ a ∧ a ≤ b)
def evOk (e : Ev) (c : Int) : Bool :=
  e.comp == c && inB e.tick 200 && decide (1 ≤ e.kind) && decide (e.kind ≤ 11) && inB e.peer 8 && inB e.n 2147483647 && inB e.copy 1 && inB e.handler 7 && decide (e.args.length ≤ 4)
def evEq (a b : Ev) : Bool :=
  a.tick == b.tick && a.comp == b.comp && a.kind == b.kind && a.peer == b.peer && a.n == b.n && a.copy == b.copy && a.handler == b.handler && a.d == b.d && a.args == b.args
def ev0 : Ev := ⟨0, 0, 0, 0, 0, 0, 0, 0, []⟩
def clk0 : Nat → Int := fun _ => 0
def bareB (r : Re) : Bool := sameTo r.clk clk0 16 && evEq r.ev ev0
/-- the kinds of records -/
def okWhat (r : Re) : Bool :=
  if r.what = 1 then evOk r.ev r.comp && r.count == 0
  else if r.what = 2 then bareB r && decide (0 < r.count) && decide (r.count ≤ 18446744073709551615 - r.seq)
  else if r.what = 3 then bareB r && r.count == 0
  else false
def validB (r : Re) : Bool := okWhat r && inB r.comp 8
theorem cmpC_one (a b : Nat → Int) : (cmpC a b == 1) = sameTo a b 16 := by
  unfold cmpC; cases sameTo a b 16 <;> simp
  split
  · simp
  · split <;> simp
def checkN (r : Re) : Int := if validB r then 0 else 1
def re0 : Re := ⟨0, 0, clk0, 0, ev0, 0⟩
end Go.Proofs.YtepkcbalmjnhpaaGreat
