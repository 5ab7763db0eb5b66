/-
  Plain: the bytes of a record.
-/
import Derived.Test.YtepkcbalmjnhpaaGreatPlain
set_option linter.unusedVariables false
set_option linter.unusedSimpArgs false
namespace Go.Proofs.YtepkcbalmjnhpaaGreat
def evNums (e : Ev) : List Int := [e.tick, e.kind, e.peer, e.n, e.copy, e.handler]
def evBytes (e : Ev) : List Int := (evNums e).flatMap putU ++ putI e.d ++ putU e.args.length ++ e.args.flatMap putI
def recHead (r : Re) : List Int := r.what :: (putU r.comp ++ putU r.seq)
def recTail (r : Re) : List Int :=
  if r.what = 1 then clkBytes r.clk ++ evBytes r.ev else if r.what = 2 then putU r.count else []
def recBytes (r : Re) : List Int := if validB r then recHead r ++ recTail r else []
/-- the ranges of Go's types -/
structure EvT (e : Ev) : Prop where
  tick : I64 e.tick
  comp : I64 e.comp
  kind : 0 ≤ e.kind ∧ e.kind ≤ 255
  peer : I64 e.peer
  n : I64 e.n
  copy : I64 e.copy
  handler : I64 e.handler
  d : I64 e.d
  args : ∀ x ∈ e.args, I64 x
structure ReT (r : Re) : Prop where
  comp : I64 r.comp
  seq : U64 r.seq
  clk : ∀ i, U64 (r.clk i)
  what : 0 ≤ r.what ∧ r.what ≤ 255
  ev : EvT r.ev
  count : U64 r.count
theorem inB_iff {a b : Int} : inB a b = true ↔ 0 ≤ a ∧ a ≤ b := by simp [inB]
theorem evOk_ranges {e : Ev} {c : Int} (h : evOk e c = true) : e.comp = c ∧ (0 ≤ e.tick ∧ e.tick ≤ 200) ∧ (1 ≤ e.kind ∧ e.kind ≤ 11) ∧ (0 ≤ e.peer ∧ e.peer ≤ 8) ∧ (0 ≤ e.n ∧ e.n ≤ 2147483647) ∧ (0 ≤ e.copy ∧ e.copy ≤ 1) ∧ (0 ≤ e.handler ∧ e.handler ≤ 7) ∧ e.args.length ≤ 4 := by
  unfold evOk at h
  simp only [Bool.and_eq_true, beq_iff_eq, decide_eq_true_eq, inB_iff] at h
  obtain ⟨⟨⟨⟨⟨⟨⟨⟨h1, h2⟩, h3⟩, h4⟩, h5⟩, h6⟩, h7⟩, h8⟩, h9⟩ := h
  exact ⟨h1, h2, ⟨h3, h4⟩, h5, h6, h7, h8, h9⟩
theorem valid_comp {r : Re} (h : validB r = true) : 0 ≤ r.comp ∧ r.comp ≤ 8 := by
  unfold validB at h
  simp only [Bool.and_eq_true, inB_iff] at h
  exact h.2
theorem valid_what {r : Re} (h : validB r = true) : r.what = 1 ∨ r.what = 2 ∨ r.what = 3 := by
  unfold validB okWhat at h
  by_cases h1 : r.what = 1
  · exact .inl h1
  by_cases h2 : r.what = 2
  · exact .inr (.inl h2)
  by_cases h3 : r.what = 3
  · exact .inr (.inr h3)
  · simp [h1, h2, h3] at h
theorem valid_entry {r : Re} (h : validB r = true) (h1 : r.what = 1) : evOk r.ev r.comp = true ∧ r.count = 0 := by
  unfold validB okWhat at h
  rw [if_pos h1] at h
  simp only [Bool.and_eq_true, beq_iff_eq] at h
  exact h.1
theorem checkN_zero {r : Re} : (checkN r != 0) = !validB r := by unfold checkN; cases validB r <;> simp
theorem numB_len : ∀ l : List Int, (∀ x ∈ l, x < 18446744073709551616) → (l.flatMap putU).length ≤ 10 * l.length
  | [], _ => by simp
  | x :: l, h => by
    have := numB_len l (fun y hy => h y (by simp [hy]))
    have := putU_ten (h x (by simp))
    rw [List.flatMap_cons, List.length_append, List.length_cons]; omega
theorem putI_ten {v : Int} (h : I64 v) : (putI v).length ≤ 10 := putU_ten (zig_range h.1 h.2).2
theorem putI_pos (v : Int) : 0 < (putI v).length := putU_pos _
end Go.Proofs.YtepkcbalmjnhpaaGreat
