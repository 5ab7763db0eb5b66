/-
  Contracts of record's functions, in the words of the printed models.
-/
import Derived.Test.YtepkcbalmjnhpaaGreatBrP
import Derived.Test.YtepkcbalmjnhpaaGreatGTy
set_option maxRecDepth 100000
set_option maxHeartbeats 1000000
set_option linter.unusedVariables false
set_option linter.unusedSimpArgs false
namespace Go.Proofs.YtepkcbalmjnhpaaGreat
open Go.RowKit
def evOf (e : api_Event) : Ev := ⟨e.gTick, e.gComponent, e.gKind, e.gPeer, e.gN, e.gCopy, e.gHandler, e.gD, e.gArgs⟩
def reOf (x : record_Record) : Re := ⟨x.gComponent, x.gSeq, fun i => if i < 16 then x.gClock.gat i else 0, x.gWhat, evOf x.gEvent, x.gCount⟩
def okI (k : IntKind) (n : Int) : Bool := decide (InR k n)
theorem okI_iff {k : IntKind} {n : Int} : okI k n = true ↔ InR k n := by simp [okI]
def evFits (e : api_Event) : Bool := okI .i64 e.gTick && okI .i64 e.gComponent && okI .u8 e.gKind && okI .i64 e.gPeer && okI .i64 e.gN && okI .i64 e.gCopy && okI .i64 e.gHandler && okI .i64 e.gD && e.gArgs.all (okI .i64) && decide (e.gArgs.length ≤ 1099511627776)
def ckFits (c : vclock_Clock) : Bool := (List.range 16).all fun i => okI .u64 (c.gat i)
def reFits (x : record_Record) : Bool := okI .i64 x.gComponent && okI .u64 x.gSeq && ckFits x.gClock && okI .u8 x.gWhat && evFits x.gEvent && okI .u64 x.gCount
theorem evFits_T {e : api_Event} (h : evFits e = true) : EvT (evOf e) ∧ (evOf e).args.length ≤ 1099511627776 := by
  unfold evFits at h
  simp only [Bool.and_eq_true, List.all_eq_true, okI_iff, InR, decide_eq_true_eq] at h
  obtain ⟨⟨⟨⟨⟨⟨⟨⟨⟨h1, h2⟩, h3⟩, h4⟩, h5⟩, h6⟩, h7⟩, h8⟩, h9⟩, h10⟩ := h
  refine ⟨?_, h10⟩
  constructor <;> first | assumption | (simp only [evOf, I64, U64, Byt]; assumption) | (simp only [evOf, I64, U64, Byt]; omega) | (intro v hv; have := h9 v hv; simp only [I64]; omega)
theorem reFits_T {x : record_Record} (h : reFits x = true) : ReT (reOf x) ∧ (reOf x).ev.args.length ≤ 1099511627776 := by
  unfold reFits ckFits at h
  simp only [Bool.and_eq_true, List.all_eq_true, okI_iff, InR, List.mem_range] at h
  obtain ⟨⟨⟨⟨⟨h1, h2⟩, h3⟩, h4⟩, h5⟩, h6⟩ := h
  refine ⟨⟨?_, ?_, ?_, ?_, (evFits_T h5).1, ?_⟩, (evFits_T h5).2⟩
  · simp only [reOf, I64]; omega
  · simp only [reOf, U64]; omega
  · intro i
    simp only [reOf, U64]
    split
    · have := h3 i (by assumption); omega
    · omega
  · simp only [reOf]; omega
  · simp only [reOf, U64]; omega
theorem reOf_D (x : record_Record) : recD (reOf x) = x.cs := rfl
def record_Size (x : record_Record) : Option Int := chk (reFits x = true) (some ((recBytes (reOf x)).length : Int))
theorem record_Size_c {x : record_Record} {r : Int} (hM : record_Size x = some r) : PCall Tryz.prog 186 [.agg x.cs] (.int .i64 r) := by
  obtain ⟨h, hM⟩ := of_chk hM
  obtain rfl := Option.some.inj hM
  have := reFits_T h
  have k := size_c (reOf x) this.2 this.1
  rw [reOf_D] at k; exact k
end Go.Proofs.YtepkcbalmjnhpaaGreat
