/-
  Contracts of record's functions, in the words of the printed models: Check, Bytes, Equal, Read.
-/
import Derived.Test.YtepkcbalmjnhpaaGreatHdRec
import Derived.Test.YtepkcbalmjnhpaaGreatPlG
set_option maxRecDepth 100000
set_option maxHeartbeats 1000000
set_option linter.unusedVariables false
set_option linter.unusedSimpArgs false
namespace Go.Proofs.YtepkcbalmjnhpaaGreat
open Go.RowKit
def record_Check (x : record_Record) : Option Int := chk (reFits x = true) (some (checkN (reOf x)))
theorem record_Check_c {x : record_Record} {r : Int} (hM : record_Check x = some r) : PCall Tryz.prog 110 [.agg x.cs] (.int .i64 r) := by
  obtain ⟨h, hM⟩ := of_chk hM
  obtain rfl := Option.some.inj hM
  have := reFits_T h
  have k := check_c (reOf x) this.2 this.1.seq
  rw [reOf_D] at k; exact k
def record_Record_Bytes (x : record_Record) : Option (List Int) := chk (reFits x = true) (some (recBytes (reOf x)))
theorem record_Record_Bytes_c {x : record_Record} {r : List Int} (hM : record_Record_Bytes x = some r) : PCall Tryz.prog 62 [.agg x.cs] (.sl 1 (List.map (DV.int .u8) r)) := by
  obtain ⟨h, hM⟩ := of_chk hM
  obtain rfl := Option.some.inj hM
  have := reFits_T h
  have k := recBytes_c (reOf x) this.2 this.1
  rw [reOf_D] at k; exact k
def record_Equal (x y : record_Record) : Option Bool := chk (reFits x = true) (some (recEq (reOf x) (reOf y)))
theorem record_Equal_c {x y : record_Record} {r : Bool} (hM : record_Equal x y = some r) : PCall Tryz.prog 29 [.agg x.cs, .agg y.cs] (.bool r) := by
  obtain ⟨h, hM⟩ := of_chk hM
  obtain rfl := Option.some.inj hM
  have := reFits_T h
  have k := equal_c (reOf x) (reOf y) this.2
  rw [reOf_D, reOf_D] at k; exact k
def ofRe (y : Re) : record_Record := ⟨y.comp, y.seq, ⟨y.clk⟩, y.what, ⟨y.ev.tick, y.ev.comp, y.ev.kind, y.ev.peer, y.ev.n, y.ev.copy, y.ev.handler, y.ev.d, y.ev.args⟩, y.count⟩
theorem ofRe_D (y : Re) : (ofRe y).cs = recD y := rfl
def bytOk (xs : List Int) : Bool := xs.all (okI .u8) && decide (xs.length ≤ 140737488355328)
def record_Read (xs : List Int) : Option (record_Record × Int) := chk (bytOk xs = true) (some (match readRec xs with
  | none => (ofRe re0, 6)
  | some y => (ofRe y, 0)))
theorem record_Read_c {xs : List Int} {r : record_Record × Int} (hM : record_Read xs = some r) : PCall Tryz.prog 64 [.sl 1 (List.map (DV.int .u8) xs)] (.tup [.agg r.1.cs, .int .i64 r.2]) := by
  obtain ⟨h, hM⟩ := of_chk hM
  obtain rfl := Option.some.inj hM
  simp only [bytOk, Bool.and_eq_true, List.all_eq_true, okI_iff, InR, decide_eq_true_eq] at h
  have k := read_c xs (fun b hb => h.1 b hb) h.2
  cases hr : readRec xs with
  | none => rw [hr] at k; exact k
  | some y => rw [hr] at k; exact k
end Go.Proofs.YtepkcbalmjnhpaaGreat
