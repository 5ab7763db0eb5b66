/-
  Structs and arrays that are compared cell by cell, printed by gen_tye.py.
-/
import Derived.Test.YtepkcbalmjnhpaaGreatTy
import Derived.Test.YtepkcbalmjnhpaaGreatEngV
set_option maxRecDepth 100000
set_option linter.unusedVariables false
namespace Go.Proofs.YtepkcbalmjnhpaaGreat
open Go.RowKit
instance : CEq Tryz.prog 43 [.int .u64, .int .u64, .int .u64, .int .u64, .int .u64, .int .u64, .int .u64, .int .u64, .int .u64, .int .u64, .int .u64, .int .u64, .int .u64, .int .u64, .int .u64, .int .u64] := CEq.array (e := 42) (m := 16) (g := .int .u64) (by kernel_rfl) (by kernel_rfl) (by kernel_rfl) (by kernel_rfl) (by kernel_rfl)
instance : CEq Tryz.prog 56 [.int .i64, .int .i64, .int .i64, .int .i64] := CEq.struct (by kernel_rfl) (by kernel_rfl) (by kernel_rfl)
instance : CEq Tryz.prog 80 [.int .u64, .int .u64] := CEq.array (e := 42) (m := 2) (g := .int .u64) (by kernel_rfl) (by kernel_rfl) (by kernel_rfl) (by kernel_rfl) (by kernel_rfl)
instance : CEq Tryz.prog 85 [.int .i64, .int .u64, .int .u64, .bool, .int .i64, .int .i64] := CEq.struct (by kernel_rfl) (by kernel_rfl) (by kernel_rfl)
instance : CEq Tryz.prog 97 [.int .u16, .int .u16] := CEq.array (e := 34) (m := 2) (g := .int .u16) (by kernel_rfl) (by kernel_rfl) (by kernel_rfl) (by kernel_rfl) (by kernel_rfl)
instance : CEq Tryz.prog 102 [.int .i64, .int .u64] := CEq.struct (by kernel_rfl) (by kernel_rfl) (by kernel_rfl)
instance : CEq Tryz.prog 117 [.int .u8, .int .u8, .int .u8, .int .u8] := CEq.struct (by kernel_rfl) (by kernel_rfl) (by kernel_rfl)
instance : CEq Tryz.prog 146 [.int .u64, .int .u64] := CEq.struct (by kernel_rfl) (by kernel_rfl) (by kernel_rfl)
instance : CEq Tryz.prog 157 [.int .i64, .int .i64] := CEq.array (e := 3) (m := 2) (g := .int .i64) (by kernel_rfl) (by kernel_rfl) (by kernel_rfl) (by kernel_rfl) (by kernel_rfl)
instance : CEq Tryz.prog 160 [.int .i64, .int .u64, .int .u64, .bool, .int .i64, .int .i64] := CEq.struct (by kernel_rfl) (by kernel_rfl) (by kernel_rfl)
instance : CEq Tryz.prog 171 [.int .i64, .int .i64] := CEq.struct (by kernel_rfl) (by kernel_rfl) (by kernel_rfl)
instance : CEq Tryz.prog 177 [.int .i64, .int .i64, .int .i64] := CEq.struct (by kernel_rfl) (by kernel_rfl) (by kernel_rfl)
instance : CEq Tryz.prog 203 [.int .i64, .int .i64, .int .i64, .int .i64, .int .i64, .int .i64] := CEq.array (e := 3) (m := 6) (g := .int .i64) (by kernel_rfl) (by kernel_rfl) (by kernel_rfl) (by kernel_rfl) (by kernel_rfl)
instance : CEq Tryz.prog 288 [.int .u8, .int .u8, .int .u8, .int .u8, .int .u8] := CEq.array (e := 286) (m := 5) (g := .int .u8) (by kernel_rfl) (by kernel_rfl) (by kernel_rfl) (by kernel_rfl) (by kernel_rfl)
end Go.Proofs.YtepkcbalmjnhpaaGreat
