/-
  Facts of the types: their cells, their fields, their elements, their zero values. Printed by a program off the translation's own table.
-/
import Derived.Test.YtfijmpmojhlnmaaFn
import Derived.Test.YtfijmpmojhlnmaaRows
namespace Go.Proofs.Ytfijmpmojhlnmaa
open Go.RowKit
-- 2: int64
instance : Sz Try.prog 2 false 1 := .mk' (by kernel_rfl)
instance : Zr Try.prog 2 [.int .i64 0] := .mk' (by kernel_rfl)
instance : It Try.prog 2 .i64 := ⟨by kernel_rfl⟩
-- 3: int
instance : Sz Try.prog 3 false 1 := .mk' (by kernel_rfl)
instance : Zr Try.prog 3 [.int .i64 0] := .mk' (by kernel_rfl)
instance : It Try.prog 3 .i64 := ⟨by kernel_rfl⟩
-- 4: bool
instance : Sz Try.prog 4 false 1 := .mk' (by kernel_rfl)
instance : Zr Try.prog 4 [.bool false] := .mk' (by kernel_rfl)
-- 5: uint8
instance : Sz Try.prog 5 false 1 := .mk' (by kernel_rfl)
instance : Zr Try.prog 5 [.int .u8 0] := .mk' (by kernel_rfl)
instance : It Try.prog 5 .u8 := ⟨by kernel_rfl⟩
-- 7
instance : Sz Try.prog 7 true 4 := .mk' (by kernel_rfl)
instance : Zr Try.prog 7 [.int .i64 0, .int .i64 0, .bool false, .int .u8 0] := .mk' (by kernel_rfl)
instance : Fl Try.prog 7 0 0 := .mk' (n := 0) (by kernel_rfl)
instance : Fl Try.prog 7 1 1 := .mk' (n := 0) (by kernel_rfl)
instance : Fl Try.prog 7 2 2 := .mk' (n := 0) (by kernel_rfl)
instance : Fl Try.prog 7 3 3 := .mk' (n := 0) (by kernel_rfl)
instance : Stt Try.prog 7 [(0, 1), (1, 1), (2, 1), (3, 1)] := .mk' (by kernel_rfl)
-- 9: string
instance : Sz Try.prog 9 false 1 := .mk' (by kernel_rfl)
instance : Zr Try.prog 9 [.string ⟨#[]⟩] := .mk' (by kernel_rfl)
-- 12: uintptr
instance : Sz Try.prog 12 false 1 := .mk' (by kernel_rfl)
instance : Zr Try.prog 12 [.int .u64 0] := .mk' (by kernel_rfl)
instance : It Try.prog 12 .u64 := ⟨by kernel_rfl⟩
-- 13: struct { msg string; addr uintptr }
instance : Sz Try.prog 13 true 2 := .mk' (by kernel_rfl)
instance : Zr Try.prog 13 [.string ⟨#[]⟩, .int .u64 0] := .mk' (by kernel_rfl)
instance : Fl Try.prog 13 0 0 := .mk' (n := 0) (by kernel_rfl)
instance : Fl Try.prog 13 1 1 := .mk' (n := 0) (by kernel_rfl)
instance : Stt Try.prog 13 [(0, 1), (1, 1)] := .mk' (by kernel_rfl)
-- 15: *runtime.TypeAssertionError
instance : Sz Try.prog 15 false 1 := .mk' (by kernel_rfl)
instance : Zr Try.prog 15 [.pointer none] := .mk' (by kernel_rfl)
-- 16: *runtime.PanicNilError
instance : Sz Try.prog 16 false 1 := .mk' (by kernel_rfl)
instance : Zr Try.prog 16 [.pointer none] := .mk' (by kernel_rfl)
-- 17: *abi.Type
instance : Sz Try.prog 17 false 1 := .mk' (by kernel_rfl)
instance : Zr Try.prog 17 [.pointer none] := .mk' (by kernel_rfl)
-- 18: struct { typ *abi.Type }
instance : Sz Try.prog 18 true 1 := .mk' (by kernel_rfl)
instance : Zr Try.prog 18 [.pointer none] := .mk' (by kernel_rfl)
instance : Fl Try.prog 18 0 0 := .mk' (n := 0) (by kernel_rfl)
instance : Stt Try.prog 18 [(0, 1)] := .mk' (by kernel_rfl)
-- 21: int32
instance : Sz Try.prog 21 false 1 := .mk' (by kernel_rfl)
instance : Zr Try.prog 21 [.int .i32 0] := .mk' (by kernel_rfl)
instance : It Try.prog 21 .i32 := ⟨by kernel_rfl⟩
-- 22: []attestlaw08.T
instance : Sz Try.prog 22 false 1 := .mk' (by kernel_rfl)
instance : Zr Try.prog 22 [.slice none 0 0] := .mk' (by kernel_rfl)
instance : Sl Try.prog 22 100 4 64 := ⟨.of (by kernel_rfl) (by kernel_rfl)⟩
-- 23: []uint32
instance : Sz Try.prog 23 false 1 := .mk' (by kernel_rfl)
instance : Zr Try.prog 23 [.slice none 0 0] := .mk' (by kernel_rfl)
instance : Sl Try.prog 23 121 1 4 := ⟨.of (by kernel_rfl) (by kernel_rfl)⟩
-- 24: struct { Neg bool; Num []uint32; Den []uint32 }
instance : Sz Try.prog 24 true 3 := .mk' (by kernel_rfl)
instance : Zr Try.prog 24 [.bool false, .slice none 0 0, .slice none 0 0] := .mk' (by kernel_rfl)
instance : Fl Try.prog 24 0 0 := .mk' (n := 0) (by kernel_rfl)
instance : Fl Try.prog 24 1 1 := .mk' (n := 0) (by kernel_rfl)
instance : Fl Try.prog 24 2 2 := .mk' (n := 0) (by kernel_rfl)
instance : Stt Try.prog 24 [(0, 1), (1, 1), (2, 1)] := .mk' (by kernel_rfl)
-- 25: attestlaw05.N
instance : Sz Try.prog 25 true 3 := .mk' (by kernel_rfl)
instance : Zr Try.prog 25 [.bool false, .slice none 0 0, .slice none 0 0] := .mk' (by kernel_rfl)
instance : Fl Try.prog 25 0 0 := .mk' (n := 0) (by kernel_rfl)
instance : Fl Try.prog 25 1 1 := .mk' (n := 0) (by kernel_rfl)
instance : Fl Try.prog 25 2 2 := .mk' (n := 0) (by kernel_rfl)
instance : Stt Try.prog 25 [(0, 1), (1, 1), (2, 1)] := .mk' (by kernel_rfl)
-- 26: struct { Terms []attestlaw08.T; Const attestlaw05.N }
instance : Sz Try.prog 26 true 4 := .mk' (by kernel_rfl)
instance : Zr Try.prog 26 [.slice none 0 0, .bool false, .slice none 0 0, .slice none 0 0] := .mk' (by kernel_rfl)
instance : Fl Try.prog 26 0 0 := .mk' (n := 0) (by kernel_rfl)
instance : Fl Try.prog 26 1 1 := .mk' (n := 2) (by kernel_rfl)
instance : Stt Try.prog 26 [(0, 1), (1, 3)] := .mk' (by kernel_rfl)
-- 27: attestlaw08.E
instance : Sz Try.prog 27 true 4 := .mk' (by kernel_rfl)
instance : Zr Try.prog 27 [.slice none 0 0, .bool false, .slice none 0 0, .slice none 0 0] := .mk' (by kernel_rfl)
instance : Fl Try.prog 27 0 0 := .mk' (n := 0) (by kernel_rfl)
instance : Fl Try.prog 27 1 1 := .mk' (n := 2) (by kernel_rfl)
instance : Stt Try.prog 27 [(0, 1), (1, 3)] := .mk' (by kernel_rfl)
-- 28: struct { E attestlaw08.E; Op int }
instance : Sz Try.prog 28 true 5 := .mk' (by kernel_rfl)
instance : Zr Try.prog 28 [.slice none 0 0, .bool false, .slice none 0 0, .slice none 0 0, .int .i64 0] := .mk' (by kernel_rfl)
instance : Fl Try.prog 28 0 0 := .mk' (n := 3) (by kernel_rfl)
instance : Fl Try.prog 28 1 4 := .mk' (n := 0) (by kernel_rfl)
instance : Stt Try.prog 28 [(0, 4), (4, 1)] := .mk' (by kernel_rfl)
-- 29: attestlaw09.A
instance : Sz Try.prog 29 true 5 := .mk' (by kernel_rfl)
instance : Zr Try.prog 29 [.slice none 0 0, .bool false, .slice none 0 0, .slice none 0 0, .int .i64 0] := .mk' (by kernel_rfl)
instance : Fl Try.prog 29 0 0 := .mk' (n := 3) (by kernel_rfl)
instance : Fl Try.prog 29 1 4 := .mk' (n := 0) (by kernel_rfl)
instance : Stt Try.prog 29 [(0, 4), (4, 1)] := .mk' (by kernel_rfl)
-- 30: []lin.Term
instance : Sz Try.prog 30 false 1 := .mk' (by kernel_rfl)
instance : Zr Try.prog 30 [.slice none 0 0] := .mk' (by kernel_rfl)
instance : Sl Try.prog 30 78 4 64 := ⟨.of (by kernel_rfl) (by kernel_rfl)⟩
-- 31: struct { neg bool; num []uint32; den []uint32 }
instance : Sz Try.prog 31 true 3 := .mk' (by kernel_rfl)
instance : Zr Try.prog 31 [.bool false, .slice none 0 0, .slice none 0 0] := .mk' (by kernel_rfl)
instance : Fl Try.prog 31 0 0 := .mk' (n := 0) (by kernel_rfl)
instance : Fl Try.prog 31 1 1 := .mk' (n := 0) (by kernel_rfl)
instance : Fl Try.prog 31 2 2 := .mk' (n := 0) (by kernel_rfl)
instance : Stt Try.prog 31 [(0, 1), (1, 1), (2, 1)] := .mk' (by kernel_rfl)
-- 32: rat.Rat
instance : Sz Try.prog 32 true 3 := .mk' (by kernel_rfl)
instance : Zr Try.prog 32 [.bool false, .slice none 0 0, .slice none 0 0] := .mk' (by kernel_rfl)
instance : Fl Try.prog 32 0 0 := .mk' (n := 0) (by kernel_rfl)
instance : Fl Try.prog 32 1 1 := .mk' (n := 0) (by kernel_rfl)
instance : Fl Try.prog 32 2 2 := .mk' (n := 0) (by kernel_rfl)
instance : Stt Try.prog 32 [(0, 1), (1, 1), (2, 1)] := .mk' (by kernel_rfl)
-- 33: struct { Terms []lin.Term; Const rat.Rat }
instance : Sz Try.prog 33 true 4 := .mk' (by kernel_rfl)
instance : Zr Try.prog 33 [.slice none 0 0, .bool false, .slice none 0 0, .slice none 0 0] := .mk' (by kernel_rfl)
instance : Fl Try.prog 33 0 0 := .mk' (n := 0) (by kernel_rfl)
instance : Fl Try.prog 33 1 1 := .mk' (n := 2) (by kernel_rfl)
instance : Stt Try.prog 33 [(0, 1), (1, 3)] := .mk' (by kernel_rfl)
-- 34: lin.Expr
instance : Sz Try.prog 34 true 4 := .mk' (by kernel_rfl)
instance : Zr Try.prog 34 [.slice none 0 0, .bool false, .slice none 0 0, .slice none 0 0] := .mk' (by kernel_rfl)
instance : Fl Try.prog 34 0 0 := .mk' (n := 0) (by kernel_rfl)
instance : Fl Try.prog 34 1 1 := .mk' (n := 2) (by kernel_rfl)
instance : Stt Try.prog 34 [(0, 1), (1, 3)] := .mk' (by kernel_rfl)
-- 35: struct { E lin.Expr; Op int }
instance : Sz Try.prog 35 true 5 := .mk' (by kernel_rfl)
instance : Zr Try.prog 35 [.slice none 0 0, .bool false, .slice none 0 0, .slice none 0 0, .int .i64 0] := .mk' (by kernel_rfl)
instance : Fl Try.prog 35 0 0 := .mk' (n := 3) (by kernel_rfl)
instance : Fl Try.prog 35 1 4 := .mk' (n := 0) (by kernel_rfl)
instance : Stt Try.prog 35 [(0, 4), (4, 1)] := .mk' (by kernel_rfl)
-- 36: atom.Atom
instance : Sz Try.prog 36 true 5 := .mk' (by kernel_rfl)
instance : Zr Try.prog 36 [.slice none 0 0, .bool false, .slice none 0 0, .slice none 0 0, .int .i64 0] := .mk' (by kernel_rfl)
instance : Fl Try.prog 36 0 0 := .mk' (n := 3) (by kernel_rfl)
instance : Fl Try.prog 36 1 4 := .mk' (n := 0) (by kernel_rfl)
instance : Stt Try.prog 36 [(0, 4), (4, 1)] := .mk' (by kernel_rfl)
-- 37: api.Errno
instance : Sz Try.prog 37 false 1 := .mk' (by kernel_rfl)
instance : Zr Try.prog 37 [.int .i64 0] := .mk' (by kernel_rfl)
instance : It Try.prog 37 .i64 := ⟨by kernel_rfl⟩
-- 45: []attestref08.Term
instance : Sz Try.prog 45 false 1 := .mk' (by kernel_rfl)
instance : Zr Try.prog 45 [.slice none 0 0] := .mk' (by kernel_rfl)
instance : Sl Try.prog 45 96 4 64 := ⟨.of (by kernel_rfl) (by kernel_rfl)⟩
-- 46: []bool
instance : Sz Try.prog 46 false 1 := .mk' (by kernel_rfl)
instance : Zr Try.prog 46 [.slice none 0 0] := .mk' (by kernel_rfl)
instance : Sl Try.prog 46 4 1 1 := ⟨.of (by kernel_rfl) (by kernel_rfl)⟩
-- 47: struct { Neg bool; Num []bool; Den []bool }
instance : Sz Try.prog 47 true 3 := .mk' (by kernel_rfl)
instance : Zr Try.prog 47 [.bool false, .slice none 0 0, .slice none 0 0] := .mk' (by kernel_rfl)
instance : Fl Try.prog 47 0 0 := .mk' (n := 0) (by kernel_rfl)
instance : Fl Try.prog 47 1 1 := .mk' (n := 0) (by kernel_rfl)
instance : Fl Try.prog 47 2 2 := .mk' (n := 0) (by kernel_rfl)
instance : Stt Try.prog 47 [(0, 1), (1, 1), (2, 1)] := .mk' (by kernel_rfl)
-- 48: attestref05.Rat
instance : Sz Try.prog 48 true 3 := .mk' (by kernel_rfl)
instance : Zr Try.prog 48 [.bool false, .slice none 0 0, .slice none 0 0] := .mk' (by kernel_rfl)
instance : Fl Try.prog 48 0 0 := .mk' (n := 0) (by kernel_rfl)
instance : Fl Try.prog 48 1 1 := .mk' (n := 0) (by kernel_rfl)
instance : Fl Try.prog 48 2 2 := .mk' (n := 0) (by kernel_rfl)
instance : Stt Try.prog 48 [(0, 1), (1, 1), (2, 1)] := .mk' (by kernel_rfl)
-- 49: struct { Terms []attestref08.Term; Const attestref05.Rat }
instance : Sz Try.prog 49 true 4 := .mk' (by kernel_rfl)
instance : Zr Try.prog 49 [.slice none 0 0, .bool false, .slice none 0 0, .slice none 0 0] := .mk' (by kernel_rfl)
instance : Fl Try.prog 49 0 0 := .mk' (n := 0) (by kernel_rfl)
instance : Fl Try.prog 49 1 1 := .mk' (n := 2) (by kernel_rfl)
instance : Stt Try.prog 49 [(0, 1), (1, 3)] := .mk' (by kernel_rfl)
-- 50: attestref08.Expr
instance : Sz Try.prog 50 true 4 := .mk' (by kernel_rfl)
instance : Zr Try.prog 50 [.slice none 0 0, .bool false, .slice none 0 0, .slice none 0 0] := .mk' (by kernel_rfl)
instance : Fl Try.prog 50 0 0 := .mk' (n := 0) (by kernel_rfl)
instance : Fl Try.prog 50 1 1 := .mk' (n := 2) (by kernel_rfl)
instance : Stt Try.prog 50 [(0, 1), (1, 3)] := .mk' (by kernel_rfl)
-- 51: struct { E attestref08.Expr; Op int }
instance : Sz Try.prog 51 true 5 := .mk' (by kernel_rfl)
instance : Zr Try.prog 51 [.slice none 0 0, .bool false, .slice none 0 0, .slice none 0 0, .int .i64 0] := .mk' (by kernel_rfl)
instance : Fl Try.prog 51 0 0 := .mk' (n := 3) (by kernel_rfl)
instance : Fl Try.prog 51 1 4 := .mk' (n := 0) (by kernel_rfl)
instance : Stt Try.prog 51 [(0, 4), (4, 1)] := .mk' (by kernel_rfl)
-- 52: attestref09.Atom
instance : Sz Try.prog 52 true 5 := .mk' (by kernel_rfl)
instance : Zr Try.prog 52 [.slice none 0 0, .bool false, .slice none 0 0, .slice none 0 0, .int .i64 0] := .mk' (by kernel_rfl)
instance : Fl Try.prog 52 0 0 := .mk' (n := 3) (by kernel_rfl)
instance : Fl Try.prog 52 1 4 := .mk' (n := 0) (by kernel_rfl)
instance : Stt Try.prog 52 [(0, 4), (4, 1)] := .mk' (by kernel_rfl)
-- 62: []attestlaw05.N
instance : Sz Try.prog 62 false 1 := .mk' (by kernel_rfl)
instance : Zr Try.prog 62 [.slice none 0 0] := .mk' (by kernel_rfl)
instance : Sl Try.prog 62 25 3 56 := ⟨.of (by kernel_rfl) (by kernel_rfl)⟩
-- 63: []rat.Rat
instance : Sz Try.prog 63 false 1 := .mk' (by kernel_rfl)
instance : Zr Try.prog 63 [.slice none 0 0] := .mk' (by kernel_rfl)
instance : Sl Try.prog 63 32 3 56 := ⟨.of (by kernel_rfl) (by kernel_rfl)⟩
-- 69: []attestref05.Rat
instance : Sz Try.prog 69 false 1 := .mk' (by kernel_rfl)
instance : Zr Try.prog 69 [.slice none 0 0] := .mk' (by kernel_rfl)
instance : Sl Try.prog 69 48 3 56 := ⟨.of (by kernel_rfl) (by kernel_rfl)⟩
-- 72: []atom.Atom
instance : Sz Try.prog 72 false 1 := .mk' (by kernel_rfl)
instance : Zr Try.prog 72 [.slice none 0 0] := .mk' (by kernel_rfl)
instance : Sl Try.prog 72 36 5 88 := ⟨.of (by kernel_rfl) (by kernel_rfl)⟩
-- 77: struct { Var int; Coef rat.Rat }
instance : Sz Try.prog 77 true 4 := .mk' (by kernel_rfl)
instance : Zr Try.prog 77 [.int .i64 0, .bool false, .slice none 0 0, .slice none 0 0] := .mk' (by kernel_rfl)
instance : Fl Try.prog 77 0 0 := .mk' (n := 0) (by kernel_rfl)
instance : Fl Try.prog 77 1 1 := .mk' (n := 2) (by kernel_rfl)
instance : Stt Try.prog 77 [(0, 1), (1, 3)] := .mk' (by kernel_rfl)
-- 78: lin.Term
instance : Sz Try.prog 78 true 4 := .mk' (by kernel_rfl)
instance : Zr Try.prog 78 [.int .i64 0, .bool false, .slice none 0 0, .slice none 0 0] := .mk' (by kernel_rfl)
instance : Fl Try.prog 78 0 0 := .mk' (n := 0) (by kernel_rfl)
instance : Fl Try.prog 78 1 1 := .mk' (n := 2) (by kernel_rfl)
instance : Stt Try.prog 78 [(0, 1), (1, 3)] := .mk' (by kernel_rfl)
-- 90: []int
instance : Sz Try.prog 90 false 1 := .mk' (by kernel_rfl)
instance : Zr Try.prog 90 [.slice none 0 0] := .mk' (by kernel_rfl)
instance : Sl Try.prog 90 3 1 8 := ⟨.of (by kernel_rfl) (by kernel_rfl)⟩
-- 92: []attestref08.Expr
instance : Sz Try.prog 92 false 1 := .mk' (by kernel_rfl)
instance : Zr Try.prog 92 [.slice none 0 0] := .mk' (by kernel_rfl)
instance : Sl Try.prog 92 50 4 80 := ⟨.of (by kernel_rfl) (by kernel_rfl)⟩
-- 95: struct { Var int; Coef attestref05.Rat }
instance : Sz Try.prog 95 true 4 := .mk' (by kernel_rfl)
instance : Zr Try.prog 95 [.int .i64 0, .bool false, .slice none 0 0, .slice none 0 0] := .mk' (by kernel_rfl)
instance : Fl Try.prog 95 0 0 := .mk' (n := 0) (by kernel_rfl)
instance : Fl Try.prog 95 1 1 := .mk' (n := 2) (by kernel_rfl)
instance : Stt Try.prog 95 [(0, 1), (1, 3)] := .mk' (by kernel_rfl)
-- 96: attestref08.Term
instance : Sz Try.prog 96 true 4 := .mk' (by kernel_rfl)
instance : Zr Try.prog 96 [.int .i64 0, .bool false, .slice none 0 0, .slice none 0 0] := .mk' (by kernel_rfl)
instance : Fl Try.prog 96 0 0 := .mk' (n := 0) (by kernel_rfl)
instance : Fl Try.prog 96 1 1 := .mk' (n := 2) (by kernel_rfl)
instance : Stt Try.prog 96 [(0, 1), (1, 3)] := .mk' (by kernel_rfl)
-- 99: struct { Var int; Coef attestlaw05.N }
instance : Sz Try.prog 99 true 4 := .mk' (by kernel_rfl)
instance : Zr Try.prog 99 [.int .i64 0, .bool false, .slice none 0 0, .slice none 0 0] := .mk' (by kernel_rfl)
instance : Fl Try.prog 99 0 0 := .mk' (n := 0) (by kernel_rfl)
instance : Fl Try.prog 99 1 1 := .mk' (n := 2) (by kernel_rfl)
instance : Stt Try.prog 99 [(0, 1), (1, 3)] := .mk' (by kernel_rfl)
-- 100: attestlaw08.T
instance : Sz Try.prog 100 true 4 := .mk' (by kernel_rfl)
instance : Zr Try.prog 100 [.int .i64 0, .bool false, .slice none 0 0, .slice none 0 0] := .mk' (by kernel_rfl)
instance : Fl Try.prog 100 0 0 := .mk' (n := 0) (by kernel_rfl)
instance : Fl Try.prog 100 1 1 := .mk' (n := 2) (by kernel_rfl)
instance : Stt Try.prog 100 [(0, 1), (1, 3)] := .mk' (by kernel_rfl)
-- 103: uint64
instance : Sz Try.prog 103 false 1 := .mk' (by kernel_rfl)
instance : Zr Try.prog 103 [.int .u64 0] := .mk' (by kernel_rfl)
instance : It Try.prog 103 .u64 := ⟨by kernel_rfl⟩
-- 121: uint32
instance : Sz Try.prog 121 false 1 := .mk' (by kernel_rfl)
instance : Zr Try.prog 121 [.int .u32 0] := .mk' (by kernel_rfl)
instance : It Try.prog 121 .u32 := ⟨by kernel_rfl⟩
-- 133: uint
instance : Sz Try.prog 133 false 1 := .mk' (by kernel_rfl)
instance : Zr Try.prog 133 [.int .u64 0] := .mk' (by kernel_rfl)
instance : It Try.prog 133 .u64 := ⟨by kernel_rfl⟩
-- 152
instance : Sz Try.prog 152 true 4 := .mk' (by kernel_rfl)
instance : Zr Try.prog 152 [.pointer none, .pointer none, .pointer none, .string ⟨#[]⟩] := .mk' (by kernel_rfl)
instance : Fl Try.prog 152 0 0 := .mk' (n := 0) (by kernel_rfl)
instance : Fl Try.prog 152 1 1 := .mk' (n := 0) (by kernel_rfl)
instance : Fl Try.prog 152 2 2 := .mk' (n := 0) (by kernel_rfl)
instance : Fl Try.prog 152 3 3 := .mk' (n := 0) (by kernel_rfl)
instance : Stt Try.prog 152 [(0, 1), (1, 1), (2, 1), (3, 1)] := .mk' (by kernel_rfl)
-- 155: struct { _ [0]*runtime.PanicNilError }
instance : Sz Try.prog 155 true 0 := .mk' (by kernel_rfl)
instance : Zr Try.prog 155 [] := .mk' (by kernel_rfl)
instance : Stt Try.prog 155 [(0, 0)] := .mk' (by kernel_rfl)
-- 161: *uint8
instance : Sz Try.prog 161 false 1 := .mk' (by kernel_rfl)
instance : Zr Try.prog 161 [.pointer none] := .mk' (by kernel_rfl)
-- 164
instance : Sz Try.prog 164 true 11 := .mk' (by kernel_rfl)
instance : Zr Try.prog 164 [.int .u64 0, .int .u64 0, .int .u32 0, .int .u8 0, .int .u8 0, .int .u8 0, .int .u8 0, .nilFunc, .pointer none, .int .i32 0, .int .i32 0] := .mk' (by kernel_rfl)
instance : Fl Try.prog 164 0 0 := .mk' (n := 0) (by kernel_rfl)
instance : Fl Try.prog 164 1 1 := .mk' (n := 0) (by kernel_rfl)
instance : Fl Try.prog 164 2 2 := .mk' (n := 0) (by kernel_rfl)
instance : Fl Try.prog 164 3 3 := .mk' (n := 0) (by kernel_rfl)
instance : Fl Try.prog 164 4 4 := .mk' (n := 0) (by kernel_rfl)
instance : Fl Try.prog 164 5 5 := .mk' (n := 0) (by kernel_rfl)
instance : Fl Try.prog 164 6 6 := .mk' (n := 0) (by kernel_rfl)
instance : Fl Try.prog 164 8 8 := .mk' (n := 0) (by kernel_rfl)
instance : Fl Try.prog 164 9 9 := .mk' (n := 0) (by kernel_rfl)
instance : Fl Try.prog 164 10 10 := .mk' (n := 0) (by kernel_rfl)
end Go.Proofs.Ytfijmpmojhlnmaa
