/-
  Facts of the types: their cells, their fields, their elements, their zero values. Printed by a program off the translation's own table.
-/
import Derived.Test.YtfijmpmojhlnmaaGreatDoorK3
import Derived.Test.YtfijmpmojhlnmaaGreatDoorRows
namespace Go.Proofs.YtfijmpmojhlnmaaGreatDoor
open Go.RowKit
-- 2: int64
instance : Sz Tryz.prog 2 false 1 := .mk' (by kernel_rfl)
instance : Zr Tryz.prog 2 [.int .i64 0] := .mk' (by kernel_rfl)
instance : It Tryz.prog 2 .i64 := ⟨by kernel_rfl⟩
-- 3: int
instance : Sz Tryz.prog 3 false 1 := .mk' (by kernel_rfl)
instance : Zr Tryz.prog 3 [.int .i64 0] := .mk' (by kernel_rfl)
instance : It Tryz.prog 3 .i64 := ⟨by kernel_rfl⟩
-- 4: bool
instance : Sz Tryz.prog 4 false 1 := .mk' (by kernel_rfl)
instance : Zr Tryz.prog 4 [.bool false] := .mk' (by kernel_rfl)
-- 5: uint8
instance : Sz Tryz.prog 5 false 1 := .mk' (by kernel_rfl)
instance : Zr Tryz.prog 5 [.int .u8 0] := .mk' (by kernel_rfl)
instance : It Tryz.prog 5 .u8 := ⟨by kernel_rfl⟩
-- 7
instance : Sz Tryz.prog 7 true 4 := .mk' (by kernel_rfl)
instance : Zr Tryz.prog 7 [.int .i64 0, .int .i64 0, .bool false, .int .u8 0] := .mk' (by kernel_rfl)
instance : Fl Tryz.prog 7 0 0 := .mk' (n := 0) (by kernel_rfl)
instance : Fl Tryz.prog 7 1 1 := .mk' (n := 0) (by kernel_rfl)
instance : Fl Tryz.prog 7 2 2 := .mk' (n := 0) (by kernel_rfl)
instance : Fl Tryz.prog 7 3 3 := .mk' (n := 0) (by kernel_rfl)
instance : Stt Tryz.prog 7 [(0, 1), (1, 1), (2, 1), (3, 1)] := .mk' (by kernel_rfl)
-- 9: string
instance : Sz Tryz.prog 9 false 1 := .mk' (by kernel_rfl)
instance : Zr Tryz.prog 9 [.string ⟨#[]⟩] := .mk' (by kernel_rfl)
-- 12: uintptr
instance : Sz Tryz.prog 12 false 1 := .mk' (by kernel_rfl)
instance : Zr Tryz.prog 12 [.int .u64 0] := .mk' (by kernel_rfl)
instance : It Tryz.prog 12 .u64 := ⟨by kernel_rfl⟩
-- 13: struct { msg string; addr uintptr }
instance : Sz Tryz.prog 13 true 2 := .mk' (by kernel_rfl)
instance : Zr Tryz.prog 13 [.string ⟨#[]⟩, .int .u64 0] := .mk' (by kernel_rfl)
instance : Fl Tryz.prog 13 0 0 := .mk' (n := 0) (by kernel_rfl)
instance : Fl Tryz.prog 13 1 1 := .mk' (n := 0) (by kernel_rfl)
instance : Stt Tryz.prog 13 [(0, 1), (1, 1)] := .mk' (by kernel_rfl)
-- 15: *runtime.TypeAssertionError
instance : Sz Tryz.prog 15 false 1 := .mk' (by kernel_rfl)
instance : Zr Tryz.prog 15 [.pointer none] := .mk' (by kernel_rfl)
-- 16: *runtime.PanicNilError
instance : Sz Tryz.prog 16 false 1 := .mk' (by kernel_rfl)
instance : Zr Tryz.prog 16 [.pointer none] := .mk' (by kernel_rfl)
-- 17: *abi.Type
instance : Sz Tryz.prog 17 false 1 := .mk' (by kernel_rfl)
instance : Zr Tryz.prog 17 [.pointer none] := .mk' (by kernel_rfl)
-- 18: struct { typ *abi.Type }
instance : Sz Tryz.prog 18 true 1 := .mk' (by kernel_rfl)
instance : Zr Tryz.prog 18 [.pointer none] := .mk' (by kernel_rfl)
instance : Fl Tryz.prog 18 0 0 := .mk' (n := 0) (by kernel_rfl)
instance : Stt Tryz.prog 18 [(0, 1)] := .mk' (by kernel_rfl)
-- 21: int32
instance : Sz Tryz.prog 21 false 1 := .mk' (by kernel_rfl)
instance : Zr Tryz.prog 21 [.int .i32 0] := .mk' (by kernel_rfl)
instance : It Tryz.prog 21 .i32 := ⟨by kernel_rfl⟩
-- 22: []attestlaw22.S
instance : Sz Tryz.prog 22 false 1 := .mk' (by kernel_rfl)
instance : Zr Tryz.prog 22 [.slice none 0 0] := .mk' (by kernel_rfl)
instance : Sl Tryz.prog 22 108 5 88 := ⟨.of (by kernel_rfl) (by kernel_rfl)⟩
-- 23: []proof.Step
instance : Sz Tryz.prog 23 false 1 := .mk' (by kernel_rfl)
instance : Zr Tryz.prog 23 [.slice none 0 0] := .mk' (by kernel_rfl)
instance : Sl Tryz.prog 23 100 5 88 := ⟨.of (by kernel_rfl) (by kernel_rfl)⟩
-- 24: []int
instance : Sz Tryz.prog 24 false 1 := .mk' (by kernel_rfl)
instance : Zr Tryz.prog 24 [.slice none 0 0] := .mk' (by kernel_rfl)
instance : Sl Tryz.prog 24 3 1 8 := ⟨.of (by kernel_rfl) (by kernel_rfl)⟩
-- 25: api.Errno
instance : Sz Tryz.prog 25 false 1 := .mk' (by kernel_rfl)
instance : Zr Tryz.prog 25 [.int .i64 0] := .mk' (by kernel_rfl)
instance : It Tryz.prog 25 .i64 := ⟨by kernel_rfl⟩
-- 30: []attestref22.Step
instance : Sz Tryz.prog 30 false 1 := .mk' (by kernel_rfl)
instance : Zr Tryz.prog 30 [.slice none 0 0] := .mk' (by kernel_rfl)
instance : Sl Tryz.prog 30 45 5 88 := ⟨.of (by kernel_rfl) (by kernel_rfl)⟩
-- 43: []attestref05.Rat
instance : Sz Tryz.prog 43 false 1 := .mk' (by kernel_rfl)
instance : Zr Tryz.prog 43 [.slice none 0 0] := .mk' (by kernel_rfl)
instance : Sl Tryz.prog 43 74 3 56 := ⟨.of (by kernel_rfl) (by kernel_rfl)⟩
-- 44
instance : Sz Tryz.prog 44 true 5 := .mk' (by kernel_rfl)
instance : Zr Tryz.prog 44 [.int .i64 0, .slice none 0 0, .int .i64 0, .slice none 0 0, .slice none 0 0] := .mk' (by kernel_rfl)
instance : Fl Tryz.prog 44 0 0 := .mk' (n := 0) (by kernel_rfl)
instance : Fl Tryz.prog 44 1 1 := .mk' (n := 0) (by kernel_rfl)
instance : Fl Tryz.prog 44 2 2 := .mk' (n := 0) (by kernel_rfl)
instance : Fl Tryz.prog 44 3 3 := .mk' (n := 0) (by kernel_rfl)
instance : Fl Tryz.prog 44 4 4 := .mk' (n := 0) (by kernel_rfl)
instance : Stt Tryz.prog 44 [(0, 1), (1, 1), (2, 1), (3, 1), (4, 1)] := .mk' (by kernel_rfl)
-- 45: attestref22.Step
instance : Sz Tryz.prog 45 true 5 := .mk' (by kernel_rfl)
instance : Zr Tryz.prog 45 [.int .i64 0, .slice none 0 0, .int .i64 0, .slice none 0 0, .slice none 0 0] := .mk' (by kernel_rfl)
instance : Fl Tryz.prog 45 0 0 := .mk' (n := 0) (by kernel_rfl)
instance : Fl Tryz.prog 45 1 1 := .mk' (n := 0) (by kernel_rfl)
instance : Fl Tryz.prog 45 2 2 := .mk' (n := 0) (by kernel_rfl)
instance : Fl Tryz.prog 45 3 3 := .mk' (n := 0) (by kernel_rfl)
instance : Fl Tryz.prog 45 4 4 := .mk' (n := 0) (by kernel_rfl)
instance : Stt Tryz.prog 45 [(0, 1), (1, 1), (2, 1), (3, 1), (4, 1)] := .mk' (by kernel_rfl)
-- 47: []attestlaw08.T
instance : Sz Tryz.prog 47 false 1 := .mk' (by kernel_rfl)
instance : Zr Tryz.prog 47 [.slice none 0 0] := .mk' (by kernel_rfl)
instance : Sl Tryz.prog 47 135 4 64 := ⟨.of (by kernel_rfl) (by kernel_rfl)⟩
-- 48: []uint32
instance : Sz Tryz.prog 48 false 1 := .mk' (by kernel_rfl)
instance : Zr Tryz.prog 48 [.slice none 0 0] := .mk' (by kernel_rfl)
instance : Sl Tryz.prog 48 169 1 4 := ⟨.of (by kernel_rfl) (by kernel_rfl)⟩
-- 49: struct { Neg bool; Num []uint32; Den []uint32 }
instance : Sz Tryz.prog 49 true 3 := .mk' (by kernel_rfl)
instance : Zr Tryz.prog 49 [.bool false, .slice none 0 0, .slice none 0 0] := .mk' (by kernel_rfl)
instance : Fl Tryz.prog 49 0 0 := .mk' (n := 0) (by kernel_rfl)
instance : Fl Tryz.prog 49 1 1 := .mk' (n := 0) (by kernel_rfl)
instance : Fl Tryz.prog 49 2 2 := .mk' (n := 0) (by kernel_rfl)
instance : Stt Tryz.prog 49 [(0, 1), (1, 1), (2, 1)] := .mk' (by kernel_rfl)
-- 50: attestlaw05.N
instance : Sz Tryz.prog 50 true 3 := .mk' (by kernel_rfl)
instance : Zr Tryz.prog 50 [.bool false, .slice none 0 0, .slice none 0 0] := .mk' (by kernel_rfl)
instance : Fl Tryz.prog 50 0 0 := .mk' (n := 0) (by kernel_rfl)
instance : Fl Tryz.prog 50 1 1 := .mk' (n := 0) (by kernel_rfl)
instance : Fl Tryz.prog 50 2 2 := .mk' (n := 0) (by kernel_rfl)
instance : Stt Tryz.prog 50 [(0, 1), (1, 1), (2, 1)] := .mk' (by kernel_rfl)
-- 51: struct { Terms []attestlaw08.T; Const attestlaw05.N }
instance : Sz Tryz.prog 51 true 4 := .mk' (by kernel_rfl)
instance : Zr Tryz.prog 51 [.slice none 0 0, .bool false, .slice none 0 0, .slice none 0 0] := .mk' (by kernel_rfl)
instance : Fl Tryz.prog 51 0 0 := .mk' (n := 0) (by kernel_rfl)
instance : Fl Tryz.prog 51 1 1 := .mk' (n := 2) (by kernel_rfl)
instance : Stt Tryz.prog 51 [(0, 1), (1, 3)] := .mk' (by kernel_rfl)
-- 52: attestlaw08.E
instance : Sz Tryz.prog 52 true 4 := .mk' (by kernel_rfl)
instance : Zr Tryz.prog 52 [.slice none 0 0, .bool false, .slice none 0 0, .slice none 0 0] := .mk' (by kernel_rfl)
instance : Fl Tryz.prog 52 0 0 := .mk' (n := 0) (by kernel_rfl)
instance : Fl Tryz.prog 52 1 1 := .mk' (n := 2) (by kernel_rfl)
instance : Stt Tryz.prog 52 [(0, 1), (1, 3)] := .mk' (by kernel_rfl)
-- 53: struct { E attestlaw08.E; Op int }
instance : Sz Tryz.prog 53 true 5 := .mk' (by kernel_rfl)
instance : Zr Tryz.prog 53 [.slice none 0 0, .bool false, .slice none 0 0, .slice none 0 0, .int .i64 0] := .mk' (by kernel_rfl)
instance : Fl Tryz.prog 53 0 0 := .mk' (n := 3) (by kernel_rfl)
instance : Fl Tryz.prog 53 1 4 := .mk' (n := 0) (by kernel_rfl)
instance : Stt Tryz.prog 53 [(0, 4), (4, 1)] := .mk' (by kernel_rfl)
-- 54: attestlaw09.A
instance : Sz Tryz.prog 54 true 5 := .mk' (by kernel_rfl)
instance : Zr Tryz.prog 54 [.slice none 0 0, .bool false, .slice none 0 0, .slice none 0 0, .int .i64 0] := .mk' (by kernel_rfl)
instance : Fl Tryz.prog 54 0 0 := .mk' (n := 3) (by kernel_rfl)
instance : Fl Tryz.prog 54 1 4 := .mk' (n := 0) (by kernel_rfl)
instance : Stt Tryz.prog 54 [(0, 4), (4, 1)] := .mk' (by kernel_rfl)
-- 55: struct { Neg bool; Num string; Den string }
instance : Sz Tryz.prog 55 true 3 := .mk' (by kernel_rfl)
instance : Zr Tryz.prog 55 [.bool false, .string ⟨#[]⟩, .string ⟨#[]⟩] := .mk' (by kernel_rfl)
instance : Fl Tryz.prog 55 0 0 := .mk' (n := 0) (by kernel_rfl)
instance : Fl Tryz.prog 55 1 1 := .mk' (n := 0) (by kernel_rfl)
instance : Fl Tryz.prog 55 2 2 := .mk' (n := 0) (by kernel_rfl)
instance : Stt Tryz.prog 55 [(0, 1), (1, 1), (2, 1)] := .mk' (by kernel_rfl)
-- 56: rat.Key
instance : Sz Tryz.prog 56 true 3 := .mk' (by kernel_rfl)
instance : Zr Tryz.prog 56 [.bool false, .string ⟨#[]⟩, .string ⟨#[]⟩] := .mk' (by kernel_rfl)
instance : Fl Tryz.prog 56 0 0 := .mk' (n := 0) (by kernel_rfl)
instance : Fl Tryz.prog 56 1 1 := .mk' (n := 0) (by kernel_rfl)
instance : Fl Tryz.prog 56 2 2 := .mk' (n := 0) (by kernel_rfl)
instance : Stt Tryz.prog 56 [(0, 1), (1, 1), (2, 1)] := .mk' (by kernel_rfl)
-- 57: struct { Op int; Const rat.Key; Terms string }
instance : Sz Tryz.prog 57 true 5 := .mk' (by kernel_rfl)
instance : Zr Tryz.prog 57 [.int .i64 0, .bool false, .string ⟨#[]⟩, .string ⟨#[]⟩, .string ⟨#[]⟩] := .mk' (by kernel_rfl)
instance : Fl Tryz.prog 57 0 0 := .mk' (n := 0) (by kernel_rfl)
instance : Fl Tryz.prog 57 1 1 := .mk' (n := 2) (by kernel_rfl)
instance : Fl Tryz.prog 57 2 4 := .mk' (n := 0) (by kernel_rfl)
instance : Stt Tryz.prog 57 [(0, 1), (1, 3), (4, 1)] := .mk' (by kernel_rfl)
-- 58: atom.Key
instance : Sz Tryz.prog 58 true 5 := .mk' (by kernel_rfl)
instance : Zr Tryz.prog 58 [.int .i64 0, .bool false, .string ⟨#[]⟩, .string ⟨#[]⟩, .string ⟨#[]⟩] := .mk' (by kernel_rfl)
instance : Fl Tryz.prog 58 0 0 := .mk' (n := 0) (by kernel_rfl)
instance : Fl Tryz.prog 58 1 1 := .mk' (n := 2) (by kernel_rfl)
instance : Fl Tryz.prog 58 2 4 := .mk' (n := 0) (by kernel_rfl)
instance : Stt Tryz.prog 58 [(0, 1), (1, 3), (4, 1)] := .mk' (by kernel_rfl)
-- 61: []lin.Term
instance : Sz Tryz.prog 61 false 1 := .mk' (by kernel_rfl)
instance : Zr Tryz.prog 61 [.slice none 0 0] := .mk' (by kernel_rfl)
instance : Sl Tryz.prog 61 121 4 64 := ⟨.of (by kernel_rfl) (by kernel_rfl)⟩
-- 62: struct { neg bool; num []uint32; den []uint32 }
instance : Sz Tryz.prog 62 true 3 := .mk' (by kernel_rfl)
instance : Zr Tryz.prog 62 [.bool false, .slice none 0 0, .slice none 0 0] := .mk' (by kernel_rfl)
instance : Fl Tryz.prog 62 0 0 := .mk' (n := 0) (by kernel_rfl)
instance : Fl Tryz.prog 62 1 1 := .mk' (n := 0) (by kernel_rfl)
instance : Fl Tryz.prog 62 2 2 := .mk' (n := 0) (by kernel_rfl)
instance : Stt Tryz.prog 62 [(0, 1), (1, 1), (2, 1)] := .mk' (by kernel_rfl)
-- 63: rat.Rat
instance : Sz Tryz.prog 63 true 3 := .mk' (by kernel_rfl)
instance : Zr Tryz.prog 63 [.bool false, .slice none 0 0, .slice none 0 0] := .mk' (by kernel_rfl)
instance : Fl Tryz.prog 63 0 0 := .mk' (n := 0) (by kernel_rfl)
instance : Fl Tryz.prog 63 1 1 := .mk' (n := 0) (by kernel_rfl)
instance : Fl Tryz.prog 63 2 2 := .mk' (n := 0) (by kernel_rfl)
instance : Stt Tryz.prog 63 [(0, 1), (1, 1), (2, 1)] := .mk' (by kernel_rfl)
-- 64: struct { Terms []lin.Term; Const rat.Rat }
instance : Sz Tryz.prog 64 true 4 := .mk' (by kernel_rfl)
instance : Zr Tryz.prog 64 [.slice none 0 0, .bool false, .slice none 0 0, .slice none 0 0] := .mk' (by kernel_rfl)
instance : Fl Tryz.prog 64 0 0 := .mk' (n := 0) (by kernel_rfl)
instance : Fl Tryz.prog 64 1 1 := .mk' (n := 2) (by kernel_rfl)
instance : Stt Tryz.prog 64 [(0, 1), (1, 3)] := .mk' (by kernel_rfl)
-- 65: lin.Expr
instance : Sz Tryz.prog 65 true 4 := .mk' (by kernel_rfl)
instance : Zr Tryz.prog 65 [.slice none 0 0, .bool false, .slice none 0 0, .slice none 0 0] := .mk' (by kernel_rfl)
instance : Fl Tryz.prog 65 0 0 := .mk' (n := 0) (by kernel_rfl)
instance : Fl Tryz.prog 65 1 1 := .mk' (n := 2) (by kernel_rfl)
instance : Stt Tryz.prog 65 [(0, 1), (1, 3)] := .mk' (by kernel_rfl)
-- 66: struct { E lin.Expr; Op int }
instance : Sz Tryz.prog 66 true 5 := .mk' (by kernel_rfl)
instance : Zr Tryz.prog 66 [.slice none 0 0, .bool false, .slice none 0 0, .slice none 0 0, .int .i64 0] := .mk' (by kernel_rfl)
instance : Fl Tryz.prog 66 0 0 := .mk' (n := 3) (by kernel_rfl)
instance : Fl Tryz.prog 66 1 4 := .mk' (n := 0) (by kernel_rfl)
instance : Stt Tryz.prog 66 [(0, 4), (4, 1)] := .mk' (by kernel_rfl)
-- 67: atom.Atom
instance : Sz Tryz.prog 67 true 5 := .mk' (by kernel_rfl)
instance : Zr Tryz.prog 67 [.slice none 0 0, .bool false, .slice none 0 0, .slice none 0 0, .int .i64 0] := .mk' (by kernel_rfl)
instance : Fl Tryz.prog 67 0 0 := .mk' (n := 3) (by kernel_rfl)
instance : Fl Tryz.prog 67 1 4 := .mk' (n := 0) (by kernel_rfl)
instance : Stt Tryz.prog 67 [(0, 4), (4, 1)] := .mk' (by kernel_rfl)
-- 71: []attestref08.Term
instance : Sz Tryz.prog 71 false 1 := .mk' (by kernel_rfl)
instance : Zr Tryz.prog 71 [.slice none 0 0] := .mk' (by kernel_rfl)
instance : Sl Tryz.prog 71 133 4 64 := ⟨.of (by kernel_rfl) (by kernel_rfl)⟩
-- 72: []bool
instance : Sz Tryz.prog 72 false 1 := .mk' (by kernel_rfl)
instance : Zr Tryz.prog 72 [.slice none 0 0] := .mk' (by kernel_rfl)
instance : Sl Tryz.prog 72 4 1 1 := ⟨.of (by kernel_rfl) (by kernel_rfl)⟩
-- 73: struct { Neg bool; Num []bool; Den []bool }
instance : Sz Tryz.prog 73 true 3 := .mk' (by kernel_rfl)
instance : Zr Tryz.prog 73 [.bool false, .slice none 0 0, .slice none 0 0] := .mk' (by kernel_rfl)
instance : Fl Tryz.prog 73 0 0 := .mk' (n := 0) (by kernel_rfl)
instance : Fl Tryz.prog 73 1 1 := .mk' (n := 0) (by kernel_rfl)
instance : Fl Tryz.prog 73 2 2 := .mk' (n := 0) (by kernel_rfl)
instance : Stt Tryz.prog 73 [(0, 1), (1, 1), (2, 1)] := .mk' (by kernel_rfl)
-- 74: attestref05.Rat
instance : Sz Tryz.prog 74 true 3 := .mk' (by kernel_rfl)
instance : Zr Tryz.prog 74 [.bool false, .slice none 0 0, .slice none 0 0] := .mk' (by kernel_rfl)
instance : Fl Tryz.prog 74 0 0 := .mk' (n := 0) (by kernel_rfl)
instance : Fl Tryz.prog 74 1 1 := .mk' (n := 0) (by kernel_rfl)
instance : Fl Tryz.prog 74 2 2 := .mk' (n := 0) (by kernel_rfl)
instance : Stt Tryz.prog 74 [(0, 1), (1, 1), (2, 1)] := .mk' (by kernel_rfl)
-- 75: struct { Terms []attestref08.Term; Const attestref05.Rat }
instance : Sz Tryz.prog 75 true 4 := .mk' (by kernel_rfl)
instance : Zr Tryz.prog 75 [.slice none 0 0, .bool false, .slice none 0 0, .slice none 0 0] := .mk' (by kernel_rfl)
instance : Fl Tryz.prog 75 0 0 := .mk' (n := 0) (by kernel_rfl)
instance : Fl Tryz.prog 75 1 1 := .mk' (n := 2) (by kernel_rfl)
instance : Stt Tryz.prog 75 [(0, 1), (1, 3)] := .mk' (by kernel_rfl)
-- 76: attestref08.Expr
instance : Sz Tryz.prog 76 true 4 := .mk' (by kernel_rfl)
instance : Zr Tryz.prog 76 [.slice none 0 0, .bool false, .slice none 0 0, .slice none 0 0] := .mk' (by kernel_rfl)
instance : Fl Tryz.prog 76 0 0 := .mk' (n := 0) (by kernel_rfl)
instance : Fl Tryz.prog 76 1 1 := .mk' (n := 2) (by kernel_rfl)
instance : Stt Tryz.prog 76 [(0, 1), (1, 3)] := .mk' (by kernel_rfl)
-- 77: struct { E attestref08.Expr; Op int }
instance : Sz Tryz.prog 77 true 5 := .mk' (by kernel_rfl)
instance : Zr Tryz.prog 77 [.slice none 0 0, .bool false, .slice none 0 0, .slice none 0 0, .int .i64 0] := .mk' (by kernel_rfl)
instance : Fl Tryz.prog 77 0 0 := .mk' (n := 3) (by kernel_rfl)
instance : Fl Tryz.prog 77 1 4 := .mk' (n := 0) (by kernel_rfl)
instance : Stt Tryz.prog 77 [(0, 4), (4, 1)] := .mk' (by kernel_rfl)
-- 78: attestref09.Atom
instance : Sz Tryz.prog 78 true 5 := .mk' (by kernel_rfl)
instance : Zr Tryz.prog 78 [.slice none 0 0, .bool false, .slice none 0 0, .slice none 0 0, .int .i64 0] := .mk' (by kernel_rfl)
instance : Fl Tryz.prog 78 0 0 := .mk' (n := 3) (by kernel_rfl)
instance : Fl Tryz.prog 78 1 4 := .mk' (n := 0) (by kernel_rfl)
instance : Stt Tryz.prog 78 [(0, 4), (4, 1)] := .mk' (by kernel_rfl)
-- 85: []attestref08.Expr
instance : Sz Tryz.prog 85 false 1 := .mk' (by kernel_rfl)
instance : Zr Tryz.prog 85 [.slice none 0 0] := .mk' (by kernel_rfl)
instance : Sl Tryz.prog 85 76 4 80 := ⟨.of (by kernel_rfl) (by kernel_rfl)⟩
-- 93: []attestlaw09.A
instance : Sz Tryz.prog 93 false 1 := .mk' (by kernel_rfl)
instance : Zr Tryz.prog 93 [.slice none 0 0] := .mk' (by kernel_rfl)
instance : Sl Tryz.prog 93 54 5 88 := ⟨.of (by kernel_rfl) (by kernel_rfl)⟩
-- 94: []atom.Atom
instance : Sz Tryz.prog 94 false 1 := .mk' (by kernel_rfl)
instance : Zr Tryz.prog 94 [.slice none 0 0] := .mk' (by kernel_rfl)
instance : Sl Tryz.prog 94 67 5 88 := ⟨.of (by kernel_rfl) (by kernel_rfl)⟩
-- 97: map[compact.key]int
instance : Sz Tryz.prog 97 false 1 := .mk' (by kernel_rfl)
instance : Zr Tryz.prog 97 [.map none] := .mk' (by kernel_rfl)
-- 98: []rat.Rat
instance : Sz Tryz.prog 98 false 1 := .mk' (by kernel_rfl)
instance : Zr Tryz.prog 98 [.slice none 0 0] := .mk' (by kernel_rfl)
instance : Sl Tryz.prog 98 63 3 56 := ⟨.of (by kernel_rfl) (by kernel_rfl)⟩
-- 99
instance : Sz Tryz.prog 99 true 5 := .mk' (by kernel_rfl)
instance : Zr Tryz.prog 99 [.int .i64 0, .slice none 0 0, .int .i64 0, .slice none 0 0, .slice none 0 0] := .mk' (by kernel_rfl)
instance : Fl Tryz.prog 99 0 0 := .mk' (n := 0) (by kernel_rfl)
instance : Fl Tryz.prog 99 1 1 := .mk' (n := 0) (by kernel_rfl)
instance : Fl Tryz.prog 99 2 2 := .mk' (n := 0) (by kernel_rfl)
instance : Fl Tryz.prog 99 3 3 := .mk' (n := 0) (by kernel_rfl)
instance : Fl Tryz.prog 99 4 4 := .mk' (n := 0) (by kernel_rfl)
instance : Stt Tryz.prog 99 [(0, 1), (1, 1), (2, 1), (3, 1), (4, 1)] := .mk' (by kernel_rfl)
-- 100: proof.Step
instance : Sz Tryz.prog 100 true 5 := .mk' (by kernel_rfl)
instance : Zr Tryz.prog 100 [.int .i64 0, .slice none 0 0, .int .i64 0, .slice none 0 0, .slice none 0 0] := .mk' (by kernel_rfl)
instance : Fl Tryz.prog 100 0 0 := .mk' (n := 0) (by kernel_rfl)
instance : Fl Tryz.prog 100 1 1 := .mk' (n := 0) (by kernel_rfl)
instance : Fl Tryz.prog 100 2 2 := .mk' (n := 0) (by kernel_rfl)
instance : Fl Tryz.prog 100 3 3 := .mk' (n := 0) (by kernel_rfl)
instance : Fl Tryz.prog 100 4 4 := .mk' (n := 0) (by kernel_rfl)
instance : Stt Tryz.prog 100 [(0, 1), (1, 1), (2, 1), (3, 1), (4, 1)] := .mk' (by kernel_rfl)
-- 102
instance : Sz Tryz.prog 102 true 5 := .mk' (by kernel_rfl)
instance : Zr Tryz.prog 102 [.int .i64 0, .int .i64 0, .string ⟨#[]⟩, .string ⟨#[]⟩, .string ⟨#[]⟩] := .mk' (by kernel_rfl)
instance : Fl Tryz.prog 102 0 0 := .mk' (n := 0) (by kernel_rfl)
instance : Fl Tryz.prog 102 1 1 := .mk' (n := 0) (by kernel_rfl)
instance : Fl Tryz.prog 102 2 2 := .mk' (n := 0) (by kernel_rfl)
instance : Fl Tryz.prog 102 3 3 := .mk' (n := 0) (by kernel_rfl)
instance : Fl Tryz.prog 102 4 4 := .mk' (n := 0) (by kernel_rfl)
instance : Stt Tryz.prog 102 [(0, 1), (1, 1), (2, 1), (3, 1), (4, 1)] := .mk' (by kernel_rfl)
-- 103: compact.key
instance : Sz Tryz.prog 103 true 5 := .mk' (by kernel_rfl)
instance : Zr Tryz.prog 103 [.int .i64 0, .int .i64 0, .string ⟨#[]⟩, .string ⟨#[]⟩, .string ⟨#[]⟩] := .mk' (by kernel_rfl)
instance : Fl Tryz.prog 103 0 0 := .mk' (n := 0) (by kernel_rfl)
instance : Fl Tryz.prog 103 1 1 := .mk' (n := 0) (by kernel_rfl)
instance : Fl Tryz.prog 103 2 2 := .mk' (n := 0) (by kernel_rfl)
instance : Fl Tryz.prog 103 3 3 := .mk' (n := 0) (by kernel_rfl)
instance : Fl Tryz.prog 103 4 4 := .mk' (n := 0) (by kernel_rfl)
instance : Stt Tryz.prog 103 [(0, 1), (1, 1), (2, 1), (3, 1), (4, 1)] := .mk' (by kernel_rfl)
-- 106: []attestlaw05.N
instance : Sz Tryz.prog 106 false 1 := .mk' (by kernel_rfl)
instance : Zr Tryz.prog 106 [.slice none 0 0] := .mk' (by kernel_rfl)
instance : Sl Tryz.prog 106 50 3 56 := ⟨.of (by kernel_rfl) (by kernel_rfl)⟩
-- 107
instance : Sz Tryz.prog 107 true 5 := .mk' (by kernel_rfl)
instance : Zr Tryz.prog 107 [.int .i64 0, .slice none 0 0, .int .i64 0, .slice none 0 0, .slice none 0 0] := .mk' (by kernel_rfl)
instance : Fl Tryz.prog 107 0 0 := .mk' (n := 0) (by kernel_rfl)
instance : Fl Tryz.prog 107 1 1 := .mk' (n := 0) (by kernel_rfl)
instance : Fl Tryz.prog 107 2 2 := .mk' (n := 0) (by kernel_rfl)
instance : Fl Tryz.prog 107 3 3 := .mk' (n := 0) (by kernel_rfl)
instance : Fl Tryz.prog 107 4 4 := .mk' (n := 0) (by kernel_rfl)
instance : Stt Tryz.prog 107 [(0, 1), (1, 1), (2, 1), (3, 1), (4, 1)] := .mk' (by kernel_rfl)
-- 108: attestlaw22.S
instance : Sz Tryz.prog 108 true 5 := .mk' (by kernel_rfl)
instance : Zr Tryz.prog 108 [.int .i64 0, .slice none 0 0, .int .i64 0, .slice none 0 0, .slice none 0 0] := .mk' (by kernel_rfl)
instance : Fl Tryz.prog 108 0 0 := .mk' (n := 0) (by kernel_rfl)
instance : Fl Tryz.prog 108 1 1 := .mk' (n := 0) (by kernel_rfl)
instance : Fl Tryz.prog 108 2 2 := .mk' (n := 0) (by kernel_rfl)
instance : Fl Tryz.prog 108 3 3 := .mk' (n := 0) (by kernel_rfl)
instance : Fl Tryz.prog 108 4 4 := .mk' (n := 0) (by kernel_rfl)
instance : Stt Tryz.prog 108 [(0, 1), (1, 1), (2, 1), (3, 1), (4, 1)] := .mk' (by kernel_rfl)
-- 120: struct { Var int; Coef rat.Rat }
instance : Sz Tryz.prog 120 true 4 := .mk' (by kernel_rfl)
instance : Zr Tryz.prog 120 [.int .i64 0, .bool false, .slice none 0 0, .slice none 0 0] := .mk' (by kernel_rfl)
instance : Fl Tryz.prog 120 0 0 := .mk' (n := 0) (by kernel_rfl)
instance : Fl Tryz.prog 120 1 1 := .mk' (n := 2) (by kernel_rfl)
instance : Stt Tryz.prog 120 [(0, 1), (1, 3)] := .mk' (by kernel_rfl)
-- 121: lin.Term
instance : Sz Tryz.prog 121 true 4 := .mk' (by kernel_rfl)
instance : Zr Tryz.prog 121 [.int .i64 0, .bool false, .slice none 0 0, .slice none 0 0] := .mk' (by kernel_rfl)
instance : Fl Tryz.prog 121 0 0 := .mk' (n := 0) (by kernel_rfl)
instance : Fl Tryz.prog 121 1 1 := .mk' (n := 2) (by kernel_rfl)
instance : Stt Tryz.prog 121 [(0, 1), (1, 3)] := .mk' (by kernel_rfl)
-- 132: struct { Var int; Coef attestref05.Rat }
instance : Sz Tryz.prog 132 true 4 := .mk' (by kernel_rfl)
instance : Zr Tryz.prog 132 [.int .i64 0, .bool false, .slice none 0 0, .slice none 0 0] := .mk' (by kernel_rfl)
instance : Fl Tryz.prog 132 0 0 := .mk' (n := 0) (by kernel_rfl)
instance : Fl Tryz.prog 132 1 1 := .mk' (n := 2) (by kernel_rfl)
instance : Stt Tryz.prog 132 [(0, 1), (1, 3)] := .mk' (by kernel_rfl)
-- 133: attestref08.Term
instance : Sz Tryz.prog 133 true 4 := .mk' (by kernel_rfl)
instance : Zr Tryz.prog 133 [.int .i64 0, .bool false, .slice none 0 0, .slice none 0 0] := .mk' (by kernel_rfl)
instance : Fl Tryz.prog 133 0 0 := .mk' (n := 0) (by kernel_rfl)
instance : Fl Tryz.prog 133 1 1 := .mk' (n := 2) (by kernel_rfl)
instance : Stt Tryz.prog 133 [(0, 1), (1, 3)] := .mk' (by kernel_rfl)
-- 134: struct { Var int; Coef attestlaw05.N }
instance : Sz Tryz.prog 134 true 4 := .mk' (by kernel_rfl)
instance : Zr Tryz.prog 134 [.int .i64 0, .bool false, .slice none 0 0, .slice none 0 0] := .mk' (by kernel_rfl)
instance : Fl Tryz.prog 134 0 0 := .mk' (n := 0) (by kernel_rfl)
instance : Fl Tryz.prog 134 1 1 := .mk' (n := 2) (by kernel_rfl)
instance : Stt Tryz.prog 134 [(0, 1), (1, 3)] := .mk' (by kernel_rfl)
-- 135: attestlaw08.T
instance : Sz Tryz.prog 135 true 4 := .mk' (by kernel_rfl)
instance : Zr Tryz.prog 135 [.int .i64 0, .bool false, .slice none 0 0, .slice none 0 0] := .mk' (by kernel_rfl)
instance : Fl Tryz.prog 135 0 0 := .mk' (n := 0) (by kernel_rfl)
instance : Fl Tryz.prog 135 1 1 := .mk' (n := 2) (by kernel_rfl)
instance : Stt Tryz.prog 135 [(0, 1), (1, 3)] := .mk' (by kernel_rfl)
-- 142: map[atom.Key]int
instance : Sz Tryz.prog 142 false 1 := .mk' (by kernel_rfl)
instance : Zr Tryz.prog 142 [.map none] := .mk' (by kernel_rfl)
-- 144: []string
instance : Sz Tryz.prog 144 false 1 := .mk' (by kernel_rfl)
instance : Zr Tryz.prog 144 [.slice none 0 0] := .mk' (by kernel_rfl)
instance : Sl Tryz.prog 144 9 1 16 := ⟨.of (by kernel_rfl) (by kernel_rfl)⟩
-- 159: []uint8
instance : Sz Tryz.prog 159 false 1 := .mk' (by kernel_rfl)
instance : Zr Tryz.prog 159 [.slice none 0 0] := .mk' (by kernel_rfl)
instance : Sl Tryz.prog 159 5 1 1 := ⟨.of (by kernel_rfl) (by kernel_rfl)⟩
-- 162: uint64
instance : Sz Tryz.prog 162 false 1 := .mk' (by kernel_rfl)
instance : Zr Tryz.prog 162 [.int .u64 0] := .mk' (by kernel_rfl)
instance : It Tryz.prog 162 .u64 := ⟨by kernel_rfl⟩
-- 169: uint32
instance : Sz Tryz.prog 169 false 1 := .mk' (by kernel_rfl)
instance : Zr Tryz.prog 169 [.int .u32 0] := .mk' (by kernel_rfl)
instance : It Tryz.prog 169 .u32 := ⟨by kernel_rfl⟩
-- 178: []uint64
instance : Sz Tryz.prog 178 false 1 := .mk' (by kernel_rfl)
instance : Zr Tryz.prog 178 [.slice none 0 0] := .mk' (by kernel_rfl)
instance : Sl Tryz.prog 178 162 1 8 := ⟨.of (by kernel_rfl) (by kernel_rfl)⟩
-- 181: *strings.Builder
instance : Sz Tryz.prog 181 false 1 := .mk' (by kernel_rfl)
instance : Zr Tryz.prog 181 [.pointer none] := .mk' (by kernel_rfl)
-- 182: struct { addr *strings.Builder; buf []uint8 }
instance : Sz Tryz.prog 182 true 2 := .mk' (by kernel_rfl)
instance : Zr Tryz.prog 182 [.pointer none, .slice none 0 0] := .mk' (by kernel_rfl)
instance : Fl Tryz.prog 182 0 0 := .mk' (n := 0) (by kernel_rfl)
instance : Fl Tryz.prog 182 1 1 := .mk' (n := 0) (by kernel_rfl)
instance : Stt Tryz.prog 182 [(0, 1), (1, 1)] := .mk' (by kernel_rfl)
-- 198: uint
instance : Sz Tryz.prog 198 false 1 := .mk' (by kernel_rfl)
instance : Zr Tryz.prog 198 [.int .u64 0] := .mk' (by kernel_rfl)
instance : It Tryz.prog 198 .u64 := ⟨by kernel_rfl⟩
-- 207: *uint8
instance : Sz Tryz.prog 207 false 1 := .mk' (by kernel_rfl)
instance : Zr Tryz.prog 207 [.pointer none] := .mk' (by kernel_rfl)
-- 238: *strings.asciiSet
instance : Sz Tryz.prog 238 false 1 := .mk' (by kernel_rfl)
instance : Zr Tryz.prog 238 [.pointer none] := .mk' (by kernel_rfl)
-- 250: struct { lo uint8; hi uint8 }
instance : Sz Tryz.prog 250 true 2 := .mk' (by kernel_rfl)
instance : Zr Tryz.prog 250 [.int .u8 0, .int .u8 0] := .mk' (by kernel_rfl)
instance : Fl Tryz.prog 250 0 0 := .mk' (n := 0) (by kernel_rfl)
instance : Fl Tryz.prog 250 1 1 := .mk' (n := 0) (by kernel_rfl)
instance : Stt Tryz.prog 250 [(0, 1), (1, 1)] := .mk' (by kernel_rfl)
-- 256
instance : Sz Tryz.prog 256 true 4 := .mk' (by kernel_rfl)
instance : Zr Tryz.prog 256 [.pointer none, .pointer none, .pointer none, .string ⟨#[]⟩] := .mk' (by kernel_rfl)
instance : Fl Tryz.prog 256 0 0 := .mk' (n := 0) (by kernel_rfl)
instance : Fl Tryz.prog 256 1 1 := .mk' (n := 0) (by kernel_rfl)
instance : Fl Tryz.prog 256 2 2 := .mk' (n := 0) (by kernel_rfl)
instance : Fl Tryz.prog 256 3 3 := .mk' (n := 0) (by kernel_rfl)
instance : Stt Tryz.prog 256 [(0, 1), (1, 1), (2, 1), (3, 1)] := .mk' (by kernel_rfl)
-- 259: struct { _ [0]*runtime.PanicNilError }
instance : Sz Tryz.prog 259 true 0 := .mk' (by kernel_rfl)
instance : Zr Tryz.prog 259 [] := .mk' (by kernel_rfl)
instance : Stt Tryz.prog 259 [(0, 0)] := .mk' (by kernel_rfl)
-- 267
instance : Sz Tryz.prog 267 true 11 := .mk' (by kernel_rfl)
instance : Zr Tryz.prog 267 [.int .u64 0, .int .u64 0, .int .u32 0, .int .u8 0, .int .u8 0, .int .u8 0, .int .u8 0, .nilFunc, .pointer none, .int .i32 0, .int .i32 0] := .mk' (by kernel_rfl)
instance : Fl Tryz.prog 267 0 0 := .mk' (n := 0) (by kernel_rfl)
instance : Fl Tryz.prog 267 1 1 := .mk' (n := 0) (by kernel_rfl)
instance : Fl Tryz.prog 267 2 2 := .mk' (n := 0) (by kernel_rfl)
instance : Fl Tryz.prog 267 3 3 := .mk' (n := 0) (by kernel_rfl)
instance : Fl Tryz.prog 267 4 4 := .mk' (n := 0) (by kernel_rfl)
instance : Fl Tryz.prog 267 5 5 := .mk' (n := 0) (by kernel_rfl)
instance : Fl Tryz.prog 267 6 6 := .mk' (n := 0) (by kernel_rfl)
instance : Fl Tryz.prog 267 8 8 := .mk' (n := 0) (by kernel_rfl)
instance : Fl Tryz.prog 267 9 9 := .mk' (n := 0) (by kernel_rfl)
instance : Fl Tryz.prog 267 10 10 := .mk' (n := 0) (by kernel_rfl)
end Go.Proofs.YtfijmpmojhlnmaaGreatDoor
