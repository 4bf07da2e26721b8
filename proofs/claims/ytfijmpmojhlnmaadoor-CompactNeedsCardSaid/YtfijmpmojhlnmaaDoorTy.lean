/-
  Facts of the types: their cells, their fields, their elements, their zero values. Printed by a program off the translation's own table.
-/
import Derived.Test.YtfijmpmojhlnmaaDoorFn
import Derived.Test.YtfijmpmojhlnmaaDoorRows
namespace Go.Proofs.YtfijmpmojhlnmaaDoor
open Go.RowKit
-- 2: int64
instance : Sz Tryd.prog 2 false 1 := .mk' (by kernel_rfl)
instance : Zr Tryd.prog 2 [.int .i64 0] := .mk' (by kernel_rfl)
instance : It Tryd.prog 2 .i64 := ⟨by kernel_rfl⟩
-- 3: int
instance : Sz Tryd.prog 3 false 1 := .mk' (by kernel_rfl)
instance : Zr Tryd.prog 3 [.int .i64 0] := .mk' (by kernel_rfl)
instance : It Tryd.prog 3 .i64 := ⟨by kernel_rfl⟩
-- 4: bool
instance : Sz Tryd.prog 4 false 1 := .mk' (by kernel_rfl)
instance : Zr Tryd.prog 4 [.bool false] := .mk' (by kernel_rfl)
-- 5: uint8
instance : Sz Tryd.prog 5 false 1 := .mk' (by kernel_rfl)
instance : Zr Tryd.prog 5 [.int .u8 0] := .mk' (by kernel_rfl)
instance : It Tryd.prog 5 .u8 := ⟨by kernel_rfl⟩
-- 7
instance : Sz Tryd.prog 7 true 4 := .mk' (by kernel_rfl)
instance : Zr Tryd.prog 7 [.int .i64 0, .int .i64 0, .bool false, .int .u8 0] := .mk' (by kernel_rfl)
instance : Fl Tryd.prog 7 0 0 := .mk' (n := 0) (by kernel_rfl)
instance : Fl Tryd.prog 7 1 1 := .mk' (n := 0) (by kernel_rfl)
instance : Fl Tryd.prog 7 2 2 := .mk' (n := 0) (by kernel_rfl)
instance : Fl Tryd.prog 7 3 3 := .mk' (n := 0) (by kernel_rfl)
instance : Stt Tryd.prog 7 [(0, 1), (1, 1), (2, 1), (3, 1)] := .mk' (by kernel_rfl)
-- 9: string
instance : Sz Tryd.prog 9 false 1 := .mk' (by kernel_rfl)
instance : Zr Tryd.prog 9 [.string ⟨#[]⟩] := .mk' (by kernel_rfl)
-- 12: uintptr
instance : Sz Tryd.prog 12 false 1 := .mk' (by kernel_rfl)
instance : Zr Tryd.prog 12 [.int .u64 0] := .mk' (by kernel_rfl)
instance : It Tryd.prog 12 .u64 := ⟨by kernel_rfl⟩
-- 13: struct { msg string; addr uintptr }
instance : Sz Tryd.prog 13 true 2 := .mk' (by kernel_rfl)
instance : Zr Tryd.prog 13 [.string ⟨#[]⟩, .int .u64 0] := .mk' (by kernel_rfl)
instance : Fl Tryd.prog 13 0 0 := .mk' (n := 0) (by kernel_rfl)
instance : Fl Tryd.prog 13 1 1 := .mk' (n := 0) (by kernel_rfl)
instance : Stt Tryd.prog 13 [(0, 1), (1, 1)] := .mk' (by kernel_rfl)
-- 15: *runtime.TypeAssertionError
instance : Sz Tryd.prog 15 false 1 := .mk' (by kernel_rfl)
instance : Zr Tryd.prog 15 [.pointer none] := .mk' (by kernel_rfl)
-- 16: *runtime.PanicNilError
instance : Sz Tryd.prog 16 false 1 := .mk' (by kernel_rfl)
instance : Zr Tryd.prog 16 [.pointer none] := .mk' (by kernel_rfl)
-- 17: *abi.Type
instance : Sz Tryd.prog 17 false 1 := .mk' (by kernel_rfl)
instance : Zr Tryd.prog 17 [.pointer none] := .mk' (by kernel_rfl)
-- 18: struct { typ *abi.Type }
instance : Sz Tryd.prog 18 true 1 := .mk' (by kernel_rfl)
instance : Zr Tryd.prog 18 [.pointer none] := .mk' (by kernel_rfl)
instance : Fl Tryd.prog 18 0 0 := .mk' (n := 0) (by kernel_rfl)
instance : Stt Tryd.prog 18 [(0, 1)] := .mk' (by kernel_rfl)
-- 21: int32
instance : Sz Tryd.prog 21 false 1 := .mk' (by kernel_rfl)
instance : Zr Tryd.prog 21 [.int .i32 0] := .mk' (by kernel_rfl)
instance : It Tryd.prog 21 .i32 := ⟨by kernel_rfl⟩
-- 22: []attestlaw22.S
instance : Sz Tryd.prog 22 false 1 := .mk' (by kernel_rfl)
instance : Zr Tryd.prog 22 [.slice none 0 0] := .mk' (by kernel_rfl)
instance : Sl Tryd.prog 22 50 5 88 := ⟨.of (by kernel_rfl) (by kernel_rfl)⟩
-- 23: []int
instance : Sz Tryd.prog 23 false 1 := .mk' (by kernel_rfl)
instance : Zr Tryd.prog 23 [.slice none 0 0] := .mk' (by kernel_rfl)
instance : Sl Tryd.prog 23 3 1 8 := ⟨.of (by kernel_rfl) (by kernel_rfl)⟩
-- 24: api.Errno
instance : Sz Tryd.prog 24 false 1 := .mk' (by kernel_rfl)
instance : Zr Tryd.prog 24 [.int .i64 0] := .mk' (by kernel_rfl)
instance : It Tryd.prog 24 .i64 := ⟨by kernel_rfl⟩
-- 27: []proof.Step
instance : Sz Tryd.prog 27 false 1 := .mk' (by kernel_rfl)
instance : Zr Tryd.prog 27 [.slice none 0 0] := .mk' (by kernel_rfl)
instance : Sl Tryd.prog 27 43 5 88 := ⟨.of (by kernel_rfl) (by kernel_rfl)⟩
-- 30: []attestref22.Step
instance : Sz Tryd.prog 30 false 1 := .mk' (by kernel_rfl)
instance : Zr Tryd.prog 30 [.slice none 0 0] := .mk' (by kernel_rfl)
instance : Sl Tryd.prog 30 60 5 88 := ⟨.of (by kernel_rfl) (by kernel_rfl)⟩
-- 40: [][]proof.Step
instance : Sz Tryd.prog 40 false 1 := .mk' (by kernel_rfl)
instance : Zr Tryd.prog 40 [.slice none 0 0] := .mk' (by kernel_rfl)
instance : Sl Tryd.prog 40 27 1 24 := ⟨.of (by kernel_rfl) (by kernel_rfl)⟩
-- 41: []rat.Rat
instance : Sz Tryd.prog 41 false 1 := .mk' (by kernel_rfl)
instance : Zr Tryd.prog 41 [.slice none 0 0] := .mk' (by kernel_rfl)
instance : Sl Tryd.prog 41 54 3 56 := ⟨.of (by kernel_rfl) (by kernel_rfl)⟩
-- 42
instance : Sz Tryd.prog 42 true 5 := .mk' (by kernel_rfl)
instance : Zr Tryd.prog 42 [.int .i64 0, .slice none 0 0, .int .i64 0, .slice none 0 0, .slice none 0 0] := .mk' (by kernel_rfl)
instance : Fl Tryd.prog 42 0 0 := .mk' (n := 0) (by kernel_rfl)
instance : Fl Tryd.prog 42 1 1 := .mk' (n := 0) (by kernel_rfl)
instance : Fl Tryd.prog 42 2 2 := .mk' (n := 0) (by kernel_rfl)
instance : Fl Tryd.prog 42 3 3 := .mk' (n := 0) (by kernel_rfl)
instance : Fl Tryd.prog 42 4 4 := .mk' (n := 0) (by kernel_rfl)
instance : Stt Tryd.prog 42 [(0, 1), (1, 1), (2, 1), (3, 1), (4, 1)] := .mk' (by kernel_rfl)
-- 43: proof.Step
instance : Sz Tryd.prog 43 true 5 := .mk' (by kernel_rfl)
instance : Zr Tryd.prog 43 [.int .i64 0, .slice none 0 0, .int .i64 0, .slice none 0 0, .slice none 0 0] := .mk' (by kernel_rfl)
instance : Fl Tryd.prog 43 0 0 := .mk' (n := 0) (by kernel_rfl)
instance : Fl Tryd.prog 43 1 1 := .mk' (n := 0) (by kernel_rfl)
instance : Fl Tryd.prog 43 2 2 := .mk' (n := 0) (by kernel_rfl)
instance : Fl Tryd.prog 43 3 3 := .mk' (n := 0) (by kernel_rfl)
instance : Fl Tryd.prog 43 4 4 := .mk' (n := 0) (by kernel_rfl)
instance : Stt Tryd.prog 43 [(0, 1), (1, 1), (2, 1), (3, 1), (4, 1)] := .mk' (by kernel_rfl)
-- 47: []bool
instance : Sz Tryd.prog 47 false 1 := .mk' (by kernel_rfl)
instance : Zr Tryd.prog 47 [.slice none 0 0] := .mk' (by kernel_rfl)
instance : Sl Tryd.prog 47 4 1 1 := ⟨.of (by kernel_rfl) (by kernel_rfl)⟩
-- 48: []attestlaw05.N
instance : Sz Tryd.prog 48 false 1 := .mk' (by kernel_rfl)
instance : Zr Tryd.prog 48 [.slice none 0 0] := .mk' (by kernel_rfl)
instance : Sl Tryd.prog 48 57 3 56 := ⟨.of (by kernel_rfl) (by kernel_rfl)⟩
-- 49
instance : Sz Tryd.prog 49 true 5 := .mk' (by kernel_rfl)
instance : Zr Tryd.prog 49 [.int .i64 0, .slice none 0 0, .int .i64 0, .slice none 0 0, .slice none 0 0] := .mk' (by kernel_rfl)
instance : Fl Tryd.prog 49 0 0 := .mk' (n := 0) (by kernel_rfl)
instance : Fl Tryd.prog 49 1 1 := .mk' (n := 0) (by kernel_rfl)
instance : Fl Tryd.prog 49 2 2 := .mk' (n := 0) (by kernel_rfl)
instance : Fl Tryd.prog 49 3 3 := .mk' (n := 0) (by kernel_rfl)
instance : Fl Tryd.prog 49 4 4 := .mk' (n := 0) (by kernel_rfl)
instance : Stt Tryd.prog 49 [(0, 1), (1, 1), (2, 1), (3, 1), (4, 1)] := .mk' (by kernel_rfl)
-- 50: attestlaw22.S
instance : Sz Tryd.prog 50 true 5 := .mk' (by kernel_rfl)
instance : Zr Tryd.prog 50 [.int .i64 0, .slice none 0 0, .int .i64 0, .slice none 0 0, .slice none 0 0] := .mk' (by kernel_rfl)
instance : Fl Tryd.prog 50 0 0 := .mk' (n := 0) (by kernel_rfl)
instance : Fl Tryd.prog 50 1 1 := .mk' (n := 0) (by kernel_rfl)
instance : Fl Tryd.prog 50 2 2 := .mk' (n := 0) (by kernel_rfl)
instance : Fl Tryd.prog 50 3 3 := .mk' (n := 0) (by kernel_rfl)
instance : Fl Tryd.prog 50 4 4 := .mk' (n := 0) (by kernel_rfl)
instance : Stt Tryd.prog 50 [(0, 1), (1, 1), (2, 1), (3, 1), (4, 1)] := .mk' (by kernel_rfl)
-- 52: []uint32
instance : Sz Tryd.prog 52 false 1 := .mk' (by kernel_rfl)
instance : Zr Tryd.prog 52 [.slice none 0 0] := .mk' (by kernel_rfl)
instance : Sl Tryd.prog 52 85 1 4 := ⟨.of (by kernel_rfl) (by kernel_rfl)⟩
-- 53: struct { neg bool; num []uint32; den []uint32 }
instance : Sz Tryd.prog 53 true 3 := .mk' (by kernel_rfl)
instance : Zr Tryd.prog 53 [.bool false, .slice none 0 0, .slice none 0 0] := .mk' (by kernel_rfl)
instance : Fl Tryd.prog 53 0 0 := .mk' (n := 0) (by kernel_rfl)
instance : Fl Tryd.prog 53 1 1 := .mk' (n := 0) (by kernel_rfl)
instance : Fl Tryd.prog 53 2 2 := .mk' (n := 0) (by kernel_rfl)
instance : Stt Tryd.prog 53 [(0, 1), (1, 1), (2, 1)] := .mk' (by kernel_rfl)
-- 54: rat.Rat
instance : Sz Tryd.prog 54 true 3 := .mk' (by kernel_rfl)
instance : Zr Tryd.prog 54 [.bool false, .slice none 0 0, .slice none 0 0] := .mk' (by kernel_rfl)
instance : Fl Tryd.prog 54 0 0 := .mk' (n := 0) (by kernel_rfl)
instance : Fl Tryd.prog 54 1 1 := .mk' (n := 0) (by kernel_rfl)
instance : Fl Tryd.prog 54 2 2 := .mk' (n := 0) (by kernel_rfl)
instance : Stt Tryd.prog 54 [(0, 1), (1, 1), (2, 1)] := .mk' (by kernel_rfl)
-- 56: struct { Neg bool; Num []uint32; Den []uint32 }
instance : Sz Tryd.prog 56 true 3 := .mk' (by kernel_rfl)
instance : Zr Tryd.prog 56 [.bool false, .slice none 0 0, .slice none 0 0] := .mk' (by kernel_rfl)
instance : Fl Tryd.prog 56 0 0 := .mk' (n := 0) (by kernel_rfl)
instance : Fl Tryd.prog 56 1 1 := .mk' (n := 0) (by kernel_rfl)
instance : Fl Tryd.prog 56 2 2 := .mk' (n := 0) (by kernel_rfl)
instance : Stt Tryd.prog 56 [(0, 1), (1, 1), (2, 1)] := .mk' (by kernel_rfl)
-- 57: attestlaw05.N
instance : Sz Tryd.prog 57 true 3 := .mk' (by kernel_rfl)
instance : Zr Tryd.prog 57 [.bool false, .slice none 0 0, .slice none 0 0] := .mk' (by kernel_rfl)
instance : Fl Tryd.prog 57 0 0 := .mk' (n := 0) (by kernel_rfl)
instance : Fl Tryd.prog 57 1 1 := .mk' (n := 0) (by kernel_rfl)
instance : Fl Tryd.prog 57 2 2 := .mk' (n := 0) (by kernel_rfl)
instance : Stt Tryd.prog 57 [(0, 1), (1, 1), (2, 1)] := .mk' (by kernel_rfl)
-- 58: []attestref05.Rat
instance : Sz Tryd.prog 58 false 1 := .mk' (by kernel_rfl)
instance : Zr Tryd.prog 58 [.slice none 0 0] := .mk' (by kernel_rfl)
instance : Sl Tryd.prog 58 72 3 56 := ⟨.of (by kernel_rfl) (by kernel_rfl)⟩
-- 59
instance : Sz Tryd.prog 59 true 5 := .mk' (by kernel_rfl)
instance : Zr Tryd.prog 59 [.int .i64 0, .slice none 0 0, .int .i64 0, .slice none 0 0, .slice none 0 0] := .mk' (by kernel_rfl)
instance : Fl Tryd.prog 59 0 0 := .mk' (n := 0) (by kernel_rfl)
instance : Fl Tryd.prog 59 1 1 := .mk' (n := 0) (by kernel_rfl)
instance : Fl Tryd.prog 59 2 2 := .mk' (n := 0) (by kernel_rfl)
instance : Fl Tryd.prog 59 3 3 := .mk' (n := 0) (by kernel_rfl)
instance : Fl Tryd.prog 59 4 4 := .mk' (n := 0) (by kernel_rfl)
instance : Stt Tryd.prog 59 [(0, 1), (1, 1), (2, 1), (3, 1), (4, 1)] := .mk' (by kernel_rfl)
-- 60: attestref22.Step
instance : Sz Tryd.prog 60 true 5 := .mk' (by kernel_rfl)
instance : Zr Tryd.prog 60 [.int .i64 0, .slice none 0 0, .int .i64 0, .slice none 0 0, .slice none 0 0] := .mk' (by kernel_rfl)
instance : Fl Tryd.prog 60 0 0 := .mk' (n := 0) (by kernel_rfl)
instance : Fl Tryd.prog 60 1 1 := .mk' (n := 0) (by kernel_rfl)
instance : Fl Tryd.prog 60 2 2 := .mk' (n := 0) (by kernel_rfl)
instance : Fl Tryd.prog 60 3 3 := .mk' (n := 0) (by kernel_rfl)
instance : Fl Tryd.prog 60 4 4 := .mk' (n := 0) (by kernel_rfl)
instance : Stt Tryd.prog 60 [(0, 1), (1, 1), (2, 1), (3, 1), (4, 1)] := .mk' (by kernel_rfl)
-- 63: map[compact.key]int
instance : Sz Tryd.prog 63 false 1 := .mk' (by kernel_rfl)
instance : Zr Tryd.prog 63 [.map none] := .mk' (by kernel_rfl)
-- 64
instance : Sz Tryd.prog 64 true 5 := .mk' (by kernel_rfl)
instance : Zr Tryd.prog 64 [.int .i64 0, .int .i64 0, .string ⟨#[]⟩, .string ⟨#[]⟩, .string ⟨#[]⟩] := .mk' (by kernel_rfl)
instance : Fl Tryd.prog 64 0 0 := .mk' (n := 0) (by kernel_rfl)
instance : Fl Tryd.prog 64 1 1 := .mk' (n := 0) (by kernel_rfl)
instance : Fl Tryd.prog 64 2 2 := .mk' (n := 0) (by kernel_rfl)
instance : Fl Tryd.prog 64 3 3 := .mk' (n := 0) (by kernel_rfl)
instance : Fl Tryd.prog 64 4 4 := .mk' (n := 0) (by kernel_rfl)
instance : Stt Tryd.prog 64 [(0, 1), (1, 1), (2, 1), (3, 1), (4, 1)] := .mk' (by kernel_rfl)
-- 65: compact.key
instance : Sz Tryd.prog 65 true 5 := .mk' (by kernel_rfl)
instance : Zr Tryd.prog 65 [.int .i64 0, .int .i64 0, .string ⟨#[]⟩, .string ⟨#[]⟩, .string ⟨#[]⟩] := .mk' (by kernel_rfl)
instance : Fl Tryd.prog 65 0 0 := .mk' (n := 0) (by kernel_rfl)
instance : Fl Tryd.prog 65 1 1 := .mk' (n := 0) (by kernel_rfl)
instance : Fl Tryd.prog 65 2 2 := .mk' (n := 0) (by kernel_rfl)
instance : Fl Tryd.prog 65 3 3 := .mk' (n := 0) (by kernel_rfl)
instance : Fl Tryd.prog 65 4 4 := .mk' (n := 0) (by kernel_rfl)
instance : Stt Tryd.prog 65 [(0, 1), (1, 1), (2, 1), (3, 1), (4, 1)] := .mk' (by kernel_rfl)
-- 71: struct { Neg bool; Num []bool; Den []bool }
instance : Sz Tryd.prog 71 true 3 := .mk' (by kernel_rfl)
instance : Zr Tryd.prog 71 [.bool false, .slice none 0 0, .slice none 0 0] := .mk' (by kernel_rfl)
instance : Fl Tryd.prog 71 0 0 := .mk' (n := 0) (by kernel_rfl)
instance : Fl Tryd.prog 71 1 1 := .mk' (n := 0) (by kernel_rfl)
instance : Fl Tryd.prog 71 2 2 := .mk' (n := 0) (by kernel_rfl)
instance : Stt Tryd.prog 71 [(0, 1), (1, 1), (2, 1)] := .mk' (by kernel_rfl)
-- 72: attestref05.Rat
instance : Sz Tryd.prog 72 true 3 := .mk' (by kernel_rfl)
instance : Zr Tryd.prog 72 [.bool false, .slice none 0 0, .slice none 0 0] := .mk' (by kernel_rfl)
instance : Fl Tryd.prog 72 0 0 := .mk' (n := 0) (by kernel_rfl)
instance : Fl Tryd.prog 72 1 1 := .mk' (n := 0) (by kernel_rfl)
instance : Fl Tryd.prog 72 2 2 := .mk' (n := 0) (by kernel_rfl)
instance : Stt Tryd.prog 72 [(0, 1), (1, 1), (2, 1)] := .mk' (by kernel_rfl)
-- 77: []string
instance : Sz Tryd.prog 77 false 1 := .mk' (by kernel_rfl)
instance : Zr Tryd.prog 77 [.slice none 0 0] := .mk' (by kernel_rfl)
instance : Sl Tryd.prog 77 9 1 16 := ⟨.of (by kernel_rfl) (by kernel_rfl)⟩
-- 85: uint32
instance : Sz Tryd.prog 85 false 1 := .mk' (by kernel_rfl)
instance : Zr Tryd.prog 85 [.int .u32 0] := .mk' (by kernel_rfl)
instance : It Tryd.prog 85 .u32 := ⟨by kernel_rfl⟩
-- 95: []uint64
instance : Sz Tryd.prog 95 false 1 := .mk' (by kernel_rfl)
instance : Zr Tryd.prog 95 [.slice none 0 0] := .mk' (by kernel_rfl)
instance : Sl Tryd.prog 95 96 1 8 := ⟨.of (by kernel_rfl) (by kernel_rfl)⟩
-- 96: uint64
instance : Sz Tryd.prog 96 false 1 := .mk' (by kernel_rfl)
instance : Zr Tryd.prog 96 [.int .u64 0] := .mk' (by kernel_rfl)
instance : It Tryd.prog 96 .u64 := ⟨by kernel_rfl⟩
-- 98: []uint8
instance : Sz Tryd.prog 98 false 1 := .mk' (by kernel_rfl)
instance : Zr Tryd.prog 98 [.slice none 0 0] := .mk' (by kernel_rfl)
instance : Sl Tryd.prog 98 5 1 1 := ⟨.of (by kernel_rfl) (by kernel_rfl)⟩
-- 100: *strings.Builder
instance : Sz Tryd.prog 100 false 1 := .mk' (by kernel_rfl)
instance : Zr Tryd.prog 100 [.pointer none] := .mk' (by kernel_rfl)
-- 101: struct { addr *strings.Builder; buf []uint8 }
instance : Sz Tryd.prog 101 true 2 := .mk' (by kernel_rfl)
instance : Zr Tryd.prog 101 [.pointer none, .slice none 0 0] := .mk' (by kernel_rfl)
instance : Fl Tryd.prog 101 0 0 := .mk' (n := 0) (by kernel_rfl)
instance : Fl Tryd.prog 101 1 1 := .mk' (n := 0) (by kernel_rfl)
instance : Stt Tryd.prog 101 [(0, 1), (1, 1)] := .mk' (by kernel_rfl)
-- 121: uint
instance : Sz Tryd.prog 121 false 1 := .mk' (by kernel_rfl)
instance : Zr Tryd.prog 121 [.int .u64 0] := .mk' (by kernel_rfl)
instance : It Tryd.prog 121 .u64 := ⟨by kernel_rfl⟩
-- 123: *uint8
instance : Sz Tryd.prog 123 false 1 := .mk' (by kernel_rfl)
instance : Zr Tryd.prog 123 [.pointer none] := .mk' (by kernel_rfl)
-- 148: *strings.asciiSet
instance : Sz Tryd.prog 148 false 1 := .mk' (by kernel_rfl)
instance : Zr Tryd.prog 148 [.pointer none] := .mk' (by kernel_rfl)
-- 160: struct { lo uint8; hi uint8 }
instance : Sz Tryd.prog 160 true 2 := .mk' (by kernel_rfl)
instance : Zr Tryd.prog 160 [.int .u8 0, .int .u8 0] := .mk' (by kernel_rfl)
instance : Fl Tryd.prog 160 0 0 := .mk' (n := 0) (by kernel_rfl)
instance : Fl Tryd.prog 160 1 1 := .mk' (n := 0) (by kernel_rfl)
instance : Stt Tryd.prog 160 [(0, 1), (1, 1)] := .mk' (by kernel_rfl)
-- 167
instance : Sz Tryd.prog 167 true 4 := .mk' (by kernel_rfl)
instance : Zr Tryd.prog 167 [.pointer none, .pointer none, .pointer none, .string ⟨#[]⟩] := .mk' (by kernel_rfl)
instance : Fl Tryd.prog 167 0 0 := .mk' (n := 0) (by kernel_rfl)
instance : Fl Tryd.prog 167 1 1 := .mk' (n := 0) (by kernel_rfl)
instance : Fl Tryd.prog 167 2 2 := .mk' (n := 0) (by kernel_rfl)
instance : Fl Tryd.prog 167 3 3 := .mk' (n := 0) (by kernel_rfl)
instance : Stt Tryd.prog 167 [(0, 1), (1, 1), (2, 1), (3, 1)] := .mk' (by kernel_rfl)
-- 170: struct { _ [0]*runtime.PanicNilError }
instance : Sz Tryd.prog 170 true 0 := .mk' (by kernel_rfl)
instance : Zr Tryd.prog 170 [] := .mk' (by kernel_rfl)
instance : Stt Tryd.prog 170 [(0, 0)] := .mk' (by kernel_rfl)
-- 178
instance : Sz Tryd.prog 178 true 11 := .mk' (by kernel_rfl)
instance : Zr Tryd.prog 178 [.int .u64 0, .int .u64 0, .int .u32 0, .int .u8 0, .int .u8 0, .int .u8 0, .int .u8 0, .nilFunc, .pointer none, .int .i32 0, .int .i32 0] := .mk' (by kernel_rfl)
instance : Fl Tryd.prog 178 0 0 := .mk' (n := 0) (by kernel_rfl)
instance : Fl Tryd.prog 178 1 1 := .mk' (n := 0) (by kernel_rfl)
instance : Fl Tryd.prog 178 2 2 := .mk' (n := 0) (by kernel_rfl)
instance : Fl Tryd.prog 178 3 3 := .mk' (n := 0) (by kernel_rfl)
instance : Fl Tryd.prog 178 4 4 := .mk' (n := 0) (by kernel_rfl)
instance : Fl Tryd.prog 178 5 5 := .mk' (n := 0) (by kernel_rfl)
instance : Fl Tryd.prog 178 6 6 := .mk' (n := 0) (by kernel_rfl)
instance : Fl Tryd.prog 178 8 8 := .mk' (n := 0) (by kernel_rfl)
instance : Fl Tryd.prog 178 9 9 := .mk' (n := 0) (by kernel_rfl)
instance : Fl Tryd.prog 178 10 10 := .mk' (n := 0) (by kernel_rfl)
end Go.Proofs.YtfijmpmojhlnmaaDoor
