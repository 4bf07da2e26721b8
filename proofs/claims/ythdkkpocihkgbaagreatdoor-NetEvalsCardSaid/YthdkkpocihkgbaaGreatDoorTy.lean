/-
  Facts of the types: their cells, their fields, their elements, their zero values. Printed by a program off the translation's own table.
-/
import Derived.Test.YthdkkpocihkgbaaGreatDoorK3
import Derived.Test.YthdkkpocihkgbaaGreatDoorRows
namespace Go.Proofs.YthdkkpocihkgbaaGreatDoor
open Go.RowKit
-- 2: int64
instance : Sz Tryz.prog 2 false 1 := .mk' (by kernel_rfl)
instance : Zr Tryz.prog 2 [.int .i64 0] := .mk' (by kernel_rfl)
instance : It Tryz.prog 2 .i64 := ⟨by kernel_rfl⟩
-- 3: int
instance : Sz Tryz.prog 3 false 1 := .mk' (by kernel_rfl)
instance : Zr Tryz.prog 3 [.int .i64 0] := .mk' (by kernel_rfl)
instance : It Tryz.prog 3 .i64 := ⟨by kernel_rfl⟩
-- 4: bool
instance : Sz Tryz.prog 4 false 1 := .mk' (by kernel_rfl)
instance : Zr Tryz.prog 4 [.bool false] := .mk' (by kernel_rfl)
-- 5: uint8
instance : Sz Tryz.prog 5 false 1 := .mk' (by kernel_rfl)
instance : Zr Tryz.prog 5 [.int .u8 0] := .mk' (by kernel_rfl)
instance : It Tryz.prog 5 .u8 := ⟨by kernel_rfl⟩
-- 7
instance : Sz Tryz.prog 7 true 4 := .mk' (by kernel_rfl)
instance : Zr Tryz.prog 7 [.int .i64 0, .int .i64 0, .bool false, .int .u8 0] := .mk' (by kernel_rfl)
instance : Fl Tryz.prog 7 0 0 := .mk' (n := 0) (by kernel_rfl)
instance : Fl Tryz.prog 7 1 1 := .mk' (n := 0) (by kernel_rfl)
instance : Fl Tryz.prog 7 2 2 := .mk' (n := 0) (by kernel_rfl)
instance : Fl Tryz.prog 7 3 3 := .mk' (n := 0) (by kernel_rfl)
instance : Stt Tryz.prog 7 [(0, 1), (1, 1), (2, 1), (3, 1)] := .mk' (by kernel_rfl)
-- 9: string
instance : Sz Tryz.prog 9 false 1 := .mk' (by kernel_rfl)
instance : Zr Tryz.prog 9 [.string ⟨#[]⟩] := .mk' (by kernel_rfl)
-- 12: uintptr
instance : Sz Tryz.prog 12 false 1 := .mk' (by kernel_rfl)
instance : Zr Tryz.prog 12 [.int .u64 0] := .mk' (by kernel_rfl)
instance : It Tryz.prog 12 .u64 := ⟨by kernel_rfl⟩
-- 13: struct { msg string; addr uintptr }
instance : Sz Tryz.prog 13 true 2 := .mk' (by kernel_rfl)
instance : Zr Tryz.prog 13 [.string ⟨#[]⟩, .int .u64 0] := .mk' (by kernel_rfl)
instance : Fl Tryz.prog 13 0 0 := .mk' (n := 0) (by kernel_rfl)
instance : Fl Tryz.prog 13 1 1 := .mk' (n := 0) (by kernel_rfl)
instance : Stt Tryz.prog 13 [(0, 1), (1, 1)] := .mk' (by kernel_rfl)
-- 15: *runtime.TypeAssertionError
instance : Sz Tryz.prog 15 false 1 := .mk' (by kernel_rfl)
instance : Zr Tryz.prog 15 [.pointer none] := .mk' (by kernel_rfl)
-- 16: *runtime.PanicNilError
instance : Sz Tryz.prog 16 false 1 := .mk' (by kernel_rfl)
instance : Zr Tryz.prog 16 [.pointer none] := .mk' (by kernel_rfl)
-- 17: *abi.Type
instance : Sz Tryz.prog 17 false 1 := .mk' (by kernel_rfl)
instance : Zr Tryz.prog 17 [.pointer none] := .mk' (by kernel_rfl)
-- 18: struct { typ *abi.Type }
instance : Sz Tryz.prog 18 true 1 := .mk' (by kernel_rfl)
instance : Zr Tryz.prog 18 [.pointer none] := .mk' (by kernel_rfl)
instance : Fl Tryz.prog 18 0 0 := .mk' (n := 0) (by kernel_rfl)
instance : Stt Tryz.prog 18 [(0, 1)] := .mk' (by kernel_rfl)
-- 21: int32
instance : Sz Tryz.prog 21 false 1 := .mk' (by kernel_rfl)
instance : Zr Tryz.prog 21 [.int .i32 0] := .mk' (by kernel_rfl)
instance : It Tryz.prog 21 .i32 := ⟨by kernel_rfl⟩
-- 23: []net.Layer
instance : Sz Tryz.prog 23 false 1 := .mk' (by kernel_rfl)
instance : Zr Tryz.prog 23 [.slice none 0 0] := .mk' (by kernel_rfl)
instance : Sl Tryz.prog 23 30 4 80 := ⟨.of (by kernel_rfl) (by kernel_rfl)⟩
-- 24: struct { In int; Layers []net.Layer }
instance : Sz Tryz.prog 24 true 2 := .mk' (by kernel_rfl)
instance : Zr Tryz.prog 24 [.int .i64 0, .slice none 0 0] := .mk' (by kernel_rfl)
instance : Fl Tryz.prog 24 0 0 := .mk' (n := 0) (by kernel_rfl)
instance : Fl Tryz.prog 24 1 1 := .mk' (n := 0) (by kernel_rfl)
instance : Stt Tryz.prog 24 [(0, 1), (1, 1)] := .mk' (by kernel_rfl)
-- 25: net.Net
instance : Sz Tryz.prog 25 true 2 := .mk' (by kernel_rfl)
instance : Zr Tryz.prog 25 [.int .i64 0, .slice none 0 0] := .mk' (by kernel_rfl)
instance : Fl Tryz.prog 25 0 0 := .mk' (n := 0) (by kernel_rfl)
instance : Fl Tryz.prog 25 1 1 := .mk' (n := 0) (by kernel_rfl)
instance : Stt Tryz.prog 25 [(0, 1), (1, 1)] := .mk' (by kernel_rfl)
-- 26: [][]rat.Rat
instance : Sz Tryz.prog 26 false 1 := .mk' (by kernel_rfl)
instance : Zr Tryz.prog 26 [.slice none 0 0] := .mk' (by kernel_rfl)
instance : Sl Tryz.prog 26 27 1 24 := ⟨.of (by kernel_rfl) (by kernel_rfl)⟩
-- 27: []rat.Rat
instance : Sz Tryz.prog 27 false 1 := .mk' (by kernel_rfl)
instance : Zr Tryz.prog 27 [.slice none 0 0] := .mk' (by kernel_rfl)
instance : Sl Tryz.prog 27 119 3 56 := ⟨.of (by kernel_rfl) (by kernel_rfl)⟩
-- 28: [][]int
instance : Sz Tryz.prog 28 false 1 := .mk' (by kernel_rfl)
instance : Zr Tryz.prog 28 [.slice none 0 0] := .mk' (by kernel_rfl)
instance : Sl Tryz.prog 28 31 1 24 := ⟨.of (by kernel_rfl) (by kernel_rfl)⟩
-- 29
instance : Sz Tryz.prog 29 true 4 := .mk' (by kernel_rfl)
instance : Zr Tryz.prog 29 [.int .i64 0, .slice none 0 0, .slice none 0 0, .slice none 0 0] := .mk' (by kernel_rfl)
instance : Fl Tryz.prog 29 0 0 := .mk' (n := 0) (by kernel_rfl)
instance : Fl Tryz.prog 29 1 1 := .mk' (n := 0) (by kernel_rfl)
instance : Fl Tryz.prog 29 2 2 := .mk' (n := 0) (by kernel_rfl)
instance : Fl Tryz.prog 29 3 3 := .mk' (n := 0) (by kernel_rfl)
instance : Stt Tryz.prog 29 [(0, 1), (1, 1), (2, 1), (3, 1)] := .mk' (by kernel_rfl)
-- 30: net.Layer
instance : Sz Tryz.prog 30 true 4 := .mk' (by kernel_rfl)
instance : Zr Tryz.prog 30 [.int .i64 0, .slice none 0 0, .slice none 0 0, .slice none 0 0] := .mk' (by kernel_rfl)
instance : Fl Tryz.prog 30 0 0 := .mk' (n := 0) (by kernel_rfl)
instance : Fl Tryz.prog 30 1 1 := .mk' (n := 0) (by kernel_rfl)
instance : Fl Tryz.prog 30 2 2 := .mk' (n := 0) (by kernel_rfl)
instance : Fl Tryz.prog 30 3 3 := .mk' (n := 0) (by kernel_rfl)
instance : Stt Tryz.prog 30 [(0, 1), (1, 1), (2, 1), (3, 1)] := .mk' (by kernel_rfl)
-- 31: []int
instance : Sz Tryz.prog 31 false 1 := .mk' (by kernel_rfl)
instance : Zr Tryz.prog 31 [.slice none 0 0] := .mk' (by kernel_rfl)
instance : Sl Tryz.prog 31 3 1 8 := ⟨.of (by kernel_rfl) (by kernel_rfl)⟩
-- 32: api.Errno
instance : Sz Tryz.prog 32 false 1 := .mk' (by kernel_rfl)
instance : Zr Tryz.prog 32 [.int .i64 0] := .mk' (by kernel_rfl)
instance : It Tryz.prog 32 .i64 := ⟨by kernel_rfl⟩
-- 36: []attestlaw15.Layer
instance : Sz Tryz.prog 36 false 1 := .mk' (by kernel_rfl)
instance : Zr Tryz.prog 36 [.slice none 0 0] := .mk' (by kernel_rfl)
instance : Sl Tryz.prog 36 126 4 80 := ⟨.of (by kernel_rfl) (by kernel_rfl)⟩
-- 37: struct { In int; Layers []attestlaw15.Layer }
instance : Sz Tryz.prog 37 true 2 := .mk' (by kernel_rfl)
instance : Zr Tryz.prog 37 [.int .i64 0, .slice none 0 0] := .mk' (by kernel_rfl)
instance : Fl Tryz.prog 37 0 0 := .mk' (n := 0) (by kernel_rfl)
instance : Fl Tryz.prog 37 1 1 := .mk' (n := 0) (by kernel_rfl)
instance : Stt Tryz.prog 37 [(0, 1), (1, 1)] := .mk' (by kernel_rfl)
-- 38: attestlaw15.N
instance : Sz Tryz.prog 38 true 2 := .mk' (by kernel_rfl)
instance : Zr Tryz.prog 38 [.int .i64 0, .slice none 0 0] := .mk' (by kernel_rfl)
instance : Fl Tryz.prog 38 0 0 := .mk' (n := 0) (by kernel_rfl)
instance : Fl Tryz.prog 38 1 1 := .mk' (n := 0) (by kernel_rfl)
instance : Stt Tryz.prog 38 [(0, 1), (1, 1)] := .mk' (by kernel_rfl)
-- 42: []attestref15.Layer
instance : Sz Tryz.prog 42 false 1 := .mk' (by kernel_rfl)
instance : Zr Tryz.prog 42 [.slice none 0 0] := .mk' (by kernel_rfl)
instance : Sl Tryz.prog 42 62 4 80 := ⟨.of (by kernel_rfl) (by kernel_rfl)⟩
-- 43: struct { In int; Layers []attestref15.Layer }
instance : Sz Tryz.prog 43 true 2 := .mk' (by kernel_rfl)
instance : Zr Tryz.prog 43 [.int .i64 0, .slice none 0 0] := .mk' (by kernel_rfl)
instance : Fl Tryz.prog 43 0 0 := .mk' (n := 0) (by kernel_rfl)
instance : Fl Tryz.prog 43 1 1 := .mk' (n := 0) (by kernel_rfl)
instance : Stt Tryz.prog 43 [(0, 1), (1, 1)] := .mk' (by kernel_rfl)
-- 44: attestref15.Net
instance : Sz Tryz.prog 44 true 2 := .mk' (by kernel_rfl)
instance : Zr Tryz.prog 44 [.int .i64 0, .slice none 0 0] := .mk' (by kernel_rfl)
instance : Fl Tryz.prog 44 0 0 := .mk' (n := 0) (by kernel_rfl)
instance : Fl Tryz.prog 44 1 1 := .mk' (n := 0) (by kernel_rfl)
instance : Stt Tryz.prog 44 [(0, 1), (1, 1)] := .mk' (by kernel_rfl)
-- 47: []attestlaw05.N
instance : Sz Tryz.prog 47 false 1 := .mk' (by kernel_rfl)
instance : Zr Tryz.prog 47 [.slice none 0 0] := .mk' (by kernel_rfl)
instance : Sl Tryz.prog 47 128 3 56 := ⟨.of (by kernel_rfl) (by kernel_rfl)⟩
-- 57: []attestref05.Rat
instance : Sz Tryz.prog 57 false 1 := .mk' (by kernel_rfl)
instance : Zr Tryz.prog 57 [.slice none 0 0] := .mk' (by kernel_rfl)
instance : Sl Tryz.prog 57 136 3 56 := ⟨.of (by kernel_rfl) (by kernel_rfl)⟩
-- 60: [][]attestref05.Rat
instance : Sz Tryz.prog 60 false 1 := .mk' (by kernel_rfl)
instance : Zr Tryz.prog 60 [.slice none 0 0] := .mk' (by kernel_rfl)
instance : Sl Tryz.prog 60 57 1 24 := ⟨.of (by kernel_rfl) (by kernel_rfl)⟩
-- 61
instance : Sz Tryz.prog 61 true 4 := .mk' (by kernel_rfl)
instance : Zr Tryz.prog 61 [.int .i64 0, .slice none 0 0, .slice none 0 0, .slice none 0 0] := .mk' (by kernel_rfl)
instance : Fl Tryz.prog 61 0 0 := .mk' (n := 0) (by kernel_rfl)
instance : Fl Tryz.prog 61 1 1 := .mk' (n := 0) (by kernel_rfl)
instance : Fl Tryz.prog 61 2 2 := .mk' (n := 0) (by kernel_rfl)
instance : Fl Tryz.prog 61 3 3 := .mk' (n := 0) (by kernel_rfl)
instance : Stt Tryz.prog 61 [(0, 1), (1, 1), (2, 1), (3, 1)] := .mk' (by kernel_rfl)
-- 62: attestref15.Layer
instance : Sz Tryz.prog 62 true 4 := .mk' (by kernel_rfl)
instance : Zr Tryz.prog 62 [.int .i64 0, .slice none 0 0, .slice none 0 0, .slice none 0 0] := .mk' (by kernel_rfl)
instance : Fl Tryz.prog 62 0 0 := .mk' (n := 0) (by kernel_rfl)
instance : Fl Tryz.prog 62 1 1 := .mk' (n := 0) (by kernel_rfl)
instance : Fl Tryz.prog 62 2 2 := .mk' (n := 0) (by kernel_rfl)
instance : Fl Tryz.prog 62 3 3 := .mk' (n := 0) (by kernel_rfl)
instance : Stt Tryz.prog 62 [(0, 1), (1, 1), (2, 1), (3, 1)] := .mk' (by kernel_rfl)
-- 72: [][2]attestlaw05.N
instance : Sz Tryz.prog 72 false 1 := .mk' (by kernel_rfl)
instance : Zr Tryz.prog 72 [.slice none 0 0] := .mk' (by kernel_rfl)
instance : Sl Tryz.prog 72 163 6 112 := ⟨.of (by kernel_rfl) (by kernel_rfl)⟩
-- 73: []attestlaw09.A
instance : Sz Tryz.prog 73 false 1 := .mk' (by kernel_rfl)
instance : Zr Tryz.prog 73 [.slice none 0 0] := .mk' (by kernel_rfl)
instance : Sl Tryz.prog 73 169 5 88 := ⟨.of (by kernel_rfl) (by kernel_rfl)⟩
-- 74: []logic.F
instance : Sz Tryz.prog 74 false 1 := .mk' (by kernel_rfl)
instance : Zr Tryz.prog 74 [.slice none 0 0] := .mk' (by kernel_rfl)
instance : Sl Tryz.prog 74 76 3 40 := ⟨.of (by kernel_rfl) (by kernel_rfl)⟩
-- 75: struct { Kind int; Atom int; Sub []logic.F }
instance : Sz Tryz.prog 75 true 3 := .mk' (by kernel_rfl)
instance : Zr Tryz.prog 75 [.int .i64 0, .int .i64 0, .slice none 0 0] := .mk' (by kernel_rfl)
instance : Fl Tryz.prog 75 0 0 := .mk' (n := 0) (by kernel_rfl)
instance : Fl Tryz.prog 75 1 1 := .mk' (n := 0) (by kernel_rfl)
instance : Fl Tryz.prog 75 2 2 := .mk' (n := 0) (by kernel_rfl)
instance : Stt Tryz.prog 75 [(0, 1), (1, 1), (2, 1)] := .mk' (by kernel_rfl)
-- 76: logic.F
instance : Sz Tryz.prog 76 true 3 := .mk' (by kernel_rfl)
instance : Zr Tryz.prog 76 [.int .i64 0, .int .i64 0, .slice none 0 0] := .mk' (by kernel_rfl)
instance : Fl Tryz.prog 76 0 0 := .mk' (n := 0) (by kernel_rfl)
instance : Fl Tryz.prog 76 1 1 := .mk' (n := 0) (by kernel_rfl)
instance : Fl Tryz.prog 76 2 2 := .mk' (n := 0) (by kernel_rfl)
instance : Stt Tryz.prog 76 [(0, 1), (1, 1), (2, 1)] := .mk' (by kernel_rfl)
-- 77
instance : Sz Tryz.prog 77 true 5 := .mk' (by kernel_rfl)
instance : Zr Tryz.prog 77 [.slice none 0 0, .slice none 0 0, .int .i64 0, .int .i64 0, .slice none 0 0] := .mk' (by kernel_rfl)
instance : Fl Tryz.prog 77 0 0 := .mk' (n := 0) (by kernel_rfl)
instance : Fl Tryz.prog 77 1 1 := .mk' (n := 0) (by kernel_rfl)
instance : Fl Tryz.prog 77 2 2 := .mk' (n := 2) (by kernel_rfl)
instance : Stt Tryz.prog 77 [(0, 1), (1, 1), (2, 3)] := .mk' (by kernel_rfl)
-- 78: attestlaw16.P
instance : Sz Tryz.prog 78 true 5 := .mk' (by kernel_rfl)
instance : Zr Tryz.prog 78 [.slice none 0 0, .slice none 0 0, .int .i64 0, .int .i64 0, .slice none 0 0] := .mk' (by kernel_rfl)
instance : Fl Tryz.prog 78 0 0 := .mk' (n := 0) (by kernel_rfl)
instance : Fl Tryz.prog 78 1 1 := .mk' (n := 0) (by kernel_rfl)
instance : Fl Tryz.prog 78 2 2 := .mk' (n := 2) (by kernel_rfl)
instance : Stt Tryz.prog 78 [(0, 1), (1, 1), (2, 3)] := .mk' (by kernel_rfl)
-- 80: []prop.Side
instance : Sz Tryz.prog 80 false 1 := .mk' (by kernel_rfl)
instance : Zr Tryz.prog 80 [.slice none 0 0] := .mk' (by kernel_rfl)
instance : Sl Tryz.prog 80 152 6 112 := ⟨.of (by kernel_rfl) (by kernel_rfl)⟩
-- 81: []atom.Atom
instance : Sz Tryz.prog 81 false 1 := .mk' (by kernel_rfl)
instance : Zr Tryz.prog 81 [.slice none 0 0] := .mk' (by kernel_rfl)
instance : Sl Tryz.prog 81 157 5 88 := ⟨.of (by kernel_rfl) (by kernel_rfl)⟩
-- 82: struct { Box []prop.Side; Atoms []atom.Atom; Bad logic.F }
instance : Sz Tryz.prog 82 true 5 := .mk' (by kernel_rfl)
instance : Zr Tryz.prog 82 [.slice none 0 0, .slice none 0 0, .int .i64 0, .int .i64 0, .slice none 0 0] := .mk' (by kernel_rfl)
instance : Fl Tryz.prog 82 0 0 := .mk' (n := 0) (by kernel_rfl)
instance : Fl Tryz.prog 82 1 1 := .mk' (n := 0) (by kernel_rfl)
instance : Fl Tryz.prog 82 2 2 := .mk' (n := 2) (by kernel_rfl)
instance : Stt Tryz.prog 82 [(0, 1), (1, 1), (2, 3)] := .mk' (by kernel_rfl)
-- 83: prop.Prop
instance : Sz Tryz.prog 83 true 5 := .mk' (by kernel_rfl)
instance : Zr Tryz.prog 83 [.slice none 0 0, .slice none 0 0, .int .i64 0, .int .i64 0, .slice none 0 0] := .mk' (by kernel_rfl)
instance : Fl Tryz.prog 83 0 0 := .mk' (n := 0) (by kernel_rfl)
instance : Fl Tryz.prog 83 1 1 := .mk' (n := 0) (by kernel_rfl)
instance : Fl Tryz.prog 83 2 2 := .mk' (n := 2) (by kernel_rfl)
instance : Stt Tryz.prog 83 [(0, 1), (1, 1), (2, 3)] := .mk' (by kernel_rfl)
-- 86: []attestref16.Side
instance : Sz Tryz.prog 86 false 1 := .mk' (by kernel_rfl)
instance : Zr Tryz.prog 86 [.slice none 0 0] := .mk' (by kernel_rfl)
instance : Sl Tryz.prog 86 172 6 112 := ⟨.of (by kernel_rfl) (by kernel_rfl)⟩
-- 87: []attestref09.Atom
instance : Sz Tryz.prog 87 false 1 := .mk' (by kernel_rfl)
instance : Zr Tryz.prog 87 [.slice none 0 0] := .mk' (by kernel_rfl)
instance : Sl Tryz.prog 87 177 5 88 := ⟨.of (by kernel_rfl) (by kernel_rfl)⟩
-- 88: []attestref11.F
instance : Sz Tryz.prog 88 false 1 := .mk' (by kernel_rfl)
instance : Zr Tryz.prog 88 [.slice none 0 0] := .mk' (by kernel_rfl)
instance : Sl Tryz.prog 88 90 3 40 := ⟨.of (by kernel_rfl) (by kernel_rfl)⟩
-- 89: struct { Kind int; Atom int; Sub []attestref11.F }
instance : Sz Tryz.prog 89 true 3 := .mk' (by kernel_rfl)
instance : Zr Tryz.prog 89 [.int .i64 0, .int .i64 0, .slice none 0 0] := .mk' (by kernel_rfl)
instance : Fl Tryz.prog 89 0 0 := .mk' (n := 0) (by kernel_rfl)
instance : Fl Tryz.prog 89 1 1 := .mk' (n := 0) (by kernel_rfl)
instance : Fl Tryz.prog 89 2 2 := .mk' (n := 0) (by kernel_rfl)
instance : Stt Tryz.prog 89 [(0, 1), (1, 1), (2, 1)] := .mk' (by kernel_rfl)
-- 90: attestref11.F
instance : Sz Tryz.prog 90 true 3 := .mk' (by kernel_rfl)
instance : Zr Tryz.prog 90 [.int .i64 0, .int .i64 0, .slice none 0 0] := .mk' (by kernel_rfl)
instance : Fl Tryz.prog 90 0 0 := .mk' (n := 0) (by kernel_rfl)
instance : Fl Tryz.prog 90 1 1 := .mk' (n := 0) (by kernel_rfl)
instance : Fl Tryz.prog 90 2 2 := .mk' (n := 0) (by kernel_rfl)
instance : Stt Tryz.prog 90 [(0, 1), (1, 1), (2, 1)] := .mk' (by kernel_rfl)
-- 91
instance : Sz Tryz.prog 91 true 5 := .mk' (by kernel_rfl)
instance : Zr Tryz.prog 91 [.slice none 0 0, .slice none 0 0, .int .i64 0, .int .i64 0, .slice none 0 0] := .mk' (by kernel_rfl)
instance : Fl Tryz.prog 91 0 0 := .mk' (n := 0) (by kernel_rfl)
instance : Fl Tryz.prog 91 1 1 := .mk' (n := 0) (by kernel_rfl)
instance : Fl Tryz.prog 91 2 2 := .mk' (n := 2) (by kernel_rfl)
instance : Stt Tryz.prog 91 [(0, 1), (1, 1), (2, 3)] := .mk' (by kernel_rfl)
-- 92: attestref16.Prop
instance : Sz Tryz.prog 92 true 5 := .mk' (by kernel_rfl)
instance : Zr Tryz.prog 92 [.slice none 0 0, .slice none 0 0, .int .i64 0, .int .i64 0, .slice none 0 0] := .mk' (by kernel_rfl)
instance : Fl Tryz.prog 92 0 0 := .mk' (n := 0) (by kernel_rfl)
instance : Fl Tryz.prog 92 1 1 := .mk' (n := 0) (by kernel_rfl)
instance : Fl Tryz.prog 92 2 2 := .mk' (n := 2) (by kernel_rfl)
instance : Stt Tryz.prog 92 [(0, 1), (1, 1), (2, 3)] := .mk' (by kernel_rfl)
-- 108: []sexp.S
instance : Sz Tryz.prog 108 false 1 := .mk' (by kernel_rfl)
instance : Zr Tryz.prog 108 [.slice none 0 0] := .mk' (by kernel_rfl)
instance : Sl Tryz.prog 108 188 3 48 := ⟨.of (by kernel_rfl) (by kernel_rfl)⟩
-- 112: []attestref12.S
instance : Sz Tryz.prog 112 false 1 := .mk' (by kernel_rfl)
instance : Zr Tryz.prog 112 [.slice none 0 0] := .mk' (by kernel_rfl)
instance : Sl Tryz.prog 112 210 3 48 := ⟨.of (by kernel_rfl) (by kernel_rfl)⟩
-- 117: []uint32
instance : Sz Tryz.prog 117 false 1 := .mk' (by kernel_rfl)
instance : Zr Tryz.prog 117 [.slice none 0 0] := .mk' (by kernel_rfl)
instance : Sl Tryz.prog 117 229 1 4 := ⟨.of (by kernel_rfl) (by kernel_rfl)⟩
-- 118: struct { neg bool; num []uint32; den []uint32 }
instance : Sz Tryz.prog 118 true 3 := .mk' (by kernel_rfl)
instance : Zr Tryz.prog 118 [.bool false, .slice none 0 0, .slice none 0 0] := .mk' (by kernel_rfl)
instance : Fl Tryz.prog 118 0 0 := .mk' (n := 0) (by kernel_rfl)
instance : Fl Tryz.prog 118 1 1 := .mk' (n := 0) (by kernel_rfl)
instance : Fl Tryz.prog 118 2 2 := .mk' (n := 0) (by kernel_rfl)
instance : Stt Tryz.prog 118 [(0, 1), (1, 1), (2, 1)] := .mk' (by kernel_rfl)
-- 119: rat.Rat
instance : Sz Tryz.prog 119 true 3 := .mk' (by kernel_rfl)
instance : Zr Tryz.prog 119 [.bool false, .slice none 0 0, .slice none 0 0] := .mk' (by kernel_rfl)
instance : Fl Tryz.prog 119 0 0 := .mk' (n := 0) (by kernel_rfl)
instance : Fl Tryz.prog 119 1 1 := .mk' (n := 0) (by kernel_rfl)
instance : Fl Tryz.prog 119 2 2 := .mk' (n := 0) (by kernel_rfl)
instance : Stt Tryz.prog 119 [(0, 1), (1, 1), (2, 1)] := .mk' (by kernel_rfl)
-- 124: [][]attestlaw05.N
instance : Sz Tryz.prog 124 false 1 := .mk' (by kernel_rfl)
instance : Zr Tryz.prog 124 [.slice none 0 0] := .mk' (by kernel_rfl)
instance : Sl Tryz.prog 124 47 1 24 := ⟨.of (by kernel_rfl) (by kernel_rfl)⟩
-- 125
instance : Sz Tryz.prog 125 true 4 := .mk' (by kernel_rfl)
instance : Zr Tryz.prog 125 [.int .i64 0, .slice none 0 0, .slice none 0 0, .slice none 0 0] := .mk' (by kernel_rfl)
instance : Fl Tryz.prog 125 0 0 := .mk' (n := 0) (by kernel_rfl)
instance : Fl Tryz.prog 125 1 1 := .mk' (n := 0) (by kernel_rfl)
instance : Fl Tryz.prog 125 2 2 := .mk' (n := 0) (by kernel_rfl)
instance : Fl Tryz.prog 125 3 3 := .mk' (n := 0) (by kernel_rfl)
instance : Stt Tryz.prog 125 [(0, 1), (1, 1), (2, 1), (3, 1)] := .mk' (by kernel_rfl)
-- 126: attestlaw15.Layer
instance : Sz Tryz.prog 126 true 4 := .mk' (by kernel_rfl)
instance : Zr Tryz.prog 126 [.int .i64 0, .slice none 0 0, .slice none 0 0, .slice none 0 0] := .mk' (by kernel_rfl)
instance : Fl Tryz.prog 126 0 0 := .mk' (n := 0) (by kernel_rfl)
instance : Fl Tryz.prog 126 1 1 := .mk' (n := 0) (by kernel_rfl)
instance : Fl Tryz.prog 126 2 2 := .mk' (n := 0) (by kernel_rfl)
instance : Fl Tryz.prog 126 3 3 := .mk' (n := 0) (by kernel_rfl)
instance : Stt Tryz.prog 126 [(0, 1), (1, 1), (2, 1), (3, 1)] := .mk' (by kernel_rfl)
-- 127: struct { Neg bool; Num []uint32; Den []uint32 }
instance : Sz Tryz.prog 127 true 3 := .mk' (by kernel_rfl)
instance : Zr Tryz.prog 127 [.bool false, .slice none 0 0, .slice none 0 0] := .mk' (by kernel_rfl)
instance : Fl Tryz.prog 127 0 0 := .mk' (n := 0) (by kernel_rfl)
instance : Fl Tryz.prog 127 1 1 := .mk' (n := 0) (by kernel_rfl)
instance : Fl Tryz.prog 127 2 2 := .mk' (n := 0) (by kernel_rfl)
instance : Stt Tryz.prog 127 [(0, 1), (1, 1), (2, 1)] := .mk' (by kernel_rfl)
-- 128: attestlaw05.N
instance : Sz Tryz.prog 128 true 3 := .mk' (by kernel_rfl)
instance : Zr Tryz.prog 128 [.bool false, .slice none 0 0, .slice none 0 0] := .mk' (by kernel_rfl)
instance : Fl Tryz.prog 128 0 0 := .mk' (n := 0) (by kernel_rfl)
instance : Fl Tryz.prog 128 1 1 := .mk' (n := 0) (by kernel_rfl)
instance : Fl Tryz.prog 128 2 2 := .mk' (n := 0) (by kernel_rfl)
instance : Stt Tryz.prog 128 [(0, 1), (1, 1), (2, 1)] := .mk' (by kernel_rfl)
-- 134: []bool
instance : Sz Tryz.prog 134 false 1 := .mk' (by kernel_rfl)
instance : Zr Tryz.prog 134 [.slice none 0 0] := .mk' (by kernel_rfl)
instance : Sl Tryz.prog 134 4 1 1 := ⟨.of (by kernel_rfl) (by kernel_rfl)⟩
-- 135: struct { Neg bool; Num []bool; Den []bool }
instance : Sz Tryz.prog 135 true 3 := .mk' (by kernel_rfl)
instance : Zr Tryz.prog 135 [.bool false, .slice none 0 0, .slice none 0 0] := .mk' (by kernel_rfl)
instance : Fl Tryz.prog 135 0 0 := .mk' (n := 0) (by kernel_rfl)
instance : Fl Tryz.prog 135 1 1 := .mk' (n := 0) (by kernel_rfl)
instance : Fl Tryz.prog 135 2 2 := .mk' (n := 0) (by kernel_rfl)
instance : Stt Tryz.prog 135 [(0, 1), (1, 1), (2, 1)] := .mk' (by kernel_rfl)
-- 136: attestref05.Rat
instance : Sz Tryz.prog 136 true 3 := .mk' (by kernel_rfl)
instance : Zr Tryz.prog 136 [.bool false, .slice none 0 0, .slice none 0 0] := .mk' (by kernel_rfl)
instance : Fl Tryz.prog 136 0 0 := .mk' (n := 0) (by kernel_rfl)
instance : Fl Tryz.prog 136 1 1 := .mk' (n := 0) (by kernel_rfl)
instance : Fl Tryz.prog 136 2 2 := .mk' (n := 0) (by kernel_rfl)
instance : Stt Tryz.prog 136 [(0, 1), (1, 1), (2, 1)] := .mk' (by kernel_rfl)
-- 141: []string
instance : Sz Tryz.prog 141 false 1 := .mk' (by kernel_rfl)
instance : Zr Tryz.prog 141 [.slice none 0 0] := .mk' (by kernel_rfl)
instance : Sl Tryz.prog 141 9 1 16 := ⟨.of (by kernel_rfl) (by kernel_rfl)⟩
-- 151: struct { Lo rat.Rat; Hi rat.Rat }
instance : Sz Tryz.prog 151 true 6 := .mk' (by kernel_rfl)
instance : Zr Tryz.prog 151 [.bool false, .slice none 0 0, .slice none 0 0, .bool false, .slice none 0 0, .slice none 0 0] := .mk' (by kernel_rfl)
instance : Fl Tryz.prog 151 0 0 := .mk' (n := 2) (by kernel_rfl)
instance : Fl Tryz.prog 151 1 3 := .mk' (n := 2) (by kernel_rfl)
instance : Stt Tryz.prog 151 [(0, 3), (3, 3)] := .mk' (by kernel_rfl)
-- 152: prop.Side
instance : Sz Tryz.prog 152 true 6 := .mk' (by kernel_rfl)
instance : Zr Tryz.prog 152 [.bool false, .slice none 0 0, .slice none 0 0, .bool false, .slice none 0 0, .slice none 0 0] := .mk' (by kernel_rfl)
instance : Fl Tryz.prog 152 0 0 := .mk' (n := 2) (by kernel_rfl)
instance : Fl Tryz.prog 152 1 3 := .mk' (n := 2) (by kernel_rfl)
instance : Stt Tryz.prog 152 [(0, 3), (3, 3)] := .mk' (by kernel_rfl)
-- 153: []lin.Term
instance : Sz Tryz.prog 153 false 1 := .mk' (by kernel_rfl)
instance : Zr Tryz.prog 153 [.slice none 0 0] := .mk' (by kernel_rfl)
instance : Sl Tryz.prog 153 161 4 64 := ⟨.of (by kernel_rfl) (by kernel_rfl)⟩
-- 154: struct { Terms []lin.Term; Const rat.Rat }
instance : Sz Tryz.prog 154 true 4 := .mk' (by kernel_rfl)
instance : Zr Tryz.prog 154 [.slice none 0 0, .bool false, .slice none 0 0, .slice none 0 0] := .mk' (by kernel_rfl)
instance : Fl Tryz.prog 154 0 0 := .mk' (n := 0) (by kernel_rfl)
instance : Fl Tryz.prog 154 1 1 := .mk' (n := 2) (by kernel_rfl)
instance : Stt Tryz.prog 154 [(0, 1), (1, 3)] := .mk' (by kernel_rfl)
-- 155: lin.Expr
instance : Sz Tryz.prog 155 true 4 := .mk' (by kernel_rfl)
instance : Zr Tryz.prog 155 [.slice none 0 0, .bool false, .slice none 0 0, .slice none 0 0] := .mk' (by kernel_rfl)
instance : Fl Tryz.prog 155 0 0 := .mk' (n := 0) (by kernel_rfl)
instance : Fl Tryz.prog 155 1 1 := .mk' (n := 2) (by kernel_rfl)
instance : Stt Tryz.prog 155 [(0, 1), (1, 3)] := .mk' (by kernel_rfl)
-- 156: struct { E lin.Expr; Op int }
instance : Sz Tryz.prog 156 true 5 := .mk' (by kernel_rfl)
instance : Zr Tryz.prog 156 [.slice none 0 0, .bool false, .slice none 0 0, .slice none 0 0, .int .i64 0] := .mk' (by kernel_rfl)
instance : Fl Tryz.prog 156 0 0 := .mk' (n := 3) (by kernel_rfl)
instance : Fl Tryz.prog 156 1 4 := .mk' (n := 0) (by kernel_rfl)
instance : Stt Tryz.prog 156 [(0, 4), (4, 1)] := .mk' (by kernel_rfl)
-- 157: atom.Atom
instance : Sz Tryz.prog 157 true 5 := .mk' (by kernel_rfl)
instance : Zr Tryz.prog 157 [.slice none 0 0, .bool false, .slice none 0 0, .slice none 0 0, .int .i64 0] := .mk' (by kernel_rfl)
instance : Fl Tryz.prog 157 0 0 := .mk' (n := 3) (by kernel_rfl)
instance : Fl Tryz.prog 157 1 4 := .mk' (n := 0) (by kernel_rfl)
instance : Stt Tryz.prog 157 [(0, 4), (4, 1)] := .mk' (by kernel_rfl)
-- 160: struct { Var int; Coef rat.Rat }
instance : Sz Tryz.prog 160 true 4 := .mk' (by kernel_rfl)
instance : Zr Tryz.prog 160 [.int .i64 0, .bool false, .slice none 0 0, .slice none 0 0] := .mk' (by kernel_rfl)
instance : Fl Tryz.prog 160 0 0 := .mk' (n := 0) (by kernel_rfl)
instance : Fl Tryz.prog 160 1 1 := .mk' (n := 2) (by kernel_rfl)
instance : Stt Tryz.prog 160 [(0, 1), (1, 3)] := .mk' (by kernel_rfl)
-- 161: lin.Term
instance : Sz Tryz.prog 161 true 4 := .mk' (by kernel_rfl)
instance : Zr Tryz.prog 161 [.int .i64 0, .bool false, .slice none 0 0, .slice none 0 0] := .mk' (by kernel_rfl)
instance : Fl Tryz.prog 161 0 0 := .mk' (n := 0) (by kernel_rfl)
instance : Fl Tryz.prog 161 1 1 := .mk' (n := 2) (by kernel_rfl)
instance : Stt Tryz.prog 161 [(0, 1), (1, 3)] := .mk' (by kernel_rfl)
-- 165: []attestlaw08.T
instance : Sz Tryz.prog 165 false 1 := .mk' (by kernel_rfl)
instance : Zr Tryz.prog 165 [.slice none 0 0] := .mk' (by kernel_rfl)
instance : Sl Tryz.prog 165 317 4 64 := ⟨.of (by kernel_rfl) (by kernel_rfl)⟩
-- 166: struct { Terms []attestlaw08.T; Const attestlaw05.N }
instance : Sz Tryz.prog 166 true 4 := .mk' (by kernel_rfl)
instance : Zr Tryz.prog 166 [.slice none 0 0, .bool false, .slice none 0 0, .slice none 0 0] := .mk' (by kernel_rfl)
instance : Fl Tryz.prog 166 0 0 := .mk' (n := 0) (by kernel_rfl)
instance : Fl Tryz.prog 166 1 1 := .mk' (n := 2) (by kernel_rfl)
instance : Stt Tryz.prog 166 [(0, 1), (1, 3)] := .mk' (by kernel_rfl)
-- 167: attestlaw08.E
instance : Sz Tryz.prog 167 true 4 := .mk' (by kernel_rfl)
instance : Zr Tryz.prog 167 [.slice none 0 0, .bool false, .slice none 0 0, .slice none 0 0] := .mk' (by kernel_rfl)
instance : Fl Tryz.prog 167 0 0 := .mk' (n := 0) (by kernel_rfl)
instance : Fl Tryz.prog 167 1 1 := .mk' (n := 2) (by kernel_rfl)
instance : Stt Tryz.prog 167 [(0, 1), (1, 3)] := .mk' (by kernel_rfl)
-- 168: struct { E attestlaw08.E; Op int }
instance : Sz Tryz.prog 168 true 5 := .mk' (by kernel_rfl)
instance : Zr Tryz.prog 168 [.slice none 0 0, .bool false, .slice none 0 0, .slice none 0 0, .int .i64 0] := .mk' (by kernel_rfl)
instance : Fl Tryz.prog 168 0 0 := .mk' (n := 3) (by kernel_rfl)
instance : Fl Tryz.prog 168 1 4 := .mk' (n := 0) (by kernel_rfl)
instance : Stt Tryz.prog 168 [(0, 4), (4, 1)] := .mk' (by kernel_rfl)
-- 169: attestlaw09.A
instance : Sz Tryz.prog 169 true 5 := .mk' (by kernel_rfl)
instance : Zr Tryz.prog 169 [.slice none 0 0, .bool false, .slice none 0 0, .slice none 0 0, .int .i64 0] := .mk' (by kernel_rfl)
instance : Fl Tryz.prog 169 0 0 := .mk' (n := 3) (by kernel_rfl)
instance : Fl Tryz.prog 169 1 4 := .mk' (n := 0) (by kernel_rfl)
instance : Stt Tryz.prog 169 [(0, 4), (4, 1)] := .mk' (by kernel_rfl)
-- 171: struct { Lo attestref05.Rat; Hi attestref05.Rat }
instance : Sz Tryz.prog 171 true 6 := .mk' (by kernel_rfl)
instance : Zr Tryz.prog 171 [.bool false, .slice none 0 0, .slice none 0 0, .bool false, .slice none 0 0, .slice none 0 0] := .mk' (by kernel_rfl)
instance : Fl Tryz.prog 171 0 0 := .mk' (n := 2) (by kernel_rfl)
instance : Fl Tryz.prog 171 1 3 := .mk' (n := 2) (by kernel_rfl)
instance : Stt Tryz.prog 171 [(0, 3), (3, 3)] := .mk' (by kernel_rfl)
-- 172: attestref16.Side
instance : Sz Tryz.prog 172 true 6 := .mk' (by kernel_rfl)
instance : Zr Tryz.prog 172 [.bool false, .slice none 0 0, .slice none 0 0, .bool false, .slice none 0 0, .slice none 0 0] := .mk' (by kernel_rfl)
instance : Fl Tryz.prog 172 0 0 := .mk' (n := 2) (by kernel_rfl)
instance : Fl Tryz.prog 172 1 3 := .mk' (n := 2) (by kernel_rfl)
instance : Stt Tryz.prog 172 [(0, 3), (3, 3)] := .mk' (by kernel_rfl)
-- 173: []attestref08.Term
instance : Sz Tryz.prog 173 false 1 := .mk' (by kernel_rfl)
instance : Zr Tryz.prog 173 [.slice none 0 0] := .mk' (by kernel_rfl)
instance : Sl Tryz.prog 173 179 4 64 := ⟨.of (by kernel_rfl) (by kernel_rfl)⟩
-- 174: struct { Terms []attestref08.Term; Const attestref05.Rat }
instance : Sz Tryz.prog 174 true 4 := .mk' (by kernel_rfl)
instance : Zr Tryz.prog 174 [.slice none 0 0, .bool false, .slice none 0 0, .slice none 0 0] := .mk' (by kernel_rfl)
instance : Fl Tryz.prog 174 0 0 := .mk' (n := 0) (by kernel_rfl)
instance : Fl Tryz.prog 174 1 1 := .mk' (n := 2) (by kernel_rfl)
instance : Stt Tryz.prog 174 [(0, 1), (1, 3)] := .mk' (by kernel_rfl)
-- 175: attestref08.Expr
instance : Sz Tryz.prog 175 true 4 := .mk' (by kernel_rfl)
instance : Zr Tryz.prog 175 [.slice none 0 0, .bool false, .slice none 0 0, .slice none 0 0] := .mk' (by kernel_rfl)
instance : Fl Tryz.prog 175 0 0 := .mk' (n := 0) (by kernel_rfl)
instance : Fl Tryz.prog 175 1 1 := .mk' (n := 2) (by kernel_rfl)
instance : Stt Tryz.prog 175 [(0, 1), (1, 3)] := .mk' (by kernel_rfl)
-- 176: struct { E attestref08.Expr; Op int }
instance : Sz Tryz.prog 176 true 5 := .mk' (by kernel_rfl)
instance : Zr Tryz.prog 176 [.slice none 0 0, .bool false, .slice none 0 0, .slice none 0 0, .int .i64 0] := .mk' (by kernel_rfl)
instance : Fl Tryz.prog 176 0 0 := .mk' (n := 3) (by kernel_rfl)
instance : Fl Tryz.prog 176 1 4 := .mk' (n := 0) (by kernel_rfl)
instance : Stt Tryz.prog 176 [(0, 4), (4, 1)] := .mk' (by kernel_rfl)
-- 177: attestref09.Atom
instance : Sz Tryz.prog 177 true 5 := .mk' (by kernel_rfl)
instance : Zr Tryz.prog 177 [.slice none 0 0, .bool false, .slice none 0 0, .slice none 0 0, .int .i64 0] := .mk' (by kernel_rfl)
instance : Fl Tryz.prog 177 0 0 := .mk' (n := 3) (by kernel_rfl)
instance : Fl Tryz.prog 177 1 4 := .mk' (n := 0) (by kernel_rfl)
instance : Stt Tryz.prog 177 [(0, 4), (4, 1)] := .mk' (by kernel_rfl)
-- 178: struct { Var int; Coef attestref05.Rat }
instance : Sz Tryz.prog 178 true 4 := .mk' (by kernel_rfl)
instance : Zr Tryz.prog 178 [.int .i64 0, .bool false, .slice none 0 0, .slice none 0 0] := .mk' (by kernel_rfl)
instance : Fl Tryz.prog 178 0 0 := .mk' (n := 0) (by kernel_rfl)
instance : Fl Tryz.prog 178 1 1 := .mk' (n := 2) (by kernel_rfl)
instance : Stt Tryz.prog 178 [(0, 1), (1, 3)] := .mk' (by kernel_rfl)
-- 179: attestref08.Term
instance : Sz Tryz.prog 179 true 4 := .mk' (by kernel_rfl)
instance : Zr Tryz.prog 179 [.int .i64 0, .bool false, .slice none 0 0, .slice none 0 0] := .mk' (by kernel_rfl)
instance : Fl Tryz.prog 179 0 0 := .mk' (n := 0) (by kernel_rfl)
instance : Fl Tryz.prog 179 1 1 := .mk' (n := 2) (by kernel_rfl)
instance : Stt Tryz.prog 179 [(0, 1), (1, 3)] := .mk' (by kernel_rfl)
-- 187: struct { Leaf bool; Word string; List []sexp.S }
instance : Sz Tryz.prog 187 true 3 := .mk' (by kernel_rfl)
instance : Zr Tryz.prog 187 [.bool false, .string ⟨#[]⟩, .slice none 0 0] := .mk' (by kernel_rfl)
instance : Fl Tryz.prog 187 0 0 := .mk' (n := 0) (by kernel_rfl)
instance : Fl Tryz.prog 187 1 1 := .mk' (n := 0) (by kernel_rfl)
instance : Fl Tryz.prog 187 2 2 := .mk' (n := 0) (by kernel_rfl)
instance : Stt Tryz.prog 187 [(0, 1), (1, 1), (2, 1)] := .mk' (by kernel_rfl)
-- 188: sexp.S
instance : Sz Tryz.prog 188 true 3 := .mk' (by kernel_rfl)
instance : Zr Tryz.prog 188 [.bool false, .string ⟨#[]⟩, .slice none 0 0] := .mk' (by kernel_rfl)
instance : Fl Tryz.prog 188 0 0 := .mk' (n := 0) (by kernel_rfl)
instance : Fl Tryz.prog 188 1 1 := .mk' (n := 0) (by kernel_rfl)
instance : Fl Tryz.prog 188 2 2 := .mk' (n := 0) (by kernel_rfl)
instance : Stt Tryz.prog 188 [(0, 1), (1, 1), (2, 1)] := .mk' (by kernel_rfl)
-- 194: *prop.reader
instance : Sz Tryz.prog 194 false 1 := .mk' (by kernel_rfl)
instance : Zr Tryz.prog 194 [.pointer none] := .mk' (by kernel_rfl)
-- 195: struct { in int; atoms []atom.Atom; bad bool }
instance : Sz Tryz.prog 195 true 3 := .mk' (by kernel_rfl)
instance : Zr Tryz.prog 195 [.int .i64 0, .slice none 0 0, .bool false] := .mk' (by kernel_rfl)
instance : Fl Tryz.prog 195 0 0 := .mk' (n := 0) (by kernel_rfl)
instance : Fl Tryz.prog 195 1 1 := .mk' (n := 0) (by kernel_rfl)
instance : Fl Tryz.prog 195 2 2 := .mk' (n := 0) (by kernel_rfl)
instance : Stt Tryz.prog 195 [(0, 1), (1, 1), (2, 1)] := .mk' (by kernel_rfl)
-- 196: prop.reader
instance : Sz Tryz.prog 196 true 3 := .mk' (by kernel_rfl)
instance : Zr Tryz.prog 196 [.int .i64 0, .slice none 0 0, .bool false] := .mk' (by kernel_rfl)
instance : Fl Tryz.prog 196 0 0 := .mk' (n := 0) (by kernel_rfl)
instance : Fl Tryz.prog 196 1 1 := .mk' (n := 0) (by kernel_rfl)
instance : Fl Tryz.prog 196 2 2 := .mk' (n := 0) (by kernel_rfl)
instance : Stt Tryz.prog 196 [(0, 1), (1, 1), (2, 1)] := .mk' (by kernel_rfl)
-- 201: []attestref12.Token
instance : Sz Tryz.prog 201 false 1 := .mk' (by kernel_rfl)
instance : Zr Tryz.prog 201 [.slice none 0 0] := .mk' (by kernel_rfl)
instance : Sl Tryz.prog 201 204 3 32 := ⟨.of (by kernel_rfl) (by kernel_rfl)⟩
-- 203: struct { Kind uint8; At int; Word string }
instance : Sz Tryz.prog 203 true 3 := .mk' (by kernel_rfl)
instance : Zr Tryz.prog 203 [.int .u8 0, .int .i64 0, .string ⟨#[]⟩] := .mk' (by kernel_rfl)
instance : Fl Tryz.prog 203 0 0 := .mk' (n := 0) (by kernel_rfl)
instance : Fl Tryz.prog 203 1 1 := .mk' (n := 0) (by kernel_rfl)
instance : Fl Tryz.prog 203 2 2 := .mk' (n := 0) (by kernel_rfl)
instance : Stt Tryz.prog 203 [(0, 1), (1, 1), (2, 1)] := .mk' (by kernel_rfl)
-- 204: attestref12.Token
instance : Sz Tryz.prog 204 true 3 := .mk' (by kernel_rfl)
instance : Zr Tryz.prog 204 [.int .u8 0, .int .i64 0, .string ⟨#[]⟩] := .mk' (by kernel_rfl)
instance : Fl Tryz.prog 204 0 0 := .mk' (n := 0) (by kernel_rfl)
instance : Fl Tryz.prog 204 1 1 := .mk' (n := 0) (by kernel_rfl)
instance : Fl Tryz.prog 204 2 2 := .mk' (n := 0) (by kernel_rfl)
instance : Stt Tryz.prog 204 [(0, 1), (1, 1), (2, 1)] := .mk' (by kernel_rfl)
-- 205: *sexp.reader
instance : Sz Tryz.prog 205 false 1 := .mk' (by kernel_rfl)
instance : Zr Tryz.prog 205 [.pointer none] := .mk' (by kernel_rfl)
-- 206
instance : Sz Tryz.prog 206 true 5 := .mk' (by kernel_rfl)
instance : Zr Tryz.prog 206 [.string ⟨#[]⟩, .int .i64 0, .int .i64 0, .int .i64 0, .int .i64 0] := .mk' (by kernel_rfl)
instance : Fl Tryz.prog 206 0 0 := .mk' (n := 0) (by kernel_rfl)
instance : Fl Tryz.prog 206 1 1 := .mk' (n := 0) (by kernel_rfl)
instance : Fl Tryz.prog 206 2 2 := .mk' (n := 0) (by kernel_rfl)
instance : Fl Tryz.prog 206 3 3 := .mk' (n := 0) (by kernel_rfl)
instance : Fl Tryz.prog 206 4 4 := .mk' (n := 0) (by kernel_rfl)
instance : Stt Tryz.prog 206 [(0, 1), (1, 1), (2, 1), (3, 1), (4, 1)] := .mk' (by kernel_rfl)
-- 207: sexp.reader
instance : Sz Tryz.prog 207 true 5 := .mk' (by kernel_rfl)
instance : Zr Tryz.prog 207 [.string ⟨#[]⟩, .int .i64 0, .int .i64 0, .int .i64 0, .int .i64 0] := .mk' (by kernel_rfl)
instance : Fl Tryz.prog 207 0 0 := .mk' (n := 0) (by kernel_rfl)
instance : Fl Tryz.prog 207 1 1 := .mk' (n := 0) (by kernel_rfl)
instance : Fl Tryz.prog 207 2 2 := .mk' (n := 0) (by kernel_rfl)
instance : Fl Tryz.prog 207 3 3 := .mk' (n := 0) (by kernel_rfl)
instance : Fl Tryz.prog 207 4 4 := .mk' (n := 0) (by kernel_rfl)
instance : Stt Tryz.prog 207 [(0, 1), (1, 1), (2, 1), (3, 1), (4, 1)] := .mk' (by kernel_rfl)
-- 209: struct { Leaf bool; Word string; List []attestref12.S }
instance : Sz Tryz.prog 209 true 3 := .mk' (by kernel_rfl)
instance : Zr Tryz.prog 209 [.bool false, .string ⟨#[]⟩, .slice none 0 0] := .mk' (by kernel_rfl)
instance : Fl Tryz.prog 209 0 0 := .mk' (n := 0) (by kernel_rfl)
instance : Fl Tryz.prog 209 1 1 := .mk' (n := 0) (by kernel_rfl)
instance : Fl Tryz.prog 209 2 2 := .mk' (n := 0) (by kernel_rfl)
instance : Stt Tryz.prog 209 [(0, 1), (1, 1), (2, 1)] := .mk' (by kernel_rfl)
-- 210: attestref12.S
instance : Sz Tryz.prog 210 true 3 := .mk' (by kernel_rfl)
instance : Zr Tryz.prog 210 [.bool false, .string ⟨#[]⟩, .slice none 0 0] := .mk' (by kernel_rfl)
instance : Fl Tryz.prog 210 0 0 := .mk' (n := 0) (by kernel_rfl)
instance : Fl Tryz.prog 210 1 1 := .mk' (n := 0) (by kernel_rfl)
instance : Fl Tryz.prog 210 2 2 := .mk' (n := 0) (by kernel_rfl)
instance : Stt Tryz.prog 210 [(0, 1), (1, 1), (2, 1)] := .mk' (by kernel_rfl)
-- 218: uint64
instance : Sz Tryz.prog 218 false 1 := .mk' (by kernel_rfl)
instance : Zr Tryz.prog 218 [.int .u64 0] := .mk' (by kernel_rfl)
instance : It Tryz.prog 218 .u64 := ⟨by kernel_rfl⟩
-- 229: uint32
instance : Sz Tryz.prog 229 false 1 := .mk' (by kernel_rfl)
instance : Zr Tryz.prog 229 [.int .u32 0] := .mk' (by kernel_rfl)
instance : It Tryz.prog 229 .u32 := ⟨by kernel_rfl⟩
-- 243: []strings.span
instance : Sz Tryz.prog 243 false 1 := .mk' (by kernel_rfl)
instance : Zr Tryz.prog 243 [.slice none 0 0] := .mk' (by kernel_rfl)
instance : Sl Tryz.prog 243 245 2 16 := ⟨.of (by kernel_rfl) (by kernel_rfl)⟩
-- 244: struct { start int; end int }
instance : Sz Tryz.prog 244 true 2 := .mk' (by kernel_rfl)
instance : Zr Tryz.prog 244 [.int .i64 0, .int .i64 0] := .mk' (by kernel_rfl)
instance : Fl Tryz.prog 244 0 0 := .mk' (n := 0) (by kernel_rfl)
instance : Fl Tryz.prog 244 1 1 := .mk' (n := 0) (by kernel_rfl)
instance : Stt Tryz.prog 244 [(0, 1), (1, 1)] := .mk' (by kernel_rfl)
-- 246: *net.Net
instance : Sz Tryz.prog 246 false 1 := .mk' (by kernel_rfl)
instance : Zr Tryz.prog 246 [.pointer none] := .mk' (by kernel_rfl)
-- 247: *net.Layer
instance : Sz Tryz.prog 247 false 1 := .mk' (by kernel_rfl)
instance : Zr Tryz.prog 247 [.pointer none] := .mk' (by kernel_rfl)
-- 250: map[string]int
instance : Sz Tryz.prog 250 false 1 := .mk' (by kernel_rfl)
instance : Zr Tryz.prog 250 [.map none] := .mk' (by kernel_rfl)
-- 270: []uint8
instance : Sz Tryz.prog 270 false 1 := .mk' (by kernel_rfl)
instance : Zr Tryz.prog 270 [.slice none 0 0] := .mk' (by kernel_rfl)
instance : Sl Tryz.prog 270 5 1 1 := ⟨.of (by kernel_rfl) (by kernel_rfl)⟩
-- 287: uint
instance : Sz Tryz.prog 287 false 1 := .mk' (by kernel_rfl)
instance : Zr Tryz.prog 287 [.int .u64 0] := .mk' (by kernel_rfl)
instance : It Tryz.prog 287 .u64 := ⟨by kernel_rfl⟩
-- 316: struct { Var int; Coef attestlaw05.N }
instance : Sz Tryz.prog 316 true 4 := .mk' (by kernel_rfl)
instance : Zr Tryz.prog 316 [.int .i64 0, .bool false, .slice none 0 0, .slice none 0 0] := .mk' (by kernel_rfl)
instance : Fl Tryz.prog 316 0 0 := .mk' (n := 0) (by kernel_rfl)
instance : Fl Tryz.prog 316 1 1 := .mk' (n := 2) (by kernel_rfl)
instance : Stt Tryz.prog 316 [(0, 1), (1, 3)] := .mk' (by kernel_rfl)
-- 317: attestlaw08.T
instance : Sz Tryz.prog 317 true 4 := .mk' (by kernel_rfl)
instance : Zr Tryz.prog 317 [.int .i64 0, .bool false, .slice none 0 0, .slice none 0 0] := .mk' (by kernel_rfl)
instance : Fl Tryz.prog 317 0 0 := .mk' (n := 0) (by kernel_rfl)
instance : Fl Tryz.prog 317 1 1 := .mk' (n := 2) (by kernel_rfl)
instance : Stt Tryz.prog 317 [(0, 1), (1, 3)] := .mk' (by kernel_rfl)
-- 348: *strings.asciiSet
instance : Sz Tryz.prog 348 false 1 := .mk' (by kernel_rfl)
instance : Zr Tryz.prog 348 [.pointer none] := .mk' (by kernel_rfl)
-- 369: *strconv.NumError
instance : Sz Tryz.prog 369 false 1 := .mk' (by kernel_rfl)
instance : Zr Tryz.prog 369 [.pointer none] := .mk' (by kernel_rfl)
-- 375: []attestref08.Expr
instance : Sz Tryz.prog 375 false 1 := .mk' (by kernel_rfl)
instance : Zr Tryz.prog 375 [.slice none 0 0] := .mk' (by kernel_rfl)
instance : Sl Tryz.prog 375 175 4 80 := ⟨.of (by kernel_rfl) (by kernel_rfl)⟩
-- 384: struct { lo uint8; hi uint8 }
instance : Sz Tryz.prog 384 true 2 := .mk' (by kernel_rfl)
instance : Zr Tryz.prog 384 [.int .u8 0, .int .u8 0] := .mk' (by kernel_rfl)
instance : Fl Tryz.prog 384 0 0 := .mk' (n := 0) (by kernel_rfl)
instance : Fl Tryz.prog 384 1 1 := .mk' (n := 0) (by kernel_rfl)
instance : Stt Tryz.prog 384 [(0, 1), (1, 1)] := .mk' (by kernel_rfl)
-- 393: struct { Func string; Num string; Err error }
instance : Sz Tryz.prog 393 true 3 := .mk' (by kernel_rfl)
instance : Zr Tryz.prog 393 [.string ⟨#[]⟩, .string ⟨#[]⟩, .nilIface] := .mk' (by kernel_rfl)
instance : Fl Tryz.prog 393 0 0 := .mk' (n := 0) (by kernel_rfl)
instance : Fl Tryz.prog 393 1 1 := .mk' (n := 0) (by kernel_rfl)
instance : Fl Tryz.prog 393 2 2 := .mk' (n := 0) (by kernel_rfl)
instance : Stt Tryz.prog 393 [(0, 1), (1, 1), (2, 1)] := .mk' (by kernel_rfl)
-- 399: *uint8
instance : Sz Tryz.prog 399 false 1 := .mk' (by kernel_rfl)
instance : Zr Tryz.prog 399 [.pointer none] := .mk' (by kernel_rfl)
-- 400: *errors.errorString
instance : Sz Tryz.prog 400 false 1 := .mk' (by kernel_rfl)
instance : Zr Tryz.prog 400 [.pointer none] := .mk' (by kernel_rfl)
-- 401: struct { s string }
instance : Sz Tryz.prog 401 true 1 := .mk' (by kernel_rfl)
instance : Zr Tryz.prog 401 [.string ⟨#[]⟩] := .mk' (by kernel_rfl)
instance : Fl Tryz.prog 401 0 0 := .mk' (n := 0) (by kernel_rfl)
instance : Stt Tryz.prog 401 [(0, 1)] := .mk' (by kernel_rfl)
-- 406
instance : Sz Tryz.prog 406 true 4 := .mk' (by kernel_rfl)
instance : Zr Tryz.prog 406 [.pointer none, .pointer none, .pointer none, .string ⟨#[]⟩] := .mk' (by kernel_rfl)
instance : Fl Tryz.prog 406 0 0 := .mk' (n := 0) (by kernel_rfl)
instance : Fl Tryz.prog 406 1 1 := .mk' (n := 0) (by kernel_rfl)
instance : Fl Tryz.prog 406 2 2 := .mk' (n := 0) (by kernel_rfl)
instance : Fl Tryz.prog 406 3 3 := .mk' (n := 0) (by kernel_rfl)
instance : Stt Tryz.prog 406 [(0, 1), (1, 1), (2, 1), (3, 1)] := .mk' (by kernel_rfl)
-- 409: struct { _ [0]*runtime.PanicNilError }
instance : Sz Tryz.prog 409 true 0 := .mk' (by kernel_rfl)
instance : Zr Tryz.prog 409 [] := .mk' (by kernel_rfl)
instance : Stt Tryz.prog 409 [(0, 0)] := .mk' (by kernel_rfl)
-- 417
instance : Sz Tryz.prog 417 true 11 := .mk' (by kernel_rfl)
instance : Zr Tryz.prog 417 [.int .u64 0, .int .u64 0, .int .u32 0, .int .u8 0, .int .u8 0, .int .u8 0, .int .u8 0, .nilFunc, .pointer none, .int .i32 0, .int .i32 0] := .mk' (by kernel_rfl)
instance : Fl Tryz.prog 417 0 0 := .mk' (n := 0) (by kernel_rfl)
instance : Fl Tryz.prog 417 1 1 := .mk' (n := 0) (by kernel_rfl)
instance : Fl Tryz.prog 417 2 2 := .mk' (n := 0) (by kernel_rfl)
instance : Fl Tryz.prog 417 3 3 := .mk' (n := 0) (by kernel_rfl)
instance : Fl Tryz.prog 417 4 4 := .mk' (n := 0) (by kernel_rfl)
instance : Fl Tryz.prog 417 5 5 := .mk' (n := 0) (by kernel_rfl)
instance : Fl Tryz.prog 417 6 6 := .mk' (n := 0) (by kernel_rfl)
instance : Fl Tryz.prog 417 8 8 := .mk' (n := 0) (by kernel_rfl)
instance : Fl Tryz.prog 417 9 9 := .mk' (n := 0) (by kernel_rfl)
instance : Fl Tryz.prog 417 10 10 := .mk' (n := 0) (by kernel_rfl)
end Go.Proofs.YthdkkpocihkgbaaGreatDoor
