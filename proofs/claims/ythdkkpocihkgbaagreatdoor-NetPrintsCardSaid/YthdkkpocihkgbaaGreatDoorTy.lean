/-
 Facts of the types: their cells, their fields, their elements, their zero values. Printed by a program off the translation's own table.
-/
import Derived.Test.YthdkkpocihkgbaaGreatDoorK3
import Derived.Test.YthdkkpocihkgbaaGreatDoorRows
namespace Go.Proofs.YthdkkpocihkgbaaGreatDoor
open Go.RowKit
-- 2: int64
instance : Sz Tryz.prog 3 false 1 := .mk' (by kernel_rfl)
instance : It Tryz.prog 3 .i64 := ⟨by kernel_rfl⟩
-- 4: bool
instance : Sz Tryz.prog 4 false 1 := .mk' (by kernel_rfl)
instance : It Tryz.prog 5 .u8 := ⟨by kernel_rfl⟩
-- 7
instance : Sz Tryz.prog 9 false 1 := .mk' (by kernel_rfl)
instance : It Tryz.prog 21 .i32 := ⟨by kernel_rfl⟩
-- 23: []net.Layer
instance : Sz Tryz.prog 23 false 1 := .mk' (by kernel_rfl)
instance : Sl Tryz.prog 23 30 4 80 := ⟨.of (by kernel_rfl) (by kernel_rfl)⟩
-- 24: struct { In int; Layers []net.Layer }
instance : Sz Tryz.prog 25 true 2 := .mk' (by kernel_rfl)
instance : Zr Tryz.prog 25 [.int .i64 0, .slice none 0 0] := .mk' (by kernel_rfl)
instance : Fl Tryz.prog 25 0 0 := .mk' (n := 0) (by kernel_rfl)
instance : Fl Tryz.prog 25 1 1 := .mk' (n := 0) (by kernel_rfl)
instance : Stt Tryz.prog 25 [(0, 1), (1, 1)] := .mk' (by kernel_rfl)
-- 26: [][]rat.Rat
instance : Sz Tryz.prog 26 false 1 := .mk' (by kernel_rfl)
instance : Sl Tryz.prog 26 27 1 24 := ⟨.of (by kernel_rfl) (by kernel_rfl)⟩
-- 27: []rat.Rat
instance : Sz Tryz.prog 27 false 1 := .mk' (by kernel_rfl)
instance : Sl Tryz.prog 27 119 3 56 := ⟨.of (by kernel_rfl) (by kernel_rfl)⟩
-- 28: [][]int
instance : Sz Tryz.prog 28 false 1 := .mk' (by kernel_rfl)
instance : Sl Tryz.prog 28 31 1 24 := ⟨.of (by kernel_rfl) (by kernel_rfl)⟩
-- 29
instance : Sz Tryz.prog 30 true 4 := .mk' (by kernel_rfl)
instance : Zr Tryz.prog 30 [.int .i64 0, .slice none 0 0, .slice none 0 0, .slice none 0 0] := .mk' (by kernel_rfl)
instance : Fl Tryz.prog 30 0 0 := .mk' (n := 0) (by kernel_rfl)
instance : Fl Tryz.prog 30 1 1 := .mk' (n := 0) (by kernel_rfl)
instance : Fl Tryz.prog 30 2 2 := .mk' (n := 0) (by kernel_rfl)
instance : Fl Tryz.prog 30 3 3 := .mk' (n := 0) (by kernel_rfl)
instance : Stt Tryz.prog 30 [(0, 1), (1, 1), (2, 1), (3, 1)] := .mk' (by kernel_rfl)
-- 31: []int
instance : Sz Tryz.prog 31 false 1 := .mk' (by kernel_rfl)
instance : Sl Tryz.prog 31 3 1 8 := ⟨.of (by kernel_rfl) (by kernel_rfl)⟩
-- 32: api.Errno
instance : Sz Tryz.prog 36 false 1 := .mk' (by kernel_rfl)
instance : Sl Tryz.prog 36 126 4 80 := ⟨.of (by kernel_rfl) (by kernel_rfl)⟩
-- 37: struct { In int; Layers []attestlaw15.Layer }
instance : Sz Tryz.prog 38 true 2 := .mk' (by kernel_rfl)
instance : Fl Tryz.prog 38 0 0 := .mk' (n := 0) (by kernel_rfl)
instance : Fl Tryz.prog 38 1 1 := .mk' (n := 0) (by kernel_rfl)
instance : Sz Tryz.prog 42 false 1 := .mk' (by kernel_rfl)
instance : Sl Tryz.prog 42 62 4 80 := ⟨.of (by kernel_rfl) (by kernel_rfl)⟩
-- 43: struct { In int; Layers []attestref15.Layer }
instance : Sz Tryz.prog 44 true 2 := .mk' (by kernel_rfl)
instance : Zr Tryz.prog 44 [.int .i64 0, .slice none 0 0] := .mk' (by kernel_rfl)
instance : Fl Tryz.prog 44 0 0 := .mk' (n := 0) (by kernel_rfl)
instance : Fl Tryz.prog 44 1 1 := .mk' (n := 0) (by kernel_rfl)
instance : Stt Tryz.prog 44 [(0, 1), (1, 1)] := .mk' (by kernel_rfl)
-- 47: []attestlaw05.N
instance : Sz Tryz.prog 47 false 1 := .mk' (by kernel_rfl)
instance : Sl Tryz.prog 47 128 3 56 := ⟨.of (by kernel_rfl) (by kernel_rfl)⟩
-- 57: []attestref05.Rat
instance : Sz Tryz.prog 57 false 1 := .mk' (by kernel_rfl)
instance : Sl Tryz.prog 57 136 3 56 := ⟨.of (by kernel_rfl) (by kernel_rfl)⟩
-- 60: [][]attestref05.Rat
instance : Sz Tryz.prog 60 false 1 := .mk' (by kernel_rfl)
instance : Sl Tryz.prog 60 57 1 24 := ⟨.of (by kernel_rfl) (by kernel_rfl)⟩
-- 61
instance : Sz Tryz.prog 62 true 4 := .mk' (by kernel_rfl)
instance : Zr Tryz.prog 62 [.int .i64 0, .slice none 0 0, .slice none 0 0, .slice none 0 0] := .mk' (by kernel_rfl)
instance : Fl Tryz.prog 62 0 0 := .mk' (n := 0) (by kernel_rfl)
instance : Fl Tryz.prog 62 1 1 := .mk' (n := 0) (by kernel_rfl)
instance : Fl Tryz.prog 62 2 2 := .mk' (n := 0) (by kernel_rfl)
instance : Fl Tryz.prog 62 3 3 := .mk' (n := 0) (by kernel_rfl)
instance : Stt Tryz.prog 62 [(0, 1), (1, 1), (2, 1), (3, 1)] := .mk' (by kernel_rfl)
-- 72: [][2]attestlaw05.N
instance : Sz Tryz.prog 117 false 1 := .mk' (by kernel_rfl)
instance : Sl Tryz.prog 117 229 1 4 := ⟨.of (by kernel_rfl) (by kernel_rfl)⟩
-- 118: struct { neg bool; num []uint32; den []uint32 }
instance : Sz Tryz.prog 119 true 3 := .mk' (by kernel_rfl)
instance : Zr Tryz.prog 119 [.bool false, .slice none 0 0, .slice none 0 0] := .mk' (by kernel_rfl)
instance : Fl Tryz.prog 119 2 2 := .mk' (n := 0) (by kernel_rfl)
instance : Stt Tryz.prog 119 [(0, 1), (1, 1), (2, 1)] := .mk' (by kernel_rfl)
-- 124: [][]attestlaw05.N
instance : Sz Tryz.prog 124 false 1 := .mk' (by kernel_rfl)
instance : Sl Tryz.prog 124 47 1 24 := ⟨.of (by kernel_rfl) (by kernel_rfl)⟩
-- 125
instance : Sz Tryz.prog 126 true 4 := .mk' (by kernel_rfl)
instance : Zr Tryz.prog 126 [.int .i64 0, .slice none 0 0, .slice none 0 0, .slice none 0 0] := .mk' (by kernel_rfl)
instance : Fl Tryz.prog 126 0 0 := .mk' (n := 0) (by kernel_rfl)
instance : Fl Tryz.prog 126 1 1 := .mk' (n := 0) (by kernel_rfl)
instance : Fl Tryz.prog 126 2 2 := .mk' (n := 0) (by kernel_rfl)
instance : Fl Tryz.prog 126 3 3 := .mk' (n := 0) (by kernel_rfl)
instance : Sz Tryz.prog 128 true 3 := .mk' (by kernel_rfl)
instance : Fl Tryz.prog 128 0 0 := .mk' (n := 0) (by kernel_rfl)
instance : Fl Tryz.prog 128 1 1 := .mk' (n := 0) (by kernel_rfl)
instance : Fl Tryz.prog 128 2 2 := .mk' (n := 0) (by kernel_rfl)
instance : Sz Tryz.prog 134 false 1 := .mk' (by kernel_rfl)
instance : Sl Tryz.prog 134 4 1 1 := ⟨.of (by kernel_rfl) (by kernel_rfl)⟩
-- 135: struct { Neg bool; Num []bool; Den []bool }
instance : Sz Tryz.prog 136 true 3 := .mk' (by kernel_rfl)
instance : Zr Tryz.prog 136 [.bool false, .slice none 0 0, .slice none 0 0] := .mk' (by kernel_rfl)
instance : Fl Tryz.prog 136 0 0 := .mk' (n := 0) (by kernel_rfl)
instance : Fl Tryz.prog 136 1 1 := .mk' (n := 0) (by kernel_rfl)
instance : Fl Tryz.prog 136 2 2 := .mk' (n := 0) (by kernel_rfl)
instance : Sl Tryz.prog 141 9 1 16 := ⟨.of (by kernel_rfl) (by kernel_rfl)⟩
-- 151: struct { Lo rat.Rat; Hi rat.Rat }
instance : It Tryz.prog 218 .u64 := ⟨by kernel_rfl⟩
-- 229: uint32
instance : Sz Tryz.prog 229 false 1 := .mk' (by kernel_rfl)
instance : It Tryz.prog 229 .u32 := ⟨by kernel_rfl⟩
-- 243: []strings.span
instance : Sl Tryz.prog 270 5 1 1 := ⟨.of (by kernel_rfl) (by kernel_rfl)⟩
-- 287: uint
end Go.Proofs.YthdkkpocihkgbaaGreatDoor
