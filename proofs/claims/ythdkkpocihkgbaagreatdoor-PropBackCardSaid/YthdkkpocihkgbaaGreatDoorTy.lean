import Derived.Test.YthdkkpocihkgbaaGreatDoorK3
import Derived.Test.YthdkkpocihkgbaaGreatDoorRows
namespace Go.Proofs.YthdkkpocihkgbaaGreatDoor
open Go.RowKit
instance:Sz Tryz.prog 3 false 1:= .mk' (by kernel_rfl)
instance:It Tryz.prog 3 .i64:=⟨by kernel_rfl⟩
instance:Sz Tryz.prog 4 false 1:= .mk' (by kernel_rfl)
instance:Zr Tryz.prog 4 [.bool false]:= .mk' (by kernel_rfl)
instance:It Tryz.prog 5 .u8:=⟨by kernel_rfl⟩
instance:Sz Tryz.prog 9 false 1:= .mk' (by kernel_rfl)
instance:It Tryz.prog 21 .i32:=⟨by kernel_rfl⟩
instance:Sl Tryz.prog 27 119 3 56:=⟨.of (by kernel_rfl) (by kernel_rfl)⟩
instance:Sz Tryz.prog 32 false 1:= .mk' (by kernel_rfl)
instance:Sl Tryz.prog 47 128 3 56:=⟨.of (by kernel_rfl) (by kernel_rfl)⟩
instance:Sl Tryz.prog 57 136 3 56:=⟨.of (by kernel_rfl) (by kernel_rfl)⟩
instance:Sz Tryz.prog 72 false 1:= .mk' (by kernel_rfl)
instance:Sl Tryz.prog 72 163 6 112:=⟨.of (by kernel_rfl) (by kernel_rfl)⟩
instance:Sz Tryz.prog 73 false 1:= .mk' (by kernel_rfl)
instance:Sl Tryz.prog 73 169 5 88:=⟨.of (by kernel_rfl) (by kernel_rfl)⟩
instance:Sz Tryz.prog 74 false 1:= .mk' (by kernel_rfl)
instance:Sl Tryz.prog 74 76 3 40:=⟨.of (by kernel_rfl) (by kernel_rfl)⟩
instance:Sz Tryz.prog 76 true 3:= .mk' (by kernel_rfl)
instance:Zr Tryz.prog 76 [.int .i64 0,.int .i64 0,.slice none 0 0]:= .mk' (by kernel_rfl)
instance:Fl Tryz.prog 76 0 0:= .mk' (n:=0) (by kernel_rfl)
instance:Fl Tryz.prog 76 1 1:= .mk' (n:=0) (by kernel_rfl)
instance:Fl Tryz.prog 76 2 2:= .mk' (n:=0) (by kernel_rfl)
instance:Stt Tryz.prog 76 [(0,1),(1,1),(2,1)]:= .mk' (by kernel_rfl)
instance:Sz Tryz.prog 78 true 5:= .mk' (by kernel_rfl)
instance:Fl Tryz.prog 78 0 0:= .mk' (n:=0) (by kernel_rfl)
instance:Fl Tryz.prog 78 1 1:= .mk' (n:=0) (by kernel_rfl)
instance:Fl Tryz.prog 78 2 2:= .mk' (n:=2) (by kernel_rfl)
instance:Sz Tryz.prog 80 false 1:= .mk' (by kernel_rfl)
instance:Sl Tryz.prog 80 152 6 112:=⟨.of (by kernel_rfl) (by kernel_rfl)⟩
instance:Sz Tryz.prog 81 false 1:= .mk' (by kernel_rfl)
instance:Sl Tryz.prog 81 157 5 88:=⟨.of (by kernel_rfl) (by kernel_rfl)⟩
instance:Sz Tryz.prog 83 true 5:= .mk' (by kernel_rfl)
instance:Zr Tryz.prog 83 [.slice none 0 0,.slice none 0 0,.int .i64 0,.int .i64 0,.slice none 0 0]:= .mk' (by kernel_rfl)
instance:Fl Tryz.prog 83 0 0:= .mk' (n:=0) (by kernel_rfl)
instance:Fl Tryz.prog 83 1 1:= .mk' (n:=0) (by kernel_rfl)
instance:Fl Tryz.prog 83 2 2:= .mk' (n:=2) (by kernel_rfl)
instance:Stt Tryz.prog 83 [(0,1),(1,1),(2,3)]:= .mk' (by kernel_rfl)
instance:Sz Tryz.prog 86 false 1:= .mk' (by kernel_rfl)
instance:Sl Tryz.prog 86 172 6 112:=⟨.of (by kernel_rfl) (by kernel_rfl)⟩
instance:Sz Tryz.prog 87 false 1:= .mk' (by kernel_rfl)
instance:Sl Tryz.prog 87 177 5 88:=⟨.of (by kernel_rfl) (by kernel_rfl)⟩
instance:Sz Tryz.prog 88 false 1:= .mk' (by kernel_rfl)
instance:Sl Tryz.prog 88 90 3 40:=⟨.of (by kernel_rfl) (by kernel_rfl)⟩
instance:Sz Tryz.prog 90 true 3:= .mk' (by kernel_rfl)
instance:Zr Tryz.prog 90 [.int .i64 0,.int .i64 0,.slice none 0 0]:= .mk' (by kernel_rfl)
instance:Fl Tryz.prog 90 0 0:= .mk' (n:=0) (by kernel_rfl)
instance:Fl Tryz.prog 90 1 1:= .mk' (n:=0) (by kernel_rfl)
instance:Fl Tryz.prog 90 2 2:= .mk' (n:=0) (by kernel_rfl)
instance:Stt Tryz.prog 90 [(0,1),(1,1),(2,1)]:= .mk' (by kernel_rfl)
instance:Sz Tryz.prog 92 true 5:= .mk' (by kernel_rfl)
instance:Zr Tryz.prog 92 [.slice none 0 0,.slice none 0 0,.int .i64 0,.int .i64 0,.slice none 0 0]:= .mk' (by kernel_rfl)
instance:Fl Tryz.prog 92 0 0:= .mk' (n:=0) (by kernel_rfl)
instance:Fl Tryz.prog 92 1 1:= .mk' (n:=0) (by kernel_rfl)
instance:Fl Tryz.prog 92 2 2:= .mk' (n:=2) (by kernel_rfl)
instance:Stt Tryz.prog 92 [(0,1),(1,1),(2,3)]:= .mk' (by kernel_rfl)
instance:Sz Tryz.prog 108 false 1:= .mk' (by kernel_rfl)
instance:Sl Tryz.prog 108 188 3 48:=⟨.of (by kernel_rfl) (by kernel_rfl)⟩
instance:Sz Tryz.prog 117 false 1:= .mk' (by kernel_rfl)
instance:Sl Tryz.prog 117 229 1 4:=⟨.of (by kernel_rfl) (by kernel_rfl)⟩
instance:Sz Tryz.prog 119 true 3:= .mk' (by kernel_rfl)
instance:Zr Tryz.prog 119 [.bool false,.slice none 0 0,.slice none 0 0]:= .mk' (by kernel_rfl)
instance:Fl Tryz.prog 119 2 2:= .mk' (n:=0) (by kernel_rfl)
instance:Stt Tryz.prog 119 [(0,1),(1,1),(2,1)]:= .mk' (by kernel_rfl)
instance:Sz Tryz.prog 128 true 3:= .mk' (by kernel_rfl)
instance:Fl Tryz.prog 128 0 0:= .mk' (n:=0) (by kernel_rfl)
instance:Fl Tryz.prog 128 1 1:= .mk' (n:=0) (by kernel_rfl)
instance:Fl Tryz.prog 128 2 2:= .mk' (n:=0) (by kernel_rfl)
instance:Sz Tryz.prog 134 false 1:= .mk' (by kernel_rfl)
instance:Sl Tryz.prog 134 4 1 1:=⟨.of (by kernel_rfl) (by kernel_rfl)⟩
instance:Sz Tryz.prog 136 true 3:= .mk' (by kernel_rfl)
instance:Zr Tryz.prog 136 [.bool false,.slice none 0 0,.slice none 0 0]:= .mk' (by kernel_rfl)
instance:Sl Tryz.prog 141 9 1 16:=⟨.of (by kernel_rfl) (by kernel_rfl)⟩
instance:Sz Tryz.prog 152 true 6:= .mk' (by kernel_rfl)
instance:Zr Tryz.prog 152 [.bool false,.slice none 0 0,.slice none 0 0,.bool false,.slice none 0 0,.slice none 0 0]:= .mk' (by kernel_rfl)
instance:Fl Tryz.prog 152 0 0:= .mk' (n:=2) (by kernel_rfl)
instance:Fl Tryz.prog 152 1 3:= .mk' (n:=2) (by kernel_rfl)
instance:Stt Tryz.prog 152 [(0,3),(3,3)]:= .mk' (by kernel_rfl)
instance:Sz Tryz.prog 153 false 1:= .mk' (by kernel_rfl)
instance:Sl Tryz.prog 153 161 4 64:=⟨.of (by kernel_rfl) (by kernel_rfl)⟩
instance:Sz Tryz.prog 155 true 4:= .mk' (by kernel_rfl)
instance:Zr Tryz.prog 155 [.slice none 0 0,.bool false,.slice none 0 0,.slice none 0 0]:= .mk' (by kernel_rfl)
instance:Fl Tryz.prog 155 0 0:= .mk' (n:=0) (by kernel_rfl)
instance:Fl Tryz.prog 155 1 1:= .mk' (n:=2) (by kernel_rfl)
instance:Stt Tryz.prog 155 [(0,1),(1,3)]:= .mk' (by kernel_rfl)
instance:Sz Tryz.prog 157 true 5:= .mk' (by kernel_rfl)
instance:Zr Tryz.prog 157 [.slice none 0 0,.bool false,.slice none 0 0,.slice none 0 0,.int .i64 0]:= .mk' (by kernel_rfl)
instance:Fl Tryz.prog 157 0 0:= .mk' (n:=3) (by kernel_rfl)
instance:Fl Tryz.prog 157 1 4:= .mk' (n:=0) (by kernel_rfl)
instance:Stt Tryz.prog 157 [(0,4),(4,1)]:= .mk' (by kernel_rfl)
instance:Sz Tryz.prog 161 true 4:= .mk' (by kernel_rfl)
instance:Zr Tryz.prog 161 [.int .i64 0,.bool false,.slice none 0 0,.slice none 0 0]:= .mk' (by kernel_rfl)
instance:Fl Tryz.prog 161 0 0:= .mk' (n:=0) (by kernel_rfl)
instance:Fl Tryz.prog 161 1 1:= .mk' (n:=2) (by kernel_rfl)
instance:Stt Tryz.prog 161 [(0,1),(1,3)]:= .mk' (by kernel_rfl)
instance:Sz Tryz.prog 165 false 1:= .mk' (by kernel_rfl)
instance:Sl Tryz.prog 165 317 4 64:=⟨.of (by kernel_rfl) (by kernel_rfl)⟩
instance:Sz Tryz.prog 167 true 4:= .mk' (by kernel_rfl)
instance:Fl Tryz.prog 167 0 0:= .mk' (n:=0) (by kernel_rfl)
instance:Fl Tryz.prog 167 1 1:= .mk' (n:=2) (by kernel_rfl)
instance:Sz Tryz.prog 169 true 5:= .mk' (by kernel_rfl)
instance:Fl Tryz.prog 169 0 0:= .mk' (n:=3) (by kernel_rfl)
instance:Fl Tryz.prog 169 1 4:= .mk' (n:=0) (by kernel_rfl)
instance:Sz Tryz.prog 172 true 6:= .mk' (by kernel_rfl)
instance:Zr Tryz.prog 172 [.bool false,.slice none 0 0,.slice none 0 0,.bool false,.slice none 0 0,.slice none 0 0]:= .mk' (by kernel_rfl)
instance:Fl Tryz.prog 172 0 0:= .mk' (n:=2) (by kernel_rfl)
instance:Fl Tryz.prog 172 1 3:= .mk' (n:=2) (by kernel_rfl)
instance:Stt Tryz.prog 172 [(0,3),(3,3)]:= .mk' (by kernel_rfl)
instance:Sz Tryz.prog 173 false 1:= .mk' (by kernel_rfl)
instance:Sl Tryz.prog 173 179 4 64:=⟨.of (by kernel_rfl) (by kernel_rfl)⟩
instance:Sz Tryz.prog 175 true 4:= .mk' (by kernel_rfl)
instance:Zr Tryz.prog 175 [.slice none 0 0,.bool false,.slice none 0 0,.slice none 0 0]:= .mk' (by kernel_rfl)
instance:Fl Tryz.prog 175 0 0:= .mk' (n:=0) (by kernel_rfl)
instance:Fl Tryz.prog 175 1 1:= .mk' (n:=2) (by kernel_rfl)
instance:Stt Tryz.prog 175 [(0,1),(1,3)]:= .mk' (by kernel_rfl)
instance:Sz Tryz.prog 177 true 5:= .mk' (by kernel_rfl)
instance:Zr Tryz.prog 177 [.slice none 0 0,.bool false,.slice none 0 0,.slice none 0 0,.int .i64 0]:= .mk' (by kernel_rfl)
instance:Fl Tryz.prog 177 0 0:= .mk' (n:=3) (by kernel_rfl)
instance:Fl Tryz.prog 177 1 4:= .mk' (n:=0) (by kernel_rfl)
instance:Stt Tryz.prog 177 [(0,4),(4,1)]:= .mk' (by kernel_rfl)
instance:Sz Tryz.prog 179 true 4:= .mk' (by kernel_rfl)
instance:Zr Tryz.prog 179 [.int .i64 0,.bool false,.slice none 0 0,.slice none 0 0]:= .mk' (by kernel_rfl)
instance:Fl Tryz.prog 179 0 0:= .mk' (n:=0) (by kernel_rfl)
instance:Fl Tryz.prog 179 1 1:= .mk' (n:=2) (by kernel_rfl)
instance:Stt Tryz.prog 179 [(0,1),(1,3)]:= .mk' (by kernel_rfl)
instance:Sz Tryz.prog 188 true 3:= .mk' (by kernel_rfl)
instance:Zr Tryz.prog 188 [.bool false,.string ⟨#[]⟩,.slice none 0 0]:= .mk' (by kernel_rfl)
instance:Fl Tryz.prog 188 0 0:= .mk' (n:=0) (by kernel_rfl)
instance:Fl Tryz.prog 188 1 1:= .mk' (n:=0) (by kernel_rfl)
instance:Fl Tryz.prog 188 2 2:= .mk' (n:=0) (by kernel_rfl)
instance:Stt Tryz.prog 188 [(0,1),(1,1),(2,1)]:= .mk' (by kernel_rfl)
instance:Zr Tryz.prog 196 [.int .i64 0,.slice none 0 0,.bool false]:= .mk' (by kernel_rfl)
instance:Fl Tryz.prog 196 0 0:= .mk' (n:=0) (by kernel_rfl)
instance:Fl Tryz.prog 196 1 1:= .mk' (n:=0) (by kernel_rfl)
instance:Fl Tryz.prog 196 2 2:= .mk' (n:=0) (by kernel_rfl)
instance:Stt Tryz.prog 196 [(0,1),(1,1),(2,1)]:= .mk' (by kernel_rfl)
instance:Zr Tryz.prog 207 [.string ⟨#[]⟩,.int .i64 0,.int .i64 0,.int .i64 0,.int .i64 0]:= .mk' (by kernel_rfl)
instance:Fl Tryz.prog 207 0 0:= .mk' (n:=0) (by kernel_rfl)
instance:Fl Tryz.prog 207 1 1:= .mk' (n:=0) (by kernel_rfl)
instance:Fl Tryz.prog 207 2 2:= .mk' (n:=0) (by kernel_rfl)
instance:Fl Tryz.prog 207 3 3:= .mk' (n:=0) (by kernel_rfl)
instance:Fl Tryz.prog 207 4 4:= .mk' (n:=0) (by kernel_rfl)
instance:Stt Tryz.prog 207 [(0,1),(1,1),(2,1),(3,1),(4,1)]:= .mk' (by kernel_rfl)
instance:It Tryz.prog 218 .u64:=⟨by kernel_rfl⟩
instance:Sz Tryz.prog 229 false 1:= .mk' (by kernel_rfl)
instance:It Tryz.prog 229 .u32:=⟨by kernel_rfl⟩
instance:Sl Tryz.prog 270 5 1 1:=⟨.of (by kernel_rfl) (by kernel_rfl)⟩
instance:It Tryz.prog 287 .u64:=⟨by kernel_rfl⟩
instance:Fl Tryz.prog 317 0 0:= .mk' (n:=0) (by kernel_rfl)
instance:Fl Tryz.prog 317 1 1:= .mk' (n:=2) (by kernel_rfl)
end Go.Proofs.YthdkkpocihkgbaaGreatDoor
