import Derived.Shelf.Strings.Trim
import Derived.Shelf.Strings.SlTrimAscii
import Derived.Shelf.Strconv.Atoi
import Derived.Shelf.Strings.Cut
import Derived.Shelf.Strings.Prefix
import Derived.Shelf.Strings.Split
import Derived.Shelf.Strings.FieldsFuncAny
import Derived.Shelf.Strings.FieldsFuncGrows
import Derived.Lib.AtoiErrMem
import Derived.Test.YtbbpecfapohlaaaGreatDoorProg
namespace Go.Proofs
open Go.Shelf
def Tryz.lays145_ren : Go.Shelf.Ren := ⟨fun | 145 => 177 | 220 => 231 | 219 => 270 | 217 => 299 | 225 => 300 | 224 => 301 | 267 => 302 | 266 => 315 | 314 => 316 | n => n, fun | 9 => 9 | 4 => 4 | 59 => 267 | 3 => 3 | 5 => 5 | 46 => 301 | 146 => 402 | 51 => 225 | n => n, fun | 1 => 1 | n => n⟩
theorem Tryz.lays145 : Go.Proofs.Lays.n145 Tryz.prog Tryz.lays145_ren := {
  mixed := by kernel_rfl
  f145 := Tryz.func177.trans (congrArg some (by kernel_rfl))
  f217 := Tryz.func299.trans (congrArg some (by kernel_rfl))
  f219 := Tryz.func270.trans (congrArg some (by kernel_rfl))
  f220 := Tryz.func231.trans (congrArg some (by kernel_rfl))
  f224 := Tryz.func301.trans (congrArg some (by kernel_rfl))
  f225 := Tryz.func300.trans (congrArg some (by kernel_rfl))
  f266 := Tryz.func315.trans (congrArg some (by kernel_rfl))
  f267 := Tryz.func302.trans (congrArg some (by kernel_rfl))
  f314 := Tryz.func316.trans (congrArg some (by kernel_rfl))
  t3 := Tryz.underlying3
  a3 := Tryz.isAgg3
  z3 := Tryz.sizeOf3
  v3 := Tryz.zeroValue3
  t4 := Tryz.underlying4
  a4 := Tryz.isAgg4
  z4 := Tryz.sizeOf4
  v4 := Tryz.zeroValue4
  t5 := Tryz.underlying5
  a5 := Tryz.isAgg5
  z5 := Tryz.sizeOf5
  v5 := Tryz.zeroValue5
  t9 := Tryz.underlying9
  a9 := Tryz.isAgg9
  z9 := Tryz.sizeOf9
  v9 := Tryz.zeroValue9
  t46 := Tryz.underlying301
  a46 := Tryz.isAgg301
  z46 := Tryz.sizeOf301
  v46 := Tryz.zeroValue301
  t51 := Tryz.underlying225
  a51 := Tryz.isAgg225
  z51 := Tryz.sizeOf225
  v51 := Tryz.zeroValue225
  t59 := Tryz.underlying267
  a59 := Tryz.isAgg267
  z59 := Tryz.sizeOf267
  v59 := Tryz.zeroValue267
  t146 := Tryz.underlying402
  a146 := Tryz.isAgg402
  z146 := Tryz.sizeOf402
  v146 := Tryz.zeroValue402
  g1 := by kernel_rfl }
open Go.RowKit Go.Lib in
/-- strings.Cut: "Cut slices s around the first instance of sep, returning the text before and after sep. The found result reports whether sep appears in s. If sep does not appear in s, cut returns s, "", false.": IT RETURNS 'Lib.cut s sep'; the world is as it was but for the count of draws. (LAID: no walk: one application.) -/
theorem Tryz.strings_Cut (s sep : ByteArray) (m : Int) (w : World) (hs : s.size < 4294967281) (hm : w.cell? ⟨1, 0, none⟩ = some (.int .i64 m)) :
    Calls Tryz.prog 177 #[.string s, .string sep] w fun e w' => e = .returned (.tuple #[.string ⟨(Lib.cut s.data.toList sep.data.toList).1.toArray⟩, .string ⟨(Lib.cut s.data.toList sep.data.toList).2.1.toArray⟩, .bool (Lib.cut s.data.toList sep.data.toList).2.2]) ∧ ∃ n, w' = w.drewN n := Any.strings_Cut Tryz.lays145 s sep m w hs hm
def Tryz.lays101_ren : Go.Shelf.Ren := ⟨fun | 101 => 178 | 208 => 232 | 206 => 271 | n => n, fun | 9 => 9 | 4 => 4 | 3 => 3 | n => n, fun | n => n⟩
theorem Tryz.lays101 : Go.Proofs.Lays.n101 Tryz.prog Tryz.lays101_ren := {
  mixed := by kernel_rfl
  f101 := Tryz.func178.trans (congrArg some (by kernel_rfl))
  f206 := Tryz.func271.trans (congrArg some (by kernel_rfl))
  f208 := Tryz.func232.trans (congrArg some (by kernel_rfl))
  t3 := Tryz.underlying3
  a3 := Tryz.isAgg3
  z3 := Tryz.sizeOf3
  v3 := Tryz.zeroValue3
  t4 := Tryz.underlying4
  a4 := Tryz.isAgg4
  z4 := Tryz.sizeOf4
  v4 := Tryz.zeroValue4
  t9 := Tryz.underlying9
  a9 := Tryz.isAgg9
  z9 := Tryz.sizeOf9
  v9 := Tryz.zeroValue9 }
open Go.RowKit Go.Lib in
/-- strings.TrimPrefix: "TrimPrefix returns s without the provided leading prefix string. If s doesn't start with prefix, s is returned unchanged.": IT RETURNS 'Lib.trimPrefix s prefix'; the world is as it was. (LAID: no walk: one application.) -/
theorem Tryz.strings_TrimPrefix (s p : ByteArray) (w : World) :
    Calls Tryz.prog 178 #[.string s, .string p] w fun e w' => e = .returned (.string ⟨(Lib.trimPrefix s.data.toList p.data.toList).toArray⟩) ∧ w' = w := Any.strings_TrimPrefix Tryz.lays101 s p w
end Go.Proofs
