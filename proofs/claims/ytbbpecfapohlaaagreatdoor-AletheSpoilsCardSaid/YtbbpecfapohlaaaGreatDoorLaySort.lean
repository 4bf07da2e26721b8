import Derived.Shelf.SlSortCmp.NoneTotal
import Derived.Shelf.SlicesG.CompactI
import Derived.Test.YtbbpecfapohlaaaGreatDoorOpenD
import Derived.Test.YtbbpecfapohlaaaGreatDoorCmpB
import Derived.Test.YtbbpecfapohlaaaGreatDoorProg
namespace Go.Proofs.YtbbpecfapohlaaaGreatDoor
open Go.RowKit
section
variable {H : Type} {enc : TypeId × Value → H} {W : World}
theorem rU32 {ds : List D} (h : QInt .u32 ds) : QOf (fun c : Nat => [.v (encU c)]) (fun c => c < 4294967296) ds := by
  obtain ⟨n, rfl, h1, h2⟩ := h
  simp [IntKind.min, IntKind.max, IntKind.signed, IntKind.bits] at h1 h2
  exact ⟨n.toNat, by unfold encU; simp only; rw [Int.toNat_of_nonneg h1], by omega⟩
theorem rN {ds : List D} (h : QAll [QBool, QList (QInt .u32), QList (QInt .u32)] ds) : QOf enN okN ds := by
  obtain ⟨a, b, c, rfl, ⟨n, rfl⟩, hb, hc⟩ := h.three
  obtain ⟨l, rfl, hl, _⟩ := QList.of (fun _ => rU32) hb
  obtain ⟨m, rfl, hm, _⟩ := QList.of (fun _ => rU32) hc
  exact ⟨(n, l, m), rfl, hl, hm⟩
theorem rodI (m : Nat) : OD enc Tryz.prog W m 3 (QInt .i64) := OD.int (by kernel_rfl) m
theorem rodUs (m : Nat) : OD enc Tryz.prog W m 102 (QList (QInt .u32)) := by
  cases m with
  | zero => intro n hn; omega
  | succ m => exact OD.slice (e := 225) (by kernel_rfl) (k := 0) (by kernel_rfl) (OD.int (by kernel_rfl) m)
theorem rodIs (m : Nat) : OD enc Tryz.prog W m 55 (QList (QInt .i64)) := by
  cases m with
  | zero => intro n hn; omega
  | succ m => exact OD.slice (by kernel_rfl) (k := 0) (by kernel_rfl) (rodI m)
theorem rodN (m : Nat) : OD enc Tryz.prog W m 112 (QOf enN okN) := by
  cases m with
  | zero => intro n hn; omega
  | succ m => exact (OD.fields (l := [(4, 0), (102, 1), (102, 2)]) (Qs := [QBool, QList (QInt .u32), QList (QInt .u32)]) (by kernel_rfl) (by kernel_rfl) ⟨OD.bool (by kernel_rfl) m, rodUs m, rodUs m, trivial⟩).imp fun _ => rN
theorem rodNs (m : Nat) : OD enc Tryz.prog W m 48 (QList (QOf enN okN)) := by
  cases m with
  | zero => intro n hn; omega
  | succ m => exact OD.slice (by kernel_rfl) (k := 2) (by kernel_rfl) (rodN m)
end
end Go.Proofs.YtbbpecfapohlaaaGreatDoor
namespace Go.Proofs
open Go.Shelf
def Tryz.sortInt_ren : Go.Shelf.Ren := ⟨fun | 6 => 173 | 14 => 229 | 15 => 230 | 20 => 260 | 21 => 261 | 22 => 262 | 23 => 263 | 24 => 264 | 25 => 265 | 26 => 266 | 27 => 267 | 28 => 268 | 29 => 269 | 46 => 294 | 47 => 295 | 48 => 296 | 49 => 297 | 50 => 298 | 57 => 314 | n => n, fun | 0 => 0 | 3 => 3 | 4 => 4 | 5 => 5 | 9 => 9 | 22 => 55 | 24 => 3 | 25 => 266 | 39 => 301 | 45 => 348 | 46 => 349 | 50 => 184 | 53 => 225 | 55 => 218 | 66 => 382 | 70 => 386 | 76 => 400 | 77 => 38 | n => n, fun | n => n⟩
theorem Tryz.sortInt : Go.Proofs.SlLaysF.n6 Tryz.prog Tryz.sortInt_ren := {
  mixed := by kernel_rfl
  f6 := ⟨(Tryz.f173).name, by kernel_rfl, Tryz.func173.trans (congrArg some (by kernel_rfl))⟩
  f14 := ⟨(Tryz.f229).name, by kernel_rfl, Tryz.func229.trans (congrArg some (by kernel_rfl))⟩
  f15 := Tryz.func230.trans (congrArg some (by kernel_rfl))
  f20 := ⟨(Tryz.f260).name, by kernel_rfl, Tryz.func260.trans (congrArg some (by kernel_rfl))⟩
  f21 := ⟨(Tryz.f261).name, by kernel_rfl, Tryz.func261.trans (congrArg some (by kernel_rfl))⟩
  f22 := ⟨(Tryz.f262).name, by kernel_rfl, Tryz.func262.trans (congrArg some (by kernel_rfl))⟩
  f23 := ⟨(Tryz.f263).name, by kernel_rfl, Tryz.func263.trans (congrArg some (by kernel_rfl))⟩
  f24 := ⟨(Tryz.f264).name, by kernel_rfl, Tryz.func264.trans (congrArg some (by kernel_rfl))⟩
  f25 := ⟨(Tryz.f265).name, by kernel_rfl, Tryz.func265.trans (congrArg some (by kernel_rfl))⟩
  f26 := ⟨(Tryz.f266).name, by kernel_rfl, Tryz.func266.trans (congrArg some (by kernel_rfl))⟩
  f27 := ⟨(Tryz.f267).name, by kernel_rfl, Tryz.func267.trans (congrArg some (by kernel_rfl))⟩
  f28 := Tryz.func268.trans (congrArg some (by kernel_rfl))
  f29 := Tryz.func269.trans (congrArg some (by kernel_rfl))
  f46 := ⟨(Tryz.f294).name, by kernel_rfl, Tryz.func294.trans (congrArg some (by kernel_rfl))⟩
  f47 := Tryz.func295.trans (congrArg some (by kernel_rfl))
  f48 := Tryz.func296.trans (congrArg some (by kernel_rfl))
  f49 := ⟨(Tryz.f297).name, by kernel_rfl, Tryz.func297.trans (congrArg some (by kernel_rfl))⟩
  f50 := ⟨(Tryz.f298).name, by kernel_rfl, Tryz.func298.trans (congrArg some (by kernel_rfl))⟩
  f57 := ⟨(Tryz.f314).name, by kernel_rfl, Tryz.func314.trans (congrArg some (by kernel_rfl))⟩
  t0 := Tryz.underlying0
  a0 := Tryz.isAgg0
  z0 := Tryz.sizeOf0
  v0 := Tryz.zeroValue0
  t3 := Tryz.underlying3
  a3 := Tryz.isAgg3
  z3 := Tryz.sizeOf3
  v3 := Tryz.zeroValue3
  t4 := Tryz.underlying4
  a4 := Tryz.isAgg4
  z4 := Tryz.sizeOf4
  v4 := Tryz.zeroValue4
  t5 := Tryz.underlying5
  a5 := Tryz.isAgg5
  z5 := Tryz.sizeOf5
  v5 := Tryz.zeroValue5
  t9 := Tryz.underlying9
  a9 := Tryz.isAgg9
  z9 := Tryz.sizeOf9
  v9 := Tryz.zeroValue9
  t22 := Tryz.underlying55
  a22 := Tryz.isAgg55
  z22 := Tryz.sizeOf55
  v22 := Tryz.zeroValue55
  a24 := Tryz.isAgg3
  z24 := Tryz.sizeOf3
  t25 := Tryz.underlying266
  a25 := Tryz.isAgg266
  z25 := Tryz.sizeOf266
  v25 := Tryz.zeroValue266
  t39 := Tryz.underlying301
  a39 := Tryz.isAgg301
  z39 := Tryz.sizeOf301
  v39 := Tryz.zeroValue301
  t45 := Tryz.underlying348
  a45 := Tryz.isAgg348
  z45 := Tryz.sizeOf348
  v45 := Tryz.zeroValue348
  t46 := Tryz.underlying349
  a46 := Tryz.isAgg349
  z46 := Tryz.sizeOf349
  v46 := Tryz.zeroValue349
  t50 := Tryz.underlying184
  a50 := Tryz.isAgg184
  z50 := Tryz.sizeOf184
  v50 := Tryz.zeroValue184
  t53 := Tryz.underlying225
  a53 := Tryz.isAgg225
  z53 := Tryz.sizeOf225
  v53 := Tryz.zeroValue225
  t55 := Tryz.underlying218
  a55 := Tryz.isAgg218
  z55 := Tryz.sizeOf218
  v55 := Tryz.zeroValue218
  t66 := Tryz.underlying382
  a66 := Tryz.isAgg382
  z66 := Tryz.sizeOf382
  v66 := Tryz.zeroValue382
  t70 := Tryz.underlying386
  a70 := Tryz.isAgg386
  z70 := Tryz.sizeOf386
  v70 := Tryz.zeroValue386
  t76 := Tryz.underlying400
  a76 := Tryz.isAgg400
  z76 := Tryz.sizeOf400
  v76 := Tryz.zeroValue400
  t77 := Tryz.underlying38
  a77 := Tryz.isAgg38
  z77 := Tryz.sizeOf38
  v77 := Tryz.zeroValue38
 }
def Tryz.compInt_ren : Go.Shelf.Ren := ⟨fun | 43 => 176 | n => n, fun | 0 => 0 | 3 => 3 | 4 => 4 | 22 => 55 | 23 => 3 | n => n, fun | n => n⟩
theorem Tryz.compInt : Go.Proofs.SlLaysN.n43 Tryz.prog Tryz.compInt_ren := {
  mixed := by kernel_rfl
  f43 := ⟨(Tryz.f176).name, by kernel_rfl, Tryz.func176.trans (congrArg some (by kernel_rfl))⟩
  t0 := Tryz.underlying0
  a0 := Tryz.isAgg0
  z0 := Tryz.sizeOf0
  v0 := Tryz.zeroValue0
  t3 := Tryz.underlying3
  a3 := Tryz.isAgg3
  z3 := Tryz.sizeOf3
  v3 := Tryz.zeroValue3
  t4 := Tryz.underlying4
  a4 := Tryz.isAgg4
  z4 := Tryz.sizeOf4
  v4 := Tryz.zeroValue4
  t22 := Tryz.underlying55
  a22 := Tryz.isAgg55
  z22 := Tryz.sizeOf55
  v22 := Tryz.zeroValue55
  t23 := Tryz.underlying3
  a23 := Tryz.isAgg3
  z23 := Tryz.sizeOf3
  v23 := Tryz.zeroValue3
  i23 := by kernel_rfl
 }
end Go.Proofs
