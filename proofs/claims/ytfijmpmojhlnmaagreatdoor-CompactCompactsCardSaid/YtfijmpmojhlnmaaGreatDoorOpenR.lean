/-
  Steps, as the laws are handed them: their numbers are ints of 64 bits.
-/
import Derived.Test.YtfijmpmojhlnmaaGreatDoorOpenS
import Derived.Test.YtfijmpmojhlnmaaGreatDoorCmpS
namespace Go.Proofs.YtfijmpmojhlnmaaGreatDoor
open Go.RowKit
section
variable {H : Type} {enc : TypeId × Value → H} {W : World}
theorem r64_of {n : Int} (h1 : IntKind.i64.min ≤ n) (h2 : n ≤ IntKind.i64.max) : R64 n := by
  simp [IntKind.min, IntKind.max, IntKind.signed, IntKind.bits] at h1 h2
  exact ⟨by omega, by omega⟩
theorem rI64 {ds : List D} (h : QInt .i64 ds) : QOf (fun v : Int => [D.v (.int .i64 v)]) R64 ds := by
  obtain ⟨n, rfl, h1, h2⟩ := h
  exact ⟨n, rfl, r64_of h1 h2⟩
theorem rodSR (m : Nat) : OD enc Tryz.prog W m 108 (QOf enSN okSR) := by
  cases m with
  | zero => intro n hn; omega
  | succ m =>
    refine (OD.fields (l := [(3, 0), (24, 1), (3, 2), (24, 3), (106, 4)]) (Qs := [QInt .i64, QList (QInt .i64), QInt .i64, QList (QInt .i64), QList (QOf enN okN)]) (by kernel_rfl) (by kernel_rfl) ⟨rodI m, rodIs m, rodI m, rodIs m, rodNs m, trivial⟩).imp fun ds h => ?_
    obtain ⟨a, r1, rfl, ⟨x, rfl, x1, x2⟩, b, r2, rfl, hb, h3⟩ := h
    obtain ⟨c, d, e, rfl, ⟨y, rfl, y1, y2⟩, hd, he⟩ := QAll.three h3
    obtain ⟨l, rfl, hl0, hl⟩ := QList.of (fun _ => rI64) hb
    obtain ⟨p, rfl, hp0, hp⟩ := QList.of (fun _ => rI64) hd
    obtain ⟨t, rfl, ht, htl⟩ := QList.of (fun _ h => h) he
    exact ⟨⟨x, l, y, p, t⟩, rfl, ⟨ht, hl, hp, htl⟩, r64_of x1 x2, r64_of y1 y2, hl0, hp0⟩
theorem odSR (m : Nat) : OD enc Tryz.prog W m 22 (QList (QOf enSN okSR)) := by
  cases m with
  | zero => intro n hn; omega
  | succ m => exact OD.slice (by kernel_rfl) (k := 4) (by kernel_rfl) (rodSR m)
end
end Go.Proofs.YtfijmpmojhlnmaaGreatDoor
