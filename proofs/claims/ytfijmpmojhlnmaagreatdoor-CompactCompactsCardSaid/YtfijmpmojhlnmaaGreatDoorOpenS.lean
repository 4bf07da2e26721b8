/-
  Numbers and steps, as the laws are handed them.
-/
import Derived.Test.YtfijmpmojhlnmaaGreatDoorOpenD
import Derived.Test.YtfijmpmojhlnmaaGreatDoorCmpB
namespace Go.Proofs.YtfijmpmojhlnmaaGreatDoor
open Go.RowKit
section
variable {H : Type} {enc : TypeId × Value → H} {W : World}
theorem rU32 {ds : List D} (h : QInt .u32 ds) : QOf (fun c : Nat => [.v (encU c)]) (fun c => c < 4294967296) ds := by
  obtain ⟨n, rfl, h1, h2⟩ := h
  simp [IntKind.min, IntKind.max, IntKind.signed, IntKind.bits] at h1 h2
  exact ⟨n.toNat, by unfold encU; simp only; rw [Int.toNat_of_nonneg h1], by omega⟩
theorem rN {ds : List D} (h : QAll [QBool, QList (QInt .u32), QList (QInt .u32)] ds) : QOf enN okN ds := by
  obtain ⟨a, b, c, rfl, ⟨n, rfl⟩, hb, hc⟩ := h.three
  obtain ⟨l, rfl, hl, _⟩ := QList.of (fun _ => rU32) hb
  obtain ⟨m, rfl, hm, _⟩ := QList.of (fun _ => rU32) hc
  exact ⟨(n, l, m), rfl, hl, hm⟩
theorem rI {ds : List D} (h : QInt .i64 ds) : QOf (fun v : Int => [D.v (.int .i64 v)]) (fun _ => True) ds := by
  obtain ⟨n, rfl, _, _⟩ := h
  exact ⟨n, rfl, trivial⟩
theorem rodI (m : Nat) : OD enc Tryz.prog W m 3 (QInt .i64) := OD.int (by kernel_rfl) m
theorem rodUs (m : Nat) : OD enc Tryz.prog W m 48 (QList (QInt .u32)) := by
  cases m with
  | zero => intro n hn; omega
  | succ m => exact OD.slice (e := 169) (by kernel_rfl) (k := 0) (by kernel_rfl) (OD.int (by kernel_rfl) m)
theorem rodIs (m : Nat) : OD enc Tryz.prog W m 24 (QList (QInt .i64)) := by
  cases m with
  | zero => intro n hn; omega
  | succ m => exact OD.slice (by kernel_rfl) (k := 0) (by kernel_rfl) (rodI m)
theorem rodN (m : Nat) : OD enc Tryz.prog W m 50 (QOf enN okN) := by
  cases m with
  | zero => intro n hn; omega
  | succ m => exact (OD.fields (l := [(4, 0), (48, 1), (48, 2)]) (Qs := [QBool, QList (QInt .u32), QList (QInt .u32)]) (by kernel_rfl) (by kernel_rfl) ⟨OD.bool (by kernel_rfl) m, rodUs m, rodUs m, trivial⟩).imp fun _ => rN
theorem rodNs (m : Nat) : OD enc Tryz.prog W m 106 (QList (QOf enN okN)) := by
  cases m with
  | zero => intro n hn; omega
  | succ m => exact OD.slice (by kernel_rfl) (k := 2) (by kernel_rfl) (rodN m)
theorem rodS (m : Nat) : OD enc Tryz.prog W m 108 (QOf enSN okSN) := by
  cases m with
  | zero => intro n hn; omega
  | succ m =>
    refine (OD.fields (l := [(3, 0), (24, 1), (3, 2), (24, 3), (106, 4)]) (Qs := [QInt .i64, QList (QInt .i64), QInt .i64, QList (QInt .i64), QList (QOf enN okN)]) (by kernel_rfl) (by kernel_rfl) ⟨rodI m, rodIs m, rodI m, rodIs m, rodNs m, trivial⟩).imp fun ds h => ?_
    obtain ⟨a, r1, rfl, ⟨x, rfl, _, _⟩, b, r2, rfl, hb, h3⟩ := h
    obtain ⟨c, d, e, rfl, ⟨y, rfl, _, _⟩, hd, he⟩ := QAll.three h3
    obtain ⟨l, rfl, _, hl⟩ := QList.of (fun _ => rI) hb
    obtain ⟨p, rfl, _, hp⟩ := QList.of (fun _ => rI) hd
    obtain ⟨t, rfl, ht, htl⟩ := QList.of (fun _ h => h) he
    exact ⟨⟨x, l, y, p, t⟩, rfl, ht, hl, hp, htl⟩
theorem odSs (m : Nat) : OD enc Tryz.prog W m 22 (QList (QOf enSN okSN)) := by
  cases m with
  | zero => intro n hn; omega
  | succ m => exact OD.slice (by kernel_rfl) (k := 4) (by kernel_rfl) (rodS m)
end
end Go.Proofs.YtfijmpmojhlnmaaGreatDoor
