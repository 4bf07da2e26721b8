/-
  Numbers, expressions and constraints, as the laws are handed them.
-/
import Derived.Test.YtfijmpmojhlnmaaGreatDoorOpenD
import Derived.Test.YtfijmpmojhlnmaaGreatDoorAtm
namespace Go.Proofs.YtfijmpmojhlnmaaGreatDoor
open Go.RowKit
section
variable {H : Type} {enc : TypeId × Value → H} {W : World}
theorem qU32 {ds : List D} (h : QInt .u32 ds) : QOf (fun c : Nat => [.v (encU c)]) (fun c => c < 4294967296) ds := by
  obtain ⟨n, rfl, h1, h2⟩ := h
  simp [IntKind.min, IntKind.max, IntKind.signed, IntKind.bits] at h1 h2
  exact ⟨n.toNat, by unfold encU; simp only; rw [Int.toNat_of_nonneg h1], by omega⟩
theorem qN {ds : List D} (h : QAll [QBool, QList (QInt .u32), QList (QInt .u32)] ds) : QOf enN okN ds := by
  obtain ⟨a, b, c, rfl, ⟨n, rfl⟩, hb, hc⟩ := h.three
  obtain ⟨l, rfl, hl, _⟩ := QList.of (fun _ => qU32) hb
  obtain ⟨m, rfl, hm, _⟩ := QList.of (fun _ => qU32) hc
  exact ⟨(n, l, m), rfl, hl, hm⟩
theorem odU (m : Nat) : OD enc Tryz.prog W m 169 (QInt .u32) := OD.int (by kernel_rfl) m
theorem odI (m : Nat) : OD enc Tryz.prog W m 3 (QInt .i64) := OD.int (by kernel_rfl) m
theorem odUs (m : Nat) : OD enc Tryz.prog W m 48 (QList (QInt .u32)) := by
  cases m with
  | zero => intro n hn; omega
  | succ m => exact OD.slice (by kernel_rfl) (k := 0) (by kernel_rfl) (odU m)
theorem odN (m : Nat) : OD enc Tryz.prog W m 50 (QOf enN okN) := by
  cases m with
  | zero => intro n hn; omega
  | succ m => exact (OD.fields (l := [(4, 0), (48, 1), (48, 2)]) (Qs := [QBool, QList (QInt .u32), QList (QInt .u32)]) (by kernel_rfl) (by kernel_rfl) ⟨OD.bool (by kernel_rfl) m, odUs m, odUs m, trivial⟩).imp fun _ => qN
theorem odT (m : Nat) : OD enc Tryz.prog W m 135 (QOf enTN fun x => okN x.2 ∧ -9223372036854775808 ≤ x.1 ∧ x.1 ≤ 9223372036854775807) := by
  cases m with
  | zero => intro n hn; omega
  | succ m =>
    refine (OD.fields (l := [(3, 0), (50, 1)]) (Qs := [QInt .i64, QOf enN okN]) (by kernel_rfl) (by kernel_rfl) ⟨odI m, odN m, trivial⟩).imp fun ds h => ?_
    obtain ⟨a, b, rfl, ⟨v, rfl, h1, h2⟩, n, rfl, hn⟩ := h.two
    exact ⟨(v, n), rfl, hn, h1, h2⟩
theorem odE (m : Nat) : OD enc Tryz.prog W m 52 (QOf enEN okEN) := by
  rcases m with _ | _ | m
  · intro n hn; omega
  · intro n hn cs d ps h
    obtain rfl : n = 0 := by omega
    simp [DataW.trod] at h
  · refine (OD.fields (l := [(47, 0), (50, 1)]) (Qs := [QList (QOf enTN fun x => okN x.2 ∧ -9223372036854775808 ≤ x.1 ∧ x.1 ≤ 9223372036854775807), QOf enN okN]) (by kernel_rfl) (by kernel_rfl) ⟨OD.slice (by kernel_rfl) (k := 3) (by kernel_rfl) (odT m), odN (m + 1), trivial⟩).imp fun ds h => ?_
    obtain ⟨a, b, rfl, ha, n, rfl, hn⟩ := h.two
    obtain ⟨l, rfl, hl, hm⟩ := QList.of (fun _ h => h) ha
    exact ⟨⟨l, n⟩, rfl, hl, hn, hm⟩
theorem odA (m : Nat) : OD enc Tryz.prog W m 54 (QOf enAN fun a => okEN a.e ∧ -9223372036854775808 ≤ a.op ∧ a.op ≤ 9223372036854775807) := by
  cases m with
  | zero => intro n hn; omega
  | succ m =>
    refine (OD.fields (l := [(52, 0), (3, 4)]) (Qs := [QOf enEN okEN, QInt .i64]) (by kernel_rfl) (by kernel_rfl) ⟨odE m, odI m, trivial⟩).imp fun ds h => ?_
    obtain ⟨a, b, rfl, ⟨e, rfl, he⟩, v, rfl, h1, h2⟩ := h.two
    exact ⟨⟨e, v⟩, rfl, he, h1, h2⟩
theorem odNs (m : Nat) : OD enc Tryz.prog W m 106 (QList (QOf enN okN)) := by
  cases m with
  | zero => intro n hn; omega
  | succ m => exact OD.slice (by kernel_rfl) (k := 2) (by kernel_rfl) (odN m)
end
end Go.Proofs.YtfijmpmojhlnmaaGreatDoor
