/-
 Networks, as the laws are handed them.
-/
import Derived.Test.YthdkkpocihkgbaaGreatDoorOpenD
import Derived.Test.YthdkkpocihkgbaaGreatDoorNtJ
namespace Go.Proofs.YthdkkpocihkgbaaGreatDoor
open Go.RowKit
theorem QAll.four {A B C E : List D → Prop} {ds : List D} (h : QAll [A, B, C, E] ds) : ∃ a b c e, ds = a ++ (b ++ (c ++ e)) ∧ A a ∧ B b ∧ C c ∧ E e := by
 obtain ⟨a, r, rfl, h1, h2⟩ := h
 obtain ⟨b, c, e, rfl, h3, h4, h5⟩ := QAll.three h2
 exact ⟨a, b, c, e, rfl, h1, h3, h4, h5⟩
def r64 (v : Int) : Prop := -9223372036854775808 ≤ v ∧ v ≤ 9223372036854775807
theorem qI64 {ds : List D} (h : QInt .i64 ds) : QOf (fun v : Int => [.v (.int .i64 v)]) r64 ds := by
 obtain ⟨n, rfl, h1, h2⟩ := h
 exact ⟨n, rfl, h1, h2⟩
theorem qNs {ds : List D} (h : QList (QOf enN okN) ds) : QOf (fun l => [enNs l]) okP ds := by
 obtain ⟨l, rfl, hl, _⟩ := QList.of (fun _ h => h) h
 exact ⟨l, rfl, hl⟩
theorem qIs {ds : List D} (h : QList (QInt .i64) ds) : QOf (fun g => [enIs g]) (fun g => ∀ v ∈ g, r64 v) ds := by
 obtain ⟨l, rfl, hl, _⟩ := QList.of (fun _ => qI64) h
 exact ⟨l, rfl, hl⟩
def okL (l : LQ) : Prop := okLQ l ∧ r64 l.kind ∧ ∀ g ∈ l.G, ∀ v ∈ g, r64 v
theorem rows_map {α : Type} (l : List α) (f : α → D) : rowsD (l.map f) = .l (l.map fun x => [f x]) := by
 unfold rowsD
 rw [List.map_map]
 rfl
section
variable {H : Type} {enc : TypeId × Value → H} {W : World}
theorem oqU (m : Nat) : OD enc Tryz.prog W m 229 (QInt .u32) := OD.int (by kernel_rfl) m
theorem oqI (m : Nat) : OD enc Tryz.prog W m 3 (QInt .i64) := OD.int (by kernel_rfl) m
theorem qU32' {ds : List D} (h : QInt .u32 ds) : QOf (fun c : Nat => [.v (encU c)]) (fun c => c < 4294967296) ds := by
 obtain ⟨n, rfl, h1, h2⟩ := h
 simp [IntKind.min, IntKind.max, IntKind.signed, IntKind.bits] at h1 h2
 exact ⟨n.toNat, by unfold encU; simp only; rw [Int.toNat_of_nonneg h1], by omega⟩
theorem qN' {ds : List D} (h : QAll [QBool, QList (QInt .u32), QList (QInt .u32)] ds) : QOf enN okN ds := by
 obtain ⟨a, b, c, rfl, ⟨n, rfl⟩, hb, hc⟩ := h.three
 obtain ⟨l, rfl, hl, _⟩ := QList.of (fun _ => qU32') hb
 obtain ⟨m, rfl, hm, _⟩ := QList.of (fun _ => qU32') hc
 exact ⟨(n, l, m), rfl, hl, hm⟩
theorem oqUs (m : Nat) : OD enc Tryz.prog W m 117 (QList (QInt .u32)) := by
 cases m with
 | zero => intro n hn; omega
 | succ m => exact OD.slice (by kernel_rfl) (k := 0) (by kernel_rfl) (oqU m)
theorem oqN (m : Nat) : OD enc Tryz.prog W m 128 (QOf enN okN) := by
 cases m with
 | zero => intro n hn; omega
 | succ m => exact (OD.fields (l := [(4, 0), (117, 1), (117, 2)]) (Qs := [QBool, QList (QInt .u32), QList (QInt .u32)]) (by kernel_rfl) (by kernel_rfl) ⟨OD.bool (by kernel_rfl) m, oqUs m, oqUs m, trivial⟩).imp fun _ => qN'
theorem oqNs (m : Nat) : OD enc Tryz.prog W m 47 (QOf (fun l => [enNs l]) okP) := by
 cases m with
 | zero => intro n hn; omega
 | succ m => exact (OD.slice (by kernel_rfl) (k := 2) (by kernel_rfl) (oqN m)).imp fun _ => qNs
theorem oqNl (m : Nat) : OD enc Tryz.prog W m 47 (QList (QOf enN okN)) := by
 cases m with
 | zero => intro n hn; omega
 | succ m => exact OD.slice (by kernel_rfl) (k := 2) (by kernel_rfl) (oqN m)
theorem oqIs (m : Nat) : OD enc Tryz.prog W m 31 (QOf (fun g => [enIs g]) (fun g => ∀ v ∈ g, r64 v)) := by
 cases m with
 | zero => intro n hn; omega
 | succ m => exact (OD.slice (by kernel_rfl) (k := 0) (by kernel_rfl) (oqI m)).imp fun _ => qIs
theorem oqL (m : Nat) : OD enc Tryz.prog W m 126 (QOf enLQ okL) := by
 rcases m with _ | _ | m
 ·intro n hn; omega
 ·intro n hn cs d ps h
  obtain rfl : n = 0 := by omega
  simp [DataW.trod] at h
 ·refine (OD.fields (l := [(3, 0), (124, 1), (47, 2), (28, 3)]) (Qs := [QInt .i64, QList (QOf (fun l => [enNs l]) okP), QOf (fun l => [enNs l]) okP, QList (QOf (fun g => [enIs g]) (fun g => ∀ v ∈ g, r64 v))]) (by kernel_rfl) (by kernel_rfl)
   ⟨oqI (m + 1), OD.slice (by kernel_rfl) (k := 0) (by kernel_rfl) (oqNs m), oqNs (m + 1), OD.slice (by kernel_rfl) (k := 0) (by kernel_rfl) (oqIs m), trivial⟩).imp fun ds h => ?_
  obtain ⟨a, b, c, e, rfl, ha, hb, hc, he⟩ := h.four
  obtain ⟨v, rfl, hv⟩ := qI64 ha
  obtain ⟨W, rfl, hW, _⟩ := QList.of (fun _ h => h) hb
  obtain ⟨B, rfl, hB⟩ := hc
  obtain ⟨G, rfl, hG, _⟩ := QList.of (fun _ h => h) he
  refine ⟨⟨v, W, B, G⟩, ?_, ⟨hW, hB⟩, hv, hG⟩
  unfold enLQ
  rw [rows_map, rows_map]
  rfl
theorem oqNet (m : Nat) : OD enc Tryz.prog W m 38 (QOf (fun a : Int × List LQ => enQN a.1 a.2) (fun a => r64 a.1 ∧ ∀ l ∈ a.2, okL l)) := by
 rcases m with _ | _ | m
 ·intro n hn; omega
 ·intro n hn cs d ps h
  obtain rfl : n = 0 := by omega
  simp [DataW.trod] at h
 ·refine (OD.fields (l := [(3, 0), (36, 1)]) (Qs := [QInt .i64, QList (QOf enLQ okL)]) (by kernel_rfl) (by kernel_rfl) ⟨oqI (m + 1), OD.slice (by kernel_rfl) (k := 3) (by kernel_rfl) (oqL m), trivial⟩).imp fun ds h => ?_
  obtain ⟨a, b, rfl, ha, hb⟩ := h.two
  obtain ⟨v, rfl, hv⟩ := qI64 ha
  obtain ⟨l, rfl, hl, _⟩ := QList.of (fun _ h => h) hb
  exact ⟨(v, l), rfl, hv, hl⟩
end
end Go.Proofs.YthdkkpocihkgbaaGreatDoor
