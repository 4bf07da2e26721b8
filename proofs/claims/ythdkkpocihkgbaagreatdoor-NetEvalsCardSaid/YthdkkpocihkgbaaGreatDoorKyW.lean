/-
  Keys of numbers by plain data: limb.Pack, rat.KeyOf, the document's key.
  Keys of numbers by plain data: rat.KeyOf, the document's key, decimal texts.
  Keys of numbers by plain data: rat.KeyOf, the document's key, decimal texts.
  Decimal texts of the document; numerals by the library; keys of constraints.
-/
import Derived.Test.YthdkkpocihkgbaaGreatDoorKy
namespace Go.Proofs.YthdkkpocihkgbaaGreatDoor
open Go.RowKit
attribute [local irreducible] AC Do St
section
variable {p q : Rat} {k : Nat}
theorem cutU (x : Nat) : Fn Tryz.prog 207 [.d (enL (limbs x))] [.d (enL (limbs x))] :=
  ⟨⟨_, Tryz.func207, by kernel_rfl, by kernel_rfl⟩, fun S w vs hS hv => by
    obtain ⟨u, rfl, ha⟩ := hv.one
    have q1 := oneU.ofRD (RD.mono ha hS) (limbs_dg x)
    obtain ⟨a1, c1, e1, _⟩ := id q1
    injection e1 with e1
    subst e1
    refine (cut_any (limbs x) a1 _ c1 w _ q1).mono ?_
    rintro e w' ⟨rfl, rfl⟩
    rw [show dval 4294967296 (limbs x) = x from limbs_val x]
    exact ⟨_, rfl, Below.refl _ _, RD.mono ha fun b hb => ⟨.inl hb, hS b hb⟩⟩⟩
end
def w4 (w : Nat) : List UInt8 := (four w).map UInt8.ofNat
theorem shr_nat (w s : Nat) : ((w : Nat) : Int).fdiv (2 ^ s) = ((w / 2 ^ s : Nat) : Int) := by
  rw [Int.fdiv_eq_ediv_of_nonneg _ (Int.le_of_lt (Int.pow_pos (by omega)))]
  simp
/-- Bytes as numbers. -/
def nB (l : List UInt8) : List Nat := l.map UInt8.toNat
end Go.Proofs.YthdkkpocihkgbaaGreatDoor
namespace Go.Proofs.YthdkkpocihkgbaaGreatDoor
open Go.RowKit
attribute [local irreducible] AC Do St
section
variable {P : Program} {C : Cx} {o : Oper} {σ : AS}
end
section
variable {p q : Rat} {k : Nat}
end
/-- A number's key. -/
def enK (q : Rat) : List D := [.v (.bool (decide (q.num < 0))), .v (.string (tx (byL q.num.natAbs))), .v (.string (tx (byL q.den)))]
end Go.Proofs.YthdkkpocihkgbaaGreatDoor
namespace Go.Proofs.YthdkkpocihkgbaaGreatDoor
open Go.RowKit
attribute [local irreducible] AC Do St
end Go.Proofs.YthdkkpocihkgbaaGreatDoor
namespace Go.Proofs.YthdkkpocihkgbaaGreatDoor
open Go.RowKit
attribute [local irreducible] AC Do St
end Go.Proofs.YthdkkpocihkgbaaGreatDoor
