/-
  Decimal texts and texts of numbers (packages digits, rtext) by plain data.
  Decimal texts by plain data: digits.Text.
  The decimal text of a number tells the number. No program in sight.
  Texts of numbers by plain data: package rtext.
-/
import Derived.Test.YthdkkpocihkgbaaGreatDoorK3
import Derived.Test.YthdkkpocihkgbaaGreatDoorLawE
namespace Go.Proofs.YthdkkpocihkgbaaGreatDoor
open Go.RowKit
attribute [local irreducible] AC Do St
section
variable {p q : Rat} {k : Nat}
theorem normU (x : Nat) (hl : (limbs x).length ≤ 100000000) : Fn Tryz.prog 160 [.d (enL (limbs x))] [.d (enL (limbs x))] :=
  ⟨⟨_, Tryz.func160, by kernel_rfl, by kernel_rfl⟩, fun S w vs hS hv => by
    obtain ⟨u, rfl, ha⟩ := hv.one
    have q1 := oneU.ofRD (RD.mono ha hS) (limbs_dg x)
    obtain ⟨a1, c1, e1, _⟩ := id q1
    injection e1 with e1
    subst e1
    refine (normL x a1 c1 w q1 hl).mono ?_
    rintro e w' ⟨a, c, rfl, hx, hr⟩
    exact ⟨_, rfl, hx, RD.mono (oneU.toRD (fun _ => rfl) hr) mo_res⟩⟩
end
/-- The text without the noughts at its beginning. -/
def trimZ (l : List UInt8) : List UInt8 := l.dropWhile fun c => c == 48
theorem tx_nil : (⟨#[]⟩ : ByteArray).toList = [] := tx_list []
end Go.Proofs.YthdkkpocihkgbaaGreatDoor
namespace Go.Proofs.YthdkkpocihkgbaaGreatDoor
open Go.RowKit
attribute [local irreducible] AC Do St
/-- Nine digits of a group. -/
def nineD (g j : Nat) : UInt8 := UInt8.ofNat (48 + g / (100000000 / 10 ^ j) % 10)
def nine (g : Nat) : List UInt8 := (List.range 9).map (nineD g)
def rawT (n : Nat) : List UInt8 := (digs 1000000000 n).reverse.flatMap nine
def textL (n : Nat) : List UInt8 := if n = 0 then [48] else trimZ (rawT n)
theorem wrap_u32 {n : Int} (h : 0 ≤ n) (h2 : n < 4294967296) : IntKind.wrap .u32 n = n := by
  simp [IntKind.wrap, IntKind.bits, IntKind.signed]
  omega
def enW3 (u : Nat) : List D := [.v (.int .u32 (u : Int))]
end Go.Proofs.YthdkkpocihkgbaaGreatDoor
namespace Go.Proofs.YthdkkpocihkgbaaGreatDoor
open Go.RowKit
/-- The number that decimal digits tell. -/
def valF (a : Nat) (l : List UInt8) : Nat := l.foldl (fun a c => a * 10 + (c.toNat - 48)) a
theorem valF_app (a : Nat) (l m : List UInt8) : valF a (l ++ m) = valF (valF a l) m := by simp [valF, List.foldl_append]
/-- A digit. -/
def DigC (c : UInt8) : Prop := 48 ≤ c.toNat ∧ c.toNat ≤ 57
/-- The text of a rational number. -/
def printL (q : Rat) : List UInt8 := (if q.num < 0 then [45] else []) ++ (textL q.num.natAbs ++ (if q.den = 1 then [] else 47 :: textL q.den))
/-- Texts with blanks between them. -/
def joinL (c : UInt8) : List (List UInt8) → List UInt8
  | [] => []
  | [a] => a
  | a :: b :: r => a ++ c :: joinL c (b :: r)
end Go.Proofs.YthdkkpocihkgbaaGreatDoor
namespace Go.Proofs.YthdkkpocihkgbaaGreatDoor
open Go.RowKit
attribute [local irreducible] AC Do St
theorem limbs_len_bd {n k : Nat} (h : n < 2 ^ k) : (limbs n).length ≤ k / 32 + 1 := by
  refine digs_len (by omega) (Nat.lt_of_lt_of_le h ?_)
  rw [show 4294967296 = 2 ^ 32 by decide, ← Nat.pow_mul]
  exact Nat.pow_le_pow_right (by omega) (by omega)
def sgnL (p : Rat) : List UInt8 := if p.num < 0 then [45] else []
def lowL (p : Rat) : List UInt8 := if p.den = 1 then [] else textL p.den
end Go.Proofs.YthdkkpocihkgbaaGreatDoor
