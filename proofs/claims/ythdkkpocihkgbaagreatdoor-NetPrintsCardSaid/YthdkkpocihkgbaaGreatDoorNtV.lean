/-
 The law attestlaw15: its own functions.
-/
import Derived.Test.YthdkkpocihkgbaaGreatDoorNtI
namespace Go.Proofs.YthdkkpocihkgbaaGreatDoor
open Go.RowKit
attribute [local irreducible] AC Do St
/-- The lowest 16 bits of a number's digits. -/
def lowN (l : List Nat) : List Nat := (l.take 1).map fun x => x % 65536
def oneN (n : Bool × List Nat × List Nat) : Bool × List Nat × List Nat := (n.1, lowN n.2.1, lowN n.2.2)
def onesN (l : List (Bool × List Nat × List Nat)) : List (Bool × List Nat × List Nat) := (l.take 40).map oneN
end Go.Proofs.YthdkkpocihkgbaaGreatDoor
