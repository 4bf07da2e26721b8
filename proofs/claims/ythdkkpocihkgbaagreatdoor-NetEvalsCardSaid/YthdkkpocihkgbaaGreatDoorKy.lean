/-
  Decimal texts and keys of constraints: plain laws.
-/
import Derived.Test.YthdkkpocihkgbaaGreatDoorP1
import Derived.Test.YthdkkpocihkgbaaGreatDoorDigA
import Derived.Lib.ItoaLen
namespace Go.Proofs.YthdkkpocihkgbaaGreatDoor
open Go.RowKit
/-- The text of terms. -/
def keyT (l : List (Int × Rat)) : List UInt8 := l.flatMap fun t => Lib.itoa t.1 ++ 58 :: (printL t.2 ++ [32])
end Go.Proofs.YthdkkpocihkgbaaGreatDoor
