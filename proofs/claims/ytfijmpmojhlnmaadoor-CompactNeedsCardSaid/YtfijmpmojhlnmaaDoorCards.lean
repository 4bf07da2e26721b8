/-
  DERIVED. GIVEN WITH THE SEED: THE CARDS: each row of YtfijmpmojhlnmaaDoorRows.lean that lists a variable, with what it lists TIED to the program's text (the seventh form; the later family's looks); each row that meets fmt, with fmt's text TOLD by the authors' own Lean function (tested against real Go, not proved from fmt's source: count such statements apart). THE CARD IS WHAT COUNTS. Prove the row's statement (the work); the ties are given (YtfijmpmojhlnmaaDoorTie.lean); close each card by the builder's one call (the guide's Derived/Test/ToyasCard.lean, 'card_holds'). Laid BY PROGRAM, IN A SANDBOX (cutbox-door.mjs). By AI agents, Wed Nov 11 2026. No macro, syntax, notation, axiom, sorry.
-/
import Derived.Test.YtfijmpmojhlnmaaDoorRows
import GoSem.ClaimSeven
namespace Go.Proofs.YtfijmpmojhlnmaaDoor
namespace Rows

/-- THE TIED CARD OF 'attestlaw24.CompactNeeds'. -/
def compactNeedsCard : Claim7 := { stood := { row := compactNeedsRow, standIns := [], harness := (true, "d0f80534ffce198df0addbf01d2ea1391b909fa744bb9e0c13c1f9d39b0547a1"), looks := false }, kinds := [], alts := [], laidByText := true, laidKinds := [.data, .pinned], laidTests := true, laidLooks := .later }
def CompactNeedsCardSaid : Prop := Claim7.holds Tryd.pinned (.plain (OpenSpec.ofChange compactNeedsSpec)) compactNeedsCard

/-- THE TIED CARD OF 'attestlaw24.CompactLends'. -/
def compactLendsCard : Claim7 := { stood := { row := compactLendsRow, standIns := [], harness := (true, "d0f80534ffce198df0addbf01d2ea1391b909fa744bb9e0c13c1f9d39b0547a1"), looks := false }, kinds := [], alts := [], laidByText := true, laidKinds := [.data, .pinned], laidTests := true, laidLooks := .later }
def CompactLendsCardSaid : Prop := Claim7.holds Tryd.pinned (.plain (OpenSpec.ofChange compactLendsSpec)) compactLendsCard

/-- THE SECOND FORM's CARD OF 'attestlaw24.CompactNeeds'. -/
def compactNeedsUptoCard : Claim7 := { stood := { row := compactNeedsUptoRow, standIns := [], harness := (true, "d0f80534ffce198df0addbf01d2ea1391b909fa744bb9e0c13c1f9d39b0547a1"), looks := false }, kinds := [], alts := [], laidByText := true, laidKinds := [.data, .pinned], laidTests := true, laidLooks := .later }
def CompactNeedsUptoCardSaid : Prop := Claim7.holds Tryd.pinned (.plain (OpenSpec.upto compactNeedsSpec)) compactNeedsUptoCard

/-- THE SECOND FORM's CARD OF 'attestlaw24.CompactLends'. -/
def compactLendsUptoCard : Claim7 := { stood := { row := compactLendsUptoRow, standIns := [], harness := (true, "d0f80534ffce198df0addbf01d2ea1391b909fa744bb9e0c13c1f9d39b0547a1"), looks := false }, kinds := [], alts := [], laidByText := true, laidKinds := [.data, .pinned], laidTests := true, laidLooks := .later }
def CompactLendsUptoCardSaid : Prop := Claim7.holds Tryd.pinned (.plain (OpenSpec.upto compactLendsSpec)) compactLendsUptoCard
end Rows
end Go.Proofs.YtfijmpmojhlnmaaDoor
