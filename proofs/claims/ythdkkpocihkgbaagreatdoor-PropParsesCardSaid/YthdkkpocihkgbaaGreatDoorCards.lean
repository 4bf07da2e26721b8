/-
  DERIVED. GIVEN WITH THE SEED: THE CARDS: each row of YthdkkpocihkgbaaGreatDoorRows.lean that lists a variable, with what it lists TIED to the program's text (the seventh form; the later family's looks); each row that meets fmt, with fmt's text TOLD by the authors' own Lean function (tested against real Go, not proved from fmt's source: count such statements apart). THE CARD IS WHAT COUNTS. Prove the row's statement (the work); the ties are given (YthdkkpocihkgbaaGreatDoorTie.lean); close each card by the builder's one call (the guide's Derived/Test/ToyasCard.lean, 'card_holds'). Laid BY PROGRAM, IN A SANDBOX (cutbox-door.mjs). By AI agents, Wed Nov 11 2026. No macro, syntax, notation, axiom, sorry.
-/
import Derived.Test.YthdkkpocihkgbaaGreatDoorRows
import GoSem.ClaimSeven
namespace Go.Proofs.YthdkkpocihkgbaaGreatDoor
namespace Rows

/-- THE TIED CARD OF 'attestlaw15.NetGreat'. -/
def netGreatCard : Claim7 := { stood := { row := netGreatRow, standIns := [], harness := (true, "03d11b8a0340492924c68857909a896f77fd9dac4e0b499aa23ee9b6a5979652"), looks := true }, kinds := [], alts := [], laidByText := true, laidKinds := [.data, .data, .data, .data, .sentinel, .sentinel, .pinned], laidTests := true, laidLooks := .later }
def NetGreatCardSaid : Prop := Claim7.holds Tryz.pinned (.plain (OpenSpec.ofChange netGreatSpec)) netGreatCard

/-- THE TIED CARD OF 'attestlaw15.NetWidths'. -/
def netWidthsCard : Claim7 := { stood := { row := netWidthsRow, standIns := [], harness := (true, "03d11b8a0340492924c68857909a896f77fd9dac4e0b499aa23ee9b6a5979652"), looks := true }, kinds := [], alts := [], laidByText := true, laidKinds := [.data, .data, .data, .data, .sentinel, .sentinel, .pinned], laidTests := true, laidLooks := .later }
def NetWidthsCardSaid : Prop := Claim7.holds Tryz.pinned (.plain (OpenSpec.ofChange netWidthsSpec)) netWidthsCard

/-- THE TIED CARD OF 'attestlaw15.NetEvals'. -/
def netEvalsCard : Claim7 := { stood := { row := netEvalsRow, standIns := [], harness := (true, "03d11b8a0340492924c68857909a896f77fd9dac4e0b499aa23ee9b6a5979652"), looks := true }, kinds := [], alts := [], laidByText := true, laidKinds := [.data, .data, .data, .data, .sentinel, .sentinel, .pinned], laidTests := true, laidLooks := .later }
def NetEvalsCardSaid : Prop := Claim7.holds Tryz.pinned (.plain (OpenSpec.ofChange netEvalsSpec)) netEvalsCard

/-- THE TIED CARD OF 'attestlaw15.NetParses'. -/
def netParsesCard : Claim7 := { stood := { row := netParsesRow, standIns := [], harness := (true, "03d11b8a0340492924c68857909a896f77fd9dac4e0b499aa23ee9b6a5979652"), looks := true }, kinds := [], alts := [], laidByText := true, laidKinds := [.data, .data, .data, .data, .sentinel, .sentinel, .pinned], laidTests := true, laidLooks := .later }
def NetParsesCardSaid : Prop := Claim7.holds Tryz.pinned (.plain (OpenSpec.ofChange netParsesSpec)) netParsesCard

/-- THE TIED CARD OF 'attestlaw15.NetJoins'. -/
def netJoinsCard : Claim7 := { stood := { row := netJoinsRow, standIns := [], harness := (true, "03d11b8a0340492924c68857909a896f77fd9dac4e0b499aa23ee9b6a5979652"), looks := true }, kinds := [], alts := [], laidByText := true, laidKinds := [.data, .data, .data, .data, .sentinel, .sentinel, .pinned], laidTests := true, laidLooks := .later }
def NetJoinsCardSaid : Prop := Claim7.holds Tryz.pinned (.plain (OpenSpec.ofChange netJoinsSpec)) netJoinsCard

/-- THE TIED CARD OF 'attestlaw16.PropChecks'. -/
def propChecksCard : Claim7 := { stood := { row := propChecksRow, standIns := [], harness := (true, "03d11b8a0340492924c68857909a896f77fd9dac4e0b499aa23ee9b6a5979652"), looks := true }, kinds := [], alts := [], laidByText := true, laidKinds := [.data, .data, .data, .data, .pinned], laidTests := true, laidLooks := .later }
def PropChecksCardSaid : Prop := Claim7.holds Tryz.pinned (.plain (OpenSpec.ofChange propChecksSpec)) propChecksCard

/-- THE TIED CARD OF 'attestlaw16.PropViolates'. -/
def propViolatesCard : Claim7 := { stood := { row := propViolatesRow, standIns := [], harness := (true, "03d11b8a0340492924c68857909a896f77fd9dac4e0b499aa23ee9b6a5979652"), looks := true }, kinds := [], alts := [], laidByText := true, laidKinds := [.data, .data, .data, .data, .pinned], laidTests := true, laidLooks := .later }
def PropViolatesCardSaid : Prop := Claim7.holds Tryz.pinned (.plain (OpenSpec.ofChange propViolatesSpec)) propViolatesCard

/-- THE TIED CARD OF 'attestlaw16.PropBack'. -/
def propBackCard : Claim7 := { stood := { row := propBackRow, standIns := [], harness := (true, "03d11b8a0340492924c68857909a896f77fd9dac4e0b499aa23ee9b6a5979652"), looks := true }, kinds := [], alts := [], laidByText := true, laidKinds := [.data, .data, .data, .data, .pinned], laidTests := true, laidLooks := .later }
def PropBackCardSaid : Prop := Claim7.holds Tryz.pinned (.plain (OpenSpec.ofChange propBackSpec)) propBackCard

/-- THE TIED CARD OF 'attestlaw16.PropParses'. -/
def propParsesCard : Claim7 := { stood := { row := propParsesRow, standIns := [], harness := (true, "03d11b8a0340492924c68857909a896f77fd9dac4e0b499aa23ee9b6a5979652"), looks := true }, kinds := [], alts := [], laidByText := true, laidKinds := [.data, .data, .data, .data, .pinned], laidTests := true, laidLooks := .later }
def PropParsesCardSaid : Prop := Claim7.holds Tryz.pinned (.plain (OpenSpec.ofChange propParsesSpec)) propParsesCard

/-- THE TIED CARD OF 'attestlaw15.NetPrints'. -/
def netPrintsCard : Claim7 := { stood := { row := netPrintsRow, standIns := [], harness := (true, "03d11b8a0340492924c68857909a896f77fd9dac4e0b499aa23ee9b6a5979652"), looks := true }, kinds := [], alts := [], laidByText := true, laidKinds := [.data, .data, .data, .data, .sentinel, .sentinel, .pinned], laidTests := true, laidLooks := .later }
def NetPrintsCardSaid : Prop := Claim7.holds Tryz.pinned (.plain (OpenSpec.ofChange netPrintsSpec)) netPrintsCard

/-- THE SECOND FORM's CARD OF 'attestlaw15.NetGreat'. -/
def netGreatUptoCard : Claim7 := { stood := { row := netGreatUptoRow, standIns := [], harness := (true, "03d11b8a0340492924c68857909a896f77fd9dac4e0b499aa23ee9b6a5979652"), looks := true }, kinds := [], alts := [], laidByText := true, laidKinds := [.data, .data, .data, .data, .sentinel, .sentinel, .pinned], laidTests := true, laidLooks := .later }
def NetGreatUptoCardSaid : Prop := Claim7.holds Tryz.pinned (.plain (OpenSpec.upto netGreatSpec)) netGreatUptoCard

/-- THE SECOND FORM's CARD OF 'attestlaw15.NetWidths'. -/
def netWidthsUptoCard : Claim7 := { stood := { row := netWidthsUptoRow, standIns := [], harness := (true, "03d11b8a0340492924c68857909a896f77fd9dac4e0b499aa23ee9b6a5979652"), looks := true }, kinds := [], alts := [], laidByText := true, laidKinds := [.data, .data, .data, .data, .sentinel, .sentinel, .pinned], laidTests := true, laidLooks := .later }
def NetWidthsUptoCardSaid : Prop := Claim7.holds Tryz.pinned (.plain (OpenSpec.upto netWidthsSpec)) netWidthsUptoCard

/-- THE SECOND FORM's CARD OF 'attestlaw15.NetEvals'. -/
def netEvalsUptoCard : Claim7 := { stood := { row := netEvalsUptoRow, standIns := [], harness := (true, "03d11b8a0340492924c68857909a896f77fd9dac4e0b499aa23ee9b6a5979652"), looks := true }, kinds := [], alts := [], laidByText := true, laidKinds := [.data, .data, .data, .data, .sentinel, .sentinel, .pinned], laidTests := true, laidLooks := .later }
def NetEvalsUptoCardSaid : Prop := Claim7.holds Tryz.pinned (.plain (OpenSpec.upto netEvalsSpec)) netEvalsUptoCard

/-- THE SECOND FORM's CARD OF 'attestlaw15.NetParses'. -/
def netParsesUptoCard : Claim7 := { stood := { row := netParsesUptoRow, standIns := [], harness := (true, "03d11b8a0340492924c68857909a896f77fd9dac4e0b499aa23ee9b6a5979652"), looks := true }, kinds := [], alts := [], laidByText := true, laidKinds := [.data, .data, .data, .data, .sentinel, .sentinel, .pinned], laidTests := true, laidLooks := .later }
def NetParsesUptoCardSaid : Prop := Claim7.holds Tryz.pinned (.plain (OpenSpec.upto netParsesSpec)) netParsesUptoCard

/-- THE SECOND FORM's CARD OF 'attestlaw15.NetJoins'. -/
def netJoinsUptoCard : Claim7 := { stood := { row := netJoinsUptoRow, standIns := [], harness := (true, "03d11b8a0340492924c68857909a896f77fd9dac4e0b499aa23ee9b6a5979652"), looks := true }, kinds := [], alts := [], laidByText := true, laidKinds := [.data, .data, .data, .data, .sentinel, .sentinel, .pinned], laidTests := true, laidLooks := .later }
def NetJoinsUptoCardSaid : Prop := Claim7.holds Tryz.pinned (.plain (OpenSpec.upto netJoinsSpec)) netJoinsUptoCard

/-- THE SECOND FORM's CARD OF 'attestlaw16.PropChecks'. -/
def propChecksUptoCard : Claim7 := { stood := { row := propChecksUptoRow, standIns := [], harness := (true, "03d11b8a0340492924c68857909a896f77fd9dac4e0b499aa23ee9b6a5979652"), looks := true }, kinds := [], alts := [], laidByText := true, laidKinds := [.data, .data, .data, .data, .pinned], laidTests := true, laidLooks := .later }
def PropChecksUptoCardSaid : Prop := Claim7.holds Tryz.pinned (.plain (OpenSpec.upto propChecksSpec)) propChecksUptoCard

/-- THE SECOND FORM's CARD OF 'attestlaw16.PropViolates'. -/
def propViolatesUptoCard : Claim7 := { stood := { row := propViolatesUptoRow, standIns := [], harness := (true, "03d11b8a0340492924c68857909a896f77fd9dac4e0b499aa23ee9b6a5979652"), looks := true }, kinds := [], alts := [], laidByText := true, laidKinds := [.data, .data, .data, .data, .pinned], laidTests := true, laidLooks := .later }
def PropViolatesUptoCardSaid : Prop := Claim7.holds Tryz.pinned (.plain (OpenSpec.upto propViolatesSpec)) propViolatesUptoCard

/-- THE SECOND FORM's CARD OF 'attestlaw16.PropBack'. -/
def propBackUptoCard : Claim7 := { stood := { row := propBackUptoRow, standIns := [], harness := (true, "03d11b8a0340492924c68857909a896f77fd9dac4e0b499aa23ee9b6a5979652"), looks := true }, kinds := [], alts := [], laidByText := true, laidKinds := [.data, .data, .data, .data, .pinned], laidTests := true, laidLooks := .later }
def PropBackUptoCardSaid : Prop := Claim7.holds Tryz.pinned (.plain (OpenSpec.upto propBackSpec)) propBackUptoCard

/-- THE SECOND FORM's CARD OF 'attestlaw16.PropParses'. -/
def propParsesUptoCard : Claim7 := { stood := { row := propParsesUptoRow, standIns := [], harness := (true, "03d11b8a0340492924c68857909a896f77fd9dac4e0b499aa23ee9b6a5979652"), looks := true }, kinds := [], alts := [], laidByText := true, laidKinds := [.data, .data, .data, .data, .pinned], laidTests := true, laidLooks := .later }
def PropParsesUptoCardSaid : Prop := Claim7.holds Tryz.pinned (.plain (OpenSpec.upto propParsesSpec)) propParsesUptoCard

/-- THE SECOND FORM's CARD OF 'attestlaw15.NetPrints'. -/
def netPrintsUptoCard : Claim7 := { stood := { row := netPrintsUptoRow, standIns := [], harness := (true, "03d11b8a0340492924c68857909a896f77fd9dac4e0b499aa23ee9b6a5979652"), looks := true }, kinds := [], alts := [], laidByText := true, laidKinds := [.data, .data, .data, .data, .sentinel, .sentinel, .pinned], laidTests := true, laidLooks := .later }
def NetPrintsUptoCardSaid : Prop := Claim7.holds Tryz.pinned (.plain (OpenSpec.upto netPrintsSpec)) netPrintsUptoCard
end Rows
end Go.Proofs.YthdkkpocihkgbaaGreatDoor
