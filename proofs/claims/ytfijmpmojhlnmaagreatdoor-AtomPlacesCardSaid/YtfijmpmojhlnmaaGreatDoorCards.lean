/-
  DERIVED. GIVEN WITH THE SEED: THE CARDS: each row of YtfijmpmojhlnmaaGreatDoorRows.lean that lists a variable, with what it lists TIED to the program's text (the seventh form; the later family's looks); each row that meets fmt, with fmt's text TOLD by the authors' own Lean function (tested against real Go, not proved from fmt's source: count such statements apart). THE CARD IS WHAT COUNTS. Prove the row's statement (the work); the ties are given (YtfijmpmojhlnmaaGreatDoorTie.lean); close each card by the builder's one call (the guide's Derived/Test/ToyasCard.lean, 'card_holds'). Laid BY PROGRAM, IN A SANDBOX (cutbox-door.mjs). By AI agents, Wed Nov 11 2026. No macro, syntax, notation, axiom, sorry.
-/
import Derived.Test.YtfijmpmojhlnmaaGreatDoorRows
import GoSem.ClaimSeven
namespace Go.Proofs.YtfijmpmojhlnmaaGreatDoor
namespace Rows

/-- THE TIED CARD OF 'attestlaw24.CompactShares'. -/
def compactSharesCard : Claim7 := { stood := { row := compactSharesRow, standIns := [], harness := (true, "a1a1c9639aea2ea04c62ea330bc5e323d55b9b55cc10a6b686cde24699b5f140"), looks := false }, kinds := [], alts := [], laidByText := true, laidKinds := [.data, .pinned], laidTests := true, laidLooks := .later }
def CompactSharesCardSaid : Prop := Claim7.holds Tryz.pinned (.plain (OpenSpec.ofChange compactSharesSpec)) compactSharesCard

/-- THE TIED CARD OF 'attestlaw24.CompactCompacts'. -/
def compactCompactsCard : Claim7 := { stood := { row := compactCompactsRow, standIns := [], harness := (true, "a1a1c9639aea2ea04c62ea330bc5e323d55b9b55cc10a6b686cde24699b5f140"), looks := false }, kinds := [], alts := [], laidByText := true, laidKinds := [.data, .pinned], laidTests := true, laidLooks := .later }
def CompactCompactsCardSaid : Prop := Claim7.holds Tryz.pinned (.plain (OpenSpec.ofChange compactCompactsSpec)) compactCompactsCard

/-- THE TIED CARD OF 'attestlaw09.AtomKeys'. -/
def atomKeysCard : Claim7 := { stood := { row := atomKeysRow, standIns := [], harness := (true, "a1a1c9639aea2ea04c62ea330bc5e323d55b9b55cc10a6b686cde24699b5f140"), looks := false }, kinds := [], alts := [], laidByText := true, laidKinds := [.data, .data, .data, .data, .pinned], laidTests := true, laidLooks := .later }
def AtomKeysCardSaid : Prop := Claim7.holds Tryz.pinned (.plain (OpenSpec.ofChange atomKeysSpec)) atomKeysCard

/-- THE TIED CARD OF 'attestlaw09.AtomPlaces'. -/
def atomPlacesCard : Claim7 := { stood := { row := atomPlacesRow, standIns := [], harness := (true, "a1a1c9639aea2ea04c62ea330bc5e323d55b9b55cc10a6b686cde24699b5f140"), looks := false }, kinds := [], alts := [], laidByText := true, laidKinds := [.data, .data, .data, .data, .pinned], laidTests := true, laidLooks := .later }
def AtomPlacesCardSaid : Prop := Claim7.holds Tryz.pinned (.plain (OpenSpec.ofChange atomPlacesSpec)) atomPlacesCard

/-- THE SECOND FORM's CARD OF 'attestlaw24.CompactShares'. -/
def compactSharesUptoCard : Claim7 := { stood := { row := compactSharesUptoRow, standIns := [], harness := (true, "a1a1c9639aea2ea04c62ea330bc5e323d55b9b55cc10a6b686cde24699b5f140"), looks := false }, kinds := [], alts := [], laidByText := true, laidKinds := [.data, .pinned], laidTests := true, laidLooks := .later }
def CompactSharesUptoCardSaid : Prop := Claim7.holds Tryz.pinned (.plain (OpenSpec.upto compactSharesSpec)) compactSharesUptoCard

/-- THE SECOND FORM's CARD OF 'attestlaw24.CompactCompacts'. -/
def compactCompactsUptoCard : Claim7 := { stood := { row := compactCompactsUptoRow, standIns := [], harness := (true, "a1a1c9639aea2ea04c62ea330bc5e323d55b9b55cc10a6b686cde24699b5f140"), looks := false }, kinds := [], alts := [], laidByText := true, laidKinds := [.data, .pinned], laidTests := true, laidLooks := .later }
def CompactCompactsUptoCardSaid : Prop := Claim7.holds Tryz.pinned (.plain (OpenSpec.upto compactCompactsSpec)) compactCompactsUptoCard

/-- THE SECOND FORM's CARD OF 'attestlaw09.AtomKeys'. -/
def atomKeysUptoCard : Claim7 := { stood := { row := atomKeysUptoRow, standIns := [], harness := (true, "a1a1c9639aea2ea04c62ea330bc5e323d55b9b55cc10a6b686cde24699b5f140"), looks := false }, kinds := [], alts := [], laidByText := true, laidKinds := [.data, .data, .data, .data, .pinned], laidTests := true, laidLooks := .later }
def AtomKeysUptoCardSaid : Prop := Claim7.holds Tryz.pinned (.plain (OpenSpec.upto atomKeysSpec)) atomKeysUptoCard

/-- THE SECOND FORM's CARD OF 'attestlaw09.AtomPlaces'. -/
def atomPlacesUptoCard : Claim7 := { stood := { row := atomPlacesUptoRow, standIns := [], harness := (true, "a1a1c9639aea2ea04c62ea330bc5e323d55b9b55cc10a6b686cde24699b5f140"), looks := false }, kinds := [], alts := [], laidByText := true, laidKinds := [.data, .data, .data, .data, .pinned], laidTests := true, laidLooks := .later }
def AtomPlacesUptoCardSaid : Prop := Claim7.holds Tryz.pinned (.plain (OpenSpec.upto atomPlacesSpec)) atomPlacesUptoCard
end Rows
end Go.Proofs.YtfijmpmojhlnmaaGreatDoor
