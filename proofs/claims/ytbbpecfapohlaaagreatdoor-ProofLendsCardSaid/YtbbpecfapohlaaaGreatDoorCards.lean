/-
  DERIVED. GIVEN WITH THE SEED: THE CARDS: each row of YtbbpecfapohlaaaGreatDoorRows.lean that lists a variable, with what it lists TIED to the program's text (the seventh form; the later family's looks); each row that meets fmt, with fmt's text TOLD by the authors' own Lean function (tested against real Go, not proved from fmt's source: count such statements apart). THE CARD IS WHAT COUNTS. Prove the row's statement (the work); the ties are given (YtbbpecfapohlaaaGreatDoorTie.lean); close each card by the builder's one call (the guide's Derived/Test/ToyasCard.lean, 'card_holds'). Laid BY PROGRAM, IN A SANDBOX (cutbox-door.mjs). By AI agents, Wed Nov 11 2026. No macro, syntax, notation, axiom, sorry.
-/
import Derived.Test.YtbbpecfapohlaaaGreatDoorRows
import GoSem.ClaimSeven
namespace Go.Proofs.YtbbpecfapohlaaaGreatDoor
namespace Rows

/-- THE TIED CARD OF 'attestlaw22.ProofChecks'. -/
def proofChecksCard : Claim7 := { stood := { row := proofChecksRow, standIns := [], harness := (true, "46b99b6623044a924f54f80c78617dc4b6c0c9b2eb70dbde33386bd9ad078d98"), looks := true }, kinds := [], alts := [], laidByText := true, laidKinds := [.data, .data, .data, .data, .pinned], laidTests := true, laidLooks := .later }
def ProofChecksCardSaid : Prop := Claim7.holds Tryz.pinned (.plain (OpenSpec.ofChange proofChecksSpec)) proofChecksCard

/-- THE TIED CARD OF 'attestlaw22.ProofSound'. -/
def proofSoundCard : Claim7 := { stood := { row := proofSoundRow, standIns := [], harness := (true, "46b99b6623044a924f54f80c78617dc4b6c0c9b2eb70dbde33386bd9ad078d98"), looks := true }, kinds := [], alts := [], laidByText := true, laidKinds := [.data, .data, .data, .data, .pinned], laidTests := true, laidLooks := .later }
def ProofSoundCardSaid : Prop := Claim7.holds Tryz.pinned (.plain (OpenSpec.ofChange proofSoundSpec)) proofSoundCard

/-- THE TIED CARD OF 'attestlaw22.ProofLends'. -/
def proofLendsCard : Claim7 := { stood := { row := proofLendsRow, standIns := [], harness := (true, "46b99b6623044a924f54f80c78617dc4b6c0c9b2eb70dbde33386bd9ad078d98"), looks := true }, kinds := [], alts := [], laidByText := true, laidKinds := [.data, .data, .data, .data, .pinned], laidTests := true, laidLooks := .later }
def ProofLendsCardSaid : Prop := Claim7.holds Tryz.pinned (.plain (OpenSpec.ofChange proofLendsSpec)) proofLendsCard

/-- THE TIED CARD OF 'attestlaw25.AletheParses'. -/
def aletheParsesCard : Claim7 := { stood := { row := aletheParsesRow, standIns := [], harness := (true, "46b99b6623044a924f54f80c78617dc4b6c0c9b2eb70dbde33386bd9ad078d98"), looks := true }, kinds := [], alts := [], laidByText := true, laidKinds := [.data, .data, .data, .data, .sentinel, .sentinel, .pinned], laidTests := true, laidLooks := .later }
def AletheParsesCardSaid : Prop := Claim7.holds Tryz.pinned (.plain (OpenSpec.ofChange aletheParsesSpec)) aletheParsesCard

/-- THE TIED CARD OF 'attestlaw25.AlethePrints'. -/
def alethePrintsCard : Claim7 := { stood := { row := alethePrintsRow, standIns := [], harness := (true, "46b99b6623044a924f54f80c78617dc4b6c0c9b2eb70dbde33386bd9ad078d98"), looks := true }, kinds := [], alts := [], laidByText := true, laidKinds := [.data, .data, .data, .data, .sentinel, .sentinel, .pinned], laidTests := true, laidLooks := .later }
def AlethePrintsCardSaid : Prop := Claim7.holds Tryz.pinned (.plain (OpenSpec.ofChange alethePrintsSpec)) alethePrintsCard

/-- THE TIED CARD OF 'attestlaw25.AletheBack'. -/
def aletheBackCard : Claim7 := { stood := { row := aletheBackRow, standIns := [], harness := (true, "46b99b6623044a924f54f80c78617dc4b6c0c9b2eb70dbde33386bd9ad078d98"), looks := true }, kinds := [], alts := [], laidByText := true, laidKinds := [.data, .data, .data, .data, .sentinel, .sentinel, .pinned], laidTests := true, laidLooks := .later }
def AletheBackCardSaid : Prop := Claim7.holds Tryz.pinned (.plain (OpenSpec.ofChange aletheBackSpec)) aletheBackCard

/-- THE TIED CARD OF 'attestlaw25.AletheSpoils'. -/
def aletheSpoilsCard : Claim7 := { stood := { row := aletheSpoilsRow, standIns := [], harness := (true, "46b99b6623044a924f54f80c78617dc4b6c0c9b2eb70dbde33386bd9ad078d98"), looks := true }, kinds := [], alts := [], laidByText := true, laidKinds := [.data, .data, .data, .data, .sentinel, .sentinel, .pinned], laidTests := true, laidLooks := .later }
def AletheSpoilsCardSaid : Prop := Claim7.holds Tryz.pinned (.plain (OpenSpec.ofChange aletheSpoilsSpec)) aletheSpoilsCard

/-- THE TIED CARD OF 'attestlaw14.SmtChecks'. -/
def smtChecksCard : Claim7 := { stood := { row := smtChecksRow, standIns := [], harness := (true, "46b99b6623044a924f54f80c78617dc4b6c0c9b2eb70dbde33386bd9ad078d98"), looks := true }, kinds := [], alts := [], laidByText := true, laidKinds := [.data, .data, .data, .data, .pinned], laidTests := true, laidLooks := .later }
def SmtChecksCardSaid : Prop := Claim7.holds Tryz.pinned (.plain (OpenSpec.ofChange smtChecksSpec)) smtChecksCard

/-- THE TIED CARD OF 'attestlaw14.SmtTidies'. -/
def smtTidiesCard : Claim7 := { stood := { row := smtTidiesRow, standIns := [], harness := (true, "46b99b6623044a924f54f80c78617dc4b6c0c9b2eb70dbde33386bd9ad078d98"), looks := true }, kinds := [], alts := [], laidByText := true, laidKinds := [.data, .data, .data, .data, .pinned], laidTests := true, laidLooks := .later }
def SmtTidiesCardSaid : Prop := Claim7.holds Tryz.pinned (.plain (OpenSpec.ofChange smtTidiesSpec)) smtTidiesCard

/-- THE TIED CARD OF 'attestlaw14.SmtMeans'. -/
def smtMeansCard : Claim7 := { stood := { row := smtMeansRow, standIns := [], harness := (true, "46b99b6623044a924f54f80c78617dc4b6c0c9b2eb70dbde33386bd9ad078d98"), looks := true }, kinds := [], alts := [], laidByText := true, laidKinds := [.data, .data, .data, .data, .pinned], laidTests := true, laidLooks := .later }
def SmtMeansCardSaid : Prop := Claim7.holds Tryz.pinned (.plain (OpenSpec.ofChange smtMeansSpec)) smtMeansCard

/-- THE TIED CARD OF 'attestlaw14.SmtPrints'. -/
def smtPrintsCard : Claim7 := { stood := { row := smtPrintsRow, standIns := [], harness := (true, "46b99b6623044a924f54f80c78617dc4b6c0c9b2eb70dbde33386bd9ad078d98"), looks := true }, kinds := [], alts := [], laidByText := true, laidKinds := [.data, .data, .data, .data, .sentinel, .sentinel, .pinned], laidTests := true, laidLooks := .later }
def SmtPrintsCardSaid : Prop := Claim7.holds Tryz.pinned (.plain (OpenSpec.ofChange smtPrintsSpec)) smtPrintsCard

/-- THE TIED CARD OF 'attestlaw14.SmtSpoils'. -/
def smtSpoilsCard : Claim7 := { stood := { row := smtSpoilsRow, standIns := [], harness := (true, "46b99b6623044a924f54f80c78617dc4b6c0c9b2eb70dbde33386bd9ad078d98"), looks := true }, kinds := [], alts := [], laidByText := true, laidKinds := [.data, .data, .data, .data, .sentinel, .sentinel, .pinned], laidTests := true, laidLooks := .later }
def SmtSpoilsCardSaid : Prop := Claim7.holds Tryz.pinned (.plain (OpenSpec.ofChange smtSpoilsSpec)) smtSpoilsCard

/-- THE SECOND FORM's CARD OF 'attestlaw22.ProofChecks'. -/
def proofChecksUptoCard : Claim7 := { stood := { row := proofChecksUptoRow, standIns := [], harness := (true, "46b99b6623044a924f54f80c78617dc4b6c0c9b2eb70dbde33386bd9ad078d98"), looks := true }, kinds := [], alts := [], laidByText := true, laidKinds := [.data, .data, .data, .data, .pinned], laidTests := true, laidLooks := .later }
def ProofChecksUptoCardSaid : Prop := Claim7.holds Tryz.pinned (.plain (OpenSpec.upto proofChecksSpec)) proofChecksUptoCard

/-- THE SECOND FORM's CARD OF 'attestlaw22.ProofSound'. -/
def proofSoundUptoCard : Claim7 := { stood := { row := proofSoundUptoRow, standIns := [], harness := (true, "46b99b6623044a924f54f80c78617dc4b6c0c9b2eb70dbde33386bd9ad078d98"), looks := true }, kinds := [], alts := [], laidByText := true, laidKinds := [.data, .data, .data, .data, .pinned], laidTests := true, laidLooks := .later }
def ProofSoundUptoCardSaid : Prop := Claim7.holds Tryz.pinned (.plain (OpenSpec.upto proofSoundSpec)) proofSoundUptoCard

/-- THE SECOND FORM's CARD OF 'attestlaw22.ProofLends'. -/
def proofLendsUptoCard : Claim7 := { stood := { row := proofLendsUptoRow, standIns := [], harness := (true, "46b99b6623044a924f54f80c78617dc4b6c0c9b2eb70dbde33386bd9ad078d98"), looks := true }, kinds := [], alts := [], laidByText := true, laidKinds := [.data, .data, .data, .data, .pinned], laidTests := true, laidLooks := .later }
def ProofLendsUptoCardSaid : Prop := Claim7.holds Tryz.pinned (.plain (OpenSpec.upto proofLendsSpec)) proofLendsUptoCard

/-- THE SECOND FORM's CARD OF 'attestlaw25.AletheParses'. -/
def aletheParsesUptoCard : Claim7 := { stood := { row := aletheParsesUptoRow, standIns := [], harness := (true, "46b99b6623044a924f54f80c78617dc4b6c0c9b2eb70dbde33386bd9ad078d98"), looks := true }, kinds := [], alts := [], laidByText := true, laidKinds := [.data, .data, .data, .data, .sentinel, .sentinel, .pinned], laidTests := true, laidLooks := .later }
def AletheParsesUptoCardSaid : Prop := Claim7.holds Tryz.pinned (.plain (OpenSpec.upto aletheParsesSpec)) aletheParsesUptoCard

/-- THE SECOND FORM's CARD OF 'attestlaw25.AlethePrints'. -/
def alethePrintsUptoCard : Claim7 := { stood := { row := alethePrintsUptoRow, standIns := [], harness := (true, "46b99b6623044a924f54f80c78617dc4b6c0c9b2eb70dbde33386bd9ad078d98"), looks := true }, kinds := [], alts := [], laidByText := true, laidKinds := [.data, .data, .data, .data, .sentinel, .sentinel, .pinned], laidTests := true, laidLooks := .later }
def AlethePrintsUptoCardSaid : Prop := Claim7.holds Tryz.pinned (.plain (OpenSpec.upto alethePrintsSpec)) alethePrintsUptoCard

/-- THE SECOND FORM's CARD OF 'attestlaw25.AletheBack'. -/
def aletheBackUptoCard : Claim7 := { stood := { row := aletheBackUptoRow, standIns := [], harness := (true, "46b99b6623044a924f54f80c78617dc4b6c0c9b2eb70dbde33386bd9ad078d98"), looks := true }, kinds := [], alts := [], laidByText := true, laidKinds := [.data, .data, .data, .data, .sentinel, .sentinel, .pinned], laidTests := true, laidLooks := .later }
def AletheBackUptoCardSaid : Prop := Claim7.holds Tryz.pinned (.plain (OpenSpec.upto aletheBackSpec)) aletheBackUptoCard

/-- THE SECOND FORM's CARD OF 'attestlaw25.AletheSpoils'. -/
def aletheSpoilsUptoCard : Claim7 := { stood := { row := aletheSpoilsUptoRow, standIns := [], harness := (true, "46b99b6623044a924f54f80c78617dc4b6c0c9b2eb70dbde33386bd9ad078d98"), looks := true }, kinds := [], alts := [], laidByText := true, laidKinds := [.data, .data, .data, .data, .sentinel, .sentinel, .pinned], laidTests := true, laidLooks := .later }
def AletheSpoilsUptoCardSaid : Prop := Claim7.holds Tryz.pinned (.plain (OpenSpec.upto aletheSpoilsSpec)) aletheSpoilsUptoCard

/-- THE SECOND FORM's CARD OF 'attestlaw14.SmtChecks'. -/
def smtChecksUptoCard : Claim7 := { stood := { row := smtChecksUptoRow, standIns := [], harness := (true, "46b99b6623044a924f54f80c78617dc4b6c0c9b2eb70dbde33386bd9ad078d98"), looks := true }, kinds := [], alts := [], laidByText := true, laidKinds := [.data, .data, .data, .data, .pinned], laidTests := true, laidLooks := .later }
def SmtChecksUptoCardSaid : Prop := Claim7.holds Tryz.pinned (.plain (OpenSpec.upto smtChecksSpec)) smtChecksUptoCard

/-- THE SECOND FORM's CARD OF 'attestlaw14.SmtTidies'. -/
def smtTidiesUptoCard : Claim7 := { stood := { row := smtTidiesUptoRow, standIns := [], harness := (true, "46b99b6623044a924f54f80c78617dc4b6c0c9b2eb70dbde33386bd9ad078d98"), looks := true }, kinds := [], alts := [], laidByText := true, laidKinds := [.data, .data, .data, .data, .pinned], laidTests := true, laidLooks := .later }
def SmtTidiesUptoCardSaid : Prop := Claim7.holds Tryz.pinned (.plain (OpenSpec.upto smtTidiesSpec)) smtTidiesUptoCard

/-- THE SECOND FORM's CARD OF 'attestlaw14.SmtMeans'. -/
def smtMeansUptoCard : Claim7 := { stood := { row := smtMeansUptoRow, standIns := [], harness := (true, "46b99b6623044a924f54f80c78617dc4b6c0c9b2eb70dbde33386bd9ad078d98"), looks := true }, kinds := [], alts := [], laidByText := true, laidKinds := [.data, .data, .data, .data, .pinned], laidTests := true, laidLooks := .later }
def SmtMeansUptoCardSaid : Prop := Claim7.holds Tryz.pinned (.plain (OpenSpec.upto smtMeansSpec)) smtMeansUptoCard

/-- THE SECOND FORM's CARD OF 'attestlaw14.SmtPrints'. -/
def smtPrintsUptoCard : Claim7 := { stood := { row := smtPrintsUptoRow, standIns := [], harness := (true, "46b99b6623044a924f54f80c78617dc4b6c0c9b2eb70dbde33386bd9ad078d98"), looks := true }, kinds := [], alts := [], laidByText := true, laidKinds := [.data, .data, .data, .data, .sentinel, .sentinel, .pinned], laidTests := true, laidLooks := .later }
def SmtPrintsUptoCardSaid : Prop := Claim7.holds Tryz.pinned (.plain (OpenSpec.upto smtPrintsSpec)) smtPrintsUptoCard

/-- THE SECOND FORM's CARD OF 'attestlaw14.SmtSpoils'. -/
def smtSpoilsUptoCard : Claim7 := { stood := { row := smtSpoilsUptoRow, standIns := [], harness := (true, "46b99b6623044a924f54f80c78617dc4b6c0c9b2eb70dbde33386bd9ad078d98"), looks := true }, kinds := [], alts := [], laidByText := true, laidKinds := [.data, .data, .data, .data, .sentinel, .sentinel, .pinned], laidTests := true, laidLooks := .later }
def SmtSpoilsUptoCardSaid : Prop := Claim7.holds Tryz.pinned (.plain (OpenSpec.upto smtSpoilsSpec)) smtSpoilsUptoCard
end Rows
end Go.Proofs.YtbbpecfapohlaaaGreatDoor
