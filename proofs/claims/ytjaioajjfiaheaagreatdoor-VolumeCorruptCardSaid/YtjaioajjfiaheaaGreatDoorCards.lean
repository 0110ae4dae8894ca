/-
  DERIVED. GIVEN WITH THE SEED: THE CARDS: each row of YtjaioajjfiaheaaGreatDoorRows.lean that lists a variable, with what it lists TIED to the program's text (the seventh form; the later family's looks); each row that meets fmt, with fmt's text TOLD by the authors' own Lean function (tested against real Go, not proved from fmt's source: count such statements apart). THE CARD IS WHAT COUNTS. Prove the row's statement (the work); the ties are given (YtjaioajjfiaheaaGreatDoorTie.lean); close each card by the builder's one call (the guide's Derived/Test/ToyasCard.lean, 'card_holds'). Laid BY PROGRAM, IN A SANDBOX (cutbox-door.mjs). By AI agents, Wed Nov 11 2026. No macro, syntax, notation, axiom, sorry.
-/
import Derived.Test.YtjaioajjfiaheaaGreatDoorRows
import GoSem.ClaimSeven
namespace Go.Proofs.YtjaioajjfiaheaaGreatDoor
namespace Rows

/-- THE TIED CARD OF 'wringerlaw23.SealBack'. -/
def sealBackCard : Claim7 := { stood := { row := sealBackRow, standIns := [], harness := (true, "96e372c02552cfcf37b027de661cfc5d5c9384a72ff3b5278bf2ec27bde661ab"), looks := true }, kinds := [], alts := [], laidByText := true, laidKinds := [.data, .data, .data, .data], laidTests := true, laidLooks := .later }
def SealBackCardSaid : Prop := Claim7.holds Tryz.pinned (.plain (OpenSpec.ofChange sealBackSpec)) sealBackCard

/-- THE TIED CARD OF 'wringerlaw23.SealShort'. -/
def sealShortCard : Claim7 := { stood := { row := sealShortRow, standIns := [], harness := (true, "96e372c02552cfcf37b027de661cfc5d5c9384a72ff3b5278bf2ec27bde661ab"), looks := true }, kinds := [], alts := [], laidByText := true, laidKinds := [.data, .data, .data, .data], laidTests := true, laidLooks := .later }
def SealShortCardSaid : Prop := Claim7.holds Tryz.pinned (.plain (OpenSpec.ofChange sealShortSpec)) sealShortCard

/-- THE TIED CARD OF 'wringerlaw23.SealEmpty'. -/
def sealEmptyCard : Claim7 := { stood := { row := sealEmptyRow, standIns := [], harness := (true, "96e372c02552cfcf37b027de661cfc5d5c9384a72ff3b5278bf2ec27bde661ab"), looks := true }, kinds := [], alts := [], laidByText := true, laidKinds := [.data, .data, .data, .data], laidTests := true, laidLooks := .later }
def SealEmptyCardSaid : Prop := Claim7.holds Tryz.pinned (.plain (OpenSpec.ofChange sealEmptySpec)) sealEmptyCard

/-- THE TIED CARD OF 'wringerlaw23.SealOnly'. -/
def sealOnlyCard : Claim7 := { stood := { row := sealOnlyRow, standIns := [], harness := (true, "96e372c02552cfcf37b027de661cfc5d5c9384a72ff3b5278bf2ec27bde661ab"), looks := true }, kinds := [], alts := [], laidByText := true, laidKinds := [.data, .data, .data, .data], laidTests := true, laidLooks := .later }
def SealOnlyCardSaid : Prop := Claim7.holds Tryz.pinned (.plain (OpenSpec.ofChange sealOnlySpec)) sealOnlyCard

/-- THE TIED CARD OF 'wringerlaw23.SealNoughts'. -/
def sealNoughtsCard : Claim7 := { stood := { row := sealNoughtsRow, standIns := [], harness := (true, "96e372c02552cfcf37b027de661cfc5d5c9384a72ff3b5278bf2ec27bde661ab"), looks := true }, kinds := [], alts := [], laidByText := true, laidKinds := [.data, .data, .data, .data], laidTests := true, laidLooks := .later }
def SealNoughtsCardSaid : Prop := Claim7.holds Tryz.pinned (.plain (OpenSpec.ofChange sealNoughtsSpec)) sealNoughtsCard

/-- THE TIED CARD OF 'wringerlaw23.SealKept'. -/
def sealKeptCard : Claim7 := { stood := { row := sealKeptRow, standIns := [], harness := (true, "96e372c02552cfcf37b027de661cfc5d5c9384a72ff3b5278bf2ec27bde661ab"), looks := true }, kinds := [], alts := [], laidByText := true, laidKinds := [.data, .data, .data, .data], laidTests := true, laidLooks := .later }
def SealKeptCardSaid : Prop := Claim7.holds Tryz.pinned (.plain (OpenSpec.ofChange sealKeptSpec)) sealKeptCard

/-- THE TIED CARD OF 'wringerlaw25.VolumeLast'. -/
def volumeLastCard : Claim7 := { stood := { row := volumeLastRow, standIns := [], harness := (true, "96e372c02552cfcf37b027de661cfc5d5c9384a72ff3b5278bf2ec27bde661ab"), looks := true }, kinds := [], alts := [], laidByText := true, laidKinds := [.data, .data, .data, .data], laidTests := true, laidLooks := .later }
def VolumeLastCardSaid : Prop := Claim7.holds Tryz.pinned (.plain (OpenSpec.ofChange volumeLastSpec)) volumeLastCard

/-- THE TIED CARD OF 'wringerlaw25.VolumeSteps'. -/
def volumeStepsCard : Claim7 := { stood := { row := volumeStepsRow, standIns := [], harness := (true, "96e372c02552cfcf37b027de661cfc5d5c9384a72ff3b5278bf2ec27bde661ab"), looks := true }, kinds := [], alts := [], laidByText := true, laidKinds := [.data, .data, .data, .data], laidTests := true, laidLooks := .later }
def VolumeStepsCardSaid : Prop := Claim7.holds Tryz.pinned (.plain (OpenSpec.ofChange volumeStepsSpec)) volumeStepsCard

/-- THE TIED CARD OF 'wringerlaw25.VolumeCorrupt'. -/
def volumeCorruptCard : Claim7 := { stood := { row := volumeCorruptRow, standIns := [], harness := (true, "96e372c02552cfcf37b027de661cfc5d5c9384a72ff3b5278bf2ec27bde661ab"), looks := true }, kinds := [], alts := [], laidByText := true, laidKinds := [.data, .data, .data, .data], laidTests := true, laidLooks := .later }
def VolumeCorruptCardSaid : Prop := Claim7.holds Tryz.pinned (.plain (OpenSpec.ofChange volumeCorruptSpec)) volumeCorruptCard

/-- THE TIED CARD OF 'wringerlaw25.VolumeStored'. -/
def volumeStoredCard : Claim7 := { stood := { row := volumeStoredRow, standIns := [], harness := (true, "96e372c02552cfcf37b027de661cfc5d5c9384a72ff3b5278bf2ec27bde661ab"), looks := true }, kinds := [], alts := [], laidByText := true, laidKinds := [.data, .data, .data, .data], laidTests := true, laidLooks := .later }
def VolumeStoredCardSaid : Prop := Claim7.holds Tryz.pinned (.plain (OpenSpec.ofChange volumeStoredSpec)) volumeStoredCard

/-- THE TIED CARD OF 'wringerlaw25.VolumeWrong'. -/
def volumeWrongCard : Claim7 := { stood := { row := volumeWrongRow, standIns := [], harness := (true, "96e372c02552cfcf37b027de661cfc5d5c9384a72ff3b5278bf2ec27bde661ab"), looks := true }, kinds := [], alts := [], laidByText := true, laidKinds := [.data, .data, .data, .data], laidTests := true, laidLooks := .later }
def VolumeWrongCardSaid : Prop := Claim7.holds Tryz.pinned (.plain (OpenSpec.ofChange volumeWrongSpec)) volumeWrongCard

/-- THE TIED CARD OF 'wringertop.TopEither'. -/
def topEitherCard : Claim7 := { stood := { row := topEitherRow, standIns := [], harness := (true, "96e372c02552cfcf37b027de661cfc5d5c9384a72ff3b5278bf2ec27bde661ab"), looks := true }, kinds := [], alts := [], laidByText := true, laidKinds := [.data, .data, .data, .data], laidTests := true, laidLooks := .later }
def TopEitherCardSaid : Prop := Claim7.holds Tryz.pinned (.plain (OpenSpec.ofChange topEitherSpec)) topEitherCard

/-- THE SECOND FORM's CARD OF 'wringerlaw23.SealBack'. -/
def sealBackUptoCard : Claim7 := { stood := { row := sealBackUptoRow, standIns := [], harness := (true, "96e372c02552cfcf37b027de661cfc5d5c9384a72ff3b5278bf2ec27bde661ab"), looks := true }, kinds := [], alts := [], laidByText := true, laidKinds := [.data, .data, .data, .data], laidTests := true, laidLooks := .later }
def SealBackUptoCardSaid : Prop := Claim7.holds Tryz.pinned (.plain (OpenSpec.upto sealBackSpec)) sealBackUptoCard

/-- THE SECOND FORM's CARD OF 'wringerlaw23.SealShort'. -/
def sealShortUptoCard : Claim7 := { stood := { row := sealShortUptoRow, standIns := [], harness := (true, "96e372c02552cfcf37b027de661cfc5d5c9384a72ff3b5278bf2ec27bde661ab"), looks := true }, kinds := [], alts := [], laidByText := true, laidKinds := [.data, .data, .data, .data], laidTests := true, laidLooks := .later }
def SealShortUptoCardSaid : Prop := Claim7.holds Tryz.pinned (.plain (OpenSpec.upto sealShortSpec)) sealShortUptoCard

/-- THE SECOND FORM's CARD OF 'wringerlaw23.SealEmpty'. -/
def sealEmptyUptoCard : Claim7 := { stood := { row := sealEmptyUptoRow, standIns := [], harness := (true, "96e372c02552cfcf37b027de661cfc5d5c9384a72ff3b5278bf2ec27bde661ab"), looks := true }, kinds := [], alts := [], laidByText := true, laidKinds := [.data, .data, .data, .data], laidTests := true, laidLooks := .later }
def SealEmptyUptoCardSaid : Prop := Claim7.holds Tryz.pinned (.plain (OpenSpec.upto sealEmptySpec)) sealEmptyUptoCard

/-- THE SECOND FORM's CARD OF 'wringerlaw23.SealOnly'. -/
def sealOnlyUptoCard : Claim7 := { stood := { row := sealOnlyUptoRow, standIns := [], harness := (true, "96e372c02552cfcf37b027de661cfc5d5c9384a72ff3b5278bf2ec27bde661ab"), looks := true }, kinds := [], alts := [], laidByText := true, laidKinds := [.data, .data, .data, .data], laidTests := true, laidLooks := .later }
def SealOnlyUptoCardSaid : Prop := Claim7.holds Tryz.pinned (.plain (OpenSpec.upto sealOnlySpec)) sealOnlyUptoCard

/-- THE SECOND FORM's CARD OF 'wringerlaw23.SealNoughts'. -/
def sealNoughtsUptoCard : Claim7 := { stood := { row := sealNoughtsUptoRow, standIns := [], harness := (true, "96e372c02552cfcf37b027de661cfc5d5c9384a72ff3b5278bf2ec27bde661ab"), looks := true }, kinds := [], alts := [], laidByText := true, laidKinds := [.data, .data, .data, .data], laidTests := true, laidLooks := .later }
def SealNoughtsUptoCardSaid : Prop := Claim7.holds Tryz.pinned (.plain (OpenSpec.upto sealNoughtsSpec)) sealNoughtsUptoCard

/-- THE SECOND FORM's CARD OF 'wringerlaw23.SealKept'. -/
def sealKeptUptoCard : Claim7 := { stood := { row := sealKeptUptoRow, standIns := [], harness := (true, "96e372c02552cfcf37b027de661cfc5d5c9384a72ff3b5278bf2ec27bde661ab"), looks := true }, kinds := [], alts := [], laidByText := true, laidKinds := [.data, .data, .data, .data], laidTests := true, laidLooks := .later }
def SealKeptUptoCardSaid : Prop := Claim7.holds Tryz.pinned (.plain (OpenSpec.upto sealKeptSpec)) sealKeptUptoCard

/-- THE SECOND FORM's CARD OF 'wringerlaw25.VolumeLast'. -/
def volumeLastUptoCard : Claim7 := { stood := { row := volumeLastUptoRow, standIns := [], harness := (true, "96e372c02552cfcf37b027de661cfc5d5c9384a72ff3b5278bf2ec27bde661ab"), looks := true }, kinds := [], alts := [], laidByText := true, laidKinds := [.data, .data, .data, .data], laidTests := true, laidLooks := .later }
def VolumeLastUptoCardSaid : Prop := Claim7.holds Tryz.pinned (.plain (OpenSpec.upto volumeLastSpec)) volumeLastUptoCard

/-- THE SECOND FORM's CARD OF 'wringerlaw25.VolumeSteps'. -/
def volumeStepsUptoCard : Claim7 := { stood := { row := volumeStepsUptoRow, standIns := [], harness := (true, "96e372c02552cfcf37b027de661cfc5d5c9384a72ff3b5278bf2ec27bde661ab"), looks := true }, kinds := [], alts := [], laidByText := true, laidKinds := [.data, .data, .data, .data], laidTests := true, laidLooks := .later }
def VolumeStepsUptoCardSaid : Prop := Claim7.holds Tryz.pinned (.plain (OpenSpec.upto volumeStepsSpec)) volumeStepsUptoCard

/-- THE SECOND FORM's CARD OF 'wringerlaw25.VolumeCorrupt'. -/
def volumeCorruptUptoCard : Claim7 := { stood := { row := volumeCorruptUptoRow, standIns := [], harness := (true, "96e372c02552cfcf37b027de661cfc5d5c9384a72ff3b5278bf2ec27bde661ab"), looks := true }, kinds := [], alts := [], laidByText := true, laidKinds := [.data, .data, .data, .data], laidTests := true, laidLooks := .later }
def VolumeCorruptUptoCardSaid : Prop := Claim7.holds Tryz.pinned (.plain (OpenSpec.upto volumeCorruptSpec)) volumeCorruptUptoCard

/-- THE SECOND FORM's CARD OF 'wringerlaw25.VolumeStored'. -/
def volumeStoredUptoCard : Claim7 := { stood := { row := volumeStoredUptoRow, standIns := [], harness := (true, "96e372c02552cfcf37b027de661cfc5d5c9384a72ff3b5278bf2ec27bde661ab"), looks := true }, kinds := [], alts := [], laidByText := true, laidKinds := [.data, .data, .data, .data], laidTests := true, laidLooks := .later }
def VolumeStoredUptoCardSaid : Prop := Claim7.holds Tryz.pinned (.plain (OpenSpec.upto volumeStoredSpec)) volumeStoredUptoCard

/-- THE SECOND FORM's CARD OF 'wringerlaw25.VolumeWrong'. -/
def volumeWrongUptoCard : Claim7 := { stood := { row := volumeWrongUptoRow, standIns := [], harness := (true, "96e372c02552cfcf37b027de661cfc5d5c9384a72ff3b5278bf2ec27bde661ab"), looks := true }, kinds := [], alts := [], laidByText := true, laidKinds := [.data, .data, .data, .data], laidTests := true, laidLooks := .later }
def VolumeWrongUptoCardSaid : Prop := Claim7.holds Tryz.pinned (.plain (OpenSpec.upto volumeWrongSpec)) volumeWrongUptoCard

/-- THE SECOND FORM's CARD OF 'wringertop.TopEither'. -/
def topEitherUptoCard : Claim7 := { stood := { row := topEitherUptoRow, standIns := [], harness := (true, "96e372c02552cfcf37b027de661cfc5d5c9384a72ff3b5278bf2ec27bde661ab"), looks := true }, kinds := [], alts := [], laidByText := true, laidKinds := [.data, .data, .data, .data], laidTests := true, laidLooks := .later }
def TopEitherUptoCardSaid : Prop := Claim7.holds Tryz.pinned (.plain (OpenSpec.upto topEitherSpec)) topEitherUptoCard
end Rows
end Go.Proofs.YtjaioajjfiaheaaGreatDoor
