/-
  DERIVED. GIVEN WITH THE SEED: THE CARDS: each row of YtbpghohkhngdfaaGreatDoorRows.lean that lists a variable, with what it lists TIED to the program's text (the seventh form; the later family's looks); each row that meets fmt, with fmt's text TOLD by the authors' own Lean function (tested against real Go, not proved from fmt's source: count such statements apart). THE CARD IS WHAT COUNTS. Prove the row's statement (the work); the ties are given (YtbpghohkhngdfaaGreatDoorTie.lean); close each card by the builder's one call (the guide's Derived/Test/ToyasCard.lean, 'card_holds'). Laid BY PROGRAM, IN A SANDBOX (cutbox-door.mjs). By AI agents, Wed Nov 11 2026. No macro, syntax, notation, axiom, sorry.
-/
import Derived.Test.YtbpghohkhngdfaaGreatDoorRows
import GoSem.ClaimSeven
namespace Go.Proofs.YtbpghohkhngdfaaGreatDoor
namespace Rows

/-- THE TIED CARD OF 'wringerlaw21.WideNew'. -/
def wideNewCard : Claim7 := { stood := { row := wideNewRow, standIns := [], harness := (true, "f6eab7525d14b2a34073508c1d4788de32348c5704d4f0411147ca4ec2fe212f"), looks := true }, kinds := [], alts := [], laidByText := true, laidKinds := [.data, .data, .data, .data], laidTests := true, laidLooks := .later }
def WideNewCardSaid : Prop := Claim7.holds Tryz.pinned (.plain (OpenSpec.ofChange wideNewSpec)) wideNewCard

/-- THE TIED CARD OF 'wringerlaw21.WideLengths'. -/
def wideLengthsCard : Claim7 := { stood := { row := wideLengthsRow, standIns := [], harness := (true, "f6eab7525d14b2a34073508c1d4788de32348c5704d4f0411147ca4ec2fe212f"), looks := true }, kinds := [], alts := [], laidByText := true, laidKinds := [.data, .data, .data, .data], laidTests := true, laidLooks := .later }
def WideLengthsCardSaid : Prop := Claim7.holds Tryz.pinned (.plain (OpenSpec.ofChange wideLengthsSpec)) wideLengthsCard

/-- THE TIED CARD OF 'wringerlaw21.WideKept'. -/
def wideKeptCard : Claim7 := { stood := { row := wideKeptRow, standIns := [], harness := (true, "f6eab7525d14b2a34073508c1d4788de32348c5704d4f0411147ca4ec2fe212f"), looks := true }, kinds := [], alts := [], laidByText := true, laidKinds := [.data, .data, .data, .data], laidTests := true, laidLooks := .later }
def WideKeptCardSaid : Prop := Claim7.holds Tryz.pinned (.plain (OpenSpec.ofChange wideKeptSpec)) wideKeptCard

/-- THE TIED CARD OF 'wringerlaw21.WideBack'. -/
def wideBackCard : Claim7 := { stood := { row := wideBackRow, standIns := [], harness := (true, "f6eab7525d14b2a34073508c1d4788de32348c5704d4f0411147ca4ec2fe212f"), looks := true }, kinds := [], alts := [], laidByText := true, laidKinds := [.data, .data, .data, .data], laidTests := true, laidLooks := .later }
def WideBackCardSaid : Prop := Claim7.holds Tryz.pinned (.plain (OpenSpec.ofChange wideBackSpec)) wideBackCard

/-- THE TIED CARD OF 'wringerlaw21.WideApart'. -/
def wideApartCard : Claim7 := { stood := { row := wideApartRow, standIns := [], harness := (true, "f6eab7525d14b2a34073508c1d4788de32348c5704d4f0411147ca4ec2fe212f"), looks := true }, kinds := [], alts := [], laidByText := true, laidKinds := [.data, .data, .data, .data], laidTests := true, laidLooks := .later }
def WideApartCardSaid : Prop := Claim7.holds Tryz.pinned (.plain (OpenSpec.ofChange wideApartSpec)) wideApartCard

/-- THE TIED CARD OF 'wringerlaw21.WidePlace'. -/
def widePlaceCard : Claim7 := { stood := { row := widePlaceRow, standIns := [], harness := (true, "f6eab7525d14b2a34073508c1d4788de32348c5704d4f0411147ca4ec2fe212f"), looks := true }, kinds := [], alts := [], laidByText := true, laidKinds := [.data, .data, .data, .data], laidTests := true, laidLooks := .later }
def WidePlaceCardSaid : Prop := Claim7.holds Tryz.pinned (.plain (OpenSpec.ofChange widePlaceSpec)) widePlaceCard

/-- THE TIED CARD OF 'wringerlaw21.WideRowed'. -/
def wideRowedCard : Claim7 := { stood := { row := wideRowedRow, standIns := [], harness := (true, "f6eab7525d14b2a34073508c1d4788de32348c5704d4f0411147ca4ec2fe212f"), looks := true }, kinds := [], alts := [], laidByText := true, laidKinds := [.data, .data, .data, .data], laidTests := true, laidLooks := .later }
def WideRowedCardSaid : Prop := Claim7.holds Tryz.pinned (.plain (OpenSpec.ofChange wideRowedSpec)) wideRowedCard

/-- THE TIED CARD OF 'wringerlaw21.WideTurns'. -/
def wideTurnsCard : Claim7 := { stood := { row := wideTurnsRow, standIns := [], harness := (true, "f6eab7525d14b2a34073508c1d4788de32348c5704d4f0411147ca4ec2fe212f"), looks := true }, kinds := [], alts := [], laidByText := true, laidKinds := [.data, .data, .data, .data], laidTests := true, laidLooks := .later }
def WideTurnsCardSaid : Prop := Claim7.holds Tryz.pinned (.plain (OpenSpec.ofChange wideTurnsSpec)) wideTurnsCard

/-- THE TIED CARD OF 'wringerlaw21.WideRows'. -/
def wideRowsCard : Claim7 := { stood := { row := wideRowsRow, standIns := [], harness := (true, "f6eab7525d14b2a34073508c1d4788de32348c5704d4f0411147ca4ec2fe212f"), looks := true }, kinds := [], alts := [], laidByText := true, laidKinds := [.data, .data, .data, .data], laidTests := true, laidLooks := .later }
def WideRowsCardSaid : Prop := Claim7.holds Tryz.pinned (.plain (OpenSpec.ofChange wideRowsSpec)) wideRowsCard

/-- THE TIED CARD OF 'wringerlaw23.SealBack'. -/
def sealBackCard : Claim7 := { stood := { row := sealBackRow, standIns := [], harness := (true, "f6eab7525d14b2a34073508c1d4788de32348c5704d4f0411147ca4ec2fe212f"), looks := true }, kinds := [], alts := [], laidByText := true, laidKinds := [.data, .data, .data, .data], laidTests := true, laidLooks := .later }
def SealBackCardSaid : Prop := Claim7.holds Tryz.pinned (.plain (OpenSpec.ofChange sealBackSpec)) sealBackCard

/-- THE TIED CARD OF 'wringerlaw23.SealShort'. -/
def sealShortCard : Claim7 := { stood := { row := sealShortRow, standIns := [], harness := (true, "f6eab7525d14b2a34073508c1d4788de32348c5704d4f0411147ca4ec2fe212f"), looks := true }, kinds := [], alts := [], laidByText := true, laidKinds := [.data, .data, .data, .data], laidTests := true, laidLooks := .later }
def SealShortCardSaid : Prop := Claim7.holds Tryz.pinned (.plain (OpenSpec.ofChange sealShortSpec)) sealShortCard

/-- THE TIED CARD OF 'wringerlaw23.SealEmpty'. -/
def sealEmptyCard : Claim7 := { stood := { row := sealEmptyRow, standIns := [], harness := (true, "f6eab7525d14b2a34073508c1d4788de32348c5704d4f0411147ca4ec2fe212f"), looks := true }, kinds := [], alts := [], laidByText := true, laidKinds := [.data, .data, .data, .data], laidTests := true, laidLooks := .later }
def SealEmptyCardSaid : Prop := Claim7.holds Tryz.pinned (.plain (OpenSpec.ofChange sealEmptySpec)) sealEmptyCard

/-- THE SECOND FORM's CARD OF 'wringerlaw21.WideNew'. -/
def wideNewUptoCard : Claim7 := { stood := { row := wideNewUptoRow, standIns := [], harness := (true, "f6eab7525d14b2a34073508c1d4788de32348c5704d4f0411147ca4ec2fe212f"), looks := true }, kinds := [], alts := [], laidByText := true, laidKinds := [.data, .data, .data, .data], laidTests := true, laidLooks := .later }
def WideNewUptoCardSaid : Prop := Claim7.holds Tryz.pinned (.plain (OpenSpec.upto wideNewSpec)) wideNewUptoCard

/-- THE SECOND FORM's CARD OF 'wringerlaw21.WideLengths'. -/
def wideLengthsUptoCard : Claim7 := { stood := { row := wideLengthsUptoRow, standIns := [], harness := (true, "f6eab7525d14b2a34073508c1d4788de32348c5704d4f0411147ca4ec2fe212f"), looks := true }, kinds := [], alts := [], laidByText := true, laidKinds := [.data, .data, .data, .data], laidTests := true, laidLooks := .later }
def WideLengthsUptoCardSaid : Prop := Claim7.holds Tryz.pinned (.plain (OpenSpec.upto wideLengthsSpec)) wideLengthsUptoCard

/-- THE SECOND FORM's CARD OF 'wringerlaw21.WideKept'. -/
def wideKeptUptoCard : Claim7 := { stood := { row := wideKeptUptoRow, standIns := [], harness := (true, "f6eab7525d14b2a34073508c1d4788de32348c5704d4f0411147ca4ec2fe212f"), looks := true }, kinds := [], alts := [], laidByText := true, laidKinds := [.data, .data, .data, .data], laidTests := true, laidLooks := .later }
def WideKeptUptoCardSaid : Prop := Claim7.holds Tryz.pinned (.plain (OpenSpec.upto wideKeptSpec)) wideKeptUptoCard

/-- THE SECOND FORM's CARD OF 'wringerlaw21.WideBack'. -/
def wideBackUptoCard : Claim7 := { stood := { row := wideBackUptoRow, standIns := [], harness := (true, "f6eab7525d14b2a34073508c1d4788de32348c5704d4f0411147ca4ec2fe212f"), looks := true }, kinds := [], alts := [], laidByText := true, laidKinds := [.data, .data, .data, .data], laidTests := true, laidLooks := .later }
def WideBackUptoCardSaid : Prop := Claim7.holds Tryz.pinned (.plain (OpenSpec.upto wideBackSpec)) wideBackUptoCard

/-- THE SECOND FORM's CARD OF 'wringerlaw21.WideApart'. -/
def wideApartUptoCard : Claim7 := { stood := { row := wideApartUptoRow, standIns := [], harness := (true, "f6eab7525d14b2a34073508c1d4788de32348c5704d4f0411147ca4ec2fe212f"), looks := true }, kinds := [], alts := [], laidByText := true, laidKinds := [.data, .data, .data, .data], laidTests := true, laidLooks := .later }
def WideApartUptoCardSaid : Prop := Claim7.holds Tryz.pinned (.plain (OpenSpec.upto wideApartSpec)) wideApartUptoCard

/-- THE SECOND FORM's CARD OF 'wringerlaw21.WidePlace'. -/
def widePlaceUptoCard : Claim7 := { stood := { row := widePlaceUptoRow, standIns := [], harness := (true, "f6eab7525d14b2a34073508c1d4788de32348c5704d4f0411147ca4ec2fe212f"), looks := true }, kinds := [], alts := [], laidByText := true, laidKinds := [.data, .data, .data, .data], laidTests := true, laidLooks := .later }
def WidePlaceUptoCardSaid : Prop := Claim7.holds Tryz.pinned (.plain (OpenSpec.upto widePlaceSpec)) widePlaceUptoCard

/-- THE SECOND FORM's CARD OF 'wringerlaw21.WideRowed'. -/
def wideRowedUptoCard : Claim7 := { stood := { row := wideRowedUptoRow, standIns := [], harness := (true, "f6eab7525d14b2a34073508c1d4788de32348c5704d4f0411147ca4ec2fe212f"), looks := true }, kinds := [], alts := [], laidByText := true, laidKinds := [.data, .data, .data, .data], laidTests := true, laidLooks := .later }
def WideRowedUptoCardSaid : Prop := Claim7.holds Tryz.pinned (.plain (OpenSpec.upto wideRowedSpec)) wideRowedUptoCard

/-- THE SECOND FORM's CARD OF 'wringerlaw21.WideTurns'. -/
def wideTurnsUptoCard : Claim7 := { stood := { row := wideTurnsUptoRow, standIns := [], harness := (true, "f6eab7525d14b2a34073508c1d4788de32348c5704d4f0411147ca4ec2fe212f"), looks := true }, kinds := [], alts := [], laidByText := true, laidKinds := [.data, .data, .data, .data], laidTests := true, laidLooks := .later }
def WideTurnsUptoCardSaid : Prop := Claim7.holds Tryz.pinned (.plain (OpenSpec.upto wideTurnsSpec)) wideTurnsUptoCard

/-- THE SECOND FORM's CARD OF 'wringerlaw21.WideRows'. -/
def wideRowsUptoCard : Claim7 := { stood := { row := wideRowsUptoRow, standIns := [], harness := (true, "f6eab7525d14b2a34073508c1d4788de32348c5704d4f0411147ca4ec2fe212f"), looks := true }, kinds := [], alts := [], laidByText := true, laidKinds := [.data, .data, .data, .data], laidTests := true, laidLooks := .later }
def WideRowsUptoCardSaid : Prop := Claim7.holds Tryz.pinned (.plain (OpenSpec.upto wideRowsSpec)) wideRowsUptoCard

/-- THE SECOND FORM's CARD OF 'wringerlaw23.SealBack'. -/
def sealBackUptoCard : Claim7 := { stood := { row := sealBackUptoRow, standIns := [], harness := (true, "f6eab7525d14b2a34073508c1d4788de32348c5704d4f0411147ca4ec2fe212f"), looks := true }, kinds := [], alts := [], laidByText := true, laidKinds := [.data, .data, .data, .data], laidTests := true, laidLooks := .later }
def SealBackUptoCardSaid : Prop := Claim7.holds Tryz.pinned (.plain (OpenSpec.upto sealBackSpec)) sealBackUptoCard

/-- THE SECOND FORM's CARD OF 'wringerlaw23.SealShort'. -/
def sealShortUptoCard : Claim7 := { stood := { row := sealShortUptoRow, standIns := [], harness := (true, "f6eab7525d14b2a34073508c1d4788de32348c5704d4f0411147ca4ec2fe212f"), looks := true }, kinds := [], alts := [], laidByText := true, laidKinds := [.data, .data, .data, .data], laidTests := true, laidLooks := .later }
def SealShortUptoCardSaid : Prop := Claim7.holds Tryz.pinned (.plain (OpenSpec.upto sealShortSpec)) sealShortUptoCard

/-- THE SECOND FORM's CARD OF 'wringerlaw23.SealEmpty'. -/
def sealEmptyUptoCard : Claim7 := { stood := { row := sealEmptyUptoRow, standIns := [], harness := (true, "f6eab7525d14b2a34073508c1d4788de32348c5704d4f0411147ca4ec2fe212f"), looks := true }, kinds := [], alts := [], laidByText := true, laidKinds := [.data, .data, .data, .data], laidTests := true, laidLooks := .later }
def SealEmptyUptoCardSaid : Prop := Claim7.holds Tryz.pinned (.plain (OpenSpec.upto sealEmptySpec)) sealEmptyUptoCard
end Rows
end Go.Proofs.YtbpghohkhngdfaaGreatDoor
