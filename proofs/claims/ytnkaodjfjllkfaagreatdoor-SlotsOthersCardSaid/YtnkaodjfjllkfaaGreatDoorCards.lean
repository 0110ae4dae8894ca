/-
  DERIVED. GIVEN WITH THE SEED: THE CARDS: each row of YtnkaodjfjllkfaaGreatDoorRows.lean that lists a variable, with what it lists TIED to the program's text (the seventh form; the later family's looks); each row that meets fmt, with fmt's text TOLD by the authors' own Lean function (tested against real Go, not proved from fmt's source: count such statements apart). THE CARD IS WHAT COUNTS. Prove the row's statement (the work); the ties are given (YtnkaodjfjllkfaaGreatDoorTie.lean); close each card by the builder's one call (the guide's Derived/Test/ToyasCard.lean, 'card_holds'). Laid BY PROGRAM, IN A SANDBOX (cutbox-door.mjs). By AI agents, Wed Nov 11 2026. No macro, syntax, notation, axiom, sorry.
-/
import Derived.Test.YtnkaodjfjllkfaaGreatDoorRows
import GoSem.ClaimSeven
namespace Go.Proofs.YtnkaodjfjllkfaaGreatDoor
namespace Rows

/-- THE TIED CARD OF 'wringerlaw24.SlotsKept'. -/
def slotsKeptCard : Claim7 := { stood := { row := slotsKeptRow, standIns := [], harness := (true, "a067ef4b838209197888f7a8519e777b5dce63d97a45721439ee4d383ff094ec"), looks := true }, kinds := [], alts := [], laidByText := true, laidKinds := [.data, .data, .data, .data], laidTests := true, laidLooks := .later }
def SlotsKeptCardSaid : Prop := Claim7.holds Tryz.pinned (.plain (OpenSpec.ofChange slotsKeptSpec)) slotsKeptCard

/-- THE TIED CARD OF 'wringerlaw24.SlotsFound'. -/
def slotsFoundCard : Claim7 := { stood := { row := slotsFoundRow, standIns := [], harness := (true, "a067ef4b838209197888f7a8519e777b5dce63d97a45721439ee4d383ff094ec"), looks := true }, kinds := [], alts := [], laidByText := true, laidKinds := [.data, .data, .data, .data], laidTests := true, laidLooks := .later }
def SlotsFoundCardSaid : Prop := Claim7.holds Tryz.pinned (.plain (OpenSpec.ofChange slotsFoundSpec)) slotsFoundCard

/-- THE TIED CARD OF 'wringerlaw24.SlotsOthers'. -/
def slotsOthersCard : Claim7 := { stood := { row := slotsOthersRow, standIns := [], harness := (true, "a067ef4b838209197888f7a8519e777b5dce63d97a45721439ee4d383ff094ec"), looks := true }, kinds := [], alts := [], laidByText := true, laidKinds := [.data, .data, .data, .data], laidTests := true, laidLooks := .later }
def SlotsOthersCardSaid : Prop := Claim7.holds Tryz.pinned (.plain (OpenSpec.ofChange slotsOthersSpec)) slotsOthersCard

/-- THE TIED CARD OF 'wringerlaw24.SlotsActs'. -/
def slotsActsCard : Claim7 := { stood := { row := slotsActsRow, standIns := [], harness := (true, "a067ef4b838209197888f7a8519e777b5dce63d97a45721439ee4d383ff094ec"), looks := true }, kinds := [], alts := [], laidByText := true, laidKinds := [.data, .data, .data, .data], laidTests := true, laidLooks := .later }
def SlotsActsCardSaid : Prop := Claim7.holds Tryz.pinned (.plain (OpenSpec.ofChange slotsActsSpec)) slotsActsCard

/-- THE TIED CARD OF 'wringerlaw24.SlotsCleared'. -/
def slotsClearedCard : Claim7 := { stood := { row := slotsClearedRow, standIns := [], harness := (true, "a067ef4b838209197888f7a8519e777b5dce63d97a45721439ee4d383ff094ec"), looks := true }, kinds := [], alts := [], laidByText := true, laidKinds := [.data, .data, .data, .data], laidTests := true, laidLooks := .later }
def SlotsClearedCardSaid : Prop := Claim7.holds Tryz.pinned (.plain (OpenSpec.ofChange slotsClearedSpec)) slotsClearedCard

/-- THE TIED CARD OF 'wringerlaw24.SlotsReads'. -/
def slotsReadsCard : Claim7 := { stood := { row := slotsReadsRow, standIns := [], harness := (true, "a067ef4b838209197888f7a8519e777b5dce63d97a45721439ee4d383ff094ec"), looks := true }, kinds := [], alts := [], laidByText := true, laidKinds := [.data, .data, .data, .data], laidTests := true, laidLooks := .later }
def SlotsReadsCardSaid : Prop := Claim7.holds Tryz.pinned (.plain (OpenSpec.ofChange slotsReadsSpec)) slotsReadsCard

/-- THE TIED CARD OF 'wringerlaw24.SlotsBack'. -/
def slotsBackCard : Claim7 := { stood := { row := slotsBackRow, standIns := [], harness := (true, "a067ef4b838209197888f7a8519e777b5dce63d97a45721439ee4d383ff094ec"), looks := true }, kinds := [], alts := [], laidByText := true, laidKinds := [.data, .data, .data, .data], laidTests := true, laidLooks := .later }
def SlotsBackCardSaid : Prop := Claim7.holds Tryz.pinned (.plain (OpenSpec.ofChange slotsBackSpec)) slotsBackCard

/-- THE SECOND FORM's CARD OF 'wringerlaw24.SlotsKept'. -/
def slotsKeptUptoCard : Claim7 := { stood := { row := slotsKeptUptoRow, standIns := [], harness := (true, "a067ef4b838209197888f7a8519e777b5dce63d97a45721439ee4d383ff094ec"), looks := true }, kinds := [], alts := [], laidByText := true, laidKinds := [.data, .data, .data, .data], laidTests := true, laidLooks := .later }
def SlotsKeptUptoCardSaid : Prop := Claim7.holds Tryz.pinned (.plain (OpenSpec.upto slotsKeptSpec)) slotsKeptUptoCard

/-- THE SECOND FORM's CARD OF 'wringerlaw24.SlotsFound'. -/
def slotsFoundUptoCard : Claim7 := { stood := { row := slotsFoundUptoRow, standIns := [], harness := (true, "a067ef4b838209197888f7a8519e777b5dce63d97a45721439ee4d383ff094ec"), looks := true }, kinds := [], alts := [], laidByText := true, laidKinds := [.data, .data, .data, .data], laidTests := true, laidLooks := .later }
def SlotsFoundUptoCardSaid : Prop := Claim7.holds Tryz.pinned (.plain (OpenSpec.upto slotsFoundSpec)) slotsFoundUptoCard

/-- THE SECOND FORM's CARD OF 'wringerlaw24.SlotsOthers'. -/
def slotsOthersUptoCard : Claim7 := { stood := { row := slotsOthersUptoRow, standIns := [], harness := (true, "a067ef4b838209197888f7a8519e777b5dce63d97a45721439ee4d383ff094ec"), looks := true }, kinds := [], alts := [], laidByText := true, laidKinds := [.data, .data, .data, .data], laidTests := true, laidLooks := .later }
def SlotsOthersUptoCardSaid : Prop := Claim7.holds Tryz.pinned (.plain (OpenSpec.upto slotsOthersSpec)) slotsOthersUptoCard

/-- THE SECOND FORM's CARD OF 'wringerlaw24.SlotsActs'. -/
def slotsActsUptoCard : Claim7 := { stood := { row := slotsActsUptoRow, standIns := [], harness := (true, "a067ef4b838209197888f7a8519e777b5dce63d97a45721439ee4d383ff094ec"), looks := true }, kinds := [], alts := [], laidByText := true, laidKinds := [.data, .data, .data, .data], laidTests := true, laidLooks := .later }
def SlotsActsUptoCardSaid : Prop := Claim7.holds Tryz.pinned (.plain (OpenSpec.upto slotsActsSpec)) slotsActsUptoCard

/-- THE SECOND FORM's CARD OF 'wringerlaw24.SlotsCleared'. -/
def slotsClearedUptoCard : Claim7 := { stood := { row := slotsClearedUptoRow, standIns := [], harness := (true, "a067ef4b838209197888f7a8519e777b5dce63d97a45721439ee4d383ff094ec"), looks := true }, kinds := [], alts := [], laidByText := true, laidKinds := [.data, .data, .data, .data], laidTests := true, laidLooks := .later }
def SlotsClearedUptoCardSaid : Prop := Claim7.holds Tryz.pinned (.plain (OpenSpec.upto slotsClearedSpec)) slotsClearedUptoCard

/-- THE SECOND FORM's CARD OF 'wringerlaw24.SlotsReads'. -/
def slotsReadsUptoCard : Claim7 := { stood := { row := slotsReadsUptoRow, standIns := [], harness := (true, "a067ef4b838209197888f7a8519e777b5dce63d97a45721439ee4d383ff094ec"), looks := true }, kinds := [], alts := [], laidByText := true, laidKinds := [.data, .data, .data, .data], laidTests := true, laidLooks := .later }
def SlotsReadsUptoCardSaid : Prop := Claim7.holds Tryz.pinned (.plain (OpenSpec.upto slotsReadsSpec)) slotsReadsUptoCard

/-- THE SECOND FORM's CARD OF 'wringerlaw24.SlotsBack'. -/
def slotsBackUptoCard : Claim7 := { stood := { row := slotsBackUptoRow, standIns := [], harness := (true, "a067ef4b838209197888f7a8519e777b5dce63d97a45721439ee4d383ff094ec"), looks := true }, kinds := [], alts := [], laidByText := true, laidKinds := [.data, .data, .data, .data], laidTests := true, laidLooks := .later }
def SlotsBackUptoCardSaid : Prop := Claim7.holds Tryz.pinned (.plain (OpenSpec.upto slotsBackSpec)) slotsBackUptoCard
end Rows
end Go.Proofs.YtnkaodjfjllkfaaGreatDoor
