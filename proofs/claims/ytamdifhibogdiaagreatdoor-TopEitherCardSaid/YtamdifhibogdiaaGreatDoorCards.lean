/-
  DERIVED. GIVEN WITH THE SEED: THE CARDS: each row of YtamdifhibogdiaaGreatDoorRows.lean that lists a variable, with what it lists TIED to the program's text (the seventh form; the later family's looks); each row that meets fmt, with fmt's text TOLD by the authors' own Lean function (tested against real Go, not proved from fmt's source: count such statements apart). THE CARD IS WHAT COUNTS. Prove the row's statement (the work); the ties are given (YtamdifhibogdiaaGreatDoorTie.lean); close each card by the builder's one call (the guide's Derived/Test/ToyasCard.lean, 'card_holds'). Laid BY PROGRAM, IN A SANDBOX (cutbox-door.mjs). By AI agents, Wed Nov 11 2026. No macro, syntax, notation, axiom, sorry.
-/
import Derived.Test.YtamdifhibogdiaaGreatDoorRows
import GoSem.ClaimSeven
namespace Go.Proofs.YtamdifhibogdiaaGreatDoor
namespace Rows

/-- THE TIED CARD OF 'wringertop.TopEither'. -/
def topEitherCard : Claim7 := { stood := { row := topEitherRow, standIns := [], harness := (true, "f4e88398d1005836a944026bcb1fa2ed3738526c130476c9dc0a8180bf65327e"), looks := true }, kinds := [], alts := [], laidByText := true, laidKinds := [.data, .data, .data, .data], laidTests := true, laidLooks := .later }
def TopEitherCardSaid : Prop := Claim7.holds Tryz.pinned (.plain (OpenSpec.ofChange topEitherSpec)) topEitherCard

/-- THE TIED CARD OF 'wringertop.TopRaw'. -/
def topRawCard : Claim7 := { stood := { row := topRawRow, standIns := [], harness := (true, "f4e88398d1005836a944026bcb1fa2ed3738526c130476c9dc0a8180bf65327e"), looks := true }, kinds := [], alts := [], laidByText := true, laidKinds := [.data, .data, .data, .data], laidTests := true, laidLooks := .later }
def TopRawCardSaid : Prop := Claim7.holds Tryz.pinned (.plain (OpenSpec.ofChange topRawSpec)) topRawCard

/-- THE TIED CARD OF 'wringertop.TopScript'. -/
def topScriptCard : Claim7 := { stood := { row := topScriptRow, standIns := [], harness := (true, "f4e88398d1005836a944026bcb1fa2ed3738526c130476c9dc0a8180bf65327e"), looks := true }, kinds := [], alts := [], laidByText := true, laidKinds := [.data, .data, .data, .data], laidTests := true, laidLooks := .later }
def TopScriptCardSaid : Prop := Claim7.holds Tryz.pinned (.plain (OpenSpec.ofChange topScriptSpec)) topScriptCard

/-- THE TIED CARD OF 'wringerlaw29.BenchLast'. -/
def benchLastCard : Claim7 := { stood := { row := benchLastRow, standIns := [], harness := (true, "f4e88398d1005836a944026bcb1fa2ed3738526c130476c9dc0a8180bf65327e"), looks := true }, kinds := [], alts := [], laidByText := true, laidKinds := [.data, .data, .data, .data], laidTests := true, laidLooks := .later }
def BenchLastCardSaid : Prop := Claim7.holds Tryz.pinned (.plain (OpenSpec.ofChange benchLastSpec)) benchLastCard

/-- THE TIED CARD OF 'wringerlaw29.BenchSeals'. -/
def benchSealsCard : Claim7 := { stood := { row := benchSealsRow, standIns := [], harness := (true, "f4e88398d1005836a944026bcb1fa2ed3738526c130476c9dc0a8180bf65327e"), looks := true }, kinds := [], alts := [], laidByText := true, laidKinds := [.data, .data, .data, .data], laidTests := true, laidLooks := .later }
def BenchSealsCardSaid : Prop := Claim7.holds Tryz.pinned (.plain (OpenSpec.ofChange benchSealsSpec)) benchSealsCard

/-- THE TIED CARD OF 'wringerlaw29.BenchNames'. -/
def benchNamesCard : Claim7 := { stood := { row := benchNamesRow, standIns := [], harness := (true, "f4e88398d1005836a944026bcb1fa2ed3738526c130476c9dc0a8180bf65327e"), looks := true }, kinds := [], alts := [], laidByText := true, laidKinds := [.data, .data, .data, .data], laidTests := true, laidLooks := .later }
def BenchNamesCardSaid : Prop := Claim7.holds Tryz.pinned (.plain (OpenSpec.ofChange benchNamesSpec)) benchNamesCard

/-- THE TIED CARD OF 'wringerlaw29.BenchNone'. -/
def benchNoneCard : Claim7 := { stood := { row := benchNoneRow, standIns := [], harness := (true, "f4e88398d1005836a944026bcb1fa2ed3738526c130476c9dc0a8180bf65327e"), looks := true }, kinds := [], alts := [], laidByText := true, laidKinds := [.data, .data, .data, .data], laidTests := true, laidLooks := .later }
def BenchNoneCardSaid : Prop := Claim7.holds Tryz.pinned (.plain (OpenSpec.ofChange benchNoneSpec)) benchNoneCard

/-- THE TIED CARD OF 'wringerlaw29.BenchRuns'. -/
def benchRunsCard : Claim7 := { stood := { row := benchRunsRow, standIns := [], harness := (true, "f4e88398d1005836a944026bcb1fa2ed3738526c130476c9dc0a8180bf65327e"), looks := true }, kinds := [], alts := [], laidByText := true, laidKinds := [.data, .data, .data, .data], laidTests := true, laidLooks := .later }
def BenchRunsCardSaid : Prop := Claim7.holds Tryz.pinned (.plain (OpenSpec.ofChange benchRunsSpec)) benchRunsCard

/-- THE TIED CARD OF 'wringerlaw29.BenchRefused'. -/
def benchRefusedCard : Claim7 := { stood := { row := benchRefusedRow, standIns := [], harness := (true, "f4e88398d1005836a944026bcb1fa2ed3738526c130476c9dc0a8180bf65327e"), looks := true }, kinds := [], alts := [], laidByText := true, laidKinds := [.data, .data, .data, .data], laidTests := true, laidLooks := .later }
def BenchRefusedCardSaid : Prop := Claim7.holds Tryz.pinned (.plain (OpenSpec.ofChange benchRefusedSpec)) benchRefusedCard

/-- THE TIED CARD OF 'wringerlaw31.DeskWords'. -/
def deskWordsCard : Claim7 := { stood := { row := deskWordsRow, standIns := [], harness := (true, "f4e88398d1005836a944026bcb1fa2ed3738526c130476c9dc0a8180bf65327e"), looks := true }, kinds := [], alts := [], laidByText := true, laidKinds := [.data, .data, .data, .data, .data, .data, .data, .data], laidTests := true, laidLooks := .later }
def DeskWordsCardSaid : Prop := Claim7.holds Tryz.pinned (.plain (OpenSpec.ofChange deskWordsSpec)) deskWordsCard

/-- THE TIED CARD OF 'wringerlaw31.DeskBack'. -/
def deskBackCard : Claim7 := { stood := { row := deskBackRow, standIns := [], harness := (true, "f4e88398d1005836a944026bcb1fa2ed3738526c130476c9dc0a8180bf65327e"), looks := true }, kinds := [], alts := [], laidByText := true, laidKinds := [.data, .data, .data, .data, .data, .data, .data, .data], laidTests := true, laidLooks := .later }
def DeskBackCardSaid : Prop := Claim7.holds Tryz.pinned (.plain (OpenSpec.ofChange deskBackSpec)) deskBackCard

/-- THE TIED CARD OF 'wringerlaw31.DeskNotes'. -/
def deskNotesCard : Claim7 := { stood := { row := deskNotesRow, standIns := [], harness := (true, "f4e88398d1005836a944026bcb1fa2ed3738526c130476c9dc0a8180bf65327e"), looks := true }, kinds := [], alts := [], laidByText := true, laidKinds := [.data, .data, .data, .data, .data, .data, .data, .data], laidTests := true, laidLooks := .later }
def DeskNotesCardSaid : Prop := Claim7.holds Tryz.pinned (.plain (OpenSpec.ofChange deskNotesSpec)) deskNotesCard

/-- THE SECOND FORM's CARD OF 'wringertop.TopEither'. -/
def topEitherUptoCard : Claim7 := { stood := { row := topEitherUptoRow, standIns := [], harness := (true, "f4e88398d1005836a944026bcb1fa2ed3738526c130476c9dc0a8180bf65327e"), looks := true }, kinds := [], alts := [], laidByText := true, laidKinds := [.data, .data, .data, .data], laidTests := true, laidLooks := .later }
def TopEitherUptoCardSaid : Prop := Claim7.holds Tryz.pinned (.plain (OpenSpec.upto topEitherSpec)) topEitherUptoCard

/-- THE SECOND FORM's CARD OF 'wringertop.TopRaw'. -/
def topRawUptoCard : Claim7 := { stood := { row := topRawUptoRow, standIns := [], harness := (true, "f4e88398d1005836a944026bcb1fa2ed3738526c130476c9dc0a8180bf65327e"), looks := true }, kinds := [], alts := [], laidByText := true, laidKinds := [.data, .data, .data, .data], laidTests := true, laidLooks := .later }
def TopRawUptoCardSaid : Prop := Claim7.holds Tryz.pinned (.plain (OpenSpec.upto topRawSpec)) topRawUptoCard

/-- THE SECOND FORM's CARD OF 'wringertop.TopScript'. -/
def topScriptUptoCard : Claim7 := { stood := { row := topScriptUptoRow, standIns := [], harness := (true, "f4e88398d1005836a944026bcb1fa2ed3738526c130476c9dc0a8180bf65327e"), looks := true }, kinds := [], alts := [], laidByText := true, laidKinds := [.data, .data, .data, .data], laidTests := true, laidLooks := .later }
def TopScriptUptoCardSaid : Prop := Claim7.holds Tryz.pinned (.plain (OpenSpec.upto topScriptSpec)) topScriptUptoCard

/-- THE SECOND FORM's CARD OF 'wringerlaw29.BenchLast'. -/
def benchLastUptoCard : Claim7 := { stood := { row := benchLastUptoRow, standIns := [], harness := (true, "f4e88398d1005836a944026bcb1fa2ed3738526c130476c9dc0a8180bf65327e"), looks := true }, kinds := [], alts := [], laidByText := true, laidKinds := [.data, .data, .data, .data], laidTests := true, laidLooks := .later }
def BenchLastUptoCardSaid : Prop := Claim7.holds Tryz.pinned (.plain (OpenSpec.upto benchLastSpec)) benchLastUptoCard

/-- THE SECOND FORM's CARD OF 'wringerlaw29.BenchSeals'. -/
def benchSealsUptoCard : Claim7 := { stood := { row := benchSealsUptoRow, standIns := [], harness := (true, "f4e88398d1005836a944026bcb1fa2ed3738526c130476c9dc0a8180bf65327e"), looks := true }, kinds := [], alts := [], laidByText := true, laidKinds := [.data, .data, .data, .data], laidTests := true, laidLooks := .later }
def BenchSealsUptoCardSaid : Prop := Claim7.holds Tryz.pinned (.plain (OpenSpec.upto benchSealsSpec)) benchSealsUptoCard

/-- THE SECOND FORM's CARD OF 'wringerlaw29.BenchNames'. -/
def benchNamesUptoCard : Claim7 := { stood := { row := benchNamesUptoRow, standIns := [], harness := (true, "f4e88398d1005836a944026bcb1fa2ed3738526c130476c9dc0a8180bf65327e"), looks := true }, kinds := [], alts := [], laidByText := true, laidKinds := [.data, .data, .data, .data], laidTests := true, laidLooks := .later }
def BenchNamesUptoCardSaid : Prop := Claim7.holds Tryz.pinned (.plain (OpenSpec.upto benchNamesSpec)) benchNamesUptoCard

/-- THE SECOND FORM's CARD OF 'wringerlaw29.BenchNone'. -/
def benchNoneUptoCard : Claim7 := { stood := { row := benchNoneUptoRow, standIns := [], harness := (true, "f4e88398d1005836a944026bcb1fa2ed3738526c130476c9dc0a8180bf65327e"), looks := true }, kinds := [], alts := [], laidByText := true, laidKinds := [.data, .data, .data, .data], laidTests := true, laidLooks := .later }
def BenchNoneUptoCardSaid : Prop := Claim7.holds Tryz.pinned (.plain (OpenSpec.upto benchNoneSpec)) benchNoneUptoCard

/-- THE SECOND FORM's CARD OF 'wringerlaw29.BenchRuns'. -/
def benchRunsUptoCard : Claim7 := { stood := { row := benchRunsUptoRow, standIns := [], harness := (true, "f4e88398d1005836a944026bcb1fa2ed3738526c130476c9dc0a8180bf65327e"), looks := true }, kinds := [], alts := [], laidByText := true, laidKinds := [.data, .data, .data, .data], laidTests := true, laidLooks := .later }
def BenchRunsUptoCardSaid : Prop := Claim7.holds Tryz.pinned (.plain (OpenSpec.upto benchRunsSpec)) benchRunsUptoCard

/-- THE SECOND FORM's CARD OF 'wringerlaw29.BenchRefused'. -/
def benchRefusedUptoCard : Claim7 := { stood := { row := benchRefusedUptoRow, standIns := [], harness := (true, "f4e88398d1005836a944026bcb1fa2ed3738526c130476c9dc0a8180bf65327e"), looks := true }, kinds := [], alts := [], laidByText := true, laidKinds := [.data, .data, .data, .data], laidTests := true, laidLooks := .later }
def BenchRefusedUptoCardSaid : Prop := Claim7.holds Tryz.pinned (.plain (OpenSpec.upto benchRefusedSpec)) benchRefusedUptoCard

/-- THE SECOND FORM's CARD OF 'wringerlaw31.DeskWords'. -/
def deskWordsUptoCard : Claim7 := { stood := { row := deskWordsUptoRow, standIns := [], harness := (true, "f4e88398d1005836a944026bcb1fa2ed3738526c130476c9dc0a8180bf65327e"), looks := true }, kinds := [], alts := [], laidByText := true, laidKinds := [.data, .data, .data, .data, .data, .data, .data, .data], laidTests := true, laidLooks := .later }
def DeskWordsUptoCardSaid : Prop := Claim7.holds Tryz.pinned (.plain (OpenSpec.upto deskWordsSpec)) deskWordsUptoCard

/-- THE SECOND FORM's CARD OF 'wringerlaw31.DeskBack'. -/
def deskBackUptoCard : Claim7 := { stood := { row := deskBackUptoRow, standIns := [], harness := (true, "f4e88398d1005836a944026bcb1fa2ed3738526c130476c9dc0a8180bf65327e"), looks := true }, kinds := [], alts := [], laidByText := true, laidKinds := [.data, .data, .data, .data, .data, .data, .data, .data], laidTests := true, laidLooks := .later }
def DeskBackUptoCardSaid : Prop := Claim7.holds Tryz.pinned (.plain (OpenSpec.upto deskBackSpec)) deskBackUptoCard

/-- THE SECOND FORM's CARD OF 'wringerlaw31.DeskNotes'. -/
def deskNotesUptoCard : Claim7 := { stood := { row := deskNotesUptoRow, standIns := [], harness := (true, "f4e88398d1005836a944026bcb1fa2ed3738526c130476c9dc0a8180bf65327e"), looks := true }, kinds := [], alts := [], laidByText := true, laidKinds := [.data, .data, .data, .data, .data, .data, .data, .data], laidTests := true, laidLooks := .later }
def DeskNotesUptoCardSaid : Prop := Claim7.holds Tryz.pinned (.plain (OpenSpec.upto deskNotesSpec)) deskNotesUptoCard
end Rows
end Go.Proofs.YtamdifhibogdiaaGreatDoor
