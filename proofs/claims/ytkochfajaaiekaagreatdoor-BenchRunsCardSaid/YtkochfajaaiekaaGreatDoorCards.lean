/-
  DERIVED. GIVEN WITH THE SEED: THE CARDS: each row of YtkochfajaaiekaaGreatDoorRows.lean that lists a variable, with what it lists TIED to the program's text (the seventh form; the later family's looks); each row that meets fmt, with fmt's text TOLD by the authors' own Lean function (tested against real Go, not proved from fmt's source: count such statements apart). THE CARD IS WHAT COUNTS. Prove the row's statement (the work); the ties are given (YtkochfajaaiekaaGreatDoorTie.lean); close each card by the builder's one call (the guide's Derived/Test/ToyasCard.lean, 'card_holds'). Laid BY PROGRAM, IN A SANDBOX (cutbox-door.mjs). By AI agents, Wed Nov 11 2026. No macro, syntax, notation, axiom, sorry.
-/
import Derived.Test.YtkochfajaaiekaaGreatDoorRows
import GoSem.ClaimSeven
namespace Go.Proofs.YtkochfajaaiekaaGreatDoor
namespace Rows

/-- THE TIED CARD OF 'wringerlaw29.BenchLast'. -/
def benchLastCard : Claim7 := { stood := { row := benchLastRow, standIns := [], harness := (true, "e449b60d80bea7284b14fca74385a5d465077e6b4de1c269311b03f07cc3fec9"), looks := true }, kinds := [], alts := [], laidByText := true, laidKinds := [.data, .data, .data, .data], laidTests := true, laidLooks := .later }
def BenchLastCardSaid : Prop := Claim7.holds Tryz.pinned (.plain (OpenSpec.ofChange benchLastSpec)) benchLastCard

/-- THE TIED CARD OF 'wringerlaw29.BenchSeals'. -/
def benchSealsCard : Claim7 := { stood := { row := benchSealsRow, standIns := [], harness := (true, "e449b60d80bea7284b14fca74385a5d465077e6b4de1c269311b03f07cc3fec9"), looks := true }, kinds := [], alts := [], laidByText := true, laidKinds := [.data, .data, .data, .data], laidTests := true, laidLooks := .later }
def BenchSealsCardSaid : Prop := Claim7.holds Tryz.pinned (.plain (OpenSpec.ofChange benchSealsSpec)) benchSealsCard

/-- THE TIED CARD OF 'wringerlaw29.BenchNames'. -/
def benchNamesCard : Claim7 := { stood := { row := benchNamesRow, standIns := [], harness := (true, "e449b60d80bea7284b14fca74385a5d465077e6b4de1c269311b03f07cc3fec9"), looks := true }, kinds := [], alts := [], laidByText := true, laidKinds := [.data, .data, .data, .data], laidTests := true, laidLooks := .later }
def BenchNamesCardSaid : Prop := Claim7.holds Tryz.pinned (.plain (OpenSpec.ofChange benchNamesSpec)) benchNamesCard

/-- THE TIED CARD OF 'wringerlaw29.BenchNone'. -/
def benchNoneCard : Claim7 := { stood := { row := benchNoneRow, standIns := [], harness := (true, "e449b60d80bea7284b14fca74385a5d465077e6b4de1c269311b03f07cc3fec9"), looks := true }, kinds := [], alts := [], laidByText := true, laidKinds := [.data, .data, .data, .data], laidTests := true, laidLooks := .later }
def BenchNoneCardSaid : Prop := Claim7.holds Tryz.pinned (.plain (OpenSpec.ofChange benchNoneSpec)) benchNoneCard

/-- THE TIED CARD OF 'wringerlaw29.BenchRuns'. -/
def benchRunsCard : Claim7 := { stood := { row := benchRunsRow, standIns := [], harness := (true, "e449b60d80bea7284b14fca74385a5d465077e6b4de1c269311b03f07cc3fec9"), looks := true }, kinds := [], alts := [], laidByText := true, laidKinds := [.data, .data, .data, .data], laidTests := true, laidLooks := .later }
def BenchRunsCardSaid : Prop := Claim7.holds Tryz.pinned (.plain (OpenSpec.ofChange benchRunsSpec)) benchRunsCard

/-- THE TIED CARD OF 'wringerlaw29.BenchRefused'. -/
def benchRefusedCard : Claim7 := { stood := { row := benchRefusedRow, standIns := [], harness := (true, "e449b60d80bea7284b14fca74385a5d465077e6b4de1c269311b03f07cc3fec9"), looks := true }, kinds := [], alts := [], laidByText := true, laidKinds := [.data, .data, .data, .data], laidTests := true, laidLooks := .later }
def BenchRefusedCardSaid : Prop := Claim7.holds Tryz.pinned (.plain (OpenSpec.ofChange benchRefusedSpec)) benchRefusedCard

/-- THE SECOND FORM's CARD OF 'wringerlaw29.BenchLast'. -/
def benchLastUptoCard : Claim7 := { stood := { row := benchLastUptoRow, standIns := [], harness := (true, "e449b60d80bea7284b14fca74385a5d465077e6b4de1c269311b03f07cc3fec9"), looks := true }, kinds := [], alts := [], laidByText := true, laidKinds := [.data, .data, .data, .data], laidTests := true, laidLooks := .later }
def BenchLastUptoCardSaid : Prop := Claim7.holds Tryz.pinned (.plain (OpenSpec.upto benchLastSpec)) benchLastUptoCard

/-- THE SECOND FORM's CARD OF 'wringerlaw29.BenchSeals'. -/
def benchSealsUptoCard : Claim7 := { stood := { row := benchSealsUptoRow, standIns := [], harness := (true, "e449b60d80bea7284b14fca74385a5d465077e6b4de1c269311b03f07cc3fec9"), looks := true }, kinds := [], alts := [], laidByText := true, laidKinds := [.data, .data, .data, .data], laidTests := true, laidLooks := .later }
def BenchSealsUptoCardSaid : Prop := Claim7.holds Tryz.pinned (.plain (OpenSpec.upto benchSealsSpec)) benchSealsUptoCard

/-- THE SECOND FORM's CARD OF 'wringerlaw29.BenchNames'. -/
def benchNamesUptoCard : Claim7 := { stood := { row := benchNamesUptoRow, standIns := [], harness := (true, "e449b60d80bea7284b14fca74385a5d465077e6b4de1c269311b03f07cc3fec9"), looks := true }, kinds := [], alts := [], laidByText := true, laidKinds := [.data, .data, .data, .data], laidTests := true, laidLooks := .later }
def BenchNamesUptoCardSaid : Prop := Claim7.holds Tryz.pinned (.plain (OpenSpec.upto benchNamesSpec)) benchNamesUptoCard

/-- THE SECOND FORM's CARD OF 'wringerlaw29.BenchNone'. -/
def benchNoneUptoCard : Claim7 := { stood := { row := benchNoneUptoRow, standIns := [], harness := (true, "e449b60d80bea7284b14fca74385a5d465077e6b4de1c269311b03f07cc3fec9"), looks := true }, kinds := [], alts := [], laidByText := true, laidKinds := [.data, .data, .data, .data], laidTests := true, laidLooks := .later }
def BenchNoneUptoCardSaid : Prop := Claim7.holds Tryz.pinned (.plain (OpenSpec.upto benchNoneSpec)) benchNoneUptoCard

/-- THE SECOND FORM's CARD OF 'wringerlaw29.BenchRuns'. -/
def benchRunsUptoCard : Claim7 := { stood := { row := benchRunsUptoRow, standIns := [], harness := (true, "e449b60d80bea7284b14fca74385a5d465077e6b4de1c269311b03f07cc3fec9"), looks := true }, kinds := [], alts := [], laidByText := true, laidKinds := [.data, .data, .data, .data], laidTests := true, laidLooks := .later }
def BenchRunsUptoCardSaid : Prop := Claim7.holds Tryz.pinned (.plain (OpenSpec.upto benchRunsSpec)) benchRunsUptoCard

/-- THE SECOND FORM's CARD OF 'wringerlaw29.BenchRefused'. -/
def benchRefusedUptoCard : Claim7 := { stood := { row := benchRefusedUptoRow, standIns := [], harness := (true, "e449b60d80bea7284b14fca74385a5d465077e6b4de1c269311b03f07cc3fec9"), looks := true }, kinds := [], alts := [], laidByText := true, laidKinds := [.data, .data, .data, .data], laidTests := true, laidLooks := .later }
def BenchRefusedUptoCardSaid : Prop := Claim7.holds Tryz.pinned (.plain (OpenSpec.upto benchRefusedSpec)) benchRefusedUptoCard
end Rows
end Go.Proofs.YtkochfajaaiekaaGreatDoor
