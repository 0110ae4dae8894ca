/-
  NARROWER THAN 'FOR EVERY INPUT', by the rows' own cells (each row's printed sentence says how): WideNew: laid · WideLengths: laid · WideKept: laid · WideBack: laid · WideApart: laid · WidePlace: laid · WideRowed: laid · WideTurns: laid · WideRows: laid · SealBack: laid · SealShort: laid · SealEmpty: laid.
  DERIVED. THE GIVEN ROWS OF THIS SEAT. 12 by the template 'for every input the law returns true; each argument reads behind the call as it read before'; 0 by the template 'total and deterministic' (their statements: YtbpghohkhngdfaaGreatDoorTotals.lean).
  GIVEN WITH THE SEED: the statements are not yours to turn. If you find one false, say at which input.
  Laid BY PROGRAM, IN A SANDBOX (cutbox-rows.mjs): the forced cells as the released guide's own fill.sh prints them over the translation a4dc9a81c0ca7ea3… (all of the seat's roots in one cut). By AI agents, Wed Nov 11 2026. No macro, syntax, notation, axiom, sorry.
-/
import Derived.Test.YtbpghohkhngdfaaGreatDoorChecked
import GoSem.Claim
import GoSem.ClaimJoined
import GoSem.ClaimMapViews
import Derived.JoinedTies
import Derived.KernelRfl
namespace Go.Proofs.YtbpghohkhngdfaaGreatDoor
/- THE CELL 'sum', in the pinned program and in every row, IS THE sha256 OF THE DUMP (.gsa) THAT YtbpghohkhngdfaaGreatDoorProg.lean LOADS. Nothing in Lean hashes anything: it is a label: what it is worth is what the hold of that sum in a sandbox is worth. -/
noncomputable def Tryz.pinned : Pinned := { name := "ytbpghohkhngdfaagreatdoor", sum := "a4dc9a81c0ca7ea330fb252edf233b30cca25e59bad9e8f61219a3a66fcbb0e6", checked := Tryz.checked }
namespace Rows
def none {H : Type} : Left H := { results := [], args := [] }

/- WHAT THE LISTED PACKAGE-LEVEL VARIABLES READ AS WHEN THE CALL BEGINS. Each datum BY PROGRAM (the guide's laid-datum.mjs) off the statement by which the dump's own 'gosem.cut.vars' lays the variable. In a bare row this is a premise. The card (YtbpghohkhngdfaaGreatDoorCards.lean) ties it to the program's text. -/
def laid_wringer_blake_first {H : Type} : DataW H := .agg [.lit (.int .u64 7640891576956012808), .lit (.int .u64 13503953896175478587), .lit (.int .u64 4354685564936845355), .lit (.int .u64 11912009170470909681), .lit (.int .u64 5840696475078001361), .lit (.int .u64 11170449401992604703), .lit (.int .u64 2270897969802886507), .lit (.int .u64 6620516959819538809)]
def laid_wringer_blake_rows {H : Type} : DataW H := .agg [.agg [.lit (.int .u8 0), .lit (.int .u8 1), .lit (.int .u8 2), .lit (.int .u8 3), .lit (.int .u8 4), .lit (.int .u8 5), .lit (.int .u8 6), .lit (.int .u8 7), .lit (.int .u8 8), .lit (.int .u8 9), .lit (.int .u8 10), .lit (.int .u8 11), .lit (.int .u8 12), .lit (.int .u8 13), .lit (.int .u8 14), .lit (.int .u8 15)], .agg [.lit (.int .u8 14), .lit (.int .u8 10), .lit (.int .u8 4), .lit (.int .u8 8), .lit (.int .u8 9), .lit (.int .u8 15), .lit (.int .u8 13), .lit (.int .u8 6), .lit (.int .u8 1), .lit (.int .u8 12), .lit (.int .u8 0), .lit (.int .u8 2), .lit (.int .u8 11), .lit (.int .u8 7), .lit (.int .u8 5), .lit (.int .u8 3)], .agg [.lit (.int .u8 11), .lit (.int .u8 8), .lit (.int .u8 12), .lit (.int .u8 0), .lit (.int .u8 5), .lit (.int .u8 2), .lit (.int .u8 15), .lit (.int .u8 13), .lit (.int .u8 10), .lit (.int .u8 14), .lit (.int .u8 3), .lit (.int .u8 6), .lit (.int .u8 7), .lit (.int .u8 1), .lit (.int .u8 9), .lit (.int .u8 4)], .agg [.lit (.int .u8 7), .lit (.int .u8 9), .lit (.int .u8 3), .lit (.int .u8 1), .lit (.int .u8 13), .lit (.int .u8 12), .lit (.int .u8 11), .lit (.int .u8 14), .lit (.int .u8 2), .lit (.int .u8 6), .lit (.int .u8 5), .lit (.int .u8 10), .lit (.int .u8 4), .lit (.int .u8 0), .lit (.int .u8 15), .lit (.int .u8 8)], .agg [.lit (.int .u8 9), .lit (.int .u8 0), .lit (.int .u8 5), .lit (.int .u8 7), .lit (.int .u8 2), .lit (.int .u8 4), .lit (.int .u8 10), .lit (.int .u8 15), .lit (.int .u8 14), .lit (.int .u8 1), .lit (.int .u8 11), .lit (.int .u8 12), .lit (.int .u8 6), .lit (.int .u8 8), .lit (.int .u8 3), .lit (.int .u8 13)], .agg [.lit (.int .u8 2), .lit (.int .u8 12), .lit (.int .u8 6), .lit (.int .u8 10), .lit (.int .u8 0), .lit (.int .u8 11), .lit (.int .u8 8), .lit (.int .u8 3), .lit (.int .u8 4), .lit (.int .u8 13), .lit (.int .u8 7), .lit (.int .u8 5), .lit (.int .u8 15), .lit (.int .u8 14), .lit (.int .u8 1), .lit (.int .u8 9)], .agg [.lit (.int .u8 12), .lit (.int .u8 5), .lit (.int .u8 1), .lit (.int .u8 15), .lit (.int .u8 14), .lit (.int .u8 13), .lit (.int .u8 4), .lit (.int .u8 10), .lit (.int .u8 0), .lit (.int .u8 7), .lit (.int .u8 6), .lit (.int .u8 3), .lit (.int .u8 9), .lit (.int .u8 2), .lit (.int .u8 8), .lit (.int .u8 11)], .agg [.lit (.int .u8 13), .lit (.int .u8 11), .lit (.int .u8 7), .lit (.int .u8 14), .lit (.int .u8 12), .lit (.int .u8 1), .lit (.int .u8 3), .lit (.int .u8 9), .lit (.int .u8 5), .lit (.int .u8 0), .lit (.int .u8 15), .lit (.int .u8 4), .lit (.int .u8 8), .lit (.int .u8 6), .lit (.int .u8 2), .lit (.int .u8 10)], .agg [.lit (.int .u8 6), .lit (.int .u8 15), .lit (.int .u8 14), .lit (.int .u8 9), .lit (.int .u8 11), .lit (.int .u8 3), .lit (.int .u8 0), .lit (.int .u8 8), .lit (.int .u8 12), .lit (.int .u8 2), .lit (.int .u8 13), .lit (.int .u8 7), .lit (.int .u8 1), .lit (.int .u8 4), .lit (.int .u8 10), .lit (.int .u8 5)], .agg [.lit (.int .u8 10), .lit (.int .u8 2), .lit (.int .u8 8), .lit (.int .u8 4), .lit (.int .u8 7), .lit (.int .u8 6), .lit (.int .u8 1), .lit (.int .u8 5), .lit (.int .u8 15), .lit (.int .u8 11), .lit (.int .u8 9), .lit (.int .u8 14), .lit (.int .u8 3), .lit (.int .u8 12), .lit (.int .u8 13), .lit (.int .u8 0)]]
def laid_wringer_turn_mixes {H : Type} : DataW H := .agg [.lit (.int .u8 2), .lit (.int .u8 3), .lit (.int .u8 1), .lit (.int .u8 1)]
def laid_wringer_turn_unmixes {H : Type} : DataW H := .agg [.lit (.int .u8 14), .lit (.int .u8 11), .lit (.int .u8 13), .lit (.int .u8 9)]

/-- 'wringerlaw21.WideNew': WHATEVER THE INPUT: true; the input reads as it did. -/
def wideNewSpec : ChangeSpec := { name := "wideNew", fn := fun _ => fun
  | [d] => { results := [.lit (.bool true)], args := [d] }
  | _ => none }
def wideNewRow : OpenClaim := { program := "ytbpghohkhngdfaagreatdoor", sum := "a4dc9a81c0ca7ea330fb252edf233b30cca25e59bad9e8f61219a3a66fcbb0e6", func := "wringer/wringerlaw21.WideNew", spec := "wideNew", inPlace := ["math/bits.Add64"], unfollowed := true, recurses := true, named := ["wringer/turn.mixes", "wringer/turn.unmixes", "wringer/blake.first", "wringer/blake.rows"], apart := false, laid := [("wringer/blake.first", laid_wringer_blake_first), ("wringer/blake.rows", laid_wringer_blake_rows), ("wringer/turn.mixes", laid_wringer_turn_mixes), ("wringer/turn.unmixes", laid_wringer_turn_unmixes)] }
def WideNewSaid : Prop := wideNewRow.holds Tryz.pinned (OpenSpec.ofChange wideNewSpec)

/-- ITS FALSE NEIGHBOUR: 'it returns false'. Refute it at one input. -/
def wideNewWrong : ChangeSpec := { name := "wideNew", fn := fun _ => fun
  | [d] => { results := [.lit (.bool false)], args := [d] }
  | _ => none }
def WideNewWrongFalsely : Prop := wideNewRow.holds Tryz.pinned (OpenSpec.ofChange wideNewWrong)

/-- 'wringerlaw21.WideLengths': WHATEVER THE INPUT: true; the input reads as it did. -/
def wideLengthsSpec : ChangeSpec := { name := "wideLengths", fn := fun _ => fun
  | [d] => { results := [.lit (.bool true)], args := [d] }
  | _ => none }
def wideLengthsRow : OpenClaim := { program := "ytbpghohkhngdfaagreatdoor", sum := "a4dc9a81c0ca7ea330fb252edf233b30cca25e59bad9e8f61219a3a66fcbb0e6", func := "wringer/wringerlaw21.WideLengths", spec := "wideLengths", inPlace := ["math/bits.Add64"], unfollowed := true, recurses := true, named := ["wringer/turn.mixes", "wringer/turn.unmixes", "wringer/blake.first", "wringer/blake.rows"], apart := false, laid := [("wringer/blake.first", laid_wringer_blake_first), ("wringer/blake.rows", laid_wringer_blake_rows), ("wringer/turn.mixes", laid_wringer_turn_mixes), ("wringer/turn.unmixes", laid_wringer_turn_unmixes)] }
def WideLengthsSaid : Prop := wideLengthsRow.holds Tryz.pinned (OpenSpec.ofChange wideLengthsSpec)

/-- ITS FALSE NEIGHBOUR: 'it returns false'. Refute it at one input. -/
def wideLengthsWrong : ChangeSpec := { name := "wideLengths", fn := fun _ => fun
  | [d] => { results := [.lit (.bool false)], args := [d] }
  | _ => none }
def WideLengthsWrongFalsely : Prop := wideLengthsRow.holds Tryz.pinned (OpenSpec.ofChange wideLengthsWrong)

/-- 'wringerlaw21.WideKept': WHATEVER THE INPUT: true; the input reads as it did. -/
def wideKeptSpec : ChangeSpec := { name := "wideKept", fn := fun _ => fun
  | [d] => { results := [.lit (.bool true)], args := [d] }
  | _ => none }
def wideKeptRow : OpenClaim := { program := "ytbpghohkhngdfaagreatdoor", sum := "a4dc9a81c0ca7ea330fb252edf233b30cca25e59bad9e8f61219a3a66fcbb0e6", func := "wringer/wringerlaw21.WideKept", spec := "wideKept", inPlace := ["math/bits.Add64"], unfollowed := true, recurses := true, named := ["wringer/turn.mixes", "wringer/turn.unmixes", "wringer/blake.first", "wringer/blake.rows"], apart := false, laid := [("wringer/blake.first", laid_wringer_blake_first), ("wringer/blake.rows", laid_wringer_blake_rows), ("wringer/turn.mixes", laid_wringer_turn_mixes), ("wringer/turn.unmixes", laid_wringer_turn_unmixes)] }
def WideKeptSaid : Prop := wideKeptRow.holds Tryz.pinned (OpenSpec.ofChange wideKeptSpec)

/-- ITS FALSE NEIGHBOUR: 'it returns false'. Refute it at one input. -/
def wideKeptWrong : ChangeSpec := { name := "wideKept", fn := fun _ => fun
  | [d] => { results := [.lit (.bool false)], args := [d] }
  | _ => none }
def WideKeptWrongFalsely : Prop := wideKeptRow.holds Tryz.pinned (OpenSpec.ofChange wideKeptWrong)

/-- 'wringerlaw21.WideBack': WHATEVER THE INPUT: true; the input reads as it did. -/
def wideBackSpec : ChangeSpec := { name := "wideBack", fn := fun _ => fun
  | [d] => { results := [.lit (.bool true)], args := [d] }
  | _ => none }
def wideBackRow : OpenClaim := { program := "ytbpghohkhngdfaagreatdoor", sum := "a4dc9a81c0ca7ea330fb252edf233b30cca25e59bad9e8f61219a3a66fcbb0e6", func := "wringer/wringerlaw21.WideBack", spec := "wideBack", inPlace := ["math/bits.Add64"], unfollowed := true, recurses := true, named := ["wringer/turn.mixes", "wringer/turn.unmixes", "wringer/blake.first", "wringer/blake.rows"], apart := false, laid := [("wringer/blake.first", laid_wringer_blake_first), ("wringer/blake.rows", laid_wringer_blake_rows), ("wringer/turn.mixes", laid_wringer_turn_mixes), ("wringer/turn.unmixes", laid_wringer_turn_unmixes)] }
def WideBackSaid : Prop := wideBackRow.holds Tryz.pinned (OpenSpec.ofChange wideBackSpec)

/-- ITS FALSE NEIGHBOUR: 'it returns false'. Refute it at one input. -/
def wideBackWrong : ChangeSpec := { name := "wideBack", fn := fun _ => fun
  | [d] => { results := [.lit (.bool false)], args := [d] }
  | _ => none }
def WideBackWrongFalsely : Prop := wideBackRow.holds Tryz.pinned (OpenSpec.ofChange wideBackWrong)

/-- 'wringerlaw21.WideApart': WHATEVER THE INPUT: true; the input reads as it did. -/
def wideApartSpec : ChangeSpec := { name := "wideApart", fn := fun _ => fun
  | [d1, d2] => { results := [.lit (.bool true)], args := [d1, d2] }
  | _ => none }
def wideApartRow : OpenClaim := { program := "ytbpghohkhngdfaagreatdoor", sum := "a4dc9a81c0ca7ea330fb252edf233b30cca25e59bad9e8f61219a3a66fcbb0e6", func := "wringer/wringerlaw21.WideApart", spec := "wideApart", inPlace := ["math/bits.Add64"], unfollowed := true, recurses := true, named := ["wringer/turn.mixes", "wringer/turn.unmixes", "wringer/blake.first", "wringer/blake.rows"], apart := false, laid := [("wringer/blake.first", laid_wringer_blake_first), ("wringer/blake.rows", laid_wringer_blake_rows), ("wringer/turn.mixes", laid_wringer_turn_mixes), ("wringer/turn.unmixes", laid_wringer_turn_unmixes)] }
def WideApartSaid : Prop := wideApartRow.holds Tryz.pinned (OpenSpec.ofChange wideApartSpec)

/-- ITS FALSE NEIGHBOUR: 'it returns false'. Refute it at one input. -/
def wideApartWrong : ChangeSpec := { name := "wideApart", fn := fun _ => fun
  | [d1, d2] => { results := [.lit (.bool false)], args := [d1, d2] }
  | _ => none }
def WideApartWrongFalsely : Prop := wideApartRow.holds Tryz.pinned (OpenSpec.ofChange wideApartWrong)

/-- 'wringerlaw21.WidePlace': WHATEVER THE INPUT: true; the input reads as it did. -/
def widePlaceSpec : ChangeSpec := { name := "widePlace", fn := fun _ => fun
  | [d] => { results := [.lit (.bool true)], args := [d] }
  | _ => none }
def widePlaceRow : OpenClaim := { program := "ytbpghohkhngdfaagreatdoor", sum := "a4dc9a81c0ca7ea330fb252edf233b30cca25e59bad9e8f61219a3a66fcbb0e6", func := "wringer/wringerlaw21.WidePlace", spec := "widePlace", inPlace := ["math/bits.Add64"], unfollowed := true, recurses := true, named := ["wringer/turn.mixes", "wringer/turn.unmixes", "wringer/blake.first", "wringer/blake.rows"], apart := false, laid := [("wringer/blake.first", laid_wringer_blake_first), ("wringer/blake.rows", laid_wringer_blake_rows), ("wringer/turn.mixes", laid_wringer_turn_mixes), ("wringer/turn.unmixes", laid_wringer_turn_unmixes)] }
def WidePlaceSaid : Prop := widePlaceRow.holds Tryz.pinned (OpenSpec.ofChange widePlaceSpec)

/-- ITS FALSE NEIGHBOUR: 'it returns false'. Refute it at one input. -/
def widePlaceWrong : ChangeSpec := { name := "widePlace", fn := fun _ => fun
  | [d] => { results := [.lit (.bool false)], args := [d] }
  | _ => none }
def WidePlaceWrongFalsely : Prop := widePlaceRow.holds Tryz.pinned (OpenSpec.ofChange widePlaceWrong)

/-- 'wringerlaw21.WideRowed': WHATEVER THE INPUT: true; the input reads as it did. -/
def wideRowedSpec : ChangeSpec := { name := "wideRowed", fn := fun _ => fun
  | [d] => { results := [.lit (.bool true)], args := [d] }
  | _ => none }
def wideRowedRow : OpenClaim := { program := "ytbpghohkhngdfaagreatdoor", sum := "a4dc9a81c0ca7ea330fb252edf233b30cca25e59bad9e8f61219a3a66fcbb0e6", func := "wringer/wringerlaw21.WideRowed", spec := "wideRowed", inPlace := ["math/bits.Add64"], unfollowed := true, recurses := true, named := ["wringer/turn.mixes", "wringer/turn.unmixes", "wringer/blake.first", "wringer/blake.rows"], apart := false, laid := [("wringer/blake.first", laid_wringer_blake_first), ("wringer/blake.rows", laid_wringer_blake_rows), ("wringer/turn.mixes", laid_wringer_turn_mixes), ("wringer/turn.unmixes", laid_wringer_turn_unmixes)] }
def WideRowedSaid : Prop := wideRowedRow.holds Tryz.pinned (OpenSpec.ofChange wideRowedSpec)

/-- ITS FALSE NEIGHBOUR: 'it returns false'. Refute it at one input. -/
def wideRowedWrong : ChangeSpec := { name := "wideRowed", fn := fun _ => fun
  | [d] => { results := [.lit (.bool false)], args := [d] }
  | _ => none }
def WideRowedWrongFalsely : Prop := wideRowedRow.holds Tryz.pinned (OpenSpec.ofChange wideRowedWrong)

/-- 'wringerlaw21.WideTurns': WHATEVER THE INPUT: true; the input reads as it did. -/
def wideTurnsSpec : ChangeSpec := { name := "wideTurns", fn := fun _ => fun
  | [d] => { results := [.lit (.bool true)], args := [d] }
  | _ => none }
def wideTurnsRow : OpenClaim := { program := "ytbpghohkhngdfaagreatdoor", sum := "a4dc9a81c0ca7ea330fb252edf233b30cca25e59bad9e8f61219a3a66fcbb0e6", func := "wringer/wringerlaw21.WideTurns", spec := "wideTurns", inPlace := ["math/bits.Add64"], unfollowed := true, recurses := true, named := ["wringer/turn.mixes", "wringer/turn.unmixes", "wringer/blake.first", "wringer/blake.rows"], apart := false, laid := [("wringer/blake.first", laid_wringer_blake_first), ("wringer/blake.rows", laid_wringer_blake_rows), ("wringer/turn.mixes", laid_wringer_turn_mixes), ("wringer/turn.unmixes", laid_wringer_turn_unmixes)] }
def WideTurnsSaid : Prop := wideTurnsRow.holds Tryz.pinned (OpenSpec.ofChange wideTurnsSpec)

/-- ITS FALSE NEIGHBOUR: 'it returns false'. Refute it at one input. -/
def wideTurnsWrong : ChangeSpec := { name := "wideTurns", fn := fun _ => fun
  | [d] => { results := [.lit (.bool false)], args := [d] }
  | _ => none }
def WideTurnsWrongFalsely : Prop := wideTurnsRow.holds Tryz.pinned (OpenSpec.ofChange wideTurnsWrong)

/-- 'wringerlaw21.WideRows': WHATEVER THE INPUT: true; the input reads as it did. -/
def wideRowsSpec : ChangeSpec := { name := "wideRows", fn := fun _ => fun
  | [d1, d2, d3] => { results := [.lit (.bool true)], args := [d1, d2, d3] }
  | _ => none }
def wideRowsRow : OpenClaim := { program := "ytbpghohkhngdfaagreatdoor", sum := "a4dc9a81c0ca7ea330fb252edf233b30cca25e59bad9e8f61219a3a66fcbb0e6", func := "wringer/wringerlaw21.WideRows", spec := "wideRows", inPlace := ["math/bits.Add64"], unfollowed := true, recurses := true, named := ["wringer/turn.mixes", "wringer/turn.unmixes", "wringer/blake.first", "wringer/blake.rows"], apart := false, laid := [("wringer/blake.first", laid_wringer_blake_first), ("wringer/blake.rows", laid_wringer_blake_rows), ("wringer/turn.mixes", laid_wringer_turn_mixes), ("wringer/turn.unmixes", laid_wringer_turn_unmixes)] }
def WideRowsSaid : Prop := wideRowsRow.holds Tryz.pinned (OpenSpec.ofChange wideRowsSpec)

/-- ITS FALSE NEIGHBOUR: 'it returns false'. Refute it at one input. -/
def wideRowsWrong : ChangeSpec := { name := "wideRows", fn := fun _ => fun
  | [d1, d2, d3] => { results := [.lit (.bool false)], args := [d1, d2, d3] }
  | _ => none }
def WideRowsWrongFalsely : Prop := wideRowsRow.holds Tryz.pinned (OpenSpec.ofChange wideRowsWrong)

/-- 'wringerlaw23.SealBack': WHATEVER THE INPUT: true; the input reads as it did. -/
def sealBackSpec : ChangeSpec := { name := "sealBack", fn := fun _ => fun
  | [d] => { results := [.lit (.bool true)], args := [d] }
  | _ => none }
def sealBackRow : OpenClaim := { program := "ytbpghohkhngdfaagreatdoor", sum := "a4dc9a81c0ca7ea330fb252edf233b30cca25e59bad9e8f61219a3a66fcbb0e6", func := "wringer/wringerlaw23.SealBack", spec := "sealBack", inPlace := ["math/bits.Add64"], unfollowed := true, recurses := true, named := ["wringer/turn.mixes", "wringer/turn.unmixes", "wringer/blake.first", "wringer/blake.rows"], apart := false, laid := [("wringer/blake.first", laid_wringer_blake_first), ("wringer/blake.rows", laid_wringer_blake_rows), ("wringer/turn.mixes", laid_wringer_turn_mixes), ("wringer/turn.unmixes", laid_wringer_turn_unmixes)] }
def SealBackSaid : Prop := sealBackRow.holds Tryz.pinned (OpenSpec.ofChange sealBackSpec)

/-- ITS FALSE NEIGHBOUR: 'it returns false'. Refute it at one input. -/
def sealBackWrong : ChangeSpec := { name := "sealBack", fn := fun _ => fun
  | [d] => { results := [.lit (.bool false)], args := [d] }
  | _ => none }
def SealBackWrongFalsely : Prop := sealBackRow.holds Tryz.pinned (OpenSpec.ofChange sealBackWrong)

/-- 'wringerlaw23.SealShort': WHATEVER THE INPUT: true; the input reads as it did. -/
def sealShortSpec : ChangeSpec := { name := "sealShort", fn := fun _ => fun
  | [d] => { results := [.lit (.bool true)], args := [d] }
  | _ => none }
def sealShortRow : OpenClaim := { program := "ytbpghohkhngdfaagreatdoor", sum := "a4dc9a81c0ca7ea330fb252edf233b30cca25e59bad9e8f61219a3a66fcbb0e6", func := "wringer/wringerlaw23.SealShort", spec := "sealShort", inPlace := ["math/bits.Add64"], unfollowed := true, recurses := true, named := ["wringer/turn.mixes", "wringer/turn.unmixes", "wringer/blake.first", "wringer/blake.rows"], apart := false, laid := [("wringer/blake.first", laid_wringer_blake_first), ("wringer/blake.rows", laid_wringer_blake_rows), ("wringer/turn.mixes", laid_wringer_turn_mixes), ("wringer/turn.unmixes", laid_wringer_turn_unmixes)] }
def SealShortSaid : Prop := sealShortRow.holds Tryz.pinned (OpenSpec.ofChange sealShortSpec)

/-- ITS FALSE NEIGHBOUR: 'it returns false'. Refute it at one input. -/
def sealShortWrong : ChangeSpec := { name := "sealShort", fn := fun _ => fun
  | [d] => { results := [.lit (.bool false)], args := [d] }
  | _ => none }
def SealShortWrongFalsely : Prop := sealShortRow.holds Tryz.pinned (OpenSpec.ofChange sealShortWrong)

/-- 'wringerlaw23.SealEmpty': WHATEVER THE INPUT: true; the input reads as it did. -/
def sealEmptySpec : ChangeSpec := { name := "sealEmpty", fn := fun _ => fun
  | [d1, d2, d3] => { results := [.lit (.bool true)], args := [d1, d2, d3] }
  | _ => none }
def sealEmptyRow : OpenClaim := { program := "ytbpghohkhngdfaagreatdoor", sum := "a4dc9a81c0ca7ea330fb252edf233b30cca25e59bad9e8f61219a3a66fcbb0e6", func := "wringer/wringerlaw23.SealEmpty", spec := "sealEmpty", inPlace := ["math/bits.Add64"], unfollowed := true, recurses := true, named := ["wringer/turn.mixes", "wringer/turn.unmixes", "wringer/blake.first", "wringer/blake.rows"], apart := false, laid := [("wringer/blake.first", laid_wringer_blake_first), ("wringer/blake.rows", laid_wringer_blake_rows), ("wringer/turn.mixes", laid_wringer_turn_mixes), ("wringer/turn.unmixes", laid_wringer_turn_unmixes)] }
def SealEmptySaid : Prop := sealEmptyRow.holds Tryz.pinned (OpenSpec.ofChange sealEmptySpec)

/-- ITS FALSE NEIGHBOUR: 'it returns false'. Refute it at one input. -/
def sealEmptyWrong : ChangeSpec := { name := "sealEmpty", fn := fun _ => fun
  | [d1, d2, d3] => { results := [.lit (.bool false)], args := [d1, d2, d3] }
  | _ => none }
def SealEmptyWrongFalsely : Prop := sealEmptyRow.holds Tryz.pinned (OpenSpec.ofChange sealEmptyWrong)

/- THE SECOND FORM. 'bulk': how many values and letters a reading holds, each counted each time it is reached (what is shared counts as often as it is met; a slice's spare places count too). A statement '..UptoSaid' is the law's where the arguments, and the package variables that the reading takes, are together of bulk at most 1048576: NARROWER than '..Said'. Prove '..Said' where nothing that the law and all that it calls make is longer than what came in: it says more and counts as full. Else prove '..UptoSaid'. A law counts once. -/
mutual
def uptoBulk {H : Type} : DataW H → Nat
  | .lit (.string bytes) => bytes.length + 1
  | .lit _ => 1
  | .nil => 1
  | .ptr d => uptoBulk d + 1
  | .slice elems spare => uptoBulkAll elems + uptoBulkAll spare + 1
  | .agg parts => uptoBulkAll parts + 1
  | .iface _ d => uptoBulk d + 1
  | .map entries => uptoBulkEntries entries + 1
  | .held _ => 1
def uptoBulkAll {H : Type} : List (DataW H) → Nat
  | [] => 0
  | d :: r => uptoBulk d + uptoBulkAll r
def uptoBulkEntries {H : Type} : List (Lit × DataW H) → Nat
  | [] => 0
  | x :: r => uptoBulkEntry x + uptoBulkEntries r
def uptoBulkEntry {H : Type} : Lit × DataW H → Nat
  | (.string bytes, d) => bytes.length + uptoBulk d + 1
  | (_, d) => uptoBulk d + 1
 end
def uptoSmall : (H : Type) → List (DataW H) → Bool := fun _ ds => decide (uptoBulkAll ds ≤ 1048576)
def OpenSpec.upto (s : _root_.Go.ChangeSpec) : _root_.Go.OpenSpec := { _root_.Go.OpenSpec.ofChange s with cond := some uptoSmall }

/-- 'wringerlaw21.WideNew', WHERE WHAT IT READS IS OF BULK AT MOST 1048576: true; the input reads as it did. -/
def wideNewUptoRow : OpenClaim := { program := "ytbpghohkhngdfaagreatdoor", sum := "a4dc9a81c0ca7ea330fb252edf233b30cca25e59bad9e8f61219a3a66fcbb0e6", func := "wringer/wringerlaw21.WideNew", spec := "wideNew", inPlace := ["math/bits.Add64"], unfollowed := true, recurses := true, named := ["wringer/turn.mixes", "wringer/turn.unmixes", "wringer/blake.first", "wringer/blake.rows"], apart := false, laid := [("wringer/blake.first", laid_wringer_blake_first), ("wringer/blake.rows", laid_wringer_blake_rows), ("wringer/turn.mixes", laid_wringer_turn_mixes), ("wringer/turn.unmixes", laid_wringer_turn_unmixes)], narrowed := true }
def WideNewUptoSaid : Prop := wideNewUptoRow.holds Tryz.pinned (OpenSpec.upto wideNewSpec)

/-- 'wringerlaw21.WideLengths', WHERE WHAT IT READS IS OF BULK AT MOST 1048576: true; the input reads as it did. -/
def wideLengthsUptoRow : OpenClaim := { program := "ytbpghohkhngdfaagreatdoor", sum := "a4dc9a81c0ca7ea330fb252edf233b30cca25e59bad9e8f61219a3a66fcbb0e6", func := "wringer/wringerlaw21.WideLengths", spec := "wideLengths", inPlace := ["math/bits.Add64"], unfollowed := true, recurses := true, named := ["wringer/turn.mixes", "wringer/turn.unmixes", "wringer/blake.first", "wringer/blake.rows"], apart := false, laid := [("wringer/blake.first", laid_wringer_blake_first), ("wringer/blake.rows", laid_wringer_blake_rows), ("wringer/turn.mixes", laid_wringer_turn_mixes), ("wringer/turn.unmixes", laid_wringer_turn_unmixes)], narrowed := true }
def WideLengthsUptoSaid : Prop := wideLengthsUptoRow.holds Tryz.pinned (OpenSpec.upto wideLengthsSpec)

/-- 'wringerlaw21.WideKept', WHERE WHAT IT READS IS OF BULK AT MOST 1048576: true; the input reads as it did. -/
def wideKeptUptoRow : OpenClaim := { program := "ytbpghohkhngdfaagreatdoor", sum := "a4dc9a81c0ca7ea330fb252edf233b30cca25e59bad9e8f61219a3a66fcbb0e6", func := "wringer/wringerlaw21.WideKept", spec := "wideKept", inPlace := ["math/bits.Add64"], unfollowed := true, recurses := true, named := ["wringer/turn.mixes", "wringer/turn.unmixes", "wringer/blake.first", "wringer/blake.rows"], apart := false, laid := [("wringer/blake.first", laid_wringer_blake_first), ("wringer/blake.rows", laid_wringer_blake_rows), ("wringer/turn.mixes", laid_wringer_turn_mixes), ("wringer/turn.unmixes", laid_wringer_turn_unmixes)], narrowed := true }
def WideKeptUptoSaid : Prop := wideKeptUptoRow.holds Tryz.pinned (OpenSpec.upto wideKeptSpec)

/-- 'wringerlaw21.WideBack', WHERE WHAT IT READS IS OF BULK AT MOST 1048576: true; the input reads as it did. -/
def wideBackUptoRow : OpenClaim := { program := "ytbpghohkhngdfaagreatdoor", sum := "a4dc9a81c0ca7ea330fb252edf233b30cca25e59bad9e8f61219a3a66fcbb0e6", func := "wringer/wringerlaw21.WideBack", spec := "wideBack", inPlace := ["math/bits.Add64"], unfollowed := true, recurses := true, named := ["wringer/turn.mixes", "wringer/turn.unmixes", "wringer/blake.first", "wringer/blake.rows"], apart := false, laid := [("wringer/blake.first", laid_wringer_blake_first), ("wringer/blake.rows", laid_wringer_blake_rows), ("wringer/turn.mixes", laid_wringer_turn_mixes), ("wringer/turn.unmixes", laid_wringer_turn_unmixes)], narrowed := true }
def WideBackUptoSaid : Prop := wideBackUptoRow.holds Tryz.pinned (OpenSpec.upto wideBackSpec)

/-- 'wringerlaw21.WideApart', WHERE WHAT IT READS IS OF BULK AT MOST 1048576: true; the input reads as it did. -/
def wideApartUptoRow : OpenClaim := { program := "ytbpghohkhngdfaagreatdoor", sum := "a4dc9a81c0ca7ea330fb252edf233b30cca25e59bad9e8f61219a3a66fcbb0e6", func := "wringer/wringerlaw21.WideApart", spec := "wideApart", inPlace := ["math/bits.Add64"], unfollowed := true, recurses := true, named := ["wringer/turn.mixes", "wringer/turn.unmixes", "wringer/blake.first", "wringer/blake.rows"], apart := false, laid := [("wringer/blake.first", laid_wringer_blake_first), ("wringer/blake.rows", laid_wringer_blake_rows), ("wringer/turn.mixes", laid_wringer_turn_mixes), ("wringer/turn.unmixes", laid_wringer_turn_unmixes)], narrowed := true }
def WideApartUptoSaid : Prop := wideApartUptoRow.holds Tryz.pinned (OpenSpec.upto wideApartSpec)

/-- 'wringerlaw21.WidePlace', WHERE WHAT IT READS IS OF BULK AT MOST 1048576: true; the input reads as it did. -/
def widePlaceUptoRow : OpenClaim := { program := "ytbpghohkhngdfaagreatdoor", sum := "a4dc9a81c0ca7ea330fb252edf233b30cca25e59bad9e8f61219a3a66fcbb0e6", func := "wringer/wringerlaw21.WidePlace", spec := "widePlace", inPlace := ["math/bits.Add64"], unfollowed := true, recurses := true, named := ["wringer/turn.mixes", "wringer/turn.unmixes", "wringer/blake.first", "wringer/blake.rows"], apart := false, laid := [("wringer/blake.first", laid_wringer_blake_first), ("wringer/blake.rows", laid_wringer_blake_rows), ("wringer/turn.mixes", laid_wringer_turn_mixes), ("wringer/turn.unmixes", laid_wringer_turn_unmixes)], narrowed := true }
def WidePlaceUptoSaid : Prop := widePlaceUptoRow.holds Tryz.pinned (OpenSpec.upto widePlaceSpec)

/-- 'wringerlaw21.WideRowed', WHERE WHAT IT READS IS OF BULK AT MOST 1048576: true; the input reads as it did. -/
def wideRowedUptoRow : OpenClaim := { program := "ytbpghohkhngdfaagreatdoor", sum := "a4dc9a81c0ca7ea330fb252edf233b30cca25e59bad9e8f61219a3a66fcbb0e6", func := "wringer/wringerlaw21.WideRowed", spec := "wideRowed", inPlace := ["math/bits.Add64"], unfollowed := true, recurses := true, named := ["wringer/turn.mixes", "wringer/turn.unmixes", "wringer/blake.first", "wringer/blake.rows"], apart := false, laid := [("wringer/blake.first", laid_wringer_blake_first), ("wringer/blake.rows", laid_wringer_blake_rows), ("wringer/turn.mixes", laid_wringer_turn_mixes), ("wringer/turn.unmixes", laid_wringer_turn_unmixes)], narrowed := true }
def WideRowedUptoSaid : Prop := wideRowedUptoRow.holds Tryz.pinned (OpenSpec.upto wideRowedSpec)

/-- 'wringerlaw21.WideTurns', WHERE WHAT IT READS IS OF BULK AT MOST 1048576: true; the input reads as it did. -/
def wideTurnsUptoRow : OpenClaim := { program := "ytbpghohkhngdfaagreatdoor", sum := "a4dc9a81c0ca7ea330fb252edf233b30cca25e59bad9e8f61219a3a66fcbb0e6", func := "wringer/wringerlaw21.WideTurns", spec := "wideTurns", inPlace := ["math/bits.Add64"], unfollowed := true, recurses := true, named := ["wringer/turn.mixes", "wringer/turn.unmixes", "wringer/blake.first", "wringer/blake.rows"], apart := false, laid := [("wringer/blake.first", laid_wringer_blake_first), ("wringer/blake.rows", laid_wringer_blake_rows), ("wringer/turn.mixes", laid_wringer_turn_mixes), ("wringer/turn.unmixes", laid_wringer_turn_unmixes)], narrowed := true }
def WideTurnsUptoSaid : Prop := wideTurnsUptoRow.holds Tryz.pinned (OpenSpec.upto wideTurnsSpec)

/-- 'wringerlaw21.WideRows', WHERE WHAT IT READS IS OF BULK AT MOST 1048576: true; the input reads as it did. -/
def wideRowsUptoRow : OpenClaim := { program := "ytbpghohkhngdfaagreatdoor", sum := "a4dc9a81c0ca7ea330fb252edf233b30cca25e59bad9e8f61219a3a66fcbb0e6", func := "wringer/wringerlaw21.WideRows", spec := "wideRows", inPlace := ["math/bits.Add64"], unfollowed := true, recurses := true, named := ["wringer/turn.mixes", "wringer/turn.unmixes", "wringer/blake.first", "wringer/blake.rows"], apart := false, laid := [("wringer/blake.first", laid_wringer_blake_first), ("wringer/blake.rows", laid_wringer_blake_rows), ("wringer/turn.mixes", laid_wringer_turn_mixes), ("wringer/turn.unmixes", laid_wringer_turn_unmixes)], narrowed := true }
def WideRowsUptoSaid : Prop := wideRowsUptoRow.holds Tryz.pinned (OpenSpec.upto wideRowsSpec)

/-- 'wringerlaw23.SealBack', WHERE WHAT IT READS IS OF BULK AT MOST 1048576: true; the input reads as it did. -/
def sealBackUptoRow : OpenClaim := { program := "ytbpghohkhngdfaagreatdoor", sum := "a4dc9a81c0ca7ea330fb252edf233b30cca25e59bad9e8f61219a3a66fcbb0e6", func := "wringer/wringerlaw23.SealBack", spec := "sealBack", inPlace := ["math/bits.Add64"], unfollowed := true, recurses := true, named := ["wringer/turn.mixes", "wringer/turn.unmixes", "wringer/blake.first", "wringer/blake.rows"], apart := false, laid := [("wringer/blake.first", laid_wringer_blake_first), ("wringer/blake.rows", laid_wringer_blake_rows), ("wringer/turn.mixes", laid_wringer_turn_mixes), ("wringer/turn.unmixes", laid_wringer_turn_unmixes)], narrowed := true }
def SealBackUptoSaid : Prop := sealBackUptoRow.holds Tryz.pinned (OpenSpec.upto sealBackSpec)

/-- 'wringerlaw23.SealShort', WHERE WHAT IT READS IS OF BULK AT MOST 1048576: true; the input reads as it did. -/
def sealShortUptoRow : OpenClaim := { program := "ytbpghohkhngdfaagreatdoor", sum := "a4dc9a81c0ca7ea330fb252edf233b30cca25e59bad9e8f61219a3a66fcbb0e6", func := "wringer/wringerlaw23.SealShort", spec := "sealShort", inPlace := ["math/bits.Add64"], unfollowed := true, recurses := true, named := ["wringer/turn.mixes", "wringer/turn.unmixes", "wringer/blake.first", "wringer/blake.rows"], apart := false, laid := [("wringer/blake.first", laid_wringer_blake_first), ("wringer/blake.rows", laid_wringer_blake_rows), ("wringer/turn.mixes", laid_wringer_turn_mixes), ("wringer/turn.unmixes", laid_wringer_turn_unmixes)], narrowed := true }
def SealShortUptoSaid : Prop := sealShortUptoRow.holds Tryz.pinned (OpenSpec.upto sealShortSpec)

/-- 'wringerlaw23.SealEmpty', WHERE WHAT IT READS IS OF BULK AT MOST 1048576: true; the input reads as it did. -/
def sealEmptyUptoRow : OpenClaim := { program := "ytbpghohkhngdfaagreatdoor", sum := "a4dc9a81c0ca7ea330fb252edf233b30cca25e59bad9e8f61219a3a66fcbb0e6", func := "wringer/wringerlaw23.SealEmpty", spec := "sealEmpty", inPlace := ["math/bits.Add64"], unfollowed := true, recurses := true, named := ["wringer/turn.mixes", "wringer/turn.unmixes", "wringer/blake.first", "wringer/blake.rows"], apart := false, laid := [("wringer/blake.first", laid_wringer_blake_first), ("wringer/blake.rows", laid_wringer_blake_rows), ("wringer/turn.mixes", laid_wringer_turn_mixes), ("wringer/turn.unmixes", laid_wringer_turn_unmixes)], narrowed := true }
def SealEmptyUptoSaid : Prop := sealEmptyUptoRow.holds Tryz.pinned (OpenSpec.upto sealEmptySpec)

end Rows
end Go.Proofs.YtbpghohkhngdfaaGreatDoor
