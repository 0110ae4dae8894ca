/-
  NARROWER THAN 'FOR EVERY INPUT', by the rows' own cells (each row's printed sentence says how): TopEither: laid · TopRaw: laid · TopScript: laid · BenchLast: laid · BenchSeals: laid · BenchNames: laid · BenchNone: laid · BenchRuns: laid · BenchRefused: laid · DeskWords: laid · DeskBack: laid · DeskNotes: laid.
  DERIVED. THE GIVEN ROWS OF THIS SEAT. 12 by the template 'for every input the law returns true; each argument reads behind the call as it read before'; 0 by the template 'total and deterministic' (their statements: YtamdifhibogdiaaGreatDoorTotals.lean).
  GIVEN WITH THE SEED: the statements are not yours to turn. If you find one false, say at which input.
  Laid BY PROGRAM, IN A SANDBOX (cutbox-rows.mjs): the forced cells as the released guide's own fill.sh prints them over the translation ccb611919e631422… (all of the seat's roots in one cut). By AI agents, Wed Nov 11 2026. No macro, syntax, notation, axiom, sorry.
-/
import Derived.Test.YtamdifhibogdiaaGreatDoorChecked
import GoSem.Claim
import GoSem.ClaimJoined
import GoSem.ClaimMapViews
import Derived.JoinedTies
import Derived.KernelRfl
namespace Go.Proofs.YtamdifhibogdiaaGreatDoor
/- THE CELL 'sum', in the pinned program and in every row, IS THE sha256 OF THE DUMP (.gsa) THAT YtamdifhibogdiaaGreatDoorProg.lean LOADS. Nothing in Lean hashes anything: it is a label: what it is worth is what the hold of that sum in a sandbox is worth. -/
noncomputable def Tryz.pinned : Pinned := { name := "ytamdifhibogdiaagreatdoor", sum := "ccb611919e631422c0fa9807dbd720eb8a8597cd4bc680c6d0d70bec2d45d41a", checked := Tryz.checked }
namespace Rows
def none {H : Type} : Left H := { results := [], args := [] }

/- WHAT THE LISTED PACKAGE-LEVEL VARIABLES READ AS WHEN THE CALL BEGINS. Each datum BY PROGRAM (the guide's laid-datum.mjs) off the statement by which the dump's own 'gosem.cut.vars' lays the variable. In a bare row this is a premise. The card (YtamdifhibogdiaaGreatDoorCards.lean) ties it to the program's text. -/
def laid_wringer_blake_first {H : Type} : DataW H := .agg [.lit (.int .u64 7640891576956012808), .lit (.int .u64 13503953896175478587), .lit (.int .u64 4354685564936845355), .lit (.int .u64 11912009170470909681), .lit (.int .u64 5840696475078001361), .lit (.int .u64 11170449401992604703), .lit (.int .u64 2270897969802886507), .lit (.int .u64 6620516959819538809)]
def laid_wringer_blake_rows {H : Type} : DataW H := .agg [.agg [.lit (.int .u8 0), .lit (.int .u8 1), .lit (.int .u8 2), .lit (.int .u8 3), .lit (.int .u8 4), .lit (.int .u8 5), .lit (.int .u8 6), .lit (.int .u8 7), .lit (.int .u8 8), .lit (.int .u8 9), .lit (.int .u8 10), .lit (.int .u8 11), .lit (.int .u8 12), .lit (.int .u8 13), .lit (.int .u8 14), .lit (.int .u8 15)], .agg [.lit (.int .u8 14), .lit (.int .u8 10), .lit (.int .u8 4), .lit (.int .u8 8), .lit (.int .u8 9), .lit (.int .u8 15), .lit (.int .u8 13), .lit (.int .u8 6), .lit (.int .u8 1), .lit (.int .u8 12), .lit (.int .u8 0), .lit (.int .u8 2), .lit (.int .u8 11), .lit (.int .u8 7), .lit (.int .u8 5), .lit (.int .u8 3)], .agg [.lit (.int .u8 11), .lit (.int .u8 8), .lit (.int .u8 12), .lit (.int .u8 0), .lit (.int .u8 5), .lit (.int .u8 2), .lit (.int .u8 15), .lit (.int .u8 13), .lit (.int .u8 10), .lit (.int .u8 14), .lit (.int .u8 3), .lit (.int .u8 6), .lit (.int .u8 7), .lit (.int .u8 1), .lit (.int .u8 9), .lit (.int .u8 4)], .agg [.lit (.int .u8 7), .lit (.int .u8 9), .lit (.int .u8 3), .lit (.int .u8 1), .lit (.int .u8 13), .lit (.int .u8 12), .lit (.int .u8 11), .lit (.int .u8 14), .lit (.int .u8 2), .lit (.int .u8 6), .lit (.int .u8 5), .lit (.int .u8 10), .lit (.int .u8 4), .lit (.int .u8 0), .lit (.int .u8 15), .lit (.int .u8 8)], .agg [.lit (.int .u8 9), .lit (.int .u8 0), .lit (.int .u8 5), .lit (.int .u8 7), .lit (.int .u8 2), .lit (.int .u8 4), .lit (.int .u8 10), .lit (.int .u8 15), .lit (.int .u8 14), .lit (.int .u8 1), .lit (.int .u8 11), .lit (.int .u8 12), .lit (.int .u8 6), .lit (.int .u8 8), .lit (.int .u8 3), .lit (.int .u8 13)], .agg [.lit (.int .u8 2), .lit (.int .u8 12), .lit (.int .u8 6), .lit (.int .u8 10), .lit (.int .u8 0), .lit (.int .u8 11), .lit (.int .u8 8), .lit (.int .u8 3), .lit (.int .u8 4), .lit (.int .u8 13), .lit (.int .u8 7), .lit (.int .u8 5), .lit (.int .u8 15), .lit (.int .u8 14), .lit (.int .u8 1), .lit (.int .u8 9)], .agg [.lit (.int .u8 12), .lit (.int .u8 5), .lit (.int .u8 1), .lit (.int .u8 15), .lit (.int .u8 14), .lit (.int .u8 13), .lit (.int .u8 4), .lit (.int .u8 10), .lit (.int .u8 0), .lit (.int .u8 7), .lit (.int .u8 6), .lit (.int .u8 3), .lit (.int .u8 9), .lit (.int .u8 2), .lit (.int .u8 8), .lit (.int .u8 11)], .agg [.lit (.int .u8 13), .lit (.int .u8 11), .lit (.int .u8 7), .lit (.int .u8 14), .lit (.int .u8 12), .lit (.int .u8 1), .lit (.int .u8 3), .lit (.int .u8 9), .lit (.int .u8 5), .lit (.int .u8 0), .lit (.int .u8 15), .lit (.int .u8 4), .lit (.int .u8 8), .lit (.int .u8 6), .lit (.int .u8 2), .lit (.int .u8 10)], .agg [.lit (.int .u8 6), .lit (.int .u8 15), .lit (.int .u8 14), .lit (.int .u8 9), .lit (.int .u8 11), .lit (.int .u8 3), .lit (.int .u8 0), .lit (.int .u8 8), .lit (.int .u8 12), .lit (.int .u8 2), .lit (.int .u8 13), .lit (.int .u8 7), .lit (.int .u8 1), .lit (.int .u8 4), .lit (.int .u8 10), .lit (.int .u8 5)], .agg [.lit (.int .u8 10), .lit (.int .u8 2), .lit (.int .u8 8), .lit (.int .u8 4), .lit (.int .u8 7), .lit (.int .u8 6), .lit (.int .u8 1), .lit (.int .u8 5), .lit (.int .u8 15), .lit (.int .u8 11), .lit (.int .u8 9), .lit (.int .u8 14), .lit (.int .u8 3), .lit (.int .u8 12), .lit (.int .u8 13), .lit (.int .u8 0)]]
def laid_wringer_turn_mixes {H : Type} : DataW H := .agg [.lit (.int .u8 2), .lit (.int .u8 3), .lit (.int .u8 1), .lit (.int .u8 1)]
def laid_wringer_turn_unmixes {H : Type} : DataW H := .agg [.lit (.int .u8 14), .lit (.int .u8 11), .lit (.int .u8 13), .lit (.int .u8 9)]
def laid_math_bits_deBruijn32tab {H : Type} : DataW H := .agg [.lit (.int .u8 0), .lit (.int .u8 1), .lit (.int .u8 28), .lit (.int .u8 2), .lit (.int .u8 29), .lit (.int .u8 14), .lit (.int .u8 24), .lit (.int .u8 3), .lit (.int .u8 30), .lit (.int .u8 22), .lit (.int .u8 20), .lit (.int .u8 15), .lit (.int .u8 25), .lit (.int .u8 17), .lit (.int .u8 4), .lit (.int .u8 8), .lit (.int .u8 31), .lit (.int .u8 27), .lit (.int .u8 13), .lit (.int .u8 23), .lit (.int .u8 21), .lit (.int .u8 19), .lit (.int .u8 16), .lit (.int .u8 7), .lit (.int .u8 26), .lit (.int .u8 12), .lit (.int .u8 18), .lit (.int .u8 6), .lit (.int .u8 11), .lit (.int .u8 5), .lit (.int .u8 10), .lit (.int .u8 9)]
def laid_math_bits_deBruijn64tab {H : Type} : DataW H := .agg [.lit (.int .u8 0), .lit (.int .u8 1), .lit (.int .u8 56), .lit (.int .u8 2), .lit (.int .u8 57), .lit (.int .u8 49), .lit (.int .u8 28), .lit (.int .u8 3), .lit (.int .u8 61), .lit (.int .u8 58), .lit (.int .u8 42), .lit (.int .u8 50), .lit (.int .u8 38), .lit (.int .u8 29), .lit (.int .u8 17), .lit (.int .u8 4), .lit (.int .u8 62), .lit (.int .u8 47), .lit (.int .u8 59), .lit (.int .u8 36), .lit (.int .u8 45), .lit (.int .u8 43), .lit (.int .u8 51), .lit (.int .u8 22), .lit (.int .u8 53), .lit (.int .u8 39), .lit (.int .u8 33), .lit (.int .u8 30), .lit (.int .u8 24), .lit (.int .u8 18), .lit (.int .u8 12), .lit (.int .u8 5), .lit (.int .u8 63), .lit (.int .u8 55), .lit (.int .u8 48), .lit (.int .u8 27), .lit (.int .u8 60), .lit (.int .u8 41), .lit (.int .u8 37), .lit (.int .u8 16), .lit (.int .u8 46), .lit (.int .u8 35), .lit (.int .u8 44), .lit (.int .u8 21), .lit (.int .u8 52), .lit (.int .u8 32), .lit (.int .u8 23), .lit (.int .u8 11), .lit (.int .u8 54), .lit (.int .u8 26), .lit (.int .u8 40), .lit (.int .u8 15), .lit (.int .u8 34), .lit (.int .u8 20), .lit (.int .u8 31), .lit (.int .u8 10), .lit (.int .u8 25), .lit (.int .u8 14), .lit (.int .u8 19), .lit (.int .u8 9), .lit (.int .u8 13), .lit (.int .u8 8), .lit (.int .u8 7), .lit (.int .u8 6)]
def laid_internal_strconv_uint64pow10 {H : Type} : DataW H := .agg [.lit (.int .u64 1), .lit (.int .u64 10), .lit (.int .u64 100), .lit (.int .u64 1000), .lit (.int .u64 10000), .lit (.int .u64 100000), .lit (.int .u64 1000000), .lit (.int .u64 10000000), .lit (.int .u64 100000000), .lit (.int .u64 1000000000), .lit (.int .u64 10000000000), .lit (.int .u64 100000000000), .lit (.int .u64 1000000000000), .lit (.int .u64 10000000000000), .lit (.int .u64 100000000000000), .lit (.int .u64 1000000000000000), .lit (.int .u64 10000000000000000), .lit (.int .u64 100000000000000000), .lit (.int .u64 1000000000000000000), .lit (.int .u64 10000000000000000000)]
def laid_wringer_desk_verbs {H : Type} : DataW H := .agg [.lit (.string [102, 111, 114, 109, 97, 116, 58, 97, 110, 110, 98]), .lit (.string [119, 114, 105, 116, 101, 58, 110, 98]), .lit (.string [114, 101, 97, 100, 58, 110]), .lit (.string [114, 97, 119, 58, 110]), .lit (.string [99, 111, 114, 114, 117, 112, 116, 58, 110, 110]), .lit (.string [98, 101, 103, 105, 110, 58, 98]), .lit (.string [115, 116, 101, 112, 58]), .lit (.string [114, 101, 107, 101, 121, 58, 98]), .lit (.string [110, 97, 109, 101, 115, 58, 97, 110, 98]), .lit (.string [101, 110, 99, 114, 121, 112, 116, 58, 110, 98]), .lit (.string [100, 101, 99, 114, 121, 112, 116, 58, 110, 116]), .lit (.string [99, 105, 112, 104, 101, 114, 58, 97, 98]), .lit (.string [115, 101, 97, 108, 58, 110, 98, 115, 98]), .lit (.string [111, 112, 101, 110, 58, 110, 98, 115, 98]), .lit (.string [108, 97, 121, 58, 110, 98, 98]), .lit (.string [99, 108, 101, 97, 114, 58, 110]), .lit (.string [102, 105, 110, 100, 58, 98]), .lit (.string [117, 110, 108, 111, 99, 107, 58, 97, 110, 110, 98])]

/-- 'wringertop.TopEither': WHATEVER THE INPUT: true; the input reads as it did. -/
def topEitherSpec : ChangeSpec := { name := "topEither", fn := fun _ => fun
  | [d] => { results := [.lit (.bool true)], args := [d] }
  | _ => none }
def topEitherRow : OpenClaim := { program := "ytamdifhibogdiaagreatdoor", sum := "ccb611919e631422c0fa9807dbd720eb8a8597cd4bc680c6d0d70bec2d45d41a", func := "wringer/wringertop.TopEither", spec := "topEither", inPlace := ["math/bits.Add64"], unfollowed := true, recurses := true, named := ["wringer/turn.mixes", "wringer/turn.unmixes", "wringer/blake.first", "wringer/blake.rows"], apart := false, laid := [("wringer/blake.first", laid_wringer_blake_first), ("wringer/blake.rows", laid_wringer_blake_rows), ("wringer/turn.mixes", laid_wringer_turn_mixes), ("wringer/turn.unmixes", laid_wringer_turn_unmixes)] }
def TopEitherSaid : Prop := topEitherRow.holds Tryz.pinned (OpenSpec.ofChange topEitherSpec)

/-- ITS FALSE NEIGHBOUR: 'it returns false'. Refute it at one input. -/
def topEitherWrong : ChangeSpec := { name := "topEither", fn := fun _ => fun
  | [d] => { results := [.lit (.bool false)], args := [d] }
  | _ => none }
def TopEitherWrongFalsely : Prop := topEitherRow.holds Tryz.pinned (OpenSpec.ofChange topEitherWrong)

/-- 'wringertop.TopRaw': WHATEVER THE INPUT: true; the input reads as it did. -/
def topRawSpec : ChangeSpec := { name := "topRaw", fn := fun _ => fun
  | [d1, d2, d3] => { results := [.lit (.bool true)], args := [d1, d2, d3] }
  | _ => none }
def topRawRow : OpenClaim := { program := "ytamdifhibogdiaagreatdoor", sum := "ccb611919e631422c0fa9807dbd720eb8a8597cd4bc680c6d0d70bec2d45d41a", func := "wringer/wringertop.TopRaw", spec := "topRaw", inPlace := ["math/bits.Add64", "internal/bytealg.IndexByteString"], unfollowed := true, recurses := true, named := ["wringer/turn.mixes", "wringer/turn.unmixes", "wringer/blake.first", "wringer/blake.rows"], apart := false, laid := [("wringer/blake.first", laid_wringer_blake_first), ("wringer/blake.rows", laid_wringer_blake_rows), ("wringer/turn.mixes", laid_wringer_turn_mixes), ("wringer/turn.unmixes", laid_wringer_turn_unmixes)] }
def TopRawSaid : Prop := topRawRow.holds Tryz.pinned (OpenSpec.ofChange topRawSpec)

/-- ITS FALSE NEIGHBOUR: 'it returns false'. Refute it at one input. -/
def topRawWrong : ChangeSpec := { name := "topRaw", fn := fun _ => fun
  | [d1, d2, d3] => { results := [.lit (.bool false)], args := [d1, d2, d3] }
  | _ => none }
def TopRawWrongFalsely : Prop := topRawRow.holds Tryz.pinned (OpenSpec.ofChange topRawWrong)

/-- 'wringertop.TopScript': WHATEVER THE INPUT: true; the input reads as it did. -/
def topScriptSpec : ChangeSpec := { name := "topScript", fn := fun _ => fun
  | [d] => { results := [.lit (.bool true)], args := [d] }
  | _ => none }
def topScriptRow : OpenClaim := { program := "ytamdifhibogdiaagreatdoor", sum := "ccb611919e631422c0fa9807dbd720eb8a8597cd4bc680c6d0d70bec2d45d41a", func := "wringer/wringertop.TopScript", spec := "topScript", inPlace := ["math/bits.Add64", "internal/bytealg.IndexByteString"], unfollowed := true, recurses := true, named := ["wringer/turn.mixes", "wringer/turn.unmixes", "wringer/blake.first", "wringer/blake.rows"], apart := false, laid := [("wringer/blake.first", laid_wringer_blake_first), ("wringer/blake.rows", laid_wringer_blake_rows), ("wringer/turn.mixes", laid_wringer_turn_mixes), ("wringer/turn.unmixes", laid_wringer_turn_unmixes)] }
def TopScriptSaid : Prop := topScriptRow.holds Tryz.pinned (OpenSpec.ofChange topScriptSpec)

/-- ITS FALSE NEIGHBOUR: 'it returns false'. Refute it at one input. -/
def topScriptWrong : ChangeSpec := { name := "topScript", fn := fun _ => fun
  | [d] => { results := [.lit (.bool false)], args := [d] }
  | _ => none }
def TopScriptWrongFalsely : Prop := topScriptRow.holds Tryz.pinned (OpenSpec.ofChange topScriptWrong)

/-- 'wringerlaw29.BenchLast': WHATEVER THE INPUT: true; the input reads as it did. -/
def benchLastSpec : ChangeSpec := { name := "benchLast", fn := fun _ => fun
  | [d] => { results := [.lit (.bool true)], args := [d] }
  | _ => none }
def benchLastRow : OpenClaim := { program := "ytamdifhibogdiaagreatdoor", sum := "ccb611919e631422c0fa9807dbd720eb8a8597cd4bc680c6d0d70bec2d45d41a", func := "wringer/wringerlaw29.BenchLast", spec := "benchLast", inPlace := ["math/bits.Add64", "internal/bytealg.IndexByteString"], unfollowed := true, recurses := true, named := ["wringer/turn.mixes", "wringer/turn.unmixes", "wringer/blake.first", "wringer/blake.rows"], apart := false, laid := [("wringer/blake.first", laid_wringer_blake_first), ("wringer/blake.rows", laid_wringer_blake_rows), ("wringer/turn.mixes", laid_wringer_turn_mixes), ("wringer/turn.unmixes", laid_wringer_turn_unmixes)] }
def BenchLastSaid : Prop := benchLastRow.holds Tryz.pinned (OpenSpec.ofChange benchLastSpec)

/-- ITS FALSE NEIGHBOUR: 'it returns false'. Refute it at one input. -/
def benchLastWrong : ChangeSpec := { name := "benchLast", fn := fun _ => fun
  | [d] => { results := [.lit (.bool false)], args := [d] }
  | _ => none }
def BenchLastWrongFalsely : Prop := benchLastRow.holds Tryz.pinned (OpenSpec.ofChange benchLastWrong)

/-- 'wringerlaw29.BenchSeals': WHATEVER THE INPUT: true; the input reads as it did. -/
def benchSealsSpec : ChangeSpec := { name := "benchSeals", fn := fun _ => fun
  | [d1, d2, d3] => { results := [.lit (.bool true)], args := [d1, d2, d3] }
  | _ => none }
def benchSealsRow : OpenClaim := { program := "ytamdifhibogdiaagreatdoor", sum := "ccb611919e631422c0fa9807dbd720eb8a8597cd4bc680c6d0d70bec2d45d41a", func := "wringer/wringerlaw29.BenchSeals", spec := "benchSeals", inPlace := ["math/bits.Add64", "internal/bytealg.IndexByteString"], unfollowed := true, recurses := true, named := ["wringer/turn.mixes", "wringer/turn.unmixes", "wringer/blake.first", "wringer/blake.rows"], apart := false, laid := [("wringer/blake.first", laid_wringer_blake_first), ("wringer/blake.rows", laid_wringer_blake_rows), ("wringer/turn.mixes", laid_wringer_turn_mixes), ("wringer/turn.unmixes", laid_wringer_turn_unmixes)] }
def BenchSealsSaid : Prop := benchSealsRow.holds Tryz.pinned (OpenSpec.ofChange benchSealsSpec)

/-- ITS FALSE NEIGHBOUR: 'it returns false'. Refute it at one input. -/
def benchSealsWrong : ChangeSpec := { name := "benchSeals", fn := fun _ => fun
  | [d1, d2, d3] => { results := [.lit (.bool false)], args := [d1, d2, d3] }
  | _ => none }
def BenchSealsWrongFalsely : Prop := benchSealsRow.holds Tryz.pinned (OpenSpec.ofChange benchSealsWrong)

/-- 'wringerlaw29.BenchNames': WHATEVER THE INPUT: true; the input reads as it did. -/
def benchNamesSpec : ChangeSpec := { name := "benchNames", fn := fun _ => fun
  | [d] => { results := [.lit (.bool true)], args := [d] }
  | _ => none }
def benchNamesRow : OpenClaim := { program := "ytamdifhibogdiaagreatdoor", sum := "ccb611919e631422c0fa9807dbd720eb8a8597cd4bc680c6d0d70bec2d45d41a", func := "wringer/wringerlaw29.BenchNames", spec := "benchNames", inPlace := ["math/bits.Add64", "internal/bytealg.IndexByteString"], unfollowed := true, recurses := true, named := ["wringer/turn.mixes", "wringer/turn.unmixes", "wringer/blake.first", "wringer/blake.rows"], apart := false, laid := [("wringer/blake.first", laid_wringer_blake_first), ("wringer/blake.rows", laid_wringer_blake_rows), ("wringer/turn.mixes", laid_wringer_turn_mixes), ("wringer/turn.unmixes", laid_wringer_turn_unmixes)] }
def BenchNamesSaid : Prop := benchNamesRow.holds Tryz.pinned (OpenSpec.ofChange benchNamesSpec)

/-- ITS FALSE NEIGHBOUR: 'it returns false'. Refute it at one input. -/
def benchNamesWrong : ChangeSpec := { name := "benchNames", fn := fun _ => fun
  | [d] => { results := [.lit (.bool false)], args := [d] }
  | _ => none }
def BenchNamesWrongFalsely : Prop := benchNamesRow.holds Tryz.pinned (OpenSpec.ofChange benchNamesWrong)

/-- 'wringerlaw29.BenchNone': WHATEVER THE INPUT: true; the input reads as it did. -/
def benchNoneSpec : ChangeSpec := { name := "benchNone", fn := fun _ => fun
  | [d] => { results := [.lit (.bool true)], args := [d] }
  | _ => none }
def benchNoneRow : OpenClaim := { program := "ytamdifhibogdiaagreatdoor", sum := "ccb611919e631422c0fa9807dbd720eb8a8597cd4bc680c6d0d70bec2d45d41a", func := "wringer/wringerlaw29.BenchNone", spec := "benchNone", inPlace := ["math/bits.Add64", "internal/bytealg.IndexByteString"], unfollowed := true, recurses := true, named := ["wringer/blake.first", "wringer/blake.rows", "wringer/turn.mixes", "wringer/turn.unmixes"], apart := false, laid := [("wringer/blake.first", laid_wringer_blake_first), ("wringer/blake.rows", laid_wringer_blake_rows), ("wringer/turn.mixes", laid_wringer_turn_mixes), ("wringer/turn.unmixes", laid_wringer_turn_unmixes)] }
def BenchNoneSaid : Prop := benchNoneRow.holds Tryz.pinned (OpenSpec.ofChange benchNoneSpec)

/-- ITS FALSE NEIGHBOUR: 'it returns false'. Refute it at one input. -/
def benchNoneWrong : ChangeSpec := { name := "benchNone", fn := fun _ => fun
  | [d] => { results := [.lit (.bool false)], args := [d] }
  | _ => none }
def BenchNoneWrongFalsely : Prop := benchNoneRow.holds Tryz.pinned (OpenSpec.ofChange benchNoneWrong)

/-- 'wringerlaw29.BenchRuns': WHATEVER THE INPUT: true; the input reads as it did. -/
def benchRunsSpec : ChangeSpec := { name := "benchRuns", fn := fun _ => fun
  | [d1, d2] => { results := [.lit (.bool true)], args := [d1, d2] }
  | _ => none }
def benchRunsRow : OpenClaim := { program := "ytamdifhibogdiaagreatdoor", sum := "ccb611919e631422c0fa9807dbd720eb8a8597cd4bc680c6d0d70bec2d45d41a", func := "wringer/wringerlaw29.BenchRuns", spec := "benchRuns", inPlace := ["math/bits.Add64", "internal/bytealg.IndexByteString"], unfollowed := true, recurses := true, named := ["wringer/turn.mixes", "wringer/turn.unmixes", "wringer/blake.first", "wringer/blake.rows"], apart := false, laid := [("wringer/blake.first", laid_wringer_blake_first), ("wringer/blake.rows", laid_wringer_blake_rows), ("wringer/turn.mixes", laid_wringer_turn_mixes), ("wringer/turn.unmixes", laid_wringer_turn_unmixes)] }
def BenchRunsSaid : Prop := benchRunsRow.holds Tryz.pinned (OpenSpec.ofChange benchRunsSpec)

/-- ITS FALSE NEIGHBOUR: 'it returns false'. Refute it at one input. -/
def benchRunsWrong : ChangeSpec := { name := "benchRuns", fn := fun _ => fun
  | [d1, d2] => { results := [.lit (.bool false)], args := [d1, d2] }
  | _ => none }
def BenchRunsWrongFalsely : Prop := benchRunsRow.holds Tryz.pinned (OpenSpec.ofChange benchRunsWrong)

/-- 'wringerlaw29.BenchRefused': WHATEVER THE INPUT: true; the input reads as it did. -/
def benchRefusedSpec : ChangeSpec := { name := "benchRefused", fn := fun _ => fun
  | [d] => { results := [.lit (.bool true)], args := [d] }
  | _ => none }
def benchRefusedRow : OpenClaim := { program := "ytamdifhibogdiaagreatdoor", sum := "ccb611919e631422c0fa9807dbd720eb8a8597cd4bc680c6d0d70bec2d45d41a", func := "wringer/wringerlaw29.BenchRefused", spec := "benchRefused", inPlace := ["math/bits.Add64", "internal/bytealg.IndexByteString"], unfollowed := true, recurses := true, named := ["wringer/turn.mixes", "wringer/turn.unmixes", "wringer/blake.first", "wringer/blake.rows"], apart := false, laid := [("wringer/blake.first", laid_wringer_blake_first), ("wringer/blake.rows", laid_wringer_blake_rows), ("wringer/turn.mixes", laid_wringer_turn_mixes), ("wringer/turn.unmixes", laid_wringer_turn_unmixes)] }
def BenchRefusedSaid : Prop := benchRefusedRow.holds Tryz.pinned (OpenSpec.ofChange benchRefusedSpec)

/-- ITS FALSE NEIGHBOUR: 'it returns false'. Refute it at one input. -/
def benchRefusedWrong : ChangeSpec := { name := "benchRefused", fn := fun _ => fun
  | [d] => { results := [.lit (.bool false)], args := [d] }
  | _ => none }
def BenchRefusedWrongFalsely : Prop := benchRefusedRow.holds Tryz.pinned (OpenSpec.ofChange benchRefusedWrong)

/-- 'wringerlaw31.DeskWords': WHATEVER THE INPUT: true; the input reads as it did. -/
def deskWordsSpec : ChangeSpec := { name := "deskWords", fn := fun _ => fun
  | [d1, d2] => { results := [.lit (.bool true)], args := [d1, d2] }
  | _ => none }
def deskWordsRow : OpenClaim := { program := "ytamdifhibogdiaagreatdoor", sum := "ccb611919e631422c0fa9807dbd720eb8a8597cd4bc680c6d0d70bec2d45d41a", func := "wringer/wringerlaw31.DeskWords", spec := "deskWords", inPlace := ["internal/abi.NoEscape", "internal/bytealg.MakeNoZero", "internal/bytealg.IndexByteString", "internal/bytealg.IndexString", "math/bits.Add64"], unfollowed := true, recurses := true, named := ["wringer/turn.mixes", "wringer/turn.unmixes", "internal/strconv.uint64pow10", "math/bits.deBruijn32tab", "math/bits.deBruijn64tab", "wringer/desk.verbs", "internal/bytealg.MaxLen", "wringer/blake.first", "wringer/blake.rows"], apart := false, laid := [("math/bits.deBruijn32tab", laid_math_bits_deBruijn32tab), ("math/bits.deBruijn64tab", laid_math_bits_deBruijn64tab), ("internal/strconv.uint64pow10", laid_internal_strconv_uint64pow10), ("wringer/blake.first", laid_wringer_blake_first), ("wringer/blake.rows", laid_wringer_blake_rows), ("wringer/turn.mixes", laid_wringer_turn_mixes), ("wringer/turn.unmixes", laid_wringer_turn_unmixes), ("wringer/desk.verbs", laid_wringer_desk_verbs)] }
def DeskWordsSaid : Prop := deskWordsRow.holds Tryz.pinned (OpenSpec.ofChange deskWordsSpec)

/-- ITS FALSE NEIGHBOUR: 'it returns false'. Refute it at one input. -/
def deskWordsWrong : ChangeSpec := { name := "deskWords", fn := fun _ => fun
  | [d1, d2] => { results := [.lit (.bool false)], args := [d1, d2] }
  | _ => none }
def DeskWordsWrongFalsely : Prop := deskWordsRow.holds Tryz.pinned (OpenSpec.ofChange deskWordsWrong)

/-- 'wringerlaw31.DeskBack': WHATEVER THE INPUT: true; the input reads as it did. -/
def deskBackSpec : ChangeSpec := { name := "deskBack", fn := fun _ => fun
  | [d1, d2] => { results := [.lit (.bool true)], args := [d1, d2] }
  | _ => none }
def deskBackRow : OpenClaim := { program := "ytamdifhibogdiaagreatdoor", sum := "ccb611919e631422c0fa9807dbd720eb8a8597cd4bc680c6d0d70bec2d45d41a", func := "wringer/wringerlaw31.DeskBack", spec := "deskBack", inPlace := ["internal/abi.NoEscape", "internal/bytealg.MakeNoZero", "internal/bytealg.IndexByteString", "internal/bytealg.IndexString", "math/bits.Add64"], unfollowed := true, recurses := true, named := ["wringer/turn.mixes", "wringer/turn.unmixes", "internal/strconv.uint64pow10", "math/bits.deBruijn32tab", "math/bits.deBruijn64tab", "wringer/desk.verbs", "internal/bytealg.MaxLen", "wringer/blake.first", "wringer/blake.rows"], apart := false, laid := [("math/bits.deBruijn32tab", laid_math_bits_deBruijn32tab), ("math/bits.deBruijn64tab", laid_math_bits_deBruijn64tab), ("internal/strconv.uint64pow10", laid_internal_strconv_uint64pow10), ("wringer/blake.first", laid_wringer_blake_first), ("wringer/blake.rows", laid_wringer_blake_rows), ("wringer/turn.mixes", laid_wringer_turn_mixes), ("wringer/turn.unmixes", laid_wringer_turn_unmixes), ("wringer/desk.verbs", laid_wringer_desk_verbs)] }
def DeskBackSaid : Prop := deskBackRow.holds Tryz.pinned (OpenSpec.ofChange deskBackSpec)

/-- ITS FALSE NEIGHBOUR: 'it returns false'. Refute it at one input. -/
def deskBackWrong : ChangeSpec := { name := "deskBack", fn := fun _ => fun
  | [d1, d2] => { results := [.lit (.bool false)], args := [d1, d2] }
  | _ => none }
def DeskBackWrongFalsely : Prop := deskBackRow.holds Tryz.pinned (OpenSpec.ofChange deskBackWrong)

/-- 'wringerlaw31.DeskNotes': WHATEVER THE INPUT: true; the input reads as it did. -/
def deskNotesSpec : ChangeSpec := { name := "deskNotes", fn := fun _ => fun
  | [d1, d2] => { results := [.lit (.bool true)], args := [d1, d2] }
  | _ => none }
def deskNotesRow : OpenClaim := { program := "ytamdifhibogdiaagreatdoor", sum := "ccb611919e631422c0fa9807dbd720eb8a8597cd4bc680c6d0d70bec2d45d41a", func := "wringer/wringerlaw31.DeskNotes", spec := "deskNotes", inPlace := ["internal/abi.NoEscape", "internal/bytealg.MakeNoZero", "internal/bytealg.IndexByteString", "internal/bytealg.IndexString", "math/bits.Add64"], unfollowed := true, recurses := true, named := ["wringer/turn.mixes", "wringer/turn.unmixes", "internal/strconv.uint64pow10", "math/bits.deBruijn32tab", "math/bits.deBruijn64tab", "wringer/desk.verbs", "internal/bytealg.MaxLen", "wringer/blake.first", "wringer/blake.rows"], apart := false, laid := [("math/bits.deBruijn32tab", laid_math_bits_deBruijn32tab), ("math/bits.deBruijn64tab", laid_math_bits_deBruijn64tab), ("internal/strconv.uint64pow10", laid_internal_strconv_uint64pow10), ("wringer/blake.first", laid_wringer_blake_first), ("wringer/blake.rows", laid_wringer_blake_rows), ("wringer/turn.mixes", laid_wringer_turn_mixes), ("wringer/turn.unmixes", laid_wringer_turn_unmixes), ("wringer/desk.verbs", laid_wringer_desk_verbs)] }
def DeskNotesSaid : Prop := deskNotesRow.holds Tryz.pinned (OpenSpec.ofChange deskNotesSpec)

/-- ITS FALSE NEIGHBOUR: 'it returns false'. Refute it at one input. -/
def deskNotesWrong : ChangeSpec := { name := "deskNotes", fn := fun _ => fun
  | [d1, d2] => { results := [.lit (.bool false)], args := [d1, d2] }
  | _ => none }
def DeskNotesWrongFalsely : Prop := deskNotesRow.holds Tryz.pinned (OpenSpec.ofChange deskNotesWrong)

/- THE SECOND FORM. 'bulk': how many values and letters a reading holds, each counted each time it is reached (what is shared counts as often as it is met; a slice's spare places count too). A statement '..UptoSaid' is the law's where the arguments, and the package variables that the reading takes, are together of bulk at most 1048576: NARROWER than '..Said'. Prove '..Said' where nothing that the law and all that it calls make is longer than what came in: it says more and counts as full. Else prove '..UptoSaid'. A law counts once. -/
mutual
def uptoBulk {H : Type} : DataW H → Nat
  | .lit (.string bytes) => bytes.length + 1
  | .lit _ => 1
  | .nil => 1
  | .ptr d => uptoBulk d + 1
  | .slice elems spare => uptoBulkAll elems + uptoBulkAll spare + 1
  | .agg parts => uptoBulkAll parts + 1
  | .iface _ d => uptoBulk d + 1
  | .map entries => uptoBulkEntries entries + 1
  | .held _ => 1
def uptoBulkAll {H : Type} : List (DataW H) → Nat
  | [] => 0
  | d :: r => uptoBulk d + uptoBulkAll r
def uptoBulkEntries {H : Type} : List (Lit × DataW H) → Nat
  | [] => 0
  | x :: r => uptoBulkEntry x + uptoBulkEntries r
def uptoBulkEntry {H : Type} : Lit × DataW H → Nat
  | (.string bytes, d) => bytes.length + uptoBulk d + 1
  | (_, d) => uptoBulk d + 1
 end
def uptoSmall : (H : Type) → List (DataW H) → Bool := fun _ ds => decide (uptoBulkAll ds ≤ 1048576)
def OpenSpec.upto (s : _root_.Go.ChangeSpec) : _root_.Go.OpenSpec := { _root_.Go.OpenSpec.ofChange s with cond := some uptoSmall }

/-- 'wringertop.TopEither', WHERE WHAT IT READS IS OF BULK AT MOST 1048576: true; the input reads as it did. -/
def topEitherUptoRow : OpenClaim := { program := "ytamdifhibogdiaagreatdoor", sum := "ccb611919e631422c0fa9807dbd720eb8a8597cd4bc680c6d0d70bec2d45d41a", func := "wringer/wringertop.TopEither", spec := "topEither", inPlace := ["math/bits.Add64"], unfollowed := true, recurses := true, named := ["wringer/turn.mixes", "wringer/turn.unmixes", "wringer/blake.first", "wringer/blake.rows"], apart := false, laid := [("wringer/blake.first", laid_wringer_blake_first), ("wringer/blake.rows", laid_wringer_blake_rows), ("wringer/turn.mixes", laid_wringer_turn_mixes), ("wringer/turn.unmixes", laid_wringer_turn_unmixes)], narrowed := true }
def TopEitherUptoSaid : Prop := topEitherUptoRow.holds Tryz.pinned (OpenSpec.upto topEitherSpec)

/-- 'wringertop.TopRaw', WHERE WHAT IT READS IS OF BULK AT MOST 1048576: true; the input reads as it did. -/
def topRawUptoRow : OpenClaim := { program := "ytamdifhibogdiaagreatdoor", sum := "ccb611919e631422c0fa9807dbd720eb8a8597cd4bc680c6d0d70bec2d45d41a", func := "wringer/wringertop.TopRaw", spec := "topRaw", inPlace := ["math/bits.Add64", "internal/bytealg.IndexByteString"], unfollowed := true, recurses := true, named := ["wringer/turn.mixes", "wringer/turn.unmixes", "wringer/blake.first", "wringer/blake.rows"], apart := false, laid := [("wringer/blake.first", laid_wringer_blake_first), ("wringer/blake.rows", laid_wringer_blake_rows), ("wringer/turn.mixes", laid_wringer_turn_mixes), ("wringer/turn.unmixes", laid_wringer_turn_unmixes)], narrowed := true }
def TopRawUptoSaid : Prop := topRawUptoRow.holds Tryz.pinned (OpenSpec.upto topRawSpec)

/-- 'wringertop.TopScript', WHERE WHAT IT READS IS OF BULK AT MOST 1048576: true; the input reads as it did. -/
def topScriptUptoRow : OpenClaim := { program := "ytamdifhibogdiaagreatdoor", sum := "ccb611919e631422c0fa9807dbd720eb8a8597cd4bc680c6d0d70bec2d45d41a", func := "wringer/wringertop.TopScript", spec := "topScript", inPlace := ["math/bits.Add64", "internal/bytealg.IndexByteString"], unfollowed := true, recurses := true, named := ["wringer/turn.mixes", "wringer/turn.unmixes", "wringer/blake.first", "wringer/blake.rows"], apart := false, laid := [("wringer/blake.first", laid_wringer_blake_first), ("wringer/blake.rows", laid_wringer_blake_rows), ("wringer/turn.mixes", laid_wringer_turn_mixes), ("wringer/turn.unmixes", laid_wringer_turn_unmixes)], narrowed := true }
def TopScriptUptoSaid : Prop := topScriptUptoRow.holds Tryz.pinned (OpenSpec.upto topScriptSpec)

/-- 'wringerlaw29.BenchLast', WHERE WHAT IT READS IS OF BULK AT MOST 1048576: true; the input reads as it did. -/
def benchLastUptoRow : OpenClaim := { program := "ytamdifhibogdiaagreatdoor", sum := "ccb611919e631422c0fa9807dbd720eb8a8597cd4bc680c6d0d70bec2d45d41a", func := "wringer/wringerlaw29.BenchLast", spec := "benchLast", inPlace := ["math/bits.Add64", "internal/bytealg.IndexByteString"], unfollowed := true, recurses := true, named := ["wringer/turn.mixes", "wringer/turn.unmixes", "wringer/blake.first", "wringer/blake.rows"], apart := false, laid := [("wringer/blake.first", laid_wringer_blake_first), ("wringer/blake.rows", laid_wringer_blake_rows), ("wringer/turn.mixes", laid_wringer_turn_mixes), ("wringer/turn.unmixes", laid_wringer_turn_unmixes)], narrowed := true }
def BenchLastUptoSaid : Prop := benchLastUptoRow.holds Tryz.pinned (OpenSpec.upto benchLastSpec)

/-- 'wringerlaw29.BenchSeals', WHERE WHAT IT READS IS OF BULK AT MOST 1048576: true; the input reads as it did. -/
def benchSealsUptoRow : OpenClaim := { program := "ytamdifhibogdiaagreatdoor", sum := "ccb611919e631422c0fa9807dbd720eb8a8597cd4bc680c6d0d70bec2d45d41a", func := "wringer/wringerlaw29.BenchSeals", spec := "benchSeals", inPlace := ["math/bits.Add64", "internal/bytealg.IndexByteString"], unfollowed := true, recurses := true, named := ["wringer/turn.mixes", "wringer/turn.unmixes", "wringer/blake.first", "wringer/blake.rows"], apart := false, laid := [("wringer/blake.first", laid_wringer_blake_first), ("wringer/blake.rows", laid_wringer_blake_rows), ("wringer/turn.mixes", laid_wringer_turn_mixes), ("wringer/turn.unmixes", laid_wringer_turn_unmixes)], narrowed := true }
def BenchSealsUptoSaid : Prop := benchSealsUptoRow.holds Tryz.pinned (OpenSpec.upto benchSealsSpec)

/-- 'wringerlaw29.BenchNames', WHERE WHAT IT READS IS OF BULK AT MOST 1048576: true; the input reads as it did. -/
def benchNamesUptoRow : OpenClaim := { program := "ytamdifhibogdiaagreatdoor", sum := "ccb611919e631422c0fa9807dbd720eb8a8597cd4bc680c6d0d70bec2d45d41a", func := "wringer/wringerlaw29.BenchNames", spec := "benchNames", inPlace := ["math/bits.Add64", "internal/bytealg.IndexByteString"], unfollowed := true, recurses := true, named := ["wringer/turn.mixes", "wringer/turn.unmixes", "wringer/blake.first", "wringer/blake.rows"], apart := false, laid := [("wringer/blake.first", laid_wringer_blake_first), ("wringer/blake.rows", laid_wringer_blake_rows), ("wringer/turn.mixes", laid_wringer_turn_mixes), ("wringer/turn.unmixes", laid_wringer_turn_unmixes)], narrowed := true }
def BenchNamesUptoSaid : Prop := benchNamesUptoRow.holds Tryz.pinned (OpenSpec.upto benchNamesSpec)

/-- 'wringerlaw29.BenchNone', WHERE WHAT IT READS IS OF BULK AT MOST 1048576: true; the input reads as it did. -/
def benchNoneUptoRow : OpenClaim := { program := "ytamdifhibogdiaagreatdoor", sum := "ccb611919e631422c0fa9807dbd720eb8a8597cd4bc680c6d0d70bec2d45d41a", func := "wringer/wringerlaw29.BenchNone", spec := "benchNone", inPlace := ["math/bits.Add64", "internal/bytealg.IndexByteString"], unfollowed := true, recurses := true, named := ["wringer/blake.first", "wringer/blake.rows", "wringer/turn.mixes", "wringer/turn.unmixes"], apart := false, laid := [("wringer/blake.first", laid_wringer_blake_first), ("wringer/blake.rows", laid_wringer_blake_rows), ("wringer/turn.mixes", laid_wringer_turn_mixes), ("wringer/turn.unmixes", laid_wringer_turn_unmixes)], narrowed := true }
def BenchNoneUptoSaid : Prop := benchNoneUptoRow.holds Tryz.pinned (OpenSpec.upto benchNoneSpec)

/-- 'wringerlaw29.BenchRuns', WHERE WHAT IT READS IS OF BULK AT MOST 1048576: true; the input reads as it did. -/
def benchRunsUptoRow : OpenClaim := { program := "ytamdifhibogdiaagreatdoor", sum := "ccb611919e631422c0fa9807dbd720eb8a8597cd4bc680c6d0d70bec2d45d41a", func := "wringer/wringerlaw29.BenchRuns", spec := "benchRuns", inPlace := ["math/bits.Add64", "internal/bytealg.IndexByteString"], unfollowed := true, recurses := true, named := ["wringer/turn.mixes", "wringer/turn.unmixes", "wringer/blake.first", "wringer/blake.rows"], apart := false, laid := [("wringer/blake.first", laid_wringer_blake_first), ("wringer/blake.rows", laid_wringer_blake_rows), ("wringer/turn.mixes", laid_wringer_turn_mixes), ("wringer/turn.unmixes", laid_wringer_turn_unmixes)], narrowed := true }
def BenchRunsUptoSaid : Prop := benchRunsUptoRow.holds Tryz.pinned (OpenSpec.upto benchRunsSpec)

/-- 'wringerlaw29.BenchRefused', WHERE WHAT IT READS IS OF BULK AT MOST 1048576: true; the input reads as it did. -/
def benchRefusedUptoRow : OpenClaim := { program := "ytamdifhibogdiaagreatdoor", sum := "ccb611919e631422c0fa9807dbd720eb8a8597cd4bc680c6d0d70bec2d45d41a", func := "wringer/wringerlaw29.BenchRefused", spec := "benchRefused", inPlace := ["math/bits.Add64", "internal/bytealg.IndexByteString"], unfollowed := true, recurses := true, named := ["wringer/turn.mixes", "wringer/turn.unmixes", "wringer/blake.first", "wringer/blake.rows"], apart := false, laid := [("wringer/blake.first", laid_wringer_blake_first), ("wringer/blake.rows", laid_wringer_blake_rows), ("wringer/turn.mixes", laid_wringer_turn_mixes), ("wringer/turn.unmixes", laid_wringer_turn_unmixes)], narrowed := true }
def BenchRefusedUptoSaid : Prop := benchRefusedUptoRow.holds Tryz.pinned (OpenSpec.upto benchRefusedSpec)

/-- 'wringerlaw31.DeskWords', WHERE WHAT IT READS IS OF BULK AT MOST 1048576: true; the input reads as it did. -/
def deskWordsUptoRow : OpenClaim := { program := "ytamdifhibogdiaagreatdoor", sum := "ccb611919e631422c0fa9807dbd720eb8a8597cd4bc680c6d0d70bec2d45d41a", func := "wringer/wringerlaw31.DeskWords", spec := "deskWords", inPlace := ["internal/abi.NoEscape", "internal/bytealg.MakeNoZero", "internal/bytealg.IndexByteString", "internal/bytealg.IndexString", "math/bits.Add64"], unfollowed := true, recurses := true, named := ["wringer/turn.mixes", "wringer/turn.unmixes", "internal/strconv.uint64pow10", "math/bits.deBruijn32tab", "math/bits.deBruijn64tab", "wringer/desk.verbs", "internal/bytealg.MaxLen", "wringer/blake.first", "wringer/blake.rows"], apart := false, laid := [("math/bits.deBruijn32tab", laid_math_bits_deBruijn32tab), ("math/bits.deBruijn64tab", laid_math_bits_deBruijn64tab), ("internal/strconv.uint64pow10", laid_internal_strconv_uint64pow10), ("wringer/blake.first", laid_wringer_blake_first), ("wringer/blake.rows", laid_wringer_blake_rows), ("wringer/turn.mixes", laid_wringer_turn_mixes), ("wringer/turn.unmixes", laid_wringer_turn_unmixes), ("wringer/desk.verbs", laid_wringer_desk_verbs)], narrowed := true }
def DeskWordsUptoSaid : Prop := deskWordsUptoRow.holds Tryz.pinned (OpenSpec.upto deskWordsSpec)

/-- 'wringerlaw31.DeskBack', WHERE WHAT IT READS IS OF BULK AT MOST 1048576: true; the input reads as it did. -/
def deskBackUptoRow : OpenClaim := { program := "ytamdifhibogdiaagreatdoor", sum := "ccb611919e631422c0fa9807dbd720eb8a8597cd4bc680c6d0d70bec2d45d41a", func := "wringer/wringerlaw31.DeskBack", spec := "deskBack", inPlace := ["internal/abi.NoEscape", "internal/bytealg.MakeNoZero", "internal/bytealg.IndexByteString", "internal/bytealg.IndexString", "math/bits.Add64"], unfollowed := true, recurses := true, named := ["wringer/turn.mixes", "wringer/turn.unmixes", "internal/strconv.uint64pow10", "math/bits.deBruijn32tab", "math/bits.deBruijn64tab", "wringer/desk.verbs", "internal/bytealg.MaxLen", "wringer/blake.first", "wringer/blake.rows"], apart := false, laid := [("math/bits.deBruijn32tab", laid_math_bits_deBruijn32tab), ("math/bits.deBruijn64tab", laid_math_bits_deBruijn64tab), ("internal/strconv.uint64pow10", laid_internal_strconv_uint64pow10), ("wringer/blake.first", laid_wringer_blake_first), ("wringer/blake.rows", laid_wringer_blake_rows), ("wringer/turn.mixes", laid_wringer_turn_mixes), ("wringer/turn.unmixes", laid_wringer_turn_unmixes), ("wringer/desk.verbs", laid_wringer_desk_verbs)], narrowed := true }
def DeskBackUptoSaid : Prop := deskBackUptoRow.holds Tryz.pinned (OpenSpec.upto deskBackSpec)

/-- 'wringerlaw31.DeskNotes', WHERE WHAT IT READS IS OF BULK AT MOST 1048576: true; the input reads as it did. -/
def deskNotesUptoRow : OpenClaim := { program := "ytamdifhibogdiaagreatdoor", sum := "ccb611919e631422c0fa9807dbd720eb8a8597cd4bc680c6d0d70bec2d45d41a", func := "wringer/wringerlaw31.DeskNotes", spec := "deskNotes", inPlace := ["internal/abi.NoEscape", "internal/bytealg.MakeNoZero", "internal/bytealg.IndexByteString", "internal/bytealg.IndexString", "math/bits.Add64"], unfollowed := true, recurses := true, named := ["wringer/turn.mixes", "wringer/turn.unmixes", "internal/strconv.uint64pow10", "math/bits.deBruijn32tab", "math/bits.deBruijn64tab", "wringer/desk.verbs", "internal/bytealg.MaxLen", "wringer/blake.first", "wringer/blake.rows"], apart := false, laid := [("math/bits.deBruijn32tab", laid_math_bits_deBruijn32tab), ("math/bits.deBruijn64tab", laid_math_bits_deBruijn64tab), ("internal/strconv.uint64pow10", laid_internal_strconv_uint64pow10), ("wringer/blake.first", laid_wringer_blake_first), ("wringer/blake.rows", laid_wringer_blake_rows), ("wringer/turn.mixes", laid_wringer_turn_mixes), ("wringer/turn.unmixes", laid_wringer_turn_unmixes), ("wringer/desk.verbs", laid_wringer_desk_verbs)], narrowed := true }
def DeskNotesUptoSaid : Prop := deskNotesUptoRow.holds Tryz.pinned (OpenSpec.upto deskNotesSpec)

end Rows
end Go.Proofs.YtamdifhibogdiaaGreatDoor
