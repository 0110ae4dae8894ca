/-
  NARROWER THAN 'FOR EVERY INPUT', by the rows' own cells (each row's printed sentence says how): SealBack: laid · SealShort: laid · SealEmpty: laid · SealOnly: laid · SealNoughts: laid · SealKept: laid · VolumeLast: laid · VolumeSteps: laid · VolumeCorrupt: laid · VolumeStored: laid · VolumeWrong: laid · TopEither: laid.
  DERIVED. THE GIVEN ROWS OF THIS SEAT. 12 by the template 'for every input the law returns true; each argument reads behind the call as it read before'; 0 by the template 'total and deterministic' (their statements: YtjaioajjfiaheaaGreatDoorTotals.lean).
  GIVEN WITH THE SEED: the statements are not yours to turn. If you find one false, say at which input.
  Laid BY PROGRAM, IN A SANDBOX (cutbox-rows.mjs): the forced cells as the released guide's own fill.sh prints them over the translation edfc450e654263e4… (all of the seat's roots in one cut). By AI agents, Wed Nov 11 2026. No macro, syntax, notation, axiom, sorry.
-/
import Derived.Test.YtjaioajjfiaheaaGreatDoorChecked
import GoSem.Claim
import GoSem.ClaimJoined
import GoSem.ClaimMapViews
import Derived.JoinedTies
import Derived.KernelRfl
namespace Go.Proofs.YtjaioajjfiaheaaGreatDoor
/- THE CELL 'sum', in the pinned program and in every row, IS THE sha256 OF THE DUMP (.gsa) THAT YtjaioajjfiaheaaGreatDoorProg.lean LOADS. Nothing in Lean hashes anything: it is a label: what it is worth is what the hold of that sum in a sandbox is worth. -/
noncomputable def Tryz.pinned : Pinned := { name := "ytjaioajjfiaheaagreatdoor", sum := "edfc450e654263e409291a81416dc2507dd2fb8e8a646641d5b0cae6d92b4ecd", checked := Tryz.checked }
namespace Rows
def none {H : Type} : Left H := { results := [], args := [] }

/- WHAT THE LISTED PACKAGE-LEVEL VARIABLES READ AS WHEN THE CALL BEGINS. Each datum BY PROGRAM (the guide's laid-datum.mjs) off the statement by which the dump's own 'gosem.cut.vars' lays the variable. In a bare row this is a premise. The card (YtjaioajjfiaheaaGreatDoorCards.lean) ties it to the program's text. -/
def laid_wringer_blake_first {H : Type} : DataW H := .agg [.lit (.int .u64 7640891576956012808), .lit (.int .u64 13503953896175478587), .lit (.int .u64 4354685564936845355), .lit (.int .u64 11912009170470909681), .lit (.int .u64 5840696475078001361), .lit (.int .u64 11170449401992604703), .lit (.int .u64 2270897969802886507), .lit (.int .u64 6620516959819538809)]
def laid_wringer_blake_rows {H : Type} : DataW H := .agg [.agg [.lit (.int .u8 0), .lit (.int .u8 1), .lit (.int .u8 2), .lit (.int .u8 3), .lit (.int .u8 4), .lit (.int .u8 5), .lit (.int .u8 6), .lit (.int .u8 7), .lit (.int .u8 8), .lit (.int .u8 9), .lit (.int .u8 10), .lit (.int .u8 11), .lit (.int .u8 12), .lit (.int .u8 13), .lit (.int .u8 14), .lit (.int .u8 15)], .agg [.lit (.int .u8 14), .lit (.int .u8 10), .lit (.int .u8 4), .lit (.int .u8 8), .lit (.int .u8 9), .lit (.int .u8 15), .lit (.int .u8 13), .lit (.int .u8 6), .lit (.int .u8 1), .lit (.int .u8 12), .lit (.int .u8 0), .lit (.int .u8 2), .lit (.int .u8 11), .lit (.int .u8 7), .lit (.int .u8 5), .lit (.int .u8 3)], .agg [.lit (.int .u8 11), .lit (.int .u8 8), .lit (.int .u8 12), .lit (.int .u8 0), .lit (.int .u8 5), .lit (.int .u8 2), .lit (.int .u8 15), .lit (.int .u8 13), .lit (.int .u8 10), .lit (.int .u8 14), .lit (.int .u8 3), .lit (.int .u8 6), .lit (.int .u8 7), .lit (.int .u8 1), .lit (.int .u8 9), .lit (.int .u8 4)], .agg [.lit (.int .u8 7), .lit (.int .u8 9), .lit (.int .u8 3), .lit (.int .u8 1), .lit (.int .u8 13), .lit (.int .u8 12), .lit (.int .u8 11), .lit (.int .u8 14), .lit (.int .u8 2), .lit (.int .u8 6), .lit (.int .u8 5), .lit (.int .u8 10), .lit (.int .u8 4), .lit (.int .u8 0), .lit (.int .u8 15), .lit (.int .u8 8)], .agg [.lit (.int .u8 9), .lit (.int .u8 0), .lit (.int .u8 5), .lit (.int .u8 7), .lit (.int .u8 2), .lit (.int .u8 4), .lit (.int .u8 10), .lit (.int .u8 15), .lit (.int .u8 14), .lit (.int .u8 1), .lit (.int .u8 11), .lit (.int .u8 12), .lit (.int .u8 6), .lit (.int .u8 8), .lit (.int .u8 3), .lit (.int .u8 13)], .agg [.lit (.int .u8 2), .lit (.int .u8 12), .lit (.int .u8 6), .lit (.int .u8 10), .lit (.int .u8 0), .lit (.int .u8 11), .lit (.int .u8 8), .lit (.int .u8 3), .lit (.int .u8 4), .lit (.int .u8 13), .lit (.int .u8 7), .lit (.int .u8 5), .lit (.int .u8 15), .lit (.int .u8 14), .lit (.int .u8 1), .lit (.int .u8 9)], .agg [.lit (.int .u8 12), .lit (.int .u8 5), .lit (.int .u8 1), .lit (.int .u8 15), .lit (.int .u8 14), .lit (.int .u8 13), .lit (.int .u8 4), .lit (.int .u8 10), .lit (.int .u8 0), .lit (.int .u8 7), .lit (.int .u8 6), .lit (.int .u8 3), .lit (.int .u8 9), .lit (.int .u8 2), .lit (.int .u8 8), .lit (.int .u8 11)], .agg [.lit (.int .u8 13), .lit (.int .u8 11), .lit (.int .u8 7), .lit (.int .u8 14), .lit (.int .u8 12), .lit (.int .u8 1), .lit (.int .u8 3), .lit (.int .u8 9), .lit (.int .u8 5), .lit (.int .u8 0), .lit (.int .u8 15), .lit (.int .u8 4), .lit (.int .u8 8), .lit (.int .u8 6), .lit (.int .u8 2), .lit (.int .u8 10)], .agg [.lit (.int .u8 6), .lit (.int .u8 15), .lit (.int .u8 14), .lit (.int .u8 9), .lit (.int .u8 11), .lit (.int .u8 3), .lit (.int .u8 0), .lit (.int .u8 8), .lit (.int .u8 12), .lit (.int .u8 2), .lit (.int .u8 13), .lit (.int .u8 7), .lit (.int .u8 1), .lit (.int .u8 4), .lit (.int .u8 10), .lit (.int .u8 5)], .agg [.lit (.int .u8 10), .lit (.int .u8 2), .lit (.int .u8 8), .lit (.int .u8 4), .lit (.int .u8 7), .lit (.int .u8 6), .lit (.int .u8 1), .lit (.int .u8 5), .lit (.int .u8 15), .lit (.int .u8 11), .lit (.int .u8 9), .lit (.int .u8 14), .lit (.int .u8 3), .lit (.int .u8 12), .lit (.int .u8 13), .lit (.int .u8 0)]]
def laid_wringer_turn_mixes {H : Type} : DataW H := .agg [.lit (.int .u8 2), .lit (.int .u8 3), .lit (.int .u8 1), .lit (.int .u8 1)]
def laid_wringer_turn_unmixes {H : Type} : DataW H := .agg [.lit (.int .u8 14), .lit (.int .u8 11), .lit (.int .u8 13), .lit (.int .u8 9)]

/-- 'wringerlaw23.SealBack': WHATEVER THE INPUT: true; the input reads as it did. -/
def sealBackSpec : ChangeSpec := { name := "sealBack", fn := fun _ => fun
  | [d] => { results := [.lit (.bool true)], args := [d] }
  | _ => none }
def sealBackRow : OpenClaim := { program := "ytjaioajjfiaheaagreatdoor", sum := "edfc450e654263e409291a81416dc2507dd2fb8e8a646641d5b0cae6d92b4ecd", func := "wringer/wringerlaw23.SealBack", spec := "sealBack", inPlace := ["math/bits.Add64"], unfollowed := true, recurses := true, named := ["wringer/turn.mixes", "wringer/turn.unmixes", "wringer/blake.first", "wringer/blake.rows"], apart := false, laid := [("wringer/blake.first", laid_wringer_blake_first), ("wringer/blake.rows", laid_wringer_blake_rows), ("wringer/turn.mixes", laid_wringer_turn_mixes), ("wringer/turn.unmixes", laid_wringer_turn_unmixes)] }
def SealBackSaid : Prop := sealBackRow.holds Tryz.pinned (OpenSpec.ofChange sealBackSpec)

/-- ITS FALSE NEIGHBOUR: 'it returns false'. Refute it at one input. -/
def sealBackWrong : ChangeSpec := { name := "sealBack", fn := fun _ => fun
  | [d] => { results := [.lit (.bool false)], args := [d] }
  | _ => none }
def SealBackWrongFalsely : Prop := sealBackRow.holds Tryz.pinned (OpenSpec.ofChange sealBackWrong)

/-- 'wringerlaw23.SealShort': WHATEVER THE INPUT: true; the input reads as it did. -/
def sealShortSpec : ChangeSpec := { name := "sealShort", fn := fun _ => fun
  | [d] => { results := [.lit (.bool true)], args := [d] }
  | _ => none }
def sealShortRow : OpenClaim := { program := "ytjaioajjfiaheaagreatdoor", sum := "edfc450e654263e409291a81416dc2507dd2fb8e8a646641d5b0cae6d92b4ecd", func := "wringer/wringerlaw23.SealShort", spec := "sealShort", inPlace := ["math/bits.Add64"], unfollowed := true, recurses := true, named := ["wringer/turn.mixes", "wringer/turn.unmixes", "wringer/blake.first", "wringer/blake.rows"], apart := false, laid := [("wringer/blake.first", laid_wringer_blake_first), ("wringer/blake.rows", laid_wringer_blake_rows), ("wringer/turn.mixes", laid_wringer_turn_mixes), ("wringer/turn.unmixes", laid_wringer_turn_unmixes)] }
def SealShortSaid : Prop := sealShortRow.holds Tryz.pinned (OpenSpec.ofChange sealShortSpec)

/-- ITS FALSE NEIGHBOUR: 'it returns false'. Refute it at one input. -/
def sealShortWrong : ChangeSpec := { name := "sealShort", fn := fun _ => fun
  | [d] => { results := [.lit (.bool false)], args := [d] }
  | _ => none }
def SealShortWrongFalsely : Prop := sealShortRow.holds Tryz.pinned (OpenSpec.ofChange sealShortWrong)

/-- 'wringerlaw23.SealEmpty': WHATEVER THE INPUT: true; the input reads as it did. -/
def sealEmptySpec : ChangeSpec := { name := "sealEmpty", fn := fun _ => fun
  | [d1, d2, d3] => { results := [.lit (.bool true)], args := [d1, d2, d3] }
  | _ => none }
def sealEmptyRow : OpenClaim := { program := "ytjaioajjfiaheaagreatdoor", sum := "edfc450e654263e409291a81416dc2507dd2fb8e8a646641d5b0cae6d92b4ecd", func := "wringer/wringerlaw23.SealEmpty", spec := "sealEmpty", inPlace := ["math/bits.Add64"], unfollowed := true, recurses := true, named := ["wringer/turn.mixes", "wringer/turn.unmixes", "wringer/blake.first", "wringer/blake.rows"], apart := false, laid := [("wringer/blake.first", laid_wringer_blake_first), ("wringer/blake.rows", laid_wringer_blake_rows), ("wringer/turn.mixes", laid_wringer_turn_mixes), ("wringer/turn.unmixes", laid_wringer_turn_unmixes)] }
def SealEmptySaid : Prop := sealEmptyRow.holds Tryz.pinned (OpenSpec.ofChange sealEmptySpec)

/-- ITS FALSE NEIGHBOUR: 'it returns false'. Refute it at one input. -/
def sealEmptyWrong : ChangeSpec := { name := "sealEmpty", fn := fun _ => fun
  | [d1, d2, d3] => { results := [.lit (.bool false)], args := [d1, d2, d3] }
  | _ => none }
def SealEmptyWrongFalsely : Prop := sealEmptyRow.holds Tryz.pinned (OpenSpec.ofChange sealEmptyWrong)

/-- 'wringerlaw23.SealOnly': WHATEVER THE INPUT: true; the input reads as it did. -/
def sealOnlySpec : ChangeSpec := { name := "sealOnly", fn := fun _ => fun
  | [d] => { results := [.lit (.bool true)], args := [d] }
  | _ => none }
def sealOnlyRow : OpenClaim := { program := "ytjaioajjfiaheaagreatdoor", sum := "edfc450e654263e409291a81416dc2507dd2fb8e8a646641d5b0cae6d92b4ecd", func := "wringer/wringerlaw23.SealOnly", spec := "sealOnly", inPlace := ["math/bits.Add64"], unfollowed := true, recurses := true, named := ["wringer/turn.mixes", "wringer/turn.unmixes", "wringer/blake.first", "wringer/blake.rows"], apart := false, laid := [("wringer/blake.first", laid_wringer_blake_first), ("wringer/blake.rows", laid_wringer_blake_rows), ("wringer/turn.mixes", laid_wringer_turn_mixes), ("wringer/turn.unmixes", laid_wringer_turn_unmixes)] }
def SealOnlySaid : Prop := sealOnlyRow.holds Tryz.pinned (OpenSpec.ofChange sealOnlySpec)

/-- ITS FALSE NEIGHBOUR: 'it returns false'. Refute it at one input. -/
def sealOnlyWrong : ChangeSpec := { name := "sealOnly", fn := fun _ => fun
  | [d] => { results := [.lit (.bool false)], args := [d] }
  | _ => none }
def SealOnlyWrongFalsely : Prop := sealOnlyRow.holds Tryz.pinned (OpenSpec.ofChange sealOnlyWrong)

/-- 'wringerlaw23.SealNoughts': WHATEVER THE INPUT: true; the input reads as it did. -/
def sealNoughtsSpec : ChangeSpec := { name := "sealNoughts", fn := fun _ => fun
  | [d] => { results := [.lit (.bool true)], args := [d] }
  | _ => none }
def sealNoughtsRow : OpenClaim := { program := "ytjaioajjfiaheaagreatdoor", sum := "edfc450e654263e409291a81416dc2507dd2fb8e8a646641d5b0cae6d92b4ecd", func := "wringer/wringerlaw23.SealNoughts", spec := "sealNoughts", inPlace := ["math/bits.Add64"], unfollowed := true, recurses := true, named := ["wringer/turn.mixes", "wringer/turn.unmixes", "wringer/blake.first", "wringer/blake.rows"], apart := false, laid := [("wringer/blake.first", laid_wringer_blake_first), ("wringer/blake.rows", laid_wringer_blake_rows), ("wringer/turn.mixes", laid_wringer_turn_mixes), ("wringer/turn.unmixes", laid_wringer_turn_unmixes)] }
def SealNoughtsSaid : Prop := sealNoughtsRow.holds Tryz.pinned (OpenSpec.ofChange sealNoughtsSpec)

/-- ITS FALSE NEIGHBOUR: 'it returns false'. Refute it at one input. -/
def sealNoughtsWrong : ChangeSpec := { name := "sealNoughts", fn := fun _ => fun
  | [d] => { results := [.lit (.bool false)], args := [d] }
  | _ => none }
def SealNoughtsWrongFalsely : Prop := sealNoughtsRow.holds Tryz.pinned (OpenSpec.ofChange sealNoughtsWrong)

/-- 'wringerlaw23.SealKept': WHATEVER THE INPUT: true; the input reads as it did. -/
def sealKeptSpec : ChangeSpec := { name := "sealKept", fn := fun _ => fun
  | [d] => { results := [.lit (.bool true)], args := [d] }
  | _ => none }
def sealKeptRow : OpenClaim := { program := "ytjaioajjfiaheaagreatdoor", sum := "edfc450e654263e409291a81416dc2507dd2fb8e8a646641d5b0cae6d92b4ecd", func := "wringer/wringerlaw23.SealKept", spec := "sealKept", inPlace := ["math/bits.Add64"], unfollowed := true, recurses := true, named := ["wringer/turn.mixes", "wringer/turn.unmixes", "wringer/blake.first", "wringer/blake.rows"], apart := false, laid := [("wringer/blake.first", laid_wringer_blake_first), ("wringer/blake.rows", laid_wringer_blake_rows), ("wringer/turn.mixes", laid_wringer_turn_mixes), ("wringer/turn.unmixes", laid_wringer_turn_unmixes)] }
def SealKeptSaid : Prop := sealKeptRow.holds Tryz.pinned (OpenSpec.ofChange sealKeptSpec)

/-- ITS FALSE NEIGHBOUR: 'it returns false'. Refute it at one input. -/
def sealKeptWrong : ChangeSpec := { name := "sealKept", fn := fun _ => fun
  | [d] => { results := [.lit (.bool false)], args := [d] }
  | _ => none }
def SealKeptWrongFalsely : Prop := sealKeptRow.holds Tryz.pinned (OpenSpec.ofChange sealKeptWrong)

/-- 'wringerlaw25.VolumeLast': WHATEVER THE INPUT: true; the input reads as it did. -/
def volumeLastSpec : ChangeSpec := { name := "volumeLast", fn := fun _ => fun
  | [d] => { results := [.lit (.bool true)], args := [d] }
  | _ => none }
def volumeLastRow : OpenClaim := { program := "ytjaioajjfiaheaagreatdoor", sum := "edfc450e654263e409291a81416dc2507dd2fb8e8a646641d5b0cae6d92b4ecd", func := "wringer/wringerlaw25.VolumeLast", spec := "volumeLast", inPlace := ["math/bits.Add64"], unfollowed := true, recurses := true, named := ["wringer/turn.mixes", "wringer/turn.unmixes", "wringer/blake.first", "wringer/blake.rows"], apart := false, laid := [("wringer/blake.first", laid_wringer_blake_first), ("wringer/blake.rows", laid_wringer_blake_rows), ("wringer/turn.mixes", laid_wringer_turn_mixes), ("wringer/turn.unmixes", laid_wringer_turn_unmixes)] }
def VolumeLastSaid : Prop := volumeLastRow.holds Tryz.pinned (OpenSpec.ofChange volumeLastSpec)

/-- ITS FALSE NEIGHBOUR: 'it returns false'. Refute it at one input. -/
def volumeLastWrong : ChangeSpec := { name := "volumeLast", fn := fun _ => fun
  | [d] => { results := [.lit (.bool false)], args := [d] }
  | _ => none }
def VolumeLastWrongFalsely : Prop := volumeLastRow.holds Tryz.pinned (OpenSpec.ofChange volumeLastWrong)

/-- 'wringerlaw25.VolumeSteps': WHATEVER THE INPUT: true; the input reads as it did. -/
def volumeStepsSpec : ChangeSpec := { name := "volumeSteps", fn := fun _ => fun
  | [d1, d2] => { results := [.lit (.bool true)], args := [d1, d2] }
  | _ => none }
def volumeStepsRow : OpenClaim := { program := "ytjaioajjfiaheaagreatdoor", sum := "edfc450e654263e409291a81416dc2507dd2fb8e8a646641d5b0cae6d92b4ecd", func := "wringer/wringerlaw25.VolumeSteps", spec := "volumeSteps", inPlace := ["math/bits.Add64"], unfollowed := true, recurses := true, named := ["wringer/turn.mixes", "wringer/turn.unmixes", "wringer/blake.first", "wringer/blake.rows"], apart := false, laid := [("wringer/blake.first", laid_wringer_blake_first), ("wringer/blake.rows", laid_wringer_blake_rows), ("wringer/turn.mixes", laid_wringer_turn_mixes), ("wringer/turn.unmixes", laid_wringer_turn_unmixes)] }
def VolumeStepsSaid : Prop := volumeStepsRow.holds Tryz.pinned (OpenSpec.ofChange volumeStepsSpec)

/-- ITS FALSE NEIGHBOUR: 'it returns false'. Refute it at one input. -/
def volumeStepsWrong : ChangeSpec := { name := "volumeSteps", fn := fun _ => fun
  | [d1, d2] => { results := [.lit (.bool false)], args := [d1, d2] }
  | _ => none }
def VolumeStepsWrongFalsely : Prop := volumeStepsRow.holds Tryz.pinned (OpenSpec.ofChange volumeStepsWrong)

/-- 'wringerlaw25.VolumeCorrupt': WHATEVER THE INPUT: true; the input reads as it did. -/
def volumeCorruptSpec : ChangeSpec := { name := "volumeCorrupt", fn := fun _ => fun
  | [d1, d2, d3] => { results := [.lit (.bool true)], args := [d1, d2, d3] }
  | _ => none }
def volumeCorruptRow : OpenClaim := { program := "ytjaioajjfiaheaagreatdoor", sum := "edfc450e654263e409291a81416dc2507dd2fb8e8a646641d5b0cae6d92b4ecd", func := "wringer/wringerlaw25.VolumeCorrupt", spec := "volumeCorrupt", inPlace := ["math/bits.Add64"], unfollowed := true, recurses := true, named := ["wringer/turn.mixes", "wringer/turn.unmixes", "wringer/blake.first", "wringer/blake.rows"], apart := false, laid := [("wringer/blake.first", laid_wringer_blake_first), ("wringer/blake.rows", laid_wringer_blake_rows), ("wringer/turn.mixes", laid_wringer_turn_mixes), ("wringer/turn.unmixes", laid_wringer_turn_unmixes)] }
def VolumeCorruptSaid : Prop := volumeCorruptRow.holds Tryz.pinned (OpenSpec.ofChange volumeCorruptSpec)

/-- ITS FALSE NEIGHBOUR: 'it returns false'. Refute it at one input. -/
def volumeCorruptWrong : ChangeSpec := { name := "volumeCorrupt", fn := fun _ => fun
  | [d1, d2, d3] => { results := [.lit (.bool false)], args := [d1, d2, d3] }
  | _ => none }
def VolumeCorruptWrongFalsely : Prop := volumeCorruptRow.holds Tryz.pinned (OpenSpec.ofChange volumeCorruptWrong)

/-- 'wringerlaw25.VolumeStored': WHATEVER THE INPUT: true; the input reads as it did. -/
def volumeStoredSpec : ChangeSpec := { name := "volumeStored", fn := fun _ => fun
  | [d1, d2] => { results := [.lit (.bool true)], args := [d1, d2] }
  | _ => none }
def volumeStoredRow : OpenClaim := { program := "ytjaioajjfiaheaagreatdoor", sum := "edfc450e654263e409291a81416dc2507dd2fb8e8a646641d5b0cae6d92b4ecd", func := "wringer/wringerlaw25.VolumeStored", spec := "volumeStored", inPlace := ["math/bits.Add64"], unfollowed := true, recurses := true, named := ["wringer/turn.mixes", "wringer/turn.unmixes", "wringer/blake.first", "wringer/blake.rows"], apart := false, laid := [("wringer/blake.first", laid_wringer_blake_first), ("wringer/blake.rows", laid_wringer_blake_rows), ("wringer/turn.mixes", laid_wringer_turn_mixes), ("wringer/turn.unmixes", laid_wringer_turn_unmixes)] }
def VolumeStoredSaid : Prop := volumeStoredRow.holds Tryz.pinned (OpenSpec.ofChange volumeStoredSpec)

/-- ITS FALSE NEIGHBOUR: 'it returns false'. Refute it at one input. -/
def volumeStoredWrong : ChangeSpec := { name := "volumeStored", fn := fun _ => fun
  | [d1, d2] => { results := [.lit (.bool false)], args := [d1, d2] }
  | _ => none }
def VolumeStoredWrongFalsely : Prop := volumeStoredRow.holds Tryz.pinned (OpenSpec.ofChange volumeStoredWrong)

/-- 'wringerlaw25.VolumeWrong': WHATEVER THE INPUT: true; the input reads as it did. -/
def volumeWrongSpec : ChangeSpec := { name := "volumeWrong", fn := fun _ => fun
  | [d] => { results := [.lit (.bool true)], args := [d] }
  | _ => none }
def volumeWrongRow : OpenClaim := { program := "ytjaioajjfiaheaagreatdoor", sum := "edfc450e654263e409291a81416dc2507dd2fb8e8a646641d5b0cae6d92b4ecd", func := "wringer/wringerlaw25.VolumeWrong", spec := "volumeWrong", inPlace := ["math/bits.Add64"], unfollowed := true, recurses := true, named := ["wringer/turn.mixes", "wringer/turn.unmixes", "wringer/blake.first", "wringer/blake.rows"], apart := false, laid := [("wringer/blake.first", laid_wringer_blake_first), ("wringer/blake.rows", laid_wringer_blake_rows), ("wringer/turn.mixes", laid_wringer_turn_mixes), ("wringer/turn.unmixes", laid_wringer_turn_unmixes)] }
def VolumeWrongSaid : Prop := volumeWrongRow.holds Tryz.pinned (OpenSpec.ofChange volumeWrongSpec)

/-- ITS FALSE NEIGHBOUR: 'it returns false'. Refute it at one input. -/
def volumeWrongWrong : ChangeSpec := { name := "volumeWrong", fn := fun _ => fun
  | [d] => { results := [.lit (.bool false)], args := [d] }
  | _ => none }
def VolumeWrongWrongFalsely : Prop := volumeWrongRow.holds Tryz.pinned (OpenSpec.ofChange volumeWrongWrong)

/-- 'wringertop.TopEither': WHATEVER THE INPUT: true; the input reads as it did. -/
def topEitherSpec : ChangeSpec := { name := "topEither", fn := fun _ => fun
  | [d] => { results := [.lit (.bool true)], args := [d] }
  | _ => none }
def topEitherRow : OpenClaim := { program := "ytjaioajjfiaheaagreatdoor", sum := "edfc450e654263e409291a81416dc2507dd2fb8e8a646641d5b0cae6d92b4ecd", func := "wringer/wringertop.TopEither", spec := "topEither", inPlace := ["math/bits.Add64"], unfollowed := true, recurses := true, named := ["wringer/turn.mixes", "wringer/turn.unmixes", "wringer/blake.first", "wringer/blake.rows"], apart := false, laid := [("wringer/blake.first", laid_wringer_blake_first), ("wringer/blake.rows", laid_wringer_blake_rows), ("wringer/turn.mixes", laid_wringer_turn_mixes), ("wringer/turn.unmixes", laid_wringer_turn_unmixes)] }
def TopEitherSaid : Prop := topEitherRow.holds Tryz.pinned (OpenSpec.ofChange topEitherSpec)

/-- ITS FALSE NEIGHBOUR: 'it returns false'. Refute it at one input. -/
def topEitherWrong : ChangeSpec := { name := "topEither", fn := fun _ => fun
  | [d] => { results := [.lit (.bool false)], args := [d] }
  | _ => none }
def TopEitherWrongFalsely : Prop := topEitherRow.holds Tryz.pinned (OpenSpec.ofChange topEitherWrong)

/- THE SECOND FORM. 'bulk': how many values and letters a reading holds, each counted each time it is reached (what is shared counts as often as it is met; a slice's spare places count too). A statement '..UptoSaid' is the law's where the arguments, and the package variables that the reading takes, are together of bulk at most 1048576: NARROWER than '..Said'. Prove '..Said' where nothing that the law and all that it calls make is longer than what came in: it says more and counts as full. Else prove '..UptoSaid'. A law counts once. -/
mutual
def uptoBulk {H : Type} : DataW H → Nat
  | .lit (.string bytes) => bytes.length + 1
  | .lit _ => 1
  | .nil => 1
  | .ptr d => uptoBulk d + 1
  | .slice elems spare => uptoBulkAll elems + uptoBulkAll spare + 1
  | .agg parts => uptoBulkAll parts + 1
  | .iface _ d => uptoBulk d + 1
  | .map entries => uptoBulkEntries entries + 1
  | .held _ => 1
def uptoBulkAll {H : Type} : List (DataW H) → Nat
  | [] => 0
  | d :: r => uptoBulk d + uptoBulkAll r
def uptoBulkEntries {H : Type} : List (Lit × DataW H) → Nat
  | [] => 0
  | x :: r => uptoBulkEntry x + uptoBulkEntries r
def uptoBulkEntry {H : Type} : Lit × DataW H → Nat
  | (.string bytes, d) => bytes.length + uptoBulk d + 1
  | (_, d) => uptoBulk d + 1
 end
def uptoSmall : (H : Type) → List (DataW H) → Bool := fun _ ds => decide (uptoBulkAll ds ≤ 1048576)
def OpenSpec.upto (s : _root_.Go.ChangeSpec) : _root_.Go.OpenSpec := { _root_.Go.OpenSpec.ofChange s with cond := some uptoSmall }

/-- 'wringerlaw23.SealBack', WHERE WHAT IT READS IS OF BULK AT MOST 1048576: true; the input reads as it did. -/
def sealBackUptoRow : OpenClaim := { program := "ytjaioajjfiaheaagreatdoor", sum := "edfc450e654263e409291a81416dc2507dd2fb8e8a646641d5b0cae6d92b4ecd", func := "wringer/wringerlaw23.SealBack", spec := "sealBack", inPlace := ["math/bits.Add64"], unfollowed := true, recurses := true, named := ["wringer/turn.mixes", "wringer/turn.unmixes", "wringer/blake.first", "wringer/blake.rows"], apart := false, laid := [("wringer/blake.first", laid_wringer_blake_first), ("wringer/blake.rows", laid_wringer_blake_rows), ("wringer/turn.mixes", laid_wringer_turn_mixes), ("wringer/turn.unmixes", laid_wringer_turn_unmixes)], narrowed := true }
def SealBackUptoSaid : Prop := sealBackUptoRow.holds Tryz.pinned (OpenSpec.upto sealBackSpec)

/-- 'wringerlaw23.SealShort', WHERE WHAT IT READS IS OF BULK AT MOST 1048576: true; the input reads as it did. -/
def sealShortUptoRow : OpenClaim := { program := "ytjaioajjfiaheaagreatdoor", sum := "edfc450e654263e409291a81416dc2507dd2fb8e8a646641d5b0cae6d92b4ecd", func := "wringer/wringerlaw23.SealShort", spec := "sealShort", inPlace := ["math/bits.Add64"], unfollowed := true, recurses := true, named := ["wringer/turn.mixes", "wringer/turn.unmixes", "wringer/blake.first", "wringer/blake.rows"], apart := false, laid := [("wringer/blake.first", laid_wringer_blake_first), ("wringer/blake.rows", laid_wringer_blake_rows), ("wringer/turn.mixes", laid_wringer_turn_mixes), ("wringer/turn.unmixes", laid_wringer_turn_unmixes)], narrowed := true }
def SealShortUptoSaid : Prop := sealShortUptoRow.holds Tryz.pinned (OpenSpec.upto sealShortSpec)

/-- 'wringerlaw23.SealEmpty', WHERE WHAT IT READS IS OF BULK AT MOST 1048576: true; the input reads as it did. -/
def sealEmptyUptoRow : OpenClaim := { program := "ytjaioajjfiaheaagreatdoor", sum := "edfc450e654263e409291a81416dc2507dd2fb8e8a646641d5b0cae6d92b4ecd", func := "wringer/wringerlaw23.SealEmpty", spec := "sealEmpty", inPlace := ["math/bits.Add64"], unfollowed := true, recurses := true, named := ["wringer/turn.mixes", "wringer/turn.unmixes", "wringer/blake.first", "wringer/blake.rows"], apart := false, laid := [("wringer/blake.first", laid_wringer_blake_first), ("wringer/blake.rows", laid_wringer_blake_rows), ("wringer/turn.mixes", laid_wringer_turn_mixes), ("wringer/turn.unmixes", laid_wringer_turn_unmixes)], narrowed := true }
def SealEmptyUptoSaid : Prop := sealEmptyUptoRow.holds Tryz.pinned (OpenSpec.upto sealEmptySpec)

/-- 'wringerlaw23.SealOnly', WHERE WHAT IT READS IS OF BULK AT MOST 1048576: true; the input reads as it did. -/
def sealOnlyUptoRow : OpenClaim := { program := "ytjaioajjfiaheaagreatdoor", sum := "edfc450e654263e409291a81416dc2507dd2fb8e8a646641d5b0cae6d92b4ecd", func := "wringer/wringerlaw23.SealOnly", spec := "sealOnly", inPlace := ["math/bits.Add64"], unfollowed := true, recurses := true, named := ["wringer/turn.mixes", "wringer/turn.unmixes", "wringer/blake.first", "wringer/blake.rows"], apart := false, laid := [("wringer/blake.first", laid_wringer_blake_first), ("wringer/blake.rows", laid_wringer_blake_rows), ("wringer/turn.mixes", laid_wringer_turn_mixes), ("wringer/turn.unmixes", laid_wringer_turn_unmixes)], narrowed := true }
def SealOnlyUptoSaid : Prop := sealOnlyUptoRow.holds Tryz.pinned (OpenSpec.upto sealOnlySpec)

/-- 'wringerlaw23.SealNoughts', WHERE WHAT IT READS IS OF BULK AT MOST 1048576: true; the input reads as it did. -/
def sealNoughtsUptoRow : OpenClaim := { program := "ytjaioajjfiaheaagreatdoor", sum := "edfc450e654263e409291a81416dc2507dd2fb8e8a646641d5b0cae6d92b4ecd", func := "wringer/wringerlaw23.SealNoughts", spec := "sealNoughts", inPlace := ["math/bits.Add64"], unfollowed := true, recurses := true, named := ["wringer/turn.mixes", "wringer/turn.unmixes", "wringer/blake.first", "wringer/blake.rows"], apart := false, laid := [("wringer/blake.first", laid_wringer_blake_first), ("wringer/blake.rows", laid_wringer_blake_rows), ("wringer/turn.mixes", laid_wringer_turn_mixes), ("wringer/turn.unmixes", laid_wringer_turn_unmixes)], narrowed := true }
def SealNoughtsUptoSaid : Prop := sealNoughtsUptoRow.holds Tryz.pinned (OpenSpec.upto sealNoughtsSpec)

/-- 'wringerlaw23.SealKept', WHERE WHAT IT READS IS OF BULK AT MOST 1048576: true; the input reads as it did. -/
def sealKeptUptoRow : OpenClaim := { program := "ytjaioajjfiaheaagreatdoor", sum := "edfc450e654263e409291a81416dc2507dd2fb8e8a646641d5b0cae6d92b4ecd", func := "wringer/wringerlaw23.SealKept", spec := "sealKept", inPlace := ["math/bits.Add64"], unfollowed := true, recurses := true, named := ["wringer/turn.mixes", "wringer/turn.unmixes", "wringer/blake.first", "wringer/blake.rows"], apart := false, laid := [("wringer/blake.first", laid_wringer_blake_first), ("wringer/blake.rows", laid_wringer_blake_rows), ("wringer/turn.mixes", laid_wringer_turn_mixes), ("wringer/turn.unmixes", laid_wringer_turn_unmixes)], narrowed := true }
def SealKeptUptoSaid : Prop := sealKeptUptoRow.holds Tryz.pinned (OpenSpec.upto sealKeptSpec)

/-- 'wringerlaw25.VolumeLast', WHERE WHAT IT READS IS OF BULK AT MOST 1048576: true; the input reads as it did. -/
def volumeLastUptoRow : OpenClaim := { program := "ytjaioajjfiaheaagreatdoor", sum := "edfc450e654263e409291a81416dc2507dd2fb8e8a646641d5b0cae6d92b4ecd", func := "wringer/wringerlaw25.VolumeLast", spec := "volumeLast", inPlace := ["math/bits.Add64"], unfollowed := true, recurses := true, named := ["wringer/turn.mixes", "wringer/turn.unmixes", "wringer/blake.first", "wringer/blake.rows"], apart := false, laid := [("wringer/blake.first", laid_wringer_blake_first), ("wringer/blake.rows", laid_wringer_blake_rows), ("wringer/turn.mixes", laid_wringer_turn_mixes), ("wringer/turn.unmixes", laid_wringer_turn_unmixes)], narrowed := true }
def VolumeLastUptoSaid : Prop := volumeLastUptoRow.holds Tryz.pinned (OpenSpec.upto volumeLastSpec)

/-- 'wringerlaw25.VolumeSteps', WHERE WHAT IT READS IS OF BULK AT MOST 1048576: true; the input reads as it did. -/
def volumeStepsUptoRow : OpenClaim := { program := "ytjaioajjfiaheaagreatdoor", sum := "edfc450e654263e409291a81416dc2507dd2fb8e8a646641d5b0cae6d92b4ecd", func := "wringer/wringerlaw25.VolumeSteps", spec := "volumeSteps", inPlace := ["math/bits.Add64"], unfollowed := true, recurses := true, named := ["wringer/turn.mixes", "wringer/turn.unmixes", "wringer/blake.first", "wringer/blake.rows"], apart := false, laid := [("wringer/blake.first", laid_wringer_blake_first), ("wringer/blake.rows", laid_wringer_blake_rows), ("wringer/turn.mixes", laid_wringer_turn_mixes), ("wringer/turn.unmixes", laid_wringer_turn_unmixes)], narrowed := true }
def VolumeStepsUptoSaid : Prop := volumeStepsUptoRow.holds Tryz.pinned (OpenSpec.upto volumeStepsSpec)

/-- 'wringerlaw25.VolumeCorrupt', WHERE WHAT IT READS IS OF BULK AT MOST 1048576: true; the input reads as it did. -/
def volumeCorruptUptoRow : OpenClaim := { program := "ytjaioajjfiaheaagreatdoor", sum := "edfc450e654263e409291a81416dc2507dd2fb8e8a646641d5b0cae6d92b4ecd", func := "wringer/wringerlaw25.VolumeCorrupt", spec := "volumeCorrupt", inPlace := ["math/bits.Add64"], unfollowed := true, recurses := true, named := ["wringer/turn.mixes", "wringer/turn.unmixes", "wringer/blake.first", "wringer/blake.rows"], apart := false, laid := [("wringer/blake.first", laid_wringer_blake_first), ("wringer/blake.rows", laid_wringer_blake_rows), ("wringer/turn.mixes", laid_wringer_turn_mixes), ("wringer/turn.unmixes", laid_wringer_turn_unmixes)], narrowed := true }
def VolumeCorruptUptoSaid : Prop := volumeCorruptUptoRow.holds Tryz.pinned (OpenSpec.upto volumeCorruptSpec)

/-- 'wringerlaw25.VolumeStored', WHERE WHAT IT READS IS OF BULK AT MOST 1048576: true; the input reads as it did. -/
def volumeStoredUptoRow : OpenClaim := { program := "ytjaioajjfiaheaagreatdoor", sum := "edfc450e654263e409291a81416dc2507dd2fb8e8a646641d5b0cae6d92b4ecd", func := "wringer/wringerlaw25.VolumeStored", spec := "volumeStored", inPlace := ["math/bits.Add64"], unfollowed := true, recurses := true, named := ["wringer/turn.mixes", "wringer/turn.unmixes", "wringer/blake.first", "wringer/blake.rows"], apart := false, laid := [("wringer/blake.first", laid_wringer_blake_first), ("wringer/blake.rows", laid_wringer_blake_rows), ("wringer/turn.mixes", laid_wringer_turn_mixes), ("wringer/turn.unmixes", laid_wringer_turn_unmixes)], narrowed := true }
def VolumeStoredUptoSaid : Prop := volumeStoredUptoRow.holds Tryz.pinned (OpenSpec.upto volumeStoredSpec)

/-- 'wringerlaw25.VolumeWrong', WHERE WHAT IT READS IS OF BULK AT MOST 1048576: true; the input reads as it did. -/
def volumeWrongUptoRow : OpenClaim := { program := "ytjaioajjfiaheaagreatdoor", sum := "edfc450e654263e409291a81416dc2507dd2fb8e8a646641d5b0cae6d92b4ecd", func := "wringer/wringerlaw25.VolumeWrong", spec := "volumeWrong", inPlace := ["math/bits.Add64"], unfollowed := true, recurses := true, named := ["wringer/turn.mixes", "wringer/turn.unmixes", "wringer/blake.first", "wringer/blake.rows"], apart := false, laid := [("wringer/blake.first", laid_wringer_blake_first), ("wringer/blake.rows", laid_wringer_blake_rows), ("wringer/turn.mixes", laid_wringer_turn_mixes), ("wringer/turn.unmixes", laid_wringer_turn_unmixes)], narrowed := true }
def VolumeWrongUptoSaid : Prop := volumeWrongUptoRow.holds Tryz.pinned (OpenSpec.upto volumeWrongSpec)

/-- 'wringertop.TopEither', WHERE WHAT IT READS IS OF BULK AT MOST 1048576: true; the input reads as it did. -/
def topEitherUptoRow : OpenClaim := { program := "ytjaioajjfiaheaagreatdoor", sum := "edfc450e654263e409291a81416dc2507dd2fb8e8a646641d5b0cae6d92b4ecd", func := "wringer/wringertop.TopEither", spec := "topEither", inPlace := ["math/bits.Add64"], unfollowed := true, recurses := true, named := ["wringer/turn.mixes", "wringer/turn.unmixes", "wringer/blake.first", "wringer/blake.rows"], apart := false, laid := [("wringer/blake.first", laid_wringer_blake_first), ("wringer/blake.rows", laid_wringer_blake_rows), ("wringer/turn.mixes", laid_wringer_turn_mixes), ("wringer/turn.unmixes", laid_wringer_turn_unmixes)], narrowed := true }
def TopEitherUptoSaid : Prop := topEitherUptoRow.holds Tryz.pinned (OpenSpec.upto topEitherSpec)

end Rows
end Go.Proofs.YtjaioajjfiaheaaGreatDoor
