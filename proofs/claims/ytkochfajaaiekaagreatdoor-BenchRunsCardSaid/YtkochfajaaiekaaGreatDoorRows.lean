/-
  NARROWER THAN 'FOR EVERY INPUT', by the rows' own cells (each row's printed sentence says how): BenchLast: laid · BenchSeals: laid · BenchNames: laid · BenchNone: laid · BenchRuns: laid · BenchRefused: laid.
  DERIVED. THE GIVEN ROWS OF THIS SEAT. 6 by the template 'for every input the law returns true; each argument reads behind the call as it read before'; 0 by the template 'total and deterministic' (their statements: YtkochfajaaiekaaGreatDoorTotals.lean).
  GIVEN WITH THE SEED: the statements are not yours to turn. If you find one false, say at which input.
  Laid BY PROGRAM, IN A SANDBOX (cutbox-rows.mjs): the forced cells as the released guide's own fill.sh prints them over the translation dcbc3f4dd0a355fb… (all of the seat's roots in one cut). By AI agents, Wed Nov 11 2026. No macro, syntax, notation, axiom, sorry.
-/
import Derived.Test.YtkochfajaaiekaaGreatDoorChecked
import GoSem.Claim
import GoSem.ClaimJoined
import GoSem.ClaimMapViews
import Derived.JoinedTies
import Derived.KernelRfl
namespace Go.Proofs.YtkochfajaaiekaaGreatDoor
/- THE CELL 'sum', in the pinned program and in every row, IS THE sha256 OF THE DUMP (.gsa) THAT YtkochfajaaiekaaGreatDoorProg.lean LOADS. Nothing in Lean hashes anything: it is a label: what it is worth is what the hold of that sum in a sandbox is worth. -/
noncomputable def Tryz.pinned : Pinned := { name := "ytkochfajaaiekaagreatdoor", sum := "dcbc3f4dd0a355fb971977016004402b6c981b714535da63f90f3444ffef7d5f", checked := Tryz.checked }
namespace Rows
def none {H : Type} : Left H := { results := [], args := [] }

/- WHAT THE LISTED PACKAGE-LEVEL VARIABLES READ AS WHEN THE CALL BEGINS. Each datum BY PROGRAM (the guide's laid-datum.mjs) off the statement by which the dump's own 'gosem.cut.vars' lays the variable. In a bare row this is a premise. The card (YtkochfajaaiekaaGreatDoorCards.lean) ties it to the program's text. -/
def laid_wringer_blake_first {H : Type} : DataW H := .agg [.lit (.int .u64 7640891576956012808), .lit (.int .u64 13503953896175478587), .lit (.int .u64 4354685564936845355), .lit (.int .u64 11912009170470909681), .lit (.int .u64 5840696475078001361), .lit (.int .u64 11170449401992604703), .lit (.int .u64 2270897969802886507), .lit (.int .u64 6620516959819538809)]
def laid_wringer_blake_rows {H : Type} : DataW H := .agg [.agg [.lit (.int .u8 0), .lit (.int .u8 1), .lit (.int .u8 2), .lit (.int .u8 3), .lit (.int .u8 4), .lit (.int .u8 5), .lit (.int .u8 6), .lit (.int .u8 7), .lit (.int .u8 8), .lit (.int .u8 9), .lit (.int .u8 10), .lit (.int .u8 11), .lit (.int .u8 12), .lit (.int .u8 13), .lit (.int .u8 14), .lit (.int .u8 15)], .agg [.lit (.int .u8 14), .lit (.int .u8 10), .lit (.int .u8 4), .lit (.int .u8 8), .lit (.int .u8 9), .lit (.int .u8 15), .lit (.int .u8 13), .lit (.int .u8 6), .lit (.int .u8 1), .lit (.int .u8 12), .lit (.int .u8 0), .lit (.int .u8 2), .lit (.int .u8 11), .lit (.int .u8 7), .lit (.int .u8 5), .lit (.int .u8 3)], .agg [.lit (.int .u8 11), .lit (.int .u8 8), .lit (.int .u8 12), .lit (.int .u8 0), .lit (.int .u8 5), .lit (.int .u8 2), .lit (.int .u8 15), .lit (.int .u8 13), .lit (.int .u8 10), .lit (.int .u8 14), .lit (.int .u8 3), .lit (.int .u8 6), .lit (.int .u8 7), .lit (.int .u8 1), .lit (.int .u8 9), .lit (.int .u8 4)], .agg [.lit (.int .u8 7), .lit (.int .u8 9), .lit (.int .u8 3), .lit (.int .u8 1), .lit (.int .u8 13), .lit (.int .u8 12), .lit (.int .u8 11), .lit (.int .u8 14), .lit (.int .u8 2), .lit (.int .u8 6), .lit (.int .u8 5), .lit (.int .u8 10), .lit (.int .u8 4), .lit (.int .u8 0), .lit (.int .u8 15), .lit (.int .u8 8)], .agg [.lit (.int .u8 9), .lit (.int .u8 0), .lit (.int .u8 5), .lit (.int .u8 7), .lit (.int .u8 2), .lit (.int .u8 4), .lit (.int .u8 10), .lit (.int .u8 15), .lit (.int .u8 14), .lit (.int .u8 1), .lit (.int .u8 11), .lit (.int .u8 12), .lit (.int .u8 6), .lit (.int .u8 8), .lit (.int .u8 3), .lit (.int .u8 13)], .agg [.lit (.int .u8 2), .lit (.int .u8 12), .lit (.int .u8 6), .lit (.int .u8 10), .lit (.int .u8 0), .lit (.int .u8 11), .lit (.int .u8 8), .lit (.int .u8 3), .lit (.int .u8 4), .lit (.int .u8 13), .lit (.int .u8 7), .lit (.int .u8 5), .lit (.int .u8 15), .lit (.int .u8 14), .lit (.int .u8 1), .lit (.int .u8 9)], .agg [.lit (.int .u8 12), .lit (.int .u8 5), .lit (.int .u8 1), .lit (.int .u8 15), .lit (.int .u8 14), .lit (.int .u8 13), .lit (.int .u8 4), .lit (.int .u8 10), .lit (.int .u8 0), .lit (.int .u8 7), .lit (.int .u8 6), .lit (.int .u8 3), .lit (.int .u8 9), .lit (.int .u8 2), .lit (.int .u8 8), .lit (.int .u8 11)], .agg [.lit (.int .u8 13), .lit (.int .u8 11), .lit (.int .u8 7), .lit (.int .u8 14), .lit (.int .u8 12), .lit (.int .u8 1), .lit (.int .u8 3), .lit (.int .u8 9), .lit (.int .u8 5), .lit (.int .u8 0), .lit (.int .u8 15), .lit (.int .u8 4), .lit (.int .u8 8), .lit (.int .u8 6), .lit (.int .u8 2), .lit (.int .u8 10)], .agg [.lit (.int .u8 6), .lit (.int .u8 15), .lit (.int .u8 14), .lit (.int .u8 9), .lit (.int .u8 11), .lit (.int .u8 3), .lit (.int .u8 0), .lit (.int .u8 8), .lit (.int .u8 12), .lit (.int .u8 2), .lit (.int .u8 13), .lit (.int .u8 7), .lit (.int .u8 1), .lit (.int .u8 4), .lit (.int .u8 10), .lit (.int .u8 5)], .agg [.lit (.int .u8 10), .lit (.int .u8 2), .lit (.int .u8 8), .lit (.int .u8 4), .lit (.int .u8 7), .lit (.int .u8 6), .lit (.int .u8 1), .lit (.int .u8 5), .lit (.int .u8 15), .lit (.int .u8 11), .lit (.int .u8 9), .lit (.int .u8 14), .lit (.int .u8 3), .lit (.int .u8 12), .lit (.int .u8 13), .lit (.int .u8 0)]]
def laid_wringer_turn_mixes {H : Type} : DataW H := .agg [.lit (.int .u8 2), .lit (.int .u8 3), .lit (.int .u8 1), .lit (.int .u8 1)]
def laid_wringer_turn_unmixes {H : Type} : DataW H := .agg [.lit (.int .u8 14), .lit (.int .u8 11), .lit (.int .u8 13), .lit (.int .u8 9)]

/-- 'wringerlaw29.BenchLast': WHATEVER THE INPUT: true; the input reads as it did. -/
def benchLastSpec : ChangeSpec := { name := "benchLast", fn := fun _ => fun
  | [d] => { results := [.lit (.bool true)], args := [d] }
  | _ => none }
def benchLastRow : OpenClaim := { program := "ytkochfajaaiekaagreatdoor", sum := "dcbc3f4dd0a355fb971977016004402b6c981b714535da63f90f3444ffef7d5f", func := "wringer/wringerlaw29.BenchLast", spec := "benchLast", inPlace := ["math/bits.Add64", "internal/bytealg.IndexByteString"], unfollowed := true, recurses := true, named := ["wringer/turn.mixes", "wringer/turn.unmixes", "wringer/blake.first", "wringer/blake.rows"], apart := false, laid := [("wringer/blake.first", laid_wringer_blake_first), ("wringer/blake.rows", laid_wringer_blake_rows), ("wringer/turn.mixes", laid_wringer_turn_mixes), ("wringer/turn.unmixes", laid_wringer_turn_unmixes)] }
def BenchLastSaid : Prop := benchLastRow.holds Tryz.pinned (OpenSpec.ofChange benchLastSpec)

/-- ITS FALSE NEIGHBOUR: 'it returns false'. Refute it at one input. -/
def benchLastWrong : ChangeSpec := { name := "benchLast", fn := fun _ => fun
  | [d] => { results := [.lit (.bool false)], args := [d] }
  | _ => none }
def BenchLastWrongFalsely : Prop := benchLastRow.holds Tryz.pinned (OpenSpec.ofChange benchLastWrong)

/-- 'wringerlaw29.BenchSeals': WHATEVER THE INPUT: true; the input reads as it did. -/
def benchSealsSpec : ChangeSpec := { name := "benchSeals", fn := fun _ => fun
  | [d1, d2, d3] => { results := [.lit (.bool true)], args := [d1, d2, d3] }
  | _ => none }
def benchSealsRow : OpenClaim := { program := "ytkochfajaaiekaagreatdoor", sum := "dcbc3f4dd0a355fb971977016004402b6c981b714535da63f90f3444ffef7d5f", func := "wringer/wringerlaw29.BenchSeals", spec := "benchSeals", inPlace := ["math/bits.Add64", "internal/bytealg.IndexByteString"], unfollowed := true, recurses := true, named := ["wringer/turn.mixes", "wringer/turn.unmixes", "wringer/blake.first", "wringer/blake.rows"], apart := false, laid := [("wringer/blake.first", laid_wringer_blake_first), ("wringer/blake.rows", laid_wringer_blake_rows), ("wringer/turn.mixes", laid_wringer_turn_mixes), ("wringer/turn.unmixes", laid_wringer_turn_unmixes)] }
def BenchSealsSaid : Prop := benchSealsRow.holds Tryz.pinned (OpenSpec.ofChange benchSealsSpec)

/-- ITS FALSE NEIGHBOUR: 'it returns false'. Refute it at one input. -/
def benchSealsWrong : ChangeSpec := { name := "benchSeals", fn := fun _ => fun
  | [d1, d2, d3] => { results := [.lit (.bool false)], args := [d1, d2, d3] }
  | _ => none }
def BenchSealsWrongFalsely : Prop := benchSealsRow.holds Tryz.pinned (OpenSpec.ofChange benchSealsWrong)

/-- 'wringerlaw29.BenchNames': WHATEVER THE INPUT: true; the input reads as it did. -/
def benchNamesSpec : ChangeSpec := { name := "benchNames", fn := fun _ => fun
  | [d] => { results := [.lit (.bool true)], args := [d] }
  | _ => none }
def benchNamesRow : OpenClaim := { program := "ytkochfajaaiekaagreatdoor", sum := "dcbc3f4dd0a355fb971977016004402b6c981b714535da63f90f3444ffef7d5f", func := "wringer/wringerlaw29.BenchNames", spec := "benchNames", inPlace := ["math/bits.Add64", "internal/bytealg.IndexByteString"], unfollowed := true, recurses := true, named := ["wringer/turn.mixes", "wringer/turn.unmixes", "wringer/blake.first", "wringer/blake.rows"], apart := false, laid := [("wringer/blake.first", laid_wringer_blake_first), ("wringer/blake.rows", laid_wringer_blake_rows), ("wringer/turn.mixes", laid_wringer_turn_mixes), ("wringer/turn.unmixes", laid_wringer_turn_unmixes)] }
def BenchNamesSaid : Prop := benchNamesRow.holds Tryz.pinned (OpenSpec.ofChange benchNamesSpec)

/-- ITS FALSE NEIGHBOUR: 'it returns false'. Refute it at one input. -/
def benchNamesWrong : ChangeSpec := { name := "benchNames", fn := fun _ => fun
  | [d] => { results := [.lit (.bool false)], args := [d] }
  | _ => none }
def BenchNamesWrongFalsely : Prop := benchNamesRow.holds Tryz.pinned (OpenSpec.ofChange benchNamesWrong)

/-- 'wringerlaw29.BenchNone': WHATEVER THE INPUT: true; the input reads as it did. -/
def benchNoneSpec : ChangeSpec := { name := "benchNone", fn := fun _ => fun
  | [d] => { results := [.lit (.bool true)], args := [d] }
  | _ => none }
def benchNoneRow : OpenClaim := { program := "ytkochfajaaiekaagreatdoor", sum := "dcbc3f4dd0a355fb971977016004402b6c981b714535da63f90f3444ffef7d5f", func := "wringer/wringerlaw29.BenchNone", spec := "benchNone", inPlace := ["math/bits.Add64", "internal/bytealg.IndexByteString"], unfollowed := true, recurses := true, named := ["wringer/blake.first", "wringer/blake.rows", "wringer/turn.mixes", "wringer/turn.unmixes"], apart := false, laid := [("wringer/blake.first", laid_wringer_blake_first), ("wringer/blake.rows", laid_wringer_blake_rows), ("wringer/turn.mixes", laid_wringer_turn_mixes), ("wringer/turn.unmixes", laid_wringer_turn_unmixes)] }
def BenchNoneSaid : Prop := benchNoneRow.holds Tryz.pinned (OpenSpec.ofChange benchNoneSpec)

/-- ITS FALSE NEIGHBOUR: 'it returns false'. Refute it at one input. -/
def benchNoneWrong : ChangeSpec := { name := "benchNone", fn := fun _ => fun
  | [d] => { results := [.lit (.bool false)], args := [d] }
  | _ => none }
def BenchNoneWrongFalsely : Prop := benchNoneRow.holds Tryz.pinned (OpenSpec.ofChange benchNoneWrong)

/-- 'wringerlaw29.BenchRuns': WHATEVER THE INPUT: true; the input reads as it did. -/
def benchRunsSpec : ChangeSpec := { name := "benchRuns", fn := fun _ => fun
  | [d1, d2] => { results := [.lit (.bool true)], args := [d1, d2] }
  | _ => none }
def benchRunsRow : OpenClaim := { program := "ytkochfajaaiekaagreatdoor", sum := "dcbc3f4dd0a355fb971977016004402b6c981b714535da63f90f3444ffef7d5f", func := "wringer/wringerlaw29.BenchRuns", spec := "benchRuns", inPlace := ["math/bits.Add64", "internal/bytealg.IndexByteString"], unfollowed := true, recurses := true, named := ["wringer/turn.mixes", "wringer/turn.unmixes", "wringer/blake.first", "wringer/blake.rows"], apart := false, laid := [("wringer/blake.first", laid_wringer_blake_first), ("wringer/blake.rows", laid_wringer_blake_rows), ("wringer/turn.mixes", laid_wringer_turn_mixes), ("wringer/turn.unmixes", laid_wringer_turn_unmixes)] }
def BenchRunsSaid : Prop := benchRunsRow.holds Tryz.pinned (OpenSpec.ofChange benchRunsSpec)

/-- ITS FALSE NEIGHBOUR: 'it returns false'. Refute it at one input. -/
def benchRunsWrong : ChangeSpec := { name := "benchRuns", fn := fun _ => fun
  | [d1, d2] => { results := [.lit (.bool false)], args := [d1, d2] }
  | _ => none }
def BenchRunsWrongFalsely : Prop := benchRunsRow.holds Tryz.pinned (OpenSpec.ofChange benchRunsWrong)

/-- 'wringerlaw29.BenchRefused': WHATEVER THE INPUT: true; the input reads as it did. -/
def benchRefusedSpec : ChangeSpec := { name := "benchRefused", fn := fun _ => fun
  | [d] => { results := [.lit (.bool true)], args := [d] }
  | _ => none }
def benchRefusedRow : OpenClaim := { program := "ytkochfajaaiekaagreatdoor", sum := "dcbc3f4dd0a355fb971977016004402b6c981b714535da63f90f3444ffef7d5f", func := "wringer/wringerlaw29.BenchRefused", spec := "benchRefused", inPlace := ["math/bits.Add64", "internal/bytealg.IndexByteString"], unfollowed := true, recurses := true, named := ["wringer/turn.mixes", "wringer/turn.unmixes", "wringer/blake.first", "wringer/blake.rows"], apart := false, laid := [("wringer/blake.first", laid_wringer_blake_first), ("wringer/blake.rows", laid_wringer_blake_rows), ("wringer/turn.mixes", laid_wringer_turn_mixes), ("wringer/turn.unmixes", laid_wringer_turn_unmixes)] }
def BenchRefusedSaid : Prop := benchRefusedRow.holds Tryz.pinned (OpenSpec.ofChange benchRefusedSpec)

/-- ITS FALSE NEIGHBOUR: 'it returns false'. Refute it at one input. -/
def benchRefusedWrong : ChangeSpec := { name := "benchRefused", fn := fun _ => fun
  | [d] => { results := [.lit (.bool false)], args := [d] }
  | _ => none }
def BenchRefusedWrongFalsely : Prop := benchRefusedRow.holds Tryz.pinned (OpenSpec.ofChange benchRefusedWrong)

/- THE SECOND FORM. 'bulk': how many values and letters a reading holds, each counted each time it is reached (what is shared counts as often as it is met; a slice's spare places count too). A statement '..UptoSaid' is the law's where the arguments, and the package variables that the reading takes, are together of bulk at most 1048576: NARROWER than '..Said'. Prove '..Said' where nothing that the law and all that it calls make is longer than what came in: it says more and counts as full. Else prove '..UptoSaid'. A law counts once. -/
mutual
def uptoBulk {H : Type} : DataW H → Nat
  | .lit (.string bytes) => bytes.length + 1
  | .lit _ => 1
  | .nil => 1
  | .ptr d => uptoBulk d + 1
  | .slice elems spare => uptoBulkAll elems + uptoBulkAll spare + 1
  | .agg parts => uptoBulkAll parts + 1
  | .iface _ d => uptoBulk d + 1
  | .map entries => uptoBulkEntries entries + 1
  | .held _ => 1
def uptoBulkAll {H : Type} : List (DataW H) → Nat
  | [] => 0
  | d :: r => uptoBulk d + uptoBulkAll r
def uptoBulkEntries {H : Type} : List (Lit × DataW H) → Nat
  | [] => 0
  | x :: r => uptoBulkEntry x + uptoBulkEntries r
def uptoBulkEntry {H : Type} : Lit × DataW H → Nat
  | (.string bytes, d) => bytes.length + uptoBulk d + 1
  | (_, d) => uptoBulk d + 1
 end
def uptoSmall : (H : Type) → List (DataW H) → Bool := fun _ ds => decide (uptoBulkAll ds ≤ 1048576)
def OpenSpec.upto (s : _root_.Go.ChangeSpec) : _root_.Go.OpenSpec := { _root_.Go.OpenSpec.ofChange s with cond := some uptoSmall }

/-- 'wringerlaw29.BenchLast', WHERE WHAT IT READS IS OF BULK AT MOST 1048576: true; the input reads as it did. -/
def benchLastUptoRow : OpenClaim := { program := "ytkochfajaaiekaagreatdoor", sum := "dcbc3f4dd0a355fb971977016004402b6c981b714535da63f90f3444ffef7d5f", func := "wringer/wringerlaw29.BenchLast", spec := "benchLast", inPlace := ["math/bits.Add64", "internal/bytealg.IndexByteString"], unfollowed := true, recurses := true, named := ["wringer/turn.mixes", "wringer/turn.unmixes", "wringer/blake.first", "wringer/blake.rows"], apart := false, laid := [("wringer/blake.first", laid_wringer_blake_first), ("wringer/blake.rows", laid_wringer_blake_rows), ("wringer/turn.mixes", laid_wringer_turn_mixes), ("wringer/turn.unmixes", laid_wringer_turn_unmixes)], narrowed := true }
def BenchLastUptoSaid : Prop := benchLastUptoRow.holds Tryz.pinned (OpenSpec.upto benchLastSpec)

/-- 'wringerlaw29.BenchSeals', WHERE WHAT IT READS IS OF BULK AT MOST 1048576: true; the input reads as it did. -/
def benchSealsUptoRow : OpenClaim := { program := "ytkochfajaaiekaagreatdoor", sum := "dcbc3f4dd0a355fb971977016004402b6c981b714535da63f90f3444ffef7d5f", func := "wringer/wringerlaw29.BenchSeals", spec := "benchSeals", inPlace := ["math/bits.Add64", "internal/bytealg.IndexByteString"], unfollowed := true, recurses := true, named := ["wringer/turn.mixes", "wringer/turn.unmixes", "wringer/blake.first", "wringer/blake.rows"], apart := false, laid := [("wringer/blake.first", laid_wringer_blake_first), ("wringer/blake.rows", laid_wringer_blake_rows), ("wringer/turn.mixes", laid_wringer_turn_mixes), ("wringer/turn.unmixes", laid_wringer_turn_unmixes)], narrowed := true }
def BenchSealsUptoSaid : Prop := benchSealsUptoRow.holds Tryz.pinned (OpenSpec.upto benchSealsSpec)

/-- 'wringerlaw29.BenchNames', WHERE WHAT IT READS IS OF BULK AT MOST 1048576: true; the input reads as it did. -/
def benchNamesUptoRow : OpenClaim := { program := "ytkochfajaaiekaagreatdoor", sum := "dcbc3f4dd0a355fb971977016004402b6c981b714535da63f90f3444ffef7d5f", func := "wringer/wringerlaw29.BenchNames", spec := "benchNames", inPlace := ["math/bits.Add64", "internal/bytealg.IndexByteString"], unfollowed := true, recurses := true, named := ["wringer/turn.mixes", "wringer/turn.unmixes", "wringer/blake.first", "wringer/blake.rows"], apart := false, laid := [("wringer/blake.first", laid_wringer_blake_first), ("wringer/blake.rows", laid_wringer_blake_rows), ("wringer/turn.mixes", laid_wringer_turn_mixes), ("wringer/turn.unmixes", laid_wringer_turn_unmixes)], narrowed := true }
def BenchNamesUptoSaid : Prop := benchNamesUptoRow.holds Tryz.pinned (OpenSpec.upto benchNamesSpec)

/-- 'wringerlaw29.BenchNone', WHERE WHAT IT READS IS OF BULK AT MOST 1048576: true; the input reads as it did. -/
def benchNoneUptoRow : OpenClaim := { program := "ytkochfajaaiekaagreatdoor", sum := "dcbc3f4dd0a355fb971977016004402b6c981b714535da63f90f3444ffef7d5f", func := "wringer/wringerlaw29.BenchNone", spec := "benchNone", inPlace := ["math/bits.Add64", "internal/bytealg.IndexByteString"], unfollowed := true, recurses := true, named := ["wringer/blake.first", "wringer/blake.rows", "wringer/turn.mixes", "wringer/turn.unmixes"], apart := false, laid := [("wringer/blake.first", laid_wringer_blake_first), ("wringer/blake.rows", laid_wringer_blake_rows), ("wringer/turn.mixes", laid_wringer_turn_mixes), ("wringer/turn.unmixes", laid_wringer_turn_unmixes)], narrowed := true }
def BenchNoneUptoSaid : Prop := benchNoneUptoRow.holds Tryz.pinned (OpenSpec.upto benchNoneSpec)

/-- 'wringerlaw29.BenchRuns', WHERE WHAT IT READS IS OF BULK AT MOST 1048576: true; the input reads as it did. -/
def benchRunsUptoRow : OpenClaim := { program := "ytkochfajaaiekaagreatdoor", sum := "dcbc3f4dd0a355fb971977016004402b6c981b714535da63f90f3444ffef7d5f", func := "wringer/wringerlaw29.BenchRuns", spec := "benchRuns", inPlace := ["math/bits.Add64", "internal/bytealg.IndexByteString"], unfollowed := true, recurses := true, named := ["wringer/turn.mixes", "wringer/turn.unmixes", "wringer/blake.first", "wringer/blake.rows"], apart := false, laid := [("wringer/blake.first", laid_wringer_blake_first), ("wringer/blake.rows", laid_wringer_blake_rows), ("wringer/turn.mixes", laid_wringer_turn_mixes), ("wringer/turn.unmixes", laid_wringer_turn_unmixes)], narrowed := true }
def BenchRunsUptoSaid : Prop := benchRunsUptoRow.holds Tryz.pinned (OpenSpec.upto benchRunsSpec)

/-- 'wringerlaw29.BenchRefused', WHERE WHAT IT READS IS OF BULK AT MOST 1048576: true; the input reads as it did. -/
def benchRefusedUptoRow : OpenClaim := { program := "ytkochfajaaiekaagreatdoor", sum := "dcbc3f4dd0a355fb971977016004402b6c981b714535da63f90f3444ffef7d5f", func := "wringer/wringerlaw29.BenchRefused", spec := "benchRefused", inPlace := ["math/bits.Add64", "internal/bytealg.IndexByteString"], unfollowed := true, recurses := true, named := ["wringer/turn.mixes", "wringer/turn.unmixes", "wringer/blake.first", "wringer/blake.rows"], apart := false, laid := [("wringer/blake.first", laid_wringer_blake_first), ("wringer/blake.rows", laid_wringer_blake_rows), ("wringer/turn.mixes", laid_wringer_turn_mixes), ("wringer/turn.unmixes", laid_wringer_turn_unmixes)], narrowed := true }
def BenchRefusedUptoSaid : Prop := benchRefusedUptoRow.holds Tryz.pinned (OpenSpec.upto benchRefusedSpec)

end Rows
end Go.Proofs.YtkochfajaaiekaaGreatDoor
