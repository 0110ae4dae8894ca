/-
  NARROWER THAN 'FOR EVERY INPUT', by the rows' own cells (each row's printed sentence says how): ReelWrites: laid · ReelReads: laid · ReelBack: laid · ReelOnly: laid · ReelJoins: laid · ReelTells: laid.
  DERIVED. THE GIVEN ROWS OF THIS SEAT. 6 by the template 'for every input the law returns true; each argument reads behind the call as it read before'; 0 by the template 'total and deterministic' (their statements: YtmpgcilppjkhoaaGreatDoorTotals.lean).
  GIVEN WITH THE SEED: the statements are not yours to turn. If you find one false, say at which input.
  Laid BY PROGRAM, IN A SANDBOX (cutbox-rows.mjs): the forced cells as the released guide's own fill.sh prints them over the translation 1d7b1ca763ec7a82… (all of the seat's roots in one cut). By AI agents, Wed Nov 11 2026. No macro, syntax, notation, axiom, sorry.
-/
import Derived.Test.YtmpgcilppjkhoaaGreatDoorChecked
import GoSem.Claim
import GoSem.ClaimJoined
import GoSem.ClaimMapViews
import Derived.JoinedTies
import Derived.KernelRfl
namespace Go.Proofs.YtmpgcilppjkhoaaGreatDoor
/- THE CELL 'sum', in the pinned program and in every row, IS THE sha256 OF THE DUMP (.gsa) THAT YtmpgcilppjkhoaaGreatDoorProg.lean LOADS. Nothing in Lean hashes anything: it is a label: what it is worth is what the hold of that sum in a sandbox is worth. -/
noncomputable def Tryz.pinned : Pinned := { name := "ytmpgcilppjkhoaagreatdoor", sum := "1d7b1ca763ec7a8292c9953b93005ad3c82d67b2cdd6f449e5d93f3074c04b8a", checked := Tryz.checked }
namespace Rows
def none {H : Type} : Left H := { results := [], args := [] }

/- WHAT THE LISTED PACKAGE-LEVEL VARIABLES READ AS WHEN THE CALL BEGINS. Each datum BY PROGRAM (the guide's laid-datum.mjs) off the statement by which the dump's own 'gosem.cut.vars' lays the variable. In a bare row this is a premise. The card (YtmpgcilppjkhoaaGreatDoorCards.lean) ties it to the program's text. -/
def laid_wringer_blake_first {H : Type} : DataW H := .agg [.lit (.int .u64 7640891576956012808), .lit (.int .u64 13503953896175478587), .lit (.int .u64 4354685564936845355), .lit (.int .u64 11912009170470909681), .lit (.int .u64 5840696475078001361), .lit (.int .u64 11170449401992604703), .lit (.int .u64 2270897969802886507), .lit (.int .u64 6620516959819538809)]
def laid_wringer_blake_rows {H : Type} : DataW H := .agg [.agg [.lit (.int .u8 0), .lit (.int .u8 1), .lit (.int .u8 2), .lit (.int .u8 3), .lit (.int .u8 4), .lit (.int .u8 5), .lit (.int .u8 6), .lit (.int .u8 7), .lit (.int .u8 8), .lit (.int .u8 9), .lit (.int .u8 10), .lit (.int .u8 11), .lit (.int .u8 12), .lit (.int .u8 13), .lit (.int .u8 14), .lit (.int .u8 15)], .agg [.lit (.int .u8 14), .lit (.int .u8 10), .lit (.int .u8 4), .lit (.int .u8 8), .lit (.int .u8 9), .lit (.int .u8 15), .lit (.int .u8 13), .lit (.int .u8 6), .lit (.int .u8 1), .lit (.int .u8 12), .lit (.int .u8 0), .lit (.int .u8 2), .lit (.int .u8 11), .lit (.int .u8 7), .lit (.int .u8 5), .lit (.int .u8 3)], .agg [.lit (.int .u8 11), .lit (.int .u8 8), .lit (.int .u8 12), .lit (.int .u8 0), .lit (.int .u8 5), .lit (.int .u8 2), .lit (.int .u8 15), .lit (.int .u8 13), .lit (.int .u8 10), .lit (.int .u8 14), .lit (.int .u8 3), .lit (.int .u8 6), .lit (.int .u8 7), .lit (.int .u8 1), .lit (.int .u8 9), .lit (.int .u8 4)], .agg [.lit (.int .u8 7), .lit (.int .u8 9), .lit (.int .u8 3), .lit (.int .u8 1), .lit (.int .u8 13), .lit (.int .u8 12), .lit (.int .u8 11), .lit (.int .u8 14), .lit (.int .u8 2), .lit (.int .u8 6), .lit (.int .u8 5), .lit (.int .u8 10), .lit (.int .u8 4), .lit (.int .u8 0), .lit (.int .u8 15), .lit (.int .u8 8)], .agg [.lit (.int .u8 9), .lit (.int .u8 0), .lit (.int .u8 5), .lit (.int .u8 7), .lit (.int .u8 2), .lit (.int .u8 4), .lit (.int .u8 10), .lit (.int .u8 15), .lit (.int .u8 14), .lit (.int .u8 1), .lit (.int .u8 11), .lit (.int .u8 12), .lit (.int .u8 6), .lit (.int .u8 8), .lit (.int .u8 3), .lit (.int .u8 13)], .agg [.lit (.int .u8 2), .lit (.int .u8 12), .lit (.int .u8 6), .lit (.int .u8 10), .lit (.int .u8 0), .lit (.int .u8 11), .lit (.int .u8 8), .lit (.int .u8 3), .lit (.int .u8 4), .lit (.int .u8 13), .lit (.int .u8 7), .lit (.int .u8 5), .lit (.int .u8 15), .lit (.int .u8 14), .lit (.int .u8 1), .lit (.int .u8 9)], .agg [.lit (.int .u8 12), .lit (.int .u8 5), .lit (.int .u8 1), .lit (.int .u8 15), .lit (.int .u8 14), .lit (.int .u8 13), .lit (.int .u8 4), .lit (.int .u8 10), .lit (.int .u8 0), .lit (.int .u8 7), .lit (.int .u8 6), .lit (.int .u8 3), .lit (.int .u8 9), .lit (.int .u8 2), .lit (.int .u8 8), .lit (.int .u8 11)], .agg [.lit (.int .u8 13), .lit (.int .u8 11), .lit (.int .u8 7), .lit (.int .u8 14), .lit (.int .u8 12), .lit (.int .u8 1), .lit (.int .u8 3), .lit (.int .u8 9), .lit (.int .u8 5), .lit (.int .u8 0), .lit (.int .u8 15), .lit (.int .u8 4), .lit (.int .u8 8), .lit (.int .u8 6), .lit (.int .u8 2), .lit (.int .u8 10)], .agg [.lit (.int .u8 6), .lit (.int .u8 15), .lit (.int .u8 14), .lit (.int .u8 9), .lit (.int .u8 11), .lit (.int .u8 3), .lit (.int .u8 0), .lit (.int .u8 8), .lit (.int .u8 12), .lit (.int .u8 2), .lit (.int .u8 13), .lit (.int .u8 7), .lit (.int .u8 1), .lit (.int .u8 4), .lit (.int .u8 10), .lit (.int .u8 5)], .agg [.lit (.int .u8 10), .lit (.int .u8 2), .lit (.int .u8 8), .lit (.int .u8 4), .lit (.int .u8 7), .lit (.int .u8 6), .lit (.int .u8 1), .lit (.int .u8 5), .lit (.int .u8 15), .lit (.int .u8 11), .lit (.int .u8 9), .lit (.int .u8 14), .lit (.int .u8 3), .lit (.int .u8 12), .lit (.int .u8 13), .lit (.int .u8 0)]]
def laid_wringer_turn_mixes {H : Type} : DataW H := .agg [.lit (.int .u8 2), .lit (.int .u8 3), .lit (.int .u8 1), .lit (.int .u8 1)]
def laid_wringer_turn_unmixes {H : Type} : DataW H := .agg [.lit (.int .u8 14), .lit (.int .u8 11), .lit (.int .u8 13), .lit (.int .u8 9)]

/-- 'wringerlaw30.ReelWrites': WHATEVER THE INPUT: true; the input reads as it did. -/
def reelWritesSpec : ChangeSpec := { name := "reelWrites", fn := fun _ => fun
  | [d] => { results := [.lit (.bool true)], args := [d] }
  | _ => none }
def reelWritesRow : OpenClaim := { program := "ytmpgcilppjkhoaagreatdoor", sum := "1d7b1ca763ec7a8292c9953b93005ad3c82d67b2cdd6f449e5d93f3074c04b8a", func := "wringer/wringerlaw30.ReelWrites", spec := "reelWrites", inPlace := ["math/bits.Add64", "internal/bytealg.IndexByteString"], unfollowed := true, recurses := true, named := ["wringer/turn.mixes", "wringer/turn.unmixes", "wringer/blake.first", "wringer/blake.rows"], apart := false, laid := [("wringer/blake.first", laid_wringer_blake_first), ("wringer/blake.rows", laid_wringer_blake_rows), ("wringer/turn.mixes", laid_wringer_turn_mixes), ("wringer/turn.unmixes", laid_wringer_turn_unmixes)] }
def ReelWritesSaid : Prop := reelWritesRow.holds Tryz.pinned (OpenSpec.ofChange reelWritesSpec)

/-- ITS FALSE NEIGHBOUR: 'it returns false'. Refute it at one input. -/
def reelWritesWrong : ChangeSpec := { name := "reelWrites", fn := fun _ => fun
  | [d] => { results := [.lit (.bool false)], args := [d] }
  | _ => none }
def ReelWritesWrongFalsely : Prop := reelWritesRow.holds Tryz.pinned (OpenSpec.ofChange reelWritesWrong)

/-- 'wringerlaw30.ReelReads': WHATEVER THE INPUT: true; the input reads as it did. -/
def reelReadsSpec : ChangeSpec := { name := "reelReads", fn := fun _ => fun
  | [d] => { results := [.lit (.bool true)], args := [d] }
  | _ => none }
def reelReadsRow : OpenClaim := { program := "ytmpgcilppjkhoaagreatdoor", sum := "1d7b1ca763ec7a8292c9953b93005ad3c82d67b2cdd6f449e5d93f3074c04b8a", func := "wringer/wringerlaw30.ReelReads", spec := "reelReads", inPlace := ["math/bits.Add64", "internal/bytealg.IndexByteString"], unfollowed := true, recurses := true, named := ["wringer/turn.mixes", "wringer/turn.unmixes", "wringer/blake.first", "wringer/blake.rows"], apart := false, laid := [("wringer/blake.first", laid_wringer_blake_first), ("wringer/blake.rows", laid_wringer_blake_rows), ("wringer/turn.mixes", laid_wringer_turn_mixes), ("wringer/turn.unmixes", laid_wringer_turn_unmixes)] }
def ReelReadsSaid : Prop := reelReadsRow.holds Tryz.pinned (OpenSpec.ofChange reelReadsSpec)

/-- ITS FALSE NEIGHBOUR: 'it returns false'. Refute it at one input. -/
def reelReadsWrong : ChangeSpec := { name := "reelReads", fn := fun _ => fun
  | [d] => { results := [.lit (.bool false)], args := [d] }
  | _ => none }
def ReelReadsWrongFalsely : Prop := reelReadsRow.holds Tryz.pinned (OpenSpec.ofChange reelReadsWrong)

/-- 'wringerlaw30.ReelBack': WHATEVER THE INPUT: true; the input reads as it did. -/
def reelBackSpec : ChangeSpec := { name := "reelBack", fn := fun _ => fun
  | [d] => { results := [.lit (.bool true)], args := [d] }
  | _ => none }
def reelBackRow : OpenClaim := { program := "ytmpgcilppjkhoaagreatdoor", sum := "1d7b1ca763ec7a8292c9953b93005ad3c82d67b2cdd6f449e5d93f3074c04b8a", func := "wringer/wringerlaw30.ReelBack", spec := "reelBack", inPlace := ["math/bits.Add64", "internal/bytealg.IndexByteString"], unfollowed := true, recurses := true, named := ["wringer/turn.mixes", "wringer/turn.unmixes", "wringer/blake.first", "wringer/blake.rows"], apart := false, laid := [("wringer/blake.first", laid_wringer_blake_first), ("wringer/blake.rows", laid_wringer_blake_rows), ("wringer/turn.mixes", laid_wringer_turn_mixes), ("wringer/turn.unmixes", laid_wringer_turn_unmixes)] }
def ReelBackSaid : Prop := reelBackRow.holds Tryz.pinned (OpenSpec.ofChange reelBackSpec)

/-- ITS FALSE NEIGHBOUR: 'it returns false'. Refute it at one input. -/
def reelBackWrong : ChangeSpec := { name := "reelBack", fn := fun _ => fun
  | [d] => { results := [.lit (.bool false)], args := [d] }
  | _ => none }
def ReelBackWrongFalsely : Prop := reelBackRow.holds Tryz.pinned (OpenSpec.ofChange reelBackWrong)

/-- 'wringerlaw30.ReelOnly': WHATEVER THE INPUT: true; the input reads as it did. -/
def reelOnlySpec : ChangeSpec := { name := "reelOnly", fn := fun _ => fun
  | [d] => { results := [.lit (.bool true)], args := [d] }
  | _ => none }
def reelOnlyRow : OpenClaim := { program := "ytmpgcilppjkhoaagreatdoor", sum := "1d7b1ca763ec7a8292c9953b93005ad3c82d67b2cdd6f449e5d93f3074c04b8a", func := "wringer/wringerlaw30.ReelOnly", spec := "reelOnly", inPlace := ["math/bits.Add64", "internal/bytealg.IndexByteString"], unfollowed := true, recurses := true, named := ["wringer/turn.mixes", "wringer/turn.unmixes", "wringer/blake.first", "wringer/blake.rows"], apart := false, laid := [("wringer/blake.first", laid_wringer_blake_first), ("wringer/blake.rows", laid_wringer_blake_rows), ("wringer/turn.mixes", laid_wringer_turn_mixes), ("wringer/turn.unmixes", laid_wringer_turn_unmixes)] }
def ReelOnlySaid : Prop := reelOnlyRow.holds Tryz.pinned (OpenSpec.ofChange reelOnlySpec)

/-- ITS FALSE NEIGHBOUR: 'it returns false'. Refute it at one input. -/
def reelOnlyWrong : ChangeSpec := { name := "reelOnly", fn := fun _ => fun
  | [d] => { results := [.lit (.bool false)], args := [d] }
  | _ => none }
def ReelOnlyWrongFalsely : Prop := reelOnlyRow.holds Tryz.pinned (OpenSpec.ofChange reelOnlyWrong)

/-- 'wringerlaw30.ReelJoins': WHATEVER THE INPUT: true; the input reads as it did. -/
def reelJoinsSpec : ChangeSpec := { name := "reelJoins", fn := fun _ => fun
  | [d1, d2] => { results := [.lit (.bool true)], args := [d1, d2] }
  | _ => none }
def reelJoinsRow : OpenClaim := { program := "ytmpgcilppjkhoaagreatdoor", sum := "1d7b1ca763ec7a8292c9953b93005ad3c82d67b2cdd6f449e5d93f3074c04b8a", func := "wringer/wringerlaw30.ReelJoins", spec := "reelJoins", inPlace := ["math/bits.Add64", "internal/bytealg.IndexByteString"], unfollowed := true, recurses := true, named := ["wringer/turn.mixes", "wringer/turn.unmixes", "wringer/blake.first", "wringer/blake.rows"], apart := false, laid := [("wringer/blake.first", laid_wringer_blake_first), ("wringer/blake.rows", laid_wringer_blake_rows), ("wringer/turn.mixes", laid_wringer_turn_mixes), ("wringer/turn.unmixes", laid_wringer_turn_unmixes)] }
def ReelJoinsSaid : Prop := reelJoinsRow.holds Tryz.pinned (OpenSpec.ofChange reelJoinsSpec)

/-- ITS FALSE NEIGHBOUR: 'it returns false'. Refute it at one input. -/
def reelJoinsWrong : ChangeSpec := { name := "reelJoins", fn := fun _ => fun
  | [d1, d2] => { results := [.lit (.bool false)], args := [d1, d2] }
  | _ => none }
def ReelJoinsWrongFalsely : Prop := reelJoinsRow.holds Tryz.pinned (OpenSpec.ofChange reelJoinsWrong)

/-- 'wringerlaw30.ReelTells': WHATEVER THE INPUT: true; the input reads as it did. -/
def reelTellsSpec : ChangeSpec := { name := "reelTells", fn := fun _ => fun
  | [d] => { results := [.lit (.bool true)], args := [d] }
  | _ => none }
def reelTellsRow : OpenClaim := { program := "ytmpgcilppjkhoaagreatdoor", sum := "1d7b1ca763ec7a8292c9953b93005ad3c82d67b2cdd6f449e5d93f3074c04b8a", func := "wringer/wringerlaw30.ReelTells", spec := "reelTells", inPlace := ["math/bits.Add64", "internal/bytealg.IndexByteString"], unfollowed := true, recurses := true, named := ["wringer/turn.mixes", "wringer/turn.unmixes", "wringer/blake.first", "wringer/blake.rows"], apart := false, laid := [("wringer/blake.first", laid_wringer_blake_first), ("wringer/blake.rows", laid_wringer_blake_rows), ("wringer/turn.mixes", laid_wringer_turn_mixes), ("wringer/turn.unmixes", laid_wringer_turn_unmixes)] }
def ReelTellsSaid : Prop := reelTellsRow.holds Tryz.pinned (OpenSpec.ofChange reelTellsSpec)

/-- ITS FALSE NEIGHBOUR: 'it returns false'. Refute it at one input. -/
def reelTellsWrong : ChangeSpec := { name := "reelTells", fn := fun _ => fun
  | [d] => { results := [.lit (.bool false)], args := [d] }
  | _ => none }
def ReelTellsWrongFalsely : Prop := reelTellsRow.holds Tryz.pinned (OpenSpec.ofChange reelTellsWrong)

/- THE SECOND FORM. 'bulk': how many values and letters a reading holds, each counted each time it is reached (what is shared counts as often as it is met; a slice's spare places count too). A statement '..UptoSaid' is the law's where the arguments, and the package variables that the reading takes, are together of bulk at most 1048576: NARROWER than '..Said'. Prove '..Said' where nothing that the law and all that it calls make is longer than what came in: it says more and counts as full. Else prove '..UptoSaid'. A law counts once. -/
mutual
def uptoBulk {H : Type} : DataW H → Nat
  | .lit (.string bytes) => bytes.length + 1
  | .lit _ => 1
  | .nil => 1
  | .ptr d => uptoBulk d + 1
  | .slice elems spare => uptoBulkAll elems + uptoBulkAll spare + 1
  | .agg parts => uptoBulkAll parts + 1
  | .iface _ d => uptoBulk d + 1
  | .map entries => uptoBulkEntries entries + 1
  | .held _ => 1
def uptoBulkAll {H : Type} : List (DataW H) → Nat
  | [] => 0
  | d :: r => uptoBulk d + uptoBulkAll r
def uptoBulkEntries {H : Type} : List (Lit × DataW H) → Nat
  | [] => 0
  | x :: r => uptoBulkEntry x + uptoBulkEntries r
def uptoBulkEntry {H : Type} : Lit × DataW H → Nat
  | (.string bytes, d) => bytes.length + uptoBulk d + 1
  | (_, d) => uptoBulk d + 1
 end
def uptoSmall : (H : Type) → List (DataW H) → Bool := fun _ ds => decide (uptoBulkAll ds ≤ 1048576)
def OpenSpec.upto (s : _root_.Go.ChangeSpec) : _root_.Go.OpenSpec := { _root_.Go.OpenSpec.ofChange s with cond := some uptoSmall }

/-- 'wringerlaw30.ReelWrites', WHERE WHAT IT READS IS OF BULK AT MOST 1048576: true; the input reads as it did. -/
def reelWritesUptoRow : OpenClaim := { program := "ytmpgcilppjkhoaagreatdoor", sum := "1d7b1ca763ec7a8292c9953b93005ad3c82d67b2cdd6f449e5d93f3074c04b8a", func := "wringer/wringerlaw30.ReelWrites", spec := "reelWrites", inPlace := ["math/bits.Add64", "internal/bytealg.IndexByteString"], unfollowed := true, recurses := true, named := ["wringer/turn.mixes", "wringer/turn.unmixes", "wringer/blake.first", "wringer/blake.rows"], apart := false, laid := [("wringer/blake.first", laid_wringer_blake_first), ("wringer/blake.rows", laid_wringer_blake_rows), ("wringer/turn.mixes", laid_wringer_turn_mixes), ("wringer/turn.unmixes", laid_wringer_turn_unmixes)], narrowed := true }
def ReelWritesUptoSaid : Prop := reelWritesUptoRow.holds Tryz.pinned (OpenSpec.upto reelWritesSpec)

/-- 'wringerlaw30.ReelReads', WHERE WHAT IT READS IS OF BULK AT MOST 1048576: true; the input reads as it did. -/
def reelReadsUptoRow : OpenClaim := { program := "ytmpgcilppjkhoaagreatdoor", sum := "1d7b1ca763ec7a8292c9953b93005ad3c82d67b2cdd6f449e5d93f3074c04b8a", func := "wringer/wringerlaw30.ReelReads", spec := "reelReads", inPlace := ["math/bits.Add64", "internal/bytealg.IndexByteString"], unfollowed := true, recurses := true, named := ["wringer/turn.mixes", "wringer/turn.unmixes", "wringer/blake.first", "wringer/blake.rows"], apart := false, laid := [("wringer/blake.first", laid_wringer_blake_first), ("wringer/blake.rows", laid_wringer_blake_rows), ("wringer/turn.mixes", laid_wringer_turn_mixes), ("wringer/turn.unmixes", laid_wringer_turn_unmixes)], narrowed := true }
def ReelReadsUptoSaid : Prop := reelReadsUptoRow.holds Tryz.pinned (OpenSpec.upto reelReadsSpec)

/-- 'wringerlaw30.ReelBack', WHERE WHAT IT READS IS OF BULK AT MOST 1048576: true; the input reads as it did. -/
def reelBackUptoRow : OpenClaim := { program := "ytmpgcilppjkhoaagreatdoor", sum := "1d7b1ca763ec7a8292c9953b93005ad3c82d67b2cdd6f449e5d93f3074c04b8a", func := "wringer/wringerlaw30.ReelBack", spec := "reelBack", inPlace := ["math/bits.Add64", "internal/bytealg.IndexByteString"], unfollowed := true, recurses := true, named := ["wringer/turn.mixes", "wringer/turn.unmixes", "wringer/blake.first", "wringer/blake.rows"], apart := false, laid := [("wringer/blake.first", laid_wringer_blake_first), ("wringer/blake.rows", laid_wringer_blake_rows), ("wringer/turn.mixes", laid_wringer_turn_mixes), ("wringer/turn.unmixes", laid_wringer_turn_unmixes)], narrowed := true }
def ReelBackUptoSaid : Prop := reelBackUptoRow.holds Tryz.pinned (OpenSpec.upto reelBackSpec)

/-- 'wringerlaw30.ReelOnly', WHERE WHAT IT READS IS OF BULK AT MOST 1048576: true; the input reads as it did. -/
def reelOnlyUptoRow : OpenClaim := { program := "ytmpgcilppjkhoaagreatdoor", sum := "1d7b1ca763ec7a8292c9953b93005ad3c82d67b2cdd6f449e5d93f3074c04b8a", func := "wringer/wringerlaw30.ReelOnly", spec := "reelOnly", inPlace := ["math/bits.Add64", "internal/bytealg.IndexByteString"], unfollowed := true, recurses := true, named := ["wringer/turn.mixes", "wringer/turn.unmixes", "wringer/blake.first", "wringer/blake.rows"], apart := false, laid := [("wringer/blake.first", laid_wringer_blake_first), ("wringer/blake.rows", laid_wringer_blake_rows), ("wringer/turn.mixes", laid_wringer_turn_mixes), ("wringer/turn.unmixes", laid_wringer_turn_unmixes)], narrowed := true }
def ReelOnlyUptoSaid : Prop := reelOnlyUptoRow.holds Tryz.pinned (OpenSpec.upto reelOnlySpec)

/-- 'wringerlaw30.ReelJoins', WHERE WHAT IT READS IS OF BULK AT MOST 1048576: true; the input reads as it did. -/
def reelJoinsUptoRow : OpenClaim := { program := "ytmpgcilppjkhoaagreatdoor", sum := "1d7b1ca763ec7a8292c9953b93005ad3c82d67b2cdd6f449e5d93f3074c04b8a", func := "wringer/wringerlaw30.ReelJoins", spec := "reelJoins", inPlace := ["math/bits.Add64", "internal/bytealg.IndexByteString"], unfollowed := true, recurses := true, named := ["wringer/turn.mixes", "wringer/turn.unmixes", "wringer/blake.first", "wringer/blake.rows"], apart := false, laid := [("wringer/blake.first", laid_wringer_blake_first), ("wringer/blake.rows", laid_wringer_blake_rows), ("wringer/turn.mixes", laid_wringer_turn_mixes), ("wringer/turn.unmixes", laid_wringer_turn_unmixes)], narrowed := true }
def ReelJoinsUptoSaid : Prop := reelJoinsUptoRow.holds Tryz.pinned (OpenSpec.upto reelJoinsSpec)

/-- 'wringerlaw30.ReelTells', WHERE WHAT IT READS IS OF BULK AT MOST 1048576: true; the input reads as it did. -/
def reelTellsUptoRow : OpenClaim := { program := "ytmpgcilppjkhoaagreatdoor", sum := "1d7b1ca763ec7a8292c9953b93005ad3c82d67b2cdd6f449e5d93f3074c04b8a", func := "wringer/wringerlaw30.ReelTells", spec := "reelTells", inPlace := ["math/bits.Add64", "internal/bytealg.IndexByteString"], unfollowed := true, recurses := true, named := ["wringer/turn.mixes", "wringer/turn.unmixes", "wringer/blake.first", "wringer/blake.rows"], apart := false, laid := [("wringer/blake.first", laid_wringer_blake_first), ("wringer/blake.rows", laid_wringer_blake_rows), ("wringer/turn.mixes", laid_wringer_turn_mixes), ("wringer/turn.unmixes", laid_wringer_turn_unmixes)], narrowed := true }
def ReelTellsUptoSaid : Prop := reelTellsUptoRow.holds Tryz.pinned (OpenSpec.upto reelTellsSpec)

end Rows
end Go.Proofs.YtmpgcilppjkhoaaGreatDoor
