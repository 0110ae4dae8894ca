/-
  No cell of these rows narrows 'for every input' (looked for: loops, veiled, ifaces, maps, wideKeys, modest, calm, conditions, laid).
  DERIVED. THE GIVEN ROWS OF THIS SEAT. 8 by the template 'for every input the law returns true; each argument reads behind the call as it read before'; 0 by the template 'total and deterministic' (their statements: YtkgckhmfhpnoaaaTotals.lean).
  GIVEN WITH THE SEED: the statements are not yours to turn. If you find one false, say at which input.
  Laid BY PROGRAM, IN A SANDBOX (cutbox-rows.mjs): the forced cells as the released guide's own fill.sh prints them over the translation 4b04a6105b716924… (all of the seat's roots in one cut). By AI agents, Wed Nov 11 2026. No macro, syntax, notation, axiom, sorry.
-/
import Derived.Test.YtkgckhmfhpnoaaaChecked
import GoSem.Claim
import GoSem.ClaimJoined
import GoSem.ClaimMapViews
import Derived.JoinedTies
import Derived.KernelRfl
namespace Go.Proofs.Ytkgckhmfhpnoaaa
/- THE CELL 'sum', in the pinned program and in every row, IS THE sha256 OF THE DUMP (.gsa) THAT YtkgckhmfhpnoaaaProg.lean LOADS. Nothing in Lean hashes anything: it is a label: what it is worth is what the hold of that sum in a sandbox is worth. -/
noncomputable def Try.pinned : Pinned := { name := "ytkgckhmfhpnoaaa", sum := "4b04a6105b71692435f7e613f1f932b46a07b0ff05199cfded7c4928232dcd56", checked := Try.checked }
namespace Rows
def none {H : Type} : Left H := { results := [], args := [] }

/-- 'wringerlaw14.CutParts': WHATEVER THE INPUT: true; the input reads as it did. -/
def cutPartsSpec : ChangeSpec := { name := "cutParts", fn := fun _ => fun
  | [d1, d2] => { results := [.lit (.bool true)], args := [d1, d2] }
  | _ => none }
def cutPartsRow : OpenClaim := { program := "ytkgckhmfhpnoaaa", sum := "4b04a6105b71692435f7e613f1f932b46a07b0ff05199cfded7c4928232dcd56", func := "wringer/wringerlaw14.CutParts", spec := "cutParts", unfollowed := true, recurses := true, apart := false }
def CutPartsSaid : Prop := cutPartsRow.holds Try.pinned (OpenSpec.ofChange cutPartsSpec)

/-- ITS FALSE NEIGHBOUR: 'it returns false'. Refute it at one input. -/
def cutPartsWrong : ChangeSpec := { name := "cutParts", fn := fun _ => fun
  | [d1, d2] => { results := [.lit (.bool false)], args := [d1, d2] }
  | _ => none }
def CutPartsWrongFalsely : Prop := cutPartsRow.holds Try.pinned (OpenSpec.ofChange cutPartsWrong)

/-- 'wringerlaw14.CutCovers': WHATEVER THE INPUT: true; the input reads as it did. -/
def cutCoversSpec : ChangeSpec := { name := "cutCovers", fn := fun _ => fun
  | [d1, d2] => { results := [.lit (.bool true)], args := [d1, d2] }
  | _ => none }
def cutCoversRow : OpenClaim := { program := "ytkgckhmfhpnoaaa", sum := "4b04a6105b71692435f7e613f1f932b46a07b0ff05199cfded7c4928232dcd56", func := "wringer/wringerlaw14.CutCovers", spec := "cutCovers", unfollowed := true, recurses := true, apart := false }
def CutCoversSaid : Prop := cutCoversRow.holds Try.pinned (OpenSpec.ofChange cutCoversSpec)

/-- ITS FALSE NEIGHBOUR: 'it returns false'. Refute it at one input. -/
def cutCoversWrong : ChangeSpec := { name := "cutCovers", fn := fun _ => fun
  | [d1, d2] => { results := [.lit (.bool false)], args := [d1, d2] }
  | _ => none }
def CutCoversWrongFalsely : Prop := cutCoversRow.holds Try.pinned (OpenSpec.ofChange cutCoversWrong)

/-- 'wringerlaw14.CutPairs': WHATEVER THE INPUT: true; the input reads as it did. -/
def cutPairsSpec : ChangeSpec := { name := "cutPairs", fn := fun _ => fun
  | [d] => { results := [.lit (.bool true)], args := [d] }
  | _ => none }
def cutPairsRow : OpenClaim := { program := "ytkgckhmfhpnoaaa", sum := "4b04a6105b71692435f7e613f1f932b46a07b0ff05199cfded7c4928232dcd56", func := "wringer/wringerlaw14.CutPairs", spec := "cutPairs", unfollowed := true, recurses := true, apart := false }
def CutPairsSaid : Prop := cutPairsRow.holds Try.pinned (OpenSpec.ofChange cutPairsSpec)

/-- ITS FALSE NEIGHBOUR: 'it returns false'. Refute it at one input. -/
def cutPairsWrong : ChangeSpec := { name := "cutPairs", fn := fun _ => fun
  | [d] => { results := [.lit (.bool false)], args := [d] }
  | _ => none }
def CutPairsWrongFalsely : Prop := cutPairsRow.holds Try.pinned (OpenSpec.ofChange cutPairsWrong)

/-- 'wringerlaw14.CutJoins': WHATEVER THE INPUT: true; the input reads as it did. -/
def cutJoinsSpec : ChangeSpec := { name := "cutJoins", fn := fun _ => fun
  | [d] => { results := [.lit (.bool true)], args := [d] }
  | _ => none }
def cutJoinsRow : OpenClaim := { program := "ytkgckhmfhpnoaaa", sum := "4b04a6105b71692435f7e613f1f932b46a07b0ff05199cfded7c4928232dcd56", func := "wringer/wringerlaw14.CutJoins", spec := "cutJoins", unfollowed := true, recurses := true, apart := false }
def CutJoinsSaid : Prop := cutJoinsRow.holds Try.pinned (OpenSpec.ofChange cutJoinsSpec)

/-- ITS FALSE NEIGHBOUR: 'it returns false'. Refute it at one input. -/
def cutJoinsWrong : ChangeSpec := { name := "cutJoins", fn := fun _ => fun
  | [d] => { results := [.lit (.bool false)], args := [d] }
  | _ => none }
def CutJoinsWrongFalsely : Prop := cutJoinsRow.holds Try.pinned (OpenSpec.ofChange cutJoinsWrong)

/-- 'wringerlaw14.CutOf': WHATEVER THE INPUT: true; the input reads as it did. -/
def cutOfSpec : ChangeSpec := { name := "cutOf", fn := fun _ => fun
  | [d1, d2, d3] => { results := [.lit (.bool true)], args := [d1, d2, d3] }
  | _ => none }
def cutOfRow : OpenClaim := { program := "ytkgckhmfhpnoaaa", sum := "4b04a6105b71692435f7e613f1f932b46a07b0ff05199cfded7c4928232dcd56", func := "wringer/wringerlaw14.CutOf", spec := "cutOf", unfollowed := true, recurses := true, apart := false }
def CutOfSaid : Prop := cutOfRow.holds Try.pinned (OpenSpec.ofChange cutOfSpec)

/-- ITS FALSE NEIGHBOUR: 'it returns false'. Refute it at one input. -/
def cutOfWrong : ChangeSpec := { name := "cutOf", fn := fun _ => fun
  | [d1, d2, d3] => { results := [.lit (.bool false)], args := [d1, d2, d3] }
  | _ => none }
def CutOfWrongFalsely : Prop := cutOfRow.holds Try.pinned (OpenSpec.ofChange cutOfWrong)

/-- 'wringerlaw14.CutSides': WHATEVER THE INPUT: true; the input reads as it did. -/
def cutSidesSpec : ChangeSpec := { name := "cutSides", fn := fun _ => fun
  | [d] => { results := [.lit (.bool true)], args := [d] }
  | _ => none }
def cutSidesRow : OpenClaim := { program := "ytkgckhmfhpnoaaa", sum := "4b04a6105b71692435f7e613f1f932b46a07b0ff05199cfded7c4928232dcd56", func := "wringer/wringerlaw14.CutSides", spec := "cutSides", unfollowed := true, recurses := true, apart := false }
def CutSidesSaid : Prop := cutSidesRow.holds Try.pinned (OpenSpec.ofChange cutSidesSpec)

/-- ITS FALSE NEIGHBOUR: 'it returns false'. Refute it at one input. -/
def cutSidesWrong : ChangeSpec := { name := "cutSides", fn := fun _ => fun
  | [d] => { results := [.lit (.bool false)], args := [d] }
  | _ => none }
def CutSidesWrongFalsely : Prop := cutSidesRow.holds Try.pinned (OpenSpec.ofChange cutSidesWrong)

/-- 'wringerlaw14.CutWhole': WHATEVER THE INPUT: true; the input reads as it did. -/
def cutWholeSpec : ChangeSpec := { name := "cutWhole", fn := fun _ => fun
  | [d1, d2] => { results := [.lit (.bool true)], args := [d1, d2] }
  | _ => none }
def cutWholeRow : OpenClaim := { program := "ytkgckhmfhpnoaaa", sum := "4b04a6105b71692435f7e613f1f932b46a07b0ff05199cfded7c4928232dcd56", func := "wringer/wringerlaw14.CutWhole", spec := "cutWhole", unfollowed := true, recurses := true, apart := false }
def CutWholeSaid : Prop := cutWholeRow.holds Try.pinned (OpenSpec.ofChange cutWholeSpec)

/-- ITS FALSE NEIGHBOUR: 'it returns false'. Refute it at one input. -/
def cutWholeWrong : ChangeSpec := { name := "cutWhole", fn := fun _ => fun
  | [d1, d2] => { results := [.lit (.bool false)], args := [d1, d2] }
  | _ => none }
def CutWholeWrongFalsely : Prop := cutWholeRow.holds Try.pinned (OpenSpec.ofChange cutWholeWrong)

/-- 'wringerlaw14.CutBack': WHATEVER THE INPUT: true; the input reads as it did. -/
def cutBackSpec : ChangeSpec := { name := "cutBack", fn := fun _ => fun
  | [d] => { results := [.lit (.bool true)], args := [d] }
  | _ => none }
def cutBackRow : OpenClaim := { program := "ytkgckhmfhpnoaaa", sum := "4b04a6105b71692435f7e613f1f932b46a07b0ff05199cfded7c4928232dcd56", func := "wringer/wringerlaw14.CutBack", spec := "cutBack", unfollowed := true, recurses := true, apart := false }
def CutBackSaid : Prop := cutBackRow.holds Try.pinned (OpenSpec.ofChange cutBackSpec)

/-- ITS FALSE NEIGHBOUR: 'it returns false'. Refute it at one input. -/
def cutBackWrong : ChangeSpec := { name := "cutBack", fn := fun _ => fun
  | [d] => { results := [.lit (.bool false)], args := [d] }
  | _ => none }
def CutBackWrongFalsely : Prop := cutBackRow.holds Try.pinned (OpenSpec.ofChange cutBackWrong)

/- THE SECOND FORM. 'bulk': how many values and letters a reading holds, each counted each time it is reached (what is shared counts as often as it is met; a slice's spare places count too). A statement '..UptoSaid' is the law's where the arguments, and the package variables that the reading takes, are together of bulk at most 1048576: NARROWER than '..Said'. Prove '..Said' where nothing that the law and all that it calls make is longer than what came in: it says more and counts as full. Else prove '..UptoSaid'. A law counts once. -/
mutual
def uptoBulk {H : Type} : DataW H → Nat
  | .lit (.string bytes) => bytes.length + 1
  | .lit _ => 1
  | .nil => 1
  | .ptr d => uptoBulk d + 1
  | .slice elems spare => uptoBulkAll elems + uptoBulkAll spare + 1
  | .agg parts => uptoBulkAll parts + 1
  | .iface _ d => uptoBulk d + 1
  | .map entries => uptoBulkEntries entries + 1
  | .held _ => 1
def uptoBulkAll {H : Type} : List (DataW H) → Nat
  | [] => 0
  | d :: r => uptoBulk d + uptoBulkAll r
def uptoBulkEntries {H : Type} : List (Lit × DataW H) → Nat
  | [] => 0
  | x :: r => uptoBulkEntry x + uptoBulkEntries r
def uptoBulkEntry {H : Type} : Lit × DataW H → Nat
  | (.string bytes, d) => bytes.length + uptoBulk d + 1
  | (_, d) => uptoBulk d + 1
 end
def uptoSmall : (H : Type) → List (DataW H) → Bool := fun _ ds => decide (uptoBulkAll ds ≤ 1048576)
def OpenSpec.upto (s : _root_.Go.ChangeSpec) : _root_.Go.OpenSpec := { _root_.Go.OpenSpec.ofChange s with cond := some uptoSmall }

/-- 'wringerlaw14.CutParts', WHERE WHAT IT READS IS OF BULK AT MOST 1048576: true; the input reads as it did. -/
def cutPartsUptoRow : OpenClaim := { program := "ytkgckhmfhpnoaaa", sum := "4b04a6105b71692435f7e613f1f932b46a07b0ff05199cfded7c4928232dcd56", func := "wringer/wringerlaw14.CutParts", spec := "cutParts", unfollowed := true, recurses := true, apart := false, narrowed := true }
def CutPartsUptoSaid : Prop := cutPartsUptoRow.holds Try.pinned (OpenSpec.upto cutPartsSpec)

/-- 'wringerlaw14.CutCovers', WHERE WHAT IT READS IS OF BULK AT MOST 1048576: true; the input reads as it did. -/
def cutCoversUptoRow : OpenClaim := { program := "ytkgckhmfhpnoaaa", sum := "4b04a6105b71692435f7e613f1f932b46a07b0ff05199cfded7c4928232dcd56", func := "wringer/wringerlaw14.CutCovers", spec := "cutCovers", unfollowed := true, recurses := true, apart := false, narrowed := true }
def CutCoversUptoSaid : Prop := cutCoversUptoRow.holds Try.pinned (OpenSpec.upto cutCoversSpec)

/-- 'wringerlaw14.CutPairs', WHERE WHAT IT READS IS OF BULK AT MOST 1048576: true; the input reads as it did. -/
def cutPairsUptoRow : OpenClaim := { program := "ytkgckhmfhpnoaaa", sum := "4b04a6105b71692435f7e613f1f932b46a07b0ff05199cfded7c4928232dcd56", func := "wringer/wringerlaw14.CutPairs", spec := "cutPairs", unfollowed := true, recurses := true, apart := false, narrowed := true }
def CutPairsUptoSaid : Prop := cutPairsUptoRow.holds Try.pinned (OpenSpec.upto cutPairsSpec)

/-- 'wringerlaw14.CutJoins', WHERE WHAT IT READS IS OF BULK AT MOST 1048576: true; the input reads as it did. -/
def cutJoinsUptoRow : OpenClaim := { program := "ytkgckhmfhpnoaaa", sum := "4b04a6105b71692435f7e613f1f932b46a07b0ff05199cfded7c4928232dcd56", func := "wringer/wringerlaw14.CutJoins", spec := "cutJoins", unfollowed := true, recurses := true, apart := false, narrowed := true }
def CutJoinsUptoSaid : Prop := cutJoinsUptoRow.holds Try.pinned (OpenSpec.upto cutJoinsSpec)

/-- 'wringerlaw14.CutOf', WHERE WHAT IT READS IS OF BULK AT MOST 1048576: true; the input reads as it did. -/
def cutOfUptoRow : OpenClaim := { program := "ytkgckhmfhpnoaaa", sum := "4b04a6105b71692435f7e613f1f932b46a07b0ff05199cfded7c4928232dcd56", func := "wringer/wringerlaw14.CutOf", spec := "cutOf", unfollowed := true, recurses := true, apart := false, narrowed := true }
def CutOfUptoSaid : Prop := cutOfUptoRow.holds Try.pinned (OpenSpec.upto cutOfSpec)

/-- 'wringerlaw14.CutSides', WHERE WHAT IT READS IS OF BULK AT MOST 1048576: true; the input reads as it did. -/
def cutSidesUptoRow : OpenClaim := { program := "ytkgckhmfhpnoaaa", sum := "4b04a6105b71692435f7e613f1f932b46a07b0ff05199cfded7c4928232dcd56", func := "wringer/wringerlaw14.CutSides", spec := "cutSides", unfollowed := true, recurses := true, apart := false, narrowed := true }
def CutSidesUptoSaid : Prop := cutSidesUptoRow.holds Try.pinned (OpenSpec.upto cutSidesSpec)

/-- 'wringerlaw14.CutWhole', WHERE WHAT IT READS IS OF BULK AT MOST 1048576: true; the input reads as it did. -/
def cutWholeUptoRow : OpenClaim := { program := "ytkgckhmfhpnoaaa", sum := "4b04a6105b71692435f7e613f1f932b46a07b0ff05199cfded7c4928232dcd56", func := "wringer/wringerlaw14.CutWhole", spec := "cutWhole", unfollowed := true, recurses := true, apart := false, narrowed := true }
def CutWholeUptoSaid : Prop := cutWholeUptoRow.holds Try.pinned (OpenSpec.upto cutWholeSpec)

/-- 'wringerlaw14.CutBack', WHERE WHAT IT READS IS OF BULK AT MOST 1048576: true; the input reads as it did. -/
def cutBackUptoRow : OpenClaim := { program := "ytkgckhmfhpnoaaa", sum := "4b04a6105b71692435f7e613f1f932b46a07b0ff05199cfded7c4928232dcd56", func := "wringer/wringerlaw14.CutBack", spec := "cutBack", unfollowed := true, recurses := true, apart := false, narrowed := true }
def CutBackUptoSaid : Prop := cutBackUptoRow.holds Try.pinned (OpenSpec.upto cutBackSpec)

end Rows
end Go.Proofs.Ytkgckhmfhpnoaaa
