/-
  BenchRuns: for every input the call returns true, and each argument reads behind the call as it read before; the four listed variables are tied to the program's text. No condition.
-/
import Derived.Test.YtkochfajaaiekaaGreatDoorBenchRunsO
import Derived.Test.YtkochfajaaiekaaGreatDoorY36
import Derived.Test.YtkochfajaaiekaaGreatDoorY18
import Derived.Test.YtkochfajaaiekaaGreatDoorY8
import Derived.Test.YtkochfajaaiekaaGreatDoorTie
import Derived.Test.YtkochfajaaiekaaGreatDoorCards
import Derived.WalkKit
import Derived.ProofKit
import Derived.OpenShut
import Derived.ChangeOld
import Derived.Below
import Derived.LaidMore
import Derived.Lib.SmallJoins
import Derived.Stop.Joined
import Derived.SevenTiedAt
import Derived.JoinedOf
import Derived.ChangeArms
namespace Go.Proofs.YtkochfajaaiekaaGreatDoor.benchRuns
open Go.ChangeShapes Go.WideShapes Go.ChangeAt Go.RowKit
set_option linter.unusedVariables false

theorem proved : Rows.BenchRunsCardSaid :=
  Claim7.holds_tied_plain_at .later [] [.data, .data, .data, .data] true (true, "e449b60d80bea7284b14fca74385a5d465077e6b4de1c269311b03f07cc3fec9") true
    over (fun _ h => by cases h) (by as_aux_lemma => kernel_rfl) (fun _ h => by cases h) benchRuns_row_tie rfl ⟨rfl, rfl⟩ (by as_aux_lemma => kernel_rfl) rfl
    (fun f fn hf hfn => by
      obtain rfl : f = 7 := Option.some.inj ((show Tryz.prog.funcNamed "wringer/wringerlaw29.BenchRuns" = some 7 by kernel_rfl).symm.trans hf) |>.symm
      obtain rfl : fn = Tryz.f7 := (Option.some.inj (Tryz.func7.symm.trans hfn)).symm
      exact ⟨by as_aux_lemma => kernel_rfl, fun j t ht => by
        rw [Tryz.params7] at ht
        have hm : t ∈ [22, 5] := by simpa using Array.mem_of_getElem? ht
        have hall : ([22, 5].all fun u => !Tryz.prog.wantsStandIn u) = true := by as_aux_lemma => kernel_rfl
        exact (show Tryz.prog.wantsStandIn t = false by simpa using List.all_eq_true.1 hall t hm)⟩)
    (by as_aux_lemma => kernel_rfl)
#print axioms proved
end Go.Proofs.YtkochfajaaiekaaGreatDoor.benchRuns
