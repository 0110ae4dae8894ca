/-
  TopEither: for every input the call returns true, and each argument reads behind the call as it read before; the four listed variables are tied to the program's text. No condition.
-/
import Derived.Test.YtamdifhibogdiaaGreatDoorTopEitherO
import Derived.Test.YtamdifhibogdiaaGreatDoorX27
import Derived.Test.YtamdifhibogdiaaGreatDoorX28
import Derived.Test.YtamdifhibogdiaaGreatDoorTie
import Derived.Test.YtamdifhibogdiaaGreatDoorCards
import Derived.WalkKit
import Derived.ProofKit
import Derived.OpenShut
import Derived.ChangeOld
import Derived.Below
import Derived.LaidMore
import Derived.Lib.SmallJoins
import Derived.Stop.Joined
import Derived.SevenTiedAt
import Derived.JoinedOf
import Derived.ChangeArms
namespace Go.Proofs.YtamdifhibogdiaaGreatDoor.topEither
open Go.ChangeShapes Go.WideShapes Go.ChangeAt Go.RowKit Go.Mem Go.Trn Go.Blake Go.Open
set_option linter.unusedVariables false

theorem proved : Rows.TopEitherCardSaid :=
  Claim7.holds_tied_plain_at .later [] [.data, .data, .data, .data] true (true, "f4e88398d1005836a944026bcb1fa2ed3738526c130476c9dc0a8180bf65327e") true
    over (fun _ h => by cases h) (by as_aux_lemma => kernel_rfl) (fun _ h => by cases h) topEither_row_tie rfl ⟨rfl, rfl⟩ (by as_aux_lemma => kernel_rfl) rfl
    (fun f fn hf hfn => by
      obtain rfl : f = 3 := Option.some.inj ((show Tryz.prog.funcNamed "wringer/wringertop.TopEither" = some 3 by kernel_rfl).symm.trans hf) |>.symm
      obtain rfl : fn = Tryz.f3 := (Option.some.inj (Tryz.func3.symm.trans hfn)).symm
      exact ⟨by as_aux_lemma => kernel_rfl, fun j t ht => by
        rw [Tryz.params3] at ht
        have hm : t ∈ [26] := by simpa using Array.mem_of_getElem? ht
        have hall : ([26].all fun u => !Tryz.prog.wantsStandIn u) = true := by as_aux_lemma => kernel_rfl
        exact (show Tryz.prog.wantsStandIn t = false by simpa using List.all_eq_true.1 hall t hm)⟩)
    (by as_aux_lemma => kernel_rfl)
#print axioms proved
end Go.Proofs.YtamdifhibogdiaaGreatDoor.topEither
