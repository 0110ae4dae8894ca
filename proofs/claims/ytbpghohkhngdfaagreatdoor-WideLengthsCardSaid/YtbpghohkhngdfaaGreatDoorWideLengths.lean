/-
  WideLengths: for every input the call returns true, and each argument reads behind the call as it read before; the four listed variables are tied to the program's text. No condition.
-/
import Derived.Test.YtbpghohkhngdfaaGreatDoorWideLengthsO
import Derived.Test.YtbpghohkhngdfaaGreatDoorQ26
import Derived.Test.YtbpghohkhngdfaaGreatDoorQ25
import Derived.Test.YtbpghohkhngdfaaGreatDoorTie
import Derived.Test.YtbpghohkhngdfaaGreatDoorCards
import Derived.WalkKit
import Derived.ProofKit
import Derived.OpenShut
import Derived.ChangeOld
import Derived.Below
import Derived.LaidMore
import Derived.Lib.SmallJoins
import Derived.Stop.Joined
import Derived.SevenTiedAt
import Derived.JoinedOf
import Derived.ChangeArms
namespace Go.Proofs.YtbpghohkhngdfaaGreatDoor.wideLengths
open Go.ChangeShapes Go.WideShapes Go.ChangeAt Go.RowKit Go.Mem Go.Trn Go.Blake Go.Open
set_option linter.unusedVariables false

theorem proved : Rows.WideLengthsCardSaid :=
  Claim7.holds_tied_plain_at .later [] [.data, .data, .data, .data] true (true, "f6eab7525d14b2a34073508c1d4788de32348c5704d4f0411147ca4ec2fe212f") true
    over (fun _ h => by cases h) (by as_aux_lemma => kernel_rfl) (fun _ h => by cases h) wideLengths_row_tie rfl ⟨rfl, rfl⟩ (by as_aux_lemma => kernel_rfl) rfl
    (fun f fn hf hfn => by
      obtain rfl : f = 4 := Option.some.inj ((show Tryz.prog.funcNamed "wringer/wringerlaw21.WideLengths" = some 4 by kernel_rfl).symm.trans hf) |>.symm
      obtain rfl : fn = Tryz.f4 := (Option.some.inj (Tryz.func4.symm.trans hfn)).symm
      exact ⟨by as_aux_lemma => kernel_rfl, fun j t ht => by
        rw [Tryz.params4] at ht
        have hm : t ∈ [24] := by simpa using Array.mem_of_getElem? ht
        have hall : ([24].all fun u => !Tryz.prog.wantsStandIn u) = true := by as_aux_lemma => kernel_rfl
        exact (show Tryz.prog.wantsStandIn t = false by simpa using List.all_eq_true.1 hall t hm)⟩)
    (by as_aux_lemma => kernel_rfl)
#print axioms proved
end Go.Proofs.YtbpghohkhngdfaaGreatDoor.wideLengths
