/-
  VolumeCorrupt: for every input the call returns true, and each argument reads behind the call as it read before; the four listed variables are tied to the program's text. No condition.
-/
import Derived.Test.YtjaioajjfiaheaaGreatDoorVolumeCorruptO
import Derived.Test.YtjaioajjfiaheaaGreatDoorV33
import Derived.Test.YtjaioajjfiaheaaGreatDoorV27
import Derived.Test.YtjaioajjfiaheaaGreatDoorTie
import Derived.Test.YtjaioajjfiaheaaGreatDoorCards
import Derived.WalkKit
import Derived.ProofKit
import Derived.OpenShut
import Derived.ChangeOld
import Derived.Below
import Derived.LaidMore
import Derived.Lib.SmallJoins
import Derived.Stop.Joined
import Derived.SevenTiedAt
import Derived.JoinedOf
import Derived.ChangeArms
namespace Go.Proofs.YtjaioajjfiaheaaGreatDoor.volumeCorrupt
open Go.ChangeShapes Go.WideShapes Go.ChangeAt Go.RowKit Go.Mem Go.Trn Go.Blake Go.Open
set_option linter.unusedVariables false

theorem proved : Rows.VolumeCorruptCardSaid :=
  Claim7.holds_tied_plain_at .later [] [.data, .data, .data, .data] true (true, "96e372c02552cfcf37b027de661cfc5d5c9384a72ff3b5278bf2ec27bde661ab") true
    over (fun _ h => by cases h) (by as_aux_lemma => kernel_rfl) (fun _ h => by cases h) volumeCorrupt_row_tie rfl ⟨rfl, rfl⟩ (by as_aux_lemma => kernel_rfl) rfl
    (fun f fn hf hfn => by
      obtain rfl : f = 11 := Option.some.inj ((show Tryz.prog.funcNamed "wringer/wringerlaw25.VolumeCorrupt" = some 11 by kernel_rfl).symm.trans hf) |>.symm
      obtain rfl : fn = Tryz.f11 := (Option.some.inj (Tryz.func11.symm.trans hfn)).symm
      exact ⟨by as_aux_lemma => kernel_rfl, fun j t ht => by
        rw [Tryz.params11] at ht
        have hm : t ∈ [47, 63, 5] := by simpa using Array.mem_of_getElem? ht
        have hall : ([47, 63, 5].all fun u => !Tryz.prog.wantsStandIn u) = true := by as_aux_lemma => kernel_rfl
        exact (show Tryz.prog.wantsStandIn t = false by simpa using List.all_eq_true.1 hall t hm)⟩)
    (by as_aux_lemma => kernel_rfl)
#print axioms proved
end Go.Proofs.YtjaioajjfiaheaaGreatDoor.volumeCorrupt
