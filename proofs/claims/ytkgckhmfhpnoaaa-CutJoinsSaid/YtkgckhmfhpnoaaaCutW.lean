/-
  The walks of the laws on joined half bytes.
-/
import Derived.Test.YtkgckhmfhpnoaaaCutR
import Derived.Test.YtkgckhmfhpnoaaaCutS
import Derived.Test.YtkgckhmfhpnoaaaCutV
import Derived.ProofKit
import Derived.Deep.RegionWith
namespace Go.Proofs.Ytkgckhmfhpnoaaa
open Go.RowKit Go.Fl Go.Mem Go.Ops Go.CutP
set_option linter.unusedSimpArgs false

set_option maxHeartbeats 1000000 in
theorem joins_law (ao : Option Addr) (len cap : Nat) (bs : List UInt8) (w : World) (hlen : bs.length = len) (hmax : cap ≤ maxLen) (hlc : len ≤ cap) (hl : Lies w ao (bs.map B)) :
    Calls Try.prog 6 #[.slice ao len cap] w fun e w' => e = .returned (.bool true) ∧ Below w.heap.size w w' := by
  have hm : len ≤ 9223372036854775807 := by unfold maxLen at hmax; omega
  by_cases h200 : 200 < len
  · clear hlen hl hmax hlc
    go_enter Try.func6, Try.ntmps6
    go_wp2
    go_ret
    exact ⟨rfl, Below.refl _ _⟩
  · have HL := Lib.hid hl
    have HLEN := Lib.hid hlen
    have HJ := Lib.hid (joinL_length bs)
    clear hl hlen hmax hlc
    go_enter Try.func6, Try.ntmps6
    go_wp2_with fail
    go_region_with (first
      | (go_at_call 14; refine (join_ok _ _ _ bs _ HLEN.out (by omega) (HL.out.below (Below.refl _ _).drew)).mono ?_; rintro e w1 ⟨v1, rfl, hown1, hbel1⟩; obtain ⟨ao1, cap1, rfl, _, _, hl1⟩ := own_form hown1
         have hst1 := fun (w' : World) (hb : Below w1.heap.size w1 w') => run_string (P := Try.prog) w' 39 9 5 Try.underlying39 Try.underlying5 Try.underlying9 ao1 ((len + 1) / 2) cap1 (joinL bs) (by rw [HJ.out, HLEN.out]) (hl1.below hb)
         have hb11 := Below.refl w1.heap.size w1
         have hbw1 : Below w.heap.size w w1 := ((Below.refl w.heap.size w).drew).trans hbel1
         clear hown1 hbel1)
      | (go_at_call 15; refine (refjoin_ok _ _ _ bs _ HLEN.out (by omega) (HL.out.below hbw1)).mono ?_; rintro e w2 ⟨v2, rfl, hown2, hbel2⟩; obtain ⟨ao2, cap2, rfl, _, _, hl2⟩ := own_form hown2
         have hst2 := fun (w' : World) (hb : Below w2.heap.size w2 w') => run_string (P := Try.prog) w' 39 9 5 Try.underlying39 Try.underlying5 Try.underlying9 ao2 ((len + 1) / 2) cap2 (joinL bs) (by rw [HJ.out, HLEN.out]) (hl2.below hb)
         have hb22 := Below.refl w2.heap.size w2
         have hbw2 : Below w.heap.size w w2 := hbw1.trans (hbel2.mono hbw1.size)
         clear hown2)
      | (go_at_call 13; refine (awake_any _).mono ?_; rintro e w3 ⟨rfl, hbel3⟩))
    all_goals
      go_wp2
      go_ret
      exact ⟨rfl, hbw2.trans (hbel3.mono hbw2.size)⟩

end Go.Proofs.Ytkgckhmfhpnoaaa
