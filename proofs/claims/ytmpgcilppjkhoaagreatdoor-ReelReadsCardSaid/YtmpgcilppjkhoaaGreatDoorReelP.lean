/-
  The walk of ReelWrites.
-/
import Derived.Test.YtmpgcilppjkhoaaGreatDoorReelN
namespace Go.Proofs.YtmpgcilppjkhoaaGreatDoor
open Go.RowKit Go.Mem Go.Ops Go.Cells Go.Oct Go.Reel Go.Trn
set_option linter.unusedSimpArgs false
set_option linter.unusedVariables false
set_option maxRecDepth 100000

theorem mild_small {xs : List Opr} (h : smallB xs = true) : ∀ x ∈ xs, Mild x.c := fun x hx => by
  obtain ⟨a, b, c⟩ := (smallB_yes h).2 x hx
  exact ⟨by omega, by omega, by omega⟩

set_option maxHeartbeats 4000000 in
theorem writes_law (ao : Option Addr) (n cap : Nat) (xs : List Opr) (w : World) (hn : xs.length = n) (hc : n ≤ cap) (hcm : cap ≤ maxLen) (hx : OpsIn w ao xs) (hg : Globals w) :
    Calls Tryz.prog 3 #[.slice ao n cap] w fun e w' => e = .returned (.bool true) ∧ Below w.heap.size w w' := by
  have HN := Lib.hid hn
  have HX := Lib.hid hx
  have HG := Lib.hid hg
  have HM := Lib.hid (Nat.le_trans hc hcm)
  clear hn hx hg hc hcm
  by_cases hs : smallB xs = true
  case neg =>
    have HS := Lib.hid (show smallB xs = false by simpa using hs)
    clear hs
    go_enter Tryz.func3, Tryz.ntmps3
    go_wp2_with fail
    refine (small_ok ao n cap xs _ HN.out HX.out HM.out).mono ?_
    rintro e w1 ⟨rfl, rfl⟩
    rw [HS.out]
    go_wp2
    go_ret
    exact ⟨rfl, Below.refl _ _⟩
  have HS := Lib.hid hs
  have hn20 : n ≤ 20 := by rw [← HN.out]; exact (smallB_yes hs).1
  have HMI := Lib.hid (mild_small hs)
  clear hs
  go_enter Tryz.func3, Tryz.ntmps3
  go_wp2_with fail
  refine (small_ok ao n cap xs _ HN.out HX.out HM.out).mono ?_
  rintro e w1 ⟨rfl, rfl⟩
  rw [HS.out]
  go_wp2_with fail
  refine (ops_ok ao n cap xs _ HN.out HX.out (by omega)).mono ?_
  rintro e w2 ⟨v2, rfl, hown2, hbel2⟩
  obtain ⟨a2, cap2, rfl, _, _, _⟩ := own_form hown2
  have HO2 := Lib.hid (ops_of_own hown2 (fun y hy => (HX.out.each y hy).below hbel2))
  have HB := Lib.hid hbel2
  clear hown2 hbel2
  go_wp2_with fail
  refine (write_ok a2 n cap2 xs _ HN.out HO2.out (by omega) HMI.out).mono ?_
  rintro e w3 ⟨v3, rfl, hok3, hno3, hbel3⟩
  have HB := Lib.hid (HB.out.trans (hbel3.mono HB.out.size))
  have HOK3 := Lib.hid hok3
  have HNO3 := Lib.hid hno3
  clear hok3 hno3 hbel3 HO2
  go_wp2_with fail
  refine (refwrite_ok ao n cap xs _ HN.out (HX.out.below HB.out) (by omega) HMI.out).mono ?_
  rintro e w4 ⟨v4, rfl, hok4, hno4, hbel4⟩
  have HOK3 := Lib.hid (fun h => (HOK3.out h).later hbel4)
  have HOK4 := Lib.hid hok4
  have HNO4 := Lib.hid hno4
  have HB := Lib.hid (HB.out.trans (hbel4.mono HB.out.size))
  clear hok4 hno4 hbel4
  generalize errP (xs.map (·.c)) = k at *
  generalize outP (xs.map (·.c)) = out at *
  obtain ⟨s, F3, F4⟩ : ∃ s, (convert 24 9 v3).run Tryz.prog w4 = .ok (.string s) w4 ∧ (convert 24 9 v4).run Tryz.prog w4 = .ok (.string s) w4 := by
    by_cases hk : k = 0
    · obtain ⟨a3, c3, rfl, _, _, l3⟩ := (HOK3.out hk).form
      obtain ⟨a4, c4, rfl, _, _, l4⟩ := (HOK4.out hk).form
      exact ⟨str out, string_ok w4 a3 _ c3 out rfl l3, string_ok w4 a4 _ c4 out rfl l4⟩
    · rw [HNO3.out hk, HNO4.out hk]
      exact ⟨str [], string_ok w4 none 0 0 [] rfl (Lies.nil _ _), string_ok w4 none 0 0 [] rfl (Lies.nil _ _)⟩
  clear HOK3 HOK4 HNO3 HNO4
  go_wp2_with fail
  refine (awake_ok _ (HG.out.below HB.out)).mono ?_
  rintro e w5 ⟨rfl, hbel5⟩
  have HB := Lib.hid (HB.out.trans (hbel5.mono HB.out.size))
  clear hbel5 F3 F4
  go_wp2
  go_ret
  exact ⟨rfl, HB.out⟩

end Go.Proofs.YtmpgcilppjkhoaaGreatDoor
