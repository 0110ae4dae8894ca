/-
  The walk of ReelReads.
-/
import Derived.Test.YtmpgcilppjkhoaaGreatDoorReelR
import Derived.Test.YtmpgcilppjkhoaaGreatDoorReelX
namespace Go.Proofs.YtmpgcilppjkhoaaGreatDoor
open Go.RowKit Go.Mem Go.Ops Go.Cells Go.Oct Go.Reel Go.Trn
set_option linter.unusedSimpArgs false
set_option linter.unusedVariables false
set_option maxRecDepth 100000
attribute [local irreducible] walkR

theorem refops_of_own {w : World} {base n : Nat} {ao : Option Addr} {cap : Nat} {xs : List Opr} (h : w.ownsRow base 40 7 (.slice ao n cap) n (opsV xs)) (he : ∀ x ∈ xs, x.In w) : OpsIn w ao xs :=
  ⟨⟨by intro v hv; obtain ⟨x, _, rfl⟩ := List.mem_map.1 hv; exact x.vals_length, Lies.of_own h⟩, he⟩

set_option maxHeartbeats 8000000 in
theorem reads_law (ao : Option Addr) (n cap : Nat) (bs : List UInt8) (w : World) (hn : bs.length = n) (hc : n ≤ cap) (hcm : cap ≤ maxLen) (hl : Lies w ao (bs.map B)) (hg : Globals w) :
    Calls Tryz.prog 4 #[.slice ao n cap] w fun e w' => e = .returned (.bool true) ∧ Below w.heap.size w w' := by
  have HL := Lib.hid hl
  have HN := Lib.hid hn
  have HG := Lib.hid hg
  have HCM := Lib.hid hcm
  have HC := Lib.hid hc
  clear hl hn hg hcm hc
  by_cases hbig : n > 1000
  · have ht : decide ((n : Int) > 1000) = true := by simp; omega
    go_enter Tryz.func4, Tryz.ntmps4
    go_wp2
    go_ret
    exact ⟨rfl, Below.refl _ _⟩
  have ht : decide ((n : Int) > 1000) = false := by simp; omega
  go_enter Tryz.func4, Tryz.ntmps4
  go_wp2_with fail
  refine (read_walk ao n cap bs _ HN.out HC.out HCM.out (by omega) HL.out).mono ?_
  rintro e w1 ⟨hnone, hsome, hbel1⟩
  cases hp : parse bs with
  | none =>
    obtain rfl := hnone hp
    have HB := Lib.hid hbel1
    have HP := Lib.hid hp
    clear hnone hsome hp hbel1
    go_wp2_with fail
    refine (refread_ok ao n cap bs _ HN.out HC.out (by omega) (HL.out.below HB.out)).mono ?_
    rintro e w2 ⟨hnone, _, hbel2⟩
    obtain rfl := hnone HP.out
    have HB := Lib.hid (HB.out.trans (hbel2.mono HB.out.size))
    clear hnone hbel2
    go_wp2_with fail
    refine (awake_ok _ (HG.out.below HB.out)).mono ?_
    rintro e w3 ⟨rfl, hbel3⟩
    have HB := Lib.hid (HB.out.trans (hbel3.mono HB.out.size))
    clear hbel3
    go_wp2
    go_ret
    exact ⟨rfl, HB.out⟩
  | some l =>
    obtain ⟨v, ys, rfl, hys, hown, hnew⟩ := hsome l hp
    obtain ⟨a4, cap4, rfl, _, hm4, _⟩ := own_form hown
    have HY := Lib.hid (ops_of_own hown (fun y hy => (hnew y hy).in))
    have HB := Lib.hid hbel1
    have HP := Lib.hid hp
    have hlen4 : ys.length ≤ 9223372036854775807 := by unfold maxLen at hm4; omega
    clear hnone hsome hp hbel1 hown hnew hm4
    go_wp2_with fail
    refine (refread_ok ao n cap bs _ HN.out HC.out (by omega) (HL.out.below HB.out)).mono ?_
    rintro e w2 ⟨_, hsome, hbel2⟩
    obtain ⟨v2, xs, rfl, hxs, hown, hnew⟩ := hsome l HP.out
    obtain ⟨a5, cap5, rfl, _, _, _⟩ := own_form hown
    have HX := Lib.hid (refops_of_own hown (fun y hy => (hnew y hy).in))
    have HY := Lib.hid (HY.out.below hbel2)
    have HB := Lib.hid (HB.out.trans (hbel2.mono HB.out.size))
    have hxl : xs.length = ys.length := by
      have h1 := congrArg List.length hxs
      have h2 := congrArg List.length hys
      rw [List.length_map] at h1 h2
      omega
    have HYS := Lib.hid (hys.trans hxs.symm)
    have HXL := Lib.hid hxl
    rw [hxl]
    clear hsome hown hnew hbel2 hys hxs hxl HP
    generalize hm : ys.length = m at *
    have HYL := Lib.hid hm
    clear hm
    go_wp2
    go_loopw [7] (fun c wr => ∃ j : Nat, j ≤ m ∧ c = .int .i64 j ∧ Hid (Below w2.heap.size w2 wr)) (fun c _ => m - (intOf c).toNat)
    case atStart => exact ⟨0, by omega, rfl, Below.refl _ _⟩
    case round =>
      obtain ⟨j, hj, rfl, HB4⟩ := hrel
      have HBW := Lib.hid (HB.out.trans (HB4.out.mono HB.out.size))
      by_cases hlt : j < m
      · obtain ⟨x, hget⟩ : ∃ x, xs[j]? = some x := ⟨xs[j]'(by rw [HXL.out]; exact hlt), by simp⟩
        obtain ⟨y, hgety⟩ : ∃ y, ys[j]? = some y := ⟨ys[j]'(by rw [HYL.out]; exact hlt), by simp⟩
        have HC2 := Lib.hid (show y.c = x.c by
          have h1 : (ys.map Opr.c)[j]? = some y.c := by rw [List.getElem?_map, hgety]; rfl
          rw [show ys.map Opr.c = xs.map Opr.c from HYS.out, List.getElem?_map, hget] at h1
          exact (Option.some.inj h1).symm)
        obtain ⟨hin, xb, xoff, rfl, hxb, hr⟩ := (HX.out.below HB4.out).at hget
        obtain ⟨hiny, yb, yoff, rfl, hyb, hry⟩ := (HY.out.below HB4.out).at hgety
        have HR := Lib.hid hr
        have HRY := Lib.hid hry
        have HIN := Lib.hid hin
        have HINY := Lib.hid hiny
        have HL7 := Lib.hid x.vals_length
        have HL8 := Lib.hid y.vals_length
        clear hget hgety hin hiny hr hry
        go_wp2_with fail
        refine wp_region_R [0, 1, 2, 3, 4, 5, 6, 7, 8, 9] (by kernel_rfl) (by kernel_rfl) ?_
        rintro wA rfl
        (refine walkR_one rfl rfl (fun K hK => ?_); go_big_quiet_step (fail); refine wpQuiet_nil (hK _ ?_); clear hK K); (refine walkR_one rfl rfl (fun K hK => ?_); go_big_quiet_step (fail); refine wpQuiet_nil (hK _ ?_); clear hK K); (refine walkR_one rfl rfl (fun K hK => ?_); go_big_quiet_step (fail); refine wpQuiet_nil (hK _ ?_); clear hK K)
        refine walkR_load (w := wr.drew) (show wr.drew.rangeAt _ _ _ from HRY.out) hyb Tryz.rowOp HL8.out rfl rfl rfl rfl (fun K hK => ?_)
        go_simp; refine hK _ ?_; clear hK K
        (refine walkR_one rfl rfl (fun K hK => ?_); go_big_quiet_step (fail); refine wpQuiet_nil (hK _ ?_); clear hK K); (refine walkR_one rfl rfl (fun K hK => ?_); go_big_quiet_step (fail); refine wpQuiet_nil (hK _ ?_); clear hK K); (refine walkR_one rfl rfl (fun K hK => ?_); go_big_quiet_step (fail); refine wpQuiet_nil (hK _ ?_); clear hK K)
        refine walkR_load (w := wr.drew) (show wr.drew.rangeAt _ _ _ from HR.out) hxb Tryz.rowROp HL7.out rfl rfl rfl rfl (fun K hK => ?_)
        go_simp; refine hK _ ?_; clear hK K
        refine walkR_call rfl rfl (by rfl) (fun K hK => ?_)
        go_simp
        refine (same_ok y x _ (HINY.out.below (Below.refl _ wr).drew) (HIN.out.below (Below.refl _ wr).drew) HC2.out).mono ?_
        rintro e w5 ⟨rfl, hbel5⟩
        have HB5 := Lib.hid (HB4.out.trans (((Below.refl wr.heap.size wr).drew.trans hbel5).mono HB4.out.size))
        go_simp
        refine hK _ _ hbel5 ?_
        clear hK K hbel5
        repeat (refine walkR_one rfl rfl (fun K hK => ?_); go_big_quiet_step (fail); refine wpQuiet_nil (hK _ ?_); clear hK K)
        refine walkR_nil ?_
        go_wp2
        go_roundw
        case rel => exact ⟨j + 1, by omega, by go_num, HB5⟩
        case measure => simp [intOf]; omega
      · obtain rfl : j = m := by omega
        go_wp2_with fail
        refine (awake_ok _ (HG.out.below HBW.out)).mono ?_
        rintro e w5 ⟨rfl, hbel5⟩
        have HB5 := Lib.hid (HBW.out.trans (hbel5.mono HBW.out.size))
        clear hbel5
        go_wp2
        go_ret
        exact ⟨rfl, HB5.out⟩

end Go.Proofs.YtmpgcilppjkhoaaGreatDoor
