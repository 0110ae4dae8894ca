/-
  The walk of ReelBack.
-/
import Derived.Test.YtmpgcilppjkhoaaGreatDoorReelP
import Derived.Test.YtmpgcilppjkhoaaGreatDoorRegionL
namespace Go.Proofs.YtmpgcilppjkhoaaGreatDoor
open Go.RowKit Go.Mem Go.Ops Go.Cells Go.Oct Go.Reel Go.Trn
set_option linter.unusedSimpArgs false
set_option linter.unusedVariables false
set_option maxRecDepth 100000
attribute [local irreducible] walkR

set_option maxHeartbeats 4000000 in
theorem same_ok (x y : Opr) (w : World) (hx : x.In w) (hy : y.In w) (h : x.c = y.c) :
    Calls Tryz.prog 16 #[.agg x.vals.toArray, .agg y.vals.toArray] w fun e w' => e = .returned (.bool true) ∧ Below w.heap.size w w' := by
  obtain ⟨c, ko, kc, bo, bc⟩ := x
  obtain ⟨c', ko', kc', bo', bc'⟩ := y
  simp only at h
  subst h
  have HX := Lib.hid hx
  have HY := Lib.hid hy
  clear hx hy
  go_enter Tryz.func16, Tryz.ntmps16
  go_wp2_with (refine wpList_box 39 _ (Opr.mk c ko kc bo bc).vals _ rfl rfl rfl rfl ?_)
  intro w1 hb1 hbel1
  have HB1 := Lib.hid hb1
  have HL := Lib.hid hbel1
  clear hb1 hbel1
  go_wp2_with (refine wpList_box 40 _ (Opr.mk c ko' kc' bo' bc').vals _ rfl rfl rfl rfl ?_)
  intro w2 hb2 hbel2
  have HB1 := Lib.hid (HB1.out.below hbel2 HB1.out.lt)
  have HL := Lib.hid (HL.out.trans (hbel2.mono HL.out.size))
  have a0 := HB1.out.cell 0 _ rfl
  have a1 := HB1.out.cell 1 _ rfl
  have a2 := HB1.out.cell 2 _ rfl
  have a3 := HB1.out.cell 3 _ rfl
  have a4 := HB1.out.cell 4 _ rfl
  have a5 := HB1.out.cell 5 _ rfl
  have a6 := HB1.out.cell 6 _ rfl
  have b0 := hb2.cell 0 _ rfl
  have b1 := hb2.cell 1 _ rfl
  have b2 := hb2.cell 2 _ rfl
  have b3 := hb2.cell 3 _ rfl
  have b4 := hb2.cell 4 _ rfl
  have b5 := hb2.cell 5 _ rfl
  have b6 := hb2.cell 6 _ rfl
  have F1 := string_ok w2 ko _ kc c.key rfl (HX.out.below HL.out).key
  have F2 := string_ok w2 ko' _ kc' c.key rfl (HY.out.below HL.out).key
  have F3 := string_ok w2 bo _ bc c.b rfl (HX.out.below HL.out).b
  have F4 := string_ok w2 bo' _ bc' c.b rfl (HY.out.below HL.out).b
  clear hb2 hbel2
  simp only at a0 a1 a2 a3 a4 a5 a6 b0 b1 b2 b3 b4 b5 b6 F1 F2 F3 F4
  generalize str c.key = s1 at *
  generalize str c.b = s2 at *
  generalize str c.name = s3 at *
  go_wp2
  go_ret
  exact ⟨rfl, HL.out⟩

theorem errP_kinds : ∀ l : List Cmd, errP l = 0 ∨ errP l = 21 ∨ errP l = 6
  | [] => .inl rfl
  | c :: r => by
    simp only [errP]
    split
    · exact errP_kinds r
    · unfold Cmd.err
      split
      · split
        · exact .inl rfl
        · exact .inr (.inr rfl)
      · exact .inr (.inl rfl)

theorem outP_short : ∀ l : List Cmd, (∀ c ∈ l, c.key.length ≤ 300 ∧ c.b.length ≤ 300 ∧ c.name.length ≤ 300) → (outP l).length ≤ l.length * 915
  | [], _ => by simp [outP]
  | c :: r, h => by
    have h1 := outP_short r (fun d hd => h d (List.mem_cons_of_mem _ hd))
    obtain ⟨a, b, d⟩ := h c (by simp)
    rw [outP_cons, List.length_append, c.bytes_length, List.length_cons, Nat.add_mul]
    omega

set_option maxHeartbeats 8000000 in
theorem back_law (ao : Option Addr) (n cap : Nat) (xs : List Opr) (w : World) (hn : xs.length = n) (hc : n ≤ cap) (hcm : cap ≤ maxLen) (hx : OpsIn w ao xs) (hg : Globals w) :
    Calls Tryz.prog 5 #[.slice ao n cap] w fun e w' => e = .returned (.bool true) ∧ Below w.heap.size w w' := by
  have HN := Lib.hid hn
  have HX := Lib.hid hx
  have HG := Lib.hid hg
  have HM := Lib.hid (Nat.le_trans hc hcm)
  clear hn hx hg hc hcm
  by_cases hs : smallB xs = true
  case neg =>
    have HS := Lib.hid (show smallB xs = false by simpa using hs)
    clear hs
    go_enter Tryz.func5, Tryz.ntmps5
    go_wp2_with fail
    refine (small_ok ao n cap xs _ HN.out HX.out HM.out).mono ?_
    rintro e w1 ⟨rfl, rfl⟩
    rw [HS.out]
    go_wp2
    go_ret
    exact ⟨rfl, Below.refl _ _⟩
  have HS := Lib.hid hs
  have hn20 : n ≤ 20 := by rw [← HN.out]; exact (smallB_yes hs).1
  have HMI := Lib.hid (mild_small hs)
  have hlen : (outP (xs.map (·.c))).length ≤ 18300 := by
    have := outP_short (xs.map (·.c)) (fun c hc => by
      obtain ⟨x, hx, rfl⟩ := List.mem_map.1 hc
      exact (smallB_yes hs).2 x hx)
    rw [List.length_map, HN.out] at this
    omega
  clear hs
  go_enter Tryz.func5, Tryz.ntmps5
  go_wp2_with fail
  refine (small_ok ao n cap xs _ HN.out HX.out HM.out).mono ?_
  rintro e w1 ⟨rfl, rfl⟩
  rw [HS.out]
  go_wp2_with fail
  refine (ops_ok ao n cap xs _ HN.out HX.out (by omega)).mono ?_
  rintro e w2 ⟨v2, rfl, hown2, hbel2⟩
  obtain ⟨a2, cap2, rfl, _, _, _⟩ := own_form hown2
  have HO2 := Lib.hid (ops_of_own hown2 (fun y hy => (HX.out.each y hy).below hbel2))
  have HB := Lib.hid hbel2
  clear hown2 hbel2
  go_wp2_with fail
  refine (write_ok a2 n cap2 xs _ HN.out HO2.out (by omega) HMI.out).mono ?_
  rintro e w3 ⟨v3, rfl, hok3, hno3, hbel3⟩
  have HB := Lib.hid (HB.out.trans (hbel3.mono HB.out.size))
  by_cases herr : errP (xs.map (·.c)) = 0
  case neg =>
    obtain rfl := hno3 herr
    have hne : (((errP (xs.map (·.c)) : Nat) : Int) != 0) = true := by simp; omega
    have hk := errP_kinds (xs.map (·.c))
    have HK := Lib.hid hk
    clear hok3 hno3 hbel3 HO2 hlen
    generalize errP (xs.map (·.c)) = k at *
    rcases hk with hk | rfl | rfl
    · exact absurd hk herr
    all_goals
      go_wp2_with fail
      refine (awake_ok _ (HG.out.below HB.out)).mono ?_
      rintro e w5 ⟨rfl, hbel5⟩
      have HB := Lib.hid (HB.out.trans (hbel5.mono HB.out.size))
      clear hbel5
      go_wp2
      go_ret
      exact ⟨rfl, HB.out⟩
  have hparse := parse_out (xs.map (·.c)) herr
  obtain ⟨a3, c3, rfl, hc3, hm3, hl3⟩ := (hok3 herr).form
  have HL3 := Lib.hid hl3
  have HP := Lib.hid hparse
  rw [herr]
  clear hok3 hno3 hbel3 HO2 hl3 hparse herr
  generalize outP (xs.map (·.c)) = out at *
  go_wp2_with fail
  refine (read_walk a3 out.length c3 out _ rfl hc3 hm3 (by omega) HL3.out).mono ?_
  rintro e w4 ⟨_, hsome, hbel4⟩
  obtain ⟨v4, ys, rfl, hys, hown4, hnew4⟩ := hsome _ HP.out
  obtain ⟨a4, cap4, rfl, _, _, _⟩ := own_form hown4
  have hyl : ys.length = n := by have := congrArg List.length hys; rw [List.length_map, List.length_map, HN.out] at this; exact this
  have HY := Lib.hid (ops_of_own hown4 (fun y hy => (hnew4 y hy).in))
  have HYL := Lib.hid hyl
  have HYS := Lib.hid hys
  have HB := Lib.hid (HB.out.trans (hbel4.mono HB.out.size))
  rw [hyl]
  clear hsome hown4 hnew4 hyl hys hbel4 HL3 HP hc3 hm3
  go_wp2
  go_loopw [7] (fun c wr => ∃ j : Nat, j ≤ n ∧ c = .int .i64 j ∧ Hid (Below w4.heap.size w4 wr)) (fun c _ => n - (intOf c).toNat)
  case atStart => exact ⟨0, by omega, rfl, Below.refl _ _⟩
  case round =>
    obtain ⟨j, hj, rfl, HB4⟩ := hrel
    have HBW := Lib.hid (HB.out.trans (HB4.out.mono HB.out.size))
    by_cases hlt : j < n
    · obtain ⟨x, hget⟩ : ∃ x, xs[j]? = some x := ⟨xs[j]'(by rw [HN.out]; exact hlt), by simp⟩
      obtain ⟨y, hgety⟩ : ∃ y, ys[j]? = some y := ⟨ys[j]'(by rw [HYL.out]; exact hlt), by simp⟩
      have HC := Lib.hid (show y.c = x.c by
        have h1 : (ys.map (·.c))[j]? = some y.c := by rw [List.getElem?_map, hgety]; rfl
        rw [HYS.out, List.getElem?_map, hget] at h1
        exact (Option.some.inj h1).symm)
      obtain ⟨hin, xb, xoff, rfl, hxb, hr⟩ := (HX.out.below HBW.out).at hget
      obtain ⟨hiny, yb, yoff, rfl, hyb, hry⟩ := (HY.out.below HB4.out).at hgety
      have HR := Lib.hid hr
      have HRY := Lib.hid hry
      have HIN := Lib.hid hin
      have HINY := Lib.hid hiny
      have HL7 := Lib.hid x.vals_length
      have HL8 := Lib.hid y.vals_length
      clear hget hgety hin hiny hr hry
      go_wp2_with fail
      refine wp_region_R [0, 1, 2, 3, 4, 5, 6, 7, 8, 9] (by kernel_rfl) (by kernel_rfl) ?_
      rintro wA rfl
      (refine walkR_one rfl rfl (fun K hK => ?_); go_big_quiet_step (fail); refine wpQuiet_nil (hK _ ?_); clear hK K); (refine walkR_one rfl rfl (fun K hK => ?_); go_big_quiet_step (fail); refine wpQuiet_nil (hK _ ?_); clear hK K); (refine walkR_one rfl rfl (fun K hK => ?_); go_big_quiet_step (fail); refine wpQuiet_nil (hK _ ?_); clear hK K)
      refine walkR_load (w := wr.drew) (show wr.drew.rangeAt _ _ _ from HRY.out) hyb Tryz.rowOp HL8.out rfl rfl rfl rfl (fun K hK => ?_)
      go_simp; refine hK _ ?_; clear hK K
      (refine walkR_one rfl rfl (fun K hK => ?_); go_big_quiet_step (fail); refine wpQuiet_nil (hK _ ?_); clear hK K); (refine walkR_one rfl rfl (fun K hK => ?_); go_big_quiet_step (fail); refine wpQuiet_nil (hK _ ?_); clear hK K); (refine walkR_one rfl rfl (fun K hK => ?_); go_big_quiet_step (fail); refine wpQuiet_nil (hK _ ?_); clear hK K)
      refine walkR_load (w := wr.drew) (show wr.drew.rangeAt _ _ _ from HR.out) hxb Tryz.rowROp HL7.out rfl rfl rfl rfl (fun K hK => ?_)
      go_simp; refine hK _ ?_; clear hK K
      refine walkR_call rfl rfl (by rfl) (fun K hK => ?_)
      go_simp
      refine (same_ok y x _ (HINY.out.below (Below.refl _ wr).drew) (HIN.out.below (Below.refl _ wr).drew) HC.out).mono ?_
      rintro e w5 ⟨rfl, hbel5⟩
      have HB5 := Lib.hid (HB4.out.trans (((Below.refl wr.heap.size wr).drew.trans hbel5).mono HB4.out.size))
      go_simp
      refine hK _ _ hbel5 ?_
      clear hK K hbel5
      repeat (refine walkR_one rfl rfl (fun K hK => ?_); go_big_quiet_step (fail); refine wpQuiet_nil (hK _ ?_); clear hK K)
      refine walkR_nil ?_
      go_wp2
      go_roundw
      case rel => exact ⟨j + 1, by omega, by go_num, HB5⟩
      case measure => simp [intOf]; omega
    · obtain rfl : j = n := by omega
      go_wp2_with fail
      refine (awake_ok _ (HG.out.below HBW.out)).mono ?_
      rintro e w5 ⟨rfl, hbel5⟩
      have HB5 := Lib.hid (HBW.out.trans (hbel5.mono HBW.out.size))
      clear hbel5
      go_wp2
      go_ret
      exact ⟨rfl, HB5.out⟩

end Go.Proofs.YtmpgcilppjkhoaaGreatDoor
