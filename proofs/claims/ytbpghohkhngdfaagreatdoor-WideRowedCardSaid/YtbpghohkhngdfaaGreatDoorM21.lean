/-
  Texts of this claim, one behind the other: EzcH.
-/
import Derived.Test.YtbpghohkhngdfaaGreatDoorM19
/-
  The walk of ezcore.Turn, deciphering.
-/
set_option linter.unusedSimpArgs false
set_option linter.unusedVariables false
namespace Go.Proofs.YtbpghohkhngdfaaGreatDoor
open Go.RowKit Go.Mem Go.Ops Go.Cells Go.Oct Go.Gf Go.Trn Go.Aes Go.Ring Go.Ezk Go.Ezh Go.Ezt Go.Ezc Go.CutP Go.Fl
set_option maxRecDepth 100000
attribute [local irreducible] walkR walkP walk0 walkB walkK walkM

set_option maxHeartbeats 16000000 in
theorem cturn_b (kp q p : Nat) (k : Parts) (ao : Option Addr) (N cap : Nat) (ss : List Str) (bo : Option Addr) (n cb : Nat) (m : List UInt8) (w : World) (hk : EKey w kp q p k) (hN : ss.length = N) (hN1 : N ≤ 500) (hs : StrsIn w ao ss) (hlen : ∀ s ∈ ss, s.bs.length ≤ 10000)
    (hn : m.length = n) (h32 : 32 ≤ n) (hnb : n ≤ 20000) (hc : n ≤ cb) (hl : Lies w bo (m.map B)) :
    Calls Tryz.prog 79 #[.pointer (some ⟨kp, 0, none⟩), .slice ao N cap, .slice bo n cb, .bool true] w fun e w' => ∃ v, e = .returned (.tuple #[v, .int .i64 0]) ∧ w'.ownsRow w.heap.size 5 1 v n ((turnC k (rowOf ss) m true).map B) ∧ Below w.heap.size w w' := by
  have hfit := apart_fit (m := m) (by omega)
  have hpl : (apartC m).pairs.length ≤ 900 := by
    have := bytes_length hfit
    rw [bytes_apart (by omega), hn] at this
    omega
  have HK := Lib.hid hk
  have HNN := Lib.hid hN
  have HSS := Lib.hid hs
  have HLEN := Lib.hid hlen
  have HN := Lib.hid hn
  have HL := Lib.hid hl
  have HS := Lib.hid (St.start w)
  have HRL := Lib.hid (show (turnC k (rowOf ss) m true).length = n by rw [turnC_length _ _ _ _ (by omega)]; exact hn)
  have d1 : decide ((n : Int) < 32) = false := by simp; omega
  obtain ⟨nu, hnu⟩ : ∃ x, x = (apartC m).u.length := ⟨_, rfl⟩
  obtain ⟨nv, hnv⟩ : ∃ x, x = (apartC m).v.length := ⟨_, rfl⟩
  obtain ⟨H, hH⟩ : ∃ x, x = hashH k (rowOf ss) := ⟨_, rfl⟩
  obtain ⟨ps, hps⟩ : ∃ x, x = (apartC m).pairs := ⟨_, rfl⟩
  obtain ⟨u, hu⟩ : ∃ x, x = (apartC m).u := ⟨_, rfl⟩
  obtain ⟨v, hv⟩ : ∃ x, x = (apartC m).v := ⟨_, rfl⟩
  obtain ⟨X, hX⟩ : ∃ x, x = (apartC m).x := ⟨_, rfl⟩
  obtain ⟨Y, hY⟩ : ∃ x, x = (apartC m).y := ⟨_, rfl⟩
  obtain ⟨AH, hAH⟩ : ∃ x, x = aheadS k 0 (zeros 16) ps := ⟨_, rfl⟩
  obtain ⟨p1, hp1⟩ : ∃ x, x = aheadP k 0 ps := ⟨_, rfl⟩
  obtain ⟨TL, hTL⟩ : ∃ x, x = tailC k u v := ⟨_, rfl⟩
  obtain ⟨Pm, hPm⟩ : ∃ x, x = plusB [AH, TL] := ⟨_, rfl⟩
  obtain ⟨EA, hEA⟩ : ∃ x, x = eBlk k 0 2 Y := ⟨_, rfl⟩
  obtain ⟨Sm, hSm⟩ : ∃ x, x = plusB [X, H, Pm, EA] := ⟨_, rfl⟩
  obtain ⟨ES, hES⟩ : ∃ x, x = eTen k 2 Sm := ⟨_, rfl⟩
  obtain ⟨Tm, hTm⟩ : ∃ x, x = plusB [Y, ES] := ⟨_, rfl⟩
  obtain ⟨Z, hZ⟩ : ∃ x, x = plusB [Sm, Tm] := ⟨_, rfl⟩
  obtain ⟨EU, hEU⟩ : ∃ x, x = eTen k 4 Z := ⟨_, rfl⟩
  obtain ⟨EV, hEV⟩ : ∃ x, x = eTen k 5 Z := ⟨_, rfl⟩
  obtain ⟨u', hu'⟩ : ∃ x, x = xorL u EU := ⟨_, rfl⟩
  obtain ⟨v', hv'⟩ : ∃ x, x = xorL v EV := ⟨_, rfl⟩
  obtain ⟨BS, hBS⟩ : ∃ x, x = behindS k Z 0 (zeros 16) p1 := ⟨_, rfl⟩
  obtain ⟨p2, hp2⟩ : ∃ x, x = behindP k Z 0 p1 := ⟨_, rfl⟩
  obtain ⟨TL2, hTL2⟩ : ∃ x, x = tailC k u' v' := ⟨_, rfl⟩
  obtain ⟨Qm, hQm⟩ : ∃ x, x = plusB [BS, TL2] := ⟨_, rfl⟩
  obtain ⟨ET, hET⟩ : ∃ x, x = eTen k 1 Tm := ⟨_, rfl⟩
  obtain ⟨Y', hY'⟩ : ∃ x, x = plusB [Sm, ET] := ⟨_, rfl⟩
  obtain ⟨EY, hEY⟩ : ∃ x, x = eBlk k 0 1 Y' := ⟨_, rfl⟩
  obtain ⟨X', hX'⟩ : ∃ x, x = plusB [Tm, H, Qm, EY] := ⟨_, rfl⟩
  obtain ⟨Rr, hRr⟩ : ∃ x, x = turnC k (rowOf ss) m true := ⟨_, rfl⟩
  have E_H := Lib.hid (show hashH k (rowOf ss) = H ∧ True from ⟨hH.symm, trivial⟩)
  have E_AH := Lib.hid (show aheadS k 0 (zeros 16) ps = AH ∧ True from ⟨hAH.symm, trivial⟩)
  have E_TL := Lib.hid (show tailC k u v = TL ∧ True from ⟨hTL.symm, trivial⟩)
  have E_Pm := Lib.hid (show plusB [AH, TL] = Pm ∧ True from ⟨hPm.symm, trivial⟩)
  have E_EA := Lib.hid (show eBlk k 0 2 Y = EA ∧ True from ⟨hEA.symm, trivial⟩)
  have E_Sm := Lib.hid (show plusB [X, H, Pm, EA] = Sm ∧ True from ⟨hSm.symm, trivial⟩)
  have E_ES := Lib.hid (show eTen k 2 Sm = ES ∧ True from ⟨hES.symm, trivial⟩)
  have E_Tm := Lib.hid (show plusB [Y, ES] = Tm ∧ True from ⟨hTm.symm, trivial⟩)
  have E_Z := Lib.hid (show plusB [Sm, Tm] = Z ∧ True from ⟨hZ.symm, trivial⟩)
  have E_EU := Lib.hid (show eTen k 4 Z = EU ∧ True from ⟨hEU.symm, trivial⟩)
  have E_EV := Lib.hid (show eTen k 5 Z = EV ∧ True from ⟨hEV.symm, trivial⟩)
  have E_u' := Lib.hid (show xorL u EU = u' ∧ True from ⟨hu'.symm, trivial⟩)
  have E_v' := Lib.hid (show xorL v EV = v' ∧ True from ⟨hv'.symm, trivial⟩)
  have E_BS := Lib.hid (show behindS k Z 0 (zeros 16) p1 = BS ∧ True from ⟨hBS.symm, trivial⟩)
  have E_TL2 := Lib.hid (show tailC k u' v' = TL2 ∧ True from ⟨hTL2.symm, trivial⟩)
  have E_Qm := Lib.hid (show plusB [BS, TL2] = Qm ∧ True from ⟨hQm.symm, trivial⟩)
  have E_ET := Lib.hid (show eTen k 1 Tm = ET ∧ True from ⟨hET.symm, trivial⟩)
  have E_Y' := Lib.hid (show plusB [Sm, ET] = Y' ∧ True from ⟨hY'.symm, trivial⟩)
  have E_EY := Lib.hid (show eBlk k 0 1 Y' = EY ∧ True from ⟨hEY.symm, trivial⟩)
  have E_X' := Lib.hid (show plusB [Tm, H, Qm, EY] = X' ∧ True from ⟨hX'.symm, trivial⟩)
  have E_p1 := Lib.hid (show aheadP k 0 ps = p1 ∧ True from ⟨hp1.symm, trivial⟩)
  have E_p2 := Lib.hid (show behindP k Z 0 p1 = p2 ∧ True from ⟨hp2.symm, trivial⟩)
  have HM := Lib.hid (show (apartC m).pairs = ps ∧ (apartC m).u = u ∧ (apartC m).v = v ∧ (apartC m).x = X ∧ (apartC m).y = Y from ⟨hps.symm, hu.symm, hv.symm, hX.symm, hY.symm⟩)
  have HRE := Lib.hid (show bytesC ⟨p2, u', v', X', Y'⟩ = Rr ∧ True from ⟨by
    rw [hRr, hX', hEY, hY', hET, hQm, hTL2, hp2, hBS, hv', hu', hEV, hEU, hZ, hTm, hES, hSm, hEA, hPm, hTL, hp1, hAH, hY, hX, hv, hu, hps, hH]; rfl, trivial⟩)
  have L_H := Lib.hid (show H.length = 16 by rw [hH]; exact hashH_length _ _)
  have L_AH := Lib.hid (show AH.length = 16 by rw [hAH]; exact aheadS_length _ _ _ _ (zeros_length 16))
  have L_TL := Lib.hid (show TL.length = 16 by rw [hTL]; exact tailC_length _ _ _)
  have L_Pm := Lib.hid (show Pm.length = 16 by rw [hPm]; exact plusB_length _)
  have L_EA := Lib.hid (show EA.length = 16 by rw [hEA]; exact eBlk_length _ _ _ _)
  have L_Sm := Lib.hid (show Sm.length = 16 by rw [hSm]; exact plusB_length _)
  have L_ES := Lib.hid (show ES.length = 16 by rw [hES]; exact eTen_length _ _ _)
  have L_Tm := Lib.hid (show Tm.length = 16 by rw [hTm]; exact plusB_length _)
  have L_Z := Lib.hid (show Z.length = 16 by rw [hZ]; exact plusB_length _)
  have L_EU := Lib.hid (show EU.length = 16 by rw [hEU]; exact eTen_length _ _ _)
  have L_EV := Lib.hid (show EV.length = 16 by rw [hEV]; exact eTen_length _ _ _)
  have L_TL2 := Lib.hid (show TL2.length = 16 by rw [hTL2]; exact tailC_length _ _ _)
  have L_Qm := Lib.hid (show Qm.length = 16 by rw [hQm]; exact plusB_length _)
  have L_ET := Lib.hid (show ET.length = 16 by rw [hET]; exact eTen_length _ _ _)
  have L_Y' := Lib.hid (show Y'.length = 16 by rw [hY']; exact plusB_length _)
  have L_EY := Lib.hid (show EY.length = 16 by rw [hEY]; exact eBlk_length _ _ _ _)
  have L_X' := Lib.hid (show X'.length = 16 by rw [hX']; exact plusB_length _)
  have L_BS := Lib.hid (show BS.length = 16 by rw [hBS]; exact behindS_length _ _ _ _ _ (zeros_length 16))
  have L_X := Lib.hid (show X.length = 16 by rw [hX]; exact hfit.x)
  have L_Y := Lib.hid (show Y.length = 16 by rw [hY]; exact hfit.y)
  have L_u := Lib.hid (show u.length = nu by rw [hu, hnu])
  have L_v := Lib.hid (show v.length = nv by rw [hv, hnv])
  have hu16 : nu ≤ 16 := by rw [hnu]; exact hfit.u
  have hv16 : nv < 16 := by rw [hnv]; exact hfit.v
  have L_u' := Lib.hid (show u'.length = nu by rw [hu', xorL_length, L_u.out, L_EU.out]; omega)
  have L_v' := Lib.hid (show v'.length = nv by rw [hv', xorL_length, L_v.out, L_EV.out]; omega)
  have HUV := Lib.hid (show nu < 16 → nv = 0 from fun h => by
    have := hfit.uv (by rw [← hnu]; exact h)
    rw [hnv, this]; rfl)
  have HPF := Lib.hid (show ∀ r ∈ ps, PairFit r by rw [hps]; exact hfit.pairs)
  have HPL := Lib.hid (show ps.length ≤ 900 by rw [hps]; exact hpl)
  have HPL1 := Lib.hid (show p1.length = ps.length by rw [hp1, aheadP_length])
  have HPL2 := Lib.hid (show p2.length = ps.length by rw [hp2, behindP_length, hp1, aheadP_length])
  rw [← hRr] at HRL ⊢
  have HNU := Lib.hid (show (apartC m).u.length = nu ∧ (apartC m).v.length = nv from ⟨hnu.symm, hnv.symm⟩)
  clear hk hN hs hlen hn hl hfit hpl hnu hnv hH hps hu hv hX hY hAH hp1 hTL hPm hEA hSm hES hTm hZ hEU hEV hu' hv' hBS hp2 hTL2 hQm hET hY' hEY hX' hRr
  have M_H := Lib.hid (show (H.map B).length = 16 by rw [List.length_map]; exact L_H.out)
  have M_AH := Lib.hid (show (AH.map B).length = 16 by rw [List.length_map]; exact L_AH.out)
  have M_TL := Lib.hid (show (TL.map B).length = 16 by rw [List.length_map]; exact L_TL.out)
  have M_Pm := Lib.hid (show (Pm.map B).length = 16 by rw [List.length_map]; exact L_Pm.out)
  have M_EA := Lib.hid (show (EA.map B).length = 16 by rw [List.length_map]; exact L_EA.out)
  have M_Sm := Lib.hid (show (Sm.map B).length = 16 by rw [List.length_map]; exact L_Sm.out)
  have M_ES := Lib.hid (show (ES.map B).length = 16 by rw [List.length_map]; exact L_ES.out)
  have M_Tm := Lib.hid (show (Tm.map B).length = 16 by rw [List.length_map]; exact L_Tm.out)
  have M_Z := Lib.hid (show (Z.map B).length = 16 by rw [List.length_map]; exact L_Z.out)
  have M_EU := Lib.hid (show (EU.map B).length = 16 by rw [List.length_map]; exact L_EU.out)
  have M_EV := Lib.hid (show (EV.map B).length = 16 by rw [List.length_map]; exact L_EV.out)
  have M_X := Lib.hid (show (X.map B).length = 16 by rw [List.length_map]; exact L_X.out)
  have M_Y := Lib.hid (show (Y.map B).length = 16 by rw [List.length_map]; exact L_Y.out)
  have M_TL2 := Lib.hid (show (TL2.map B).length = 16 by rw [List.length_map]; exact L_TL2.out)
  have M_Qm := Lib.hid (show (Qm.map B).length = 16 by rw [List.length_map]; exact L_Qm.out)
  have M_ET := Lib.hid (show (ET.map B).length = 16 by rw [List.length_map]; exact L_ET.out)
  have M_Y' := Lib.hid (show (Y'.map B).length = 16 by rw [List.length_map]; exact L_Y'.out)
  have M_EY := Lib.hid (show (EY.map B).length = 16 by rw [List.length_map]; exact L_EY.out)
  have M_X' := Lib.hid (show (X'.map B).length = 16 by rw [List.length_map]; exact L_X'.out)
  have M_BS := Lib.hid (show (BS.map B).length = 16 by rw [List.length_map]; exact L_BS.out)
  go_enter Tryz.func79, Tryz.ntmps79
  generalize hbb : w.heap.size = bb at *
  have HBB := Lib.hid hbb
  clear hbb
  go_wp2_with fail
  refine (hash_ok kp q p k ao N cap ss _ HK.out HNN.out hN1 HSS.out HLEN.out).mono ?_
  rintro e w1 ⟨rfl, hbel⟩
  rw [E_H.out.1]
  have HS := Lib.hid (HS.out.later hbel)
  have hz1 := HS.out.size
  clear hbel
  go_wp2_with (refine wpList_var 52 ((zeros 16).map B) _ rfl rfl Tryz.zero16 rfl ?_)
  intro w2 hb hbel; have HS := Lib.hid (HS.out.push hb hbel); have hlt2 := hb.lt; clear hb hbel
  go_wp2_with (refine (HS.out.get 0 rfl).wstore rfl rfl rfl rfl Tryz.row16 (by rw [List.length_map]; exact zeros_length 16) M_H.out (oneCell_B _) ?_)
  intro w3 hb3 ho3
  have HB03 := Lib.hid (below_only HS.out.bel ho3 (by omega))
  have hbb3 : bb ≤ w3.heap.size := by have := HB03.out.size; rw [HBB.out] at this; exact this
  have HS := Lib.hid (show St w3 w3.heap.size w3 [(w1.heap.size, H.map B, 52)] from (St.start w3).add hb3)
  have hbh := hb3.lt
  clear hb3 ho3
  generalize w1.heap.size = bh at *
  have HK := Lib.hid (HK.out.later (by rw [HBB.out]; exact HB03.out))
  go_wp2_with fail
  refine (apart_ok bo n cb m _ HN.out h32 (by omega) hc (HL.out.below (by rw [HBB.out]; exact HB03.out))).mono ?_
  rintro e w4 ⟨pv, ua, uc, va, vc, rfl, hown, hlu, hlv, hbel⟩
  have HOW := Lib.hid hown
  have HLU := Lib.hid hlu
  have HLV := Lib.hid hlv
  have HS := Lib.hid (HS.out.later hbel)
  rw [HM.out.1] at HOW
  rw [HM.out.2.1] at HLU
  rw [HM.out.2.2.1] at HLV
  rw [HM.out.2.2.2.1, HM.out.2.2.2.2, HNU.out.1, HNU.out.2]
  obtain ⟨og, hpm, hog⟩ := pm_of_own HPF.out HOW.out
  have HPM := Lib.hid hpm
  have HOG := Lib.hid hog
  have hz4 := hbel.size
  have hp1c := hpm.one
  clear hown hlu hlv hbel hpm hog HOW
  go_wp2_with (refine wpList_var 189 (msgV (.slice none 0 0) (.slice none 0 0) (.slice none 0 0) (zeros 16) (zeros 16)) _ rfl rfl Tryz.zeroMsg rfl ?_)
  intro w5 hb hbel; have HPM := Lib.hid (HPM.out.later hbel); have HS := Lib.hid (HS.out.push hb hbel); have hlt5 := hb.lt; clear hb hbel
  generalize w4.heap.size = bm at *
  go_wp2_with (refine (HS.out.get 0 rfl).wstore rfl rfl rfl (cs := msgV pv (.slice ua nu uc) (.slice va nv vc) X Y) rfl Tryz.rowMsg (msgV_length (zeros_length 16) (zeros_length 16)) (msgV_length L_X.out L_Y.out) (msgV_one hp1c rfl rfl) ?_)
  intro w6 hb6 ho6
  have HPM := Lib.hid (HPM.out.only (HS.out.get 0 rfl) (by decide) ho6)
  have HOG := Lib.hid (show ∀ g, og = some g → bh < g ∧ w3.heap.size ≤ g ∧ g < bm from fun g e => ⟨by have := (HOG.out g e).1; omega, HOG.out g e⟩)
  have HS := Lib.hid (show St w3 w3.heap.size w6 [(bm, msgV pv (.slice ua nu uc) (.slice va nv vc) X Y, 189), (bh, H.map B, 52)] from by
    have := HS.out.change 0 hb6 ho6 (by omega) (by simp; omega)
    exact this)
  clear hb6 ho6
  have hlm := (HS.out.get 0 rfl).lt
  -- the sum of the first turn
  go_wp2_with fail
  refine wp_region_J (fun u v => u.grownBy v og) [9] [0, 1, 3, 4] [2, 5, 6, 7, 8] [(9, false)] [(5, [2]), (6, [2, 5]), (7, [5, 6])]
    (fun D x wx => ∃ v14 v38 v41 v42 v43, x = { tmps := #[.pointer (some ⟨kp, 0, none⟩), .slice ao N cap, .slice bo n cb, .bool true, undef, undef, undef, undef, .slice none 0 0, .int .i64 0, .int .i64 2, .int .i64 1, .pointer (some ⟨bh, 0, none⟩), .pointer (some ⟨bm, 0, none⟩), v14, undef, undef, undef, undef, undef, undef, .bool false, .pointer (some ⟨kp, 0, none⟩), .bool false, .bool false, .slice bo n cb, .int .i64 n, .bool false, .bool true, .int .i64 2, .int .i64 1, .pointer (some ⟨kp, 0, none⟩), .slice ao N cap, .agg (H.map B).toArray, .slice bo n cb, .agg (msgV pv (.slice ua nu uc) (.slice va nv vc) X Y).toArray, .agg (msgV pv (.slice ua nu uc) (.slice va nv vc) X Y).toArray, .pointer (some ⟨kp, 0, none⟩), v38, .agg (msgV pv (.slice ua nu uc) (.slice va nv vc) X Y).toArray, .pointer (some ⟨kp, 0, none⟩), v41, v42, v43, undef, undef, undef, undef, undef, undef, undef, undef, undef, undef, undef, undef, undef, undef, undef, undef, undef, undef, undef, undef, undef, undef, undef, undef, undef, undef, undef, undef, undef, undef, undef, undef, undef, undef, undef, undef, undef, undef, undef, undef, undef, undef, undef, undef, undef, undef, undef, undef, undef, undef, undef, undef, undef, undef, undef, undef, undef, undef, undef, undef, undef, undef, undef, undef, undef, undef, undef, undef, undef], defers := [] } ∧ Hid (St w3 w3.heap.size wx [(bm, msgV pv (.slice ua nu uc) (.slice va nv vc) X Y, 189), (bh, H.map B, 52)]) ∧ w6.heap.size ≤ wx.heap.size ∧ Hid (TI (D 2) (D 5) (D 6) (D 7) (D 8) w6.heap.size wx v38 v41 v42 v43 v14 AH TL Pm) ∧ Hid ((D 2 = true → PM wx pv p1 og) ∧ (D 2 = false → PM wx pv ps og)))
    (fun a => World.grownBy.refl a og) (fun _ _ _ h1 h2 => h1.trans h2) (by kernel_rfl) (by kernel_rfl) ?_ ?_ ?_
  · rintro w7 rfl
    have HS := Lib.hid HS.out.drew
    refine walkM_load (vs := msgV pv (.slice ua nu uc) (.slice va nv vc) X Y) (fun w' hw' => ((HS.out.get 0 rfl).grown hw' (by intro e; have := (HOG.out _ e.symm).2.2; omega)).range) Tryz.rowMsg (msgV_length L_X.out L_Y.out) rfl rfl rfl rfl (fun K hK => ?_)
    go_simp; refine hK _ ?_; clear hK K
    refine walkM_one rfl rfl (fun K hK => ?_); go_big_quiet_step (fail); refine wpQuiet_nil (hK _ ?_); clear hK K
    refine walkM_load (vs := msgV pv (.slice ua nu uc) (.slice va nv vc) X Y) (fun w' hw' => ((HS.out.get 0 rfl).grown hw' (by intro e; have := (HOG.out _ e.symm).2.2; omega)).range) Tryz.rowMsg (msgV_length L_X.out L_Y.out) rfl rfl rfl rfl (fun K hK => ?_)
    go_simp; refine hK _ ?_; clear hK K
    refine walkM_one rfl rfl (fun K hK => ?_); go_big_quiet_step (fail); refine wpQuiet_nil (hK _ ?_); clear hK K
    exact walkM_nil ⟨_, _, _, _, _, rfl, HS, Nat.le_refl _, TI.nought, fun h => (by cases h), fun _ => HPM.out.later (Below.refl _ _).drew⟩
  · rintro D x wx kk hkM hDk hneed ⟨v14, v38, v41, v42, v43, rfl, HS, hsz, HTI, HP2⟩
    simp only [List.mem_cons, List.not_mem_nil, or_false] at hkM
    rcases hkM with rfl | rfl | rfl | rfl | rfl
    · rw [hDk] at HTI
      refine wpOp_doK rfl rfl (fun K hK => ?_)
      go_simp
      refine (ahead_any kp q p k pv ps og _ _ X Y _ (HK.out.later HS.out.bel) (HP2.out.2 hDk) HPL.out).mono ?_
      rintro e w' ⟨rfl, hpm, hg⟩
      rw [E_AH.out.1]
      rw [E_p1.out.1] at hpm
      go_simp
      refine hK _ _ ⟨fun _ => hg, v14, .agg (AH.map B).toArray, v41, v42, v43, rfl, HS.out.grown hg (fun g e => (HOG.out g e).2.1) (by intro e he e2; simp at he; have := HOG.out _ e2.symm; rcases he with rfl | rfl <;> simp at this <;> omega), Nat.le_trans hsz hg.size, ?_, ?_⟩
      · exact Lib.hid (by simpa using HTI.out.s2 hg (fun g e => by have := (HOG.out g e).2.2; omega))
      · exact ⟨fun _ => hpm, fun h => by simp at h⟩
    · have h2 := hneed 2 (by simp [needOf])
      refine wpOp_doK rfl rfl (fun K hK => ?_)
      go_simp
      refine (ctail_ok kp q p k pv ua va nu nv uc vc u v X Y _ (HK.out.later HS.out.bel) L_u.out L_v.out hu16 hv16 (HLU.out.below HS.out.bel) (HLV.out.below HS.out.bel)).mono ?_
      rintro e w' ⟨rfl, hbel⟩
      rw [E_TL.out.1]
      go_simp
      refine hK _ _ ⟨fun _ => grown_below hbel, v14, v38, .agg (TL.map B).toArray, v42, v43, rfl, HS.out.later hbel, Nat.le_trans hsz hbel.size, ?_, ?_⟩
      · exact Lib.hid (by simpa using (HTI.out.later hbel).s5)
      · exact ⟨fun _ => (HP2.out.1 h2).later hbel, fun h => by simp [h2] at h⟩
    · have h2 := hneed 2 (by simp [needOf])
      have h5 := hneed 5 (by simp [needOf])
      obtain rfl := HTI.out.r2 h2
      obtain rfl := HTI.out.r5 h5
      refine wpOp_doK rfl rfl (fun K hK => ?_)
      refine oprows 49 52 16 2 _ [AH.map B, TL.map B] rfl rfl Tryz.underlying49 Tryz.zsBlock rfl (by omega) rfl (by omega) (by omega) (by simp [L_AH.out, L_TL.out]) (fun w' hb hbel => hK _ _ ?_)
      refine ⟨fun _ => grown_below hbel, v14, .agg (AH.map B).toArray, .agg (TL.map B).toArray, .slice (some ⟨wx.heap.size, 0, none⟩) 2 2, v43, rfl, HS.out.later hbel, Nat.le_trans hsz hbel.size, ?_, ?_⟩
      · exact Lib.hid (by simpa using (HTI.out.later hbel).s6 ⟨by simp [L_AH.out, L_TL.out], by have := hb.lies; simpa using this⟩ h2)
      · exact ⟨fun _ => (HP2.out.1 h2).later hbel, fun h => by simp [h2] at h⟩
    · have h5 := hneed 5 (by simp [needOf])
      obtain ⟨nr, rfl, hr, h2⟩ := HTI.out.r6 (hneed 6 (by simp [needOf]))
      refine wpOp_doK rfl rfl (fun K hK => ?_)
      go_simp
      refine (cplus_ok (some ⟨nr, 0, none⟩) 2 2 [AH, TL] _ rfl (by omega) hr).mono ?_
      rintro e w' ⟨rfl, hbel⟩
      rw [E_Pm.out.1]
      go_simp
      refine hK _ _ ⟨fun _ => grown_below hbel, v14, v38, v41, .slice (some ⟨nr, 0, none⟩) 2 2, .agg (Pm.map B).toArray, rfl, HS.out.later hbel, Nat.le_trans hsz hbel.size, ?_, ?_⟩
      · exact Lib.hid (by simpa using (HTI.out.later hbel).s7)
      · exact ⟨fun _ => (HP2.out.1 h2).later hbel, fun h => by simp [h2] at h⟩
    · refine wpOp_doK rfl rfl (fun K hK => ?_)
      refine opvar1 52 ((zeros 16).map B) _ rfl Tryz.zero16 rfl (fun w' hb hbel => hK _ _ ?_)
      refine ⟨fun _ => grown_below hbel, .pointer (some ⟨wx.heap.size, 0, none⟩), v38, v41, v42, v43, rfl, HS.out.later hbel, Nat.le_trans hsz hbel.size, ?_, ?_⟩
      · exact Lib.hid (by simpa using HTI.out.s8 hsz hb hbel)
      · exact ⟨fun h => (HP2.out.1 (by simpa using h)).later hbel, fun h => (HP2.out.2 (by simpa using h)).later hbel⟩
  rintro x wx ⟨v14, v38, v41, v42, v43, rfl, HS1, hsz, HTI, HP2⟩
  have HPM := Lib.hid (HP2.out.1 rfl)
  obtain ⟨bp, rfl, hbp, hbpb⟩ := HTI.out.r8 rfl
  obtain rfl := HTI.out.r7 rfl
  have HS := Lib.hid (HS1.out.add hbpb)
  clear HTI HP2 HS1 hbpb
  refine walkK_free rfl (by rfl) (fun K hK => ?_)
  refine (HS.out.get 0 rfl).opstore rfl rfl rfl Tryz.row16 (by simp [zeros_length]) M_Pm.out (oneCell_B _) (fun w8 hb ho => hK _ _ (fun h => by cases h) ?_)
  clear hK K
  have HPM := Lib.hid (HPM.out.only (HS.out.get 0 rfl) (by decide) ho)
  have HS := Lib.hid (show St w3 w3.heap.size w8 ((bp, Pm.map B, 52) :: [(bm, msgV pv (.slice ua nu uc) (.slice va nv vc) X Y, 189), (bh, H.map B, 52)]) from HS.out.change 0 hb ho (by omega) (by simp; omega))
  clear hb ho
  go_simp
  refine walkK_nil ?_
  have HW := Lib.hid HS.out.bel
  have hbp2 := (HS.out.get 0 rfl).lt
  have HS := Lib.hid HS.out.restartAt
  have HWL := Lib.hid (show w3.heap.size ≤ w8.heap.size from HW.out.size)
  have HNE := Lib.hid HS.out.ne
  have hps := HS.out.size
  go_wp2_with fail
  refine wp_region_P [0, 1, 2, 3, 4, 5, 6, 7] [8, 9, 10] [12] [Floater.var 11 15 52 ((zeros 16).map B)] (by kernel_rfl) (by kernel_rfl) ?_
  rintro w18 rfl
  have HS := Lib.hid HS.out.drew
  (refine walk0_one rfl rfl rfl (fun K hK => ?_); go_big_quiet_step (fail); refine wpQuiet_nil (hK _ ?_); clear hK K)
  refine walk0_load (Blk.rangeIn (HS.out.get 1 rfl) 3 16 _ (by exact msgV_x L_X.out)) (HS.out.get 1 rfl).lt Tryz.row16 M_X.out rfl rfl rfl (fun K hK => ?_)
  go_simp; refine hK _ ?_; clear hK K
  refine walk0_load (HS.out.get 2 rfl).range (HS.out.get 2 rfl).lt Tryz.row16 M_H.out rfl rfl rfl (fun K hK => ?_)
  go_simp; refine hK _ ?_; clear hK K
  refine walk0_load (HS.out.get 0 rfl).range (HS.out.get 0 rfl).lt Tryz.row16 M_Pm.out rfl rfl rfl (fun K hK => ?_)
  go_simp; refine hK _ ?_; clear hK K
  (refine walk0_one rfl rfl rfl (fun K hK => ?_); go_big_quiet_step (fail); refine wpQuiet_nil (hK _ ?_); clear hK K); (refine walk0_one rfl rfl rfl (fun K hK => ?_); go_big_quiet_step (fail); refine wpQuiet_nil (hK _ ?_); clear hK K); (refine walk0_one rfl rfl rfl (fun K hK => ?_); go_big_quiet_step (fail); refine wpQuiet_nil (hK _ ?_); clear hK K)
  refine walk0_load (Blk.rangeIn (HS.out.get 1 rfl) 19 16 _ (by exact msgV_y L_X.out L_Y.out)) (HS.out.get 1 rfl).lt Tryz.row16 M_Y.out rfl rfl rfl (fun K hK => ?_)
  go_simp; refine hK _ ?_; clear hK K
  refine walk0_nil ⟨?_, ?_, Nat.le_refl _⟩
  · intro f hf
    simp only [List.mem_singleton] at hf
    subst hf
    exact fits_var _ _ _ _ _ _ rfl rfl rfl rfl (by simp) Tryz.zero16 rfl
  refine walkP_call1 rfl rfl (fun uz wa17 hla K hK => ?_)
  go_simp
  have HS := Lib.hid (HS.out.later hla)
  refine (e_ok kp q p 0 2 k Y _ (HK.out.later (HW.out.trans (HS.out.bel.mono HWL.out))) (by omega) (by omega) L_Y.out).mono ?_
  rintro e w17 ⟨rfl, hbel⟩
  have HS := Lib.hid (HS.out.later hbel)
  rw [E_EA.out.1]
  go_simp
  refine hK _ _ hbel ?_
  clear hK K hbel hla
  refine walkP_call1 rfl rfl (fun uz wa18 hla K hK => ?_)
  refine oprows 49 52 16 4 _ [X.map B, H.map B, Pm.map B, EA.map B] rfl rfl Tryz.underlying49 Tryz.zsBlock rfl (by omega) rfl (by omega) (by omega) (by simp [L_X.out, L_H.out, L_Pm.out, L_EA.out]) ?_
  intro w18 hb hbel
  have HS := Lib.hid (HS.out.later (hla.trans hbel))
  refine hK _ _ hbel ?_
  have HR := Lib.hid (show RowsN 16 w18 (some ⟨wa18.heap.size, 0, none⟩) [X, H, Pm, EA] from ⟨by simp [L_X.out, L_H.out, L_Pm.out, L_EA.out], by have := hb.lies; simpa using this⟩)
  clear hK K hbel hla hb
  go_simp
  refine walkP_call1 rfl rfl (fun uz wa19 hla K hK => ?_)
  go_simp
  refine (cplus_ok (some ⟨wa18.heap.size, 0, none⟩) 4 4 [X, H, Pm, EA] _ rfl (by omega) (HR.out.below hla)).mono ?_
  rintro e w19 ⟨rfl, hbel⟩
  have HS := Lib.hid (HS.out.later (hla.trans hbel))
  rw [E_Sm.out.1]
  go_simp
  refine hK _ _ hbel ?_
  clear hK K hbel hla HR
  refine walkP_nil1 (fun bx20 wb20 hlb hbx20 hbn => ?_)
  go_simp
  have HS := Lib.hid ((HS.out.later hlb).add (show Blk wb20 bx20 ((zeros 16).map B) 52 from hbn))
  clear hlb hbn
  refine walkR_free rfl rfl (by rfl) (fun K hK => ?_)
  refine (HS.out.get 0 rfl).opstore rfl rfl rfl Tryz.row16 (by simp [zeros_length]) (by rw [List.length_map]; exact L_Sm.out) (oneCell_B _) (fun w20 hb ho => hK _ _ ?_)
  clear hK K
  have HS := Lib.hid (HS.out.change 0 hb ho (by omega) (fun e he => by have := HNE.out e he; omega))
  clear hb ho HNE hps
  go_simp
  refine walkR_nil ?_
  have hq20 := (HS.out.get 0 rfl).lt
  have HNE := Lib.hid HS.out.ne
  have hps := HS.out.size
  go_wp2_with fail
  refine wp_region_P [0, 1, 2, 3, 4] [5, 6, 7] [9] [Floater.var 8 16 52 ((zeros 16).map B)] (by kernel_rfl) (by kernel_rfl) ?_
  rintro w28 rfl
  have HS := Lib.hid HS.out.drew
  (refine walk0_one rfl rfl rfl (fun K hK => ?_); go_big_quiet_step (fail); refine wpQuiet_nil (hK _ ?_); clear hK K)
  refine walk0_load (Blk.rangeIn (HS.out.get 2 rfl) 19 16 _ (by exact msgV_y L_X.out L_Y.out)) (HS.out.get 2 rfl).lt Tryz.row16 M_Y.out rfl rfl rfl (fun K hK => ?_)
  go_simp; refine hK _ ?_; clear hK K
  (refine walk0_one rfl rfl rfl (fun K hK => ?_); go_big_quiet_step (fail); refine wpQuiet_nil (hK _ ?_); clear hK K); (refine walk0_one rfl rfl rfl (fun K hK => ?_); go_big_quiet_step (fail); refine wpQuiet_nil (hK _ ?_); clear hK K)
  refine walk0_load (HS.out.get 0 rfl).range (HS.out.get 0 rfl).lt Tryz.row16 M_Sm.out rfl rfl rfl (fun K hK => ?_)
  go_simp; refine hK _ ?_; clear hK K
  refine walk0_nil ⟨?_, ?_, Nat.le_refl _⟩
  · intro f hf
    simp only [List.mem_singleton] at hf
    subst hf
    exact fits_var _ _ _ _ _ _ rfl rfl rfl rfl (by simp) Tryz.zero16 rfl
  refine walkP_call1 rfl rfl (fun uz wa27 hla K hK => ?_)
  go_simp
  have HS := Lib.hid (HS.out.later hla)
  refine (e10_ok kp q p 2 k Sm _ (HK.out.later (HW.out.trans (HS.out.bel.mono HWL.out))) (by omega) L_Sm.out).mono ?_
  rintro e w27 ⟨rfl, hbel⟩
  have HS := Lib.hid (HS.out.later hbel)
  rw [E_ES.out.1]
  go_simp
  refine hK _ _ hbel ?_
  clear hK K hbel hla
  refine walkP_call1 rfl rfl (fun uz wa28 hla K hK => ?_)
  refine oprows 49 52 16 2 _ [Y.map B, ES.map B] rfl rfl Tryz.underlying49 Tryz.zsBlock rfl (by omega) rfl (by omega) (by omega) (by simp [L_Y.out, L_ES.out]) ?_
  intro w28 hb hbel
  have HS := Lib.hid (HS.out.later (hla.trans hbel))
  refine hK _ _ hbel ?_
  have HR := Lib.hid (show RowsN 16 w28 (some ⟨wa28.heap.size, 0, none⟩) [Y, ES] from ⟨by simp [L_Y.out, L_ES.out], by have := hb.lies; simpa using this⟩)
  clear hK K hbel hla hb
  go_simp
  refine walkP_call1 rfl rfl (fun uz wa29 hla K hK => ?_)
  go_simp
  refine (cplus_ok (some ⟨wa28.heap.size, 0, none⟩) 2 2 [Y, ES] _ rfl (by omega) (HR.out.below hla)).mono ?_
  rintro e w29 ⟨rfl, hbel⟩
  have HS := Lib.hid (HS.out.later (hla.trans hbel))
  rw [E_Tm.out.1]
  go_simp
  refine hK _ _ hbel ?_
  clear hK K hbel hla HR
  refine walkP_nil1 (fun bx30 wb30 hlb hbx30 hbn => ?_)
  go_simp
  have HS := Lib.hid ((HS.out.later hlb).add (show Blk wb30 bx30 ((zeros 16).map B) 52 from hbn))
  clear hlb hbn
  refine walkR_free rfl rfl (by rfl) (fun K hK => ?_)
  refine (HS.out.get 0 rfl).opstore rfl rfl rfl Tryz.row16 (by simp [zeros_length]) (by rw [List.length_map]; exact L_Tm.out) (oneCell_B _) (fun w30 hb ho => hK _ _ ?_)
  clear hK K
  have HS := Lib.hid (HS.out.change 0 hb ho (by omega) (fun e he => by have := HNE.out e he; omega))
  clear hb ho HNE hps
  go_simp
  refine walkR_nil ?_
  have hq30 := (HS.out.get 0 rfl).lt
  go_wp2_with (first | (refine (HS.out.get 1 rfl).wload rfl rfl rfl Tryz.row16 M_Sm.out ?_) | (refine (HS.out.get 0 rfl).wload rfl rfl rfl Tryz.row16 M_Tm.out ?_) | (refine wpList_rows 49 52 16 2 _ [Sm.map B, Tm.map B] rfl rfl rfl Tryz.underlying49 Tryz.zsBlock rfl (by omega) rfl (by omega) (by omega) (by simp [L_Sm.out, L_Tm.out]) ?_))
  intro w31 hb hbel
  have HS := Lib.hid (HS.out.later hbel)
  have HR := Lib.hid (show RowsN 16 w31 (some ⟨w30.heap.size, 0, none⟩) [Sm, Tm] from ⟨by simp [L_Sm.out, L_Tm.out], by have := hb.lies; simpa using this⟩)
  clear hb hbel
  go_wp2_with fail
  refine (cplus_ok (some ⟨w30.heap.size, 0, none⟩) 2 2 [Sm, Tm] _ rfl (by omega) HR.out).mono ?_
  rintro e w32 ⟨rfl, hbel⟩
  rw [E_Z.out.1]
  have HS := Lib.hid (HS.out.later hbel)
  have hz32 := HS.out.size
  have hq32 := (HS.out.get 0 rfl).lt
  clear hbel HR
  go_wp2_with (refine wpList_var 52 ((zeros 16).map B) _ rfl rfl Tryz.zero16 rfl ?_)
  intro w33 hb hbel; have HS := Lib.hid (HS.out.push hb hbel); have hlt33 := hb.lt; clear hb hbel
  go_wp2_with (refine (HS.out.get 0 rfl).wstore rfl rfl rfl rfl Tryz.row16 (by rw [List.length_map]; exact zeros_length 16) M_Z.out (oneCell_B _) ?_)
  intro w34 hb34 ho34
  have hs34 := (HS.out.get 2 rfl).lt
  have HS := Lib.hid (show St w8 w8.heap.size w34 [(w32.heap.size, Z.map B, 52), (bx30, Tm.map B, 52), (bx20, Sm.map B, 52), (bp, Pm.map B, 52), (bm, msgV pv (.slice ua nu uc) (.slice va nv vc) X Y, 189), (bh, H.map B, 52)] from HS.out.change 0 hb34 ho34 (by omega) (by simp; omega))
  clear hb34 ho34
  generalize w32.heap.size = bz at *
  have hq34 := (HS.out.get 0 rfl).lt
  -- two calls, two variables
  have HNE := Lib.hid HS.out.ne
  have hps := HS.out.size
  go_wp2_with fail
  refine wp_region_P [0, 1, 3, 4] [2, 5] [8, 9] [Floater.var 6 18 52 ((zeros 16).map B), Floater.var 7 19 52 ((zeros 16).map B)] (by kernel_rfl) (by kernel_rfl) ?_
  rintro w35 rfl
  have HS := Lib.hid HS.out.drew
  (refine walk0_one rfl rfl rfl (fun K hK => ?_); go_big_quiet_step (fail); refine wpQuiet_nil (hK _ ?_); clear hK K)
  refine walk0_load (HS.out.get 0 rfl).range (HS.out.get 0 rfl).lt Tryz.row16 M_Z.out rfl rfl rfl (fun K hK => ?_)
  go_simp; refine hK _ ?_; clear hK K
  (refine walk0_one rfl rfl rfl (fun K hK => ?_); go_big_quiet_step (fail); refine wpQuiet_nil (hK _ ?_); clear hK K)
  refine walk0_load (HS.out.get 0 rfl).range (HS.out.get 0 rfl).lt Tryz.row16 M_Z.out rfl rfl rfl (fun K hK => ?_)
  go_simp; refine hK _ ?_; clear hK K
  refine walk0_nil ⟨?_, ?_, Nat.le_refl _⟩
  · intro f hf
    simp at hf
    rcases hf with rfl | rfl
    · exact fits_var _ _ _ _ _ _ rfl rfl rfl rfl (by simp) Tryz.zero16 rfl
    · exact fits_var _ _ _ _ _ _ rfl rfl rfl rfl (by simp) Tryz.zero16 rfl
  refine walkP_call2 rfl rfl (fun ua' va' wa36 hla K hK => ?_)
  go_simp
  have HS := Lib.hid (HS.out.later hla)
  refine (e10_ok kp q p 4 k Z _ (HK.out.later (HW.out.trans (HS.out.bel.mono HWL.out))) (by omega) L_Z.out).mono ?_
  rintro e w36 ⟨rfl, hbel⟩
  rw [E_EU.out.1]
  have HS := Lib.hid (HS.out.later hbel)
  go_simp
  refine hK _ _ hbel ?_
  clear hK K hbel hla
  refine walkP_call2 rfl rfl (fun ua2 va2 wa37 hla K hK => ?_)
  go_simp
  have HS := Lib.hid (HS.out.later hla)
  refine (e10_ok kp q p 5 k Z _ (HK.out.later (HW.out.trans (HS.out.bel.mono HWL.out))) (by omega) L_Z.out).mono ?_
  rintro e w37 ⟨rfl, hbel⟩
  rw [E_EV.out.1]
  have HS := Lib.hid (HS.out.later hbel)
  go_simp
  refine hK _ _ hbel ?_
  clear hK K hbel hla
  refine walkP_nil2 (fun bu bv w38 hla hbu hbv huv hbn hbm' => ?_)
  go_simp
  have HS := Lib.hid ((HS.out.later hla).add (show Blk w38 bu ((zeros 16).map B) 52 from hbn))
  have HS := Lib.hid (HS.out.add (show Blk w38 bv ((zeros 16).map B) 52 from hbm'))
  clear hla hbn hbm'
  refine walkR_free rfl rfl (by rfl) (fun K hK => ?_)
  refine (HS.out.get 1 rfl).opstore rfl rfl rfl Tryz.row16 (by simp [zeros_length]) M_EU.out (oneCell_B _) (fun w39 hb ho => hK _ _ ?_)
  clear hK K
  have HS := Lib.hid (HS.out.change 1 hb ho (by omega) (fun e he => by
    rcases List.mem_cons.1 he with rfl | he
    · exact fun e => huv e.symm
    · have := HNE.out e he; omega))
  clear hb ho
  go_simp
  refine walkR_free rfl rfl (by rfl) (fun K hK => ?_)
  refine (HS.out.get 0 rfl).opstore rfl rfl rfl Tryz.row16 (by simp [zeros_length]) M_EV.out (oneCell_B _) (fun w40 hb ho => hK _ _ ?_)
  clear hK K
  have HS := Lib.hid (HS.out.change 0 hb ho (by omega) (fun e he => by
    rcases List.mem_cons.1 he with rfl | he
    · exact huv
    · have := HNE.out e he; omega))
  clear hb ho HNE hps
  go_simp
  refine walkR_nil ?_
  have HS := Lib.hid (show St w8 w8.heap.size w40 [(bv, EV.map B, 52), (bu, EU.map B, 52), (bz, Z.map B, 52), (bx30, Tm.map B, 52), (bx20, Sm.map B, 52), (bp, Pm.map B, 52), (bm, msgV pv (.slice ua nu uc) (.slice va nv vc) X Y, 189), (bh, H.map B, 52)] from HS.out)
  have HPM := Lib.hid (HPM.out.later HS.out.bel)
  have HW := Lib.hid (HW.out.trans (HS.out.bel.mono HWL.out))
  have HWL := Lib.hid (show w3.heap.size ≤ w40.heap.size from HW.out.size)
  have HS := Lib.hid HS.out.restartAt
  have hq40 := (HS.out.get 0 rfl).lt
  have hr40 := (HS.out.get 1 rfl).lt
  have hmu : min nu 16 = nu := by omega
  have hmv : min nv 16 = nv := by omega
  have hcu := fun (z : After w40.drew) => ((HS.out.drew.later z.later).get 6 rfl).cell 1 (.slice ua nu uc) rfl
  have hcv := fun (z : After w40.drew) => ((HS.out.drew.later z.later).get 6 rfl).cell 2 (.slice va nv vc) rfl
  go_wp2_with fail
  refine wp_region_R [0, 1, 2, 4, 5, 6, 3, 8, 7, 9, 10, 11] (by kernel_rfl) (by kernel_rfl) ?_
  rintro w41 rfl
  (refine walkR_one rfl rfl (fun K hK => ?_); go_big_quiet_step (fail); refine wpQuiet_nil (hK _ ?_); clear hK K); (refine walkR_one rfl rfl (fun K hK => ?_); go_big_quiet_step (fail); refine wpQuiet_nil (hK _ ?_); clear hK K); (refine walkR_one rfl rfl (fun K hK => ?_); go_big_quiet_step (fail); refine wpQuiet_nil (hK _ ?_); clear hK K); (refine walkR_one rfl rfl (fun K hK => ?_); go_big_quiet_step (fail); refine wpQuiet_nil (hK _ ?_); clear hK K); (refine walkR_one rfl rfl (fun K hK => ?_); go_big_quiet_step (fail); refine wpQuiet_nil (hK _ ?_); clear hK K); (refine walkR_one rfl rfl (fun K hK => ?_); go_big_quiet_step (fail); refine wpQuiet_nil (hK _ ?_); clear hK K)
  clear hcu hcv
  have HS := Lib.hid HS.out.drew
  refine walkR_call rfl rfl (by rfl) (fun K hK => ?_)
  go_simp
  refine (xor_ok ua (some ⟨bu, 0, none⟩) nu 16 uc 16 u EU _ L_u.out L_EU.out (by omega) (by omega) (HLU.out.below (HW.out.trans (HS.out.bel.mono HWL.out))) ((HS.out.get 1 rfl).lies)).mono ?_
  rintro e w42 ⟨vu, rfl, hown, hbel⟩
  rw [hmu, E_u'.out.1] at hown
  have HOU := Lib.hid (own_le hown (show w3.heap.size ≤ w40.drew.heap.size from HWL.out))
  have HS := Lib.hid (HS.out.later hbel)
  obtain ⟨u1, c1, rfl, _, _, _⟩ := own_form HOU.out
  simp only [id]
  go_simp
  refine hK _ _ hbel ?_
  clear hK K hbel hown
  repeat (refine walkR_one rfl rfl (fun K hK => ?_); go_big_quiet_step (fail); refine wpQuiet_nil (hK _ ?_); clear hK K)
  refine walkR_call rfl rfl (by rfl) (fun K hK => ?_)
  go_simp
  refine (xor_ok va (some ⟨bv, 0, none⟩) nv 16 vc 16 v EV _ L_v.out L_EV.out (by omega) (by omega) (HLV.out.below (HW.out.trans (HS.out.bel.mono HWL.out))) ((HS.out.get 0 rfl).lies)).mono ?_
  rintro e w43 ⟨vv, rfl, hown, hbel⟩
  rw [hmv, E_v'.out.1] at hown
  have HOU := Lib.hid (own_below HOU.out hbel)
  have HOV := Lib.hid (own_le hown (show w3.heap.size ≤ w42.heap.size from by have := HS.out.size; have := HWL.out; omega))
  have HS := Lib.hid (HS.out.later hbel)
  obtain ⟨v1, c2, rfl, _, _, _⟩ := own_form HOV.out
  simp only [id]
  go_simp
  refine hK _ _ hbel ?_
  clear hK K hbel hown
  have HPM := Lib.hid (HPM.out.later HS.out.bel)
  have HW := Lib.hid (HW.out.trans (HS.out.bel.mono HWL.out))
  have HWL := Lib.hid (show w3.heap.size ≤ w43.heap.size from HW.out.size)
  have HS := Lib.hid (HS.out.rebase HWL.out)
  refine walkR_free rfl rfl (by rfl) (fun K hK => ?_)
  refine (HS.out.get 6 rfl).opset (v := .slice u1 nu c1) (i := 1) rfl rfl rfl Tryz.sizeBytes rfl rfl (by simp [msgV]) (fun w44 hb ho => hK _ _ ?_)
  clear hK K
  have HPM := Lib.hid (HPM.out.only (HS.out.get 6 rfl) (by decide) ho)
  have HOU := Lib.hid (own_only_ty HOU.out (HS.out.get 6 rfl) (by decide) ho)
  have HOV := Lib.hid (own_only_ty HOV.out (HS.out.get 6 rfl) (by decide) ho)
  have HS := Lib.hid (show St w43 w3.heap.size w44 [(bv, EV.map B, 52), (bu, EU.map B, 52), (bz, Z.map B, 52), (bx30, Tm.map B, 52), (bx20, Sm.map B, 52), (bp, Pm.map B, 52), (bm, msgV pv (.slice u1 nu c1) (.slice va nv vc) X Y, 189), (bh, H.map B, 52)] from HS.out.change 6 hb ho (by omega) (by simp; omega))
  clear hb ho
  go_simp
  repeat (refine walkR_one rfl rfl (fun K hK => ?_); go_big_quiet_step (fail); refine wpQuiet_nil (hK _ ?_); clear hK K)
  refine walkR_free rfl rfl (by rfl) (fun K hK => ?_)
  refine (HS.out.get 6 rfl).opset (v := .slice v1 nv c2) (i := 2) rfl rfl rfl Tryz.sizeBytes rfl rfl (by simp [msgV]) (fun w45 hb ho => hK _ _ ?_)
  clear hK K
  have HPM := Lib.hid (HPM.out.only (HS.out.get 6 rfl) (by decide) ho)
  have HOU := Lib.hid (own_only_ty HOU.out (HS.out.get 6 rfl) (by decide) ho)
  have HOV := Lib.hid (own_only_ty HOV.out (HS.out.get 6 rfl) (by decide) ho)
  have HS := Lib.hid (show St w43 w3.heap.size w45 [(bv, EV.map B, 52), (bu, EU.map B, 52), (bz, Z.map B, 52), (bx30, Tm.map B, 52), (bx20, Sm.map B, 52), (bp, Pm.map B, 52), (bm, msgV pv (.slice u1 nu c1) (.slice v1 nv c2) X Y, 189), (bh, H.map B, 52)] from HS.out.change 6 hb ho (by omega) (by simp; omega))
  clear hb ho
  go_simp
  refine walkR_nil ?_
  have HW := Lib.hid (HW.out.trans HS.out.bel)
  have HWL := Lib.hid (show w3.heap.size ≤ w45.heap.size from HW.out.size)
  have HS := Lib.hid HS.out.restart
  have hq45 := (HS.out.get 0 rfl).lt
  have hr45 := (HS.out.get 1 rfl).lt
  have HPL1b := Lib.hid (show p1.length ≤ 900 by rw [HPL1.out]; exact HPL.out)
  go_wp2_with fail
  refine wp_region_J (fun u v => u.grownBy v og) [10] [0, 1, 2, 4, 5] [3, 6, 7, 8, 9] [(10, false)] [(6, [3]), (7, [3, 6]), (8, [6, 7])]
    (fun D x wx => ∃ v20 v86 v89 v90 v91, x = { tmps := #[.pointer (some ⟨kp, 0, none⟩), .slice ao N cap, .slice bo n cb, .bool true, undef, undef, undef, undef, .slice none 0 0, .int .i64 0, .int .i64 2, .int .i64 1, .pointer (some ⟨bh, 0, none⟩), .pointer (some ⟨bm, 0, none⟩), .pointer (some ⟨bp, 0, none⟩), .pointer (some ⟨bx20, 0, none⟩), .pointer (some ⟨bx30, 0, none⟩), .pointer (some ⟨bz, 0, none⟩), .pointer (some ⟨bu, 0, none⟩), .pointer (some ⟨bv, 0, none⟩), v20, .bool false, .pointer (some ⟨kp, 0, none⟩), .bool false, .bool false, .slice bo n cb, .int .i64 n, .bool false, .bool true, .int .i64 2, .int .i64 1, .pointer (some ⟨kp, 0, none⟩), .slice ao N cap, .agg (H.map B).toArray, .slice bo n cb, .agg (msgV pv (.slice ua nu uc) (.slice va nv vc) X Y).toArray, .agg (msgV pv (.slice ua nu uc) (.slice va nv vc) X Y).toArray, .pointer (some ⟨kp, 0, none⟩), v38, .agg (msgV pv (.slice ua nu uc) (.slice va nv vc) X Y).toArray, .pointer (some ⟨kp, 0, none⟩), v41, v42, .agg (Pm.map B).toArray, .pointer (some ⟨bm, 3, none⟩), .agg (X.map B).toArray, .agg (H.map B).toArray, .agg (Pm.map B).toArray, .pointer (some ⟨kp, 0, none⟩), .int .i64 2, .pointer (some ⟨bm, 19, none⟩), .agg (Y.map B).toArray, .agg (EA.map B).toArray, .slice (some ⟨wa18.heap.size, 0, none⟩) 4 4, .agg (Sm.map B).toArray, .pointer (some ⟨bm, 19, none⟩), .agg (Y.map B).toArray, .pointer (some ⟨kp, 0, none⟩), .int .i64 2, .agg (Sm.map B).toArray, .agg (ES.map B).toArray, .slice (some ⟨wa28.heap.size, 0, none⟩) 2 2, .agg (Tm.map B).toArray, .agg (Sm.map B).toArray, .agg (Tm.map B).toArray, .slice (some ⟨w30.heap.size, 0, none⟩) 2 2, .agg (Z.map B).toArray, .pointer (some ⟨kp, 0, none⟩), .agg (Z.map B).toArray, .agg (EU.map B).toArray, .pointer (some ⟨kp, 0, none⟩), .agg (Z.map B).toArray, .agg (EV.map B).toArray, .pointer (some ⟨bm, 1, none⟩), .slice ua nu uc, .slice (some ⟨bu, 0, none⟩) 16 16, .slice u1 nu c1, .pointer (some ⟨bm, 2, none⟩), .slice va nv vc, .slice (some ⟨bv, 0, none⟩) 16 16, .slice v1 nv c2, .pointer (some ⟨bm, 1, none⟩), .pointer (some ⟨bm, 2, none⟩), .agg (msgV pv (.slice u1 nu c1) (.slice v1 nv c2) X Y).toArray, .pointer (some ⟨kp, 0, none⟩), .agg (Z.map B).toArray, v86, .agg (msgV pv (.slice u1 nu c1) (.slice v1 nv c2) X Y).toArray, .pointer (some ⟨kp, 0, none⟩), v89, v90, v91, undef, undef, undef, undef, undef, undef, undef, undef, undef, undef, undef, undef, undef, undef, undef, undef, undef, undef, undef, undef, undef], defers := [] } ∧ Hid (St w45 w3.heap.size wx [(bv, EV.map B, 52), (bu, EU.map B, 52), (bz, Z.map B, 52), (bx30, Tm.map B, 52), (bx20, Sm.map B, 52), (bp, Pm.map B, 52), (bm, msgV pv (.slice u1 nu c1) (.slice v1 nv c2) X Y, 189), (bh, H.map B, 52)]) ∧ w45.heap.size ≤ wx.heap.size ∧ Hid (TI (D 3) (D 6) (D 7) (D 8) (D 9) w45.heap.size wx v86 v89 v90 v91 v20 BS TL2 Qm) ∧ Hid ((D 3 = true → PM wx pv p2 og) ∧ (D 3 = false → PM wx pv p1 og)) ∧ Hid (wx.ownsRow w3.heap.size 5 1 (.slice u1 nu c1) nu (u'.map B) ∧ wx.ownsRow w3.heap.size 5 1 (.slice v1 nv c2) nv (v'.map B)))
    (fun a => World.grownBy.refl a og) (fun _ _ _ h1 h2 => h1.trans h2) (by kernel_rfl) (by kernel_rfl) ?_ ?_ ?_
  · rintro w46 rfl
    have HS := Lib.hid HS.out.drew
    refine walkM_load (vs := msgV pv (.slice u1 nu c1) (.slice v1 nv c2) X Y) (fun w' hw' => ((HS.out.get 6 rfl).grown hw' (by intro e; have := (HOG.out _ e.symm).2.2; omega)).range) Tryz.rowMsg (msgV_length L_X.out L_Y.out) rfl rfl rfl rfl (fun K hK => ?_)
    go_simp; refine hK _ ?_; clear hK K
    refine walkM_one rfl rfl (fun K hK => ?_); go_big_quiet_step (fail); refine wpQuiet_nil (hK _ ?_); clear hK K
    refine walkM_load (vs := Z.map B) (fun w' hw' => ((HS.out.get 2 rfl).grown hw' (by intro e; have := (HOG.out _ e.symm).2.2; omega)).range) Tryz.row16 M_Z.out rfl rfl rfl rfl (fun K hK => ?_)
    go_simp; refine hK _ ?_; clear hK K
    refine walkM_load (vs := msgV pv (.slice u1 nu c1) (.slice v1 nv c2) X Y) (fun w' hw' => ((HS.out.get 6 rfl).grown hw' (by intro e; have := (HOG.out _ e.symm).2.2; omega)).range) Tryz.rowMsg (msgV_length L_X.out L_Y.out) rfl rfl rfl rfl (fun K hK => ?_)
    go_simp; refine hK _ ?_; clear hK K
    refine walkM_one rfl rfl (fun K hK => ?_); go_big_quiet_step (fail); refine wpQuiet_nil (hK _ ?_); clear hK K
    exact walkM_nil ⟨_, _, _, _, _, rfl, HS, Nat.le_refl _, TI.nought, ⟨fun h => (by cases h), fun _ => HPM.out.later (Below.refl _ _).drew⟩, ⟨HOU.out.drew, HOV.out.drew⟩⟩
  · rintro D x wx kk hkM hDk hneed ⟨v20, v86, v89, v90, v91, rfl, HS, hsz, HTI, HP2, HUV2⟩
    simp only [List.mem_cons, List.not_mem_nil, or_false] at hkM
    rcases hkM with rfl | rfl | rfl | rfl | rfl
    · rw [hDk] at HTI
      refine wpOp_doK rfl rfl (fun K hK => ?_)
      go_simp
      refine (behind_any kp q p k pv p1 og _ _ X Y Z _ (HK.out.later (HW.out.trans HS.out.bel)) (HP2.out.2 hDk) HPL1b.out L_Z.out).mono ?_
      rintro e w' ⟨rfl, hpm, hg⟩
      rw [E_BS.out.1]
      rw [E_p2.out.1] at hpm
      go_simp
      refine hK _ _ ⟨fun _ => hg, v20, .agg (BS.map B).toArray, v89, v90, v91, rfl, HS.out.grown hg (fun g e => (HOG.out g e).2.1) (by intro e he e2; simp at he; have := HOG.out _ e2.symm; rcases he with rfl | rfl | rfl | rfl | rfl | rfl | rfl | rfl <;> simp at this <;> omega), Nat.le_trans hsz hg.size, ?_, ?_, ⟨own_grownBy HUV2.out.1 (HP2.out.2 hDk) (by decide) hg, own_grownBy HUV2.out.2 (HP2.out.2 hDk) (by decide) hg⟩⟩
      · exact Lib.hid (by simpa using HTI.out.s2 hg (fun g e => by have := (HOG.out g e).2.2; omega))
      · exact ⟨fun _ => hpm, fun h => by simp at h⟩
    · have h2 := hneed 3 (by simp [needOf])
      obtain ⟨_, _, eu, _, _, hlu'⟩ := own_form HUV2.out.1
      obtain ⟨_, _, ev, _, _, hlv'⟩ := own_form HUV2.out.2
      cases eu
      cases ev
      refine wpOp_doK rfl rfl (fun K hK => ?_)
      go_simp
      refine (ctail_ok kp q p k pv u1 v1 nu nv c1 c2 u' v' X Y _ (HK.out.later (HW.out.trans HS.out.bel)) L_u'.out L_v'.out hu16 hv16 hlu' hlv').mono ?_
      rintro e w' ⟨rfl, hbel⟩
      rw [E_TL2.out.1]
      go_simp
      refine hK _ _ ⟨fun _ => grown_below hbel, v20, v86, .agg (TL2.map B).toArray, v90, v91, rfl, HS.out.later hbel, Nat.le_trans hsz hbel.size, ?_, ?_, ⟨own_below HUV2.out.1 hbel, own_below HUV2.out.2 hbel⟩⟩
      · exact Lib.hid (by simpa using (HTI.out.later hbel).s5)
      · exact ⟨fun _ => (HP2.out.1 h2).later hbel, fun h => by simp [h2] at h⟩
    · have h2 := hneed 3 (by simp [needOf])
      have h5 := hneed 6 (by simp [needOf])
      obtain rfl := HTI.out.r2 h2
      obtain rfl := HTI.out.r5 h5
      refine wpOp_doK rfl rfl (fun K hK => ?_)
      refine oprows 49 52 16 2 _ [BS.map B, TL2.map B] rfl rfl Tryz.underlying49 Tryz.zsBlock rfl (by omega) rfl (by omega) (by omega) (by simp [L_BS.out, L_TL2.out]) (fun w' hb hbel => hK _ _ ?_)
      refine ⟨fun _ => grown_below hbel, v20, .agg (BS.map B).toArray, .agg (TL2.map B).toArray, .slice (some ⟨wx.heap.size, 0, none⟩) 2 2, v91, rfl, HS.out.later hbel, Nat.le_trans hsz hbel.size, ?_, ?_, ⟨own_below HUV2.out.1 hbel, own_below HUV2.out.2 hbel⟩⟩
      · exact Lib.hid (by simpa using (HTI.out.later hbel).s6 ⟨by simp [L_BS.out, L_TL2.out], by have := hb.lies; simpa using this⟩ h2)
      · exact ⟨fun _ => (HP2.out.1 h2).later hbel, fun h => by simp [h2] at h⟩
    · have h5 := hneed 6 (by simp [needOf])
      obtain ⟨nr, rfl, hr, h2⟩ := HTI.out.r6 (hneed 7 (by simp [needOf]))
      refine wpOp_doK rfl rfl (fun K hK => ?_)
      go_simp
      refine (cplus_ok (some ⟨nr, 0, none⟩) 2 2 [BS, TL2] _ rfl (by omega) hr).mono ?_
      rintro e w' ⟨rfl, hbel⟩
      rw [E_Qm.out.1]
      go_simp
      refine hK _ _ ⟨fun _ => grown_below hbel, v20, v86, v89, .slice (some ⟨nr, 0, none⟩) 2 2, .agg (Qm.map B).toArray, rfl, HS.out.later hbel, Nat.le_trans hsz hbel.size, ?_, ?_, ⟨own_below HUV2.out.1 hbel, own_below HUV2.out.2 hbel⟩⟩
      · exact Lib.hid (by simpa using (HTI.out.later hbel).s7)
      · exact ⟨fun _ => (HP2.out.1 h2).later hbel, fun h => by simp [h2] at h⟩
    · refine wpOp_doK rfl rfl (fun K hK => ?_)
      refine opvar1 52 ((zeros 16).map B) _ rfl Tryz.zero16 rfl (fun w' hb hbel => hK _ _ ?_)
      refine ⟨fun _ => grown_below hbel, .pointer (some ⟨wx.heap.size, 0, none⟩), v86, v89, v90, v91, rfl, HS.out.later hbel, Nat.le_trans hsz hbel.size, ?_, ?_, ⟨own_below HUV2.out.1 hbel, own_below HUV2.out.2 hbel⟩⟩
      · exact Lib.hid (by simpa using HTI.out.s8 hsz hb hbel)
      · exact ⟨fun h => (HP2.out.1 (by simpa using h)).later hbel, fun h => (HP2.out.2 (by simpa using h)).later hbel⟩
  rintro x wx ⟨v20, v86, v89, v90, v91, rfl, HS1, hsz, HTI, HP2, HUV2⟩
  have HPM := Lib.hid (HP2.out.1 rfl)
  have HOU := Lib.hid HUV2.out.1
  have HOV := Lib.hid HUV2.out.2
  obtain ⟨bq, rfl, hbq, hbqb⟩ := HTI.out.r8 rfl
  obtain rfl := HTI.out.r7 rfl
  have HS := Lib.hid (HS1.out.add hbqb)
  clear HTI HP2 HS1 hbqb HUV2
  refine walkK_free rfl (by rfl) (fun K hK => ?_)
  refine (HS.out.get 0 rfl).opstore rfl rfl rfl Tryz.row16 (by simp [zeros_length]) M_Qm.out (oneCell_B _) (fun w47 hb ho => hK _ _ (fun h => by cases h) ?_)
  clear hK K
  have HPM := Lib.hid (HPM.out.only (HS.out.get 0 rfl) (by decide) ho)
  have HOU := Lib.hid (own_only_ty HOU.out (HS.out.get 0 rfl) (by decide) ho)
  have HOV := Lib.hid (own_only_ty HOV.out (HS.out.get 0 rfl) (by decide) ho)
  have HS := Lib.hid (show St w45 w3.heap.size w47 ((bq, Qm.map B, 52) :: [(bv, EV.map B, 52), (bu, EU.map B, 52), (bz, Z.map B, 52), (bx30, Tm.map B, 52), (bx20, Sm.map B, 52), (bp, Pm.map B, 52), (bm, msgV pv (.slice u1 nu c1) (.slice v1 nv c2) X Y, 189), (bh, H.map B, 52)]) from HS.out.change 0 hb ho (by omega) (by simp; omega))
  clear hb ho
  go_simp
  refine walkK_nil ?_
  have HW := Lib.hid (HW.out.trans HS.out.bel)
  have HWL := Lib.hid (show w3.heap.size ≤ w47.heap.size from HW.out.size)
  have HS := Lib.hid HS.out.restartAt
  have hq47 := (HS.out.get 0 rfl).lt
  -- the new y
  go_wp2_with fail
  refine wp_region_R [0, 1, 2, 3, 4, 5, 6, 7, 8] (by kernel_rfl) (by kernel_rfl) ?_
  rintro w48 rfl
  have HS := Lib.hid HS.out.drew
  refine walkR_load (HS.out.get 5 rfl).range (HS.out.get 5 rfl).lt Tryz.row16 M_Sm.out rfl rfl rfl rfl (fun K hK => ?_)
  go_simp; refine hK _ ?_; clear hK K
  (refine walkR_one rfl rfl (fun K hK => ?_); go_big_quiet_step (fail); refine wpQuiet_nil (hK _ ?_); clear hK K); (refine walkR_one rfl rfl (fun K hK => ?_); go_big_quiet_step (fail); refine wpQuiet_nil (hK _ ?_); clear hK K)
  refine walkR_load (HS.out.get 4 rfl).range (HS.out.get 4 rfl).lt Tryz.row16 M_Tm.out rfl rfl rfl rfl (fun K hK => ?_)
  go_simp; refine hK _ ?_; clear hK K
  refine walkR_call rfl rfl (by rfl) (fun K hK => ?_)
  go_simp
  refine (e10_ok kp q p 1 k Tm _ (HK.out.later (HW.out.trans (HS.out.bel.mono HWL.out))) (by omega) L_Tm.out).mono ?_
  rintro e w49 ⟨rfl, hbel⟩
  have HS := Lib.hid (HS.out.later hbel)
  rw [E_ET.out.1]
  go_simp
  refine hK _ _ hbel ?_
  clear hK K hbel
  refine walkR_call rfl rfl (by rfl) (fun K hK => ?_)
  refine oprows 49 52 16 2 _ [Sm.map B, ET.map B] rfl rfl Tryz.underlying49 Tryz.zsBlock rfl (by omega) rfl (by omega) (by omega) (by simp [L_Sm.out, L_ET.out]) ?_
  intro w50 hb hbel
  have HS := Lib.hid (HS.out.later hbel)
  have HR := Lib.hid (show RowsN 16 w50 (some ⟨w49.heap.size, 0, none⟩) [Sm, ET] from ⟨by simp [L_Sm.out, L_ET.out], by have := hb.lies; simpa using this⟩)
  refine hK _ _ hbel ?_
  clear hK K hbel hb
  go_simp
  refine walkR_call rfl rfl (by rfl) (fun K hK => ?_)
  go_simp
  refine (cplus_ok (some ⟨w49.heap.size, 0, none⟩) 2 2 [Sm, ET] _ rfl (by omega) HR.out).mono ?_
  rintro e w51 ⟨rfl, hbel⟩
  have HS := Lib.hid (HS.out.later hbel)
  rw [E_Y'.out.1]
  go_simp
  refine hK _ _ hbel ?_
  clear hK K hbel HR
  repeat (refine walkR_one rfl rfl (fun K hK => ?_); go_big_quiet_step (fail); refine wpQuiet_nil (hK _ ?_); clear hK K)
  have HPM := Lib.hid (HPM.out.later HS.out.bel)
  have HOU := Lib.hid (own_below HOU.out HS.out.bel)
  have HOV := Lib.hid (own_below HOV.out HS.out.bel)
  have HW := Lib.hid (HW.out.trans (HS.out.bel.mono HWL.out))
  have HWL := Lib.hid (show w3.heap.size ≤ w51.heap.size from HW.out.size)
  have HS := Lib.hid (HS.out.rebase HWL.out)
  refine walkR_free rfl rfl (by rfl) (fun K hK => ?_)
  refine (HS.out.get 7 rfl).opstoreAt (o := 19) (cs := Y'.map B) rfl rfl rfl Tryz.row16 M_Y'.out (by rw [msgV_length L_X.out L_Y.out]; omega) (oneCell_B _) (fun w52 hb ho => hK _ _ ?_)
  clear hK K
  rw [msgV_setY L_X.out L_Y.out L_Y'.out] at hb
  have HPM := Lib.hid (HPM.out.only (HS.out.get 7 rfl) (by decide) ho)
  have HOU := Lib.hid (own_only_ty HOU.out (HS.out.get 7 rfl) (by decide) ho)
  have HOV := Lib.hid (own_only_ty HOV.out (HS.out.get 7 rfl) (by decide) ho)
  have HS := Lib.hid (show St w51 w3.heap.size w52 ((bq, Qm.map B, 52) :: [(bv, EV.map B, 52), (bu, EU.map B, 52), (bz, Z.map B, 52), (bx30, Tm.map B, 52), (bx20, Sm.map B, 52), (bp, Pm.map B, 52), (bm, msgV pv (.slice u1 nu c1) (.slice v1 nv c2) X Y', 189), (bh, H.map B, 52)]) from HS.out.change 7 hb ho (by omega) (by simp; omega))
  clear hb ho
  go_simp
  refine walkR_nil ?_
  have HW := Lib.hid (HW.out.trans HS.out.bel)
  have HWL := Lib.hid (show w3.heap.size ≤ w52.heap.size from HW.out.size)
  have HS := Lib.hid HS.out.restartAt
  -- the new x
  go_wp2_with fail
  refine wp_region_R [0, 1, 2, 3, 4, 5, 6, 7, 8, 9, 10, 11] (by kernel_rfl) (by kernel_rfl) ?_
  rintro w53 rfl
  have HS := Lib.hid HS.out.drew
  refine walkR_load (HS.out.get 4 rfl).range (HS.out.get 4 rfl).lt Tryz.row16 M_Tm.out rfl rfl rfl rfl (fun K hK => ?_)
  go_simp; refine hK _ ?_; clear hK K
  refine walkR_load (HS.out.get 8 rfl).range (HS.out.get 8 rfl).lt Tryz.row16 M_H.out rfl rfl rfl rfl (fun K hK => ?_)
  go_simp; refine hK _ ?_; clear hK K
  refine walkR_load (HS.out.get 0 rfl).range (HS.out.get 0 rfl).lt Tryz.row16 M_Qm.out rfl rfl rfl rfl (fun K hK => ?_)
  go_simp; refine hK _ ?_; clear hK K
  (refine walkR_one rfl rfl (fun K hK => ?_); go_big_quiet_step (fail); refine wpQuiet_nil (hK _ ?_); clear hK K); (refine walkR_one rfl rfl (fun K hK => ?_); go_big_quiet_step (fail); refine wpQuiet_nil (hK _ ?_); clear hK K); (refine walkR_one rfl rfl (fun K hK => ?_); go_big_quiet_step (fail); refine wpQuiet_nil (hK _ ?_); clear hK K)
  refine walkR_load (Blk.rangeIn (HS.out.get 7 rfl) 19 16 _ (msgV_y L_X.out L_Y'.out)) (HS.out.get 7 rfl).lt Tryz.row16 M_Y'.out rfl rfl rfl rfl (fun K hK => ?_)
  go_simp; refine hK _ ?_; clear hK K
  refine walkR_call rfl rfl (by rfl) (fun K hK => ?_)
  go_simp
  refine (e_ok kp q p 0 1 k Y' _ (HK.out.later (HW.out.trans (HS.out.bel.mono HWL.out))) (by omega) (by omega) L_Y'.out).mono ?_
  rintro e w54 ⟨rfl, hbel⟩
  have HS := Lib.hid (HS.out.later hbel)
  rw [E_EY.out.1]
  go_simp
  refine hK _ _ hbel ?_
  clear hK K hbel
  refine walkR_call rfl rfl (by rfl) (fun K hK => ?_)
  refine oprows 49 52 16 4 _ [Tm.map B, H.map B, Qm.map B, EY.map B] rfl rfl Tryz.underlying49 Tryz.zsBlock rfl (by omega) rfl (by omega) (by omega) (by simp [L_Tm.out, L_H.out, L_Qm.out, L_EY.out]) ?_
  intro w55 hb hbel
  have HS := Lib.hid (HS.out.later hbel)
  have HR := Lib.hid (show RowsN 16 w55 (some ⟨w54.heap.size, 0, none⟩) [Tm, H, Qm, EY] from ⟨by simp [L_Tm.out, L_H.out, L_Qm.out, L_EY.out], by have := hb.lies; simpa using this⟩)
  refine hK _ _ hbel ?_
  clear hK K hbel hb
  go_simp
  refine walkR_call rfl rfl (by rfl) (fun K hK => ?_)
  go_simp
  refine (cplus_ok (some ⟨w54.heap.size, 0, none⟩) 4 4 [Tm, H, Qm, EY] _ rfl (by omega) HR.out).mono ?_
  rintro e w56 ⟨rfl, hbel⟩
  have HS := Lib.hid (HS.out.later hbel)
  rw [E_X'.out.1]
  go_simp
  refine hK _ _ hbel ?_
  clear hK K hbel HR
  repeat (refine walkR_one rfl rfl (fun K hK => ?_); go_big_quiet_step (fail); refine wpQuiet_nil (hK _ ?_); clear hK K)
  have HPM := Lib.hid (HPM.out.later HS.out.bel)
  have HOU := Lib.hid (own_below HOU.out HS.out.bel)
  have HOV := Lib.hid (own_below HOV.out HS.out.bel)
  have HW := Lib.hid (HW.out.trans (HS.out.bel.mono HWL.out))
  have HWL := Lib.hid (show w3.heap.size ≤ w56.heap.size from HW.out.size)
  have HS := Lib.hid (HS.out.rebase HWL.out)
  refine walkR_free rfl rfl (by rfl) (fun K hK => ?_)
  refine (HS.out.get 7 rfl).opstoreAt (o := 3) (cs := X'.map B) rfl rfl rfl Tryz.row16 M_X'.out (by rw [msgV_length L_X.out L_Y'.out]; omega) (oneCell_B _) (fun w57 hb ho => hK _ _ ?_)
  clear hK K
  rw [msgV_setX L_X.out L_X'.out] at hb
  have HPM := Lib.hid (HPM.out.only (HS.out.get 7 rfl) (by decide) ho)
  have HOU := Lib.hid (own_only_ty HOU.out (HS.out.get 7 rfl) (by decide) ho)
  have HOV := Lib.hid (own_only_ty HOV.out (HS.out.get 7 rfl) (by decide) ho)
  have HS := Lib.hid (show St w56 w3.heap.size w57 ((bq, Qm.map B, 52) :: [(bv, EV.map B, 52), (bu, EU.map B, 52), (bz, Z.map B, 52), (bx30, Tm.map B, 52), (bx20, Sm.map B, 52), (bp, Pm.map B, 52), (bm, msgV pv (.slice u1 nu c1) (.slice v1 nv c2) X' Y', 189), (bh, H.map B, 52)]) from HS.out.change 7 hb ho (by omega) (by simp; omega))
  clear hb ho
  go_simp
  refine walkR_nil ?_
  have HW := Lib.hid (HW.out.trans HS.out.bel)
  have HWL := Lib.hid (show w3.heap.size ≤ w57.heap.size from HW.out.size)
  obtain ⟨ap, cp, hpv, hrows⟩ := HPM.out.rows
  rw [HPL2.out] at hpv
  subst hpv
  obtain ⟨_, _, eu, _, _, hlu'⟩ := own_form HOU.out
  obtain ⟨_, _, ev, _, _, hlv'⟩ := own_form HOV.out
  cases eu
  cases ev
  have HRW := Lib.hid hrows
  have HLU' := Lib.hid hlu'
  have HLV' := Lib.hid hlv'
  have HPMF := Lib.hid HPM.out.1
  clear hrows hlu' hlv'
  go_wp2_with (refine (HS.out.get 7 rfl).wload rfl rfl rfl Tryz.rowMsg (msgV_length L_X'.out L_Y'.out) ?_)
  go_wp2_with fail
  refine (cbytes_ok ⟨p2, u', v', X', Y'⟩ ap ps.length cp u1 v1 nu nv c1 c2 _ ⟨HPMF.out, L_X'.out, L_Y'.out, by rw [L_u'.out]; exact hu16, fun h => List.eq_nil_of_length_eq_zero (by rw [L_v'.out]; exact HUV.out (by rw [L_u'.out] at h; exact h)), by rw [L_v'.out]; exact hv16⟩ HPL2.out L_u'.out L_v'.out HRW.out HLU'.out HLV'.out (by have := HPL.out; omega)).mono ?_
  rintro e w58 ⟨vr, rfl, hown, hbel⟩
  rw [HRE.out.1, HRL.out] at hown
  have HO := Lib.hid (own_le hown (show w.heap.size ≤ w57.heap.size from by rw [HBB.out]; have := HWL.out; omega))
  have HBE := Lib.hid (show Below w.heap.size w w58 from by
    rw [HBB.out]
    exact (HB03.out.trans (HW.out.mono hbb3)).trans (hbel.mono (by have := HWL.out; omega)))
  clear hown hbel
  go_wp2
  go_ret2
  exact ⟨_, rfl, by first | exact HO.out | (have := HO.out; rw [HBB.out] at this; exact this), by first | exact HBE.out | (have := HBE.out; rw [HBB.out] at this; exact this)⟩

end Go.Proofs.YtbpghohkhngdfaaGreatDoor
