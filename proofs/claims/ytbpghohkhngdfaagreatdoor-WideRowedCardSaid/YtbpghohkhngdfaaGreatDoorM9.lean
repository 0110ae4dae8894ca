/-
  Texts of this claim, one behind the other: RingA EzkA EzkPlain EzkB EzkC.
-/
import Derived.Test.YtbpghohkhngdfaaGreatDoorM2
import Derived.Test.YtbpghohkhngdfaaGreatDoorM8
/-
  The walks of ring: doubled, and so many times.
-/
namespace Go.Proofs.YtbpghohkhngdfaaGreatDoor
open Go.RowKit Go.Mem Go.Ops Go.Cells Go.Oct Go.Gf Go.Trn Go.Aes Go.Ring
set_option linter.unusedSimpArgs false
set_option linter.unusedVariables false
set_option maxRecDepth 100000
attribute [local irreducible] walkR walkP walk0 walkB walkK

theorem toNat_shr64_one (m : UInt64) : (shr64 m 1).toNat = m.toNat / 2 := by
  have h := shr_eq64 m 1
  omega

theorem double16_ok (a : List UInt8) (w : World) (ha : a.length = 16) : Calls Tryz.prog 197 #[.agg (a.map B).toArray] w fun e w' => e = .returned (.agg ((dbl16 a).map B).toArray) ∧ Below w.heap.size w w' := by
  have HLA := Lib.hid ha
  have HLM := Lib.hid (show (a.map B).length = 16 by rw [List.length_map]; exact ha)
  have HS := Lib.hid (St.start w)
  clear ha
  go_enter Tryz.func197, Tryz.ntmps197
  go_wp2_with (refine wpList_box 52 _ (a.map B) _ rfl rfl rfl rfl ?_)
  intro w1 hb hbel; have HS := Lib.hid (HS.out.push hb hbel); have hlt1 := hb.lt; clear hb hbel
  go_wp2_with (refine wpList_var 52 ((zeros 16).map B) _ rfl rfl Tryz.zero16 rfl ?_)
  intro w2 hb hbel; have HS := Lib.hid (HS.out.push hb hbel); have hlt2 := hb.lt; clear hb hbel
  go_wp2_with (refine wpList_var 52 ((zeros 16).map B) _ rfl rfl Tryz.zero16 rfl ?_)
  intro w3 hb hbel; have HS := Lib.hid (HS.out.push hb hbel); have hlt3 := hb.lt; clear hb hbel
  generalize hbb : w.heap.size = bb at *
  generalize w1.heap.size = br at *
  generalize w2.heap.size = bo at *
  have HBB := Lib.hid hbb
  clear hbb
  go_wp2
  go_loopw [4, 5] (fun _ c wr => ∃ (k : Nat) (l : List UInt8), k ≤ 15 ∧ c = .int .i64 k ∧ Hid (Filled (dblAt a) 16 k l) ∧ Hid (St w bb wr [(bo, l.map B, 52), (br, (zeros 16).map B, 52), (bb, a.map B, 52)])) (fun _ c _ => 15 - (intOf c).toNat)
  case atStart => exact ⟨0, zeros 16, by omega, rfl, Filled.zero (zeros_length 16), HS⟩
  case round =>
    clear HS
    obtain ⟨k, l, hk, rfl, HF, HS⟩ := hrel
    by_cases hlt : k < 15
    · have hd : decide ((k : Int) < 15) = true := by simp; omega
      have c0 := fun (x : After wr.drew) => (HS.out.drew.later x.later).get 2 rfl |>.cell k _ (mapB_at (at8_get (b := a) (i := k) (by rw [HLA.out]; omega)))
      have c1 := fun (x : After wr.drew) => (HS.out.drew.later x.later).get 2 rfl |>.cell (k + 1) _ (mapB_at (at8_get (b := a) (i := k + 1) (by rw [HLA.out]; omega)))
      go_wp2_with fail
      refine wp_region_R [0, 1, 2, 3, 4, 5, 6, 7, 8, 9, 10, 11, 12] (by kernel_rfl) (by kernel_rfl) ?_
      rintro w4 rfl
      repeat (refine walkR_one rfl rfl (fun K hK => ?_); go_big_quiet_step (fail); refine wpQuiet_nil (hK _ ?_); clear hK K)
      have HE := Lib.hid (show or8 (shl8 (at8 a k) 1) (shr8 (at8 a (k + 1)) 7) = dblAt a k by unfold dblAt; rw [if_pos hlt])
      refine walkR_free rfl rfl (by rfl) (fun K hK => ?_)
      refine (HS.out.drew.get 0 rfl).opset (i := k) (v := B (or8 (shl8 (at8 a k) 1) (shr8 (at8 a (k + 1)) 7))) rfl rfl rfl Tryz.sizeByte rfl rfl (by rw [List.length_map, HF.out.1]; omega) (fun w5 hb5 ho5 => hK _ _ ?_)
      clear hK K c0 c1
      rw [mapB_set, HE.out] at hb5
      have HS := Lib.hid (HS.out.drew.change 0 hb5 ho5 (by omega) (by simp; omega))
      clear hb5 ho5
      go_simp
      refine walkR_nil ?_
      go_wp2
      go_roundw
      case rel => exact ⟨k + 1, _, by omega, by go_num, HF.out.step (by omega), HS⟩
      case measure => simp [intOf]; omega
    · obtain rfl : k = 15 := by omega
      have c0 := (HS.out.get 2 rfl).cell 15 _ (mapB_at (at8_get (b := a) (i := 15) (by rw [HLA.out]; omega)))
      have c1 := (HS.out.get 2 rfl).cell 0 _ (mapB_at (at8_get (b := a) (i := 0) (by rw [HLA.out]; omega)))
      obtain ⟨w4, hw4⟩ : ∃ w4, w4 = wr.setCell ⟨bo, 15, none⟩ (.int .u8 ((xor8 (shl8 (at8 a 15) 1) (mul8 (shr8 (at8 a 0) 7) 135)).toNat : Int)) := ⟨_, rfl⟩
      have hst := (HS.out.get 0 rfl).set 15 (B (xor8 (shl8 (at8 a 15) 1) (mul8 (shr8 (at8 a 0) 7) 135)))
      have ho : Only bo wr w4 := by rw [hw4]; exact Only.setCell wr ⟨bo, 15, none⟩ _
      have HE := Lib.hid (show xor8 (shl8 (at8 a 15) 1) (mul8 (shr8 (at8 a 0) 7) 135) = dblAt a 15 by rfl)
      obtain ⟨u, hu⟩ := HF.out.at (i := 15) (by omega)
      have c2 := (HS.out.get 0 rfl).cell 15 _ (mapB_at hu)
      have hf := (HS.out.get 0 rfl).free 15
      rw [mapB_set] at hst
      have HST := Lib.hid (show Blk w4 bo ((l.set 15 (xor8 (shl8 (at8 a 15) 1) (mul8 (shr8 (at8 a 0) 7) 135))).map B) 52 by rw [hw4]; exact hst)
      have HO := Lib.hid ho
      have HW4 := Lib.hid hw4
      clear hst ho hu hw4
      have HALL := (show l.set 15 (xor8 (shl8 (at8 a 15) 1) (mul8 (shr8 (at8 a 0) 7) 135)) = dbl16 a by rw [HE.out]; exact (HF.out.step (by omega)).all)
      rw [HALL] at HST
      clear HALL
      have HLL := Lib.hid (show ((dbl16 a).map B).length = 16 by rw [List.length_map]; exact dbl16_length a)
      have HRS := Lib.hid ((HS.out.get 1 rfl).only HO.out (by omega))
      go_upto_region 8 with fail
      rw [← HW4.out]
      clear c0 c1 c2 hf
      go_wp2_with (first | (refine HST.out.wload rfl rfl rfl Tryz.row16 HLL.out ?_) | (refine HRS.out.wstore rfl rfl rfl rfl Tryz.row16 (by simp [zeros_length]) HLL.out (oneCell_B _) ?_))
      intro w5 hb5 ho5
      go_wp2
      refine hb5.result rfl rfl rfl Tryz.row16 HLL.out ⟨rfl, ?_⟩
      rw [HBB.out]
      exact below_only (below_only HS.out.bel HO.out (by omega)) ho5 (by omega)

theorem sum16_ok (a b : List UInt8) (wanted : Bool) (w : World) (ha : a.length = 16) (hb : b.length = 16) : Calls Tryz.prog 196 #[.agg (a.map B).toArray, .agg (b.map B).toArray, .bool wanted] w fun e w' => e = .returned (.agg ((sum16 a b wanted).map B).toArray) ∧ Below w.heap.size w w' := by
  have HLA := Lib.hid ha
  have HLB := Lib.hid hb
  have HLM := Lib.hid (show (a.map B).length = 16 by rw [List.length_map]; exact ha)
  have HS := Lib.hid (St.start w)
  have HBX := Lib.hid (block_xor a b ha hb)
  clear ha hb
  go_enter Tryz.func196, Tryz.ntmps196
  go_wp2_with (refine wpList_box 52 _ (a.map B) _ rfl rfl rfl rfl ?_)
  intro w1 hb hbel; have HS := Lib.hid (HS.out.push hb hbel); have hlt1 := hb.lt; clear hb hbel
  go_wp2_with (refine wpList_box 52 _ (b.map B) _ rfl rfl rfl rfl ?_)
  intro w2 hb hbel; have HS := Lib.hid (HS.out.push hb hbel); have hlt2 := hb.lt; clear hb hbel
  go_wp2_with (refine wpList_var 52 ((zeros 16).map B) _ rfl rfl Tryz.zero16 rfl ?_)
  intro w3 hb hbel; have HS := Lib.hid (HS.out.push hb hbel); have hlt3 := hb.lt; clear hb hbel
  generalize hbb : w.heap.size = bb at *
  generalize w1.heap.size = bk at *
  generalize w2.heap.size = br at *
  have HBB := Lib.hid hbb
  clear hbb
  cases wanted with
  | false =>
    go_wp2_with (first | (refine (HS.out.get 2 rfl).wload rfl rfl rfl Tryz.row16 HLM.out ?_) | (refine (HS.out.get 0 rfl).wstore rfl rfl rfl rfl Tryz.row16 (by simp [zeros_length]) HLM.out (oneCell_B _) ?_))
    intro w4 hb4 ho4
    go_wp2
    refine hb4.result rfl rfl rfl Tryz.row16 HLM.out ⟨rfl, ?_⟩
    rw [HBB.out]
    exact below_only HS.out.bel ho4 (by omega)
  | true =>
    go_wp2_with fail
    refine wp_region_R [0, 1, 2, 3, 4] (by kernel_rfl) (by kernel_rfl) ?_
    rintro w4 rfl
    repeat (refine walkR_one rfl rfl (fun K hK => ?_); go_big_quiet_step (fail); refine wpQuiet_nil (hK _ ?_); clear hK K)
    refine walkR_call rfl rfl (by rfl) (fun K hK => ?_)
    go_simp
    refine (xor_ok _ _ 16 16 16 16 a b _ HLA.out HLB.out (by omega) (by omega) (HS.out.drew.get 2 rfl).lies (HS.out.drew.get 1 rfl).lies).mono ?_
    rintro e w5 ⟨v5, rfl, hown5, hbel5⟩
    obtain ⟨ao5, cap5, rfl, _, _, hl5⟩ := own_form hown5
    have HS := Lib.hid (HS.out.drew.later hbel5)
    have HL5 := Lib.hid hl5
    clear hown5 hl5
    simp only [id]
    go_simp
    refine hK _ _ hbel5 ?_
    clear hK K hbel5
    refine walkR_call rfl rfl (by rfl) (fun K hK => ?_)
    go_simp
    refine (block_ok ao5 (min 16 16) cap5 (xorL a b) _ (by rw [xorL_length, HLA.out, HLB.out]) HL5.out).mono ?_
    rintro e w6 ⟨rfl, hbel6⟩
    have HS := Lib.hid (HS.out.later hbel6)
    rw [HBX.out]
    go_simp
    refine hK _ _ hbel6 ?_
    clear hK K hbel6
    refine walkR_free rfl rfl (by rfl) (fun K hK => ?_)
    refine (HS.out.get 0 rfl).opstore rfl rfl rfl Tryz.row16 (by rw [List.length_map]; exact zeros_length 16) (by rw [List.length_map]; exact both_length _ _) (oneCell_B _) (fun w7 hb7 ho7 => hK _ _ ?_)
    clear hK K
    have hbel7 := below_only HS.out.bel ho7 (by omega)
    go_simp
    refine walkR_nil ?_
    go_wp2
    refine hb7.result rfl rfl rfl Tryz.row16 (by rw [List.length_map]; exact both_length _ _) ⟨rfl, ?_⟩
    rw [HBB.out]
    exact hbel7

theorem multiple_ok (n : UInt64) (a : List UInt8) (w : World) (ha : a.length = 16) : Calls Tryz.prog 141 #[L n, .agg (a.map B).toArray] w fun e w' => e = .returned (.agg ((multiple n a).map B).toArray) ∧ Below w.heap.size w w' := by
  have HLA := Lib.hid ha
  have HLM := Lib.hid (show (a.map B).length = 16 by rw [List.length_map]; exact ha)
  have HS := Lib.hid (St.start w)
  clear ha
  go_enter Tryz.func141, Tryz.ntmps141
  go_wp2_with (refine wpList_box 52 _ (a.map B) _ rfl rfl rfl rfl ?_)
  intro w1 hb hbel; have HS := Lib.hid (HS.out.push hb hbel); have hlt1 := hb.lt; clear hb hbel
  go_wp2_with (refine wpList_var 52 ((zeros 16).map B) _ rfl rfl Tryz.zero16 rfl ?_)
  intro w2 hb hbel; have HS := Lib.hid (HS.out.push hb hbel); have hlt2 := hb.lt; clear hb hbel
  go_wp2_with (refine wpList_var 52 ((zeros 16).map B) _ rfl rfl Tryz.zero16 rfl ?_)
  intro w3 hb hbel; have HS := Lib.hid (HS.out.push hb hbel); have hlt3 := hb.lt; clear hb hbel
  generalize hbb : w.heap.size = bb at *
  generalize w1.heap.size = br at *
  generalize w2.heap.size = bo at *
  have HBB := Lib.hid hbb
  clear hbb
  have HN := Lib.hid (show n.toNat < 2 ^ 64 from n.toNat_lt)
  go_wp2
  go_loopw [0] (fun c wr => ∃ (k : Nat) (m : UInt64) (out x : List UInt8), c = L m ∧ Hid (m.toNat < 2 ^ k) ∧ Hid (out.length = 16) ∧ Hid (x.length = 16) ∧ Hid (mulGo k m out x = multiple n a) ∧ Hid (St w bb wr [(bo, out.map B, 52), (br, (zeros 16).map B, 52), (bb, x.map B, 52)])) (fun c _ => (intOf c).toNat)
  case atStart => exact ⟨64, n, zeros 16, a, rfl, HN, zeros_length 16, HLA, rfl, HS⟩
  case round =>
    clear HS HLA HLM HN
    obtain ⟨k, m, out, x, rfl, HK, HO, HX, HE, HS⟩ := hrel
    have HOM := Lib.hid (show (out.map B).length = 16 by rw [List.length_map]; exact HO.out)
    have HXM := Lib.hid (show (x.map B).length = 16 by rw [List.length_map]; exact HX.out)
    by_cases h0 : m.toNat = 0
    · have hd : m.toNat ≤ 0 := by omega
      have HMN := Lib.hid (show out = multiple n a by
        rw [← HE.out]
        cases k with
        | zero => rfl
        | succ k => unfold mulGo; rw [if_pos h0])
      clear h0
      go_wp2_with (first | (refine (HS.out.get 0 rfl).wload rfl rfl rfl Tryz.row16 HOM.out ?_) | (refine (HS.out.get 1 rfl).wstore rfl rfl rfl rfl Tryz.row16 (by simp [zeros_length]) HOM.out (oneCell_B _) ?_))
      intro w5 hb5 ho5
      go_wp2
      refine hb5.result rfl rfl rfl Tryz.row16 HOM.out ⟨by rw [HMN.out], ?_⟩
      rw [HBB.out]
      exact below_only HS.out.bel ho5 (by omega)
    · have hd : 0 < m.toNat := by omega
      have HN0 := Lib.hid h0
      clear h0
      go_wp2_with (first | (refine (HS.out.get 0 rfl).wload rfl rfl rfl Tryz.row16 HOM.out ?_) | (refine (HS.out.get 2 rfl).wload rfl rfl rfl Tryz.row16 HXM.out ?_))
      refine (sum16_ok out x (((and64 m 1).toNat : Int) == 1) _ HO.out HX.out).mono ?_
      rintro e w4 ⟨rfl, hbel4⟩
      have HS := Lib.hid (HS.out.later hbel4)
      have HSL := Lib.hid (sum16_length out x (((and64 m 1).toNat : Int) == 1) HO.out)
      have HSLM := Lib.hid (show ((sum16 out x (((and64 m 1).toNat : Int) == 1)).map B).length = 16 by rw [List.length_map]; exact HSL.out)
      obtain ⟨j, rfl⟩ : ∃ j, k = j + 1 := ⟨k - 1, by have := HK.out; have h := HN0.out; rcases k with _ | k; · simp at this; omega
                                                     · omega⟩
      have HE := Lib.hid (show mulGo j (shr64 m 1) (sum16 out x (((and64 m 1).toNat : Int) == 1)) (dbl16 x) = multiple n a by rw [← HE.out, mulGo, if_neg HN0.out])
      generalize sum16 out x (((and64 m 1).toNat : Int) == 1) = out2 at *
      clear hbel4
      go_wp2_with (refine (HS.out.get 0 rfl).wstore rfl rfl rfl rfl Tryz.row16 HOM.out HSLM.out (oneCell_B _) ?_)
      intro w5 hb5 ho5
      have HS := Lib.hid (HS.out.change 0 hb5 ho5 (by omega) (by simp; omega))
      clear hb5 ho5
      go_wp2_with (refine (HS.out.get 2 rfl).wload rfl rfl rfl Tryz.row16 HXM.out ?_)
      refine (double16_ok x _ HX.out).mono ?_
      rintro e w6 ⟨rfl, hbel6⟩
      have HS := Lib.hid (HS.out.later hbel6)
      have HDL := Lib.hid (dbl16_length x)
      have HDLM := Lib.hid (show ((dbl16 x).map B).length = 16 by rw [List.length_map]; exact HDL.out)
      generalize dbl16 x = x2 at *
      clear hbel6
      go_wp2_with (refine (HS.out.get 2 rfl).wstore rfl rfl rfl rfl Tryz.row16 HXM.out HDLM.out (oneCell_B _) ?_)
      intro w7 hb7 ho7
      have HS := Lib.hid (HS.out.change 2 hb7 ho7 (by omega) (by simp; omega))
      clear hb7 ho7
      have hsh : (shr64 m 1).toNat = m.toNat / 2 := toNat_shr64_one m
      have HK2 := Lib.hid (show (shr64 m 1).toNat < 2 ^ j by rw [hsh]; have := HK.out; rw [Nat.pow_succ] at this; omega)
      have HLT := Lib.hid (show (shr64 m 1).toNat < m.toNat by omega)
      clear hsh
      go_wp2_with fail
      go_roundw
      case rel => exact ⟨j, shr64 m 1, out2, x2, rfl, HK2, HSL, HDL, HE, HS⟩
      case measure => have := HLT.out; simp [intOf, L]; omega

abbrev RaiseFrame (bb br bo : Nat) (us : Nat → Value) : Act := { tmps := #[.int .i64 0, us 1, us 2, .pointer (some ⟨bb, 0, none⟩), .pointer (some ⟨br, 0, none⟩), .pointer (some ⟨bo, 0, none⟩), us 6, us 7, us 8, us 9, us 10, us 11, us 12, us 13, us 14, us 15, us 16, us 17, us 18, us 19, us 20, us 21, us 22, us 23, us 24, us 25, us 26, us 27, us 28, us 29, us 30, us 31, us 32], defers := [] }
def RaiseAt (n : Nat) (a : List UInt8) (bb br : Nat) (w : World) (x : Act) (wr : World) : Prop :=
  ∃ (us : Nat → Value) (bo : Nat), x = RaiseFrame bb br bo us ∧ Hid (Below bb w wr) ∧ Hid (Blk wr bb ((raiseGo n a).map B) 52) ∧ Hid (Blk wr br ((zeros 16).map B) 52)
theorem RaiseAt.intro {n : Nat} {a : List UInt8} {bb br : Nat} {w : World} {x : Act} {wr : World} (bo : Nat) (hx : x = RaiseFrame bb br bo (fun i => x.tmps.getD i undef)) (h1 : Below bb w wr) (h2 : Blk wr bb ((raiseGo n a).map B) 52) (h3 : Blk wr br ((zeros 16).map B) 52) : RaiseAt n a bb br w x wr :=
  ⟨_, bo, hx, h1, h2, h3⟩

theorem raised_ok (n : Nat) (a : List UInt8) (w : World) (ha : a.length = 16) (hn : n < 128) : Calls Tryz.prog 195 #[.int .i64 n, .agg (a.map B).toArray] w fun e w' => e = .returned (.agg ((raiseGo n a).map B).toArray) ∧ Below w.heap.size w w' := by
  have HLA := Lib.hid ha
  have HLM := Lib.hid (show (a.map B).length = 16 by rw [List.length_map]; exact ha)
  have HS := Lib.hid (St.start w)
  clear ha
  go_enter Tryz.func195, Tryz.ntmps195
  go_wp2_with (refine wpList_box 52 _ (a.map B) _ rfl rfl rfl rfl ?_)
  intro w1 hb hbel; have HS := Lib.hid (HS.out.push hb hbel); have hlt1 := hb.lt; clear hb hbel
  go_wp2_with (refine wpList_var 52 ((zeros 16).map B) _ rfl rfl Tryz.zero16 rfl ?_)
  intro w2 hb hbel; have HS := Lib.hid (HS.out.push hb hbel); have hlt2 := hb.lt; clear hb hbel
  generalize hbb : w.heap.size = bb at *
  generalize w1.heap.size = br at *
  have HBB := Lib.hid hbb
  clear hbb
  have hm : (n : Int) % 128 = n := by omega
  have hd0 : decide ((n : Int) < 0) = false := by simp
  go_wp2_with fail
  refine wp_scope_label 0 (RaiseAt n a bb br w) (fun _ _ => 0) rfl ?_ ?_
  · simp only [wpPre]
    go_wp2_with fail
    rw [hm]
    go_loopw [11] (fun c wr => ∃ (k : Nat) (x : List UInt8), k ≤ n ∧ c = .int .i64 k ∧ Hid (x.length = 16) ∧ Hid (raiseGo (n - k) x = raiseGo n a) ∧ Hid (St w bb wr [(br, (zeros 16).map B, 52), (bb, x.map B, 52)])) (fun c _ => n - (intOf c).toNat)
    case atStart => exact ⟨0, a, by omega, rfl, HLA, rfl, HS⟩
    case round =>
      clear HS HLA HLM
      obtain ⟨k, x, hk, rfl, HX, HE, HS⟩ := hrel
      have HXM := Lib.hid (show (x.map B).length = 16 by rw [List.length_map]; exact HX.out)
      by_cases hlt : k < n
      · go_wp2_with (refine (HS.out.get 1 rfl).wload rfl rfl rfl Tryz.row16 HXM.out ?_)
        refine (double16_ok x _ HX.out).mono ?_
        rintro e w6 ⟨rfl, hbel6⟩
        have HS := Lib.hid (HS.out.later hbel6)
        have HDL := Lib.hid (dbl16_length x)
        have HDLM := Lib.hid (show ((dbl16 x).map B).length = 16 by rw [List.length_map]; exact HDL.out)
        have HE := Lib.hid (show raiseGo (n - (k + 1)) (dbl16 x) = raiseGo n a by rw [← HE.out, show n - k = (n - (k + 1)) + 1 by omega, raiseGo])
        generalize dbl16 x = x2 at *
        clear hbel6
        go_wp2_with (refine (HS.out.get 1 rfl).wstore rfl rfl rfl rfl Tryz.row16 HXM.out HDLM.out (oneCell_B _) ?_)
        intro w7 hb7 ho7
        have HS := Lib.hid (HS.out.change 1 hb7 ho7 (by omega) (by simp; omega))
        clear hb7 ho7
        go_wp2_with fail
        go_roundw
        case rel => exact ⟨k + 1, x2, by omega, by go_num, HDL, HE, HS⟩
        case measure => simp [intOf]; omega
      · obtain rfl : k = n := by omega
        have HE := Lib.hid (show x = raiseGo k a by rw [← HE.out, Nat.sub_self]; rfl)
        have hq : (k : Int) / 128 = 0 := by omega
        go_wp2_with (refine wpList_var 52 ((zeros 16).map B) _ rfl rfl Tryz.zero16 rfl ?_)
        intro w3 hb hbel; have hz1 := (HS.out.get 0 rfl).lt; have hz0 := (HS.out.get 1 rfl).lt; have HS := Lib.hid (HS.out.push hb hbel); have hlt3 := hb.lt; clear hb hbel
        generalize wr.heap.size = bo at *
        go_wp2_with (refine (HS.out.get 0 rfl).wstore rfl rfl rfl (cs := (zeros 15 ++ [135]).map B) rfl Tryz.row16 (by simp [zeros_length]) (by simp [zeros_length]) (oneCell_B _) ?_)
        intro w4 hb4 ho4
        have HS := Lib.hid (HS.out.change 0 hb4 ho4 (by omega) (by simp; omega))
        clear hb4 ho4
        go_wp2_with fail
        rw [HE.out] at HS
        exact RaiseAt.intro bo rfl HS.out.bel (HS.out.get 2 rfl) (HS.out.get 1 rfl)
  · rintro x wr ⟨us, bo, rfl, HB, HX, HR⟩
    have HXM := Lib.hid (show ((raiseGo n a).map B).length = 16 by rw [List.length_map]; exact raiseGo_length _ _ HLA.out)
    go_wp2_with (first | (refine HX.out.wload rfl rfl rfl Tryz.row16 HXM.out ?_) | (refine HR.out.wstore rfl rfl rfl rfl Tryz.row16 (by simp [zeros_length]) HXM.out (oneCell_B _) ?_))
    intro w5 hb5 ho5
    go_wp2
    rw [Exit.jump_ret]
    refine hb5.result rfl rfl rfl Tryz.row16 HXM.out ⟨rfl, ?_⟩
    rw [HBB.out]
    exact below_only HB.out ho5 (by omega)

end Go.Proofs.YtbpghohkhngdfaaGreatDoor
/-
  The walks of ezkey: the sum of blocks, a part, the offset.
-/
namespace Go.Cells
/-- Less is known of a walk. -/
theorem St.tail {w0 w : World} {base : Nat} {e : Nat × List Value × TypeId} {L : List (Nat × List Value × TypeId)} (h : St w0 base w (e :: L)) : St w0 base w L := ⟨h.base_le, h.bel, fun x hx => h.all x (List.mem_cons_of_mem _ hx)⟩
theorem St.sub {w0 w : World} {base : Nat} {L L' : List (Nat × List Value × TypeId)} (h : St w0 base w L) (hs : ∀ e ∈ L', e ∈ L) : St w0 base w L' := ⟨h.base_le, h.bel, fun x hx => h.all x (hs x hx)⟩
end Go.Cells
namespace Go.Proofs.YtbpghohkhngdfaaGreatDoor
open Go.RowKit Go.Mem Go.Ops Go.Cells Go.Oct Go.Gf Go.Trn Go.Aes Go.Ring
set_option linter.unusedSimpArgs false
set_option linter.unusedVariables false
set_option maxRecDepth 100000
attribute [local irreducible] walkR walkP walk0 walkB walkK

theorem both_step {a b l : List UInt8} {j : Nat} (hlt : j < 16) (hl : l.length = 16) (h1 : ∀ i, i < j → l[i]? = some (xor8 (at8 a i) (at8 b i))) (h2 : ∀ i, j ≤ i → l[i]? = a[i]?) :
    (∀ i, i < j + 1 → (l.set j (xor8 (at8 a j) (at8 b j)))[i]? = some (xor8 (at8 a i) (at8 b i))) ∧ (∀ i, j + 1 ≤ i → (l.set j (xor8 (at8 a j) (at8 b j)))[i]? = a[i]?) := by
  refine ⟨fun i hi => ?_, fun i hi => ?_⟩
  · rw [List.getElem?_set]
    by_cases e : j = i
    · subst e; simp [hl, hlt]
    · rw [if_neg e]; exact h1 i (by omega)
  · rw [List.getElem?_set_ne (by omega)]
    exact h2 i (by omega)
theorem both_done {a b l : List UInt8} (hl : l.length = 16) (h1 : ∀ i, i < 16 → l[i]? = some (xor8 (at8 a i) (at8 b i))) : l = both a b := Filled.all (f := fun i => xor8 (at8 a i) (at8 b i)) ⟨hl, h1⟩
theorem foldl_both_length (ks : List (List UInt8)) (x : List UInt8) (hx : x.length = 16) : (ks.foldl both x).length = 16 := by
  induction ks generalizing x with
  | nil => exact hx
  | cons k r ih => exact ih _ (both_length _ _)

theorem ezplus_ok (x : List UInt8) (ao : Option Addr) (n cap : Nat) (ks : List (List UInt8)) (w : World) (hx : x.length = 16) (hn : ks.length = n) (hnb : n ≤ 1099511627776) (hk : RowsN 16 w ao ks) :
    Calls Tryz.prog 138 #[.agg (x.map B).toArray, .slice ao n cap] w fun e w' => e = .returned (.agg ((ks.foldl both x).map B).toArray) ∧ Below w.heap.size w w' := by
  have HX := Lib.hid hx
  have HXM := Lib.hid (show (x.map B).length = 16 by rw [List.length_map]; exact hx)
  have HN := Lib.hid hn
  have HK := Lib.hid hk
  have HS := Lib.hid (St.start w)
  clear hx hn hk
  go_enter Tryz.func138, Tryz.ntmps138
  go_wp2_with (refine wpList_box 52 _ (x.map B) _ rfl rfl rfl rfl ?_)
  intro w1 hb hbel; have HS := Lib.hid (HS.out.push hb hbel); have hlt1 := hb.lt; clear hb hbel
  go_wp2_with (refine wpList_var 52 ((zeros 16).map B) _ rfl rfl Tryz.zero16 rfl ?_)
  intro w2 hb hbel; have HS := Lib.hid (HS.out.push hb hbel); have hlt2 := hb.lt; clear hb hbel
  generalize hbb : w.heap.size = bb at *
  generalize w1.heap.size = br at *
  have HBB := Lib.hid hbb
  clear hbb
  go_wp2
  go_loopw [10] (fun c wr => ∃ (i : Nat) (y : List UInt8), i ≤ n ∧ c = .int .i64 i ∧ Hid (y.length = 16) ∧ Hid ((ks.drop i).foldl both y = ks.foldl both x) ∧ Hid (St w bb wr [(br, (zeros 16).map B, 52), (bb, y.map B, 52)])) (fun c _ => n - (intOf c).toNat)
  case atStart => exact ⟨0, x, by omega, rfl, HX, rfl, HS⟩
  case round =>
    clear HS HX HXM
    obtain ⟨i, y, hi, rfl, HY, HE, HS⟩ := hrel
    have HYM := Lib.hid (show (y.map B).length = 16 by rw [List.length_map]; exact HY.out)
    by_cases hlt : i < n
    · have hget : ks[i]? = some (key ks i) := key_get (by rw [HN.out]; exact hlt)
      obtain ⟨kb, koff, rfl, hkb, hr⟩ := (HK.out.below (by rw [HBB.out]; exact HS.out.bel)).range (by omega) hget
      have HKL := Lib.hid (show (key ks i).length = 16 from HK.out.each _ (List.mem_of_getElem? hget))
      have HKLM := Lib.hid (show ((key ks i).map B).length = 16 by rw [List.length_map]; exact HKL.out)
      have HE := Lib.hid (show (ks.drop (i + 1)).foldl both (both y (key ks i)) = ks.foldl both x by
        rw [← HE.out, List.drop_eq_getElem_cons (l := ks) (i := i) (by rw [HN.out]; exact hlt), List.foldl_cons]
        congr 2
        have := List.getElem?_eq_getElem (l := ks) (i := i) (by rw [HN.out]; exact hlt)
        rw [hget] at this
        exact Option.some.inj this)
      have HR := Lib.hid hr
      generalize key ks i = k at *
      clear hget hr
      go_wp2_with (first | (refine wpList_load_mid rfl 52 (.tmp 12) rfl kb (koff + i * 16) rfl _ _ HR.out Tryz.underlying52 rfl (by rw [HKLM.out]; exact Tryz.row16.2) ?_) | (refine wpList_var 52 ((zeros 16).map B) _ rfl rfl Tryz.zero16 rfl ?_))
      intro w3 hb hbel; have hz1 := (HS.out.get 0 rfl).lt; have hz0 := (HS.out.get 1 rfl).lt; have HS := Lib.hid (HS.out.push hb hbel); have hlt3 := hb.lt; clear hb hbel
      generalize wr.heap.size = bk at *
      go_wp2_with (refine (HS.out.get 0 rfl).wstore rfl rfl rfl rfl Tryz.row16 (by simp [zeros_length]) HKLM.out (oneCell_B _) ?_)
      intro w4 hb4 ho4
      have HS := Lib.hid (HS.out.change 0 hb4 ho4 (by omega) (by simp; omega))
      clear hb4 ho4
      go_wp2
      go_loopw [14] (fun c wr => ∃ (j : Nat) (l : List UInt8), j ≤ 16 ∧ c = .int .i64 j ∧ Hid (l.length = 16) ∧ Hid (∀ i, i < j → l[i]? = some (xor8 (at8 y i) (at8 k i))) ∧ Hid (∀ i, j ≤ i → l[i]? = y[i]?) ∧ Hid (St w bb wr [(bk, k.map B, 52), (br, (zeros 16).map B, 52), (bb, l.map B, 52)])) (fun c _ => 16 - (intOf c).toNat)
      case atStart => exact ⟨0, y, by omega, rfl, HY, fun i hi => absurd hi (by omega), fun i _ => rfl, HS⟩
      case round =>
        clear HS
        obtain ⟨j, l, hj, rfl, HLL, HL1, HL2, HS⟩ := hrel
        by_cases hlt2 : j < 16
        · have hd : decide ((j : Int) < 16) = true := by simp; omega
          have hx : l[j]? = some (at8 y j) := by rw [HL2.out j (Nat.le_refl _)]; exact at8_get (by rw [HY.out]; omega)
          have hc1 := fun (x : After wr.drew) => ((HS.out.drew.later x.later).get 2 rfl).cell j _ (mapB_at hx)
          have hc2 := fun (x : After wr.drew) => ((HS.out.drew.later x.later).get 0 rfl).cell j _ (mapB_at (at8_get (b := k) (i := j) (by rw [HKL.out]; omega)))
          clear hx
          go_wp2_with fail
          refine wp_region_R [0, 1, 2, 3, 4, 5, 6, 7, 8] (by kernel_rfl) (by kernel_rfl) ?_
          rintro w5 rfl
          repeat (refine walkR_one rfl rfl (fun K hK => ?_); go_big_quiet_step (fail); refine wpQuiet_nil (hK _ ?_); clear hK K)
          clear hc1 hc2
          refine walkR_free rfl rfl (by rfl) (fun K hK => ?_)
          refine (HS.out.drew.get 2 rfl).opset (v := B (xor8 (at8 y j) (at8 k j))) rfl rfl rfl Tryz.sizeByte rfl rfl (by rw [List.length_map, HLL.out]; omega) (fun w6 hb6 ho6 => hK _ _ ?_)
          clear hK K
          rw [mapB_set] at hb6
          have HS := Lib.hid (HS.out.drew.change 2 hb6 ho6 (by omega) (by simp; omega))
          clear ho6 hb6
          go_simp
          refine walkR_nil ?_
          go_wp2
          go_roundw
          case rel => exact ⟨j + 1, _, by omega, rfl, (by rw [List.length_set]; exact HLL.out), (both_step hlt2 HLL.out HL1.out HL2.out).1, (both_step hlt2 HLL.out HL1.out HL2.out).2, HS⟩
          case measure => simp [intOf]; omega
        · obtain rfl : j = 16 := by omega
          have hle := both_done HLL.out HL1.out
          rw [hle] at HS
          have HS := Lib.hid HS.out.tail
          clear hle
          go_wp2
          go_roundw
          case rel => exact ⟨i + 1, _, by omega, by go_num, both_length _ _, HE, HS⟩
          case measure => simp [intOf]; omega
    · obtain rfl : i = n := by omega
      have HE := Lib.hid (show y = ks.foldl both x by rw [← HE.out, List.drop_eq_nil_of_le (by rw [HN.out]; omega)]; rfl)
      go_wp2_with (first | (refine (HS.out.get 1 rfl).wload rfl rfl rfl Tryz.row16 HYM.out ?_) | (refine (HS.out.get 0 rfl).wstore rfl rfl rfl rfl Tryz.row16 (by rw [List.length_map]; exact zeros_length 16) HYM.out (oneCell_B _) ?_))
      intro w6 hb6 ho6
      have hbel6 := below_only HS.out.bel ho6 (by omega)
      go_wp2
      refine hb6.result rfl rfl rfl Tryz.row16 HYM.out ⟨by rw [HE.out], ?_⟩
      rw [HBB.out]
      exact hbel6

end Go.Proofs.YtbpghohkhngdfaaGreatDoor
/-
  What ezkey's functions compute. No program.
-/
set_option linter.unusedVariables false
namespace Go.Ezk
open Go.Ops Go.Oct Go.Gf Go.Trn Go.Aes Go.Ring

/-- A key's parts. -/
structure Parts where
  i : List UInt8
  j : List UInt8
  l : List UInt8
def partK (k : Parts) (n : Nat) : List UInt8 := if n = 0 then k.i else if n = 1 then k.j else k.l
def upOf (i : Nat) : Nat := i / 8 + min (i % 8) 1
def offset (k : Parts) (j i : Nat) : List UInt8 := [raiseGo (upOf i) k.i, multiple (UInt64.ofNat (i % 8)) k.l].foldl both (multiple (UInt64.ofNat j) k.j)
/-- The tweaked block function. -/
def eBlk (k : Parts) (j i : Nat) (x : List UInt8) : List UInt8 := rounds (both x (offset k j i)) [k.j, k.i, k.l, zeros 16]
def eRows (k : Parts) (n : Nat) : List (List UInt8) := (List.range n).map fun m => partK k (m % 3)
/-- .. of the number -1. -/
def eTen (k : Parts) (i : Nat) (x : List UInt8) : List UInt8 := rounds (both x (multiple (UInt64.ofNat i) k.l)) (eRows k 10)

structure Parts.Fit (k : Parts) : Prop where
  li : k.i.length = 16
  lj : k.j.length = 16
  ll : k.l.length = 16
theorem partK_length {k : Parts} (h : k.Fit) (n : Nat) : (partK k n).length = 16 := by
  unfold partK
  split
  · exact h.li
  · split
    · exact h.lj
    · exact h.ll
theorem offset_length (k : Parts) (j i : Nat) : (offset k j i).length = 16 := by
  simp only [offset, List.foldl_cons, List.foldl_nil]
  exact both_length _ _
theorem eBlk_length (k : Parts) (j i : Nat) (x : List UInt8) : (eBlk k j i x).length = 16 := rounds_length _ _ (both_length _ _)
theorem eTen_length (k : Parts) (i : Nat) (x : List UInt8) : (eTen k i x).length = 16 := rounds_length _ _ (both_length _ _)
theorem eRows_succ (k : Parts) (n : Nat) : eRows k (n + 1) = eRows k n ++ [partK k (n % 3)] := by simp [eRows, List.range_succ]
theorem eRows_length (k : Parts) (n : Nat) : (eRows k n).length = n := by simp [eRows]
theorem eRows_each {k : Parts} (h : k.Fit) (n : Nat) : ∀ x ∈ eRows k n, x.length = 16 := by
  intro x hx
  simp only [eRows, List.mem_map] at hx
  obtain ⟨m, _, rfl⟩ := hx
  exact partK_length h _

end Go.Ezk
/-
  The walks of ezkey: a part, the offset.
-/
namespace Go.Proofs.YtbpghohkhngdfaaGreatDoor
open Go.RowKit Go.Mem Go.Ops Go.Cells Go.Oct Go.Gf Go.Trn Go.Aes Go.Ring Go.Ezk
set_option linter.unusedSimpArgs false
set_option linter.unusedVariables false
set_option maxRecDepth 100000
attribute [local irreducible] walkR walkP walk0 walkB walkK

/-- A key's parts lie behind the address. -/
structure EKey (w : World) (kp q p : Nat) (k : Parts) : Prop where
  tab : Tab w q p
  fit : k.Fit
  blk : Blk w kp (.pointer (some ⟨q, 0, none⟩) :: (k.i ++ k.j ++ k.l).map B) 180
theorem EKey.later {w w' : World} {kp q p : Nat} {k : Parts} (h : EKey w kp q p k) (hb : Below w.heap.size w w') : EKey w' kp q p k := ⟨h.tab.below hb (Nat.le_refl _), h.fit, h.blk.below hb h.blk.lt⟩
theorem EKey.drew {w : World} {kp q p : Nat} {k : Parts} (h : EKey w kp q p k) : EKey w.drew kp q p k := h.later (Below.refl _ _).drew
theorem EKey.only {w w' : World} {kp q p c : Nat} {k : Parts} (h : EKey w kp q p k) (ho : Only c w w') (h1 : kp ≠ c) (h2 : q ≠ c) (h3 : p ≠ c) : EKey w' kp q p k := ⟨h.tab.only ho h3 h2, h.fit, h.blk.only ho h1⟩
theorem EKey.base {w0 w w' : World} {kp q p : Nat} {k : Parts} (h : EKey w0 kp q p k) (hb : Below w0.heap.size w0 w) : EKey w kp q p k := h.later hb
theorem EKey.ri {w : World} {kp q p : Nat} {k : Parts} (h : EKey w kp q p k) : w.rangeAt kp 1 (k.i.map B) := Blk.rangeIn h.blk 1 16 _ (by simp [h.fit.li])
theorem EKey.rj {w : World} {kp q p : Nat} {k : Parts} (h : EKey w kp q p k) : w.rangeAt kp 17 (k.j.map B) := Blk.rangeIn h.blk 17 16 _ (by simp [h.fit.li, h.fit.lj, List.drop_append])
theorem EKey.rl {w : World} {kp q p : Nat} {k : Parts} (h : EKey w kp q p k) : w.rangeAt kp 33 (k.l.map B) := Blk.rangeIn h.blk 33 16 _ (by
  have h1 : List.drop 32 (k.i.map B) = [] := List.drop_eq_nil_of_le (by simp [h.fit.li])
  simp [h.fit.li, h.fit.lj, h.fit.ll, List.drop_append, h1]
  exact List.take_of_length_le (by simp [h.fit.ll]))
theorem EKey.c0 {w : World} {kp q p : Nat} {k : Parts} (h : EKey w kp q p k) : w.cell? ⟨kp, 0, none⟩ = some (.pointer (some ⟨q, 0, none⟩)) := h.blk.cell 0 _ rfl

theorem part_ok (kp q p n : Nat) (k : Parts) (w : World) (hk : EKey w kp q p k) (hn : n < 3) :
    Calls Tryz.prog 140 #[.pointer (some ⟨kp, 0, none⟩), .int .i64 n] w fun e w' => e = .returned (.agg ((partK k n).map B).toArray) ∧ Below w.heap.size w w' := by
  have HK := Lib.hid hk
  have HS := Lib.hid (St.start w)
  have HI := Lib.hid (show (k.i.map B).length = 16 by rw [List.length_map]; exact hk.fit.li)
  have HJ := Lib.hid (show (k.j.map B).length = 16 by rw [List.length_map]; exact hk.fit.lj)
  have HL := Lib.hid (show (k.l.map B).length = 16 by rw [List.length_map]; exact hk.fit.ll)
  clear hk
  go_enter Tryz.func140, Tryz.ntmps140
  go_wp2_with (refine wpList_var 52 ((zeros 16).map B) _ rfl rfl Tryz.zero16 rfl ?_)
  intro w2 hb hbel; have HS := Lib.hid (HS.out.push hb hbel); have HK := Lib.hid (HK.out.later hbel); have hlt2 := hb.lt; clear hb hbel
  generalize hbb : w.heap.size = bb at *
  have HBB := Lib.hid hbb
  clear hbb
  obtain rfl | rfl | rfl : n = 0 ∨ n = 1 ∨ n = 2 := by omega
  · go_wp2_with (first | (refine wpList_load_mid rfl 52 (.tmp 13) rfl kp 1 rfl _ _ HK.out.ri Tryz.underlying52 rfl (by rw [HI.out]; exact Tryz.row16.2) ?_) | (refine (HS.out.get 0 rfl).wstore rfl rfl rfl rfl Tryz.row16 (by rw [List.length_map]; exact zeros_length 16) HI.out (oneCell_B _) ?_))
    intro w6 hb6 ho6
    have hbel6 := below_only HS.out.bel ho6 (by omega)
    go_wp2
    refine hb6.result rfl rfl rfl Tryz.row16 HI.out ⟨rfl, ?_⟩
    rw [HBB.out]
    exact hbel6
  · go_wp2_with (first | (refine wpList_load_mid rfl 52 (.tmp 20) rfl kp 17 rfl _ _ HK.out.rj Tryz.underlying52 rfl (by rw [HJ.out]; exact Tryz.row16.2) ?_) | (refine (HS.out.get 0 rfl).wstore rfl rfl rfl rfl Tryz.row16 (by rw [List.length_map]; exact zeros_length 16) HJ.out (oneCell_B _) ?_))
    intro w6 hb6 ho6
    have hbel6 := below_only HS.out.bel ho6 (by omega)
    go_wp2
    refine hb6.result rfl rfl rfl Tryz.row16 HJ.out ⟨rfl, ?_⟩
    rw [HBB.out]
    exact hbel6
  · go_wp2_with (first | (refine wpList_load_mid rfl 52 (.tmp 27) rfl kp 33 rfl _ _ HK.out.rl Tryz.underlying52 rfl (by rw [HL.out]; exact Tryz.row16.2) ?_) | (refine (HS.out.get 0 rfl).wstore rfl rfl rfl rfl Tryz.row16 (by rw [List.length_map]; exact zeros_length 16) HL.out (oneCell_B _) ?_))
    intro w6 hb6 ho6
    have hbel6 := below_only HS.out.bel ho6 (by omega)
    go_wp2
    refine hb6.result rfl rfl rfl Tryz.row16 HL.out ⟨rfl, ?_⟩
    rw [HBB.out]
    exact hbel6

set_option maxHeartbeats 1000000 in
theorem offset_ok (kp q p j i : Nat) (k : Parts) (w : World) (hk : EKey w kp q p k) (hj : j ≤ 1000) (hi : i ≤ 1000) :
    Calls Tryz.prog 139 #[.pointer (some ⟨kp, 0, none⟩), .int .i64 j, .int .i64 i] w fun e w' => e = .returned (.agg ((offset k j i).map B).toArray) ∧ Below w.heap.size w w' := by
  have HK := Lib.hid hk
  have hkl := hk.blk.lt
  have HS := Lib.hid (St.start w)
  have HFI := Lib.hid hk.fit.li
  have HFJ := Lib.hid hk.fit.lj
  have HFL := Lib.hid hk.fit.ll
  have HI := Lib.hid (show (k.i.map B).length = 16 by rw [List.length_map]; exact hk.fit.li)
  have HJ := Lib.hid (show (k.j.map B).length = 16 by rw [List.length_map]; exact hk.fit.lj)
  have HL := Lib.hid (show (k.l.map B).length = 16 by rw [List.length_map]; exact hk.fit.ll)
  have HU := Lib.hid (show upOf i < 128 by unfold upOf; omega)
  obtain ⟨m, hm⟩ : ∃ m, m = i % 8 := ⟨_, rfl⟩
  obtain ⟨m1, hm1⟩ : ∃ m1, m1 = min m 1 := ⟨_, rfl⟩
  obtain ⟨u, hu⟩ : ∃ u, u = upOf i := ⟨_, rfl⟩
  have hmin : (if (1 : Int) < (m : Int) then (1 : Int) else (m : Int)) = (m1 : Int) := by rw [hm1]; split <;> omega
  have hr : (i : Int) % 8 = (m : Int) := by omega
  have hs : (i : Int) / 8 + (m1 : Int) = (u : Int) := by rw [hu, hm1, hm]; unfold upOf; omega
  have HO := Lib.hid (show offset k j i = [raiseGo u k.i, multiple (UInt64.ofNat m) k.l].foldl both (multiple (UInt64.ofNat j) k.j) by rw [hu, hm]; rfl)
  have hm8 : m < 8 := by omega
  have hm2 : m1 ≤ 1 := by omega
  have HU := Lib.hid (show u < 128 by rw [hu]; exact HU.out)
  clear hm hm1 hu
  have hd1 : decide ((j : Int) < 0) = false := by simp
  have hd2 : decide ((i : Int) < 0) = false := by simp
  clear hk
  go_enter Tryz.func139, Tryz.ntmps139
  go_wp2_with (refine wpList_var 52 ((zeros 16).map B) _ rfl rfl Tryz.zero16 rfl ?_)
  intro w2 hb hbel; have HS := Lib.hid (HS.out.push hb hbel); have HK := Lib.hid (HK.out.later hbel); have hlt2 := hb.lt; clear hb hbel
  generalize hbb : w.heap.size = bb at *
  have HBB := Lib.hid hbb
  clear hbb
  go_wp2_with fail
  refine wp_region_R [0, 1, 2, 3, 4, 5, 7, 8, 9, 10, 11, 13, 14, 15, 16, 17, 18, 19, 6, 12, 20, 21, 22, 23] (by kernel_rfl) (by kernel_rfl) ?_
  rintro w4 rfl
  (refine walkR_one rfl rfl (fun K hK => ?_); go_big_quiet_step (fail); refine wpQuiet_nil (hK _ ?_); clear hK K); (refine walkR_one rfl rfl (fun K hK => ?_); go_big_quiet_step (fail); refine wpQuiet_nil (hK _ ?_); clear hK K); (refine walkR_one rfl rfl (fun K hK => ?_); go_big_quiet_step (fail); refine wpQuiet_nil (hK _ ?_); clear hK K); (refine walkR_one rfl rfl (fun K hK => ?_); go_big_quiet_step (fail); refine wpQuiet_nil (hK _ ?_); clear hK K); (refine walkR_one rfl rfl (fun K hK => ?_); go_big_quiet_step (fail); refine wpQuiet_nil (hK _ ?_); clear hK K)
  refine walkR_load HK.out.drew.rj HK.out.drew.blk.lt Tryz.row16 HJ.out rfl rfl rfl rfl (fun K hK => ?_)
  go_simp; refine hK _ ?_; clear hK K
  (refine walkR_one rfl rfl (fun K hK => ?_); go_big_quiet_step (fail); refine wpQuiet_nil (hK _ ?_); clear hK K); (refine walkR_one rfl rfl (fun K hK => ?_); go_big_quiet_step (fail); refine wpQuiet_nil (hK _ ?_); clear hK K); (refine walkR_one rfl rfl (fun K hK => ?_); go_big_quiet_step (fail); refine wpQuiet_nil (hK _ ?_); clear hK K); (refine walkR_one rfl rfl (fun K hK => ?_); go_big_quiet_step (fail); refine wpQuiet_nil (hK _ ?_); clear hK K)
  refine walkR_load HK.out.drew.ri HK.out.drew.blk.lt Tryz.row16 HI.out rfl rfl rfl rfl (fun K hK => ?_)
  go_simp; refine hK _ ?_; clear hK K
  (refine walkR_one rfl rfl (fun K hK => ?_); go_big_quiet_step (fail); refine wpQuiet_nil (hK _ ?_); clear hK K); (refine walkR_one rfl rfl (fun K hK => ?_); go_big_quiet_step (fail); refine wpQuiet_nil (hK _ ?_); clear hK K); (refine walkR_one rfl rfl (fun K hK => ?_); go_big_quiet_step (fail); refine wpQuiet_nil (hK _ ?_); clear hK K); (refine walkR_one rfl rfl (fun K hK => ?_); go_big_quiet_step (fail); refine wpQuiet_nil (hK _ ?_); clear hK K); (refine walkR_one rfl rfl (fun K hK => ?_); go_big_quiet_step (fail); refine wpQuiet_nil (hK _ ?_); clear hK K); (refine walkR_one rfl rfl (fun K hK => ?_); go_big_quiet_step (fail); refine wpQuiet_nil (hK _ ?_); clear hK K)
  refine walkR_load HK.out.drew.rl HK.out.drew.blk.lt Tryz.row16 HL.out rfl rfl rfl rfl (fun K hK => ?_)
  go_simp; refine hK _ ?_; clear hK K
  refine walkR_call rfl rfl (by rfl) (fun K hK => ?_)
  go_simp
  rw [show (Value.int .u64 (j : Int)) = L (UInt64.ofNat j) by simp [L]; omega]
  refine (multiple_ok (UInt64.ofNat j) k.j _ HFJ.out).mono ?_
  rintro e w5 ⟨rfl, hbel5⟩
  have HS := Lib.hid (HS.out.drew.later hbel5)
  have H1 := Lib.hid (multiple_length (UInt64.ofNat j) k.j)
  generalize multiple (UInt64.ofNat j) k.j = y1 at *
  go_simp
  refine hK _ _ hbel5 ?_
  clear hK K hbel5
  refine walkR_call rfl rfl (by rfl) (fun K hK => ?_)
  go_simp
  refine (raised_ok u k.i _ HFI.out HU.out).mono ?_
  rintro e w6 ⟨rfl, hbel6⟩
  have HS := Lib.hid (HS.out.later hbel6)
  have H2 := Lib.hid (raiseGo_length u k.i HFI.out)
  generalize raiseGo u k.i = y2 at *
  go_simp
  refine hK _ _ hbel6 ?_
  clear hK K hbel6
  refine walkR_call rfl rfl (by rfl) (fun K hK => ?_)
  go_simp
  rw [show (Value.int .u64 (m : Int)) = L (UInt64.ofNat m) by simp [L]; omega]
  refine (multiple_ok (UInt64.ofNat m) k.l _ HFL.out).mono ?_
  rintro e w7 ⟨rfl, hbel7⟩
  have HS := Lib.hid (HS.out.later hbel7)
  have H3 := Lib.hid (multiple_length (UInt64.ofNat m) k.l)
  generalize multiple (UInt64.ofNat m) k.l = y3 at *
  go_simp
  refine hK _ _ hbel7 ?_
  clear hK K hbel7
  refine walkR_call rfl rfl (by rfl) (fun K hK => ?_)
  refine oprows 49 52 16 2 _ [y2.map B, y3.map B] rfl rfl Tryz.underlying49 Tryz.zsBlock rfl (by omega) rfl (by omega) (by omega) (by simp [H2.out, H3.out]) ?_
  intro w8 hb8 hbel8
  have HS := Lib.hid (HS.out.later hbel8)
  refine hK _ _ hbel8 ?_
  clear hK K hbel8
  have HB8 := Lib.hid (show RowsN 16 w8 (some ⟨w7.heap.size, 0, none⟩) [y2, y3] from ⟨by simp [H2.out, H3.out], by have := hb8.lies; simpa using this⟩)
  clear hb8
  go_simp
  refine walkR_call rfl rfl (by rfl) (fun K hK => ?_)
  go_simp
  refine (ezplus_ok y1 (some ⟨w7.heap.size, 0, none⟩) 2 2 [y2, y3] _ H1.out rfl (by omega) HB8.out).mono ?_
  rintro e w9 ⟨rfl, hbel9⟩
  have HS := Lib.hid (HS.out.later hbel9)
  rw [← HO.out]
  have HOL := Lib.hid (show ((offset k j i).map B).length = 16 by rw [List.length_map]; exact offset_length _ _ _)
  go_simp
  refine hK _ _ hbel9 ?_
  clear hK K hbel9
  refine walkR_free rfl rfl (by rfl) (fun K hK => ?_)
  refine (HS.out.get 0 rfl).opstore rfl rfl rfl Tryz.row16 (by rw [List.length_map]; exact zeros_length 16) HOL.out (oneCell_B _) (fun w10 hb10 ho10 => hK _ _ ?_)
  clear hK K
  have hbel10 := below_only HS.out.bel ho10 (by omega)
  go_simp
  refine walkR_nil ?_
  go_wp2
  refine hb10.result rfl rfl rfl Tryz.row16 HOL.out ⟨rfl, ?_⟩
  rw [HBB.out]
  exact hbel10

end Go.Proofs.YtbpghohkhngdfaaGreatDoor
/-
  The walks of ezkey: the tweaked block function.
-/
namespace Go
open Go.RowKit Go.Cells

/-- A slice literal of arrays by value: when it runs is left open. -/
def Floater.rows (i : Nat) (d : Tmp) (e : TypeId) (m : Nat) (vs : List (List Value)) : Floater := ⟨i, d, .cells vs.flatten.toArray e, fun n => .slice (some ⟨n, 0, none⟩) m m⟩
@[go_sem, simp] theorem rows_dst (i : Nat) (d : Tmp) (e : TypeId) (m : Nat) (vs : List (List Value)) : (Floater.rows i d e m vs).dst = d := rfl
@[go_sem, simp] theorem rows_val (i : Nat) (d : Tmp) (e : TypeId) (m : Nat) (vs : List (List Value)) (n : Nat) : (Floater.rows i d e m vs).val n = .slice (some ⟨n, 0, none⟩) m m := rfl
@[go_sem, simp] theorem rows_obj (i : Nat) (d : Tmp) (e : TypeId) (m : Nat) (vs : List (List Value)) : (Floater.rows i d e m vs).obj = .cells vs.flatten.toArray e := rfl
theorem fits_rows {P : Program} {ops : Array Oper} {a : Act} {w : World} (i : Nat) (d : Tmp) (t e : TypeId) (n m : Nat) (z : Value) (vs : List (List Value)) {parts : Array (Nat × Operand)} (o : Oper) (ho : ops[i]? = some o) (hop : o.op = .buildSlice t m parts) (hd : o.dst = some d) (hg : o.guard = none) (hsz : d < a.tmps.size)
    (hp' : (parts.toList.map fun p => (p.1, a.eval p.2)) = (vs.zipIdx 0).map fun p => (p.2, Value.agg p.1.toArray)) (ht : P.underlying t = some (.slice e)) (hs : (P.info? e).map (fun i => (i.zero, i.size)) = some (some z, n)) (hz : z.cells.size = n)
    (hn : 0 < n) (hm : vs.length = m) (hm0 : 0 < m) (hb : m * n ≤ 16777216) (hv : ∀ v ∈ vs, v.length = n) : (Floater.rows i d e m vs).Fits P ops a w := by
  refine ⟨hsz, o, ho, hd, hg, by simp [hop], fun w' _ => ?_⟩
  have hp : (parts.map fun (i, x) => (i, a.eval x)) = ((vs.zipIdx 0).map fun p => (p.2, Value.agg p.1.toArray)).toArray := by
    apply Array.toList_inj.1
    rw [Array.toList_map]
    exact hp'
  have hrun := run_buildRows (P := P) w' t e n m z vs _ ht hs hz hn hm hm0 hb hv hp
  unfold execOp
  simp only [hop, Sem.run_bind, hrun, Result.andThen_ok, Sem.run_pure]
  rfl
end Go
namespace Go.Proofs.YtbpghohkhngdfaaGreatDoor
open Go.RowKit Go.Mem Go.Ops Go.Cells Go.Oct Go.Gf Go.Trn Go.Aes Go.Ring Go.Ezk
set_option linter.unusedSimpArgs false
set_option linter.unusedVariables false
set_option maxRecDepth 100000
attribute [local irreducible] walkR walkP walk0 walkB walkK

set_option maxHeartbeats 1000000 in
theorem e_ok (kp q p j i : Nat) (k : Parts) (x : List UInt8) (w : World) (hk : EKey w kp q p k) (hj : j ≤ 1000) (hi : i ≤ 1000) (hx : x.length = 16) :
    Calls Tryz.prog 81 #[.pointer (some ⟨kp, 0, none⟩), .int .i64 j, .int .i64 i, .agg (x.map B).toArray] w fun e w' => e = .returned (.agg ((eBlk k j i x).map B).toArray) ∧ Below w.heap.size w w' := by
  have HK := Lib.hid hk
  have hkl := hk.blk.lt
  have HS := Lib.hid (St.start w)
  have HFI := Lib.hid hk.fit.li
  have HFJ := Lib.hid hk.fit.lj
  have HFL := Lib.hid hk.fit.ll
  have HI := Lib.hid (show (k.i.map B).length = 16 by rw [List.length_map]; exact hk.fit.li)
  have HJ := Lib.hid (show (k.j.map B).length = 16 by rw [List.length_map]; exact hk.fit.lj)
  have HL := Lib.hid (show (k.l.map B).length = 16 by rw [List.length_map]; exact hk.fit.ll)
  have HX := Lib.hid hx
  have HXM := Lib.hid (show (x.map B).length = 16 by rw [List.length_map]; exact hx)
  have hd1 : decide ((j : Int) < -1) = false := by simp
  have hd2 : decide ((i : Int) < 0) = false := by simp
  have hd3 : decide ((j : Int) ≥ 0) = true := by simp
  have hd4 : decide ((0 : Int) ≤ (j : Int)) = true := by simp
  have HE := Lib.hid (show eBlk k j i x = rounds ([offset k j i].foldl both x) [k.j, k.i, k.l, zeros 16] from rfl)
  clear hk hx
  go_enter Tryz.func81, Tryz.ntmps81
  go_wp2_with (refine wpList_box 52 _ (x.map B) _ rfl rfl rfl rfl ?_)
  intro w1 hb hbel; have HS := Lib.hid (HS.out.push hb hbel); have HK := Lib.hid (HK.out.later hbel); have hlt1 := hb.lt; clear hb hbel
  go_wp2_with (refine wpList_var 52 ((zeros 16).map B) _ rfl rfl Tryz.zero16 rfl ?_)
  intro w2 hb hbel; have HS := Lib.hid (HS.out.push hb hbel); have HK := Lib.hid (HK.out.later hbel); have hlt2 := hb.lt; clear hb hbel
  generalize hbb : w.heap.size = bb at *
  generalize w1.heap.size = br at *
  have HBB := Lib.hid hbb
  clear hbb
  have hc0 := fun (x : After w2.drew) => (HK.out.drew.later x.later).c0
  go_wp2_with fail
  refine wp_region_P [0, 1, 2, 3, 4, 5, 6, 7, 11, 12, 13, 14, 15, 16, 17, 18, 19, 20, 21, 22, 23] [8, 9, 10] [25, 26] [Floater.rows 24 48 52 4 [k.j.map B, k.i.map B, k.l.map B, (zeros 16).map B]] (by kernel_rfl) (by kernel_rfl) ?_
  rintro w4 rfl
  (refine walk0_one rfl rfl rfl (fun K hK => ?_); go_big_quiet_step (fail); refine wpQuiet_nil (hK _ ?_); clear hK K); (refine walk0_one rfl rfl rfl (fun K hK => ?_); go_big_quiet_step (fail); refine wpQuiet_nil (hK _ ?_); clear hK K); (refine walk0_one rfl rfl rfl (fun K hK => ?_); go_big_quiet_step (fail); refine wpQuiet_nil (hK _ ?_); clear hK K); (refine walk0_one rfl rfl rfl (fun K hK => ?_); go_big_quiet_step (fail); refine wpQuiet_nil (hK _ ?_); clear hK K)
  refine walk0_load (HS.out.drew.get 1 rfl).range (HS.out.drew.get 1 rfl).lt Tryz.row16 HXM.out rfl rfl rfl (fun K hK => ?_)
  go_simp; refine hK _ ?_; clear hK K
  (refine walk0_one rfl rfl rfl (fun K hK => ?_); go_big_quiet_step (fail); refine wpQuiet_nil (hK _ ?_); clear hK K); (refine walk0_one rfl rfl rfl (fun K hK => ?_); go_big_quiet_step (fail); refine wpQuiet_nil (hK _ ?_); clear hK K); (refine walk0_one rfl rfl rfl (fun K hK => ?_); go_big_quiet_step (fail); refine wpQuiet_nil (hK _ ?_); clear hK K); (refine walk0_one rfl rfl rfl (fun K hK => ?_); go_big_quiet_step (fail); refine wpQuiet_nil (hK _ ?_); clear hK K); (refine walk0_one rfl rfl rfl (fun K hK => ?_); go_big_quiet_step (fail); refine wpQuiet_nil (hK _ ?_); clear hK K); (refine walk0_one rfl rfl rfl (fun K hK => ?_); go_big_quiet_step (fail); refine wpQuiet_nil (hK _ ?_); clear hK K)
  refine walk0_load HK.out.drew.rj HK.out.drew.blk.lt Tryz.row16 HJ.out rfl rfl rfl (fun K hK => ?_)
  go_simp; refine hK _ ?_; clear hK K
  (refine walk0_one rfl rfl rfl (fun K hK => ?_); go_big_quiet_step (fail); refine wpQuiet_nil (hK _ ?_); clear hK K); (refine walk0_one rfl rfl rfl (fun K hK => ?_); go_big_quiet_step (fail); refine wpQuiet_nil (hK _ ?_); clear hK K); (refine walk0_one rfl rfl rfl (fun K hK => ?_); go_big_quiet_step (fail); refine wpQuiet_nil (hK _ ?_); clear hK K)
  refine walk0_load HK.out.drew.ri HK.out.drew.blk.lt Tryz.row16 HI.out rfl rfl rfl (fun K hK => ?_)
  go_simp; refine hK _ ?_; clear hK K
  (refine walk0_one rfl rfl rfl (fun K hK => ?_); go_big_quiet_step (fail); refine wpQuiet_nil (hK _ ?_); clear hK K); (refine walk0_one rfl rfl rfl (fun K hK => ?_); go_big_quiet_step (fail); refine wpQuiet_nil (hK _ ?_); clear hK K); (refine walk0_one rfl rfl rfl (fun K hK => ?_); go_big_quiet_step (fail); refine wpQuiet_nil (hK _ ?_); clear hK K)
  refine walk0_load HK.out.drew.rl HK.out.drew.blk.lt Tryz.row16 HL.out rfl rfl rfl (fun K hK => ?_)
  go_simp; refine hK _ ?_; clear hK K
  repeat (refine walk0_one rfl rfl rfl (fun K hK => ?_); go_big_quiet_step (fail); refine wpQuiet_nil (hK _ ?_); clear hK K)
  refine walk0_nil ⟨?_, ?_, Nat.le_refl _⟩
  · intro f hf
    simp only [List.mem_singleton] at hf
    subst hf
    refine fits_rows 24 48 49 52 16 4 _ _ _ rfl rfl rfl rfl (by simp) rfl Tryz.underlying49 Tryz.zsBlock rfl (by omega) rfl (by omega) (by omega) (by simp [HFI.out, HFJ.out, HFL.out, zeros_length])
  clear hc0
  refine walkP_call1 rfl rfl (fun u w5 hl5 K hK => ?_)
  go_simp
  have HK := Lib.hid (HK.out.drew.later hl5)
  have HS := Lib.hid (HS.out.drew.later hl5)
  refine (offset_ok kp q p j i k _ HK.out hj hi).mono ?_
  rintro e w6 ⟨rfl, hbel6⟩
  have HK := Lib.hid (HK.out.later hbel6)
  have HS := Lib.hid (HS.out.later hbel6)
  have HOL := Lib.hid (offset_length k j i)
  generalize offset k j i = y at *
  go_simp
  refine hK _ _ hbel6 ?_
  clear hK K hbel6 hl5
  refine walkP_call1 rfl rfl (fun u w7 hl7 K hK => ?_)
  refine oprows 49 52 16 1 _ [y.map B] rfl rfl Tryz.underlying49 Tryz.zsBlock rfl (by omega) rfl (by omega) (by omega) (by simp [HOL.out]) ?_
  intro w8 hb8 hbel8
  have HK := Lib.hid (HK.out.later (hl7.trans hbel8))
  have HS := Lib.hid (HS.out.later (hl7.trans hbel8))
  refine hK _ _ hbel8 ?_
  clear hK K hbel8 hl7
  have HB8 := Lib.hid (show RowsN 16 w8 (some ⟨w7.heap.size, 0, none⟩) [y] from ⟨by simp [HOL.out], by have := hb8.lies; simpa using this⟩)
  clear hb8
  go_simp
  refine walkP_call1 rfl rfl (fun u w9 hl9 K hK => ?_)
  go_simp
  refine (ezplus_ok x (some ⟨w7.heap.size, 0, none⟩) 1 1 [y] _ HX.out rfl (by omega) (HB8.out.below hl9)).mono ?_
  rintro e w10 ⟨rfl, hbel10⟩
  have HK := Lib.hid (HK.out.later (hl9.trans hbel10))
  have HS := Lib.hid (HS.out.later (hl9.trans hbel10))
  have HYL := Lib.hid (foldl_both_length [y] x HX.out)
  generalize [y].foldl both x = z at *
  go_simp
  refine hK _ _ hbel10 ?_
  clear hK K hbel10 hl9
  refine walkP_nil1 (fun n w11 hl11 hn hbn => ?_)
  go_simp
  have HK := Lib.hid (HK.out.later hl11)
  have HS := Lib.hid (HS.out.later hl11)
  have hbn' : Blk w11 n [k.j.map B, k.i.map B, k.l.map B, (zeros 16).map B].flatten 52 := hbn
  have HB11 := Lib.hid (show Rows16 w11 (some ⟨n, 0, none⟩) [k.j, k.i, k.l, zeros 16] from ⟨by simp [HFI.out, HFJ.out, HFL.out, zeros_length], by have := hbn'.lies; simpa using this⟩)
  clear hl11 hbn hbn'
  refine walkR_call rfl rfl (by rfl) (fun K hK => ?_)
  go_simp
  refine (rounds_ok q p z (some ⟨n, 0, none⟩) 4 4 [k.j, k.i, k.l, zeros 16] _ HK.out.tab HYL.out rfl (by omega) HB11.out).mono ?_
  rintro e w12 ⟨rfl, hbel12⟩
  rw [← HE.out]
  have HS := Lib.hid (HS.out.later hbel12)
  have HEL := Lib.hid (show ((eBlk k j i x).map B).length = 16 by rw [List.length_map]; exact eBlk_length _ _ _ _)
  go_simp
  refine hK _ _ hbel12 ?_
  clear hK K hbel12
  refine walkR_free rfl rfl (by rfl) (fun K hK => ?_)
  refine (HS.out.get 0 rfl).opstore rfl rfl rfl Tryz.row16 (by rw [List.length_map]; exact zeros_length 16) HEL.out (oneCell_B _) (fun w13 hb13 ho13 => hK _ _ ?_)
  clear hK K
  have hbel13 := below_only HS.out.bel ho13 (by omega)
  go_simp
  refine walkR_nil ?_
  go_wp2
  refine hb13.result rfl rfl rfl Tryz.row16 HEL.out ⟨rfl, ?_⟩
  rw [HBB.out]
  exact hbel13

set_option maxHeartbeats 1000000 in
theorem e10_ok (kp q p i : Nat) (k : Parts) (x : List UInt8) (w : World) (hk : EKey w kp q p k) (hi : i ≤ 1000) (hx : x.length = 16) :
    Calls Tryz.prog 81 #[.pointer (some ⟨kp, 0, none⟩), .int .i64 (-1), .int .i64 i, .agg (x.map B).toArray] w fun e w' => e = .returned (.agg ((eTen k i x).map B).toArray) ∧ Below w.heap.size w w' := by
  obtain ⟨i0, hi0, hz0, hz1, hz2⟩ := info_parts Tryz.infoBlock
  have HI0 := Lib.hid (And.intro hi0 (And.intro hz0 (And.intro hz1 hz2)))
  have HFIT := Lib.hid hk.fit
  have HK := Lib.hid hk
  have hkl := hk.blk.lt
  have HS := Lib.hid (St.start w)
  have HFL := Lib.hid hk.fit.ll
  have HL := Lib.hid (show (k.l.map B).length = 16 by rw [List.length_map]; exact hk.fit.ll)
  have HX := Lib.hid hx
  have HXM := Lib.hid (show (x.map B).length = 16 by rw [List.length_map]; exact hx)
  have hd2 : decide ((i : Int) < 0) = false := by simp
  have HE := Lib.hid (show eTen k i x = rounds ([multiple (UInt64.ofNat i) k.l].foldl both x) (eRows k 10) from rfl)
  clear hk hx hi0 hz0 hz1 hz2
  go_enter Tryz.func81, Tryz.ntmps81
  go_wp2_with (refine wpList_box 52 _ (x.map B) _ rfl rfl rfl rfl ?_)
  intro w1 hb hbel; have HS := Lib.hid (HS.out.push hb hbel); have HK := Lib.hid (HK.out.later hbel); have hlt1 := hb.lt; clear hb hbel
  go_wp2_with (refine wpList_var 52 ((zeros 16).map B) _ rfl rfl Tryz.zero16 rfl ?_)
  intro w2 hb hbel; have HS := Lib.hid (HS.out.push hb hbel); have HK := Lib.hid (HK.out.later hbel); have hlt2 := hb.lt; clear hb hbel
  generalize hbb : w.heap.size = bb at *
  generalize w1.heap.size = br at *
  have HBB := Lib.hid hbb
  clear hbb
  go_wp2
  go_loopw [9, 50] (fun v c wr => ∃ m : Nat, m ≤ 10 ∧ c = .int .i64 m ∧ Hid (wr.ownsRow w2.heap.size 52 16 v m (flat (eRows k m))) ∧ Hid (Below w2.heap.size w2 wr)) (fun _ c _ => 10 - (intOf c).toNat)
  case atStart => exact ⟨0, by omega, rfl, nil_owns _ _ _ _, Below.refl _ _⟩
  case round =>
    obtain ⟨m, hm, rfl, HV, HB⟩ := hrel
    by_cases hlt : m < 10
    · obtain ⟨m3, hm3⟩ : ∃ m3, m3 = m % 3 := ⟨_, rfl⟩
      have hr : (m : Int) % 3 = (m3 : Int) := by omega
      have HSUCC := Lib.hid (show eRows k (m + 1) = eRows k m ++ [partK k m3] by rw [hm3]; exact eRows_succ k m)
      have hm33 : m3 < 3 := by omega
      clear hm3
      go_wp2_with fail
      refine (part_ok kp q p m3 k _ (HK.out.later HB.out) hm33).mono ?_
      rintro e w4 ⟨rfl, hbel4⟩
      have HV := Lib.hid (own_below HV.out hbel4)
      have HB := Lib.hid (HB.out.trans (hbel4.mono HB.out.size))
      have HPL := Lib.hid (partK_length HFIT.out m3)
      generalize partK k m3 = y at *
      clear hbel4
      go_wp2_with (refine wpList_rows 49 52 16 1 _ [y.map B] rfl rfl rfl Tryz.underlying49 Tryz.zsBlock rfl (by omega) rfl (by omega) (by omega) (by simp [HPL.out]) ?_)
      intro w5 hb5 hbel5
      try rw [show ([y.map B] : List (List Value)).flatten = y.map B by simp] at hb5
      have HB5 := Lib.hid hb5
      have HV := Lib.hid (own_below HV.out hbel5)
      have HB := Lib.hid (HB.out.trans (hbel5.mono HB.out.size))
      clear hb5 hbel5
      go_wp2_with (at_builtin; refine wpList_append_own _ rfl (.tmp 53) (.tmp 58) 49 rfl w2.heap.size 52 i0 (.agg ((zeros 16).map B).toArray) 16 16 Tryz.underlying49 HI0.out.1 HI0.out.2.1 HI0.out.2.2.1 HI0.out.2.2.2 rfl (by decide) _ _ _ rfl HV.out ⟨w4.heap.size, 0, none⟩ 1 1 (y.map B) rfl ?c0 HB5.out.lies.news (oneCell_B y) ?c3 ?c4 HB.out.size ?_)
      case c0 => rw [List.length_map, HPL.out]
      case c3 => unfold maxLen; omega
      case c4 => omega
      intro v6 w6 hown6 hgr6 _
      rw [← flat_snoc, ← HSUCC.out] at hown6
      have HB6 := Lib.hid (below_append HB.out HV.out hgr6 (Nat.le_refl _) HB.out.size)
      have HV6 := Lib.hid hown6
      clear hgr6 hown6
      go_wp2
      go_roundw
      case rel => exact ⟨m + 1, by omega, by go_num, HV6, HB6⟩
      case measure => simp [intOf]; omega
    · obtain rfl : m = 10 := by omega
      obtain ⟨g, gcap, rfl, hbg, hgl⟩ := HV.out.form (by omega)
      have HS := Lib.hid (HS.out.later HB.out)
      have HK := Lib.hid (HK.out.later HB.out)
      have HR := Lib.hid (show Rows16 wr (some ⟨g, 0, none⟩) (eRows k 10) from ⟨eRows_each HFIT.out 10, Lies.of_own HV.out⟩)
      have HRL := Lib.hid (eRows_length k 10)
      generalize eRows k 10 = rows at *
      clear HV HB hbg hgl
      have hc0 := fun (x : After wr.drew) => (HK.out.drew.later x.later).c0
      go_wp2_with fail
      refine wp_region_R [0, 1, 2, 3, 4, 5, 6, 7, 8, 9, 10, 14, 11, 12, 13, 15, 16] (by kernel_rfl) (by kernel_rfl) ?_
      rintro w4 rfl
      (refine walkR_one rfl rfl (fun K hK => ?_); go_big_quiet_step (fail); refine wpQuiet_nil (hK _ ?_); clear hK K); (refine walkR_one rfl rfl (fun K hK => ?_); go_big_quiet_step (fail); refine wpQuiet_nil (hK _ ?_); clear hK K); (refine walkR_one rfl rfl (fun K hK => ?_); go_big_quiet_step (fail); refine wpQuiet_nil (hK _ ?_); clear hK K); (refine walkR_one rfl rfl (fun K hK => ?_); go_big_quiet_step (fail); refine wpQuiet_nil (hK _ ?_); clear hK K)
      refine walkR_load (HS.out.drew.get 1 rfl).range (HS.out.drew.get 1 rfl).lt Tryz.row16 HXM.out rfl rfl rfl rfl (fun K hK => ?_)
      go_simp; refine hK _ ?_; clear hK K
      (refine walkR_one rfl rfl (fun K hK => ?_); go_big_quiet_step (fail); refine wpQuiet_nil (hK _ ?_); clear hK K); (refine walkR_one rfl rfl (fun K hK => ?_); go_big_quiet_step (fail); refine wpQuiet_nil (hK _ ?_); clear hK K); (refine walkR_one rfl rfl (fun K hK => ?_); go_big_quiet_step (fail); refine wpQuiet_nil (hK _ ?_); clear hK K); (refine walkR_one rfl rfl (fun K hK => ?_); go_big_quiet_step (fail); refine wpQuiet_nil (hK _ ?_); clear hK K); (refine walkR_one rfl rfl (fun K hK => ?_); go_big_quiet_step (fail); refine wpQuiet_nil (hK _ ?_); clear hK K)
      refine walkR_load HK.out.drew.rl HK.out.drew.blk.lt Tryz.row16 HL.out rfl rfl rfl rfl (fun K hK => ?_)
      go_simp; refine hK _ ?_; clear hK K
      (refine walkR_one rfl rfl (fun K hK => ?_); go_big_quiet_step (fail); refine wpQuiet_nil (hK _ ?_); clear hK K)
      clear hc0
      refine walkR_call rfl rfl (by rfl) (fun K hK => ?_)
      go_simp
      rw [show (Value.int .u64 (i : Int)) = L (UInt64.ofNat i) by simp [L]; omega]
      refine (multiple_ok (UInt64.ofNat i) k.l _ HFL.out).mono ?_
      rintro e w5 ⟨rfl, hbel5⟩
      have HS := Lib.hid (HS.out.drew.later hbel5)
      have HK := Lib.hid (HK.out.drew.later hbel5)
      have HR := Lib.hid (show Rows16 w5 (some ⟨g, 0, none⟩) rows from ⟨HR.out.each, HR.out.lies.below ((Below.refl _ wr).drew.trans hbel5)⟩)
      have H1 := Lib.hid (multiple_length (UInt64.ofNat i) k.l)
      generalize multiple (UInt64.ofNat i) k.l = y at *
      go_simp
      refine hK _ _ hbel5 ?_
      clear hK K hbel5
      refine walkR_call rfl rfl (by rfl) (fun K hK => ?_)
      refine oprows 49 52 16 1 _ [y.map B] rfl rfl Tryz.underlying49 Tryz.zsBlock rfl (by omega) rfl (by omega) (by omega) (by simp [H1.out]) ?_
      intro w8 hb8 hbel8
      have HK := Lib.hid (HK.out.later hbel8)
      have HS := Lib.hid (HS.out.later hbel8)
      have HR := Lib.hid (show Rows16 w8 (some ⟨g, 0, none⟩) rows from ⟨HR.out.each, HR.out.lies.below hbel8⟩)
      refine hK _ _ hbel8 ?_
      clear hK K hbel8
      have HB8 := Lib.hid (show RowsN 16 w8 (some ⟨w5.heap.size, 0, none⟩) [y] from ⟨by simp [H1.out], by have := hb8.lies; simpa using this⟩)
      clear hb8
      go_simp
      refine walkR_call rfl rfl (by rfl) (fun K hK => ?_)
      go_simp
      refine (ezplus_ok x (some ⟨w5.heap.size, 0, none⟩) 1 1 [y] _ HX.out rfl (by omega) HB8.out).mono ?_
      rintro e w10 ⟨rfl, hbel10⟩
      have HK := Lib.hid (HK.out.later hbel10)
      have HS := Lib.hid (HS.out.later hbel10)
      have HR := Lib.hid (show Rows16 w10 (some ⟨g, 0, none⟩) rows from ⟨HR.out.each, HR.out.lies.below hbel10⟩)
      have HYL := Lib.hid (foldl_both_length [y] x HX.out)
      generalize [y].foldl both x = z at *
      go_simp
      refine hK _ _ hbel10 ?_
      clear hK K hbel10
      repeat (refine walkR_one rfl rfl (fun K hK => ?_); go_big_quiet_step (fail); refine wpQuiet_nil (hK _ ?_); clear hK K)
      refine walkR_call rfl rfl (by rfl) (fun K hK => ?_)
      go_simp
      refine (rounds_ok q p z (some ⟨g, 0, none⟩) 10 gcap rows _ HK.out.tab HYL.out HRL.out (by omega) HR.out).mono ?_
      rintro e w12 ⟨rfl, hbel12⟩
      rw [← HE.out]
      have HS := Lib.hid (HS.out.later hbel12)
      have HEL := Lib.hid (show ((eTen k i x).map B).length = 16 by rw [List.length_map]; exact eTen_length _ _ _)
      go_simp
      refine hK _ _ hbel12 ?_
      clear hK K hbel12
      refine walkR_free rfl rfl (by rfl) (fun K hK => ?_)
      refine (HS.out.get 0 rfl).opstore rfl rfl rfl Tryz.row16 (by rw [List.length_map]; exact zeros_length 16) HEL.out (oneCell_B _) (fun w13 hb13 ho13 => hK _ _ ?_)
      clear hK K
      have hbel13 := below_only HS.out.bel ho13 (by omega)
      go_simp
      refine walkR_nil ?_
      go_wp2
      refine hb13.result rfl rfl rfl Tryz.row16 HEL.out ⟨rfl, ?_⟩
      rw [HBB.out]
      exact hbel13

end Go.Proofs.YtbpghohkhngdfaaGreatDoor
