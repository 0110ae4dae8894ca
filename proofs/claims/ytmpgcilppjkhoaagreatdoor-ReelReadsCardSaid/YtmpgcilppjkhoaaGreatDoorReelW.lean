/-
  The walk of reel.Write.
-/
import Derived.Test.YtmpgcilppjkhoaaGreatDoorReelB
import Derived.Test.YtmpgcilppjkhoaaGreatDoorReelZ
namespace Go.Proofs.YtmpgcilppjkhoaaGreatDoor
open Go.RowKit Go.Mem Go.Ops Go.Cells Go.Oct Go.Reel
set_option linter.unusedSimpArgs false
set_option linter.unusedVariables false
set_option maxRecDepth 100000
attribute [local irreducible] walkK


set_option maxHeartbeats 4000000 in
theorem write_ok (ao : Option Addr) (n cap : Nat) (xs : List Opr) (w : World) (hn : xs.length = n) (hx : OpsIn w ao xs) (hn2 : n ≤ 100000) (hm : ∀ x ∈ xs, Mild x.c) :
    Calls Tryz.prog 10 #[.slice ao n cap] w fun e w' => ∃ v, e = .returned (.tuple #[v, .int .i64 (errP (xs.map (·.c)))]) ∧
      (errP (xs.map (·.c)) = 0 → OwnB 5 w' w.heap.size v (outP (xs.map (·.c)))) ∧ (errP (xs.map (·.c)) ≠ 0 → v = .slice none 0 0) ∧ Below w.heap.size w w' := by
  have HN := Lib.hid hn
  have HX := Lib.hid hx
  have HM := Lib.hid hm
  clear hn hx hm
  go_enter Tryz.func10, Tryz.ntmps10
  go_wp2
  go_loopw [4, 10] (fun v c wr => ∃ j : Nat, j ≤ n ∧ c = .int .i64 j ∧ Hid (errP ((xs.map (·.c)).take j) = 0) ∧ Hid (OwnB 5 wr w.heap.size v (outP ((xs.map (·.c)).take j))) ∧ Hid (Below w.heap.size w wr)) (fun _ c _ => n - (intOf c).toNat)
  case atStart => exact ⟨0, by omega, rfl, rfl, OwnB.nil _ _ _, Below.refl _ _⟩
  case round =>
    obtain ⟨j, hj, rfl, HE, HO, HB⟩ := hrel
    by_cases hlt : j < n
    · obtain ⟨x, hget⟩ : ∃ x, xs[j]? = some x := ⟨xs[j]'(by rw [HN.out]; exact hlt), by simp⟩
      have HGET := Lib.hid (show (xs.map (·.c))[j]? = some x.c by rw [List.getElem?_map, hget]; rfl)
      have HOT := Lib.hid (outP_take HGET.out)
      have HLEN := Lib.hid (show (outP ((xs.map (·.c)).take j)).length ≤ 700000000 by
        have := outP_length ((xs.map (·.c)).take j) (fun c hc => by
          obtain ⟨y, hy, rfl⟩ := List.mem_map.1 (List.mem_of_mem_take hc)
          exact HM.out y hy)
        rw [List.length_take] at this
        omega)
      obtain ⟨hmk, hmb, hmn⟩ := HM.out x (List.mem_of_getElem? hget)
      have HXI := Lib.hid (HX.out.each x (List.mem_of_getElem? hget))
      obtain ⟨hin, xb, xoff, rfl, hxb, hr⟩ := (HX.out.below HB.out).at hget
      have HR := Lib.hid hr
      clear hget hin hr
      have HL7 := Lib.hid x.vals_length
      have hsz := str_size x.c.name
      generalize outP ((xs.map (·.c)).take j) = bs at *
      go_wp2_with (first | (refine wpList_load_mid rfl 39 (.tmp 12) rfl xb (xoff + j * 7) rfl _ _ HR.out Tryz.underlying39 rfl (by rw [HL7.out]; exact Tryz.rowOp.2) ?_) | (refine wpList_var 39 zeroOp _ rfl rfl Tryz.zeroOp rfl ?_))
      intro w2 hb2 hbel2
      have HO := Lib.hid (HO.out.later hbel2)
      have htx := HB.out.size
      have HB := Lib.hid (HB.out.trans (hbel2.mono HB.out.size))
      generalize htxe : wr.heap.size = tx at *
      clear hbel2
      go_wp2_with (refine hb2.wstore rfl rfl rfl rfl Tryz.rowOp rfl HL7.out x.vals_one ?_)
      intro w3 hb3 ho3
      have HA := Lib.hid (show App 5 39 w tx x.vals w3 _ bs from ⟨HO.out.only ho3 hb2 (by decide), hb3, below_only HB.out ho3 htx⟩)
      clear HO HB hb2 hb3 ho3 HR
      go_wp2_with (refine HA.out.blk.wload rfl rfl rfl Tryz.rowOp HL7.out ?_)
      go_wp2_with fail
      refine (wrong_ok x _).mono ?_
      rintro e w4 ⟨rfl, hbel4⟩
      have HA := Lib.hid (show App 5 39 w tx x.vals w4 _ bs from ⟨HA.out.own.later hbel4, HA.out.blk.below hbel4 HA.out.blk.lt, HA.out.bel.trans (hbel4.mono HA.out.bel.size)⟩)
      clear hbel4
      by_cases herr : x.c.err = 0
      case neg =>
        obtain ⟨het, hee⟩ := errP_take HE.out HGET.out
        have hne : (((x.c.err : Nat) : Int) != 0) = true := by simp; omega
        have HEE := Lib.hid (hee herr)
        have HERR := Lib.hid herr
        clear het hee herr
        go_wp2
        go_ret2
        exact ⟨_, by rw [HEE.out]; rfl, fun h => absurd (HEE.out ▸ h) HERR.out, fun _ => rfl, HA.out.bel⟩
      obtain ⟨het, hee⟩ := errP_take HE.out HGET.out
      have HET := Lib.hid (het.trans herr)
      have HPUT := Lib.hid (x.c.bytes_put bs herr)
      rw [herr]
      clear het hee HE
      go_wp2_with fail
      have k0 := fun (x' : AfterK (Keeps w.heap.size tx) (World.drew w4)) => (x'.rel.block HA.out.drew.blk).cell 0 _ rfl
      have k1 := fun (x' : AfterK (Keeps w.heap.size tx) (World.drew w4)) => (x'.rel.block HA.out.drew.blk).cell 1 _ rfl
      refine wp_region_K (Keeps w.heap.size tx) [] [(0, true), (1, true), (2, true), (4, true), (5, true), (3, false), (6, false), (7, false)] (Keeps.refl _ _) (fun _ _ _ => Keeps.trans) (by kernel_rfl) (by kernel_rfl) ?_
      rintro wA rfl
      have HA := Lib.hid HA.out.drew
      repeat ((first | refine walkK_one rfl rfl (fun K hK => ?_) | refine walkK_alone (Keeps.refl _ _) rfl rfl (fun K hK => ?_) | refine walkK_alone (Same2.refl _ _) rfl rfl (fun K hK => ?_)); go_big_quiet_step (fail); refine wpQuiet_nil (hK _ ?_); clear hK K)
      clear k0
      clear k1
      refine walkK_free rfl (by rfl) (fun K hK => ?_)
      go_simp
      refine (rput_ok _ _ _ 1 x.c.kind _ (by omega) HA.out.own HA.out.bel.size (by have := HLEN.out; simp [putN_length]; omega)).mono ?_
      rintro e w5 ⟨v5, rfl, hown, hg⟩
      have hk := HA.out.keeps (by decide) hg
      have HA := Lib.hid (HA.out.step (by decide) hown hg)
      go_simp
      refine hK _ _ (fun _ => hk) ?_
      clear hK K hown hg hk
      refine walkK_free rfl (by rfl) (fun K hK => ?_)
      go_simp
      refine (rput_ok _ _ _ 1 x.c.a _ (by omega) HA.out.own HA.out.bel.size (by have := HLEN.out; simp [putN_length]; omega)).mono ?_
      rintro e w6 ⟨v6, rfl, hown, hg⟩
      have hk := HA.out.keeps (by decide) hg
      have HA := Lib.hid (HA.out.step (by decide) hown hg)
      go_simp
      refine hK _ _ (fun _ => hk) ?_
      clear hK K hown hg hk
      repeat ((first | refine walkK_one rfl rfl (fun K hK => ?_) | refine walkK_alone (Keeps.refl _ _) rfl rfl (fun K hK => ?_) | refine walkK_alone (Same2.refl _ _) rfl rfl (fun K hK => ?_)); go_big_quiet_step (fail); refine wpQuiet_nil (hK _ ?_); clear hK K)
      refine walkK_nil ?_
      go_wp2_with fail
      have k2 := fun (x' : AfterK (Keeps w.heap.size tx) (World.drew w6)) => (x'.rel.block HA.out.drew.blk).cell 2 _ rfl
      have k3 := fun (x' : AfterK (Keeps w.heap.size tx) (World.drew w6)) => (x'.rel.block HA.out.drew.blk).cell 3 _ rfl
      refine wp_region_K (Keeps w.heap.size tx) [] [(0, true), (1, true), (2, true), (4, true), (5, true), (3, false), (6, false), (7, false)] (Keeps.refl _ _) (fun _ _ _ => Keeps.trans) (by kernel_rfl) (by kernel_rfl) ?_
      rintro wA rfl
      have HA := Lib.hid HA.out.drew
      repeat ((first | refine walkK_one rfl rfl (fun K hK => ?_) | refine walkK_alone (Keeps.refl _ _) rfl rfl (fun K hK => ?_) | refine walkK_alone (Same2.refl _ _) rfl rfl (fun K hK => ?_)); go_big_quiet_step (fail); refine wpQuiet_nil (hK _ ?_); clear hK K)
      clear k2
      clear k3
      refine walkK_free rfl (by rfl) (fun K hK => ?_)
      go_simp
      refine (rput_ok _ _ _ 4 x.c.n _ (by omega) HA.out.own HA.out.bel.size (by have := HLEN.out; simp [putN_length]; omega)).mono ?_
      rintro e w7 ⟨v7, rfl, hown, hg⟩
      have hk := HA.out.keeps (by decide) hg
      have HA := Lib.hid (HA.out.step (by decide) hown hg)
      go_simp
      refine hK _ _ (fun _ => hk) ?_
      clear hK K hown hg hk
      refine walkK_free rfl (by rfl) (fun K hK => ?_)
      go_simp
      refine (rput_ok _ _ _ 4 x.c.m _ (by omega) HA.out.own HA.out.bel.size (by have := HLEN.out; simp [putN_length]; omega)).mono ?_
      rintro e w8 ⟨v8, rfl, hown, hg⟩
      have hk := HA.out.keeps (by decide) hg
      have HA := Lib.hid (HA.out.step (by decide) hown hg)
      go_simp
      refine hK _ _ (fun _ => hk) ?_
      clear hK K hown hg hk
      repeat ((first | refine walkK_one rfl rfl (fun K hK => ?_) | refine walkK_alone (Keeps.refl _ _) rfl rfl (fun K hK => ?_) | refine walkK_alone (Same2.refl _ _) rfl rfl (fun K hK => ?_)); go_big_quiet_step (fail); refine wpQuiet_nil (hK _ ?_); clear hK K)
      refine walkK_nil ?_
      go_wp2_with fail
      have k4 := fun (x' : AfterK (Keeps w.heap.size tx) (World.drew w8)) => (x'.rel.block HA.out.drew.blk).cell 4 _ rfl
      refine wp_region_K (Keeps w.heap.size tx) [] [(0, true), (1, true), (2, true), (3, true), (5, true), (6, true), (4, false), (7, false), (8, false)] (Keeps.refl _ _) (fun _ _ _ => Keeps.trans) (by kernel_rfl) (by kernel_rfl) ?_
      rintro wA rfl
      have HA := Lib.hid HA.out.drew
      repeat ((first | refine walkK_one rfl rfl (fun K hK => ?_) | refine walkK_alone (Keeps.refl _ _) rfl rfl (fun K hK => ?_) | refine walkK_alone (Same2.refl _ _) rfl rfl (fun K hK => ?_)); go_big_quiet_step (fail); refine wpQuiet_nil (hK _ ?_); clear hK K)
      clear k4
      refine walkK_free rfl (by rfl) (fun K hK => ?_)
      go_simp
      refine (rput_ok _ _ _ 1 x.c.key.length _ (by omega) HA.out.own HA.out.bel.size (by have := HLEN.out; simp [putN_length]; omega)).mono ?_
      rintro e w9 ⟨v9, rfl, hown, hg⟩
      have hk := HA.out.keeps (by decide) hg
      have HA := Lib.hid (HA.out.step (by decide) hown hg)
      go_simp
      refine hK _ _ (fun _ => hk) ?_
      clear hK K hown hg hk
      refine walkK_free rfl (by rfl) (fun K hK => ?_)
      refine op_append_bytes 24 (.tmp 37) (.tmp 39) rfl Tryz.underlying24 Tryz.infoByteR rfl HA.out.own x.ko _ x.kc x.c.key rfl rfl ((HXI.out.below HA.out.bel).key) (by have := HLEN.out; simp [putN_length]; omega) HA.out.bel.size (fun v10 w10 hown hg => ?_)
      have hk := HA.out.keeps (by decide) hg
      have HA := Lib.hid (HA.out.step (by decide) hown hg)
      go_simp
      refine hK _ _ (fun _ => hk) ?_
      clear hK K hown hg hk
      repeat ((first | refine walkK_one rfl rfl (fun K hK => ?_) | refine walkK_alone (Keeps.refl _ _) rfl rfl (fun K hK => ?_) | refine walkK_alone (Same2.refl _ _) rfl rfl (fun K hK => ?_)); go_big_quiet_step (fail); refine wpQuiet_nil (hK _ ?_); clear hK K)
      refine walkK_nil ?_
      go_wp2_with fail
      have k5 := fun (x' : AfterK (Keeps w.heap.size tx) (World.drew w10)) => (x'.rel.block HA.out.drew.blk).cell 5 _ rfl
      refine wp_region_K (Keeps w.heap.size tx) [] [(0, true), (1, true), (2, true), (3, true), (5, true), (6, true), (4, false), (7, false), (8, false)] (Keeps.refl _ _) (fun _ _ _ => Keeps.trans) (by kernel_rfl) (by kernel_rfl) ?_
      rintro wA rfl
      have HA := Lib.hid HA.out.drew
      repeat ((first | refine walkK_one rfl rfl (fun K hK => ?_) | refine walkK_alone (Keeps.refl _ _) rfl rfl (fun K hK => ?_) | refine walkK_alone (Same2.refl _ _) rfl rfl (fun K hK => ?_)); go_big_quiet_step (fail); refine wpQuiet_nil (hK _ ?_); clear hK K)
      clear k5
      refine walkK_free rfl (by rfl) (fun K hK => ?_)
      go_simp
      refine (rput_ok _ _ _ 2 x.c.b.length _ (by omega) HA.out.own HA.out.bel.size (by have := HLEN.out; simp [putN_length]; omega)).mono ?_
      rintro e w11 ⟨v11, rfl, hown, hg⟩
      have hk := HA.out.keeps (by decide) hg
      have HA := Lib.hid (HA.out.step (by decide) hown hg)
      go_simp
      refine hK _ _ (fun _ => hk) ?_
      clear hK K hown hg hk
      refine walkK_free rfl (by rfl) (fun K hK => ?_)
      refine op_append_bytes 24 (.tmp 45) (.tmp 47) rfl Tryz.underlying24 Tryz.infoByteR rfl HA.out.own x.bo _ x.bc x.c.b rfl rfl ((HXI.out.below HA.out.bel).b) (by have := HLEN.out; simp [putN_length]; omega) HA.out.bel.size (fun v12 w12 hown hg => ?_)
      have hk := HA.out.keeps (by decide) hg
      have HA := Lib.hid (HA.out.step (by decide) hown hg)
      go_simp
      refine hK _ _ (fun _ => hk) ?_
      clear hK K hown hg hk
      repeat ((first | refine walkK_one rfl rfl (fun K hK => ?_) | refine walkK_alone (Keeps.refl _ _) rfl rfl (fun K hK => ?_) | refine walkK_alone (Same2.refl _ _) rfl rfl (fun K hK => ?_)); go_big_quiet_step (fail); refine wpQuiet_nil (hK _ ?_); clear hK K)
      refine walkK_nil ?_
      go_wp2_with fail
      have k6 := fun (x' : AfterK (Keeps w.heap.size tx) (World.drew w12)) => (x'.rel.block HA.out.drew.blk).cell 6 _ rfl
      refine wp_region_K (Keeps w.heap.size tx) [] [(0, true), (1, true), (2, true), (3, true), (5, true), (6, true), (4, false), (7, false), (8, false)] (Keeps.refl _ _) (fun _ _ _ => Keeps.trans) (by kernel_rfl) (by kernel_rfl) ?_
      rintro wA rfl
      have HA := Lib.hid HA.out.drew
      repeat ((first | refine walkK_one rfl rfl (fun K hK => ?_) | refine walkK_alone (Keeps.refl _ _) rfl rfl (fun K hK => ?_) | refine walkK_alone (Same2.refl _ _) rfl rfl (fun K hK => ?_)); go_big_quiet_step (fail); refine wpQuiet_nil (hK _ ?_); clear hK K)
      clear k6
      refine walkK_free rfl (by rfl) (fun K hK => ?_)
      go_simp
      refine (rput_ok _ _ _ 2 x.c.name.length _ (by omega) HA.out.own HA.out.bel.size (by have := HLEN.out; simp [putN_length]; omega)).mono ?_
      rintro e w13 ⟨v13, rfl, hown, hg⟩
      have hk := HA.out.keeps (by decide) hg
      have HA := Lib.hid (HA.out.step (by decide) hown hg)
      go_simp
      refine hK _ _ (fun _ => hk) ?_
      clear hK K hown hg hk
      refine walkK_free rfl (by rfl) (fun K hK => ?_)
      refine op_append_str 24 9 (.tmp 53) (.tmp 55) rfl Tryz.underlying24 Tryz.underlying9 Tryz.infoByteR rfl HA.out.own x.c.name rfl (by have := HLEN.out; simp [putN_length]; omega) HA.out.bel.size (fun v14 w14 hown hg => ?_)
      have hk := HA.out.keeps (by decide) hg
      have HA := Lib.hid (HA.out.step (by decide) hown hg)
      go_simp
      refine hK _ _ (fun _ => hk) ?_
      clear hK K hown hg hk
      repeat ((first | refine walkK_one rfl rfl (fun K hK => ?_) | refine walkK_alone (Keeps.refl _ _) rfl rfl (fun K hK => ?_) | refine walkK_alone (Same2.refl _ _) rfl rfl (fun K hK => ?_)); go_big_quiet_step (fail); refine wpQuiet_nil (hK _ ?_); clear hK K)
      refine walkK_nil ?_
      go_wp2
      go_roundw
      case rel => exact ⟨j + 1, by omega, by go_num, HET, by rw [HOT.out, ← HPUT.out]; exact HA.out.own, HA.out.bel⟩
      case measure => simp [intOf]; omega
    · obtain rfl : j = n := by omega
      rw [List.take_of_length_le (by rw [List.length_map]; exact Nat.le_of_eq HN.out)] at HE HO
      go_wp2
      go_ret2
      exact ⟨_, by rw [HE.out]; rfl, fun _ => HO.out, fun h => absurd HE.out h, HB.out⟩

end Go.Proofs.YtmpgcilppjkhoaaGreatDoor
