/-
  The walks of turn: tables made.
-/
import Derived.Test.YtmpgcilppjkhoaaGreatDoorTurnA
import Derived.Test.YtmpgcilppjkhoaaGreatDoorRegionL
namespace Go.Proofs.YtmpgcilppjkhoaaGreatDoor
open Go.RowKit Go.Mem Go.Ops Go.Cells Go.Oct Go.Gf Go.Trn
set_option linter.unusedSimpArgs false
set_option linter.unusedVariables false
set_option maxRecDepth 100000
attribute [local irreducible] walkR walkP walk0 walkB

/-- The type of a block. -/
def tyAt (w : World) (g : Nat) : TypeId := match w.heap[g]? with
  | some (.cells _ t _) => t
  | _ => 0
/-- The program's variables. -/
structure Globals (w : World) : Prop where
  mixes : Blk w 0 (Trn.mixes.map B) (tyAt w 0)
  unmixes : Blk w 1 (Trn.unmixes.map B) (tyAt w 1)

def word0 : List UInt32 := List.replicate 2048 0
theorem word0_length : word0.length = 2048 := by simp [word0]

theorem Tryz.cellsTables0 : Tryz.zeroCells94 = (.pointer none :: word0.map W).toArray := by kernel_rfl
theorem Tryz.cellsTables (p : Nat) : (Value.agg (Tryz.zeroCells94.setIfInBounds 0 (.pointer (some ⟨p, 0, none⟩)))).cells = (.pointer (some ⟨p, 0, none⟩) :: word0.map W).toArray := by
  rw [Tryz.cellsTables0]
  show Array.setIfInBounds _ _ _ = _
  rw [List.setIfInBounds_toArray, List.set_cons_zero]
theorem Tryz.size32 : (Tryz.prog.info? 90).map (·.size) = some 1 := by kernel_rfl

theorem new_ok (p : Nat) (T : List UInt8) (w : World) (hT : T.length = 512) (hb : Blk w p (T.map B) 101) (hg : Globals w) : Calls Tryz.prog 34 #[.pointer (some ⟨p, 0, none⟩)] w fun e w' =>
    ∃ q, e = .returned (.pointer (some ⟨q, 0, none⟩)) ∧ w.heap.size ≤ q ∧ Blk w' q (.pointer (some ⟨p, 0, none⟩) :: (entries T).map W) 94 ∧ Below w.heap.size w w' := by
  have HB := Lib.hid hb
  have HT := Lib.hid hT
  have HG := Lib.hid hg
  clear hb hT hg
  go_enter Tryz.func34, Tryz.ntmps34
  go_wp2_with (refine wpList_box 94 _ (.pointer (some ⟨p, 0, none⟩) :: word0.map W) _ rfl rfl rfl (Tryz.cellsTables p) ?_)
  intro w1 hb1 hbel1
  have hlt1 := hb1.lt
  have HB1 := Lib.hid hb1
  have HBEL1 := Lib.hid hbel1
  have hpw := HB.out.lt
  have hg1 := HG.out.unmixes.lt
  clear hb1 hbel1
  generalize hq : w.heap.size = q at *
  have HQ := Lib.hid hq
  clear hq
  go_wp2
  go_loopw [11] (fun c wr => ∃ (r : Nat) (l : List UInt32), r ≤ 4 ∧ c = .int .i64 r ∧ Laid T (256 * r) l ∧ Blk wr q (.pointer (some ⟨p, 0, none⟩) :: l.map W) 94 ∧ Below q w wr) (fun c _ => 4 - (intOf c).toNat)
  case atStart => exact ⟨0, word0, by omega, rfl, Laid.zero word0_length, HB1.out, HBEL1.out⟩
  case round =>
    obtain ⟨r, l, hr, rfl, hl, hb, hbel⟩ := hrel
    by_cases hlt : r < 4
    · have HBR := Lib.hid hb
      have HLR := Lib.hid hl
      have HBELR := Lib.hid hbel
      have hd : decide ((r : Int) < 4) = true := by simp; omega
      clear hb hl hbel
      go_wp2
      go_loopw [14] (fun c ws => ∃ (a : Nat) (l : List UInt32), a ≤ 256 ∧ c = .int .i64 a ∧ Laid T (256 * r + a) l ∧ Blk ws q (.pointer (some ⟨p, 0, none⟩) :: l.map W) 94 ∧ Below q w ws) (fun c _ => 256 - (intOf c).toNat)
      case atStart => exact ⟨0, l, by omega, rfl, HLR.out, HBR.out, HBELR.out⟩
      case round =>
        obtain ⟨a, l2, ha, rfl, hl2, hb2, hbel2⟩ := hrel
        by_cases hlt2 : a < 256
        · obtain ⟨x, rfl⟩ : ∃ x : UInt8, a = x.toNat := ⟨UInt8.ofNat a, by rw [UInt8.toNat_ofNat_of_lt' (by show _ < 256; omega)]⟩
          have e1 : entry T (256 * r + x.toNat) = brings mixes r (at8 T x.toNat) := by
            unfold entry
            rw [if_pos (by omega), show (256 * r + x.toNat) / 256 = r by omega, show (256 * r + x.toNat) % 256 = x.toNat by omega]
          have e2 : entry T (1024 + (256 * r + x.toNat)) = brings unmixes r x := by
            unfold entry
            rw [if_neg (by omega), show (1024 + (256 * r + x.toNat) - 1024) / 256 = r by omega, show (1024 + (256 * r + x.toNat)) % 256 = x.toNat by omega, UInt8.ofNat_toNat]
          have E1 := Lib.hid e1
          have E2 := Lib.hid e2
          have HB2 := Lib.hid hb2
          have HL2 := Lib.hid hl2
          have HBEL2 := Lib.hid hbel2
          have HG2 := Lib.hid (Blk.below HG.out.mixes hbel2 (by omega)).drew
          clear hb2 hl2 hbel2 e1 e2
          go_wp2_with fail
          refine wp_region_R [0, 1, 2, 3, 4, 5, 6, 7, 10, 11, 12, 8, 9, 13, 14] (by kernel_rfl) (by kernel_rfl) ?_
          rintro w6 rfl
          refine walkR_one rfl rfl (fun K hK => ?_); go_big_quiet_step (fail); refine wpQuiet_nil (hK _ ?_); clear hK K
          refine walkR_one rfl rfl (fun K hK => ?_); go_big_quiet_step (fail); refine wpQuiet_nil (hK _ ?_); clear hK K
          refine walkR_one rfl rfl (fun K hK => ?_); go_big_quiet_step (fail); refine wpQuiet_nil (hK _ ?_); clear hK K
          refine walkR_load (HG2.out.range) HG2.out.lt Tryz.row4 rfl rfl rfl rfl rfl (fun K hK => ?_)
          go_simp
          refine hK _ ?_
          clear hK K
          repeat (refine walkR_one rfl rfl (fun K hK => ?_); go_big_quiet_step (fail); refine wpQuiet_nil (hK _ ?_); clear hK K)
          refine walkR_call rfl rfl (by rfl) (fun K hK => ?_)
          go_simp
          refine (to_ok p T x _ HT.out (HB.out.below (HBEL2.out.drew) hpw)).mono ?_
          rintro e w7 ⟨rfl, rfl⟩
          go_simp
          refine hK _ _ (Later.refl _) ?_
          clear hK K
          refine walkR_call rfl rfl (by rfl) (fun K hK => ?_)
          go_simp
          refine (brings_ok mixes r (at8 T x.toNat) _ rfl hlt).mono ?_
          rintro e w8 ⟨rfl, hbel8⟩
          go_simp
          rw [← E1.out]
          refine hK _ _ hbel8 ?_
          clear hK K
          repeat (refine walkR_one rfl rfl (fun K hK => ?_); go_big_quiet_step (fail); refine wpQuiet_nil (hK _ ?_); clear hK K)
          have HB8 := Lib.hid (HB2.out.drew.below hbel8 HB2.out.lt)
          have HBEL8 := Lib.hid (HBEL2.out.drew.trans (Below.mono hbel8 (Nat.le_of_lt HB2.out.lt)))
          have hi8 : 1 + r * 256 + x.toNat < (.pointer (some ⟨p, 0, none⟩) :: l2.map W : List Value).length := by rw [List.length_cons, List.length_map, HL2.out.1]; omega
          clear hbel8
          refine walkR_free rfl rfl (by rfl) (fun K hK => ?_)
          refine HB8.out.opset (v := W (entry T (256 * r + x.toNat))) rfl rfl rfl Tryz.size32 rfl rfl hi8 (fun w9 hb9 ho9 => hK _ _ ?_)
          clear hK K
          rw [show 1 + r * 256 + x.toNat = (256 * r + x.toNat) + 1 by omega, List.set_cons_succ, mapW_set] at hb9
          have HB9 := Lib.hid hb9
          have HBEL9 := Lib.hid (below_only HBEL8.out ho9 (Nat.le_refl _))
          have HG9 := Lib.hid (Blk.below HG.out.unmixes HBEL9.out (by omega)).drew
          clear hb9 ho9 hi8
          go_simp
          refine walkR_nil ?_
          go_wp2_with fail
          refine wp_region_R [0, 1, 2, 3, 4, 5, 6, 8, 9, 10, 7, 11, 12] (by kernel_rfl) (by kernel_rfl) ?_
          rintro w6 rfl
          refine walkR_one rfl rfl (fun K hK => ?_); go_big_quiet_step (fail); refine wpQuiet_nil (hK _ ?_); clear hK K
          refine walkR_one rfl rfl (fun K hK => ?_); go_big_quiet_step (fail); refine wpQuiet_nil (hK _ ?_); clear hK K
          refine walkR_one rfl rfl (fun K hK => ?_); go_big_quiet_step (fail); refine wpQuiet_nil (hK _ ?_); clear hK K
          refine walkR_load (HG9.out.range) HG9.out.lt Tryz.row4 rfl rfl rfl rfl rfl (fun K hK => ?_)
          go_simp
          refine hK _ ?_
          clear hK K
          repeat (refine walkR_one rfl rfl (fun K hK => ?_); go_big_quiet_step (fail); refine wpQuiet_nil (hK _ ?_); clear hK K)
          refine walkR_call rfl rfl (by rfl) (fun K hK => ?_)
          go_simp
          refine (brings_ok unmixes r x _ rfl hlt).mono ?_
          rintro e w10 ⟨rfl, hbel10⟩
          go_simp
          rw [← E2.out]
          refine hK _ _ hbel10 ?_
          clear hK K
          repeat (refine walkR_one rfl rfl (fun K hK => ?_); go_big_quiet_step (fail); refine wpQuiet_nil (hK _ ?_); clear hK K)
          have HB10 := Lib.hid (HB9.out.drew.below hbel10 HB9.out.lt)
          have HBEL10 := Lib.hid (HBEL9.out.drew.trans (Below.mono hbel10 (Nat.le_of_lt HB9.out.lt)))
          have hi10 : 1025 + r * 256 + x.toNat < (.pointer (some ⟨p, 0, none⟩) :: (l2.set (256 * r + x.toNat) (entry T (256 * r + x.toNat))).map W : List Value).length := by rw [List.length_cons, List.length_map, List.length_set, HL2.out.1]; omega
          clear hbel10
          refine walkR_free rfl rfl (by rfl) (fun K hK => ?_)
          refine HB10.out.opset (v := W (entry T (1024 + (256 * r + x.toNat)))) rfl rfl rfl Tryz.size32 rfl rfl hi10 (fun w11 hb11 ho11 => hK _ _ ?_)
          clear hK K
          rw [show 1025 + r * 256 + x.toNat = (1024 + (256 * r + x.toNat)) + 1 by omega, List.set_cons_succ, mapW_set] at hb11
          have HB11 := Lib.hid hb11
          have HBEL11 := Lib.hid (below_only HBEL10.out ho11 (Nat.le_refl _))
          clear hb11 ho11 hi10
          go_simp
          refine walkR_nil ?_
          go_wp2
          go_roundw
          case rel => exact ⟨x.toNat + 1, _, by omega, rfl, HL2.out.step (by omega), HB11.out, HBEL11.out⟩
          case measure => simp [intOf]; omega
        · obtain rfl : a = 256 := by omega
          have HB2 := Lib.hid hb2
          have HL2 := Lib.hid (show Laid T (256 * (r + 1)) l2 by rw [show 256 * (r + 1) = 256 * r + 256 by omega]; exact hl2)
          have HBEL2 := Lib.hid hbel2
          clear hb2 hl2 hbel2
          go_wp2
          go_roundw
          case rel => exact ⟨r + 1, _, by omega, rfl, HL2.out, HB2.out, HBEL2.out⟩
          case measure => simp [intOf]; omega
    · obtain rfl : r = 4 := by omega
      obtain rfl := Laid.all (T := T) (l := l) hl
      have HB2 := Lib.hid hb
      clear hb hl
      go_wp2
      go_ret
      obtain rfl := HQ.out
      exact ⟨_, rfl, Nat.le_refl _, HB2.out, hbel⟩

end Go.Proofs.YtmpgcilppjkhoaaGreatDoor
