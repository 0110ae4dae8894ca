/-
  The walks of gf: AES's boxes made.
-/
import Derived.Test.YtmpgcilppjkhoaaGreatDoorGfB
namespace Go.Proofs.YtmpgcilppjkhoaaGreatDoor
open Go.RowKit Go.Mem Go.Ops Go.Cells Go.Oct Go.Gf
set_option linter.unusedSimpArgs false
set_option linter.unusedVariables false
set_option maxRecDepth 100000
attribute [local irreducible] walkR walkP walk0 walkB

theorem Tryz.zero255 : (Tryz.prog.info? 98).map (·.zero) = some (some (.agg ((zeros 255).map B).toArray)) := by kernel_rfl
theorem Tryz.zeroBoxes : (Tryz.prog.info? 101).map (·.zero) = some (some (.agg ((zeros 512).map B).toArray)) := by kernel_rfl

theorem Tryz.cellsBoxes : (Value.agg Tryz.zeroCells101).cells = ((zeros 512).map B).toArray := by kernel_rfl

theorem make_ok (w : World) : Calls Tryz.prog 35 #[] w fun e w' => ∃ p, e = .returned (.pointer (some ⟨p, 0, none⟩)) ∧ w.heap.size ≤ p ∧ Blk w' p (boxes.map B) 101 ∧ Below w.heap.size w w' := by
  go_enter Tryz.func35, Tryz.ntmps35
  go_wp2_with (refine wpList_var 98 ((zeros 255).map B) _ rfl rfl Tryz.zero255 rfl ?_)
  intro w1 hb1 hbel1
  have HB1 := Lib.hid hb1
  have HBEL1 := Lib.hid hbel1
  have hlt1 := hb1.lt
  clear hb1 hbel1
  go_wp2
  go_loopw [2, 6] (fun e c wr => ∃ (k : Nat) (l : List UInt8), k ≤ 255 ∧ c = .int .i64 k ∧ e = B (powGo k) ∧ Filled powGo 255 k l ∧ Blk wr w.heap.size (l.map B) 98 ∧ Below w.heap.size w wr) (fun _ c _ => 255 - (intOf c).toNat)
  case atStart => exact ⟨0, zeros 255, by omega, rfl, rfl, Filled.zero (zeros_length _), HB1.out, HBEL1.out⟩
  case round =>
    obtain ⟨k, l, hk, rfl, rfl, hF, hb, hbel⟩ := hrel
    by_cases hlt : k < 255
    · obtain ⟨x, hx⟩ := hF.at hlt
      have hc := hb.cell k _ (mapB_at hx)
      have hf := hb.free k
      have HB := Lib.hid hb
      have HF := Lib.hid hF
      clear hb hx hF
      go_wp2_with fail
      refine (double_ok (powGo k) _).mono ?_
      rintro e w2 ⟨rfl, rfl⟩
      go_wp2
      go_roundw
      case rel => exact ⟨k + 1, _, by omega, rfl, rfl, HF.out.step hlt, mapB_set _ _ _ ▸ HB.out.set k _, hbel.setCell (by simp) _⟩
      case measure => simp [intOf]; omega
    · obtain rfl : k = 255 := by omega
      have HBP := Lib.hid hb
      have HPW := Lib.hid (show ∀ i, i < 255 → l[i]? = some (powGo i) from hF.2)
      have hltp := hb.lt
      clear hb hF
      go_wp2_with (refine wpList_box 101 _ ((zeros 512).map B) _ rfl rfl rfl Tryz.cellsBoxes ?_)
      intro w3 hb3 hbel3
      have HBP := Lib.hid (HBP.out.below hbel3 HBP.out.lt)
      have HB3 := Lib.hid hb3
      have HBEL := Lib.hid (hbel.trans (hbel3.mono hbel.size))
      clear hb3 hbel3
      generalize hq : wr.heap.size = q at *
      have hwq : w.heap.size < q := by omega
      have HQ := Lib.hid hq
      clear hq
      go_wp2_with fail
      refine (box_ok 0 _).mono ?_
      rintro e w4 ⟨rfl, rfl⟩
      go_wp2_with fail
      refine (put_ok q (zeros 512) 0 (box 0) _ (zeros_length _) HB3.out).mono ?_
      rintro e w5 ⟨rfl, hb5, ho5⟩
      have HBP := Lib.hid (HBP.out.only ho5 (by omega))
      have HBEL := Lib.hid (below_only HBEL.out ho5 (by omega))
      have HB5 := Lib.hid hb5
      clear hb5 ho5 HB3
      have hwq2 : w.heap.size < q := by have := HB5.out.lt; have := HQ.out; omega
      go_wp2
      go_loopw [22] (fun c wr => ∃ k : Nat, k ≤ 255 ∧ c = .int .i64 k ∧ Blk wr w.heap.size (l.map B) 98 ∧ Blk wr q ((makeGo k).map B) 101 ∧ Below w.heap.size w wr) (fun c _ => 255 - (intOf c).toNat)
      case atStart => exact ⟨0, by omega, rfl, HBP.out, HB5.out, HBEL.out⟩
      case round =>
        obtain ⟨k, hk, rfl, hbp, hb, hbel⟩ := hrel
        by_cases hlt : k < 255
        · have hc1 := fun (x : AfterB q wr.drew) => (hbp.drew.below x.below hwq2).cell k _ (mapB_at (HPW.out k hlt))
          have hc2 : ∀ (x : AfterB q wr.drew), x.val.cell? ⟨w.heap.size, (-(k : Int) % 255).toNat, none⟩ = some (B (powGo ((255 - k) % 255))) := by
            intro x
            rw [show (-(k : Int) % 255).toNat = (255 - k) % 255 by omega]
            exact (hbp.drew.below x.below hwq2).cell ((255 - k) % 255) _ (mapB_at (HPW.out ((255 - k) % 255) (Nat.mod_lt _ (by omega))))
          have HBP := Lib.hid hbp
          have HB := Lib.hid hb
          clear hbp hb
          go_wp2_with fail
          refine wp_region_B q [(0, true), (1, true), (2, true), (3, true), (4, true), (5, true), (6, true), (7, true), (8, true), (9, false), (10, false)] (by kernel_rfl) (by kernel_rfl) ?_
          rintro w6 rfl
          repeat ((first | refine walkB_one rfl rfl (fun K hK => ?_) | refine walkB_alone rfl rfl (fun K hK => ?_)); go_big_quiet_step (fail); refine wpQuiet_nil (hK _ ?_); clear hK K)
          clear hc1 hc2
          refine walkB_free rfl (by rfl) (fun K hK => ?_)
          go_simp
          refine (box_ok _ _).mono ?_
          rintro e w7 ⟨rfl, rfl⟩
          go_simp
          refine hK _ _ (Below.refl _ _) ?_
          clear hK K
          refine walkB_free rfl (by rfl) (fun K hK => ?_)
          go_simp
          refine (put_ok q (makeGo k) (powGo k) (box (powGo ((255 - k) % 255))) _ (makeGo_length k) HB.out.drew).mono ?_
          rintro e w8 ⟨rfl, hb8, ho8⟩
          go_simp
          refine hK _ _ (below_only (Below.refl _ _) ho8 (Nat.le_refl _)) ?_
          clear hK K
          refine walkB_nil ?_
          have hbp8 := HBP.out.drew.only ho8 (by omega)
          have hbel8 := below_only hbel.drew ho8 (by omega)
          have HB8 := Lib.hid (show Blk w8 q ((makeGo (k + 1)).map B) 101 from hb8)
          clear hb8 ho8
          go_wp2
          go_roundw
          case rel => exact ⟨k + 1, by omega, rfl, hbp8, HB8.out, hbel8⟩
          case measure => simp [intOf]; omega
        · obtain rfl : k = 255 := by omega
          have HB := Lib.hid hb
          clear hb
          go_wp2
          go_ret
          exact ⟨q, rfl, Nat.le_of_lt hwq2, HB.out, hbel⟩

end Go.Proofs.YtmpgcilppjkhoaaGreatDoor
