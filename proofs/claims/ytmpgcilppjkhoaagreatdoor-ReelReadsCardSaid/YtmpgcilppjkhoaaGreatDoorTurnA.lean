/-
  The walks of turn: what a byte brings to a column.
-/
import Derived.Test.YtmpgcilppjkhoaaGreatDoorGfC
import Derived.Test.YtmpgcilppjkhoaaGreatDoorTurnPlain
namespace Go.Proofs.YtmpgcilppjkhoaaGreatDoor
open Go.RowKit Go.Mem Go.Ops Go.Cells Go.Oct Go.Gf Go.Trn
set_option linter.unusedSimpArgs false
set_option linter.unusedVariables false
set_option maxRecDepth 100000
attribute [local irreducible] walkR walkP walk0 walkB

theorem shifted_ok (row column : Nat) (w : World) (h1 : row < 4) (h2 : column < 4) : Calls Tryz.prog 165 #[.int .i64 row, .int .i64 column] w fun e w' => e = .returned (.int .i64 (shifted row column)) ∧ w = w' := by
  have hs : (row : Int) + 4 * (((column : Int) + row) % 4) = ((shifted row column : Nat) : Int) := by unfold shifted; omega
  have HS := Lib.hid hs
  clear hs
  go_enter Tryz.func165, Tryz.ntmps165
  go_wp2
  go_ret
  exact ⟨by rw [← HS.out]; rfl, rfl⟩

theorem brings_ok (by' : List UInt8) (row : Nat) (a : UInt8) (w : World) (hl : by'.length = 4) (h1 : row < 4) : Calls Tryz.prog 41 #[.agg (by'.map B).toArray, .int .i64 row, B a] w fun e w' => e = .returned (W (brings by' row a)) ∧ Below w.heap.size w w' := by
  go_enter Tryz.func41, Tryz.ntmps41
  go_wp2_with (refine wpList_box 96 _ (by'.map B) _ rfl rfl rfl rfl ?_)
  intro w1 hb1 hbel1
  have HB1 := Lib.hid hb1
  have HL := Lib.hid hl
  clear hb1 hl
  go_wp2
  go_loopw [7, 9] (fun n c wr => ∃ r : Nat, r ≤ 4 ∧ c = .int .i64 r ∧ n = W (bringsGo by' row a r) ∧ w1 = wr) (fun _ c _ => 4 - (intOf c).toNat)
  case atStart => exact ⟨0, by omega, rfl, rfl, rfl⟩
  case round =>
    obtain ⟨r, hr, rfl, rfl, rfl⟩ := hrel
    by_cases hlt : r < 4
    · obtain ⟨x, hx⟩ : ∃ x, x = at8 by' ((row + 4 - r) % 4) := ⟨_, rfl⟩
      have hc := HB1.out.cell ((row + 4 - r) % 4) _ (mapB_at (at8_get (b := by') (i := (row + 4 - r) % 4) (by rw [HL.out]; omega)))
      rw [← hx, show (row + 4 - r) % 4 = (((row : Int) - r) % 4).toNat by omega] at hc
      have HX := Lib.hid (show or32 (bringsGo by' row a r) (shl32 (up8_32 (times x a)) (8 * r)) = bringsGo by' row a (r + 1) by rw [hx]; rfl)
      clear hx
      go_wp2_with fail
      refine (times_ok x a _).mono ?_
      rintro e w2 ⟨rfl, rfl⟩
      go_wp2
      go_roundw
      case rel => exact ⟨r + 1, by omega, rfl, by rw [← HX.out], by trivial⟩
      case measure => simp [intOf]; omega
    · obtain rfl : r = 4 := by omega
      go_wp2
      go_ret
      exact ⟨rfl, hbel1⟩

theorem both_ok (a b : List UInt8) (w : World) (ha : a.length = 16) (hb : b.length = 16) : Calls Tryz.prog 166 #[.agg (a.map B).toArray, .agg (b.map B).toArray] w fun e w' => e = .returned (.agg ((both a b).map B).toArray) ∧ Below w.heap.size w w' := by
  have HLA := Lib.hid ha
  have HLB := Lib.hid hb
  have hfin : ∀ l : List UInt8, Filled (fun i => xor8 (at8 a i) (at8 b i)) 16 16 l → l = both a b := fun l h => h.all
  have HFIN := Lib.hid hfin
  clear ha hb hfin
  go_enter Tryz.func166, Tryz.ntmps166
  go_wp2_with (refine wpList_box 172 _ (a.map B) _ rfl rfl rfl rfl ?_)
  intro w1 hb1 hbel1
  go_wp2_with (refine wpList_box 172 _ (b.map B) _ rfl rfl rfl rfl ?_)
  intro w2 hb2 hbel2
  go_wp2_with (refine wpList_var 172 ((zeros 16).map B) _ rfl rfl Tryz.zero16 rfl ?_)
  intro w3 hb3 hbel3
  have hlt1 := hb1.lt
  have hlt2 := hb2.lt
  have hlt3 := hb3.lt
  have HBA := Lib.hid ((hb1.below hbel2 hb1.lt).below hbel3 (by omega))
  have HBB := Lib.hid (hb2.below hbel3 hb2.lt)
  have HBR := Lib.hid hb3
  have HBEL := Lib.hid ((hbel1.trans (hbel2.mono hbel1.size)).trans (hbel3.mono (Nat.le_trans hbel1.size hbel2.size)))
  clear hb1 hb2 hb3 hbel1 hbel2 hbel3
  go_wp2
  go_loopw [6] (fun c wr => ∃ (j : Nat) (l : List UInt8), j ≤ 16 ∧ c = .int .i64 j ∧ l.length = 16 ∧ (∀ i, i < j → l[i]? = some (xor8 (at8 a i) (at8 b i))) ∧ (∀ i, j ≤ i → l[i]? = a[i]?) ∧ Blk wr w.heap.size (l.map B) 172 ∧ Blk wr w1.heap.size (b.map B) 172 ∧ Blk wr w2.heap.size ((zeros 16).map B) 172 ∧ Below w.heap.size w wr) (fun c _ => 16 - (intOf c).toNat)
  case atStart => exact ⟨0, a, by omega, rfl, HLA.out, fun i hi => absurd hi (by omega), fun i _ => rfl, HBA.out, HBB.out, HBR.out, HBEL.out⟩
  case round =>
    obtain ⟨j, l, hj, rfl, hll, hl1, hl2, hba, hbb, hbr, hbel⟩ := hrel
    by_cases hlt : j < 16
    · have hx : l[j]? = some (at8 a j) := by rw [hl2 j (Nat.le_refl _)]; exact at8_get (by rw [HLA.out]; omega)
      have hc1 := fun (x : After wr.drew) => (hba.drew.below x.later hba.lt).cell j _ (mapB_at hx)
      have hc2 := fun (x : After wr.drew) => (hbb.drew.below x.later hbb.lt).cell j _ (mapB_at (at8_get (b := b) (i := j) (by rw [HLB.out]; omega)))
      have HBA := Lib.hid hba
      have HBB := Lib.hid hbb
      have HBR := Lib.hid hbr
      have HLL := Lib.hid hll
      have HL1 := Lib.hid hl1
      have HL2 := Lib.hid hl2
      clear hba hbb hbr hll hl1 hl2 hx
      go_wp2_with fail
      refine wp_region_R [0, 1, 2, 3, 4, 5, 6, 7, 8] (by kernel_rfl) (by kernel_rfl) ?_
      rintro w4 rfl
      repeat (refine walkR_one rfl rfl (fun K hK => ?_); go_big_quiet_step (fail); refine wpQuiet_nil (hK _ ?_); clear hK K)
      clear hc1 hc2
      refine walkR_free rfl rfl (by rfl) (fun K hK => ?_)
      refine HBA.out.drew.opset (v := B (xor8 (at8 a j) (at8 b j))) rfl rfl rfl Tryz.sizeByte rfl rfl (by rw [List.length_map, HLL.out]; omega) (fun w5 hb5 ho5 => hK _ _ ?_)
      clear hK K
      rw [mapB_set] at hb5
      have hbb5 := HBB.out.drew.only ho5 (by omega)
      have hbr5 := HBR.out.drew.only ho5 (by omega)
      have hbel5 := below_only hbel.drew ho5 (Nat.le_refl _)
      clear ho5
      refine walkR_nil ?_
      have HB5 := Lib.hid hb5
      have HBB5 := Lib.hid hbb5
      have HBR5 := Lib.hid hbr5
      clear hb5 hbb5 hbr5
      go_wp2
      go_roundw
      case rel =>
        refine ⟨j + 1, _, by omega, rfl, by simpa using HLL.out, fun i hi => ?_, fun i hi => ?_, HB5.out, HBB5.out, HBR5.out, hbel5⟩
        · rw [List.getElem?_set]
          by_cases e : j = i
          · subst e; simp [HLL.out, hlt]
          · rw [if_neg e]; exact HL1.out i (by omega)
        · rw [List.getElem?_set_ne (by omega)]
          exact HL2.out i (by omega)
      case measure => simp [intOf]; omega
    · obtain rfl : j = 16 := by omega
      obtain rfl := HFIN.out l ⟨hll, hl1⟩
      have HBA := Lib.hid hba
      have HBR := Lib.hid hbr
      have HLL := Lib.hid hll
      clear hba hbr hll hl1 hl2 hbb HFIN
      go_wp2_with (first | (refine HBA.out.wload rfl rfl rfl Tryz.row16 (by rw [List.length_map, HLL.out]) ?_) | (refine HBR.out.wstore rfl rfl rfl rfl Tryz.row16 (by simp [zeros_length]) (by rw [List.length_map, HLL.out]) (oneCell_B _) ?_))
      intro w6 hb6 ho6
      go_wp2
      refine hb6.result rfl rfl rfl Tryz.row16 (by rw [List.length_map, HLL.out]) ⟨rfl, below_only hbel ho6 (by omega)⟩

end Go.Proofs.YtmpgcilppjkhoaaGreatDoor
