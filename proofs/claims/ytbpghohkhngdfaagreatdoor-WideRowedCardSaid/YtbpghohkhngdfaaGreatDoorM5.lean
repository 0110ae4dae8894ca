/-
  Texts of this claim, one behind the other: OctB OctC Scope GfA RegionB GfB GfC TurnA.
-/
import Derived.Test.YtbpghohkhngdfaaGreatDoorM2
import Derived.Test.YtbpghohkhngdfaaGreatDoorM4
import Derived.Test.YtbpghohkhngdfaaGreatDoorM3
import Derived.ScopeJumps
import Derived.WalkKit
/-
  The walks of octet: numbers of 128 bits, and rows put together.
-/
namespace Go.Proofs.YtbpghohkhngdfaaGreatDoor
open Go.RowKit Go.Mem Go.Ops Go.Cells Go.Oct
set_option linter.unusedSimpArgs false
set_option maxRecDepth 100000
attribute [local irreducible] walkR walkP walk0

theorem Tryz.rowWide : Row Tryz.prog 284 2 := ⟨by kernel_rfl, by kernel_rfl⟩
theorem Tryz.zeroWide : (Tryz.prog.info? 284).map (·.zero) = some (some (.agg #[L 0, L 0])) := by kernel_rfl

theorem load_ok (ao : Option Addr) (len cap : Nat) (bs : List UInt8) (w : World) (hlen : bs.length = len) (hc : len ≤ 1099511627776) (hl : Lies w ao (bs.map B)) :
    Calls Tryz.prog 290 #[.slice ao len cap] w fun e w' => e = .returned (.agg #[L (longL bs 0), L (longL bs 8)]) ∧ Below w.heap.size w w' := by
  have HLEN := Lib.hid hlen
  have HL := Lib.hid hl
  clear hlen hl
  go_enter Tryz.func290, Tryz.ntmps290
  go_wp2_with (refine wpList_var 284 [L 0, L 0] _ rfl rfl Tryz.zeroWide rfl ?_)
  intro w0 hb0 hbel0
  have HB0 := Lib.hid hb0
  clear hb0
  go_wp2_with fail
  refine (long_ok ao len cap 0 bs _ HLEN.out (by omega) hc (HL.out.below hbel0)).mono ?_
  rintro e w1 ⟨rfl, hbel⟩
  go_wp2_with fail
  refine (long_ok ao len cap 8 bs _ HLEN.out (by omega) hc (HL.out.below (hbel0.trans (hbel.mono hbel0.size)))).mono ?_
  rintro e w2 ⟨rfl, hbel2⟩
  have hb2 := (HB0.out.below hbel HB0.out.lt).below hbel2 (Nat.lt_of_lt_of_le HB0.out.lt hbel.size)
  have HB2 := Lib.hid hb2
  clear hb2
  go_wp2_with (refine HB2.out.wstore rfl rfl rfl (cs := [L (longL bs 0), L (longL bs 8)]) rfl Tryz.rowWide rfl rfl (by simp [Value.oneCell']) ?_)
  intro w3 hb3 ho3
  go_wp2
  refine hb3.result rfl rfl rfl Tryz.rowWide rfl ⟨rfl, ?_⟩
  exact below_only ((hbel0.trans (hbel.mono hbel0.size)).trans (hbel2.mono (Nat.le_trans hbel0.size hbel.size))) ho3 (Nat.le_refl _)

set_option maxHeartbeats 400000 in
theorem bytes_ok (lo hi : UInt64) (w : World) :
    Calls Tryz.prog 293 #[.agg #[L lo, L hi]] w fun e w' => e = .returned (.agg ((putLong lo ++ putLong hi).map B).toArray) ∧ Below w.heap.size w w' := by
  go_enter Tryz.func293, Tryz.ntmps293
  go_wp2_with (refine wpList_box 284 (.tmp 0) [L lo, L hi] _ rfl rfl rfl rfl ?_)
  intro w1 hb0 hbel1
  go_wp2_with (refine wpList_var 52 ((zeros 16).map B) _ rfl rfl Tryz.zero16 rfl ?_)
  intro w2 hb1 hbel2
  go_wp2_with (refine wpList_var 52 ((zeros 16).map B) _ rfl rfl Tryz.zero16 rfl ?_)
  intro w3 hb2 hbel3
  have hb0' := ((hb0.below hbel2 hb0.lt).below hbel3 (Nat.lt_of_lt_of_le hb0.lt hbel2.size)).drew
  have hc0 := fun (x : After w3.drew) => (hb0'.below x.later hb0'.lt).cell 0 (L lo) rfl
  have hc1 := fun (x : After w3.drew) => (hb0'.below x.later hb0'.lt).cell 1 (L hi) rfl
  have HB1 := Lib.hid (hb1.below hbel3 hb1.lt)
  have HB2 := Lib.hid hb2
  have hlt1 := Nat.lt_of_lt_of_le hb0.lt (Nat.le_refl w1.heap.size)
  have hlt2 := hb1.lt
  have hlt3 := hb2.lt
  have HBEL := Lib.hid (show Below w.heap.size w w3 from (hbel1.trans (hbel2.mono hbel1.size)).trans (hbel3.mono (Nat.le_trans hbel1.size hbel2.size)))
  clear hb0 hb1 hb2 hb0' hbel1 hbel2 hbel3
  go_wp2_with fail
  refine wp_region_P [0, 1, 3, 4] [2, 5] [8, 9] [Floater.var 6 4 201 ((zeros 8).map B), Floater.var 7 5 201 ((zeros 8).map B)] (by kernel_rfl) (by kernel_rfl) ?_
  rintro w4 rfl
  repeat (refine walk0_one rfl rfl rfl (fun K hK => ?_); go_big_quiet_step (fail); refine wpQuiet_nil (hK _ ?_); clear hK K)
  refine walk0_nil ⟨?_, ?_, Nat.le_refl _⟩
  · intro f hf
    simp at hf
    rcases hf with rfl | rfl
    · exact fits_var _ _ _ _ _ _ rfl rfl rfl rfl (by simp) Tryz.zero8 rfl
    · exact fits_var _ _ _ _ _ _ rfl rfl rfl rfl (by simp) Tryz.zero8 rfl
  clear hc0 hc1
  refine walkP_call2 rfl rfl (fun u v w5 hl5 K hK => ?_)
  go_simp
  refine (putlong_ok lo w5).mono ?_
  rintro e w6 ⟨rfl, hbel6⟩
  go_simp
  refine hK _ _ hbel6 ?_
  clear hK K
  refine walkP_call2 rfl rfl (fun u v w7 hl7 K hK => ?_)
  go_simp
  refine (putlong_ok hi w7).mono ?_
  rintro e w8 ⟨rfl, hbel8⟩
  go_simp
  refine hK _ _ hbel8 ?_
  clear hK K
  refine walkP_nil2 (fun n m w9 hl9 hn hm hnm hbn hbm => ?_)
  go_simp
  have hl := (((hl5.trans hbel6).trans hl7).trans hbel8).trans hl9
  have HB1 := Lib.hid (HB1.out.drew.below hl HB1.out.lt)
  have HB2 := Lib.hid (HB2.out.drew.below hl HB2.out.lt)
  have HBN := Lib.hid (show Blk w9 n ((zeros 8).map B) 201 from hbn)
  have HBM := Lib.hid (show Blk w9 m ((zeros 8).map B) 201 from hbm)
  have HBEL := Lib.hid (HBEL.out.drew.trans (Below.mono hl HBEL.out.drew.size))
  clear hl hl5 hbel6 hl7 hbel8 hl9 hbn hbm
  refine walkR_free rfl rfl (by rfl) (fun K hK => ?_)
  refine HBN.out.opstore rfl rfl rfl Tryz.row8 (by simp [zeros_length]) (by simp [putLong_length]) (oneCell_B _) (fun w10 hn10 ho10 => hK _ _ ?_)
  clear hK K
  go_simp
  have HB1 := Lib.hid (HB1.out.only ho10 (by omega))
  have HB2 := Lib.hid (HB2.out.only ho10 (by omega))
  have HBM := Lib.hid (HBM.out.only ho10 (by omega))
  have HBN := Lib.hid hn10
  have HBEL := Lib.hid (below_only HBEL.out ho10 (by omega))
  refine walkR_free rfl rfl (by rfl) (fun K hK => ?_)
  refine HBM.out.opstore rfl rfl rfl Tryz.row8 (by simp [zeros_length]) (by simp [putLong_length]) (oneCell_B _) (fun w11 hm11 ho11 => hK _ _ ?_)
  clear hK K
  go_simp
  have HB1 := Lib.hid (HB1.out.only ho11 (by omega))
  have HB2 := Lib.hid (HB2.out.only ho11 (by omega))
  have HBN := Lib.hid (HBN.out.only ho11 (by omega))
  have HBM := Lib.hid hm11
  have HBEL := Lib.hid (below_only HBEL.out ho11 (by omega))
  clear ho10 ho11 hn10 hm11
  refine walkR_nil ?_
  go_wp2_with fail
  refine wp_region_R [0, 1, 2] (by kernel_rfl) (by kernel_rfl) ?_
  rintro w12 rfl
  repeat (refine walkR_one rfl rfl (fun K hK => ?_); go_big_quiet_step (fail); refine wpQuiet_nil (hK _ ?_); clear hK K)
  refine walkR_free rfl rfl (by rfl) (fun K hK => ?_)
  refine HB2.out.drew.opcopy 0 ((putLong lo).map B) rfl rfl rfl Tryz.underlying22 Tryz.sizeByte (fun _ => rfl) HBN.out.drew.lies (by simp [putLong_length]) (by simp [putLong_length, zeros_length]) (oneCell_B _) (fun w13 hb13 ho13 => hK _ _ ?_)
  clear hK K
  go_simp
  have HB1 := Lib.hid (HB1.out.drew.only ho13 (by omega))
  have HBM := Lib.hid (HBM.out.drew.only ho13 (by omega))
  have HB2 := Lib.hid hb13
  have HBEL := Lib.hid (below_only HBEL.out.drew ho13 (by omega))
  clear hb13 ho13
  refine walkR_nil ?_
  go_wp2_with fail
  refine wp_region_R [0, 1, 2] (by kernel_rfl) (by kernel_rfl) ?_
  rintro w14 rfl
  repeat (refine walkR_one rfl rfl (fun K hK => ?_); go_big_quiet_step (fail); refine wpQuiet_nil (hK _ ?_); clear hK K)
  refine walkR_free rfl rfl (by rfl) (fun K hK => ?_)
  refine HB2.out.drew.opcopy 8 ((putLong hi).map B) rfl rfl rfl Tryz.underlying22 Tryz.sizeByte (fun _ => rfl) HBM.out.drew.lies (by simp [putLong_length]) (by simp [splice, putLong_length, zeros_length]) (oneCell_B _) (fun w15 hb15 ho15 => hK _ _ ?_)
  clear hK K
  go_simp
  have hrow : splice (splice ((zeros 16).map B) 0 ((putLong lo).map B)) 8 ((putLong hi).map B) = (putLong lo ++ putLong hi).map B := by
    simp [splice, putLong_length, zeros]
  rw [hrow] at hb15
  have hlen : ((putLong lo ++ putLong hi).map B).length = 16 := by simp [putLong_length]
  have HB1 := Lib.hid (HB1.out.drew.only ho15 (by omega))
  have HB2 := Lib.hid hb15
  have HBEL := Lib.hid (below_only HBEL.out.drew ho15 (by omega))
  have HLEN := Lib.hid hlen
  have HONE := Lib.hid (oneCell_B (putLong lo ++ putLong hi))
  clear hb15 ho15 hlen hrow
  generalize hcs : (putLong lo ++ putLong hi).map B = cs at *
  have HCS := Lib.hid hcs
  clear hcs
  refine walkR_nil ?_
  go_wp2_with (first | (refine HB2.out.wload rfl rfl rfl Tryz.row16 HLEN.out ?_) | (refine HB1.out.wstore rfl rfl rfl (cs := cs) rfl Tryz.row16 (by simp [zeros_length]) HLEN.out HONE.out ?_))
  intro w16 hb16 ho16
  go_wp2
  refine hb16.result rfl rfl rfl Tryz.row16 HLEN.out ⟨by rw [HCS.out], below_only HBEL.out ho16 (by omega)⟩

theorem room_ok (n size : Nat) (w : World) (hn : n ≤ 1099511627776) (hs : 1 ≤ size) (hs2 : size ≤ 1099511627776) :
    Calls Tryz.prog 237 #[.int .i64 n, .int .i64 size] w fun e w' => e = .returned (.int .i64 (roomL n size)) ∧ w = w' := by
  have hm : (n : Int) % size < size := Int.emod_lt_of_pos _ (by omega)
  have hm0 : (0 : Int) ≤ (n : Int) % size := Int.emod_nonneg _ (by omega)
  have he : (((size : Int) - (n : Int) % size) % size) = (roomL n size : Int) := by
    unfold roomL
    rw [Int.natCast_emod, Int.ofNat_sub (Nat.le_of_lt (Nat.mod_lt _ (by omega))), Int.natCast_emod]
  have HE := Lib.hid he
  clear he
  go_enter Tryz.func237, Tryz.ntmps237
  go_wp2
  go_ret
  exact ⟨by rw [HE.out]; rfl, rfl⟩

theorem Tryz.infoByte : (Tryz.prog.info? 5).map (fun i => (i.zero, i.size, i.bytes)) = some (some (.int .u8 0), 1, 1) := by kernel_rfl

theorem repB (n : Nat) : List.replicate n (Value.int .u8 0) = (zeros n).map B := by simp [zeros]

theorem xor_ok (a1 a2 : Option Addr) (l1 l2 k1 k2 : Nat) (b1 b2 : List UInt8) (w : World) (hl1 : b1.length = l1) (hl2 : b2.length = l2) (hc1 : l1 ≤ 1099511627776) (_ : l2 ≤ 1099511627776) (hs1 : Lies w a1 (b1.map B)) (hs2 : Lies w a2 (b2.map B)) :
    Calls Tryz.prog 125 #[.slice a1 l1 k1, .slice a2 l2 k2] w (Fresh w 5 1 (min l1 l2) ((xorL b1 b2).map B) id) := by
  obtain ⟨n, hn⟩ : ∃ n, n = min l1 l2 := ⟨_, rfl⟩
  rw [← hn]
  have hmin : (if l2 < l1 then (l2 : Int) else (l1 : Int)) = (n : Int) := by rw [hn]; split <;> omega
  have hn1 : n ≤ l1 := by omega
  have hn2 : n ≤ l2 := by omega
  have hxl : n = min b1.length b2.length := by rw [hl1, hl2]; exact hn
  have HL1 := Lib.hid hl1
  have HL2 := Lib.hid hl2
  have HS1 := Lib.hid hs1
  have HS2 := Lib.hid hs2
  have HX := Lib.hid hxl
  clear hn hl1 hl2 hs1 hs2 hxl
  go_enter Tryz.func125, Tryz.ntmps125
  go_wp2_with (at_make; refine wpList_make 22 5 (.int .u8 0) 1 n rfl rfl rfl rfl Tryz.underlying22 Tryz.infoByte rfl ?h1 ?h2 (by omega) (by unfold maxLen; omega) ?_)
  case h1 => rfl
  case h2 => rfl
  intro w1 hb1 hbel1
  rw [repB] at hb1
  have hlt1 := hb1.lt
  have HB1 := Lib.hid hb1
  have HBEL1 := Lib.hid hbel1
  clear hb1 hbel1
  go_wp2
  go_loopw [15] (fun i wr => ∃ (j : Nat) (l : List UInt8), j ≤ n ∧ i = .int .i64 j ∧ Filled (fun k => xor8 (at8 b1 k) (at8 b2 k)) n j l ∧ Blk wr w.heap.size (l.map B) 5 ∧ Below w.heap.size w wr)
    (fun i _ => n - (intOf i).toNat)
  case atStart => exact ⟨0, zeros n, Nat.zero_le _, rfl, Filled.zero (zeros_length n), HB1.out, HBEL1.out⟩
  case round =>
    obtain ⟨j, l, hj, rfl, hF, hb, hbel⟩ := hrel
    by_cases hlt : j < n
    · obtain ⟨x, hx⟩ := hF.at hlt
      have hy1 := at8_get (b := b1) (i := j) (by rw [HL1.out]; omega)
      have hy2 := at8_get (b := b2) (i := j) (by rw [HL2.out]; omega)
      obtain ⟨c1, o1, rfl, hc1⟩ := HS1.out _ _ (mapB_at hy1)
      obtain ⟨c2, o2, rfl, hc2⟩ := HS2.out _ _ (mapB_at hy2)
      have hc1 := fun (x : After wr.drew) => ((hbel.drew.trans (Below.mono x.later hbel.size)).cell (p := ⟨c1, o1 + j, none⟩) (block_lt_of_cell hc1)).trans hc1
      have hc2 := fun (x : After wr.drew) => ((hbel.drew.trans (Below.mono x.later hbel.size)).cell (p := ⟨c2, o2 + j, none⟩) (block_lt_of_cell hc2)).trans hc2
      have HB := Lib.hid hb
      have HF := Lib.hid hF
      clear hb hx hF hy1 hy2
      go_wp2_with fail
      refine wp_region_R [0, 1, 2, 3, 4, 5, 6, 7, 8, 9, 10, 11, 12] (by kernel_rfl) (by kernel_rfl) ?_
      rintro w2 rfl
      repeat (refine walkR_one rfl rfl (fun K hK => ?_); go_big_quiet_step (fail); refine wpQuiet_nil (hK _ ?_); clear hK K)
      clear hc1 hc2
      refine walkR_free rfl rfl (by rfl) (fun K hK => ?_)
      refine HB.out.drew.opset (v := B (xor8 (at8 b1 j) (at8 b2 j))) rfl rfl rfl Tryz.sizeByte rfl rfl (by rw [List.length_map, HF.out.1]; omega) (fun w3 hb3 ho3 => hK _ _ ?_)
      clear hK K
      rw [mapB_set] at hb3
      have hbel3 := below_only hbel.drew ho3 (Nat.le_refl _)
      refine walkR_nil ?_
      go_wp2
      go_roundw
      case rel => exact ⟨j + 1, _, by omega, rfl, HF.out.step hlt, hb3, hbel3⟩
      case measure => simp [intOf]; omega
    · obtain rfl : j = n := by omega
      have hown := own_of_blk hb (Nat.le_refl _) (by rw [List.length_map, hF.1]) (by unfold maxLen; omega)
      have e := hF.all
      have HX2 := Lib.hid (show l = xorL b1 b2 by rw [e, HX.out]; rfl)
      clear e
      go_wp2
      go_ret
      refine ⟨_, rfl, ?_, hbel⟩
      rw [← HX2.out]
      exact hown

end Go.Proofs.YtbpghohkhngdfaaGreatDoor
/-
  The walks of octet: blocks, and rows with noughts behind them.
-/
namespace Go.Proofs.YtbpghohkhngdfaaGreatDoor
open Go.RowKit Go.Mem Go.Ops Go.Cells Go.Oct
set_option linter.unusedSimpArgs false
set_option linter.unusedVariables false
set_option maxRecDepth 100000
attribute [local irreducible] walkR walkP walk0

theorem splice_block (bs : List UInt8) : splice ((zeros 16).map B) 0 ((bs.take 16).map B) = (block bs).map B := by
  unfold splice
  rw [List.take_zero, List.nil_append, Nat.zero_add, ← List.map_drop, ← List.map_append]
  congr 1
  apply List.ext_getElem?
  intro i
  rw [List.getElem?_append, List.length_map, List.length_take]
  by_cases h16 : i < 16
  · have hb : (block bs)[i]? = some (at8 bs i) := by simp [block, h16]
    rw [hb]
    by_cases hi : i < bs.length
    · rw [if_pos (by omega), List.getElem?_take_of_lt h16, at8_get hi]
    · rw [if_neg (by omega), at8_none (by omega), List.getElem?_drop, zeros, List.getElem?_replicate, if_pos (by omega)]
  · rw [List.getElem?_eq_none (l := block bs) (by rw [block_length]; omega)]
    rw [if_neg (by omega), List.getElem?_drop, List.getElem?_eq_none (by simp [zeros]; omega)]

theorem block_ok (ao : Option Addr) (len cap : Nat) (bs : List UInt8) (w : World) (hlen : bs.length = len) (hl : Lies w ao (bs.map B)) :
    Calls Tryz.prog 119 #[.slice ao len cap] w fun e w' => e = .returned (.agg ((block bs).map B).toArray) ∧ Below w.heap.size w w' := by
  have hcl : ((bs.take 16).map B).length = Nat.min len 16 := by rw [List.length_map, List.length_take, hlen]; exact Nat.min_comm _ _
  have hcf : 0 + ((bs.take 16).map B).length ≤ ((zeros 16).map B).length := by rw [hcl]; simp [zeros]; exact Nat.min_le_right _ _
  have HCL := Lib.hid hcl
  have HCF := Lib.hid hcf
  have HL := Lib.hid (show Lies w ao ((bs.take 16).map B) by rw [List.map_take]; exact hl.take 16)
  have HS := Lib.hid (splice_block bs)
  have HO := Lib.hid (oneCell_B (bs.take 16))
  clear hlen hl hcl hcf
  generalize (bs.take 16).map B = cs at *
  go_enter Tryz.func119, Tryz.ntmps119
  go_wp2_with (refine wpList_var 52 ((zeros 16).map B) _ rfl rfl Tryz.zero16 rfl ?_)
  intro w1 hb1 hbel1
  go_wp2_with (refine wpList_var 52 ((zeros 16).map B) _ rfl rfl Tryz.zero16 rfl ?_)
  intro w2 hb2 hbel2
  have HB1 := Lib.hid (hb1.below hbel2 hb1.lt)
  have HB2 := Lib.hid hb2
  have hlt := hb1.lt
  have HBEL := Lib.hid (hbel1.trans (hbel2.mono hbel1.size))
  have HL := Lib.hid (HL.out.below HBEL.out)
  clear hb1 hb2 hbel1 hbel2
  go_wp2_with (refine HB2.out.wcopy 0 cs rfl rfl rfl rfl Tryz.underlying22 Tryz.sizeByte (fun _ => rfl) HL.out HCL.out HCF.out HO.out ?_)
  intro w3 hb3 ho3
  rw [HS.out] at hb3
  have HB1 := Lib.hid (HB1.out.only ho3 (by omega))
  have HB2 := Lib.hid hb3
  have HBEL := Lib.hid (below_only HBEL.out ho3 (by omega))
  have HLEN := Lib.hid (show ((block bs).map B).length = 16 by simp [block_length])
  have HONE := Lib.hid (oneCell_B (block bs))
  clear hb3 ho3 HS
  generalize hcs2 : (block bs).map B = ds at *
  have HDS := Lib.hid hcs2
  clear hcs2
  go_wp2_with (first | (refine HB2.out.wload rfl rfl rfl Tryz.row16 HLEN.out ?_) | (refine HB1.out.wstore rfl rfl rfl (cs := ds) rfl Tryz.row16 (by simp [zeros_length]) HLEN.out HONE.out ?_))
  intro w4 hb4 ho4
  go_wp2
  refine hb4.result rfl rfl rfl Tryz.row16 HLEN.out ⟨by rw [HDS.out], below_only HBEL.out ho4 (by omega)⟩

theorem splice_zeros (bs : List UInt8) (n : Nat) (hn : bs.length ≤ n) : splice ((zeros n).map B) 0 (bs.map B) = (bs ++ zeros (n - bs.length)).map B := by
  unfold splice
  rw [List.take_zero, List.nil_append, Nat.zero_add, List.length_map, ← List.map_drop, ← List.map_append]
  congr 2
  simp [zeros]

theorem padded_ok (ao : Option Addr) (len cap size : Nat) (bs : List UInt8) (w : World) (hlen : bs.length = len) (hb : len ≤ 1099511627776) (hs : 1 ≤ size) (hs2 : size ≤ 1099511627776) (hl : Lies w ao (bs.map B)) :
    Calls Tryz.prog 223 #[.slice ao len cap, .int .i64 size] w (Fresh w 5 1 (len + roomL len size) ((padL bs size).map B) id) := by
  have hr : roomL len size < size := Nat.mod_lt _ (by omega)
  have hpl : padL bs size = bs ++ zeros (len + roomL len size - bs.length) := by
    unfold padL zeros
    rw [hlen, Nat.add_sub_cancel_left]
  obtain ⟨n, hn⟩ : ∃ n, n = len + roomL len size := ⟨_, rfl⟩
  have hsum : (len : Int) + (roomL len size : Int) = (n : Int) := by omega
  have hn2 : n ≤ 2199023255552 := by omega
  have hln : len ≤ n := by omega
  rw [← hn]
  rw [← hn] at hpl
  have HP := Lib.hid hpl
  have HLEN := Lib.hid hlen
  have HL := Lib.hid hl
  have HO := Lib.hid (oneCell_B bs)
  have HNN := Lib.hid hn
  clear hpl hlen hl hn
  go_enter Tryz.func223, Tryz.ntmps223
  go_wp2_with fail
  refine (room_ok len size w hb hs hs2).mono ?_
  rintro e w1 ⟨rfl, rfl⟩
  go_wp2_with (at_make; refine wpList_make 22 5 (.int .u8 0) 1 n rfl rfl rfl rfl Tryz.underlying22 Tryz.infoByte rfl rfl rfl (by omega) (by unfold maxLen; omega) ?_)
  intro w1 hb1 hbel1
  rw [repB] at hb1
  have HB1 := Lib.hid hb1
  have HL1 := Lib.hid (HL.out.below hbel1)
  clear hb1
  go_wp2_with (refine HB1.out.wcopy 0 (bs.map B) rfl rfl rfl rfl Tryz.underlying22 Tryz.sizeByte (fun _ => rfl) HL1.out (by rw [List.length_map, HLEN.out]; exact (Nat.min_eq_left hln).symm) (by simp [zeros_length, HLEN.out]; exact hln) HO.out ?_)
  intro w2 hb2 ho2
  rw [splice_zeros _ _ (by rw [HLEN.out]; exact hln), ← HP.out] at hb2
  have hpll : ((padL bs size).map B).length = n := by rw [HP.out]; simp [zeros_length, HLEN.out]; omega
  have hown := own_of_blk hb2 (Nat.le_refl _) hpll (by unfold maxLen; omega)
  have hbel := below_only hbel1 ho2 (Nat.le_refl _)
  clear hb2 ho2 hpll
  go_wp2
  go_ret
  exact ⟨_, rfl, hown, hbel⟩

theorem marked_ok (ao : Option Addr) (len cap size : Nat) (mark : UInt8) (bs : List UInt8) (w : World) (hlen : bs.length = len) (hb : len ≤ 1000000000000) (hs : 1 ≤ size) (hs2 : size ≤ 1099511627776) (hl : Lies w ao (bs.map B)) :
    Calls Tryz.prog 192 #[.slice ao len cap, B mark, .int .i64 size] w (Fresh w 5 1 (len + 1 + roomL (len + 1) size) ((markL bs mark size).map B) id) := by
  obtain ⟨n, hn⟩ : ∃ n, n = len + 1 := ⟨_, rfl⟩
  have hsum : (len : Int) + 1 = (n : Int) := by omega
  have hln : len < n := by omega
  have hm : markL bs mark size = padL (bs ++ [mark]) size := rfl
  rw [← hn, hm]
  have hbl : (bs ++ [mark]).length = n := by simp [hlen, hn]
  have hset : ((bs ++ zeros (n - bs.length)).map B).set len (B mark) = (bs ++ [mark]).map B := by
    rw [hlen, hn, Nat.add_sub_cancel_left, mapB_set]
    congr 1
    rw [List.set_append_right _ _ (by omega), hlen, Nat.sub_self]
    rfl
  have HSET := Lib.hid hset
  have HBL := Lib.hid hbl
  have HLEN := Lib.hid hlen
  have HL := Lib.hid hl
  have HO := Lib.hid (oneCell_B bs)
  clear hlen hl hn hm hbl hset
  go_enter Tryz.func192, Tryz.ntmps192
  go_wp2_with (at_make; refine wpList_make 22 5 (.int .u8 0) 1 n rfl rfl rfl rfl Tryz.underlying22 Tryz.infoByte rfl rfl rfl (by omega) (by unfold maxLen; omega) ?_)
  intro w1 hb1 hbel1
  rw [repB] at hb1
  have HB1 := Lib.hid hb1
  have HL1 := Lib.hid (HL.out.below hbel1)
  have HBEL1 := Lib.hid hbel1
  clear hb1 hbel1
  go_wp2_with (refine HB1.out.wcopy 0 (bs.map B) rfl rfl rfl rfl Tryz.underlying22 Tryz.sizeByte (fun _ => rfl) HL1.out (by rw [List.length_map, HLEN.out]; exact (Nat.min_eq_left (by omega)).symm) (by simp [zeros_length, HLEN.out]; omega) HO.out ?_)
  intro w2 hb2 ho2
  rw [splice_zeros _ _ (by rw [HLEN.out]; omega)] at hb2
  have HB2 := Lib.hid hb2
  have HBEL2 := Lib.hid (below_only HBEL1.out ho2 (Nat.le_refl _))
  clear hb2 ho2
  have hlt : (bs ++ zeros (n - bs.length))[len]? = some 0 := by
    rw [HLEN.out, List.getElem?_append_right (by rw [HLEN.out]; omega), HLEN.out, Nat.sub_self, zeros, List.getElem?_replicate, if_pos (by omega)]
  have hc := HB2.out.cell len _ (mapB_at hlt)
  have hf := HB2.out.free len
  clear hlt
  go_wp2_with fail
  have hb3 := HB2.out.set len (B mark)
  rw [HSET.out] at hb3
  have hbel3 := HBEL2.out.setCell (p := ⟨w.heap.size, len, none⟩) (Nat.le_refl _) (B mark)
  refine (padded_ok _ n n size (bs ++ [mark]) _ HBL.out (by omega) hs hs2 hb3.lies).mono ?_
  rintro e w4 ⟨v, rfl, hown, hbel4⟩
  go_wp2
  go_ret
  exact ⟨v, rfl, hown.mono hbel3.size, hbel3.trans (hbel4.mono hbel3.size)⟩

end Go.Proofs.YtbpghohkhngdfaaGreatDoor
/-
  A scope in which the run comes to a label, from ahead or by a jump back: what stands behind the label is proved once. No program.
-/
namespace Go

/-- What stands behind a label of a row of statements. -/
def afterLabel : Code → Nat → Option Code
  | .seq (.label l') y, l => if l' == l then some y else afterLabel y l
  | .seq x y, l => if (findLabel x l).isNone then afterLabel y l else none
  | _, _ => none

theorem findLabel_after : ∀ (c : Code) (l : Nat) (y : Code), afterLabel c l = some y → findLabel c l = some (.seq .skip y) := by
  intro c l
  fun_induction afterLabel c l with
  | case1 l' y0 l h => intro y hy; simp at hy; subst hy; simp [findLabel, h]
  | case2 l' y0 l h ih => intro y hy; simp [findLabel, h]; exact ih y hy
  | case3 x y0 l hx h ih => intro y hy; simp [findLabel, Option.isNone_iff_eq_none.1 h]; exact ih y hy
  | case4 => intro y hy; cases hy
  | case5 => intro y hy; cases hy

/-- The way to the label: each statement ahead of it; J at it. -/
def wpPre (P : Program) (l : Nat) (J : Act → World → Prop) (Q : Exit → Act → World → Prop) : Code → Act → World → Prop
  | .seq (.label l') y, a, w => if l' == l then J a w else wpPre P l J Q y a w
  | .seq x y, a, w => x.wp P (Exit.then (wpPre P l J Q y) (Exit.jump l J Q)) a w
  | _, _, _ => False

section
variable {P : Program} {a : Act} {w : World} {Q : Exit → Act → World → Prop}

theorem wp_of_pre (l : Nat) (J : Act → World → Prop) : ∀ (c y : Code), afterLabel c l = some y → (∀ a w, J a w → y.wp P (Exit.jump l J Q) a w) → ∀ a w, wpPre P l J Q c a w → c.wp P (Exit.jump l J Q) a w := by
  intro c
  fun_induction afterLabel c l with
  | case1 l' y0 l h =>
    intro y hy hJ a w hp
    simp at hy; subst hy
    simp only [wpPre, h, if_true] at hp
    exact wp_seq (wp_label (hJ _ _ hp))
  | case2 l' y0 l h ih =>
    intro y hy hJ a w hp
    simp only [wpPre, h, Bool.false_eq_true, if_false] at hp
    exact wp_seq (wp_label (ih y hy hJ _ _ hp))
  | case3 x y0 l hx h ih =>
    intro y hy hJ a w hp
    have hp' : x.wp P (Exit.then (wpPre P l J Q y0) (Exit.jump l J Q)) a w := by
      cases x <;> first | exact hp | exact absurd rfl (hx _)
    refine wp_seq (wp_mono hp' ?_)
    intro e a' w' hq
    cases e with
    | normal => exact ih y hy hJ _ _ hq
    | _ => exact hq
  | case4 => intro y hy; cases hy
  | case5 => intro y hy; cases hy

theorem wp_scope_label {c y : Code} (l : Nat) (J : Act → World → Prop) (μ : Act → World → Nat) (hf : afterLabel c l = some y)
    (first : wpPre P l J Q c a w)
    (pass : ∀ a w, J a w → y.wp P (Exit.jump l (fun a' w' => J a' w' ∧ μ a' w' < μ a w) Q) a w) : (Code.scope c).wp P Q a w := by
  have weak : ∀ a w, J a w → y.wp P (Exit.jump l J Q) a w := by
    intro a w hJ
    refine wp_mono (pass a w hJ) ?_
    intro e a' w' hq
    cases e with
    | goto l' => exact ⟨hq.1, hq.2.1⟩
    | _ => exact hq
  refine wp_scope_jumps l J μ (findLabel_after c l y hf) (wp_of_pre l J c y hf weak a w first) ?_
  intro a' w' hJ
  exact wp_seq (wp_skip (pass a' w' hJ))

@[go_sem] theorem Exit.jump_normal (l : Nat) (J : Act → World → Prop) (a : Act) (w : World) : Exit.jump l J Q .normal a w = Q .normal a w := rfl
@[go_sem] theorem Exit.jump_exit (l : Nat) (J : Act → World → Prop) (id : Nat) (a : Act) (w : World) : Exit.jump l J Q (.exit id) a w = Q (.exit id) a w := rfl
@[go_sem] theorem Exit.jump_ret (l : Nat) (J : Act → World → Prop) (a : Act) (w : World) : Exit.jump l J Q .ret a w = Q .ret a w := rfl
@[go_sem] theorem Exit.jump_panic (l : Nat) (J : Act → World → Prop) (ch : List PanicEntry) (a : Act) (w : World) : Exit.jump l J Q (.panic ch) a w = Q (.panic ch) a w := rfl

end
end Go
/-
  The walks of gf: products.
-/
namespace Go.Proofs.YtbpghohkhngdfaaGreatDoor
open Go.RowKit Go.Mem Go.Ops Go.Cells Go.Oct Go.Gf
set_option linter.unusedSimpArgs false
set_option linter.unusedVariables false
set_option maxRecDepth 100000
attribute [local irreducible] walkR walkP walk0

theorem double_ok (a : UInt8) (w : World) : Calls Tryz.prog 75 #[B a] w fun e w' => e = .returned (B (dbl a)) ∧ w = w' := by
  go_enter Tryz.func75, Tryz.ntmps75
  go_wp2
  go_ret
  exact ⟨rfl, rfl⟩

def TimesAt (a b : UInt8) (w : World) (x : Act) (w' : World) : Prop :=
  ∃ (n : Nat) (a' b' s : UInt8), ∃ u2 u3 u4 u6 u7 u8 u9 u10 u11 u12 u13 u14 u15 u16 u17 u18 : Value, x = { tmps := #[B a', B b', u2, u3, u4, B s, u6, u7, u8, u9, u10, u11, u12, u13, u14, u15, u16, u17, u18], defers := [] } ∧ Hid (timesGo n a' b' s = times a b) ∧ b'.toNat < 2 ^ n ∧ w = w'

theorem times_ok (a b : UInt8) (w : World) : Calls Tryz.prog 120 #[B a, B b] w fun e w' => e = .returned (B (times a b)) ∧ w = w' := by
  go_enter Tryz.func120, Tryz.ntmps120
  go_wp2
  refine wp_scope_label 0 (TimesAt a b w) (fun a' _ => (intOf (a'.tmps.getD 1 undef)).toNat) rfl ?_ ?_
  · simp only [wpPre]
    go_wp2
    exact ⟨8, a, b, 0, _, _, _, _, _, _, _, _, _, _, _, _, _, _, _, _, rfl, rfl, lt8 b, rfl⟩
  · rintro x w' ⟨n, a', b', s, u2, u3, u4, u6, u7, u8, u9, u10, u11, u12, u13, u14, u15, u16, u17, u18, rfl, HT, hb, rfl⟩
    by_cases h0 : b' = 0
    · subst h0
      have HT := Lib.hid ((timesGo_zero n a' s).symm.trans HT.out)
      go_wp2
      go_ret
      exact ⟨by rw [← HT.out]; rfl, rfl⟩
    · have h0' : b'.toNat ≠ 0 := fun h => h0 (zero_of_toNat h)
      have hd : ((b'.toNat : Int) == 0) = false := beq_eq_false_iff_ne.2 (by omega)
      obtain ⟨n, rfl⟩ : ∃ m, n = m + 1 := ⟨n - 1, by cases n with | zero => simp at hb; omega | succ n => rfl⟩
      have hs := shr8_lt b' n hb
      have hs2 : (shr8 b' 1).toNat < b'.toNat := by unfold shr8; rw [UInt8.toNat_ofNat_of_lt' (by have := lt8 b'; show _ < 256; omega)]; omega
      have HT := Lib.hid (show timesGo n (dbl a') (shr8 b' 1) (xor8 s (mul8 a' (and8 b' 1))) = times a b by have := HT.out; simpa [timesGo, h0] using this)
      go_wp2_with fail
      refine (double_ok a' _).mono ?_
      rintro e w1 ⟨rfl, rfl⟩
      go_wp2
      refine wp_goto ⟨rfl, ⟨n, _, _, _, _, _, _, _, _, _, _, _, _, _, _, _, _, _, _, _, rfl, HT, hs, rfl⟩, ?_⟩
      simpa [intOf] using hs2

end Go.Proofs.YtbpghohkhngdfaaGreatDoor
/-
  A region that draws its order, walked ONCE, with changes to memory that the region made itself: what only computes or reads is taken early, if it yields the same in every world that keeps the blocks below B; all else comes up alone and keeps the blocks below B. No program.
-/
namespace Go
open Go.RowKit

section
variable {P : Program} {ops : Array Oper} {Q : Exit → Act → World → Prop} {md : Region.Mode} {B : Nat}

/-- Whatever order is picked; behind each operation the blocks below B are as they were. -/
def wpAnyB (B : Nat) (P : Program) (md : Region.Mode) (ops : Array Oper) (Q : Exit → Act → World → Prop) : Nat → Array Bool → Act → World → Prop
  | 0, listed, a, w => Region.ready md ops listed = [] ∧ Q .normal a w
  | fuel + 1, listed, a, w =>
    (Region.ready md ops listed = [] → Q .normal a w) ∧
    ∀ i ∈ Region.ready md ops listed, wpOp P ops Q i (fun a' w' => Below B w w' ∧ wpAnyB B P md ops Q fuel (listed.setIfInBounds i true) a' w') a w

theorem wpAny_of_B : ∀ (fuel : Nat) (listed : Array Bool) (a : Act) (w : World), wpAnyB B P md ops Q fuel listed a w → wpAny P md ops Q fuel listed a w
  | 0, _, _, _, h => h
  | fuel + 1, _, _, _, h => ⟨h.1, fun i hi => wpOp_mono (fun a' w' h' => wpAny_of_B fuel _ a' w' h'.2) (h.2 i hi)⟩

theorem YieldsIf.laterB {o : Oper} {v : Value} {a : Act} {w w' : World} (h : YieldsIf P ops (Below B w) o v a) (hw : Below B w w') : YieldsIf P ops (Below B w') o v a :=
  h.imp (fun ⟨h1, h2⟩ => ⟨h1, fun x hx => h2 x (hw.trans hx)⟩) id

theorem wpAnyB_first {i : Nat} {oi : Oper} {v : Value} (hi : ops[i]? = some oi) (hsel : ∀ (j : Nat) (o : Oper) cs b, ops[j]? = some o → o.op ≠ .select cs b)
    (hQ : ∀ c a w, Q (.panic c) (a.put oi.dst v) w → Q (.panic c) a w) (D : Nat → Bool) (hDi : D i = false)
    (hD : ∀ d, D d = true → ∃ od, ops[d]? = some od ∧ ∃ e ∈ od.after, Region.binds md e = true ∧ (e.on = i ∨ D e.on = true)) :
    ∀ (fuel : Nat) (listed : Array Bool) (a : Act) (w : World),
      (∀ d, D d = true → listed.getD d true = false) →
      (∀ j oj, ops[j]? = some oj → j ≠ i → listed.getD j true = false → D j = false → oi.apart ops oj = true) →
      i ∈ Region.ready md ops listed → YieldsIf P ops (Below B w) oi v a →
      wpAnyB B P md ops Q fuel (listed.setIfInBounds i true) (a.put oi.dst v) w → wpAnyB B P md ops Q (fuel + 1) listed a w := by
  intro fuel
  induction fuel with
  | zero =>
    intro listed a w _ _ hr hy H
    refine ⟨fun h => (by rw [h] at hr; cases hr), fun j hj => ?_⟩
    by_cases hji : j = i
    · subst hji; exact hy.wpOp hi (Below.refl _ w) ⟨Below.refl _ w, H⟩
    · have := ready_mono hj hji
      rw [H.1] at this
      cases this
  | succ fuel ih =>
    intro listed a w hun hfree hr hy H
    refine ⟨fun h => (by rw [h] at hr; cases hr), fun j hj => ?_⟩
    by_cases hji : j = i
    · subst hji; exact hy.wpOp hi (Below.refl _ w) ⟨Below.refl _ w, H⟩
    · have h1 := H.2 j (ready_mono hj hji)
      obtain ⟨hjun, oj, hoj, hall⟩ := mem_ready.1 hj
      have hget : ∀ k, listed.getD k true = false → (listed[k]?).getD true = false := fun k hk => by
        rcases Nat.lt_or_ge k listed.size with h' | h'
        · simpa [Array.getD, h'] using hk
        · simp [Array.getD, Nat.not_lt.2 h'] at hk
      have hDj : D j = false := by
        cases hdj : D j with
        | false => rfl
        | true =>
          obtain ⟨od, hod, e, he, hb, hon⟩ := hD j hdj
          rw [hoj] at hod
          cases hod
          have h1 := hall e he hb
          have h0 : listed.getD e.on true = false := by
            rcases hon with h | h
            · rw [h]; exact (mem_ready.1 hr).1
            · exact hun _ h
          rcases Nat.lt_or_ge e.on listed.size with h' | h'
          · simp [h'] at h0 h1; rw [h0] at h1; cases h1
          · simp [Array.getElem?_eq_none h'] at h1
      have hfj := hfree j oj hoj hji hjun hDj
      have h2 := wpOp_putIf hoj hfj (fun cs b => hsel i oi cs b hi) (fun cs b => hsel j oj cs b hoj) hQ hy h1
      have hun' : ∀ d, D d = true → (listed.setIfInBounds j true).getD d true = false := fun d hd => by
        have hne : j ≠ d := by rintro rfl; rw [hDj] at hd; cases hd
        rw [getD_set_ne true hne]
        exact hun d hd
      have hfree' : ∀ k ok, ops[k]? = some ok → k ≠ i → (listed.setIfInBounds j true).getD k true = false →
          D k = false → oi.apart ops ok = true := fun k ok hk hki hun hno => by
        refine hfree k ok hk hki ?_ hno
        by_cases hjk : j = k
        · subst hjk; exact hjun
        · rw [getD_set_ne true hjk] at hun; exact hun
      refine wpOp_mono (fun a' w' h3 => ⟨h3.2.1, ih (listed.setIfInBounds j true) a' w' hun' hfree' (ready_mono hr (Ne.symm hji)) (h3.1.laterB h3.2.1) ?_⟩) h2
      rw [Array.setIfInBounds_comm _ _ hji]
      exact h3.2.2

/-- The test on what stands behind number i. -/
def Region.heldB (md : Region.Mode) (ops : Array Oper) (listed : Array Bool) (i : Nat) (oi : Oper) (D : List Nat) : Bool :=
  !D.contains i &&
  D.all (fun d => !(listed.getD d true) && match ops[d]? with
    | some od => od.after.any (fun e => Region.binds md e && (e.on == i || D.contains e.on))
    | none => false) &&
  (List.range ops.size).all fun j => j == i || listed.getD j true || D.contains j || match ops[j]? with
    | some oj => oi.apart ops oj
    | none => true

/-- Number i may be taken first. -/
def Region.freeB (md : Region.Mode) (ops : Array Oper) (listed : Array Bool) (i : Nat) : Bool :=
  match ops[i]? with
  | none => false
  | some oi => Region.heldB md ops listed i oi (Region.behindR md ops listed i)

theorem Region.freeB_spec {i : Nat} {oi : Oper} {listed : Array Bool} (hi : ops[i]? = some oi) (h : Region.freeB md ops listed i = true) :
    ∃ D : Nat → Bool, D i = false ∧ (∀ d, D d = true → ∃ od, ops[d]? = some od ∧ ∃ e ∈ od.after, Region.binds md e = true ∧ (e.on = i ∨ D e.on = true)) ∧
      (∀ d, D d = true → listed.getD d true = false) ∧
      (∀ j oj, ops[j]? = some oj → j ≠ i → listed.getD j true = false → D j = false → oi.apart ops oj = true) := by
  unfold Region.freeB at h
  simp only [hi] at h
  generalize Region.behindR md ops listed i = L at h
  unfold Region.heldB at h
  rw [Bool.and_eq_true, Bool.and_eq_true] at h
  obtain ⟨⟨h1, h2⟩, h3⟩ := h
  rw [List.all_eq_true] at h2 h3
  refine ⟨fun d => L.contains d, by simpa using h1, fun d hd => ?_, fun d hd => ?_, fun j oj hj hne hun hnd => ?_⟩
  · have := h2 d (by simpa using hd)
    rw [Bool.and_eq_true] at this
    cases hod : ops[d]? with
    | none => simp [hod] at this
    | some od =>
      have h4 := this.2
      simp only [hod] at h4
      obtain ⟨e, he, hb⟩ := Array.any_eq_true'.1 h4
      rw [Bool.and_eq_true, Bool.or_eq_true] at hb
      exact ⟨od, rfl, e, he, hb.1, hb.2.imp (fun h => by simpa using h) id⟩
  · have := h2 d (by simpa using hd)
    rw [Bool.and_eq_true] at this
    simpa using this.1
  · have hlt : j < ops.size := (Array.getElem?_eq_some_iff.1 hj).1
    have := h3 j (List.mem_range.2 hlt)
    have e1 : (j == i) = false := by simpa using hne
    simp only at hnd
    rw [e1, hun, hnd, Bool.false_or, Bool.false_or, Bool.false_or] at this
    simpa only [hj] using this

/-- The order fits: what is taken early may be taken first, all else comes up alone; at the end all have come up. -/
def Region.checkB (md : Region.Mode) (ops : Array Oper) : List (Nat × Bool) → Array Bool → Bool
  | [], listed => Region.ready md ops listed == []
  | (i, q) :: r, listed =>
    (match ops[i]? with
     | none => false
     | some _ => if q then (Region.ready md ops listed).contains i && Region.freeB md ops listed i else Region.ready md ops listed == [i]) &&
    Region.checkB md ops r (listed.setIfInBounds i true)

/-- THE WALK, in the order that is given. -/
def walkB (B : Nat) (P : Program) (ops : Array Oper) (Q : Exit → Act → World → Prop) : List (Nat × Bool) → Act → World → Prop
  | [], a, w => Q .normal a w
  | (i, q) :: r, a, w =>
    match ops[i]? with
    | none => False
    | some o =>
      if Region.wanted o (yielded ops a.tmps) = true then
        (if q then ∃ v, (∀ w', Below B w w' → (execOp a.eval o).run P w' = .ok (.value v) w') ∧ walkB B P ops Q r (a.put o.dst v) w
         else o.wp P a w (fun a' w' => Below B w w' ∧ walkB B P ops Q r a' w') Q)
      else walkB B P ops Q r (a.put o.dst undef) w

theorem wpAnyB_of_walk (hs : Region.noSelect ops = true) (hQ : ∀ c a w, ¬ Q (.panic c) a w) : ∀ (order : List (Nat × Bool)) (listed : Array Bool) (a : Act) (w : World),
    Region.checkB md ops order listed = true → walkB B P ops Q order a w → wpAnyB B P md ops Q order.length listed a w
  | [], listed, a, w, hB, h => by
    simp only [Region.checkB, beq_iff_eq] at hB
    exact ⟨hB, h⟩
  | (i, q) :: r, listed, a, w, hB, h => by
    simp only [Region.checkB, Bool.and_eq_true] at hB
    obtain ⟨hB1, hB2⟩ := hB
    cases ho : ops[i]? with
    | none => simp [ho] at hB1
    | some o =>
      simp only [ho] at hB1
      simp only [walkB, ho] at h
      cases q with
      | true =>
        simp only [if_true, Bool.and_eq_true] at hB1 h
        by_cases hw : Region.wanted o (yielded ops a.tmps) = true
        · rw [if_pos hw] at h
          obtain ⟨v, hv, hr⟩ := h
          obtain ⟨D, hDi, hD, hDu, hDf⟩ := Region.freeB_spec ho hB1.2
          exact wpAnyB_first ho (Region.noSelect_spec hs) (fun c a w hq => absurd hq (hQ _ _ _)) D hDi hD r.length listed a w hDu hDf (by simpa using hB1.1) (.inl ⟨hw, hv⟩)
            (wpAnyB_of_walk hs hQ r _ _ _ hB2 hr)
        · rw [if_neg hw] at h
          obtain ⟨D, hDi, hD, hDu, hDf⟩ := Region.freeB_spec ho hB1.2
          exact wpAnyB_first ho (Region.noSelect_spec hs) (fun c a w hq => absurd hq (hQ _ _ _)) D hDi hD r.length listed a w hDu hDf (by simpa using hB1.1) (.inr ⟨by simpa using hw, rfl⟩)
            (wpAnyB_of_walk hs hQ r _ _ _ hB2 h)
      | false =>
        simp only [Bool.false_eq_true, if_false, beq_iff_eq] at hB1 h
        refine ⟨fun h0 => (by rw [hB1] at h0; cases h0), fun j hj => ?_⟩
        rw [hB1] at hj
        obtain rfl : j = i := by simpa using hj
        unfold wpOp
        simp only [ho]
        by_cases hw : Region.wanted o (yielded ops a.tmps) = true
        · rw [if_pos hw] at h ⊢
          refine .inl (Oper.wp_mono ?_ h)
          intro a' w' h'
          refine ⟨h'.1, wpAnyB_of_walk hs hQ r _ _ _ hB2 h'.2⟩
        · rw [if_neg hw] at h ⊢
          exact ⟨Below.refl _ w, wpAnyB_of_walk hs hQ r _ _ _ hB2 h⟩

/-- THE LAW. -/
theorem wp_region_B {id : Nat} {l : List Oper} {a : Act} {w : World} (B : Nat) (order : List (Nat × Bool)) (hm : P.follows .mixedOrders = true)
    (hB : (Region.noSelect l.toArray && (order.length == l.length) && Region.checkB .any l.toArray order (Array.replicate l.length false)) = true)
    (h : ∀ w', w' = w.drew → walkB B P l.toArray (NoPanic Q) order a w') : (Code.region id l.toArray true).wp P Q a w := by
  simp only [Bool.and_eq_true, beq_iff_eq] at hB
  obtain ⟨⟨hs, hl⟩, hB⟩ := hB
  refine wp_region_noPanic (wp_region_any hm (wpAny_of_B (B := B) _ _ _ _ ?_))
  have := wpAnyB_of_walk (B := B) (P := P) (Q := NoPanic Q) hs (fun c a w hq => hq) order _ a w.drew hB (h _ rfl)
  rw [hl] at this
  exact this

/-! The moves of the walk. -/
theorem walkB_nil {a : Act} {w : World} (h : Q .normal a w) : walkB B P ops (NoPanic Q) [] a w := h

theorem walkB_no {i : Nat} {q : Bool} {r : List (Nat × Bool)} {o : Oper} {a : Act} {w : World} (ho : ops[i]? = some o) (hw : Region.wanted o (yielded ops a.tmps) = false)
    (h : ∀ K : Act → Prop, (∀ a', walkB B P ops Q r a' w → K a') → K (a.put o.dst undef)) : walkB B P ops Q ((i, q) :: r) a w := by
  simp only [walkB, ho, hw, Bool.false_eq_true, if_false]
  exact h _ fun _ h => h

theorem walkB_free {i : Nat} {r : List (Nat × Bool)} {o : Oper} {a : Act} {w : World} (ho : ops[i]? = some o) (hw : Region.wanted o (yielded ops a.tmps) = true)
    (h : ∀ K : Act → World → Prop, (∀ a' w', Below B w w' → walkB B P ops Q r a' w' → K a' w') → o.wp P a w K Q) : walkB B P ops Q ((i, false) :: r) a w := by
  simp only [walkB, ho, hw, if_true, Bool.false_eq_true, if_false]
  exact h _ fun _ _ h1 h2 => ⟨h1, h2⟩

/-- The worlds that keep what lies below B. -/
structure AfterB (B : Nat) (w : World) where
  val : World
  below : Below B w val
instance (B : Nat) (w : World) : Nonempty (AfterB B w) := ⟨⟨w, Below.refl _ w⟩⟩
abbrev AftersB (B : Nat) (w : World) : World → Prop := fun w' => ∃ x : AfterB B w, w' = x.val

/-- One operation, taken early. -/
theorem walkB_one {i : Nat} {r : List (Nat × Bool)} {o : Oper} {tl : List Oper} {a : Act} {w : World} (hd : ops.toList.drop i = o :: tl) (hk : o.kindR = 0)
    (hh : ∀ K : Act → Prop, (∀ a', walkB B P ops Q r a' w → K a') → wpQuiet P ops (AftersB B w) K [o] a) : walkB B P ops Q ((i, true) :: r) a w := by
  have h := hh (fun a' => walkB B P ops Q r a' w) (fun _ h => h)
  have ho : ops[i]? = some o := by
    have := congrArg (·[0]?) hd
    simpa using this
  simp only [wpQuiet] at h
  simp only [walkB, ho, if_true]
  by_cases hw : Region.wanted o (yielded ops a.tmps) = true
  · rw [if_pos hw] at h ⊢
    obtain ⟨v, hv, hn⟩ := h
    exact ⟨v, fun w' hw' => run_of_quietAt hk (hv w' ⟨⟨w', hw'⟩, rfl⟩), hn⟩
  · rw [if_neg hw] at h ⊢
    exact h

/-- One operation that computes or reads, where it comes up alone. -/
theorem walkB_alone {i : Nat} {r : List (Nat × Bool)} {o : Oper} {tl : List Oper} {a : Act} {w : World} (hd : ops.toList.drop i = o :: tl) (hk : o.kindR = 0)
    (hh : ∀ K : Act → Prop, (∀ a', walkB B P ops Q r a' w → K a') → wpQuiet P ops (Afters w) K [o] a) : walkB B P ops Q ((i, false) :: r) a w := by
  have h := hh (fun a' => walkB B P ops Q r a' w) (fun _ h => h)
  have ho : ops[i]? = some o := by
    have := congrArg (·[0]?) hd
    simpa using this
  simp only [wpQuiet] at h
  simp only [walkB, ho, Bool.false_eq_true, if_false]
  by_cases hw : Region.wanted o (yielded ops a.tmps) = true
  · rw [if_pos hw] at h ⊢
    obtain ⟨v, hv, hn⟩ := h
    unfold Oper.wp
    rw [run_of_quietAt hk (hv w ⟨⟨w, Later.refl w⟩, rfl⟩), Oper.upon_value]
    exact ⟨Below.refl _ w, hn⟩
  · rw [if_neg hw] at h ⊢
    exact h

end
end Go
/-
  The walks of gf: AES's boxes.
-/
namespace Go.Proofs.YtbpghohkhngdfaaGreatDoor
open Go.RowKit Go.Mem Go.Ops Go.Cells Go.Oct Go.Gf
set_option linter.unusedSimpArgs false
set_option linter.unusedVariables false
set_option maxRecDepth 100000
attribute [local irreducible] walkR walkP walk0 walkB

theorem and7 : ∀ k : Fin 8, bits .and .u64 ((k.val : Nat) : Int) 7 = ((k.val : Nat) : Int) := by decide

theorem rot8_ok (x : UInt8) (k : Nat) (hk : k < 8) (w : World) : Calls Tryz.prog 121 #[B x, .int .i64 k] w fun e w' => e = .returned (B (rot8 x k)) ∧ w = w' := by
  have h7 := and7 ⟨k, hk⟩
  simp only at h7
  go_enter Tryz.func121, Tryz.ntmps121
  go_wp2
  go_ret
  exact ⟨rfl, rfl⟩

theorem box_ok (i : UInt8) (w : World) : Calls Tryz.prog 77 #[B i] w fun e w' => e = .returned (B (box i)) ∧ w = w' := by
  go_enter Tryz.func77, Tryz.ntmps77
  go_wp2
  go_loopw [3, 5] (fun s c wr => ∃ k : Nat, k ≤ 5 ∧ c = .int .i64 k ∧ s = B (boxGo i k) ∧ w = wr) (fun _ c _ => 5 - (intOf c).toNat)
  case atStart => exact ⟨0, by omega, rfl, rfl, rfl⟩
  case round =>
    obtain ⟨k, hk, rfl, rfl, rfl⟩ := hrel
    by_cases hlt : k < 5
    · go_wp2_with fail
      refine (rot8_ok i k (by omega) _).mono ?_
      rintro e w1 ⟨rfl, rfl⟩
      go_wp2
      go_roundw
      case rel => exact ⟨k + 1, by omega, rfl, rfl, by trivial⟩
      case measure => simp [intOf]; omega
    · obtain rfl : k = 5 := by omega
      go_wp2
      go_ret
      exact ⟨rfl, by trivial⟩

theorem Tryz.rowBoxes : Row Tryz.prog 124 512 := ⟨by kernel_rfl, by kernel_rfl⟩

theorem put_ok (p : Nat) (l : List UInt8) (a b : UInt8) (w : World) (hl : l.length = 512) (hb : Blk w p (l.map B) 124) :
    Calls Tryz.prog 76 #[.pointer (some ⟨p, 0, none⟩), B a, B b] w fun e w' => e = .returned (.tuple #[]) ∧ Blk w' p ((putL l a b).map B) 124 ∧ Only p w w' := by
  have ha8 := lt8 a
  have hb8 := lt8 b
  have HB := Lib.hid hb
  have HL := Lib.hid hl
  clear hb hl
  go_enter Tryz.func76, Tryz.ntmps76
  go_wp2_with fail
  refine wp_region_B p [(0, true), (1, true), (2, true), (3, true), (4, true), (5, true), (6, true), (7, true), (8, true), (10, true), (11, true), (9, false), (12, false), (13, false)] (by kernel_rfl) (by kernel_rfl) ?_
  rintro w1 rfl
  repeat ((first | refine walkB_one rfl rfl (fun K hK => ?_) | refine walkB_alone rfl rfl (fun K hK => ?_)); go_big_quiet_step (fail); refine wpQuiet_nil (hK _ ?_); clear hK K)
  refine walkB_free rfl (by rfl) (fun K hK => ?_)
  refine HB.out.drew.opset (v := B b) rfl rfl rfl Tryz.sizeByte rfl rfl (by rw [List.length_map, HL.out]; omega) (fun w3 hb3 ho3 => hK _ _ (below_only (Below.refl _ _) ho3 (Nat.le_refl _)) ?_)
  clear hK K
  rw [mapB_set] at hb3
  have HB3 := Lib.hid hb3
  have HO3 := Lib.hid ho3
  clear hb3 ho3
  go_simp
  repeat ((first | refine walkB_one rfl rfl (fun K hK => ?_) | refine walkB_alone rfl rfl (fun K hK => ?_)); go_big_quiet_step (fail); refine wpQuiet_nil (hK _ ?_); clear hK K)
  refine walkB_free rfl (by rfl) (fun K hK => ?_)
  refine HB3.out.opset (v := B a) rfl rfl rfl Tryz.sizeByte rfl rfl (by rw [List.length_map, List.length_set, HL.out]; omega) (fun w4 hb4 ho4 => hK _ _ (below_only (Below.refl _ _) ho4 (Nat.le_refl _)) ?_)
  clear hK K
  rw [mapB_set] at hb4
  refine walkB_nil ?_
  go_wp2
  go_end0
  exact ⟨rfl, hb4, (show Only p w w3 from ⟨HO3.out.os, HO3.out.tape, HO3.out.output, HO3.out.size, HO3.out.block⟩).trans ho4⟩

theorem to_ok (p : Nat) (l : List UInt8) (a : UInt8) (w : World) (hl : l.length = 512) (hb : Blk w p (l.map B) 124) :
    Calls Tryz.prog 74 #[.pointer (some ⟨p, 0, none⟩), B a] w fun e w' => e = .returned (B (at8 l a.toNat)) ∧ w = w' := by
  have ha8 := lt8 a
  have hc := hb.cell a.toNat _ (mapB_at (at8_get (b := l) (i := a.toNat) (by omega)))
  clear hb hl
  go_enter Tryz.func74, Tryz.ntmps74
  go_wp2
  go_ret
  exact ⟨rfl, by trivial⟩

theorem back_ok (p : Nat) (l : List UInt8) (a : UInt8) (w : World) (hl : l.length = 512) (hb : Blk w p (l.map B) 124) :
    Calls Tryz.prog 277 #[.pointer (some ⟨p, 0, none⟩), B a] w fun e w' => e = .returned (B (at8 l (256 + a.toNat))) ∧ w = w' := by
  have ha8 := lt8 a
  have hc := hb.cell (256 + a.toNat) _ (mapB_at (at8_get (b := l) (i := 256 + a.toNat) (by omega)))
  clear hb hl
  go_enter Tryz.func277, Tryz.ntmps277
  go_wp2
  go_ret
  exact ⟨rfl, by trivial⟩

end Go.Proofs.YtbpghohkhngdfaaGreatDoor
/-
  The walks of gf: AES's boxes made.
-/
namespace Go.Proofs.YtbpghohkhngdfaaGreatDoor
open Go.RowKit Go.Mem Go.Ops Go.Cells Go.Oct Go.Gf
set_option linter.unusedSimpArgs false
set_option linter.unusedVariables false
set_option maxRecDepth 100000
attribute [local irreducible] walkR walkP walk0 walkB

theorem Tryz.zero255 : (Tryz.prog.info? 122).map (·.zero) = some (some (.agg ((zeros 255).map B).toArray)) := by kernel_rfl
theorem Tryz.zeroBoxes : (Tryz.prog.info? 124).map (·.zero) = some (some (.agg ((zeros 512).map B).toArray)) := by kernel_rfl

theorem Tryz.cellsBoxes : (Value.agg Tryz.zeroCells124).cells = ((zeros 512).map B).toArray := by kernel_rfl

theorem make_ok (w : World) : Calls Tryz.prog 43 #[] w fun e w' => ∃ p, e = .returned (.pointer (some ⟨p, 0, none⟩)) ∧ w.heap.size ≤ p ∧ Blk w' p (boxes.map B) 124 ∧ Below w.heap.size w w' := by
  go_enter Tryz.func43, Tryz.ntmps43
  go_wp2_with (refine wpList_var 122 ((zeros 255).map B) _ rfl rfl Tryz.zero255 rfl ?_)
  intro w1 hb1 hbel1
  have HB1 := Lib.hid hb1
  have HBEL1 := Lib.hid hbel1
  have hlt1 := hb1.lt
  clear hb1 hbel1
  go_wp2
  go_loopw [2, 6] (fun e c wr => ∃ (k : Nat) (l : List UInt8), k ≤ 255 ∧ c = .int .i64 k ∧ e = B (powGo k) ∧ Filled powGo 255 k l ∧ Blk wr w.heap.size (l.map B) 122 ∧ Below w.heap.size w wr) (fun _ c _ => 255 - (intOf c).toNat)
  case atStart => exact ⟨0, zeros 255, by omega, rfl, rfl, Filled.zero (zeros_length _), HB1.out, HBEL1.out⟩
  case round =>
    obtain ⟨k, l, hk, rfl, rfl, hF, hb, hbel⟩ := hrel
    by_cases hlt : k < 255
    · obtain ⟨x, hx⟩ := hF.at hlt
      have hc := hb.cell k _ (mapB_at hx)
      have hf := hb.free k
      have HB := Lib.hid hb
      have HF := Lib.hid hF
      clear hb hx hF
      go_wp2_with fail
      refine (double_ok (powGo k) _).mono ?_
      rintro e w2 ⟨rfl, rfl⟩
      go_wp2
      go_roundw
      case rel => exact ⟨k + 1, _, by omega, rfl, rfl, HF.out.step hlt, mapB_set _ _ _ ▸ HB.out.set k _, hbel.setCell (by simp) _⟩
      case measure => simp [intOf]; omega
    · obtain rfl : k = 255 := by omega
      have HBP := Lib.hid hb
      have HPW := Lib.hid (show ∀ i, i < 255 → l[i]? = some (powGo i) from hF.2)
      have hltp := hb.lt
      clear hb hF
      go_wp2_with (refine wpList_box 124 _ ((zeros 512).map B) _ rfl rfl rfl Tryz.cellsBoxes ?_)
      intro w3 hb3 hbel3
      have HBP := Lib.hid (HBP.out.below hbel3 HBP.out.lt)
      have HB3 := Lib.hid hb3
      have HBEL := Lib.hid (hbel.trans (hbel3.mono hbel.size))
      clear hb3 hbel3
      generalize hq : wr.heap.size = q at *
      have hwq : w.heap.size < q := by omega
      have HQ := Lib.hid hq
      clear hq
      go_wp2_with fail
      refine (box_ok 0 _).mono ?_
      rintro e w4 ⟨rfl, rfl⟩
      go_wp2_with fail
      refine (put_ok q (zeros 512) 0 (box 0) _ (zeros_length _) HB3.out).mono ?_
      rintro e w5 ⟨rfl, hb5, ho5⟩
      have HBP := Lib.hid (HBP.out.only ho5 (by omega))
      have HBEL := Lib.hid (below_only HBEL.out ho5 (by omega))
      have HB5 := Lib.hid hb5
      clear hb5 ho5 HB3
      have hwq2 : w.heap.size < q := by have := HB5.out.lt; have := HQ.out; omega
      go_wp2
      go_loopw [22] (fun c wr => ∃ k : Nat, k ≤ 255 ∧ c = .int .i64 k ∧ Blk wr w.heap.size (l.map B) 122 ∧ Blk wr q ((makeGo k).map B) 124 ∧ Below w.heap.size w wr) (fun c _ => 255 - (intOf c).toNat)
      case atStart => exact ⟨0, by omega, rfl, HBP.out, HB5.out, HBEL.out⟩
      case round =>
        obtain ⟨k, hk, rfl, hbp, hb, hbel⟩ := hrel
        by_cases hlt : k < 255
        · have hc1 := fun (x : AfterB q wr.drew) => (hbp.drew.below x.below hwq2).cell k _ (mapB_at (HPW.out k hlt))
          have hc2 : ∀ (x : AfterB q wr.drew), x.val.cell? ⟨w.heap.size, (-(k : Int) % 255).toNat, none⟩ = some (B (powGo ((255 - k) % 255))) := by
            intro x
            rw [show (-(k : Int) % 255).toNat = (255 - k) % 255 by omega]
            exact (hbp.drew.below x.below hwq2).cell ((255 - k) % 255) _ (mapB_at (HPW.out ((255 - k) % 255) (Nat.mod_lt _ (by omega))))
          have HBP := Lib.hid hbp
          have HB := Lib.hid hb
          clear hbp hb
          go_wp2_with fail
          refine wp_region_B q [(0, true), (1, true), (2, true), (3, true), (4, true), (5, true), (6, true), (7, true), (8, true), (9, false), (10, false)] (by kernel_rfl) (by kernel_rfl) ?_
          rintro w6 rfl
          repeat ((first | refine walkB_one rfl rfl (fun K hK => ?_) | refine walkB_alone rfl rfl (fun K hK => ?_)); go_big_quiet_step (fail); refine wpQuiet_nil (hK _ ?_); clear hK K)
          clear hc1 hc2
          refine walkB_free rfl (by rfl) (fun K hK => ?_)
          go_simp
          refine (box_ok _ _).mono ?_
          rintro e w7 ⟨rfl, rfl⟩
          go_simp
          refine hK _ _ (Below.refl _ _) ?_
          clear hK K
          refine walkB_free rfl (by rfl) (fun K hK => ?_)
          go_simp
          refine (put_ok q (makeGo k) (powGo k) (box (powGo ((255 - k) % 255))) _ (makeGo_length k) HB.out.drew).mono ?_
          rintro e w8 ⟨rfl, hb8, ho8⟩
          go_simp
          refine hK _ _ (below_only (Below.refl _ _) ho8 (Nat.le_refl _)) ?_
          clear hK K
          refine walkB_nil ?_
          have hbp8 := HBP.out.drew.only ho8 (by omega)
          have hbel8 := below_only hbel.drew ho8 (by omega)
          have HB8 := Lib.hid (show Blk w8 q ((makeGo (k + 1)).map B) 124 from hb8)
          clear hb8 ho8
          go_wp2
          go_roundw
          case rel => exact ⟨k + 1, by omega, rfl, hbp8, HB8.out, hbel8⟩
          case measure => simp [intOf]; omega
        · obtain rfl : k = 255 := by omega
          have HB := Lib.hid hb
          clear hb
          go_wp2
          go_ret
          exact ⟨q, rfl, Nat.le_of_lt hwq2, HB.out, hbel⟩

end Go.Proofs.YtbpghohkhngdfaaGreatDoor
/-
  The walks of turn: what a byte brings to a column.
-/
namespace Go.Proofs.YtbpghohkhngdfaaGreatDoor
open Go.RowKit Go.Mem Go.Ops Go.Cells Go.Oct Go.Gf Go.Trn
set_option linter.unusedSimpArgs false
set_option linter.unusedVariables false
set_option maxRecDepth 100000
attribute [local irreducible] walkR walkP walk0 walkB

theorem shifted_ok (row column : Nat) (w : World) (h1 : row < 4) (h2 : column < 4) : Calls Tryz.prog 221 #[.int .i64 row, .int .i64 column] w fun e w' => e = .returned (.int .i64 (shifted row column)) ∧ w = w' := by
  have hs : (row : Int) + 4 * (((column : Int) + row) % 4) = ((shifted row column : Nat) : Int) := by unfold shifted; omega
  have HS := Lib.hid hs
  clear hs
  go_enter Tryz.func221, Tryz.ntmps221
  go_wp2
  go_ret
  exact ⟨by rw [← HS.out]; rfl, rfl⟩

theorem brings_ok (by' : List UInt8) (row : Nat) (a : UInt8) (w : World) (hl : by'.length = 4) (h1 : row < 4) : Calls Tryz.prog 73 #[.agg (by'.map B).toArray, .int .i64 row, B a] w fun e w' => e = .returned (W (brings by' row a)) ∧ Below w.heap.size w w' := by
  go_enter Tryz.func73, Tryz.ntmps73
  go_wp2_with (refine wpList_box 120 _ (by'.map B) _ rfl rfl rfl rfl ?_)
  intro w1 hb1 hbel1
  have HB1 := Lib.hid hb1
  have HL := Lib.hid hl
  clear hb1 hl
  go_wp2
  go_loopw [7, 9] (fun n c wr => ∃ r : Nat, r ≤ 4 ∧ c = .int .i64 r ∧ n = W (bringsGo by' row a r) ∧ w1 = wr) (fun _ c _ => 4 - (intOf c).toNat)
  case atStart => exact ⟨0, by omega, rfl, rfl, rfl⟩
  case round =>
    obtain ⟨r, hr, rfl, rfl, rfl⟩ := hrel
    by_cases hlt : r < 4
    · obtain ⟨x, hx⟩ : ∃ x, x = at8 by' ((row + 4 - r) % 4) := ⟨_, rfl⟩
      have hc := HB1.out.cell ((row + 4 - r) % 4) _ (mapB_at (at8_get (b := by') (i := (row + 4 - r) % 4) (by rw [HL.out]; omega)))
      rw [← hx, show (row + 4 - r) % 4 = (((row : Int) - r) % 4).toNat by omega] at hc
      have HX := Lib.hid (show or32 (bringsGo by' row a r) (shl32 (up8_32 (times x a)) (8 * r)) = bringsGo by' row a (r + 1) by rw [hx]; rfl)
      clear hx
      go_wp2_with fail
      refine (times_ok x a _).mono ?_
      rintro e w2 ⟨rfl, rfl⟩
      go_wp2
      go_roundw
      case rel => exact ⟨r + 1, by omega, rfl, by rw [← HX.out], by trivial⟩
      case measure => simp [intOf]; omega
    · obtain rfl : r = 4 := by omega
      go_wp2
      go_ret
      exact ⟨rfl, hbel1⟩

theorem both_ok (a b : List UInt8) (w : World) (ha : a.length = 16) (hb : b.length = 16) : Calls Tryz.prog 222 #[.agg (a.map B).toArray, .agg (b.map B).toArray] w fun e w' => e = .returned (.agg ((both a b).map B).toArray) ∧ Below w.heap.size w w' := by
  have HLA := Lib.hid ha
  have HLB := Lib.hid hb
  have hfin : ∀ l : List UInt8, Filled (fun i => xor8 (at8 a i) (at8 b i)) 16 16 l → l = both a b := fun l h => h.all
  have HFIN := Lib.hid hfin
  clear ha hb hfin
  go_enter Tryz.func222, Tryz.ntmps222
  go_wp2_with (refine wpList_box 52 _ (a.map B) _ rfl rfl rfl rfl ?_)
  intro w1 hb1 hbel1
  go_wp2_with (refine wpList_box 52 _ (b.map B) _ rfl rfl rfl rfl ?_)
  intro w2 hb2 hbel2
  go_wp2_with (refine wpList_var 52 ((zeros 16).map B) _ rfl rfl Tryz.zero16 rfl ?_)
  intro w3 hb3 hbel3
  have hlt1 := hb1.lt
  have hlt2 := hb2.lt
  have hlt3 := hb3.lt
  have HBA := Lib.hid ((hb1.below hbel2 hb1.lt).below hbel3 (by omega))
  have HBB := Lib.hid (hb2.below hbel3 hb2.lt)
  have HBR := Lib.hid hb3
  have HBEL := Lib.hid ((hbel1.trans (hbel2.mono hbel1.size)).trans (hbel3.mono (Nat.le_trans hbel1.size hbel2.size)))
  clear hb1 hb2 hb3 hbel1 hbel2 hbel3
  go_wp2
  go_loopw [6] (fun c wr => ∃ (j : Nat) (l : List UInt8), j ≤ 16 ∧ c = .int .i64 j ∧ l.length = 16 ∧ (∀ i, i < j → l[i]? = some (xor8 (at8 a i) (at8 b i))) ∧ (∀ i, j ≤ i → l[i]? = a[i]?) ∧ Blk wr w.heap.size (l.map B) 52 ∧ Blk wr w1.heap.size (b.map B) 52 ∧ Blk wr w2.heap.size ((zeros 16).map B) 52 ∧ Below w.heap.size w wr) (fun c _ => 16 - (intOf c).toNat)
  case atStart => exact ⟨0, a, by omega, rfl, HLA.out, fun i hi => absurd hi (by omega), fun i _ => rfl, HBA.out, HBB.out, HBR.out, HBEL.out⟩
  case round =>
    obtain ⟨j, l, hj, rfl, hll, hl1, hl2, hba, hbb, hbr, hbel⟩ := hrel
    by_cases hlt : j < 16
    · have hx : l[j]? = some (at8 a j) := by rw [hl2 j (Nat.le_refl _)]; exact at8_get (by rw [HLA.out]; omega)
      have hc1 := fun (x : After wr.drew) => (hba.drew.below x.later hba.lt).cell j _ (mapB_at hx)
      have hc2 := fun (x : After wr.drew) => (hbb.drew.below x.later hbb.lt).cell j _ (mapB_at (at8_get (b := b) (i := j) (by rw [HLB.out]; omega)))
      have HBA := Lib.hid hba
      have HBB := Lib.hid hbb
      have HBR := Lib.hid hbr
      have HLL := Lib.hid hll
      have HL1 := Lib.hid hl1
      have HL2 := Lib.hid hl2
      clear hba hbb hbr hll hl1 hl2 hx
      go_wp2_with fail
      refine wp_region_R [0, 1, 2, 3, 4, 5, 6, 7, 8] (by kernel_rfl) (by kernel_rfl) ?_
      rintro w4 rfl
      repeat (refine walkR_one rfl rfl (fun K hK => ?_); go_big_quiet_step (fail); refine wpQuiet_nil (hK _ ?_); clear hK K)
      clear hc1 hc2
      refine walkR_free rfl rfl (by rfl) (fun K hK => ?_)
      refine HBA.out.drew.opset (v := B (xor8 (at8 a j) (at8 b j))) rfl rfl rfl Tryz.sizeByte rfl rfl (by rw [List.length_map, HLL.out]; omega) (fun w5 hb5 ho5 => hK _ _ ?_)
      clear hK K
      rw [mapB_set] at hb5
      have hbb5 := HBB.out.drew.only ho5 (by omega)
      have hbr5 := HBR.out.drew.only ho5 (by omega)
      have hbel5 := below_only hbel.drew ho5 (Nat.le_refl _)
      clear ho5
      refine walkR_nil ?_
      have HB5 := Lib.hid hb5
      have HBB5 := Lib.hid hbb5
      have HBR5 := Lib.hid hbr5
      clear hb5 hbb5 hbr5
      go_wp2
      go_roundw
      case rel =>
        refine ⟨j + 1, _, by omega, rfl, by simpa using HLL.out, fun i hi => ?_, fun i hi => ?_, HB5.out, HBB5.out, HBR5.out, hbel5⟩
        · rw [List.getElem?_set]
          by_cases e : j = i
          · subst e; simp [HLL.out, hlt]
          · rw [if_neg e]; exact HL1.out i (by omega)
        · rw [List.getElem?_set_ne (by omega)]
          exact HL2.out i (by omega)
      case measure => simp [intOf]; omega
    · obtain rfl : j = 16 := by omega
      obtain rfl := HFIN.out l ⟨hll, hl1⟩
      have HBA := Lib.hid hba
      have HBR := Lib.hid hbr
      have HLL := Lib.hid hll
      clear hba hbr hll hl1 hl2 hbb HFIN
      go_wp2_with (first | (refine HBA.out.wload rfl rfl rfl Tryz.row16 (by rw [List.length_map, HLL.out]) ?_) | (refine HBR.out.wstore rfl rfl rfl rfl Tryz.row16 (by simp [zeros_length]) (by rw [List.length_map, HLL.out]) (oneCell_B _) ?_))
      intro w6 hb6 ho6
      go_wp2
      refine hb6.result rfl rfl rfl Tryz.row16 (by rw [List.length_map, HLL.out]) ⟨rfl, below_only hbel ho6 (by omega)⟩

end Go.Proofs.YtbpghohkhngdfaaGreatDoor
