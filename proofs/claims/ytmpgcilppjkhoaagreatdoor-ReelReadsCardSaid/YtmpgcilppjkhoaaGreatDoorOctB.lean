/-
  The walks of octet: numbers of 128 bits, and rows put together.
-/
import Derived.Test.YtmpgcilppjkhoaaGreatDoorOctA
import Derived.Test.YtmpgcilppjkhoaaGreatDoorRegionP
namespace Go.Proofs.YtmpgcilppjkhoaaGreatDoor
open Go.RowKit Go.Mem Go.Ops Go.Cells Go.Oct
set_option linter.unusedSimpArgs false
set_option maxRecDepth 100000
attribute [local irreducible] walkR walkP walk0

theorem Tryz.rowWide : Row Tryz.prog 174 2 := ⟨by kernel_rfl, by kernel_rfl⟩
theorem Tryz.zeroWide : (Tryz.prog.info? 174).map (·.zero) = some (some (.agg #[L 0, L 0])) := by kernel_rfl

theorem load_ok (ao : Option Addr) (len cap : Nat) (bs : List UInt8) (w : World) (hlen : bs.length = len) (hc : len ≤ 1099511627776) (hl : Lies w ao (bs.map B)) :
    Calls Tryz.prog 241 #[.slice ao len cap] w fun e w' => e = .returned (.agg #[L (longL bs 0), L (longL bs 8)]) ∧ Below w.heap.size w w' := by
  have HLEN := Lib.hid hlen
  have HL := Lib.hid hl
  clear hlen hl
  go_enter Tryz.func241, Tryz.ntmps241
  go_wp2_with (refine wpList_var 174 [L 0, L 0] _ rfl rfl Tryz.zeroWide rfl ?_)
  intro w0 hb0 hbel0
  have HB0 := Lib.hid hb0
  clear hb0
  go_wp2_with fail
  refine (long_ok ao len cap 0 bs _ HLEN.out (by omega) hc (HL.out.below hbel0)).mono ?_
  rintro e w1 ⟨rfl, hbel⟩
  go_wp2_with fail
  refine (long_ok ao len cap 8 bs _ HLEN.out (by omega) hc (HL.out.below (hbel0.trans (hbel.mono hbel0.size)))).mono ?_
  rintro e w2 ⟨rfl, hbel2⟩
  have hb2 := (HB0.out.below hbel HB0.out.lt).below hbel2 (Nat.lt_of_lt_of_le HB0.out.lt hbel.size)
  have HB2 := Lib.hid hb2
  clear hb2
  go_wp2_with (refine HB2.out.wstore rfl rfl rfl (cs := [L (longL bs 0), L (longL bs 8)]) rfl Tryz.rowWide rfl rfl (by simp [Value.oneCell']) ?_)
  intro w3 hb3 ho3
  go_wp2
  refine hb3.result rfl rfl rfl Tryz.rowWide rfl ⟨rfl, ?_⟩
  exact below_only ((hbel0.trans (hbel.mono hbel0.size)).trans (hbel2.mono (Nat.le_trans hbel0.size hbel.size))) ho3 (Nat.le_refl _)

set_option maxHeartbeats 400000 in
theorem bytes_ok (lo hi : UInt64) (w : World) :
    Calls Tryz.prog 106 #[.agg #[L lo, L hi]] w fun e w' => e = .returned (.agg ((putLong lo ++ putLong hi).map B).toArray) ∧ Below w.heap.size w w' := by
  go_enter Tryz.func106, Tryz.ntmps106
  go_wp2_with (refine wpList_box 174 (.tmp 0) [L lo, L hi] _ rfl rfl rfl rfl ?_)
  intro w1 hb0 hbel1
  go_wp2_with (refine wpList_var 172 ((zeros 16).map B) _ rfl rfl Tryz.zero16 rfl ?_)
  intro w2 hb1 hbel2
  go_wp2_with (refine wpList_var 172 ((zeros 16).map B) _ rfl rfl Tryz.zero16 rfl ?_)
  intro w3 hb2 hbel3
  have hb0' := ((hb0.below hbel2 hb0.lt).below hbel3 (Nat.lt_of_lt_of_le hb0.lt hbel2.size)).drew
  have hc0 := fun (x : After w3.drew) => (hb0'.below x.later hb0'.lt).cell 0 (L lo) rfl
  have hc1 := fun (x : After w3.drew) => (hb0'.below x.later hb0'.lt).cell 1 (L hi) rfl
  have HB1 := Lib.hid (hb1.below hbel3 hb1.lt)
  have HB2 := Lib.hid hb2
  have hlt1 := Nat.lt_of_lt_of_le hb0.lt (Nat.le_refl w1.heap.size)
  have hlt2 := hb1.lt
  have hlt3 := hb2.lt
  have HBEL := Lib.hid (show Below w.heap.size w w3 from (hbel1.trans (hbel2.mono hbel1.size)).trans (hbel3.mono (Nat.le_trans hbel1.size hbel2.size)))
  clear hb0 hb1 hb2 hb0' hbel1 hbel2 hbel3
  go_wp2_with fail
  refine wp_region_P [0, 1, 3, 4] [2, 5] [8, 9] [Floater.var 6 4 71 ((zeros 8).map B), Floater.var 7 5 71 ((zeros 8).map B)] (by kernel_rfl) (by kernel_rfl) ?_
  rintro w4 rfl
  repeat (refine walk0_one rfl rfl rfl (fun K hK => ?_); go_big_quiet_step (fail); refine wpQuiet_nil (hK _ ?_); clear hK K)
  refine walk0_nil ⟨?_, ?_, Nat.le_refl _⟩
  · intro f hf
    simp at hf
    rcases hf with rfl | rfl
    · exact fits_var _ _ _ _ _ _ rfl rfl rfl rfl (by simp) Tryz.zero8 rfl
    · exact fits_var _ _ _ _ _ _ rfl rfl rfl rfl (by simp) Tryz.zero8 rfl
  clear hc0 hc1
  refine walkP_call2 rfl rfl (fun u v w5 hl5 K hK => ?_)
  go_simp
  refine (putlong_ok lo w5).mono ?_
  rintro e w6 ⟨rfl, hbel6⟩
  go_simp
  refine hK _ _ hbel6 ?_
  clear hK K
  refine walkP_call2 rfl rfl (fun u v w7 hl7 K hK => ?_)
  go_simp
  refine (putlong_ok hi w7).mono ?_
  rintro e w8 ⟨rfl, hbel8⟩
  go_simp
  refine hK _ _ hbel8 ?_
  clear hK K
  refine walkP_nil2 (fun n m w9 hl9 hn hm hnm hbn hbm => ?_)
  go_simp
  have hl := (((hl5.trans hbel6).trans hl7).trans hbel8).trans hl9
  have HB1 := Lib.hid (HB1.out.drew.below hl HB1.out.lt)
  have HB2 := Lib.hid (HB2.out.drew.below hl HB2.out.lt)
  have HBN := Lib.hid (show Blk w9 n ((zeros 8).map B) 71 from hbn)
  have HBM := Lib.hid (show Blk w9 m ((zeros 8).map B) 71 from hbm)
  have HBEL := Lib.hid (HBEL.out.drew.trans (Below.mono hl HBEL.out.drew.size))
  clear hl hl5 hbel6 hl7 hbel8 hl9 hbn hbm
  refine walkR_free rfl rfl (by rfl) (fun K hK => ?_)
  refine HBN.out.opstore rfl rfl rfl Tryz.row8 (by simp [zeros_length]) (by simp [putLong_length]) (oneCell_B _) (fun w10 hn10 ho10 => hK _ _ ?_)
  clear hK K
  go_simp
  have HB1 := Lib.hid (HB1.out.only ho10 (by omega))
  have HB2 := Lib.hid (HB2.out.only ho10 (by omega))
  have HBM := Lib.hid (HBM.out.only ho10 (by omega))
  have HBN := Lib.hid hn10
  have HBEL := Lib.hid (below_only HBEL.out ho10 (by omega))
  refine walkR_free rfl rfl (by rfl) (fun K hK => ?_)
  refine HBM.out.opstore rfl rfl rfl Tryz.row8 (by simp [zeros_length]) (by simp [putLong_length]) (oneCell_B _) (fun w11 hm11 ho11 => hK _ _ ?_)
  clear hK K
  go_simp
  have HB1 := Lib.hid (HB1.out.only ho11 (by omega))
  have HB2 := Lib.hid (HB2.out.only ho11 (by omega))
  have HBN := Lib.hid (HBN.out.only ho11 (by omega))
  have HBM := Lib.hid hm11
  have HBEL := Lib.hid (below_only HBEL.out ho11 (by omega))
  clear ho10 ho11 hn10 hm11
  refine walkR_nil ?_
  go_wp2_with fail
  refine wp_region_R [0, 1, 2] (by kernel_rfl) (by kernel_rfl) ?_
  rintro w12 rfl
  repeat (refine walkR_one rfl rfl (fun K hK => ?_); go_big_quiet_step (fail); refine wpQuiet_nil (hK _ ?_); clear hK K)
  refine walkR_free rfl rfl (by rfl) (fun K hK => ?_)
  refine HB2.out.drew.opcopy 0 ((putLong lo).map B) rfl rfl rfl Tryz.underlying24 Tryz.sizeByte (fun _ => rfl) HBN.out.drew.lies (by simp [putLong_length]) (by simp [putLong_length, zeros_length]) (oneCell_B _) (fun w13 hb13 ho13 => hK _ _ ?_)
  clear hK K
  go_simp
  have HB1 := Lib.hid (HB1.out.drew.only ho13 (by omega))
  have HBM := Lib.hid (HBM.out.drew.only ho13 (by omega))
  have HB2 := Lib.hid hb13
  have HBEL := Lib.hid (below_only HBEL.out.drew ho13 (by omega))
  clear hb13 ho13
  refine walkR_nil ?_
  go_wp2_with fail
  refine wp_region_R [0, 1, 2] (by kernel_rfl) (by kernel_rfl) ?_
  rintro w14 rfl
  repeat (refine walkR_one rfl rfl (fun K hK => ?_); go_big_quiet_step (fail); refine wpQuiet_nil (hK _ ?_); clear hK K)
  refine walkR_free rfl rfl (by rfl) (fun K hK => ?_)
  refine HB2.out.drew.opcopy 8 ((putLong hi).map B) rfl rfl rfl Tryz.underlying24 Tryz.sizeByte (fun _ => rfl) HBM.out.drew.lies (by simp [putLong_length]) (by simp [splice, putLong_length, zeros_length]) (oneCell_B _) (fun w15 hb15 ho15 => hK _ _ ?_)
  clear hK K
  go_simp
  have hrow : splice (splice ((zeros 16).map B) 0 ((putLong lo).map B)) 8 ((putLong hi).map B) = (putLong lo ++ putLong hi).map B := by
    simp [splice, putLong_length, zeros]
  rw [hrow] at hb15
  have hlen : ((putLong lo ++ putLong hi).map B).length = 16 := by simp [putLong_length]
  have HB1 := Lib.hid (HB1.out.drew.only ho15 (by omega))
  have HB2 := Lib.hid hb15
  have HBEL := Lib.hid (below_only HBEL.out.drew ho15 (by omega))
  have HLEN := Lib.hid hlen
  have HONE := Lib.hid (oneCell_B (putLong lo ++ putLong hi))
  clear hb15 ho15 hlen hrow
  generalize hcs : (putLong lo ++ putLong hi).map B = cs at *
  have HCS := Lib.hid hcs
  clear hcs
  refine walkR_nil ?_
  go_wp2_with (first | (refine HB2.out.wload rfl rfl rfl Tryz.row16 HLEN.out ?_) | (refine HB1.out.wstore rfl rfl rfl (cs := cs) rfl Tryz.row16 (by simp [zeros_length]) HLEN.out HONE.out ?_))
  intro w16 hb16 ho16
  go_wp2
  refine hb16.result rfl rfl rfl Tryz.row16 HLEN.out ⟨by rw [HCS.out], below_only HBEL.out ho16 (by omega)⟩

theorem room_ok (n size : Nat) (w : World) (hn : n ≤ 1099511627776) (hs : 1 ≤ size) (hs2 : size ≤ 1099511627776) :
    Calls Tryz.prog 189 #[.int .i64 n, .int .i64 size] w fun e w' => e = .returned (.int .i64 (roomL n size)) ∧ w = w' := by
  have hm : (n : Int) % size < size := Int.emod_lt_of_pos _ (by omega)
  have hm0 : (0 : Int) ≤ (n : Int) % size := Int.emod_nonneg _ (by omega)
  have he : (((size : Int) - (n : Int) % size) % size) = (roomL n size : Int) := by
    unfold roomL
    rw [Int.natCast_emod, Int.ofNat_sub (Nat.le_of_lt (Nat.mod_lt _ (by omega))), Int.natCast_emod]
  have HE := Lib.hid he
  clear he
  go_enter Tryz.func189, Tryz.ntmps189
  go_wp2
  go_ret
  exact ⟨by rw [HE.out]; rfl, rfl⟩

theorem Tryz.infoByte : (Tryz.prog.info? 5).map (fun i => (i.zero, i.size, i.bytes)) = some (some (.int .u8 0), 1, 1) := by kernel_rfl

theorem repB (n : Nat) : List.replicate n (Value.int .u8 0) = (zeros n).map B := by simp [zeros]

theorem xor_ok (a1 a2 : Option Addr) (l1 l2 k1 k2 : Nat) (b1 b2 : List UInt8) (w : World) (hl1 : b1.length = l1) (hl2 : b2.length = l2) (hc1 : l1 ≤ 1099511627776) (_ : l2 ≤ 1099511627776) (hs1 : Lies w a1 (b1.map B)) (hs2 : Lies w a2 (b2.map B)) :
    Calls Tryz.prog 139 #[.slice a1 l1 k1, .slice a2 l2 k2] w (Fresh w 5 1 (min l1 l2) ((xorL b1 b2).map B) id) := by
  obtain ⟨n, hn⟩ : ∃ n, n = min l1 l2 := ⟨_, rfl⟩
  rw [← hn]
  have hmin : (if l2 < l1 then (l2 : Int) else (l1 : Int)) = (n : Int) := by rw [hn]; split <;> omega
  have hn1 : n ≤ l1 := by omega
  have hn2 : n ≤ l2 := by omega
  have hxl : n = min b1.length b2.length := by rw [hl1, hl2]; exact hn
  have HL1 := Lib.hid hl1
  have HL2 := Lib.hid hl2
  have HS1 := Lib.hid hs1
  have HS2 := Lib.hid hs2
  have HX := Lib.hid hxl
  clear hn hl1 hl2 hs1 hs2 hxl
  go_enter Tryz.func139, Tryz.ntmps139
  go_wp2_with (at_make; refine wpList_make 24 5 (.int .u8 0) 1 n rfl rfl rfl rfl Tryz.underlying24 Tryz.infoByte rfl ?h1 ?h2 (by omega) (by unfold maxLen; omega) ?_)
  case h1 => rfl
  case h2 => rfl
  intro w1 hb1 hbel1
  rw [repB] at hb1
  have hlt1 := hb1.lt
  have HB1 := Lib.hid hb1
  have HBEL1 := Lib.hid hbel1
  clear hb1 hbel1
  go_wp2
  go_loopw [15] (fun i wr => ∃ (j : Nat) (l : List UInt8), j ≤ n ∧ i = .int .i64 j ∧ Filled (fun k => xor8 (at8 b1 k) (at8 b2 k)) n j l ∧ Blk wr w.heap.size (l.map B) 5 ∧ Below w.heap.size w wr)
    (fun i _ => n - (intOf i).toNat)
  case atStart => exact ⟨0, zeros n, Nat.zero_le _, rfl, Filled.zero (zeros_length n), HB1.out, HBEL1.out⟩
  case round =>
    obtain ⟨j, l, hj, rfl, hF, hb, hbel⟩ := hrel
    by_cases hlt : j < n
    · obtain ⟨x, hx⟩ := hF.at hlt
      have hy1 := at8_get (b := b1) (i := j) (by rw [HL1.out]; omega)
      have hy2 := at8_get (b := b2) (i := j) (by rw [HL2.out]; omega)
      obtain ⟨c1, o1, rfl, hc1⟩ := HS1.out _ _ (mapB_at hy1)
      obtain ⟨c2, o2, rfl, hc2⟩ := HS2.out _ _ (mapB_at hy2)
      have hc1 := fun (x : After wr.drew) => ((hbel.drew.trans (Below.mono x.later hbel.size)).cell (p := ⟨c1, o1 + j, none⟩) (block_lt_of_cell hc1)).trans hc1
      have hc2 := fun (x : After wr.drew) => ((hbel.drew.trans (Below.mono x.later hbel.size)).cell (p := ⟨c2, o2 + j, none⟩) (block_lt_of_cell hc2)).trans hc2
      have HB := Lib.hid hb
      have HF := Lib.hid hF
      clear hb hx hF hy1 hy2
      go_wp2_with fail
      refine wp_region_R [0, 1, 2, 3, 4, 5, 6, 7, 8, 9, 10, 11, 12] (by kernel_rfl) (by kernel_rfl) ?_
      rintro w2 rfl
      repeat (refine walkR_one rfl rfl (fun K hK => ?_); go_big_quiet_step (fail); refine wpQuiet_nil (hK _ ?_); clear hK K)
      clear hc1 hc2
      refine walkR_free rfl rfl (by rfl) (fun K hK => ?_)
      refine HB.out.drew.opset (v := B (xor8 (at8 b1 j) (at8 b2 j))) rfl rfl rfl Tryz.sizeByte rfl rfl (by rw [List.length_map, HF.out.1]; omega) (fun w3 hb3 ho3 => hK _ _ ?_)
      clear hK K
      rw [mapB_set] at hb3
      have hbel3 := below_only hbel.drew ho3 (Nat.le_refl _)
      refine walkR_nil ?_
      go_wp2
      go_roundw
      case rel => exact ⟨j + 1, _, by omega, rfl, HF.out.step hlt, hb3, hbel3⟩
      case measure => simp [intOf]; omega
    · obtain rfl : j = n := by omega
      have hown := own_of_blk hb (Nat.le_refl _) (by rw [List.length_map, hF.1]) (by unfold maxLen; omega)
      have e := hF.all
      have HX2 := Lib.hid (show l = xorL b1 b2 by rw [e, HX.out]; rfl)
      clear e
      go_wp2
      go_ret
      refine ⟨_, rfl, ?_, hbel⟩
      rw [← HX2.out]
      exact hown

end Go.Proofs.YtmpgcilppjkhoaaGreatDoor
