/-
  The walks of octet: blocks, and rows with noughts behind them.
-/
import Derived.Test.YtmpgcilppjkhoaaGreatDoorOctB
namespace Go.Proofs.YtmpgcilppjkhoaaGreatDoor
open Go.RowKit Go.Mem Go.Ops Go.Cells Go.Oct
set_option linter.unusedSimpArgs false
set_option linter.unusedVariables false
set_option maxRecDepth 100000
attribute [local irreducible] walkR walkP walk0

theorem splice_block (bs : List UInt8) : splice ((zeros 16).map B) 0 ((bs.take 16).map B) = (block bs).map B := by
  unfold splice
  rw [List.take_zero, List.nil_append, Nat.zero_add, ← List.map_drop, ← List.map_append]
  congr 1
  apply List.ext_getElem?
  intro i
  rw [List.getElem?_append, List.length_map, List.length_take]
  by_cases h16 : i < 16
  · have hb : (block bs)[i]? = some (at8 bs i) := by simp [block, h16]
    rw [hb]
    by_cases hi : i < bs.length
    · rw [if_pos (by omega), List.getElem?_take_of_lt h16, at8_get hi]
    · rw [if_neg (by omega), at8_none (by omega), List.getElem?_drop, zeros, List.getElem?_replicate, if_pos (by omega)]
  · rw [List.getElem?_eq_none (l := block bs) (by rw [block_length]; omega)]
    rw [if_neg (by omega), List.getElem?_drop, List.getElem?_eq_none (by simp [zeros]; omega)]

theorem block_ok (ao : Option Addr) (len cap : Nat) (bs : List UInt8) (w : World) (hlen : bs.length = len) (hl : Lies w ao (bs.map B)) :
    Calls Tryz.prog 130 #[.slice ao len cap] w fun e w' => e = .returned (.agg ((block bs).map B).toArray) ∧ Below w.heap.size w w' := by
  have hcl : ((bs.take 16).map B).length = Nat.min len 16 := by rw [List.length_map, List.length_take, hlen]; exact Nat.min_comm _ _
  have hcf : 0 + ((bs.take 16).map B).length ≤ ((zeros 16).map B).length := by rw [hcl]; simp [zeros]; exact Nat.min_le_right _ _
  have HCL := Lib.hid hcl
  have HCF := Lib.hid hcf
  have HL := Lib.hid (show Lies w ao ((bs.take 16).map B) by rw [List.map_take]; exact hl.take 16)
  have HS := Lib.hid (splice_block bs)
  have HO := Lib.hid (oneCell_B (bs.take 16))
  clear hlen hl hcl hcf
  generalize (bs.take 16).map B = cs at *
  go_enter Tryz.func130, Tryz.ntmps130
  go_wp2_with (refine wpList_var 172 ((zeros 16).map B) _ rfl rfl Tryz.zero16 rfl ?_)
  intro w1 hb1 hbel1
  go_wp2_with (refine wpList_var 172 ((zeros 16).map B) _ rfl rfl Tryz.zero16 rfl ?_)
  intro w2 hb2 hbel2
  have HB1 := Lib.hid (hb1.below hbel2 hb1.lt)
  have HB2 := Lib.hid hb2
  have hlt := hb1.lt
  have HBEL := Lib.hid (hbel1.trans (hbel2.mono hbel1.size))
  have HL := Lib.hid (HL.out.below HBEL.out)
  clear hb1 hb2 hbel1 hbel2
  go_wp2_with (refine HB2.out.wcopy 0 cs rfl rfl rfl rfl Tryz.underlying24 Tryz.sizeByte (fun _ => rfl) HL.out HCL.out HCF.out HO.out ?_)
  intro w3 hb3 ho3
  rw [HS.out] at hb3
  have HB1 := Lib.hid (HB1.out.only ho3 (by omega))
  have HB2 := Lib.hid hb3
  have HBEL := Lib.hid (below_only HBEL.out ho3 (by omega))
  have HLEN := Lib.hid (show ((block bs).map B).length = 16 by simp [block_length])
  have HONE := Lib.hid (oneCell_B (block bs))
  clear hb3 ho3 HS
  generalize hcs2 : (block bs).map B = ds at *
  have HDS := Lib.hid hcs2
  clear hcs2
  go_wp2_with (first | (refine HB2.out.wload rfl rfl rfl Tryz.row16 HLEN.out ?_) | (refine HB1.out.wstore rfl rfl rfl (cs := ds) rfl Tryz.row16 (by simp [zeros_length]) HLEN.out HONE.out ?_))
  intro w4 hb4 ho4
  go_wp2
  refine hb4.result rfl rfl rfl Tryz.row16 HLEN.out ⟨by rw [HDS.out], below_only HBEL.out ho4 (by omega)⟩

theorem splice_zeros (bs : List UInt8) (n : Nat) (hn : bs.length ≤ n) : splice ((zeros n).map B) 0 (bs.map B) = (bs ++ zeros (n - bs.length)).map B := by
  unfold splice
  rw [List.take_zero, List.nil_append, Nat.zero_add, List.length_map, ← List.map_drop, ← List.map_append]
  congr 2
  simp [zeros]

theorem padded_ok (ao : Option Addr) (len cap size : Nat) (bs : List UInt8) (w : World) (hlen : bs.length = len) (hb : len ≤ 1099511627776) (hs : 1 ≤ size) (hs2 : size ≤ 1099511627776) (hl : Lies w ao (bs.map B)) :
    Calls Tryz.prog 167 #[.slice ao len cap, .int .i64 size] w (Fresh w 5 1 (len + roomL len size) ((padL bs size).map B) id) := by
  have hr : roomL len size < size := Nat.mod_lt _ (by omega)
  have hpl : padL bs size = bs ++ zeros (len + roomL len size - bs.length) := by
    unfold padL zeros
    rw [hlen, Nat.add_sub_cancel_left]
  obtain ⟨n, hn⟩ : ∃ n, n = len + roomL len size := ⟨_, rfl⟩
  have hsum : (len : Int) + (roomL len size : Int) = (n : Int) := by omega
  have hn2 : n ≤ 2199023255552 := by omega
  have hln : len ≤ n := by omega
  rw [← hn]
  rw [← hn] at hpl
  have HP := Lib.hid hpl
  have HLEN := Lib.hid hlen
  have HL := Lib.hid hl
  have HO := Lib.hid (oneCell_B bs)
  have HNN := Lib.hid hn
  clear hpl hlen hl hn
  go_enter Tryz.func167, Tryz.ntmps167
  go_wp2_with fail
  refine (room_ok len size w hb hs hs2).mono ?_
  rintro e w1 ⟨rfl, rfl⟩
  go_wp2_with (at_make; refine wpList_make 24 5 (.int .u8 0) 1 n rfl rfl rfl rfl Tryz.underlying24 Tryz.infoByte rfl rfl rfl (by omega) (by unfold maxLen; omega) ?_)
  intro w1 hb1 hbel1
  rw [repB] at hb1
  have HB1 := Lib.hid hb1
  have HL1 := Lib.hid (HL.out.below hbel1)
  clear hb1
  go_wp2_with (refine HB1.out.wcopy 0 (bs.map B) rfl rfl rfl rfl Tryz.underlying24 Tryz.sizeByte (fun _ => rfl) HL1.out (by rw [List.length_map, HLEN.out]; exact (Nat.min_eq_left hln).symm) (by simp [zeros_length, HLEN.out]; exact hln) HO.out ?_)
  intro w2 hb2 ho2
  rw [splice_zeros _ _ (by rw [HLEN.out]; exact hln), ← HP.out] at hb2
  have hpll : ((padL bs size).map B).length = n := by rw [HP.out]; simp [zeros_length, HLEN.out]; omega
  have hown := own_of_blk hb2 (Nat.le_refl _) hpll (by unfold maxLen; omega)
  have hbel := below_only hbel1 ho2 (Nat.le_refl _)
  clear hb2 ho2 hpll
  go_wp2
  go_ret
  exact ⟨_, rfl, hown, hbel⟩

theorem marked_ok (ao : Option Addr) (len cap size : Nat) (mark : UInt8) (bs : List UInt8) (w : World) (hlen : bs.length = len) (hb : len ≤ 1000000000000) (hs : 1 ≤ size) (hs2 : size ≤ 1099511627776) (hl : Lies w ao (bs.map B)) :
    Calls Tryz.prog 197 #[.slice ao len cap, B mark, .int .i64 size] w (Fresh w 5 1 (len + 1 + roomL (len + 1) size) ((markL bs mark size).map B) id) := by
  obtain ⟨n, hn⟩ : ∃ n, n = len + 1 := ⟨_, rfl⟩
  have hsum : (len : Int) + 1 = (n : Int) := by omega
  have hln : len < n := by omega
  have hm : markL bs mark size = padL (bs ++ [mark]) size := rfl
  rw [← hn, hm]
  have hbl : (bs ++ [mark]).length = n := by simp [hlen, hn]
  have hset : ((bs ++ zeros (n - bs.length)).map B).set len (B mark) = (bs ++ [mark]).map B := by
    rw [hlen, hn, Nat.add_sub_cancel_left, mapB_set]
    congr 1
    rw [List.set_append_right _ _ (by omega), hlen, Nat.sub_self]
    rfl
  have HSET := Lib.hid hset
  have HBL := Lib.hid hbl
  have HLEN := Lib.hid hlen
  have HL := Lib.hid hl
  have HO := Lib.hid (oneCell_B bs)
  clear hlen hl hn hm hbl hset
  go_enter Tryz.func197, Tryz.ntmps197
  go_wp2_with (at_make; refine wpList_make 24 5 (.int .u8 0) 1 n rfl rfl rfl rfl Tryz.underlying24 Tryz.infoByte rfl rfl rfl (by omega) (by unfold maxLen; omega) ?_)
  intro w1 hb1 hbel1
  rw [repB] at hb1
  have HB1 := Lib.hid hb1
  have HL1 := Lib.hid (HL.out.below hbel1)
  have HBEL1 := Lib.hid hbel1
  clear hb1 hbel1
  go_wp2_with (refine HB1.out.wcopy 0 (bs.map B) rfl rfl rfl rfl Tryz.underlying24 Tryz.sizeByte (fun _ => rfl) HL1.out (by rw [List.length_map, HLEN.out]; exact (Nat.min_eq_left (by omega)).symm) (by simp [zeros_length, HLEN.out]; omega) HO.out ?_)
  intro w2 hb2 ho2
  rw [splice_zeros _ _ (by rw [HLEN.out]; omega)] at hb2
  have HB2 := Lib.hid hb2
  have HBEL2 := Lib.hid (below_only HBEL1.out ho2 (Nat.le_refl _))
  clear hb2 ho2
  have hlt : (bs ++ zeros (n - bs.length))[len]? = some 0 := by
    rw [HLEN.out, List.getElem?_append_right (by rw [HLEN.out]; omega), HLEN.out, Nat.sub_self, zeros, List.getElem?_replicate, if_pos (by omega)]
  have hc := HB2.out.cell len _ (mapB_at hlt)
  have hf := HB2.out.free len
  clear hlt
  go_wp2_with fail
  have hb3 := HB2.out.set len (B mark)
  rw [HSET.out] at hb3
  have hbel3 := HBEL2.out.setCell (p := ⟨w.heap.size, len, none⟩) (Nat.le_refl _) (B mark)
  refine (padded_ok _ n n size (bs ++ [mark]) _ HBL.out (by omega) hs hs2 hb3.lies).mono ?_
  rintro e w4 ⟨v, rfl, hown, hbel4⟩
  go_wp2
  go_ret
  exact ⟨v, rfl, hown.mono hbel3.size, hbel3.trans (hbel4.mono hbel3.size)⟩

end Go.Proofs.YtmpgcilppjkhoaaGreatDoor
