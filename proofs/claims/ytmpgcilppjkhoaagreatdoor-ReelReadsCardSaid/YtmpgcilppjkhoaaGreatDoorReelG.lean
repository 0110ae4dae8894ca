/-
  The walks of the document's answers: numbers' bytes, and the other way round.
-/
import Derived.Test.YtmpgcilppjkhoaaGreatDoorReelA
import Derived.Test.YtmpgcilppjkhoaaGreatDoorReelZ
import Derived.Test.YtmpgcilppjkhoaaGreatDoorBuild
namespace Go.Proofs.YtmpgcilppjkhoaaGreatDoor
open Go.RowKit Go.Mem Go.Ops Go.Cells Go.Oct Go.Reel
set_option linter.unusedSimpArgs false
set_option linter.unusedVariables false
set_option maxRecDepth 100000

theorem refput_ok (k : UInt64) (many : Nat) (w : World) (hm : many ≤ 8) :
    Calls Tryz.prog 22 #[L k, .int .i64 many] w fun e w' => ∃ v, e = .returned v ∧ OwnB 5 w' w.heap.size v (bytesOf k.toNat many) ∧ Below w.heap.size w w' := by
  go_enter Tryz.func22, Tryz.ntmps22
  go_wp2
  go_loopw [0, 5, 6] (fun n v c wr => ∃ (j : Nat) (q : UInt64), j ≤ many ∧ c = .int .i64 j ∧ n = L q ∧ Hid (q.toNat = k.toNat / 256 ^ j) ∧ Hid (OwnB 5 wr w.heap.size v (bytesOf k.toNat j)) ∧ Hid (Below w.heap.size w wr)) (fun _ _ c _ => many - (intOf c).toNat)
  case atStart => exact ⟨0, k, by omega, rfl, rfl, by show k.toNat = _; simp, OwnB.nil _ _ _, Below.refl _ _⟩
  case round =>
    obtain ⟨j, q, hj, rfl, rfl, HQ, HO, HB⟩ := hrel
    by_cases hlt : j < many
    · obtain ⟨x, hxe⟩ : ∃ x : UInt8, x = UInt8.ofNat q.toNat := ⟨_, rfl⟩
      have hx : Value.int .u8 ((q.toNat : Int) % 256) = B x := by
        show Value.int .u8 _ = Value.int .u8 _
        rw [hxe, UInt8.toNat_ofNat']
        congr 1
      have HO1 := Lib.hid (HO.out.later (later_alloc wr (Obj.cells #[Value.int .u8 ((q.toNat : Int) % 256)] 5)))
      have HB1 := Lib.hid (HB.out.trans ((later_alloc wr (Obj.cells #[Value.int .u8 ((q.toNat : Int) % 256)] 5)).mono HB.out.size))
      have HL1 := Lib.hid (show Lies (wr.alloc (Obj.cells #[Value.int .u8 ((q.toNat : Int) % 256)] 5)) (some ⟨wr.heap.size, 0, none⟩) ([x].map B) by
        have := (Blk.new wr [Value.int .u8 ((q.toNat : Int) % 256)] 5).lies
        rw [hx] at this
        rw [hx]
        exact this)
      obtain ⟨q2, hq2⟩ : ∃ q2 : UInt64, q2 = q / 256 := ⟨_, rfl⟩
      have HQ1 := Lib.hid (show q2.toNat = k.toNat / 256 ^ (j + 1) by
        rw [hq2, UInt64.toNat_div, HQ.out, Nat.pow_succ, ← Nat.div_div_eq_div_mul]; rfl)
      have hq : (q.toNat : Int) / 256 = (q2.toNat : Int) := by rw [hq2, UInt64.toNat_div]; rfl
      have HSN := Lib.hid (show bytesOf k.toNat j ++ [x] = bytesOf k.toNat (j + 1) by rw [bytesOf_snoc, hxe, HQ.out])
      have HLN := Lib.hid (bytesOf_length k.toNat j)
      have hqd : (q.toNat : Int).tdiv 256 = (q2.toNat : Int) := by rw [Int.tdiv_eq_ediv_of_nonneg (by omega)]; exact hq
      clear hx HO HB HQ hxe hq2
      go_wp2_with (at_builtin; refine wpList_append_bytes rfl 24 (.tmp 12) (.tmp 16) rfl Tryz.underlying24 Tryz.infoByteR rfl HO1.out (some ⟨wr.heap.size, 0, none⟩) 1 1 [x] rfl rfl HL1.out (by rw [HLN.out]; omega) HB1.out.size ?_)
      intro v2 w2 hown2 hg2
      rw [HSN.out] at hown2
      have HB2 := Lib.hid (HO1.out.belowGrown HB1.out hg2 (Nat.le_refl _) HB1.out.size)
      have HO2 := Lib.hid hown2
      clear hown2 hg2 HO1 HB1 HL1
      go_wp2
      go_roundw
      case rel => exact ⟨j + 1, q2, by omega, by go_num, rfl, HQ1, HO2, HB2⟩
      case measure => simp [intOf]; omega
    · obtain rfl : j = many := by omega
      go_wp2
      go_ret
      exact ⟨_, rfl, HO.out, HB.out⟩

end Go.Proofs.YtmpgcilppjkhoaaGreatDoor
