/-
  The walk of the document's answer: what is told, in bytes.
-/
import Derived.Test.YtmpgcilppjkhoaaGreatDoorReelI
import Derived.Test.YtmpgcilppjkhoaaGreatDoorReelT
import Derived.Test.YtmpgcilppjkhoaaGreatDoorRegionL
namespace Go.Proofs.YtmpgcilppjkhoaaGreatDoor
open Go.RowKit Go.Mem Go.Ops Go.Cells Go.Oct Go.Reel
set_option linter.unusedSimpArgs false
set_option linter.unusedVariables false
set_option maxRecDepth 100000

set_option maxHeartbeats 4000000 in
theorem reftell_ok (ao : Option Addr) (n cap : Nat) (xs : List Oute) (w : World) (hn : xs.length = n) (hx : OutsIn w ao xs) (hn2 : n ≤ 1000) (hm : ∀ x ∈ xs, x.b.length ≤ 100000) :
    Calls Tryz.prog 18 #[.slice ao n cap] w fun e w' => ∃ v, e = .returned v ∧ OwnB 5 w' w.heap.size v (tellsB xs) ∧ Below w.heap.size w w' := by
  have HN := Lib.hid hn
  have HX := Lib.hid hx
  have HM := Lib.hid hm
  clear hn hx hm
  go_enter Tryz.func18, Tryz.ntmps18
  go_wp2
  go_loopw [3, 4] (fun v c wr => ∃ j : Nat, j ≤ n ∧ c = .int .i64 j ∧ Hid (OwnB 5 wr w.heap.size v (tellsB (xs.take j))) ∧ Hid (Below w.heap.size w wr)) (fun _ c _ => n - (intOf c).toNat)
  case atStart => exact ⟨0, by omega, rfl, OwnB.nil _ _ _, Below.refl _ _⟩
  case round =>
    obtain ⟨j, hj, rfl, HO, HB⟩ := hrel
    by_cases hlt : j < n
    · obtain ⟨x, hget⟩ : ∃ x, xs[j]? = some x := ⟨xs[j]'(by rw [HN.out]; exact hlt), by simp⟩
      have HOT := Lib.hid (tellsB_take hget)
      have HLEN := Lib.hid (show (tellsB (xs.take j)).length ≤ 200000000 by
        have := tellsB_length (xs.take j) (fun c hc => HM.out c (List.mem_of_mem_take hc))
        rw [List.length_take] at this
        omega)
      have hmb := HM.out x (List.mem_of_getElem? hget)
      have HXI := Lib.hid (HX.out.each x (List.mem_of_getElem? hget))
      have HPUT := Lib.hid (x.bytes_put (tellsB (xs.take j)) (by omega))
      obtain ⟨hin, xb, xoff, rfl, hxb, hr⟩ := HX.out.at hget
      have HR := Lib.hid (fun (w' : World) (h : Below w.heap.size w w') => rangeAt_below hr h hxb)
      have hjn : (j : Int) < (n : Int) := by omega
      clear hget hin hr
      generalize tellsB (xs.take j) = bs at *
      have c0 := HR.out _ HB.out 0 _ rfl
      rw [Nat.add_zero] at c0
      have HY0 := Lib.hid (byteOf_val x.e)
      have HOA := Lib.hid (fun (o : Obj) => HO.out.later (later_alloc wr o))
      have HBA := Lib.hid (fun (o : Obj) => HB.out.trans ((later_alloc wr o).mono HB.out.size))
      go_wp2_with (at_builtin; refine wpList_append_bytes rfl 24 (.tmp 11) (.tmp 18) rfl Tryz.underlying24 Tryz.infoByteR rfl (HOA.out _) (some ⟨wr.heap.size, 0, none⟩) 1 1 [byteOf x.e] rfl rfl ?hl (by have := HLEN.out; simp [putN_length]; omega) (HBA.out _).size ?_)
      case hl => simp only [List.map_cons, List.map_nil, HY0.out]; exact (Blk.new _ [_] _).lies
      intro v5 w5 hown hg
      have HB := Lib.hid ((HOA.out _).belowGrown (HBA.out _) hg (Nat.le_refl _) (HBA.out _).size)
      have HO := Lib.hid hown
      clear hown hg HY0 c0 HOA HBA
      have c1 := HR.out _ HB.out 1 _ rfl
      go_wp2_with fail
      rw [wrap_u64]
      refine (refputN_ok x.n 4 _ (by omega)).mono ?_
      rintro e w6 ⟨ap, capp, rfl, hlp, hbel⟩
      have HO := Lib.hid (HO.out.later hbel)
      have HB := Lib.hid (HB.out.trans (hbel.mono HB.out.size))
      have HLP := Lib.hid hlp
      have HPL := Lib.hid (putN_length x.n 4 (by omega))
      clear hbel hlp c1
      go_wp2_with (at_builtin; refine wpList_append_bytes rfl 24 (.tmp 20) (.tmp 27) rfl Tryz.underlying24 Tryz.infoByteR rfl HO.out ap 4 capp (putN x.n 4) rfl HPL.out HLP.out (by have := HLEN.out; simp [putN_length]; omega) HB.out.size ?_)
      intro v7 w7 hown hg
      have HB := Lib.hid (HO.out.belowGrown HB.out hg (Nat.le_refl _) HB.out.size)
      have HO := Lib.hid hown
      clear hown hg HLP HPL
      have c2 := HR.out _ HB.out 2 _ rfl
      go_wp2_with fail
      rw [lenL x.b.length (by omega)]
      refine (refputN_ok x.b.length 4 _ (by omega)).mono ?_
      rintro e w8 ⟨ap2, capp2, rfl, hlp, hbel⟩
      have HO := Lib.hid (HO.out.later hbel)
      have HB := Lib.hid (HB.out.trans (hbel.mono HB.out.size))
      have HLP := Lib.hid hlp
      have HPL := Lib.hid (putN_length x.b.length 4 (by omega))
      clear hbel hlp c2
      go_wp2_with (at_builtin; refine wpList_append_bytes rfl 24 (.tmp 29) (.tmp 37) rfl Tryz.underlying24 Tryz.infoByteR rfl HO.out ap2 4 capp2 (putN x.b.length 4) rfl HPL.out HLP.out (by have := HLEN.out; simp [putN_length]; omega) HB.out.size ?_)
      intro v9 w9 hown hg
      have HB := Lib.hid (HO.out.belowGrown HB.out hg (Nat.le_refl _) HB.out.size)
      have HO := Lib.hid hown
      clear hown hg HLP HPL
      have c2 := HR.out _ HB.out 2 _ rfl
      go_wp2_with (at_builtin; refine wpList_append_bytes rfl 24 (.tmp 39) (.tmp 44) rfl Tryz.underlying24 Tryz.infoByteR rfl HO.out x.bo _ x.bc x.b rfl rfl (HXI.out.b.below HB.out) (by have := HLEN.out; simp [putN_length]; omega) HB.out.size ?_)
      intro v10 w10 hown hg
      have HB := Lib.hid (HO.out.belowGrown HB.out hg (Nat.le_refl _) HB.out.size)
      have HO := Lib.hid hown
      clear hown hg c2
      go_wp2
      go_roundw
      case rel => exact ⟨j + 1, by omega, by go_num, by
        show OwnB 5 w10 w.heap.size v10 _
        rw [HOT.out, ← HPUT.out, putN_one]
        have := HO.out
        simpa [List.append_assoc] using this, HB⟩
      case measure => simp [intOf]; omega
    · obtain rfl : j = n := by omega
      rw [List.take_of_length_le (Nat.le_of_eq HN.out)] at HO
      go_wp2
      go_ret
      exact ⟨_, rfl, HO.out, HB.out⟩

end Go.Proofs.YtmpgcilppjkhoaaGreatDoor
