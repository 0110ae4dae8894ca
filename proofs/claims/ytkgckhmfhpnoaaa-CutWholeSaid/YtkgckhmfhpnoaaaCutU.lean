/-
  The walk of the reference's Parts of a long message.
-/
import Derived.Test.YtkgckhmfhpnoaaaCutT
namespace Go.Proofs.Ytkgckhmfhpnoaaa
open Go.RowKit Go.Fl Go.Mem Go.CutP
set_option linter.unusedSimpArgs false

set_option maxRecDepth 100000 in
set_option maxHeartbeats 1600000 in
theorem rparts_long (n : Nat) (w : World) (h1 : 32 ≤ n) (h2 : n ≤ 65536) : Calls Try.prog 12 #[.int .i64 3, .int .i64 n] w (PartsPost 33 3 cellsR (longL n) 0 w) := by
  obtain ⟨i0, hi, hz0, hz1, hz2⟩ := info_parts Try.infoRPart
  obtain ⟨p, hp⟩ : ∃ p, (n - 32) / 32 = p := ⟨_, rfl⟩
  obtain ⟨d, hd⟩ : ∃ d, (n - 32) % 32 = d := ⟨_, rfl⟩
  have hfin : longL n = add (add (rest d (pairs p [])) 8 16) 9 16 := by unfold longL; rw [hd, hp]
  have e7 : ((n : Int) - 32) / 32 = (p : Int) := by omega
  have e10 : ((n : Int) - 32 - 32 * (p : Int)) = (d : Int) := by omega
  have hb1 : decide ((n : Int) < 1) = false := by simp; omega
  have hb2 : decide ((n : Int) < 32) = false := by simp; omega
  have hb3 : decide ((65536 : Int) < n) = false := by simp; omega
  have hd32 : d < 32 := by omega
  have hp2 : p ≤ 2048 := by omega
  have hlen := pairs_length
  have htot := tot_pairs
  have HFIN := Lib.hid hfin
  have HN := Lib.hid (show n = 32 * p + 32 + d by omega)
  have HLEN := Lib.hid hlen
  have HTOT := Lib.hid htot
  clear hfin hd hp hlen htot
  have E7 := Lib.hid e7
  clear e7
  go_enter Try.func12, Try.ntmps12
  go_wp2
  have e7 := E7.out
  rw [e7]
  go_loopw [6, 8] (fun v i wr => ∃ k : Nat, k ≤ p ∧ i = .int .i64 k ∧ wr.ownsRow w.heap.size 33 3 v (2 * k) (cellsR (pairs k [])) ∧ Below w.heap.size w wr)
    (fun _ i _ => p - (intOf i).toNat)
  case atStart => exact ⟨0, Nat.zero_le _, rfl, World.ownsRow_nil _ _ _ _, Below.refl _ _⟩
  case round =>
    obtain ⟨k, hk, rfl, hown, hbel⟩ := hrel
    have hsz := hbel.size
    by_cases hlt : k < p
    · go_wp2_with (first
        | (at_builtin; refine wpList_append_own _ rfl (.tmp 61) (.tmp 69) 26 rfl w.heap.size 33 i0 (.agg #[.int .i64 0, .int .i64 0, .int .i64 0]) 3 24 Try.underlying26 hi hz0 hz1 hz2 rfl (by decide) _ _ _ rfl (hown.alloc _) ⟨wr.heap.size, 0, none⟩ 2 2 [.int .i64 4, .int .i64 (32 * (k : Int)), .int .i64 16, .int .i64 5, .int .i64 (32 * (k : Int) + 16), .int .i64 16] rfl rfl ?c1 ?c2 ?c3 ?c4 ?c5 ?_))
      case c1 => exact World.news_of_block (heap_alloc_new wr _)
      case c2 => exact one_oneCell _ rfl
      case c3 => unfold maxLen; omega
      case c4 => omega
      case c5 => simp; omega
      intro v' w1 hown1 hgrow1 _
      go_wp2
      go_roundw
      case rel =>
        refine ⟨k + 1, by omega, by go_num, ?_, (hbel.alloc hbel.size _).grown hgrow1 (by simp; omega) (fun k hk => (hown.lt k hk).1)⟩
        rw [pairs_snoc, cellsR_add, cellsR_add, tot_add, HTOT.out]
        have e : tot [] + 32 * k = 32 * k := by simp [tot]
        rw [e, show 2 * (k + 1) = 2 * k + 2 by omega]
        simpa using hown1
      case measure => simp [intOf]; omega
    · obtain rfl : k = p := by omega
      have HOWN := Lib.hid hown
      clear hown
      rcases (show d = 0 ∨ (0 < d ∧ d < 16) ∨ (16 ≤ d) by omega) with rfl | ⟨hd1, hd2⟩ | hd1
      · have hr : longL n = add (add (pairs k []) 8 16) 9 16 := HFIN.out
        have HR := Lib.hid hr
        clear hr
        go_wp2_with (first
          | (at_builtin; refine wpList_append_own _ rfl (.tmp 101) (.tmp 108) 26 rfl w.heap.size 33 i0 (.agg #[.int .i64 0, .int .i64 0, .int .i64 0]) 3 24 Try.underlying26 hi hz0 hz1 hz2 rfl (by decide) _ _ _ rfl (HOWN.out.alloc _) ⟨wr.heap.size, 0, none⟩ 2 2 [.int .i64 8, .int .i64 ((n : Int) - 32), .int .i64 16, .int .i64 9, .int .i64 ((n : Int) - 16), .int .i64 16] rfl rfl ?d1 ?d2 ?d3 ?d4 ?d5 ?_))
        case d1 => exact World.news_of_block (heap_alloc_new wr _)
        case d2 => exact one_oneCell _ rfl
        case d3 => unfold maxLen; omega
        case d4 => omega
        case d5 => simp; omega
        intro v1 w1 hown1 hgrow1 _
        go_wp2
        go_ret2
        refine ⟨v1, rfl, ?_, (hbel.alloc hbel.size _).grown hgrow1 (by simp; omega) (fun k hk => (HOWN.out.lt k hk).1)⟩
        have hn := HN.out
        rw [HR.out]
        simp only [cellsR_add, tot_add, add_length, HLEN.out, HTOT.out]
        have e : (([] : List Part).length + 2 * k + 1 + 1) = 2 * k + 2 := by simp <;> omega
        have e1 : ((tot [] + 32 * k : Nat) : Int) = (n : Int) - 32 := by simp [tot]; omega
        have e2 : ((tot [] + 32 * k + 16 : Nat) : Int) = (n : Int) - 16 := by simp [tot]; omega
        rw [e, e1, e2]
        simpa using hown1
      · have hr : longL n = add (add (add (pairs k []) 6 d) 8 16) 9 16 := by rw [HFIN.out]; unfold rest; rw [if_neg (by omega), if_pos (by omega)]
        have HR := Lib.hid hr
        clear hr
        go_wp2_with (first
          | (at_builtin; refine wpList_append_own _ rfl (.tmp 83) (.tmp 87) 26 rfl w.heap.size 33 i0 (.agg #[.int .i64 0, .int .i64 0, .int .i64 0]) 3 24 Try.underlying26 hi hz0 hz1 hz2 rfl (by decide) _ _ _ rfl (HOWN.out.alloc _) ⟨wr.heap.size, 0, none⟩ 1 1 [.int .i64 6, .int .i64 (32 * (k : Int)), .int .i64 d] rfl rfl ?d1 ?d2 ?d3 ?d4 ?d5 ?_))
        case d1 => exact World.news_of_block (heap_alloc_new wr _)
        case d2 => exact one_oneCell _ rfl
        case d3 => unfold maxLen; omega
        case d4 => omega
        case d5 => simp; omega
        intro v1 w1 hown1 hgrow1 _
        have hbel1 : Below w.heap.size w w1 := (hbel.alloc hbel.size _).grown hgrow1 (by simp; omega) (fun k hk => (HOWN.out.lt k hk).1)
        have hsz1 := hbel1.size
        have HOWN1 := Lib.hid hown1
        have HBEL1 := Lib.hid hbel1
        clear hown1 hgrow1 hbel1
        go_wp2_with (first
          | (at_builtin; refine wpList_append_own _ rfl (.tmp 101) (.tmp 108) 26 rfl w.heap.size 33 i0 (.agg #[.int .i64 0, .int .i64 0, .int .i64 0]) 3 24 Try.underlying26 hi hz0 hz1 hz2 rfl (by decide) _ _ _ rfl (HOWN1.out.alloc _) ⟨w1.heap.size, 0, none⟩ 2 2 [.int .i64 8, .int .i64 ((n : Int) - 32), .int .i64 16, .int .i64 9, .int .i64 ((n : Int) - 16), .int .i64 16] rfl rfl ?e1 ?e2 ?e3 ?e4 ?e5 ?_))
        case e1 => exact World.news_of_block (heap_alloc_new w1 _)
        case e2 => exact one_oneCell _ rfl
        case e3 => unfold maxLen; omega
        case e4 => omega
        case e5 => simp; omega
        intro v2 w2 hown2 hgrow2 _
        go_wp2
        go_ret2
        refine ⟨v2, rfl, ?_, (HBEL1.out.alloc (by omega) _).grown hgrow2 (by simp; omega) (fun k hk => (HOWN1.out.lt k hk).1)⟩
        have hn := HN.out
        rw [HR.out]
        simp only [cellsR_add, tot_add, add_length, HLEN.out, HTOT.out]
        have e : (([] : List Part).length + 2 * k + 1 + 1 + 1) = 2 * k + 1 + 2 := by simp <;> omega
        have e0 : ((tot [] + 32 * k : Nat) : Int) = 32 * (k : Int) := by simp [tot]
        have e1 : ((tot [] + 32 * k + d : Nat) : Int) = (n : Int) - 32 := by simp [tot]; omega
        have e2 : ((tot [] + 32 * k + d + 16 : Nat) : Int) = (n : Int) - 16 := by simp [tot]; omega
        rw [e, e0, e1, e2]
        simpa using hown2
      · have hr : longL n = add (add (add (add (pairs k []) 6 16) 7 (d - 16)) 8 16) 9 16 := by rw [HFIN.out]; unfold rest; rw [if_neg (by omega), if_neg (by omega)]
        have HR := Lib.hid hr
        clear hr
        go_wp2_with (first
          | (at_builtin; refine wpList_append_own _ rfl (.tmp 91) (.tmp 99) 26 rfl w.heap.size 33 i0 (.agg #[.int .i64 0, .int .i64 0, .int .i64 0]) 3 24 Try.underlying26 hi hz0 hz1 hz2 rfl (by decide) _ _ _ rfl (HOWN.out.alloc _) ⟨wr.heap.size, 0, none⟩ 2 2 [.int .i64 6, .int .i64 (32 * (k : Int)), .int .i64 16, .int .i64 7, .int .i64 (32 * (k : Int) + 16), .int .i64 ((d : Int) - 16)] rfl rfl ?d1 ?d2 ?d3 ?d4 ?d5 ?_))
        case d1 => exact World.news_of_block (heap_alloc_new wr _)
        case d2 => exact one_oneCell _ rfl
        case d3 => unfold maxLen; omega
        case d4 => omega
        case d5 => simp; omega
        intro v1 w1 hown1 hgrow1 _
        have hbel1 : Below w.heap.size w w1 := (hbel.alloc hbel.size _).grown hgrow1 (by simp; omega) (fun k hk => (HOWN.out.lt k hk).1)
        have hsz1 := hbel1.size
        have HOWN1 := Lib.hid hown1
        have HBEL1 := Lib.hid hbel1
        clear hown1 hgrow1 hbel1
        go_wp2_with (first
          | (at_builtin; refine wpList_append_own _ rfl (.tmp 101) (.tmp 108) 26 rfl w.heap.size 33 i0 (.agg #[.int .i64 0, .int .i64 0, .int .i64 0]) 3 24 Try.underlying26 hi hz0 hz1 hz2 rfl (by decide) _ _ _ rfl (HOWN1.out.alloc _) ⟨w1.heap.size, 0, none⟩ 2 2 [.int .i64 8, .int .i64 ((n : Int) - 32), .int .i64 16, .int .i64 9, .int .i64 ((n : Int) - 16), .int .i64 16] rfl rfl ?e1 ?e2 ?e3 ?e4 ?e5 ?_))
        case e1 => exact World.news_of_block (heap_alloc_new w1 _)
        case e2 => exact one_oneCell _ rfl
        case e3 => unfold maxLen; omega
        case e4 => omega
        case e5 => simp; omega
        intro v2 w2 hown2 hgrow2 _
        go_wp2
        go_ret2
        refine ⟨v2, rfl, ?_, (HBEL1.out.alloc (by omega) _).grown hgrow2 (by simp; omega) (fun k hk => (HOWN1.out.lt k hk).1)⟩
        have hn := HN.out
        rw [HR.out]
        simp only [cellsR_add, tot_add, add_length, HLEN.out, HTOT.out]
        have e : (([] : List Part).length + 2 * k + 1 + 1 + 1 + 1) = 2 * k + 2 + 2 := by simp <;> omega
        have e0 : ((tot [] + 32 * k : Nat) : Int) = 32 * (k : Int) := by simp [tot]
        have e01 : ((tot [] + 32 * k + 16 : Nat) : Int) = 32 * (k : Int) + 16 := by simp [tot]
        have e02 : ((d - 16 : Nat) : Int) = (d : Int) - 16 := by omega
        have e1 : ((tot [] + 32 * k + 16 + (d - 16) : Nat) : Int) = (n : Int) - 32 := by simp [tot]; omega
        have e2 : ((tot [] + 32 * k + 16 + (d - 16) + 16 : Nat) : Int) = (n : Int) - 16 := by simp [tot]; omega
        rw [e, e0, e01, e02, e1, e2]
        simpa using hown2

set_option maxRecDepth 100000 in
theorem rparts_3 (n : Int) (w : World) (h0 : -9223372036854775808 ≤ n) (h1 : n ≤ 9223372036854775807) : Calls Try.prog 12 #[.int .i64 3, .int .i64 n] w (PartsPost 33 3 cellsR (partsL 3 n).1 (partsL 3 n).2 w) := by
  rcases (show n < 1 ∨ 65536 < n ∨ (1 ≤ n ∧ n < 32) ∨ (32 ≤ n ∧ n ≤ 65536) by omega) with h | h | ⟨ha, hb⟩ | ⟨ha, hb⟩
  · have e : partsL 3 n = ([], 7) := by unfold partsL; rw [if_neg (by omega), if_pos (by omega)]
    rw [e]; clear e
    go_enter Try.func12, Try.ntmps12
    go_wp2
    go_ret2
    exact ⟨_, rfl, World.ownsRow_nil _ _ _ _, Below.refl _ _⟩
  · have e : partsL 3 n = ([], 6) := by unfold partsL; rw [if_neg (by omega), if_neg (by omega), if_pos (by omega)]
    rw [e]; clear e
    go_enter Try.func12, Try.ntmps12
    go_wp2
    go_ret2
    exact ⟨_, rfl, World.ownsRow_nil _ _ _ _, Below.refl _ _⟩
  · obtain ⟨k, rfl⟩ := Int.eq_ofNat_of_zero_le (show 0 ≤ n by omega)
    have e : partsL 3 (k : Int) = ([(10, 0, k), (11, k, k)], 0) := by
      unfold partsL; rw [if_neg (by omega), if_neg (by omega), if_neg (by omega), if_neg (by omega), if_neg (by omega), if_pos hb, Int.toNat_natCast]
    rw [e]; clear e
    go_enter Try.func12, Try.ntmps12
    go_wp2
    go_ret2
    refine ⟨.slice (some ⟨w.heap.size, 0, none⟩) 2 2, rfl, ?_, (Below.refl _ _).alloc (Nat.le_refl _) _⟩
    exact World.ownsRow_lit w #[.int .i64 10, .int .i64 0, .int .i64 k, .int .i64 11, .int .i64 k, .int .i64 k] 2 (Nat.le_refl _) (by unfold maxLen; omega) rfl
  · obtain ⟨k, rfl⟩ := Int.eq_ofNat_of_zero_le (show 0 ≤ n by omega)
    have e : partsL 3 (k : Int) = (longL k, 0) := by
      unfold partsL; rw [if_neg (by omega), if_neg (by omega), if_neg (by omega), if_neg (by omega), if_neg (by omega), if_neg (by omega), Int.toNat_natCast]
    rw [e]
    exact rparts_long k w (by omega) (by omega)

theorem rparts_any (alg n : Int) (w : World) (h0 : -9223372036854775808 ≤ n) (h1 : n ≤ 9223372036854775807) : Calls Try.prog 12 #[.int .i64 alg, .int .i64 n] w (PartsPost 33 3 cellsR (partsL alg n).1 (partsL alg n).2 w) := by
  rcases (show (alg < 1 ∨ 3 < alg) ∨ alg = 1 ∨ alg = 2 ∨ alg = 3 by omega) with h | rfl | rfl | rfl
  · have e : partsL alg n = ([], 8) := by unfold partsL; rw [if_pos h]
    rw [e]
    exact rparts_no alg n w h
  · exact rparts_1 n w h0 h1
  · exact rparts_2 n w h0 h1
  · exact rparts_3 n w h0 h1

end Go.Proofs.Ytkgckhmfhpnoaaa
