/-
  The walks of the reference's half bytes: Join, Halves, Whole, Cut.
-/
import Derived.Test.YtkgckhmfhpnoaaaCutC
import Derived.Deep.RegionLaw
namespace Go.Proofs.Ytkgckhmfhpnoaaa
open Go.RowKit Go.Fl Go.Mem Go.Ops Go.CutP

set_option maxHeartbeats 400000 in
theorem refjoin_ok (ao : Option Addr) (len cap : Nat) (h : List UInt8) (w : World) (hlen : h.length = len) (hb : len ≤ 1099511627776) (hl : Lies w ao (h.map B)) :
    Calls Try.prog 15 #[.slice ao len cap] w (Fresh w 5 1 ((len + 1) / 2) ((joinL h).map B) id) := by
  obtain ⟨i0, hi, hz0, hz1, hz2⟩ := info_parts Try.infoByte
  have HLEN := Lib.hid hlen
  have HL := Lib.hid hl
  clear hlen hl
  go_enter Try.func15, Try.ntmps15
  go_wp2
  go_loopw [3, 4, 5] (fun v i _ wr => ∃ j : Nat, j ≤ (len + 1) / 2 ∧ i = .int .i64 (2 * (j : Int)) ∧ wr.ownsRow w.heap.size 5 1 v j (((joinL h).take j).map B) ∧ Below w.heap.size w wr)
    (fun _ i _ _ => len + 2 - (intOf i).toNat)
  case atStart => exact ⟨0, Nat.zero_le _, rfl, World.ownsRow_nil _ _ _ _, Below.refl _ _⟩
  case round =>
    obtain ⟨j, hj, rfl, hown, hbel⟩ := hrel
    by_cases hlt : 2 * j < len
    · have hne : h.map B ≠ [] := by intro h; have := congrArg List.length h; simp [HLEN.out] at this; omega
      obtain ⟨b, off, rfl, hbw, hcell⟩ := HL.out.at hne
      have hks : 2 * j < h.length := by rw [HLEN.out]; omega
      obtain ⟨x, hx⟩ : ∃ x, h[2 * j]? = some x := ⟨h[2 * j], by simp [hks]⟩
      have hat := joinL_at h j x hx
      have hc := (hbel.cell (p := ⟨b, off + 2 * j, none⟩) hbw).trans (hcell (2 * j) (B x) (by simp [hx]))
      have hx8 := lt8 x
      by_cases hlt2 : 2 * j + 1 < len
      · have hks2 : 2 * j + 1 < h.length := by rw [HLEN.out]; omega
        obtain ⟨y, hy⟩ : ∃ y, h[2 * j + 1]? = some y := ⟨h[2 * j + 1], by simp [hks2]⟩
        have hc2 := (hbel.cell (p := ⟨b, off + (2 * j + 1), none⟩) hbw).trans (hcell (2 * j + 1) (B y) (by simp [hy]))
        have hy8 := lt8 y
        rw [hy] at hat
        have HAT := Lib.hid hat
        clear hat hx hy hne hcell hks hks2
        go_wp2_with (first | (at_builtin; refine wpList_append_own _ rfl _ _ 39 rfl w.heap.size 5 i0 (.int .u8 0) 1 1 Try.underlying39 hi hz0 hz1 hz2 rfl (by decide) _ _ _ rfl (hown.alloc _) ⟨wr.heap.size, 0, none⟩ 1 1 [.int .u8 ((x.toNat : Int) % 16 * 16 + (y.toNat : Int) % 16)] rfl rfl ?c1 ?c2 ?c3 ?c4 ?c5 ?_))
        case c2 => rfl
        case c3 => unfold maxLen; omega
        case c4 => omega
        case c5 => have := hbel.size; omega
        intro v' w1 hown1 hgrow1 _
        go_wp2
        go_roundw
        case rel =>
          refine ⟨j + 1, by omega, by go_num, ?_, (hbel.alloc hbel.size _).grown hgrow1 (by simp; have := hbel.size; omega) (fun k hk => (hown.lt k hk).1)⟩
          rw [take_snoc _ _ _ HAT.out, List.map_append, List.map_cons, List.map_nil]
          show w1.ownsRow _ _ _ _ _ (_ ++ [Value.int .u8 _])
          rw [halves_sum]
          simpa using hown1
        case measure => simp [intOf]; omega
      · have hy : h[2 * j + 1]? = none := by simp [HLEN.out]; omega
        rw [hy] at hat
        have HAT := Lib.hid hat
        clear hat hx hy hne hcell hks
        go_wp2_with (first | (at_builtin; refine wpList_append_own _ rfl _ _ 39 rfl w.heap.size 5 i0 (.int .u8 0) 1 1 Try.underlying39 hi hz0 hz1 hz2 rfl (by decide) _ _ _ rfl (hown.alloc _) ⟨wr.heap.size, 0, none⟩ 1 1 [.int .u8 ((x.toNat : Int) % 16 * 16)] rfl rfl ?d1 ?d2 ?d3 ?d4 ?d5 ?_))
        case d2 => rfl
        case d3 => unfold maxLen; omega
        case d4 => omega
        case d5 => have := hbel.size; omega
        intro v' w1 hown1 hgrow1 _
        go_wp2
        go_roundw
        case rel =>
          refine ⟨j + 1, by omega, by go_num, ?_, (hbel.alloc hbel.size _).grown hgrow1 (by simp; have := hbel.size; omega) (fun k hk => (hown.lt k hk).1)⟩
          rw [take_snoc _ _ _ HAT.out, List.map_append, List.map_cons, List.map_nil]
          show w1.ownsRow _ _ _ _ _ (_ ++ [Value.int .u8 _])
          rw [half0]
          simpa using hown1
        case measure => simp [intOf]; omega
    · have hjl : j = (len + 1) / 2 := by omega
      rw [List.take_of_length_le (by rw [joinL_length, HLEN.out]; omega)] at hown
      subst hjl
      go_wp2
      go_ret
      exact ⟨_, rfl, hown, hbel⟩

set_option maxHeartbeats 400000 in
theorem refhalves_ok (ao : Option Addr) (len cap : Nat) (bs : List UInt8) (w : World) (hlen : bs.length = len) (hb : len ≤ 1099511627776) (hl : Lies w ao (bs.map B)) :
    Calls Try.prog 19 #[.slice ao len cap] w (Fresh w 5 1 (2 * len) ((nibs bs).map B) id) := by
  obtain ⟨i0, hi, hz0, hz1, hz2⟩ := info_parts Try.infoByte
  have HLEN := Lib.hid hlen
  have HL := Lib.hid hl
  clear hlen hl
  go_enter Try.func19, Try.ntmps19
  go_wp2
  go_loopw [3, 4] (fun v i wr => ∃ j : Nat, j ≤ len ∧ i = .int .i64 j ∧ wr.ownsRow w.heap.size 5 1 v (2 * j) ((nibs (bs.take j)).map B) ∧ Below w.heap.size w wr)
    (fun _ i _ => len - (intOf i).toNat)
  case atStart => exact ⟨0, Nat.zero_le _, rfl, World.ownsRow_nil _ _ _ _, Below.refl _ _⟩
  case round =>
    obtain ⟨j, hj, rfl, hown, hbel⟩ := hrel
    by_cases hlt : j < len
    · have hne : bs.map B ≠ [] := by intro h; have := congrArg List.length h; simp [HLEN.out] at this; omega
      obtain ⟨b, off, rfl, hbw, hcell⟩ := HL.out.at hne
      have hks : j < bs.length := by rw [HLEN.out]; omega
      obtain ⟨x, hx⟩ : ∃ x, bs[j]? = some x := ⟨bs[j], by simp [hks]⟩
      have hat := nibs_pair bs j x hx
      have hc := (hbel.cell (p := ⟨b, off + j, none⟩) hbw).trans (hcell j (B x) (by simp [hx]))
      have hx8 := lt8 x
      have HAT := Lib.hid hat
      clear hat hx hne hcell hks
      go_wp2
      have hsz := hbel.size
      have hc3 : 2 * j + 2 ≤ maxLen := by unfold maxLen; omega
      have hc4 : (2 * j + 2) * 1 ≤ 140737488355328 := by omega
      have hc5 : w.heap.size ≤ (wr.drew.alloc (.cells #[.int .u8 (IntKind.u8.wrap ((x.toNat : Int) / 16)), .int .u8 ((x.toNat : Int).tmod 16)] 5)).heap.size := by simp; omega
      go_region_law ((refine step_append_lies _ rfl (.tmp 11) (.tmp 22) 39 rfl w.heap.size 5 i0 (.int .u8 0) 1 1 Try.underlying39 hi hz0 hz1 hz2 rfl (by decide) _ _ _ rfl (hown.drew.alloc _) ⟨wr.heap.size, 0, none⟩ 2 2 [.int .u8 (IntKind.u8.wrap ((x.toNat : Int) / 16)), .int .u8 ((x.toNat : Int).tmod 16)] rfl rfl (World.news_of_block (heap_alloc_new wr.drew _)) (by intro u hu; simp at hu; rcases hu with rfl | rfl <;> rfl) (by decide) hc3 hc4 hc5 _ rfl ?_; intro g cap1 w1 hown1 hgrow1 hat1 hlt1))
      all_goals
        go_wp2
        go_roundw
        case rel =>
          refine ⟨j + 1, by omega, by go_num, ?_, ((hbel.alloc hbel.size _).drew).grown hgrow1 (by simp; omega) (fun k hk => (hown.lt k hk).1)⟩
          rw [HAT.out, List.map_append, List.map_cons, List.map_cons, List.map_nil]
          show w1.ownsRow _ _ _ _ _ (_ ++ [Value.int .u8 _, Value.int .u8 _])
          rw [shr8_4, and8_15]
          have e1 : IntKind.u8.wrap ((x.toNat : Int) / 16) = (x.toNat : Int) / 16 := by
            simp [IntKind.wrap, IntKind.bits, IntKind.signed]; omega
          have e2 : (x.toNat : Int).tmod 16 = (x.toNat : Int) % 16 := Int.tmod_eq_emod_of_nonneg (by omega)
          rw [e1, e2] at hown1
          exact hown1
        case measure => simp [intOf]; omega
    · obtain rfl : j = len := by omega
      rw [List.take_of_length_le (by rw [HLEN.out]; omega)] at hown
      go_wp2
      go_ret
      exact ⟨_, rfl, hown, hbel⟩

end Go.Proofs.Ytkgckhmfhpnoaaa
