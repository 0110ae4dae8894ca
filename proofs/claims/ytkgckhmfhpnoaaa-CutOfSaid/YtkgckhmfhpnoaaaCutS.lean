/-
  The walks of the reference's cuts: Whole, Cut.
-/
import Derived.Test.YtkgckhmfhpnoaaaCutA
namespace Go.Proofs.Ytkgckhmfhpnoaaa
open Go.RowKit Go.Fl

def WholePost (x most : Nat) (w : World) : Ending → World → Prop := fun e w' =>
  e = .returned (match wholeOf x most with | some i => .tuple #[.int .i64 i, .bool true] | none => .tuple #[.int .i64 0, .bool false]) ∧ w = w'

theorem refwhole_ok (x most : Nat) (w : World) (hm : most ≤ 1099511627776) :
    Calls Try.prog 25 #[.float .f64 x, .int .i64 most] w (WholePost x most w) := by
  go_enter Try.func25, Try.ntmps25
  go_wp2
  go_loop [6] (fun i => ∃ k : Nat, k ≤ most + 1 ∧ i = .int .i64 k ∧ Hid (∀ j, j < k → (Ieee.double.order (fl j) x == some .eq) = false)) (fun i => most + 2 - (intOf i).toNat)
  case atStart => exact ⟨0, Nat.zero_le _, rfl, fun j hj => by omega⟩
  case round =>
    obtain ⟨k, hk, rfl, hall⟩ := hrel
    by_cases hlt : k ≤ most
    · by_cases he : (FloatKind.f64.format.order (floatOfInt FloatKind.f64 (k : Int)) x == some Ordering.eq) = true
      · go_wp2
        go_ret2
        have := wholeOf_some_of x most k hlt hall.out he
        unfold WholePost
        rw [this]
        exact ⟨rfl, rfl⟩
      · have he' : (FloatKind.f64.format.order (floatOfInt FloatKind.f64 (k : Int)) x == some Ordering.eq) = false := by simpa using he
        clear he
        go_wp2
        go_round
        case rel =>
          refine ⟨k + 1, by omega, by go_num, ?_⟩
          intro j hj
          rcases (show j < k ∨ j = k by omega) with h | rfl
          · exact hall.out j h
          · exact he'
        case measure => simp [intOf]; omega
    · obtain rfl : k = most + 1 := by omega
      go_wp2
      go_ret2
      unfold WholePost
      rw [wholeOf_none_of x most hall.out]
      exact ⟨rfl, rfl⟩

def CutPost (re im many : Nat) (w : World) : Ending → World → Prop := fun e w' =>
  e = .returned (match cutOf re im many with | some (a, n) => .tuple #[.int .i64 a, .int .i64 n, .bool true] | none => .tuple #[.int .i64 0, .int .i64 0, .bool false]) ∧ w = w'

theorem refcut_ok (re im many : Nat) (w : World) (hm : many ≤ 1099511627776) :
    Calls Try.prog 18 #[.float .f64 re, .float .f64 im, .int .i64 many] w (CutPost re im many w) := by
  have hw := refwhole_ok
  cases h1 : wholeOf re many with
  | none =>
    have hc : cutOf re im many = none := by unfold cutOf; rw [h1]
    cases h2 : wholeOf im many with
    | none =>
      have H1 := Lib.hid h1
      have H2 := Lib.hid h2
      have HC := Lib.hid hc
      have HW := Lib.hid hw
      clear h1 h2 hc hw
      go_enter Try.func18, Try.ntmps18
      go_wp2_with fail
      refine (HW.out _ _ _ hm).mono ?_
      intro e w' hp
      unfold WholePost at hp
      rw [H1.out] at hp
      obtain ⟨rfl, rfl⟩ := hp
      go_wp2_with fail
      refine (HW.out _ _ _ hm).mono ?_
      intro e w' hp
      unfold WholePost at hp
      rw [H2.out] at hp
      obtain ⟨rfl, rfl⟩ := hp
      go_wp2_with fail
      go_ret3
      unfold CutPost
      rw [HC.out]
      exact ⟨rfl, rfl⟩
    | some n =>
      have H1 := Lib.hid h1
      have H2 := Lib.hid h2
      have HC := Lib.hid hc
      have HW := Lib.hid hw
      clear h1 h2 hc hw
      go_enter Try.func18, Try.ntmps18
      go_wp2_with fail
      refine (HW.out _ _ _ hm).mono ?_
      intro e w' hp
      unfold WholePost at hp
      rw [H1.out] at hp
      obtain ⟨rfl, rfl⟩ := hp
      go_wp2_with fail
      refine (HW.out _ _ _ hm).mono ?_
      intro e w' hp
      unfold WholePost at hp
      rw [H2.out] at hp
      obtain ⟨rfl, rfl⟩ := hp
      go_wp2_with fail
      go_ret3
      unfold CutPost
      rw [HC.out]
      exact ⟨rfl, rfl⟩
  | some a =>
    have l1 := (whole_yes re many a (by omega) h1).1
    cases h2 : wholeOf im many with
    | none =>
      have hc : cutOf re im many = none := by unfold cutOf; rw [h1, h2]
      have H1 := Lib.hid h1
      have H2 := Lib.hid h2
      have HC := Lib.hid hc
      have HW := Lib.hid hw
      clear h1 h2 hc hw
      go_enter Try.func18, Try.ntmps18
      go_wp2_with fail
      refine (HW.out _ _ _ hm).mono ?_
      intro e w' hp
      unfold WholePost at hp
      rw [H1.out] at hp
      obtain ⟨rfl, rfl⟩ := hp
      go_wp2_with fail
      refine (HW.out _ _ _ hm).mono ?_
      intro e w' hp
      unfold WholePost at hp
      rw [H2.out] at hp
      obtain ⟨rfl, rfl⟩ := hp
      go_wp2_with fail
      go_ret3
      unfold CutPost
      rw [HC.out]
      exact ⟨rfl, rfl⟩
    | some n =>
      have l2 := (whole_yes im many n (by omega) h2).1
      have hc : cutOf re im many = if a + n ≤ many then some (a, n) else none := by unfold cutOf; rw [h1, h2]
      have H1 := Lib.hid h1
      have H2 := Lib.hid h2
      have HC := Lib.hid hc
      have HW := Lib.hid hw
      clear h1 h2 hc hw
      by_cases han : a + n ≤ many
      all_goals
        go_enter Try.func18, Try.ntmps18
        go_wp2_with fail
        refine (HW.out _ _ _ hm).mono ?_
        intro e w' hp
        unfold WholePost at hp
        rw [H1.out] at hp
        obtain ⟨rfl, rfl⟩ := hp
        go_wp2_with fail
        refine (HW.out _ _ _ hm).mono ?_
        intro e w' hp
        unfold WholePost at hp
        rw [H2.out] at hp
        obtain ⟨rfl, rfl⟩ := hp
        go_wp2_with fail
        go_ret3
        unfold CutPost
        rw [HC.out]
        first | (rw [if_pos han]; exact ⟨rfl, rfl⟩) | (rw [if_neg han]; exact ⟨rfl, rfl⟩)

end Go.Proofs.Ytkgckhmfhpnoaaa
