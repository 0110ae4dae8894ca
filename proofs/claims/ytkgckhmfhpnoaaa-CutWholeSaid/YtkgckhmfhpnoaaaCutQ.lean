/-
  The walks of cut: Parts, and the reference's.
-/
import Derived.Test.YtkgckhmfhpnoaaaCutP
namespace Go.Proofs.Ytkgckhmfhpnoaaa
open Go.RowKit Go.Fl Go.Mem Go.CutP
set_option linter.unusedSimpArgs false

def PartsPost (e : TypeId) (size : Nat) (cs : List Part → List Value) (L : List Part) (err : Nat) (w : World) : Ending → World → Prop := fun en w' =>
  ∃ v, en = .returned (.tuple #[v, .int .i64 err]) ∧ w'.ownsRow w.heap.size e size v L.length (cs L) ∧ Below w.heap.size w w'

theorem span_nat (a b : Int) (w : World) (ha : 0 ≤ a) (hb : 0 ≤ b) :
    Calls Try.prog 21 #[.int .i64 a, .int .i64 b] w fun e w' => e = .returned (.complex .f64 (fl a.toNat) (fl b.toNat)) ∧ w = w' := by
  obtain ⟨x, rfl⟩ := Int.eq_ofNat_of_zero_le ha
  obtain ⟨y, rfl⟩ := Int.eq_ofNat_of_zero_le hb
  exact span_any _ _ w

theorem least_1 (w : World) : Calls Try.prog 20 #[.int .i64 1] w fun e w' => e = .returned (.int .i64 16) ∧ w = w' := by
  go_enter Try.func20, Try.ntmps20
  go_wp2
  go_ret
  exact ⟨rfl, rfl⟩
theorem least_2 (w : World) : Calls Try.prog 20 #[.int .i64 2] w fun e w' => e = .returned (.int .i64 16) ∧ w = w' := by
  go_enter Try.func20, Try.ntmps20
  go_wp2
  go_ret
  exact ⟨rfl, rfl⟩
theorem least_3 (w : World) : Calls Try.prog 20 #[.int .i64 3] w fun e w' => e = .returned (.int .i64 1) ∧ w = w' := by
  go_enter Try.func20, Try.ntmps20
  go_wp2
  go_ret
  exact ⟨rfl, rfl⟩
theorem least_no (alg : Int) (w : World) (h : alg < 1 ∨ 3 < alg) : Calls Try.prog 20 #[.int .i64 alg] w fun e w' => e = .returned (.int .i64 0) ∧ w = w' := by
  have h1 : (alg == 1) = false := beq_eq_false_iff_ne.2 (by omega)
  have h2 : (alg == 2) = false := beq_eq_false_iff_ne.2 (by omega)
  have h3 : (alg == 3) = false := beq_eq_false_iff_ne.2 (by omega)
  go_enter Try.func20, Try.ntmps20
  go_wp2
  go_ret
  exact ⟨rfl, rfl⟩

theorem parts_no (alg n : Int) (w : World) (h : alg < 1 ∨ 3 < alg) : Calls Try.prog 11 #[.int .i64 alg, .int .i64 n] w (PartsPost 31 2 (cells fl) [] 8 w) := by
  go_enter Try.func11, Try.ntmps11
  go_wp2_with (go_at_call 20; refine (least_no _ _ h).mono ?_; rintro e w' ⟨rfl, rfl⟩)
  go_ret2
  exact ⟨_, rfl, World.ownsRow_nil _ _ _ _, Below.refl _ _⟩

theorem parts_1 (n : Int) (w : World) (h0 : -9223372036854775808 ≤ n) (h1 : n ≤ 9223372036854775807) : Calls Try.prog 11 #[.int .i64 1, .int .i64 n] w (PartsPost 31 2 (cells fl) (partsL 1 n).1 (partsL 1 n).2 w) := by
  rcases (show n < 16 ∨ 65536 < n ∨ (16 ≤ n ∧ n ≤ 65536) by omega) with h | h | ⟨ha, hb⟩
  · have e : partsL 1 n = ([], 7) := by unfold partsL; rw [if_neg (by omega), if_pos (by omega)]
    rw [e]; clear e
    go_enter Try.func11, Try.ntmps11
    go_wp2_with (go_at_call 20; refine (least_1 _).mono ?_; rintro e w' ⟨rfl, rfl⟩)
    go_ret2
    exact ⟨_, rfl, World.ownsRow_nil _ _ _ _, Below.refl _ _⟩
  · have e : partsL 1 n = ([], 6) := by unfold partsL; rw [if_neg (by omega), if_neg (by omega), if_pos (by omega)]
    rw [e]; clear e
    go_enter Try.func11, Try.ntmps11
    go_wp2_with (go_at_call 20; refine (least_1 _).mono ?_; rintro e w' ⟨rfl, rfl⟩)
    go_ret2
    exact ⟨_, rfl, World.ownsRow_nil _ _ _ _, Below.refl _ _⟩
  · obtain ⟨k, rfl⟩ := Int.eq_ofNat_of_zero_le (show 0 ≤ n by omega)
    have e : partsL 1 (k : Int) = ([(1, 0, k - 16), (2, k - 16, 16)], 0) := by
      unfold partsL; rw [if_neg (by omega), if_neg (by omega), if_neg (by omega), if_pos rfl, Int.toNat_natCast]
    rw [e]; clear e
    go_enter Try.func11, Try.ntmps11
    go_wp2_with (first
      | (go_at_call 20; refine (least_1 _).mono ?_; rintro e w' ⟨rfl, rfl⟩)
      | (go_at_call 21; refine (span_nat _ _ _ (by omega) (by omega)).mono ?_; rintro e w' ⟨rfl, rfl⟩))
    go_ret2
    refine ⟨_, rfl, ?_, (Below.refl _ _).alloc (Nat.le_refl _) _⟩
    rw [show k - 16 = ((k : Int) - 16).toNat by omega]
    exact World.ownsRow_lit w _ 2 (Nat.le_refl _) (by unfold maxLen; omega) rfl

theorem parts_2 (n : Int) (w : World) (h0 : -9223372036854775808 ≤ n) (h1 : n ≤ 9223372036854775807) : Calls Try.prog 11 #[.int .i64 2, .int .i64 n] w (PartsPost 31 2 (cells fl) (partsL 2 n).1 (partsL 2 n).2 w) := by
  rcases (show n < 16 ∨ 65536 < n ∨ (16 ≤ n ∧ n ≤ 65536) by omega) with h | h | ⟨ha, hb⟩
  · have e : partsL 2 n = ([], 7) := by unfold partsL; rw [if_neg (by omega), if_pos (by omega)]
    rw [e]; clear e
    go_enter Try.func11, Try.ntmps11
    go_wp2_with (go_at_call 20; refine (least_2 _).mono ?_; rintro e w' ⟨rfl, rfl⟩)
    go_ret2
    exact ⟨_, rfl, World.ownsRow_nil _ _ _ _, Below.refl _ _⟩
  · have e : partsL 2 n = ([], 6) := by unfold partsL; rw [if_neg (by omega), if_neg (by omega), if_pos (by omega)]
    rw [e]; clear e
    go_enter Try.func11, Try.ntmps11
    go_wp2_with (go_at_call 20; refine (least_2 _).mono ?_; rintro e w' ⟨rfl, rfl⟩)
    go_ret2
    exact ⟨_, rfl, World.ownsRow_nil _ _ _ _, Below.refl _ _⟩
  · obtain ⟨k, rfl⟩ := Int.eq_ofNat_of_zero_le (show 0 ≤ n by omega)
    have e : partsL 2 (k : Int) = ([(3, 0, 16), (1, 16, k - 16)], 0) := by
      unfold partsL; rw [if_neg (by omega), if_neg (by omega), if_neg (by omega), if_neg (by omega), if_pos rfl, Int.toNat_natCast]
    rw [e]; clear e
    go_enter Try.func11, Try.ntmps11
    go_wp2_with (first
      | (go_at_call 20; refine (least_2 _).mono ?_; rintro e w' ⟨rfl, rfl⟩)
      | (go_at_call 21; refine (span_nat _ _ _ (by omega) (by omega)).mono ?_; rintro e w' ⟨rfl, rfl⟩))
    go_ret2
    refine ⟨_, rfl, ?_, (Below.refl _ _).alloc (Nat.le_refl _) _⟩
    rw [show k - 16 = ((k : Int) - 16).toNat by omega]
    exact World.ownsRow_lit w _ 2 (Nat.le_refl _) (by unfold maxLen; omega) rfl

theorem parts_3 (n : Int) (w : World) (h0 : -9223372036854775808 ≤ n) (h1 : n ≤ 9223372036854775807) : Calls Try.prog 11 #[.int .i64 3, .int .i64 n] w (PartsPost 31 2 (cells fl) (partsL 3 n).1 (partsL 3 n).2 w) := by
  rcases (show n < 1 ∨ 65536 < n ∨ (1 ≤ n ∧ n < 32) ∨ (32 ≤ n ∧ n ≤ 65536) by omega) with h | h | ⟨ha, hb⟩ | ⟨ha, hb⟩
  · have e : partsL 3 n = ([], 7) := by unfold partsL; rw [if_neg (by omega), if_pos (by omega)]
    rw [e]; clear e
    go_enter Try.func11, Try.ntmps11
    go_wp2_with (go_at_call 20; refine (least_3 _).mono ?_; rintro e w' ⟨rfl, rfl⟩)
    go_ret2
    exact ⟨_, rfl, World.ownsRow_nil _ _ _ _, Below.refl _ _⟩
  · have e : partsL 3 n = ([], 6) := by unfold partsL; rw [if_neg (by omega), if_neg (by omega), if_pos (by omega)]
    rw [e]; clear e
    go_enter Try.func11, Try.ntmps11
    go_wp2_with (go_at_call 20; refine (least_3 _).mono ?_; rintro e w' ⟨rfl, rfl⟩)
    go_ret2
    exact ⟨_, rfl, World.ownsRow_nil _ _ _ _, Below.refl _ _⟩
  · obtain ⟨k, rfl⟩ := Int.eq_ofNat_of_zero_le (show 0 ≤ n by omega)
    have e : partsL 3 (k : Int) = ([(10, 0, k), (11, k, k)], 0) := by
      unfold partsL; rw [if_neg (by omega), if_neg (by omega), if_neg (by omega), if_neg (by omega), if_neg (by omega), if_pos hb, Int.toNat_natCast]
    rw [e]; clear e
    go_enter Try.func11, Try.ntmps11
    go_wp2_with (first
      | (go_at_call 20; refine (least_3 _).mono ?_; rintro e w' ⟨rfl, rfl⟩)
      | (go_at_call 21; refine (span_nat _ _ _ (by omega) (by omega)).mono ?_; rintro e w' ⟨rfl, rfl⟩))
    go_ret2
    refine ⟨_, rfl, ?_, (Below.refl _ _).alloc (Nat.le_refl _) _⟩
    exact World.ownsRow_lit w _ 2 (Nat.le_refl _) (by unfold maxLen; omega) rfl
  · obtain ⟨k, rfl⟩ := Int.eq_ofNat_of_zero_le (show 0 ≤ n by omega)
    have e : partsL 3 (k : Int) = (longL k, 0) := by
      unfold partsL; rw [if_neg (by omega), if_neg (by omega), if_neg (by omega), if_neg (by omega), if_neg (by omega), if_neg (by omega), Int.toNat_natCast]
    rw [e]; clear e
    go_enter Try.func11, Try.ntmps11
    go_wp2_with (first
      | (go_at_call 20; refine (least_3 _).mono ?_; rintro e w' ⟨rfl, rfl⟩))
    refine (long_any k _ (by omega) (by omega)).mono ?_
    rintro e w1 ⟨v, rfl, hown, hbel⟩
    go_wp2_with fail
    go_ret2
    exact ⟨v, rfl, hown, hbel⟩

theorem parts_any (alg n : Int) (w : World) (h0 : -9223372036854775808 ≤ n) (h1 : n ≤ 9223372036854775807) : Calls Try.prog 11 #[.int .i64 alg, .int .i64 n] w (PartsPost 31 2 (cells fl) (partsL alg n).1 (partsL alg n).2 w) := by
  rcases (show (alg < 1 ∨ 3 < alg) ∨ alg = 1 ∨ alg = 2 ∨ alg = 3 by omega) with h | rfl | rfl | rfl
  · have e : partsL alg n = ([], 8) := by unfold partsL; rw [if_pos h]
    rw [e]
    exact parts_no alg n w h
  · exact parts_1 n w h0 h1
  · exact parts_2 n w h0 h1
  · exact parts_3 n w h0 h1

end Go.Proofs.Ytkgckhmfhpnoaaa
