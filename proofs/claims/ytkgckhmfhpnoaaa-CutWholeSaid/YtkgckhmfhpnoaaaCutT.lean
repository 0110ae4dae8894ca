/-
  The walks of the reference's Parts.
-/
import Derived.Test.YtkgckhmfhpnoaaaCutQ
namespace Go.Proofs.Ytkgckhmfhpnoaaa
open Go.RowKit Go.Fl Go.Mem Go.CutP
set_option linter.unusedSimpArgs false

theorem Try.infoRPart : (Try.prog.info? 33).map (fun i => (i.zero, i.size, i.bytes)) = some (some (.agg #[.int .i64 0, .int .i64 0, .int .i64 0]), 3, 24) := by kernel_rfl

set_option maxRecDepth 100000 in
theorem rparts_no (alg n : Int) (w : World) (h : alg < 1 ∨ 3 < alg) : Calls Try.prog 12 #[.int .i64 alg, .int .i64 n] w (PartsPost 33 3 cellsR [] 8 w) := by
  rcases h with h | h
  · go_enter Try.func12, Try.ntmps12
    go_wp2
    go_ret2
    exact ⟨_, rfl, World.ownsRow_nil _ _ _ _, Below.refl _ _⟩
  · have h2 : ¬ alg < 1 := by omega
    go_enter Try.func12, Try.ntmps12
    go_wp2
    go_ret2
    exact ⟨_, rfl, World.ownsRow_nil _ _ _ _, Below.refl _ _⟩

set_option maxRecDepth 100000 in
theorem rparts_1 (n : Int) (w : World) (h0 : -9223372036854775808 ≤ n) (h1 : n ≤ 9223372036854775807) : Calls Try.prog 12 #[.int .i64 1, .int .i64 n] w (PartsPost 33 3 cellsR (partsL 1 n).1 (partsL 1 n).2 w) := by
  rcases (show n < 1 ∨ (1 ≤ n ∧ n < 16) ∨ 65536 < n ∨ (16 ≤ n ∧ n ≤ 65536) by omega) with h | ⟨h, h'⟩ | h | ⟨ha, hb⟩
  · have e : partsL 1 n = ([], 7) := by unfold partsL; rw [if_neg (by omega), if_pos (by omega)]
    rw [e]; clear e
    go_enter Try.func12, Try.ntmps12
    go_wp2
    go_ret2
    exact ⟨_, rfl, World.ownsRow_nil _ _ _ _, Below.refl _ _⟩
  · have e : partsL 1 n = ([], 7) := by unfold partsL; rw [if_neg (by omega), if_pos (by omega)]
    rw [e]; clear e
    go_enter Try.func12, Try.ntmps12
    go_wp2
    go_ret2
    exact ⟨_, rfl, World.ownsRow_nil _ _ _ _, Below.refl _ _⟩
  · have e : partsL 1 n = ([], 6) := by unfold partsL; rw [if_neg (by omega), if_neg (by omega), if_pos (by omega)]
    rw [e]; clear e
    go_enter Try.func12, Try.ntmps12
    go_wp2
    go_ret2
    exact ⟨_, rfl, World.ownsRow_nil _ _ _ _, Below.refl _ _⟩
  · obtain ⟨k, rfl⟩ := Int.eq_ofNat_of_zero_le (show 0 ≤ n by omega)
    have e : partsL 1 (k : Int) = ([(1, 0, k - 16), (2, k - 16, 16)], 0) := by
      unfold partsL; rw [if_neg (by omega), if_neg (by omega), if_neg (by omega), if_pos rfl, Int.toNat_natCast]
    rw [e]; clear e
    go_enter Try.func12, Try.ntmps12
    go_wp2
    go_ret2
    refine ⟨.slice (some ⟨w.heap.size, 0, none⟩) 2 2, rfl, ?_, (Below.refl _ _).alloc (Nat.le_refl _) _⟩
    have e2 : cellsR [(1, 0, k - 16), (2, k - 16, 16)] = [.int .i64 1, .int .i64 0, .int .i64 ((k : Int) - 16), .int .i64 2, .int .i64 ((k : Int) - 16), .int .i64 16] := by
      simp [cellsR]; omega
    rw [e2]
    exact World.ownsRow_lit w #[.int .i64 1, .int .i64 0, .int .i64 ((k : Int) - 16), .int .i64 2, .int .i64 ((k : Int) - 16), .int .i64 16] 2 (Nat.le_refl _) (by unfold maxLen; omega) rfl

set_option maxRecDepth 100000 in
theorem rparts_2 (n : Int) (w : World) (h0 : -9223372036854775808 ≤ n) (h1 : n ≤ 9223372036854775807) : Calls Try.prog 12 #[.int .i64 2, .int .i64 n] w (PartsPost 33 3 cellsR (partsL 2 n).1 (partsL 2 n).2 w) := by
  rcases (show n < 1 ∨ (1 ≤ n ∧ n < 16) ∨ 65536 < n ∨ (16 ≤ n ∧ n ≤ 65536) by omega) with h | ⟨h, h'⟩ | h | ⟨ha, hb⟩
  · have e : partsL 2 n = ([], 7) := by unfold partsL; rw [if_neg (by omega), if_pos (by omega)]
    rw [e]; clear e
    go_enter Try.func12, Try.ntmps12
    go_wp2
    go_ret2
    exact ⟨_, rfl, World.ownsRow_nil _ _ _ _, Below.refl _ _⟩
  · have e : partsL 2 n = ([], 7) := by unfold partsL; rw [if_neg (by omega), if_pos (by omega)]
    rw [e]; clear e
    go_enter Try.func12, Try.ntmps12
    go_wp2
    go_ret2
    exact ⟨_, rfl, World.ownsRow_nil _ _ _ _, Below.refl _ _⟩
  · have e : partsL 2 n = ([], 6) := by unfold partsL; rw [if_neg (by omega), if_neg (by omega), if_pos (by omega)]
    rw [e]; clear e
    go_enter Try.func12, Try.ntmps12
    go_wp2
    go_ret2
    exact ⟨_, rfl, World.ownsRow_nil _ _ _ _, Below.refl _ _⟩
  · obtain ⟨k, rfl⟩ := Int.eq_ofNat_of_zero_le (show 0 ≤ n by omega)
    have e : partsL 2 (k : Int) = ([(3, 0, 16), (1, 16, k - 16)], 0) := by
      unfold partsL; rw [if_neg (by omega), if_neg (by omega), if_neg (by omega), if_neg (by omega), if_pos rfl, Int.toNat_natCast]
    rw [e]; clear e
    go_enter Try.func12, Try.ntmps12
    go_wp2
    go_ret2
    refine ⟨.slice (some ⟨w.heap.size, 0, none⟩) 2 2, rfl, ?_, (Below.refl _ _).alloc (Nat.le_refl _) _⟩
    have e2 : cellsR [(3, 0, 16), (1, 16, k - 16)] = [.int .i64 3, .int .i64 0, .int .i64 16, .int .i64 1, .int .i64 16, .int .i64 ((k : Int) - 16)] := by
      simp [cellsR]; omega
    rw [e2]
    exact World.ownsRow_lit w #[.int .i64 3, .int .i64 0, .int .i64 16, .int .i64 1, .int .i64 16, .int .i64 ((k : Int) - 16)] 2 (Nat.le_refl _) (by unfold maxLen; omega) rfl

end Go.Proofs.Ytkgckhmfhpnoaaa
