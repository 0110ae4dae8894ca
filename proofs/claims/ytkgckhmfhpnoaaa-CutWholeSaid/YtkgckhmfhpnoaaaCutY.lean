/-
  The walks of the laws on a message's parts: they stand side by side.
-/
import Derived.Test.YtkgckhmfhpnoaaaCutV
import Derived.Test.YtkgckhmfhpnoaaaRegionR
import Derived.Test.YtkgckhmfhpnoaaaPartsMore
import Derived.Deep.QuietTactic
import Derived.BigQuiet
import Derived.ProofKit
import Derived.IntWalk
namespace Go.Proofs.Ytkgckhmfhpnoaaa
open Go.RowKit Go.Fl Go.Mem Go.CutP
set_option linter.unusedSimpArgs false

/-- What the law of parts knows of a part. -/
theorem part_cells {w : World} {base g cap n : Nat} {L : List Part} (h : w.ownsRow base 31 2 (.slice (some ⟨g, 0, none⟩) n cap) n (cells fl L)) (hn : L.length = n) (i : Nat) (p : Part) (hp : L[i]? = some p) :
    w.cell? ⟨g, i * 2, none⟩ = some (.int .i64 (p.1 : Int)) ∧ w.cell? ⟨g, i * 2 + 1, none⟩ = some (.complex .f64 (fl p.2.1) (fl p.2.2)) := by
  have hi : i < n := by rw [← hn]; exact (List.getElem?_eq_some_iff.1 hp).1
  obtain ⟨h1, h2⟩ := cells_at fl L i p hp
  exact ⟨by rw [h.cellAt _ (by omega)]; exact h1, by rw [h.cellAt _ (by omega)]; exact h2⟩

theorem neq_self (a : Nat) (h : a < 2 ^ 53) : (FloatKind.f64.format.order (fl a) (fl a) != some Ordering.eq) = false := by
  have := order_fl a a h h
  show (Ieee.double.order (fl a) (fl a) != some Ordering.eq) = false
  rw [this, Nat.compare_eq_eq.2 rfl]; rfl
theorem not_below (a : Nat) (h : a < 2 ^ 53) : (FloatKind.f64.format.order (fl a) 0 == some Ordering.lt) = false := by
  have := order_fl a 0 h (by decide)
  rw [fl_zero] at this
  show (Ieee.double.order (fl a) 0 == some Ordering.lt) = false
  rw [this]
  rcases Nat.eq_zero_or_pos a with h0 | h0
  · rw [h0, Nat.compare_eq_eq.2 rfl]; rfl
  · rw [Nat.compare_eq_gt.2 h0]; rfl

set_option maxHeartbeats 1000000 in
theorem covers_law (alg n : Int) (w : World) (h0 : -9223372036854775808 ≤ n) (h1 : n ≤ 9223372036854775807) :
    Calls Try.prog 4 #[.int .i64 alg, .int .i64 n] w fun e w' => e = .returned (.bool true) ∧ Below w.heap.size w w' := by
  by_cases h3000 : 3000 < n
  · go_enter Try.func4, Try.ntmps4
    go_wp2
    go_ret
    exact ⟨rfl, Below.refl _ _⟩
  by_cases herr : (partsL alg n).2 = 0
  case neg =>
    obtain ⟨f1, f2, f3⟩ := partsL_fails alg n (by omega) herr
    have hp := parts_any alg n w h0 h1
    rw [f1] at hp
    have HP := Lib.hid hp
    generalize (partsL alg n).2 = err at *
    have herr' : ((err : Int) != 0) = true := by rw [bne_iff_ne]; omega
    clear hp f1 herr
    rcases (show alg < 1 ∨ (¬ alg < 1 ∧ 3 < alg) ∨ (¬ alg < 1 ∧ ¬ 3 < alg ∧ n < 16) by omega) with g1 | ⟨g1, g2⟩ | ⟨g1, g2, g3⟩
    all_goals
      go_enter Try.func4, Try.ntmps4
      go_wp2_with fail
      refine HP.out.mono ?_
      rintro e w1 ⟨v1, rfl, hown1, hbel1⟩
      obtain ⟨ao1, cap1, rfl, _, _, _⟩ := own_form hown1
      clear hown1
      go_wp2_with fail
      refine (awake_any _).mono ?_
      rintro e w3 ⟨rfl, hbel3⟩
      go_wp2
      go_ret
      exact ⟨rfl, hbel1.trans (hbel3.mono hbel1.size)⟩
  case pos =>
    obtain ⟨c1, c2, c3, c4⟩ := partsL_covers alg n herr
    have hp := parts_any alg n w h0 h1
    rw [herr] at hp
    obtain ⟨m, rfl⟩ := Int.eq_ofNat_of_zero_le (show 0 ≤ n by omega)
    generalize (partsL alg (m : Int)).1 = L at *
    rw [Int.toNat_natCast] at c2
    have hlen0 : 0 < L.length := by
      cases L with
      | nil => simp [sumL] at c2; omega
      | cons p L => simp
    have hsum : sumL L ≤ 200000 := by rw [c2]; split <;> omega
    generalize hN : L.length = N at *
    have HN := Lib.hid hN
    have HP := Lib.hid hp
    have HC := Lib.hid c1
    have HS := Lib.hid c2
    clear hp hN c1 c2 herr
    go_enter Try.func4, Try.ntmps4
    go_wp2_with fail
    refine HP.out.mono ?_
    rintro e w1 ⟨v1, rfl, hown1, hbel1⟩
    rw [HN.out] at hown1
    obtain ⟨g, cap, rfl, _, _⟩ := hown1.form hlen0
    have hNm : N ≤ 9223372036854775807 := by
      obtain ⟨_, _, e, h1, h2, _⟩ := own_form hown1
      cases e
      unfold maxLen at h2
      omega
    have HOWN := Lib.hid hown1
    have HB1 := Lib.hid hbel1
    clear hown1 hbel1
    go_wp2
    go_loop [7, 8, 9] (fun t a i => ∃ k : Nat, k ≤ N ∧ t = .float .f64 (fl (sumL (L.take k))) ∧ a = .int .i64 (if (L.take k).any isFront = true then 2 * (m : Int) else (m : Int)) ∧ i = .int .i64 k) (fun _ _ i => N - (intOf i).toNat)
    case atStart => exact ⟨0, Nat.zero_le _, by rw [List.take_zero]; rw [show sumL [] = 0 from rfl, fl_zero], rfl, rfl⟩
    case round =>
      obtain ⟨k, hk, rfl, rfl, rfl⟩ := hrel
      by_cases hlt : k < N
      · obtain ⟨p, hpk⟩ : ∃ p, L[k]? = some p := ⟨L[k]'(by rw [HN.out]; exact hlt), by simp⟩
        obtain ⟨hc1, hc2⟩ := part_cells HOWN.out HN.out k p hpk
        rw [HC.out k p hpk] at hc2
        have hle := sumL_take_le L (k + 1)
        have e1 := sumL_take_succ L k p hpk
        have e2 := any_take_succ L k p hpk
        have q1 := neq_self (sumL (L.take k)) (by omega)
        have q2 := not_below p.2.2 (by omega)
        have hadd := add_fl (sumL (L.take k)) p.2.2 (by omega) (by omega) (by omega)
        have hr := fun (w : World) (t : TypeId) => run_float_arith (P := Try.prog) w .add t .f64 _ _ _ hadd
        have E1 := Lib.hid e1
        have E2 := Lib.hid e2
        clear hadd e1 e2 hpk hle
        by_cases hf : p.1 = 10
        · have hf' : ((p.1 : Int) == 10) = true := by rw [hf]; rfl
          have HF := Lib.hid hf
          clear hf
          go_wp2
          go_round
          case rel =>
            refine ⟨k + 1, by omega, by rw [E1.out], ?_, by go_num⟩
            have hfr : isFront p = true := by unfold isFront; rw [HF.out]; rfl
            rw [E2.out, hfr, Bool.or_true, if_pos rfl]
          case measure => simp [intOf]; omega
        · have hf' : ((p.1 : Int) == 10) = false := beq_eq_false_iff_ne.2 (by omega)
          have HF := Lib.hid hf
          clear hf
          go_wp2
          go_round
          case rel =>
            refine ⟨k + 1, by omega, by rw [E1.out], ?_, by go_num⟩
            have hfr : isFront p = false := by unfold isFront; exact beq_eq_false_iff_ne.2 HF.out
            rw [E2.out, hfr, Bool.or_false]
          case measure => simp [intOf]; omega
      · obtain rfl : k = N := by omega
        have ht : L.take k = L := List.take_of_length_le (by rw [HN.out]; omega)
        rw [ht]
        have hs := HS.out
        by_cases ha : L.any isFront = true
        · rw [if_pos ha] at hs ⊢
          have q : (FloatKind.f64.format.order (fl (sumL L)) (floatOfInt FloatKind.f64 (2 * (m : Int))) == some Ordering.eq) = true := by
            have := order_fl (sumL L) (2 * m) (by omega) (by omega)
            rw [hs, Nat.compare_eq_eq.2 rfl] at this
            have e : fl (2 * m) = floatOfInt .f64 (2 * (m : Int)) := by unfold fl; congr 1
            rw [e] at this
            show (Ieee.double.order (fl (sumL L)) _ == _) = true
            rw [hs, e, this]; rfl
          clear hs ha ht
          go_wp2_with fail
          refine (awake_any _).mono ?_
          rintro e w3 ⟨rfl, hbel3⟩
          go_wp2
          go_ret
          exact ⟨rfl, HB1.out.trans (hbel3.mono HB1.out.size)⟩
        · rw [if_neg ha] at hs ⊢
          have q : (FloatKind.f64.format.order (fl (sumL L)) (floatOfInt FloatKind.f64 (m : Int)) == some Ordering.eq) = true := by
            have := order_fl (sumL L) m (by omega) (by omega)
            rw [hs, Nat.compare_eq_eq.2 rfl] at this
            show (Ieee.double.order (fl (sumL L)) (fl m) == _) = true
            rw [hs, this]; rfl
          clear hs ha ht
          go_wp2_with fail
          refine (awake_any _).mono ?_
          rintro e w3 ⟨rfl, hbel3⟩
          go_wp2
          go_ret
          exact ⟨rfl, HB1.out.trans (hbel3.mono HB1.out.size)⟩

end Go.Proofs.Ytkgckhmfhpnoaaa
