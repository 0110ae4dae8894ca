/-
  The walk of the law that a message's parts are the reference's.
-/
import Derived.Test.YtkgckhmfhpnoaaaCutU
import Derived.Test.YtkgckhmfhpnoaaaCutY
import Derived.WalkSmall
namespace Go.Proofs.Ytkgckhmfhpnoaaa
open Go.RowKit Go.Fl Go.Mem Go.CutP
set_option linter.unusedSimpArgs false

theorem rpart_cells {w : World} {base g cap n : Nat} {L : List Part} (h : w.ownsRow base 33 3 (.slice (some ⟨g, 0, none⟩) n cap) n (cellsR L)) (hn : L.length = n) (i : Nat) (p : Part) (hp : L[i]? = some p) :
    w.cell? ⟨g, i * 3, none⟩ = some (.int .i64 (p.1 : Int)) ∧ w.cell? ⟨g, i * 3 + 1, none⟩ = some (.int .i64 (p.2.1 : Int)) ∧ w.cell? ⟨g, i * 3 + 2, none⟩ = some (.int .i64 (p.2.2 : Int)) := by
  have hi : i < n := by rw [← hn]; exact (List.getElem?_eq_some_iff.1 hp).1
  obtain ⟨h1, h2, h3⟩ := cellsR_at L i p hp
  exact ⟨by rw [h.cellAt _ (by omega)]; exact h1, by rw [h.cellAt _ (by omega)]; exact h2, by rw [h.cellAt _ (by omega)]; exact h3⟩

theorem eq_whole (a : Nat) (h : a < 2 ^ 53) : (FloatKind.f64.format.order (floatOfInt FloatKind.f64 (a : Int)) (floatOfInt FloatKind.f64 (a : Int)) == some Ordering.eq) = true := by
  have := order_fl a a h h
  show (Ieee.double.order (fl a) (fl a) == some Ordering.eq) = true
  rw [this, Nat.compare_eq_eq.2 rfl]; rfl

set_option maxRecDepth 100000 in
set_option maxHeartbeats 1000000 in
theorem parts_law (alg n : Int) (w : World) (h0 : -9223372036854775808 ≤ n) (h1 : n ≤ 9223372036854775807) :
    Calls Try.prog 3 #[.int .i64 alg, .int .i64 n] w fun e w' => e = .returned (.bool true) ∧ Below w.heap.size w w' := by
  by_cases hskip : 3000 < n ∧ n ≤ 65536
  · obtain ⟨k1, k2⟩ := hskip
    go_enter Try.func3, Try.ntmps3
    go_wp2
    go_ret
    exact ⟨rfl, Below.refl _ _⟩
  have hp := parts_any alg n w h0 h1
  have hq := fun w => rparts_any alg n w h0 h1
  have hbd : ∀ (i : Nat) (p : Part), (partsL alg n).1[i]? = some p → p.2.1 < 1000000 ∧ p.2.2 < 1000000 := by
    intro i p hp
    by_cases herr : (partsL alg n).2 = 0
    · obtain ⟨c1, c2, c3, c4⟩ := partsL_covers alg n herr
      have e := c1 i p hp
      have e1 := sumL_take_succ _ i p hp
      have l1 := sumL_take_le (partsL alg n).1 (i + 1)
      have : sumL (partsL alg n).1 ≤ 200000 := by rw [c2]; split <;> omega
      omega
    · exfalso
      have : (partsL alg n).1 = [] := by
        by_cases h3 : n ≤ 3000
        · exact (partsL_fails alg n h3 herr).1
        · unfold partsL
          split
          · rfl
          · split
            · rfl
            · rw [if_pos (by omega)]
      rw [this] at hp; cases hp
  have herrb : (partsL alg n).2 ≤ 8 := by
    unfold partsL
    repeat' split
    all_goals simp
  have hskip' : 3000 < n → 65536 < n := by omega
  generalize (partsL alg n).1 = L at *
  generalize (partsL alg n).2 = err at *
  have HP := Lib.hid hp
  have HQ := Lib.hid hq
  have HBD := Lib.hid hbd
  clear hp hq hbd
  by_cases h3000 : 3000 < n
  all_goals
    first | have h65 := hskip' h3000 | skip
    clear hskip hskip'
    go_enter Try.func3, Try.ntmps3
    go_wp2_with fail
    refine HP.out.mono ?_
    rintro e w1 ⟨v1, rfl, hown1, hbel1⟩
    obtain ⟨ao1, cap1, rfl, hlc1, hmx1, _⟩ := own_form hown1
    have HOWN1 := Lib.hid hown1
    have HB1 := Lib.hid hbel1
    clear hown1 hbel1
    go_wp2_with fail
    refine (HQ.out _).mono ?_
    rintro e w2 ⟨v2, rfl, hown2, hbel2⟩
    obtain ⟨ao2, cap2, rfl, hlc2, hmx2, _⟩ := own_form hown2
    have HOWN2 := Lib.hid hown2
    have HB2 := Lib.hid hbel2
    have HN := Lib.hid (show L.length = L.length from rfl)
    have hNm : L.length ≤ 9223372036854775807 := by unfold maxLen at hmx1; omega
    clear hown2 hbel2 hlc1 hmx1 hlc2 hmx2
    go_wp2
    go_loopw [9] (fun i wr => ∃ k : Nat, k ≤ L.length ∧ i = .int .i64 k ∧ Later w2 wr) (fun i _ => L.length - (intOf i).toNat)
    case atStart => exact ⟨0, Nat.zero_le _, rfl, Later.refl _⟩
    case round =>
      obtain ⟨k, hk, rfl, hlat⟩ := hrel
      by_cases hlt : k < L.length
      · obtain ⟨p, hpk⟩ : ∃ p, L[k]? = some p := ⟨L[k]'hlt, by simp⟩
        obtain ⟨g1, _, e1, _, hg1⟩ := HOWN1.out.form (by omega)
        cases e1
        obtain ⟨g2, _, e2, _, hg2⟩ := HOWN2.out.form (by omega)
        cases e2
        obtain ⟨hc1, hc2⟩ := part_cells HOWN1.out rfl k p hpk
        obtain ⟨hd1, hd2, hd3⟩ := rpart_cells HOWN2.out rfl k p hpk
        obtain ⟨hb1, hb2⟩ := HBD.out k p hpk
        have hg1' : g1 < w2.heap.size := Nat.lt_of_lt_of_le hg1 HB2.out.size
        have ec1 := (hlat.cell (p := ⟨g1, k * 2, none⟩) hg1').trans ((HB2.out.cell (p := ⟨g1, k * 2, none⟩) hg1).trans hc1)
        have ec2 : wr.cell? ⟨g1, k * 2 + 1, none⟩ = some (.complex .f64 (floatOfInt .f64 (p.2.1 : Int)) (floatOfInt .f64 (p.2.2 : Int))) := (hlat.cell (p := ⟨g1, k * 2 + 1, none⟩) hg1').trans ((HB2.out.cell (p := ⟨g1, k * 2 + 1, none⟩) hg1).trans hc2)
        have ed1 := (hlat.cell (p := ⟨g2, k * 3, none⟩) hg2).trans hd1
        have ed2 := (hlat.cell (p := ⟨g2, k * 3 + 1, none⟩) hg2).trans hd2
        have ed3 := (hlat.cell (p := ⟨g2, k * 3 + 2, none⟩) hg2).trans hd3
        have q1 := eq_whole p.2.1 (by omega)
        have q2 := eq_whole p.2.2 (by omega)
        have hk0 : (0 : Int) ≤ k ∧ (k : Int) < L.length := by omega
        clear hc1 hc2 hd1 hd2 hd3 hpk
        go_wp2
        go_quiet (fail)
        go_wp2
        go_roundw
        case rel => exact ⟨k + 1, by omega, by go_num, below_drewN hlat _⟩
        case measure => simp [intOf]; omega
      · obtain rfl : k = L.length := by omega
        go_wp2_with fail
        refine (awake_any _).mono ?_
        rintro e w3 ⟨rfl, hbel3⟩
        go_wp2
        go_ret
        exact ⟨rfl, (HB1.out.later (Nat.le_refl _) (Later.trans HB2.out hlat)).later (Nat.le_refl _) hbel3⟩

end Go.Proofs.Ytkgckhmfhpnoaaa
