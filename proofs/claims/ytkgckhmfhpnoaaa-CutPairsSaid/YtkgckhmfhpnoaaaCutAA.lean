/-
  The walk of the law that 32 bytes more are a pair more at the front.
-/
import Derived.Test.YtkgckhmfhpnoaaaCutZ
import Derived.WalkSmall
namespace Go.Proofs.Ytkgckhmfhpnoaaa
open Go.RowKit Go.Fl Go.Mem Go.CutP
set_option linter.unusedSimpArgs false

theorem eq_fl (a b : Nat) (h : a < 2 ^ 53) (hb : b = fl a) : (FloatKind.f64.format.order (fl a) b == some Ordering.eq) = true := by
  subst hb
  exact eq_whole a h

theorem add32 (a n : Nat) (h : a + 32 < 2 ^ 53) (hn : n < 2 ^ 53) : cSumBits .add .f64 (fl a) (fl n) 4629700416936869888 0 = some (fl (a + 32), fl n) := by
  have h1 := add_fl a 32 (by omega) (by decide) h
  have h2 := add_fl n 0 hn (by decide) (by omega)
  have e1 : fl 32 = 4629700416936869888 := by decide +kernel
  rw [e1] at h1
  rw [fl_zero, Nat.add_zero] at h2
  unfold cSumBits
  rw [h1, h2]
  rfl

set_option maxRecDepth 100000 in
set_option maxHeartbeats 1000000 in
theorem pairs_law (n : Nat) (w : World) (hn : n ≤ 65535) :
    Calls Try.prog 5 #[.int .u16 n] w fun e w' => e = .returned (.bool true) ∧ Below w.heap.size w w' := by
  by_cases h32 : n < 32
  · go_enter Try.func5, Try.ntmps5
    go_wp2
    go_ret
    exact ⟨rfl, Below.refl _ _⟩
  by_cases h3000 : 3000 < n
  · go_enter Try.func5, Try.ntmps5
    go_wp2
    go_ret
    exact ⟨rfl, Below.refl _ _⟩
  have hp := parts_any 3 (n : Int) w (by omega) (by omega)
  have hq := fun w => parts_any 3 ((n : Int) + 32) w (by omega) (by omega)
  have e1 : partsL 3 (n : Int) = (longL n, 0) := by
    unfold partsL; rw [if_neg (by omega), if_neg (by omega), if_neg (by omega), if_neg (by omega), if_neg (by omega), if_neg (by omega), Int.toNat_natCast]
  have e2 : partsL 3 ((n : Int) + 32) = (sh (longL n), 0) := by
    unfold partsL; rw [if_neg (by omega), if_neg (by omega), if_neg (by omega), if_neg (by omega), if_neg (by omega), if_neg (by omega)]
    rw [show ((n : Int) + 32).toNat = n + 32 by omega, longL_more n (by omega)]
  rw [e1] at hp
  rw [e2] at hq
  obtain ⟨c1, c2, _⟩ := contig_long n (by omega)
  have hbd : ∀ (i : Nat) (p : Part), (longL n)[i]? = some p → p.2.1 < 1000000 ∧ p.2.2 < 1000000 := by
    intro i p hp
    have e := c1 i p hp
    have e1 := sumL_take_succ _ i p hp
    have l1 := sumL_take_le (longL n) (i + 1)
    omega
  have hlen0 : 0 < (longL n).length := by
    cases hL : longL n with
    | nil => rw [hL] at c2; simp [sumL] at c2; omega
    | cons p L => simp
  have hNm := long_len n
  clear e1 e2 c1 c2
  generalize longL n = L at *
  have hshl := sh_length L
  have HP := Lib.hid hp
  have HQ := Lib.hid hq
  have HBD := Lib.hid hbd
  generalize hN : L.length = N at *
  have HN := Lib.hid hN
  have HSH := Lib.hid hshl
  clear hp hq hbd hN hshl
  have k1 := eq_fl 0 0 (by decide) (by decide +kernel)
  have k2 := eq_fl 16 4625196817309499392 (by decide) (by decide +kernel)
  have hqc := fun (w : World) (d a b x y : Nat) => run_equalIn_complex (P := Try.prog) w d 29 .f64 a b x y Try.underlying29
  go_enter Try.func5, Try.ntmps5
  go_wp2_with fail
  refine HP.out.mono ?_
  rintro e w1 ⟨v1, rfl, hown1, hbel1⟩
  rw [HN.out] at hown1
  obtain ⟨g1, cap1, rfl, _, hg1⟩ := hown1.form hlen0
  have HOWN1 := Lib.hid hown1
  have HB1 := Lib.hid hbel1
  clear hown1 hbel1
  go_wp2_with fail
  refine (HQ.out _).mono ?_
  rintro e w2 ⟨v2, rfl, hown2, hbel2⟩
  rw [HSH.out] at hown2
  obtain ⟨g2, cap2, rfl, _, hg2⟩ := hown2.form (by omega)
  have hm0 := part_cells hown2 HSH.out 0 (4, 0, 16) rfl
  have hm1 := part_cells hown2 HSH.out 1 (5, 16, 16) rfl
  obtain ⟨m1, m2⟩ := hm0
  obtain ⟨m3, m4⟩ := hm1
  have HOWN2 := Lib.hid hown2
  have HB2 := Lib.hid hbel2
  clear hown2 hbel2
  go_wp2
  go_loopw [7] (fun i wr => ∃ k : Nat, k ≤ N ∧ i = .int .i64 k ∧ Later w2 wr) (fun i _ => N - (intOf i).toNat)
  case atStart => exact ⟨0, Nat.zero_le _, rfl, Later.refl _⟩
  case round =>
    obtain ⟨k, hk, rfl, hlat⟩ := hrel
    by_cases hlt : k < N
    · obtain ⟨p, hpk⟩ : ∃ p, L[k]? = some p := ⟨L[k]'(by rw [HN.out]; exact hlt), by simp⟩
      obtain ⟨hc1, hc2⟩ := part_cells HOWN1.out HN.out k p hpk
      obtain ⟨hd1, hd2⟩ := part_cells HOWN2.out HSH.out (k + 2) (p.1, p.2.1 + 32, p.2.2) (sh_at _ _ _ hpk)
      obtain ⟨hb1, hb2⟩ := HBD.out k p hpk
      have hg1' : g1 < w2.heap.size := Nat.lt_of_lt_of_le hg1 HB2.out.size
      have ec1 := (hlat.cell (p := ⟨g1, k * 2, none⟩) hg1').trans ((HB2.out.cell (p := ⟨g1, k * 2, none⟩) hg1).trans hc1)
      have ec2 : wr.cell? ⟨g1, k * 2 + 1, none⟩ = some (.complex .f64 (fl p.2.1) (fl p.2.2)) := (hlat.cell (p := ⟨g1, k * 2 + 1, none⟩) hg1').trans ((HB2.out.cell (p := ⟨g1, k * 2 + 1, none⟩) hg1).trans hc2)
      have ed1 := (hlat.cell (p := ⟨g2, (k + 2) * 2, none⟩) hg2).trans hd1
      have ed2 := (hlat.cell (p := ⟨g2, (k + 2) * 2 + 1, none⟩) hg2).trans hd2
      have q0 := fun (w : World) => run_complex_sum (P := Try.prog) (w := w) .add (Or.inl rfl) 29 .f64 _ _ _ _ _ _ (add32 p.2.1 p.2.2 (by omega) (by omega))
      have q1 := eq_fl (p.2.1 + 32) _ (by omega) rfl
      have q2 := eq_fl p.2.2 _ (by omega) rfl
      have hk0 : (0 : Int) ≤ k ∧ (k : Int) < N := by omega
      have hw2 : IntKind.i64.wrap ((k : Int) + 2) = (k : Int) + 2 := IntWalk.i64_in _ (by omega)
      clear hc1 hc2 hd1 hd2 hpk
      go_wp2
      go_quiet (fail)
      go_wp2
      go_roundw
      case rel => exact ⟨k + 1, by omega, by go_num, below_drewN hlat _⟩
      case measure => simp [intOf]; omega
    · obtain rfl : k = N := by omega
      go_wp2_with fail
      refine (awake_any _).mono ?_
      rintro e w3 ⟨rfl, hbel3⟩
      go_wp2
      go_ret
      exact ⟨rfl, (HB1.out.later (Nat.le_refl _) (Later.trans HB2.out hlat)).later (Nat.le_refl _) hbel3⟩

end Go.Proofs.Ytkgckhmfhpnoaaa
