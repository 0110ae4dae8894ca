/-
  Texts of this claim, one behind the other: Fl CutA CutB CutC EztB.
-/
import Derived.Test.YtbpghohkhngdfaaGreatDoorRows
import Derived.Test.YtbpghohkhngdfaaGreatDoorM1
import Derived.Test.YtbpghohkhngdfaaGreatDoorM10
import Derived.Test.YtbpghohkhngdfaaGreatDoorM13
import GoSem.Core.Float
import Derived.Laws.FloatArith
import Derived.WalkKit
import Derived.WalkSpells
import Derived.WalkLawsBesides
import Derived.Lib.Hide
/-
  Plain facts on float64 numbers that are whole: how they are read, added, compared, and taken back to integers. No program.
-/
namespace Go.Fl
open Ieee

/-- The bits of a whole number. -/
def fl (n : Nat) : Nat := FloatKind.f64.nearest (n : Int)

theorem cut_exact (neg : Bool) (x d : Nat) (h : d ≤ (x * 2 ^ d).log2 + 2) : Toward.even.cut neg (x * 2 ^ d) d = x := by
  unfold Toward.cut
  simp only [Nat.min_eq_left h, Nat.shiftLeft_eq, Nat.one_mul]
  have hp : 0 < 2 ^ d := Nat.two_pow_pos d
  rw [Nat.mul_div_cancel _ hp, Nat.mul_mod_left]
  simp

theorem log2_mul_pow (n K : Nat) (h : n ≠ 0) : (n * 2 ^ K).log2 = n.log2 + K := by
  have hK : 0 < 2 ^ K := Nat.two_pow_pos K
  have h2 : n * 2 ^ K ≠ 0 := by
    have := Nat.mul_pos (Nat.pos_of_ne_zero h) hK
    omega
  refine (Nat.log2_eq_iff h2).2 ⟨?_, ?_⟩
  · rw [Nat.pow_add]; exact Nat.mul_le_mul_right _ (Nat.log2_self_le h)
  · rw [show n.log2 + K + 1 = (n.log2 + 1) + K by omega, Nat.pow_add]
    exact Nat.mul_lt_mul_of_pos_right Nat.lt_log2_self hK

/-- What a whole number's word is, however it is spelt. -/
theorem nearest_whole (n K : Nat) (h0 : n ≠ 0) (h : n < 2 ^ 53) :
    double.nearest false (n * 2 ^ K) (-(K : Int)) = (n.log2 + 1022) * 2 ^ 52 + n * 2 ^ (52 - n.log2) := by
  have hL : n.log2 ≤ 52 := by
    have := (Nat.log2_lt h0).2 h
    omega
  have hK : 0 < 2 ^ K := Nat.two_pow_pos K
  have h2 : n * 2 ^ K ≠ 0 := by
    have := Nat.mul_pos (Nat.pos_of_ne_zero h0) hK
    omega
  have hlow : 2 ^ 52 ≤ n * 2 ^ (52 - n.log2) := by
    have h1 : 2 ^ n.log2 * 2 ^ (52 - n.log2) ≤ n * 2 ^ (52 - n.log2) := Nat.mul_le_mul_right _ (Nat.log2_self_le h0)
    rw [← Nat.pow_add, show n.log2 + (52 - n.log2) = 52 by omega] at h1
    exact h1
  have hup : n * 2 ^ (52 - n.log2) < 2 ^ 53 := by
    have h1 : n * 2 ^ (52 - n.log2) < 2 ^ (n.log2 + 1) * 2 ^ (52 - n.log2) := Nat.mul_lt_mul_of_pos_right Nat.lt_log2_self (Nat.two_pow_pos _)
    rw [← Nat.pow_add, show n.log2 + 1 + (52 - n.log2) = 53 by omega] at h1
    exact h1
  unfold Format.nearest
  rw [if_neg h2]
  have hlp : double.leastPlace = -1074 := by decide
  have hlast : max (-(K : Int) + ((n * 2 ^ K).log2 : Nat) - (double.fractionBits : Nat)) double.leastPlace = (n.log2 : Int) - 52 := by
    rw [log2_mul_pow n K h0, hlp]
    show max (-(K : Int) + ((n.log2 + K : Nat) : Int) - 52) (-1074) = _
    omega
  simp only [hlast]
  have hkept : Toward.even.cut false ((n * 2 ^ K) <<< (-(K : Int) - ((n.log2 : Int) - 52)).toNat) ((n.log2 : Int) - 52 - -(K : Int)).toNat = n * 2 ^ (52 - n.log2) := by
    rw [Nat.shiftLeft_eq]
    by_cases hc : K ≤ 52 - n.log2
    · rw [show ((n.log2 : Int) - 52 - -(K : Int)).toNat = 0 by omega, show (-(K : Int) - ((n.log2 : Int) - 52)).toNat = 52 - n.log2 - K by omega]
      rw [Nat.mul_assoc, ← Nat.pow_add, show K + (52 - n.log2 - K) = 52 - n.log2 by omega]
      have := cut_exact false (n * 2 ^ (52 - n.log2)) 0 (by omega)
      simpa using this
    · rw [show (-(K : Int) - ((n.log2 : Int) - 52)).toNat = 0 by omega, show ((n.log2 : Int) - 52 - -(K : Int)).toNat = K - (52 - n.log2) by omega]
      have e : n * 2 ^ K * 2 ^ 0 = (n * 2 ^ (52 - n.log2)) * 2 ^ (K - (52 - n.log2)) := by
        rw [Nat.pow_zero, Nat.mul_one, Nat.mul_assoc, ← Nat.pow_add, show 52 - n.log2 + (K - (52 - n.log2)) = K by omega]
      rw [e]
      refine cut_exact _ _ _ ?_
      rw [← e, Nat.pow_zero, Nat.mul_one, log2_mul_pow n K h0]
      omega
  rw [hkept, hlp]
  unfold Format.word
  simp only [Bool.false_eq_true, if_false]
  have hinf : double.infRung = 2047 * 2 ^ 52 := by decide
  have hb : double.binade = 2 ^ 52 := by decide
  rw [hinf, hb, show ((n.log2 : Int) - 52 - -1074).toNat = n.log2 + 1022 by omega]
  have h53 : (2 : Nat) ^ 53 = 2 * 2 ^ 52 := by decide
  rw [h53] at hup
  generalize (2 : Nat) ^ 52 = p at *
  generalize n * 2 ^ (52 - n.log2) = m at *
  have : (n.log2 + 1022) * p ≤ 1074 * p := Nat.mul_le_mul_right _ (by omega)
  rw [Nat.min_eq_left]
  omega

theorem nearest_nought (K : Int) : double.nearest false 0 K = 0 := by
  unfold Format.nearest
  rfl

theorem fl_eq (n : Nat) : fl n = double.nearest false n 0 := by
  unfold fl FloatKind.nearest FloatKind.encode Format.write FloatKind.format
  simp only [Int.natAbs_natCast]
  have : (decide ((n : Int) < 0)) = false := by simp
  rw [this]

theorem fl_whole (n : Nat) (h0 : n ≠ 0) (h : n < 2 ^ 53) : fl n = (n.log2 + 1022) * 2 ^ 52 + n * 2 ^ (52 - n.log2) := by
  have := nearest_whole n 0 h0 h
  rw [fl_eq]
  simpa using this

theorem write_whole (n K : Nat) (h : n < 2 ^ 53) : double.write (.number false (n * 2 ^ K) (-(K : Int))) = fl n := by
  by_cases h0 : n = 0
  · subst h0
    show double.nearest false (0 * 2 ^ K) _ = _
    rw [Nat.zero_mul, nearest_nought]; rfl
  · rw [fl_whole n h0 h]
    exact nearest_whole n K h0 h

theorem zero_mul_pow (k : Nat) : 0 * 2 ^ k = 0 := Nat.zero_mul _

theorem read_zero : double.read 0 = .number false 0 (-((1074 : Nat) : Int)) := by decide

/-- Read, a whole number is that number, however it is spelt. -/
theorem read_fl (n : Nat) (h : n < 2 ^ 53) : ∃ k : Nat, double.read (fl n) = .number false (n * 2 ^ k) (-(k : Int)) := by
  by_cases h0 : n = 0
  · subst h0
    have e : fl 0 = 0 := by rw [fl_eq]; exact nearest_nought _
    obtain ⟨k, hk⟩ : ∃ k : Nat, k = 1074 := ⟨_, rfl⟩
    refine ⟨k, ?_⟩
    rw [e, zero_mul_pow, hk]
    exact read_zero
  · refine ⟨52 - n.log2, ?_⟩
    have hL : n.log2 ≤ 52 := by
      have := (Nat.log2_lt h0).2 h
      omega
    have hlow : 2 ^ 52 ≤ n * 2 ^ (52 - n.log2) := by
      have h1 : 2 ^ n.log2 * 2 ^ (52 - n.log2) ≤ n * 2 ^ (52 - n.log2) := Nat.mul_le_mul_right _ (Nat.log2_self_le h0)
      rw [← Nat.pow_add, show n.log2 + (52 - n.log2) = 52 by omega] at h1
      exact h1
    have hup : n * 2 ^ (52 - n.log2) < 2 ^ 53 := by
      have h1 : n * 2 ^ (52 - n.log2) < 2 ^ (n.log2 + 1) * 2 ^ (52 - n.log2) := Nat.mul_lt_mul_of_pos_right Nat.lt_log2_self (Nat.two_pow_pos _)
      rw [← Nat.pow_add, show n.log2 + 1 + (52 - n.log2) = 53 by omega] at h1
      exact h1
    rw [fl_whole n h0 h]
    generalize hm : n * 2 ^ (52 - n.log2) = m at *
    have hb : double.binade = 2 ^ 52 := by decide
    have hs : double.signWeight = 2 ^ 63 := by decide
    have hinf : double.infRung = 2047 * 2 ^ 52 := by decide
    have hlp : double.leastPlace = -1074 := by decide
    have hs2 : (2 : Nat) ^ 63 = 2048 * 2 ^ 52 := by decide
    have h53 : (2 : Nat) ^ 53 = 2 * 2 ^ 52 := by decide
    have hp : 0 < (2 : Nat) ^ 52 := by decide
    unfold Format.read
    rw [hb, hs, hinf, hlp, hs2]
    rw [h53] at hup
    clear hm hb hs hinf hlp hs2 h53 h
    generalize (2 : Nat) ^ 52 = p at *
    have hle : (n.log2 + 1022) * p ≤ 1074 * p := Nat.mul_le_mul_right _ (by omega)
    have hge : 1022 * p ≤ (n.log2 + 1022) * p := Nat.mul_le_mul_right _ (by omega)
    have e1 : ((n.log2 + 1022) * p + m) / (2048 * p) = 0 := by
      rw [Nat.div_eq_zero_iff]; right
      omega
    have e2 : ((n.log2 + 1022) * p + m) % (2048 * p) = (n.log2 + 1022) * p + m := Nat.mod_eq_of_lt (by omega)
    simp only [e1, e2]
    rw [if_neg (by omega), if_pos (by omega)]
    have e6 : m = p * 1 + (m - p) := by omega
    have e3 : ((n.log2 + 1022) * p + m) / p = n.log2 + 1023 := by
      rw [Nat.mul_comm, Nat.mul_add_div hp, e6, Nat.mul_add_div hp, Nat.div_eq_of_lt (by omega)]
    have e4 : ((n.log2 + 1022) * p + m) % p = m - p := by
      rw [Nat.mul_comm, Nat.mul_add_mod, e6, Nat.mul_add_mod, Nat.mod_eq_of_lt (by omega)]
      omega
    rw [e3, e4]
    have e5 : p + (m - p) = m := by omega
    rw [e5]
    have e7 : (-1074 : Int) + ((n.log2 + 1023 - 1 : Nat) : Int) = -((52 - n.log2 : Nat) : Int) := by omega
    rw [e7]
    rfl

theorem fl_zero : fl 0 = 0 := by rw [fl_eq]; exact nearest_nought _

theorem signed_pos (m up : Nat) : signed false m up = ((m * 2 ^ up : Nat) : Int) := by
  unfold signed; simp [Nat.shiftLeft_eq]

/-- A number of the sign +, as so many units of a small place. -/
theorem scale (n k j : Nat) : ∃ d : Nat, (-(k : Int) - min (-(k : Int)) (-(j : Int))).toNat = d ∧ n * 2 ^ k * 2 ^ d = n * 2 ^ max k j := by
  refine ⟨max k j - k, by omega, ?_⟩
  rw [Nat.mul_assoc, ← Nat.pow_add, show k + (max k j - k) = max k j by omega]

/-- A sum of whole numbers is exact. -/
theorem add_fl (a b : Nat) (ha : a < 2 ^ 53) (hb : b < 2 ^ 53) (h : a + b < 2 ^ 53) : floatBits .add .f64 (fl a) (fl b) = some (fl (a + b)) := by
  obtain ⟨k, hk⟩ := read_fl a ha
  obtain ⟨j, hj⟩ := read_fl b hb
  show ((double.read (fl a)).sum (double.read (fl b))).map double.write = _
  rw [hk, hj]
  simp only [Datum.sum]
  obtain ⟨d, hd, ed⟩ := scale a k j
  obtain ⟨c, hc, ec⟩ := scale b j k
  rw [Int.min_comm] at hc
  rw [hd, hc, signed_pos, signed_pos, ed, ec, Nat.max_comm j k]
  have e1 : ((a * 2 ^ max k j : Nat) : Int) + ((b * 2 ^ max k j : Nat) : Int) = (((a + b) * 2 ^ max k j : Nat) : Int) := by
    rw [Nat.add_mul]; omega
  rw [e1]
  have e2 : min (-(k : Int)) (-(j : Int)) = -((max k j : Nat) : Int) := by omega
  rw [e2]
  have hw := write_whole (a + b) (max k j) h
  generalize (a + b) * 2 ^ max k j = m at *
  have e3 : (if (m : Int) = 0 then (false && false) else decide ((m : Int) < 0)) = false := by
    split
    · rfl
    · simp
  rw [e3, Int.natAbs_natCast]
  simp only [Option.map_some, hw]

/-- Whole numbers are compared as they are. -/
theorem order_fl (a b : Nat) (ha : a < 2 ^ 53) (hb : b < 2 ^ 53) : double.order (fl a) (fl b) = some (compare a b) := by
  obtain ⟨k, hk⟩ := read_fl a ha
  obtain ⟨j, hj⟩ := read_fl b hb
  unfold Format.order
  rw [hk, hj]
  simp only [Datum.order]
  obtain ⟨d, hd, ed⟩ := scale a k j
  obtain ⟨c, hc, ec⟩ := scale b j k
  rw [Int.min_comm] at hc
  rw [hd, hc, signed_pos, signed_pos, ed, ec, Nat.max_comm j k]
  have hp : 0 < 2 ^ max k j := Nat.two_pow_pos _
  generalize 2 ^ max k j = p at *
  congr 1
  rcases Nat.lt_trichotomy a b with hlt | rfl | hgt
  · rw [Nat.compare_eq_lt.2 hlt]
    refine Int.compare_eq_lt.2 ?_
    have := Nat.mul_lt_mul_of_pos_right hlt hp
    omega
  · rw [Nat.compare_eq_eq.2 rfl]
    exact Int.compare_eq_eq.2 rfl
  · rw [Nat.compare_eq_gt.2 hgt]
    refine Int.compare_eq_gt.2 ?_
    have := Nat.mul_lt_mul_of_pos_right hgt hp
    omega

theorem cut_zero (neg : Bool) (n d : Nat) : Toward.zero.cut neg n d = n / 2 ^ d := by
  unfold Toward.cut
  simp only [Bool.toNat_false, Nat.add_zero, Nat.shiftLeft_eq, Nat.one_mul]
  by_cases h : d ≤ n.log2 + 2
  · rw [Nat.min_eq_left h]
  · rw [Nat.min_eq_right (by omega)]
    have h1 : n < 2 ^ (n.log2 + 2) := Nat.lt_of_lt_of_le Nat.lt_log2_self (Nat.pow_le_pow_right (by decide) (by omega))
    have h2 : n < 2 ^ d := Nat.lt_of_lt_of_le h1 (Nat.pow_le_pow_right (by decide) (by omega))
    rw [Nat.div_eq_of_lt h1, Nat.div_eq_of_lt h2]

/-- Taken to an integer, a whole number is that integer. -/
theorem toInt_fl (a : Nat) (ha : a < 2 ^ 53) : floatToIntVal .f64 (fl a) .i64 = some (a : Int) := by
  obtain ⟨k, hk⟩ := read_fl a ha
  unfold floatToIntVal
  show (match (double.read (fl a)).toInt .zero with | some n => _ | none => _) = _
  rw [hk]
  have e : (Datum.number false (a * 2 ^ k) (-(k : Int))).toInt .zero = some (a : Int) := by
    unfold Datum.toInt Datum.integral
    simp only
    rw [show (-(k : Int)).toNat = 0 by omega, show (-(-(k : Int))).toNat = k by omega, Nat.shiftLeft_eq, Nat.pow_zero, Nat.mul_one, cut_zero, Nat.mul_div_cancel _ (Nat.two_pow_pos k), signed_pos]
    simp
  rw [e]
  simp only
  rw [if_pos]
  constructor
  · show (-9223372036854775808 : Int) ≤ a
    omega
  · show (a : Int) ≤ 9223372036854775807
    have : (2 : Nat) ^ 53 = 9007199254740992 := by decide
    omega

/-- What any number stands to whole ones: as V to j * D. -/
theorem number_order (x : Nat) (s : Bool) (m : Nat) (e : Int) (hx : double.read x = .number s m e) :
    ∃ (V : Int) (D : Nat), 0 < D ∧ (∀ j, j < 2 ^ 53 → double.order x (fl j) = some (compare V ((j * D : Nat) : Int)) ∧ double.order (fl j) x = some (compare ((j * D : Nat) : Int) V)) ∧
      (0 ≤ V → (double.read x).toInt .zero = some (V / (D : Int))) := by
  by_cases he : 0 ≤ e
  · obtain ⟨q, rfl⟩ := Int.eq_ofNat_of_zero_le he
    refine ⟨signed s m q, 1, by decide, ?_, ?_⟩
    · intro j hj
      obtain ⟨k, hk⟩ := read_fl j hj
      have hp : 0 < 2 ^ k := Nat.two_pow_pos k
      have e0 : min ((q : Nat) : Int) (-(k : Int)) = -(k : Int) := by omega
      have e0' : min (-(k : Int)) ((q : Nat) : Int) = -(k : Int) := by omega
      have e1 : (((q : Nat) : Int) - -(k : Int)).toNat = q + k := by omega
      have e2 : (-(k : Int) - -(k : Int)).toNat = 0 := by omega
      have e3 : signed s m (q + k) = signed s m q * ((2 ^ k : Nat) : Int) := by
        unfold signed
        rw [Nat.shiftLeft_add, Nat.shiftLeft_eq (m <<< q) k]
        cases s <;> simp [Int.neg_mul]
      have hc : ∀ a b : Int, compare (a * ((2 ^ k : Nat) : Int)) (b * ((2 ^ k : Nat) : Int)) = compare a b := by
        intro a b
        have hp' : (0 : Int) < ((2 ^ k : Nat) : Int) := by omega
        generalize ((2 ^ k : Nat) : Int) = p at *
        rcases Int.lt_trichotomy a b with h | rfl | h
        · rw [Int.compare_eq_lt.2 h]; exact Int.compare_eq_lt.2 (Int.mul_lt_mul_of_pos_right h hp')
        · exact (Int.compare_eq_eq.2 rfl).trans (Int.compare_eq_eq.2 rfl).symm
        · rw [Int.compare_eq_gt.2 h]; exact Int.compare_eq_gt.2 (Int.mul_lt_mul_of_pos_right h hp')
      unfold Format.order
      rw [hx, hk]
      simp only [Datum.order]
      rw [e0, e0', e1, e2, signed_pos, e3, Nat.pow_zero, Nat.mul_one, Nat.mul_one, Int.natCast_mul, hc, hc]
      exact ⟨rfl, rfl⟩
    · intro hV
      rw [hx]
      unfold Datum.toInt Datum.integral
      simp only
      rw [show (((q : Nat) : Int)).toNat = q by omega, show (-((q : Nat) : Int)).toNat = 0 by omega, cut_zero, Nat.pow_zero, Nat.div_one]
      have : signed s (m <<< q) 0 = signed s m q := by unfold signed; simp
      rw [this]; simp
  · obtain ⟨q, hq⟩ := Int.eq_ofNat_of_zero_le (show 0 ≤ -e by omega)
    obtain rfl : e = -(q : Int) := by omega
    refine ⟨signed s m 0, 2 ^ q, Nat.two_pow_pos q, ?_, ?_⟩
    · intro j hj
      obtain ⟨k, hk⟩ := read_fl j hj
      have e0 : min (-(q : Int)) (-(k : Int)) = -((max q k : Nat) : Int) := by omega
      have e0' : min (-(k : Int)) (-(q : Int)) = -((max q k : Nat) : Int) := by omega
      have e1 : (-(q : Int) - -((max q k : Nat) : Int)).toNat = max q k - q := by omega
      have e2 : (-(k : Int) - -((max q k : Nat) : Int)).toNat = max q k - k := by omega
      have e3 : signed s m (max q k - q) = signed s m 0 * ((2 ^ (max q k - q) : Nat) : Int) := by
        unfold signed
        rw [Nat.shiftLeft_eq]
        cases s <;> simp [Int.neg_mul]
      have e4 : j * 2 ^ k * 2 ^ (max q k - k) = (j * 2 ^ q) * 2 ^ (max q k - q) := by
        rw [Nat.mul_assoc, Nat.mul_assoc, ← Nat.pow_add, ← Nat.pow_add]
        congr 2; omega
      have hp : 0 < 2 ^ (max q k - q) := Nat.two_pow_pos _
      have hc : ∀ a b : Int, compare (a * ((2 ^ (max q k - q) : Nat) : Int)) (b * ((2 ^ (max q k - q) : Nat) : Int)) = compare a b := by
        intro a b
        have hp' : (0 : Int) < ((2 ^ (max q k - q) : Nat) : Int) := by omega
        generalize ((2 ^ (max q k - q) : Nat) : Int) = p at *
        rcases Int.lt_trichotomy a b with h | rfl | h
        · rw [Int.compare_eq_lt.2 h]; exact Int.compare_eq_lt.2 (Int.mul_lt_mul_of_pos_right h hp')
        · exact (Int.compare_eq_eq.2 rfl).trans (Int.compare_eq_eq.2 rfl).symm
        · rw [Int.compare_eq_gt.2 h]; exact Int.compare_eq_gt.2 (Int.mul_lt_mul_of_pos_right h hp')
      unfold Format.order
      rw [hx, hk]
      simp only [Datum.order]
      rw [e0, e0', e1, e2, signed_pos, e3, e4, Int.natCast_mul (j * 2 ^ q), hc, hc]
      exact ⟨rfl, rfl⟩
    · intro hV
      rw [hx]
      unfold Datum.toInt Datum.integral
      simp only
      rw [show (-(q : Int)).toNat = 0 by omega, show (-(-(q : Int))).toNat = q by omega, cut_zero, Nat.shiftLeft_eq, Nat.pow_zero, Nat.mul_one]
      cases s with
      | false => simp [signed]
      | true =>
        have : m = 0 := by
          unfold signed at hV
          simp at hV
          omega
        subst this
        simp [signed]

/-- The whole number up to 'most' that a float is. -/
def wholeOf (x most : Nat) : Option Nat := (List.range (most + 1)).find? fun i => double.order (fl i) x == some .eq

/-- The three tests of a number: is it at least 0, at most 'most', and is it what its integer is. -/
theorem whole_yes (x most i : Nat) (hm : most < 2 ^ 53) (h : wholeOf x most = some i) :
    i ≤ most ∧ (double.order x 0 == some .gt || double.order x 0 == some .eq) = true ∧ (double.order x (fl most) == some .lt || double.order x (fl most) == some .eq) = true ∧
      floatToIntVal .f64 x .i64 = some (i : Int) ∧ (double.order (fl i) x == some .eq) = true := by
  have h1 := List.find?_some h
  have h2 := List.mem_of_find?_eq_some h
  simp only [List.mem_range] at h2
  have hi : i < 2 ^ 53 := by omega
  refine ⟨by omega, ?_⟩
  have h1' : double.order (fl i) x = some .eq := by simpa using h1
  cases hx : double.read x with
  | nan n t =>
    obtain ⟨k, hk⟩ := read_fl i hi
    unfold Format.order at h1'
    rw [hx, hk] at h1'
    simp [Datum.order] at h1'
  | infinity n =>
    obtain ⟨k, hk⟩ := read_fl i hi
    unfold Format.order at h1'
    rw [hx, hk] at h1'
    cases n <;> simp [Datum.order] at h1'
  | number s m e =>
    obtain ⟨V, D, hD, ho, ht⟩ := number_order x s m e hx
    rw [(ho i hi).2] at h1'
    have hV : ((i * D : Nat) : Int) = V := by
      have : compare ((i * D : Nat) : Int) V = .eq := by simpa using h1'
      exact Int.compare_eq_eq.1 this
    subst hV
    have h0 := (ho 0 (by decide)).1
    rw [fl_zero, Nat.zero_mul] at h0
    have hM := (ho most hm).1
    have hle : i * D ≤ most * D := Nat.mul_le_mul_right _ (by omega)
    refine ⟨?_, ?_, ?_, h1⟩
    · rw [h0]
      rcases Nat.eq_zero_or_pos (i * D) with hz | hz
      · rw [hz, Int.compare_eq_eq.2 rfl]; rfl
      · rw [Int.compare_eq_gt.2 (by omega)]; rfl
    · rw [hM]
      rcases Nat.lt_or_eq_of_le hle with hz | hz
      · rw [Int.compare_eq_lt.2 (by omega)]; rfl
      · rw [hz, Int.compare_eq_eq.2 rfl]; rfl
    · have hti := ht (by omega)
      have e : ((i * D : Nat) : Int) / (D : Int) = (i : Int) := by
        rw [Int.natCast_mul]; exact Int.mul_ediv_cancel _ (by omega)
      rw [e] at hti
      unfold floatToIntVal
      show (match (double.read x).toInt .zero with | some n => _ | none => _) = _
      rw [hti]
      simp only
      rw [if_pos]
      constructor
      · show (-9223372036854775808 : Int) ≤ i
        omega
      · show (i : Int) ≤ 9223372036854775807
        have : (2 : Nat) ^ 53 = 9007199254740992 := by decide
        omega

theorem whole_no (x most : Nat) (hm : most < 2 ^ 53) (h : wholeOf x most = none) :
    (double.order x 0 == some .gt || double.order x 0 == some .eq) = false ∨ (double.order x (fl most) == some .lt || double.order x (fl most) == some .eq) = false ∨
      ((double.order x 0 == some .gt || double.order x 0 == some .eq) = true ∧ (double.order x (fl most) == some .lt || double.order x (fl most) == some .eq) = true ∧ ∃ i : Nat, i ≤ most ∧ floatToIntVal .f64 x .i64 = some (i : Int) ∧ (double.order (fl i) x == some .eq) = false) := by
  have hall : ∀ i, i < most + 1 → (double.order (fl i) x == some .eq) = false := by
    intro i hi
    have := List.find?_eq_none.1 h i (List.mem_range.2 hi)
    simpa using this
  by_cases hg : (double.order x 0 == some .gt || double.order x 0 == some .eq) = true
  case neg => exact .inl (by simpa using hg)
  by_cases hl : (double.order x (fl most) == some .lt || double.order x (fl most) == some .eq) = true
  case neg => exact .inr (.inl (by simpa using hl))
  refine .inr (.inr ⟨hg, hl, ?_⟩)
  have g0 := read_zero
  cases hx : double.read x with
  | nan n t =>
    unfold Format.order at hg
    rw [hx, g0] at hg
    simp [Datum.order] at hg
  | infinity n =>
    obtain ⟨k, hk⟩ := read_fl most hm
    unfold Format.order at hg hl
    rw [hx, g0] at hg
    rw [hx, hk] at hl
    cases n <;> simp [Datum.order] at hg hl
  | number s m e =>
    obtain ⟨V, D, hD, ho, ht⟩ := number_order x s m e hx
    have h0 := (ho 0 (by decide)).1
    rw [fl_zero, Nat.zero_mul] at h0
    have hM := (ho most hm).1
    rw [h0] at hg
    rw [hM] at hl
    have hV0 : 0 ≤ V := by
      rcases Int.lt_trichotomy V 0 with hlt | heq | hgt
      · rw [show ((0 : Nat) : Int) = 0 from rfl, Int.compare_eq_lt.2 hlt] at hg; simp at hg
      · omega
      · omega
    have hVm : V ≤ ((most * D : Nat) : Int) := by
      rcases Int.lt_trichotomy V ((most * D : Nat) : Int) with hlt | heq | hgt
      · omega
      · omega
      · rw [Int.compare_eq_gt.2 hgt] at hl; simp at hl
    obtain ⟨v, rfl⟩ := Int.eq_ofNat_of_zero_le hV0
    have hti := ht hV0
    have e1 : ((v : Nat) : Int) / (D : Int) = ((v / D : Nat) : Int) := by simp
    rw [e1] at hti
    have hle : v / D ≤ most := by
      have h3 : v ≤ most * D := by omega
      exact (Nat.div_le_iff_le_mul_add_pred hD).2 (by rw [Nat.mul_comm]; omega)
    refine ⟨v / D, hle, ?_, hall _ (by omega)⟩
    generalize hvd : v / D = u at *
    unfold floatToIntVal
    show (match (double.read x).toInt .zero with | some n => _ | none => _) = _
    rw [hti]
    simp only
    rw [if_pos]
    constructor
    · show (-9223372036854775808 : Int) ≤ (u : Int)
      omega
    · show (u : Int) ≤ 9223372036854775807
      have : (2 : Nat) ^ 53 = 9007199254740992 := by decide
      omega

theorem wholeOf_fl (n most : Nat) (hm : most < 2 ^ 53) : wholeOf (fl n) most = if n ≤ most then some n else wholeOf (fl n) most := by
  by_cases h : n ≤ most
  · rw [if_pos h]
    unfold wholeOf
    rw [List.find?_range_eq_some]
    refine ⟨by rw [order_fl n n (by omega) (by omega), Nat.compare_eq_eq.2 rfl]; rfl, List.mem_range.2 (by omega), ?_⟩
    intro j hj
    rw [order_fl j n (by omega) (by omega), Nat.compare_eq_lt.2 hj]
    rfl
  · rw [if_neg h]

/-- The place and the number of a cut of so many things. -/
def cutOf (re im many : Nat) : Option (Nat × Nat) :=
  match wholeOf re many with
  | none => none
  | some a =>
    match wholeOf im many with
    | none => none
    | some n => if a + n ≤ many then some (a, n) else none

theorem cutOf_some {re im many a n : Nat} (h : cutOf re im many = some (a, n)) : wholeOf re many = some a ∧ wholeOf im many = some n ∧ a + n ≤ many := by
  unfold cutOf at h
  split at h
  · cases h
  · split at h
    · cases h
    · split at h
      · cases h; exact ⟨by assumption, by assumption, by assumption⟩
      · cases h

theorem cutOf_none {re im many : Nat} (h : cutOf re im many = none) : wholeOf re many = none ∨ (∃ a, wholeOf re many = some a ∧ wholeOf im many = none) ∨ ∃ a n, wholeOf re many = some a ∧ wholeOf im many = some n ∧ many < a + n := by
  unfold cutOf at h
  split at h
  · exact .inl (by assumption)
  · split at h
    · exact .inr (.inl ⟨_, by assumption, by assumption⟩)
    · split at h
      · cases h
      · exact .inr (.inr ⟨_, _, by assumption, by assumption, by omega⟩)

theorem cutOf_fl (a n many : Nat) (hm : many < 2 ^ 53) (h : a + n ≤ many) : cutOf (fl a) (fl n) many = some (a, n) := by
  unfold cutOf
  rw [wholeOf_fl a many hm, wholeOf_fl n many hm, if_pos (by omega), if_pos (by omega)]
  simp [h]

theorem wholeOf_none_of (x most : Nat) (h : ∀ j, j < most + 1 → (double.order (fl j) x == some .eq) = false) : wholeOf x most = none := by
  unfold wholeOf
  rw [List.find?_eq_none]
  intro i hi
  rw [h i (by simpa using hi)]
  simp

theorem wholeOf_some_of (x most k : Nat) (hk : k ≤ most) (h : ∀ j, j < k → (double.order (fl j) x == some .eq) = false) (he : (double.order (fl k) x == some .eq) = true) : wholeOf x most = some k := by
  unfold wholeOf
  rw [List.find?_range_eq_some]
  refine ⟨he, List.mem_range.2 (by omega), ?_⟩
  intro j hj
  rw [h j hj]; rfl

end Go.Fl
/-
  The walks of cut: which numbers fit.
-/
namespace Go.Proofs.YtbpghohkhngdfaaGreatDoor
open Go.RowKit Go.Fl

theorem fits_yes (x many i : Nat) (b : Nat) (w : World) (hm : many < 2 ^ 53) (hc : w.cell? ⟨b, 0, none⟩ = some (.int .i64 many)) (h : wholeOf x many = some i) :
    Calls Tryz.prog 240 #[.float .f64 x, .pointer (some ⟨b, 0, none⟩)] w fun e w' => e = .returned (.bool true) ∧ w = w' := by
  obtain ⟨h1, h2, h3, h4, h5⟩ := whole_yes x many i hm h
  have hr := fun (w : World) => run_convert_float_int (P := Tryz.prog) w 248 3 .f64 .i64 x i (by rw [Tryz.underlying248]; rfl) Tryz.underlying3 h4
  have h2' : (FloatKind.f64.format.order x 0 == some Ordering.gt || FloatKind.f64.format.order x 0 == some Ordering.eq) = true := h2
  have h3' : (FloatKind.f64.format.order x (floatOfInt FloatKind.f64 ↑many) == some Ordering.lt || FloatKind.f64.format.order x (floatOfInt FloatKind.f64 ↑many) == some Ordering.eq) = true := h3
  have h5' : (FloatKind.f64.format.order (floatOfInt FloatKind.f64 ↑i) x == some Ordering.eq) = true := h5
  clear h2 h3 h5 h4 h1 h hm
  go_enter Tryz.func240, Tryz.ntmps240
  go_wp2
  go_ret
  exact ⟨rfl, rfl⟩

theorem fits_no (x many : Nat) (b : Nat) (w : World) (hm : many < 2 ^ 53) (hc : w.cell? ⟨b, 0, none⟩ = some (.int .i64 many)) (h : wholeOf x many = none) :
    Calls Tryz.prog 240 #[.float .f64 x, .pointer (some ⟨b, 0, none⟩)] w fun e w' => e = .returned (.bool false) ∧ w = w' := by
  rcases whole_no x many hm h with h1 | h1 | ⟨h1, h2, i, h3, h4, h5⟩
  · have h1' : (FloatKind.f64.format.order x 0 == some Ordering.gt || FloatKind.f64.format.order x 0 == some Ordering.eq) = false := h1
    clear h1 h hm
    go_enter Tryz.func240, Tryz.ntmps240
    go_wp2
    go_ret
    exact ⟨rfl, rfl⟩
  · have h1' : (FloatKind.f64.format.order x (floatOfInt FloatKind.f64 ↑many) == some Ordering.lt || FloatKind.f64.format.order x (floatOfInt FloatKind.f64 ↑many) == some Ordering.eq) = false := h1
    clear h1 h hm
    by_cases h0 : (FloatKind.f64.format.order x 0 == some Ordering.gt || FloatKind.f64.format.order x 0 == some Ordering.eq) = true
    · go_enter Tryz.func240, Tryz.ntmps240
      go_wp2
      go_ret
      exact ⟨rfl, rfl⟩
    · have h0' : (FloatKind.f64.format.order x 0 == some Ordering.gt || FloatKind.f64.format.order x 0 == some Ordering.eq) = false := by simpa using h0
      clear h0
      go_enter Tryz.func240, Tryz.ntmps240
      go_wp2
      go_ret
      exact ⟨rfl, rfl⟩
  · have hr := fun (w : World) => run_convert_float_int (P := Tryz.prog) w 248 3 .f64 .i64 x i (by rw [Tryz.underlying248]; rfl) Tryz.underlying3 h4
    have h1' : (FloatKind.f64.format.order x 0 == some Ordering.gt || FloatKind.f64.format.order x 0 == some Ordering.eq) = true := h1
    have h2' : (FloatKind.f64.format.order x (floatOfInt FloatKind.f64 ↑many) == some Ordering.lt || FloatKind.f64.format.order x (floatOfInt FloatKind.f64 ↑many) == some Ordering.eq) = true := h2
    have h5' : (FloatKind.f64.format.order (floatOfInt FloatKind.f64 ↑i) x == some Ordering.eq) = false := h5
    clear h1 h2 h5 h h4 hm h3
    go_enter Tryz.func240, Tryz.ntmps240
    go_wp2
    go_ret
    exact ⟨rfl, rfl⟩

theorem fits_any (x many : Nat) (b : Nat) (w : World) (hm : many < 2 ^ 53) (hc : w.cell? ⟨b, 0, none⟩ = some (.int .i64 many)) :
    Calls Tryz.prog 240 #[.float .f64 x, .pointer (some ⟨b, 0, none⟩)] w fun e w' => e = .returned (.bool (wholeOf x many).isSome) ∧ w = w' := by
  cases h : wholeOf x many with
  | some i => exact fits_yes x many i b w hm hc h
  | none => exact fits_no x many b w hm hc h

theorem whole_ok (re im many a n : Nat) (w : World) (hm : many < 2 ^ 53) (hcut : cutOf re im many = some (a, n)) :
    Calls Tryz.prog 225 #[.complex .f64 re im, .int .i64 many] w fun e w' => e = .returned (.tuple #[.int .i64 a, .int .i64 n, .bool true]) ∧ w' = w.alloc (.cells #[.int .i64 many] 3) := by
  obtain ⟨h1, h2, h⟩ := cutOf_some hcut
  have k1 := (whole_yes re many a hm h1).2.2.2.1
  have k2 := (whole_yes im many n hm h2).2.2.2.1
  have l1 := (whole_yes re many a hm h1).1
  have l2 := (whole_yes im many n hm h2).1
  have hr := fun (w : World) => run_convert_float_int (P := Tryz.prog) w 248 3 .f64 .i64 re a (by rw [Tryz.underlying248]; rfl) Tryz.underlying3 k1
  have hi := fun (w : World) => run_convert_float_int (P := Tryz.prog) w 248 3 .f64 .i64 im n (by rw [Tryz.underlying248]; rfl) Tryz.underlying3 k2
  have hm' : (many : Int) ≤ 9007199254740992 := by have : (2 : Nat) ^ 53 = 9007199254740992 := by decide
                                                   omega
  have HM := Lib.hid hm
  have H1 := Lib.hid h1
  have H2 := Lib.hid h2
  clear k1 k2 h1 h2 hm hcut
  go_enter Tryz.func225, Tryz.ntmps225
  go_wp2_with fail
  refine (fits_yes re many a _ _ HM.out (by simp) H1.out).mono ?_
  rintro e w' ⟨rfl, rfl⟩
  go_wp2_with fail
  refine (fits_yes im many n _ _ HM.out (by simp) H2.out).mono ?_
  rintro e w' ⟨rfl, rfl⟩
  go_wp2_with fail
  go_ret3
  exact ⟨rfl, rfl⟩

theorem whole_bad (re im many : Nat) (w : World) (hm : many < 2 ^ 53) (hcut : cutOf re im many = none) :
    Calls Tryz.prog 225 #[.complex .f64 re im, .int .i64 many] w fun e w' => e = .returned (.tuple #[.int .i64 0, .int .i64 0, .bool false]) ∧ w' = w.alloc (.cells #[.int .i64 many] 3) := by
  have HM := Lib.hid hm
  rcases cutOf_none hcut with h1 | ⟨a, h1, h2⟩ | ⟨a, n, h1, h2, h⟩
  · have H1 := Lib.hid h1
    clear h1 hm hcut
    go_enter Tryz.func225, Tryz.ntmps225
    go_wp2_with fail
    refine (fits_no re many _ _ HM.out (by simp) H1.out).mono ?_
    rintro e w' ⟨rfl, rfl⟩
    go_wp2_with fail
    go_ret3
    exact ⟨rfl, rfl⟩
  · have H1 := Lib.hid h1
    have H2 := Lib.hid h2
    clear h1 h2 hm hcut
    go_enter Tryz.func225, Tryz.ntmps225
    go_wp2_with fail
    refine (fits_yes re many a _ _ HM.out (by simp) H1.out).mono ?_
    rintro e w' ⟨rfl, rfl⟩
    go_wp2_with fail
    refine (fits_no im many _ _ HM.out (by simp) H2.out).mono ?_
    rintro e w' ⟨rfl, rfl⟩
    go_wp2_with fail
    go_ret3
    exact ⟨rfl, rfl⟩
  · have k1 := (whole_yes re many a hm h1).2.2.2.1
    have k2 := (whole_yes im many n hm h2).2.2.2.1
    have l1 := (whole_yes re many a hm h1).1
    have l2 := (whole_yes im many n hm h2).1
    have hr := fun (w : World) => run_convert_float_int (P := Tryz.prog) w 248 3 .f64 .i64 re a (by rw [Tryz.underlying248]; rfl) Tryz.underlying3 k1
    have hi := fun (w : World) => run_convert_float_int (P := Tryz.prog) w 248 3 .f64 .i64 im n (by rw [Tryz.underlying248]; rfl) Tryz.underlying3 k2
    have hm' : (many : Int) ≤ 9007199254740992 := by have : (2 : Nat) ^ 53 = 9007199254740992 := by decide
                                                     omega
    have H1 := Lib.hid h1
    have H2 := Lib.hid h2
    clear k1 k2 h1 h2 hm hcut
    go_enter Tryz.func225, Tryz.ntmps225
    go_wp2_with fail
    refine (fits_yes re many a _ _ HM.out (by simp) H1.out).mono ?_
    rintro e w' ⟨rfl, rfl⟩
    go_wp2_with fail
    refine (fits_yes im many n _ _ HM.out (by simp) H2.out).mono ?_
    rintro e w' ⟨rfl, rfl⟩
    go_wp2_with fail
    go_ret3
    exact ⟨rfl, rfl⟩
end Go.Proofs.YtbpghohkhngdfaaGreatDoor
/-
  The walks of cut: the bytes of a cut.
-/
namespace Go.Proofs.YtbpghohkhngdfaaGreatDoor
open Go.RowKit Go.Fl Go.Mem


theorem clone_any (ao : Option Addr) (len cap : Nat) (xs : List Value) (w : World) (hlen : xs.length = len) (hb : len ≤ 1099511627776) (hl : Lies w ao xs) (h1 : ∀ u ∈ xs, u.oneCell' = true) :
    Calls Tryz.prog 69 #[.slice ao len cap] w (Fresh w 5 1 len xs id) := by
  obtain ⟨i0, hi, hz0, hz1, hz2⟩ := info_parts Tryz.infoByte
  have hq := fun (w : World) => eql_slice_nil (P := Tryz.prog) w 22 5 ao len cap Tryz.underlying22
  cases ao with
  | none =>
    have hx : xs = [] := by
      cases xs with
      | nil => rfl
      | cons x xs => obtain ⟨_, _, e, _⟩ := hl 0 x rfl; cases e
    subst hx
    obtain rfl : len = 0 := by simpa using hlen.symm
    clear h1 hl hlen hi hz0 hz1 hz2
    go_enter Tryz.func69, Tryz.ntmps69
    go_wp2
    go_ret
    exact ⟨_, rfl, World.ownsRow_nil _ _ _ _, Below.refl _ _⟩
  | some ad =>
    have hown := World.ownsRow_made (size := 1) (e := 5) (base := w.heap.size) w #[] 0 (Nat.le_refl _) (by simp [maxLen]) (by simp)
    have hl2 := (hl.below ((Below.refl w.heap.size w).alloc (Nat.le_refl _) (.cells #[] 5))).news
    have HL := Lib.hid hl2
    have H1 := Lib.hid h1
    have HLEN := Lib.hid hlen
    clear h1 hl hl2 hlen
    go_enter Tryz.func69, Tryz.ntmps69
    go_wp2_with (first | (at_builtin; refine wpList_append_own _ rfl _ _ 22 rfl w.heap.size 5 i0 (.int .u8 0) 1 1 Tryz.underlying22 hi hz0 hz1 hz2 rfl (by decide) _ _ _ rfl hown ad len cap xs rfl ?c1 HL.out H1.out ?c3 ?c4 ?c5 ?_))
    case c1 => rw [HLEN.out]; omega
    case c3 => simp [maxLen]; omega
    case c4 => omega
    case c5 => simp
    intro v' w1 hown' hgrow _
    go_wp2
    go_ret
    refine ⟨v', rfl, ?_, ?_⟩
    · simpa using hown'
    · exact ((Below.refl w.heap.size w).alloc (Nat.le_refl _) _).grown hgrow (by simp) (by intro k hk; simp [Value.ownBlock] at hk; omega)

/-- The bytes of a cut. -/
theorem of_ok (ao : Option Addr) (len cap : Nat) (bs : List UInt8) (re im a n : Nat) (w : World) (hlen : bs.length = len) (hcap : len ≤ cap) (hb : len ≤ 1099511627776) (hl : Lies w ao (bs.map B)) (hcut : cutOf re im len = some (a, n)) :
    Calls Tryz.prog 226 #[.slice ao len cap, .complex .f64 re im] w (Fresh w 5 1 n (((bs.drop a).take n).map B) fun v => .tuple #[v, .bool true]) := by
  obtain ⟨_, _, han⟩ := cutOf_some hcut
  obtain ⟨i0, hi, hz0, hz1, hz2⟩ := info_parts Tryz.infoByte
  have hlen2 : (((bs.drop a).take n).map B).length = n := by simp; omega
  have hs := fun (w : World) => run_cut (P := Tryz.prog) w 22 5 Tryz.underlying22 (run_size _ i0 1 hi hz1) ao len cap a (a + n) (a : Int) ((a : Int) + n) rfl (by omega) (by omega) (by omega)
  rw [show a + n - a = n by omega] at hs
  have HC := Lib.hid hcut
  have HLEN := Lib.hid hlen2
  have HL := Lib.hid ((Lies.cutA (cap := cap) (hl.below ((Below.refl w.heap.size w).alloc (Nat.le_refl _) (.cells #[.int .i64 len] 3))) (by simp; omega) a n))
  rw [← List.map_drop, ← List.map_take] at HL
  have H1 := Lib.hid (oneCell_B ((bs.drop a).take n))
  clear hlen2 hlen hl hcut hi hz0 hz1 hz2
  go_enter Tryz.func226, Tryz.ntmps226
  go_wp2_with fail
  refine (whole_ok re im len a n _ (by omega) HC.out).mono ?_
  rintro e w' ⟨rfl, rfl⟩
  go_wp2_with fail
  refine (clone_any _ n _ _ _ HLEN.out (by omega) HL.out H1.out).mono ?_
  rintro e w' ⟨v, rfl, hown, hbel⟩
  go_wp2_with fail
  go_ret2
  exact ⟨v, rfl, hown.mono (by simp), ((Below.refl w.heap.size w).alloc (Nat.le_refl _) _).trans (hbel.mono (by simp))⟩

theorem of_bad (ao : Option Addr) (len cap : Nat) (re im : Nat) (w : World) (hb : len ≤ 1099511627776) (hcut : cutOf re im len = none) :
    Calls Tryz.prog 226 #[.slice ao len cap, .complex .f64 re im] w fun e w' => e = .returned (.tuple #[.slice none 0 0, .bool false]) ∧ Below w.heap.size w w' := by
  have HC := Lib.hid hcut
  clear hcut
  go_enter Tryz.func226, Tryz.ntmps226
  go_wp2_with fail
  refine (whole_bad re im len _ (by omega) HC.out).mono ?_
  rintro e w' ⟨rfl, rfl⟩
  go_wp2_with fail
  go_ret2
  exact ⟨rfl, (Below.refl w.heap.size w).alloc (Nat.le_refl _) _⟩

end Go.Proofs.YtbpghohkhngdfaaGreatDoor
/-
  The walks of cut: the half bytes of a cut.
-/
namespace Go.Proofs.YtbpghohkhngdfaaGreatDoor
open Go.RowKit Go.Fl Go.Mem Go.Ops Go.CutP

theorem zeros_B (n : Nat) : (madeCells #[.int .u8 0] n).toList = (List.replicate n (0 : UInt8)).map B := by
  rw [toList_madeCells_one, List.map_replicate]
  rfl

set_option maxHeartbeats 400000 in
theorem halves_ok (ao : Option Addr) (len cap : Nat) (bs : List UInt8) (re im a n : Nat) (w : World) (hlen : bs.length = len) (hb : len ≤ 1099511627776) (hl : Lies w ao (bs.map B)) (hcut : cutOf re im (2 * len) = some (a, n)) :
    Calls Tryz.prog 188 #[.slice ao len cap, .complex .f64 re im] w (Fresh w 5 1 n ((((nibs bs).drop a).take n).map B) fun v => .tuple #[v, .bool true]) := by
  obtain ⟨_, _, han⟩ := cutOf_some hcut
  obtain ⟨i0, hi, hz0, hz1, hz2⟩ := info_parts Tryz.infoByte
  have HC := Lib.hid hcut
  have HLEN := Lib.hid hlen
  have HL := Lib.hid hl
  have HI := Lib.hid (And.intro hi (And.intro hz0 (And.intro hz1 hz2)))
  clear hlen hl hcut hi hz0 hz1 hz2
  go_enter Tryz.func188, Tryz.ntmps188
  go_wp2_with fail
  refine (whole_ok re im (2 * len) a n _ (by omega) HC.out).mono ?_
  rintro e w' ⟨rfl, rfl⟩
  go_wp2_with (at_make; refine wpList_make_full _ rfl _ _ 22 rfl w.heap.size 5 i0 (.int .u8 0) 1 Tryz.underlying22 HI.out.1 HI.out.2.1 HI.out.2.2.1 _ _ _ _ n rfl rfl rfl rfl ?b2 ?b3 ?b4 ?_)
  case b2 => rw [HI.out.2.2.2]; omega
  case b3 => unfold maxLen; omega
  case b4 => simp
  intro w0 hown0 hgrow0
  have hb0 : Below w.heap.size w w0 := ((Below.refl w.heap.size w).alloc (Nat.le_refl _) _).grown hgrow0 (by simp) (fun k h => by cases h)
  have HOWN := Lib.hid hown0
  have HB := Lib.hid hb0
  clear hown0 hgrow0 hb0
  go_wp2
  generalize hg : w.heap.size + 1 = g at *
  have HG := Lib.hid hg
  clear hg
  go_loopw [27] (fun i wr => ∃ k : Nat, k ≤ n ∧ i = .int .i64 k ∧ wr.ownsRow w.heap.size 5 1 (.slice (some ⟨g, 0, none⟩) n n) n ((fillTo (((nibs bs).drop a).take n) n k).map B) ∧ Below w.heap.size w wr)
    (fun i _ => n - (intOf i).toNat)
  case atStart => 
    refine ⟨0, Nat.zero_le _, rfl, ?_, HB.out⟩
    have := HOWN.out
    rw [zeros_B] at this
    rw [fill_zero]
    simpa using this
  case round =>
    obtain ⟨k, hk, rfl, hown, hbel⟩ := hrel
    have hlenF : (((nibs bs).drop a).take n).length = n := by rw [List.length_take, List.length_drop, nibs_length, HLEN.out]; omega
    by_cases hlt : k < n
    · have hread := (HL.out.below HB.out)
      have hne : bs.map B ≠ [] := by intro h; have := congrArg List.length h; simp [HLEN.out] at this; omega
      obtain ⟨b, off, rfl, hbw, hcell⟩ := HL.out.at hne
      have hbs : (bs.map B)[(a + k) / 2]? = some (B (bs.getD ((a + k) / 2) 0)) := by
        have : (a + k) / 2 < bs.length := by rw [HLEN.out]; omega
        simp [this]
      have hc := (hbel.cell (p := ⟨b, off + (a + k) / 2, none⟩) hbw).trans (hcell _ _ hbs)
      have hf := hown.frozenAt k
      have hcl : wr.cell? ⟨g, k, none⟩ = some (B (((fillTo (((nibs bs).drop a).take n) n k)).getD k 0)) := by
        rw [hown.cellAt k (by omega)]
        have : k < (fillTo (((nibs bs).drop a).take n) n k).length := by rw [fill_length _ _ _ hlenF (by omega)]; omega
        simp [this]
      clear hread hne hcell hbs
      go_wp2
      go_roundw
      case rel =>
        refine ⟨k + 1, by omega, by go_num, ?_, hbel.setCell (by simp; have := HG.out; omega) _⟩
        have hnx := nibs_at bs (a + k) (by rw [HLEN.out]; omega)
        have hset := fill_set (((nibs bs).drop a).take n) n k _ hlenF (by rw [List.getElem?_take, if_pos hlt, List.getElem?_drop]; exact hnx)
        have hst := (hown.stored k (B (nib (bs.getD ((a + k) / 2) 0) ((a + k) % 2)))).1
        rw [← List.map_set, hset] at hst
        simpa [nib] using hst
      case measure => simp [intOf]; omega
    · obtain rfl : k = n := by omega
      rw [fill_full _ _ hlenF] at hown
      go_wp2
      go_ret2
      exact ⟨_, rfl, hown, hbel⟩

theorem halves_bad (ao : Option Addr) (len cap : Nat) (re im : Nat) (w : World) (hb : len ≤ 1099511627776) (hcut : cutOf re im (2 * len) = none) :
    Calls Tryz.prog 188 #[.slice ao len cap, .complex .f64 re im] w fun e w' => e = .returned (.tuple #[.slice none 0 0, .bool false]) ∧ Below w.heap.size w w' := by
  have HC := Lib.hid hcut
  clear hcut
  go_enter Tryz.func188, Tryz.ntmps188
  go_wp2_with fail
  refine (whole_bad re im (2 * len) _ (by omega) HC.out).mono ?_
  rintro e w' ⟨rfl, rfl⟩
  go_wp2_with fail
  go_ret2
  exact ⟨rfl, (Below.refl w.heap.size w).alloc (Nat.le_refl _) _⟩

set_option maxHeartbeats 400000 in
theorem join_ok (ao : Option Addr) (len cap : Nat) (h : List UInt8) (w : World) (hlen : h.length = len) (hb : len ≤ 1099511627776) (hl : Lies w ao (h.map B)) :
    Calls Tryz.prog 127 #[.slice ao len cap] w (Fresh w 5 1 ((len + 1) / 2) ((joinL h).map B) id) := by
  obtain ⟨i0, hi, hz0, hz1, hz2⟩ := info_parts Tryz.infoByte
  have HLEN := Lib.hid hlen
  have HL := Lib.hid hl
  have HI := Lib.hid (And.intro hi (And.intro hz0 (And.intro hz1 hz2)))
  clear hlen hl hi hz0 hz1 hz2
  go_enter Tryz.func127, Tryz.ntmps127
  go_wp2_with (at_make; refine wpList_make_full _ rfl _ _ 22 rfl w.heap.size 5 i0 (.int .u8 0) 1 Tryz.underlying22 HI.out.1 HI.out.2.1 HI.out.2.2.1 _ _ _ _ ((len + 1) / 2) rfl rfl (by omega) (by omega) ?b2 ?b3 ?b4 ?_)
  case b2 => rw [HI.out.2.2.2]; omega
  case b3 => unfold maxLen; omega
  case b4 => simp
  intro w0 hown0 hgrow0
  have hb0 : Below w.heap.size w w0 := (Below.refl w.heap.size w).grown hgrow0 (by simp) (fun k h => by cases h)
  have HOWN := Lib.hid hown0
  have HB := Lib.hid hb0
  clear hown0 hgrow0 hb0
  go_wp2
  generalize hg : w.heap.size = g at *
  have HG := Lib.hid hg
  clear hg
  generalize hm : (len + 1) / 2 = m at *
  have HM := Lib.hid hm
  clear hm
  go_loopw [13] (fun i wr => ∃ k : Nat, k ≤ len ∧ i = .int .i64 k ∧ wr.ownsRow g 5 1 (.slice (some ⟨g, 0, none⟩) m m) m ((joinTo h k).map B) ∧ Below g w wr)
    (fun i _ => len - (intOf i).toNat)
  case atStart =>
    refine ⟨0, Nat.zero_le _, rfl, ?_, HB.out⟩
    have := HOWN.out
    rw [joinTo_zero, HLEN.out, HM.out, ← zeros_B]
    simpa using this
  case round =>
    obtain ⟨k, hk, rfl, hown, hbel⟩ := hrel
    by_cases hlt : k < len
    · have hne : h.map B ≠ [] := by intro h; have := congrArg List.length h; simp [HLEN.out] at this; omega
      obtain ⟨b, off, rfl, hbw, hcell⟩ := HL.out.at hne
      rw [HG.out] at hbw
      have hks : k < h.length := by rw [HLEN.out]; omega
      obtain ⟨u, hu⟩ : ∃ u, h[k]? = some u := ⟨h[k], by simp [hks]⟩
      have hc := (hbel.cell (p := ⟨b, off + k, none⟩) hbw).trans (hcell k (B u) (by simp [hu]))
      have hf := hown.frozenAt (k / 2)
      have hcl : wr.cell? ⟨g, k / 2, none⟩ = some (B ((joinTo h k).getD (k / 2) 0)) := by
        have hm := HM.out
        rw [hown.cellAt _ (by omega)]
        have : k / 2 < (joinTo h k).length := by rw [joinTo_length _ _ (by omega), HLEN.out]; omega
        simp [this]
      have HU := Lib.hid hu
      have hmk : k / 2 < m := by have := HM.out; omega
      clear hne hcell hu hks
      go_wp2
      go_region
      all_goals
        go_wp2
        go_roundw
        case rel =>
          refine ⟨k + 1, by omega, by go_num, ?_, (hbel.setCell (by simp) _).drew⟩
          have hset := joinTo_set h k u HU.out
          have hst := (hown.stored (k / 2) (B (or8 ((joinTo h k).getD (k / 2) 0) (half u (k % 2))))).1.drew
          rw [← List.map_set, hset] at hst
          simpa [half] using hst
        case measure => simp [intOf]; omega
    · obtain rfl : k = len := by omega
      rw [← HLEN.out, joinTo_full] at hown
      have hg := HG.out
      clear HG
      subst hg
      go_wp2
      go_ret
      exact ⟨.slice (some ⟨w.heap.size, 0, none⟩) m m, rfl, hown, hbel⟩

end Go.Proofs.YtbpghohkhngdfaaGreatDoor
/-
  The walks of eztiny: a message's halves, its first bit.
-/
namespace Go.Mem
open Go.RowKit Go.Cells
/-- A row that the call owns, as a block. -/
theorem own_blk {w : World} {base : Nat} {e : TypeId} {v : Value} {n : Nat} {xs : List Value} (h : w.ownsRow base e 1 v n xs) (hn : 0 < n) :
    ∃ g cap cur, v = .slice (some ⟨g, 0, none⟩) n cap ∧ base ≤ g ∧ Blk w g cur e ∧ n ≤ cap ∧ cap ≤ maxLen ∧ cur.length = cap ∧ cur.take n = xs := by
  rcases h.2 with ⟨_, h0⟩ | ⟨g, cap, cur, hv, hb, hg, h1, h2, h3, ht⟩
  · omega
  · refine ⟨g, cap, cur.toList, hv, hb, by unfold Blk; simpa using hg, h1, h2, by simpa using h3, by simpa using ht⟩
theorem own_of_cur {w : World} {base : Nat} {e : TypeId} {g n cap : Nat} {cur : List Value} (h : Blk w g cur e) (hb : base ≤ g) (hn : n ≤ cap) (hm : cap ≤ maxLen) (hl : cur.length = cap) : w.ownsRow base e 1 (.slice (some ⟨g, 0, none⟩) n cap) n (cur.take n) := by
  refine ⟨by rw [List.length_take, hl, Nat.mul_one]; omega, .inr ⟨g, cap, cur.toArray, rfl, hb, h, hn, hm, by simp [hl], ?_⟩⟩
  rw [Nat.mul_one]
theorem own_le {w : World} {b base : Nat} {e : TypeId} {size : Nat} {v : Value} {n : Nat} {xs : List Value} (h : w.ownsRow base e size v n xs) (hb : b ≤ base) : w.ownsRow b e size v n xs :=
  ⟨h.1, h.2.imp id fun ⟨g, cap, cur, hv, hg, hh, rest⟩ => ⟨g, cap, cur, hv, Nat.le_trans hb hg, hh, rest⟩⟩
/-- Another block than one of another type. -/
theorem own_only_ty {w w' : World} {base : Nat} {e : TypeId} {size : Nat} {v : Value} {n c : Nat} {xs vs : List Value} {ty : TypeId} (h : w.ownsRow base e size v n xs) (hc : Blk w c vs ty) (hne : e ≠ ty) (ho : Only c w w') : w'.ownsRow base e size v n xs := by
  refine ⟨h.1, h.2.imp id ?_⟩
  rintro ⟨g, cap, cur, hv, hg, hh, rest⟩
  refine ⟨g, cap, cur, hv, hg, (ho.block g (fun e' => ?_)).trans hh, rest⟩
  subst e'
  rw [show w.heap[g]? = _ from hc] at hh
  cases hh
  exact hne rfl
end Go.Mem
namespace Go.Proofs.YtbpghohkhngdfaaGreatDoor
open Go.RowKit Go.Mem Go.Ops Go.Cells Go.Oct Go.Gf Go.Trn Go.Aes Go.Ring Go.Ezk Go.Ezh Go.Ezt Go.CutP Go.Fl
set_option linter.unusedSimpArgs false
set_option linter.unusedVariables false
set_option maxRecDepth 100000
attribute [local irreducible] walkR walkP walk0 walkB walkK

theorem Tryz.rowTwo : Row Tryz.prog 184 2 := ⟨by kernel_rfl, by kernel_rfl⟩
theorem Tryz.zeroTwo : (Tryz.prog.info? 184).map (·.zero) = some (some (.agg #[.slice none 0 0, .slice none 0 0])) := by kernel_rfl

set_option maxHeartbeats 1000000 in
theorem thalves_ok (ao : Option Addr) (n cap : Nat) (m : List UInt8) (w : World) (hn : m.length = n) (h31 : n ≤ 31) (hl : Lies w ao (m.map B)) :
    Calls Tryz.prog 124 #[.slice ao n cap] w fun e w' => ∃ v1 v2, e = .returned (.agg #[v1, v2]) ∧ w'.ownsRow w.heap.size 5 1 v1 n ((leftT m).map B) ∧ w'.ownsRow w.heap.size 5 1 v2 n ((rightT m).map B) ∧ Below w.heap.size w w' := by
  have HN := Lib.hid hn
  have HL := Lib.hid hl
  have HC1 := Lib.hid (show cutOf 0 (fl n) (2 * n) = some (0, n) from by have := cutOf_fl 0 n (2 * n) (by omega) (by omega); rwa [fl_zero] at this)
  have HC2 := Lib.hid (cutOf_fl n n (2 * n) (by omega) (by omega))
  have HE1 := Lib.hid (show ((nibs m).drop 0).take n = leftT m ∧ True from ⟨by unfold leftT; rw [List.drop_zero, hn], trivial⟩)
  have HE2 := Lib.hid (show ((nibs m).drop n).take n = rightT m ∧ True from ⟨by unfold rightT; rw [hn], trivial⟩)
  clear hn hl
  go_enter Tryz.func124, Tryz.ntmps124
  go_wp2_with (refine wpList_var 184 [.slice none 0 0, .slice none 0 0] _ rfl rfl Tryz.zeroTwo rfl ?_)
  intro w1 hb1 hbel1
  have HB := Lib.hid hb1
  have HB0 := Lib.hid hb1
  have HBEL := Lib.hid hbel1
  clear hb1 hbel1
  go_wp2_with fail
  refine (halves_ok ao n cap m 0 (fl n) 0 n _ HN.out (by omega) (HL.out.below HBEL.out) HC1.out).mono ?_
  rintro e w2 ⟨v2, rfl, hown2, hbel2⟩
  rw [HE1.out.1] at hown2
  have HB := Lib.hid (HB.out.below hbel2 HB.out.lt)
  have HBEL := Lib.hid (HBEL.out.trans (hbel2.mono HBEL.out.size))
  have HO1 := Lib.hid hown2
  have HB2s := Lib.hid HBEL.out
  clear hown2 hbel2
  go_wp2_with fail
  refine (halves_ok ao n cap m (fl n) (fl n) n n _ HN.out (by omega) (HL.out.below HBEL.out) HC2.out).mono ?_
  rintro e w3 ⟨v3, rfl, hown3, hbel3⟩
  rw [HE2.out.1] at hown3
  have HB := Lib.hid (HB.out.below hbel3 HB.out.lt)
  have HBEL := Lib.hid (HBEL.out.trans (hbel3.mono HBEL.out.size))
  have HO1 := Lib.hid (own_below HO1.out hbel3)
  have HO2 := Lib.hid hown3
  clear hown3 hbel3
  obtain ⟨a2, c2, rfl, _, _, _⟩ := own_form HO1.out
  obtain ⟨a3, c3, rfl, _, _, _⟩ := own_form HO2.out
  have hs1 : w.heap.size ≤ w1.heap.size := Nat.le_of_lt HB0.out.lt
  have hs2 : w.heap.size ≤ w2.heap.size := HB2s.out.size
  have HT := Lib.hid (show (5 : TypeId) ≠ 184 by decide)
  simp only []
  go_wp2_with (refine HB.out.wstore rfl rfl rfl (cs := [.slice a2 n c2, .slice a3 n c3]) rfl Tryz.rowTwo rfl rfl (by intro v hv; simp at hv; rcases hv with rfl | rfl <;> rfl) ?_)
  intro w4 hb4 ho4
  have hbel4 := below_only HBEL.out ho4 (Nat.le_refl _)
  have ho1 := own_only_ty HO1.out HB.out HT.out ho4
  have ho2 := own_only_ty HO2.out HB.out HT.out ho4
  go_wp2
  exact hb4.result rfl rfl rfl Tryz.rowTwo rfl ⟨_, _, rfl, own_le ho1 hs1, own_le ho2 hs2, hbel4⟩

theorem plusB_length' (l : List (List UInt8)) : (plusB l).length = 16 := foldl_both_length l _ (zeros_length 16)

set_option maxHeartbeats 2000000 in
theorem tflip_ok (kp q p : Nat) (k : Parts) (h : List UInt8) (ao : Option Addr) (n cap : Nat) (m : List UInt8) (w : World) (hk : EKey w kp q p k) (hh : h.length = 16) (hn : m.length = n) (h1 : 1 ≤ n) (h31 : n ≤ 31) (hl : Lies w ao (m.map B)) :
    Calls Tryz.prog 123 #[.pointer (some ⟨kp, 0, none⟩), .agg (h.map B).toArray, .slice ao n cap] w fun e w' => ∃ v, e = .returned v ∧ w'.ownsRow w.heap.size 5 1 v n ((flipT k h m).map B) ∧ Below w.heap.size w w' := by
  have HK := Lib.hid hk
  have HH := Lib.hid hh
  have HHM := Lib.hid (show (h.map B).length = 16 by rw [List.length_map]; exact hh)
  have HN := Lib.hid hn
  have HL := Lib.hid hl
  have HS := Lib.hid (St.start w)
  have f0 : ((n : Int) == 0) = false := by simp; omega
  clear hk hh hn hl
  by_cases h16 : 16 ≤ n
  · have HF := Lib.hid (show flipT k h m = m ∧ True from ⟨by unfold flipT; rw [if_pos (.inr (by rw [HN.out]; exact h16))], trivial⟩)
    rw [HF.out.1]
    go_enter Tryz.func123, Tryz.ntmps123
    go_wp2_with (refine wpList_box 52 _ (h.map B) _ rfl rfl rfl rfl ?_)
    intro w1 hb hbel; have HS := Lib.hid (HS.out.push hb hbel); have hlt1 := hb.lt; clear hb hbel
    go_wp2_with fail
    refine (clone_any ao n cap (m.map B) _ (by rw [List.length_map]; exact HN.out) (by omega) (HL.out.below HS.out.bel) (B_one m)).mono ?_
    rintro e w2 ⟨v2, rfl, hown2, hbel2⟩
    have hbel := HS.out.bel.trans (hbel2.mono HS.out.bel.size)
    have HOWN := Lib.hid (own_le hown2 (Nat.le_of_lt hlt1))
    have HBEL := Lib.hid hbel
    clear hown2 hbel2 hbel
    simp only [id]
    go_wp2
    go_ret
    exact ⟨_, rfl, HOWN.out, HBEL.out⟩
  · have h16' : n < 16 := by omega
    have f1 : decide ((n : Int) ≥ 16) = false := by simp; omega
    obtain ⟨tp, htp⟩ : ∃ tp, tp = topped m := ⟨_, rfl⟩
    obtain ⟨bm, hbm⟩ : ∃ bm, bm = block m := ⟨_, rfl⟩
    obtain ⟨x, hx⟩ : ∃ x, x = eBlk k 0 3 (plusB [tp, h]) := ⟨_, rfl⟩
    have HTP := Lib.hid (show bm.set 0 (or8 (at8 bm 0) 128) = tp ∧ True from ⟨by rw [htp, hbm]; rfl, trivial⟩)
    have HBM := Lib.hid (show block m = bm ∧ True from ⟨hbm.symm, trivial⟩)
    have HX := Lib.hid (show eBlk k 0 3 (plusB [tp, h]) = x ∧ True from ⟨hx.symm, trivial⟩)
    have HF := Lib.hid (show flipT k h m = m.set 0 (xor8 (at8 m 0) (and8 (at8 x 0) 128)) ∧ True from ⟨by rw [flipT_yes (by rw [HN.out]; omega), hx, htp]; rfl, trivial⟩)
    have HBL := Lib.hid (show bm.length = 16 by rw [hbm]; exact block_length m)
    have HBLM := Lib.hid (show (bm.map B).length = 16 by rw [List.length_map, hbm]; exact block_length m)
    have HTL := Lib.hid (show tp.length = 16 by rw [htp]; unfold topped; rw [List.length_set]; exact block_length m)
    have HTLM := Lib.hid (show (tp.map B).length = 16 by rw [List.length_map]; exact HTL.out)
    have HXL := Lib.hid (show x.length = 16 by rw [hx]; exact eBlk_length _ _ _ _)
    have HXLM := Lib.hid (show (x.map B).length = 16 by rw [List.length_map]; exact HXL.out)
    rw [HF.out.1]
    clear htp hbm hx HF
    go_enter Tryz.func123, Tryz.ntmps123
    go_wp2_with (refine wpList_box 52 _ (h.map B) _ rfl rfl rfl rfl ?_)
    intro w1 hb hbel; have HS := Lib.hid (HS.out.push hb hbel); have hlt1 := hb.lt; clear hb hbel
    have hwb := HS.out.bel.size
    go_wp2_with fail
    refine (clone_any ao n cap (m.map B) _ (by rw [List.length_map]; exact HN.out) (by omega) (HL.out.below HS.out.bel) (B_one m)).mono ?_
    rintro e w2 ⟨v2, rfl, hown2, hbel2⟩
    obtain ⟨g, c2, cur, rfl, hg2, hb2, hnc2, hcm2, hcl2, hct2⟩ := own_blk hown2 (by omega)
    have HS := Lib.hid ((HS.out.later hbel2).add hb2)
    have hg1 : w.heap.size < g := by omega
    have hg3 := hb2.lt
    have HCUR := Lib.hid (And.intro hcl2 hct2)
    clear hown2 hbel2 hb2 hcl2 hct2
    simp only [id]
    go_wp2_with fail
    refine (block_ok ao n cap m _ HN.out (HL.out.below HS.out.bel)).mono ?_
    rintro e w3 ⟨rfl, hbel3⟩
    rw [HBM.out.1]
    have HS := Lib.hid (HS.out.later hbel3)
    have hsz3 := hbel3.size
    clear hbel3
    go_wp2_with (refine wpList_var 52 ((zeros 16).map B) _ rfl rfl Tryz.zero16 rfl ?_)
    intro w4 hb hbel; have HS := Lib.hid (HS.out.push hb hbel); have hlt4 := hb.lt; clear hb hbel
    generalize hbb : w.heap.size = bb at *
    generalize w1.heap.size = b1 at *
    generalize w2.heap.size = b2 at *
    generalize w3.heap.size = b3 at *
    have HBB := Lib.hid hbb
    clear hbb
    go_wp2_with (refine (HS.out.get 0 rfl).wstore rfl rfl rfl (cs := bm.map B) rfl Tryz.row16 (by simp [zeros_length]) HBLM.out (oneCell_B _) ?_)
    intro w5 hb5 ho5
    have HS := Lib.hid (HS.out.change 0 hb5 ho5 (by omega) (by simp; omega))
    clear hb5 ho5
    have hc0 := (HS.out.get 0 rfl).cell 0 _ (mapB_at (at8_get (b := bm) (i := 0) (by rw [HBL.out]; omega)))
    go_wp2_with (refine (HS.out.get 0 rfl).wset (v := B (or8 (at8 bm 0) 128)) (i := 0) rfl rfl rfl rfl Tryz.sizeByte rfl rfl (by rw [HBLM.out]; omega) ?_)
    intro w6 hb6 ho6
    rw [mapB_set, HTP.out.1] at hb6
    have HS := Lib.hid (HS.out.change 0 hb6 ho6 (by omega) (by simp; omega))
    clear hb6 ho6 hc0
    go_wp2_with (first | (refine (HS.out.get 0 rfl).wload rfl rfl rfl Tryz.row16 HTLM.out ?_) | (refine (HS.out.get 2 rfl).wload rfl rfl rfl Tryz.row16 HHM.out ?_) | (refine wpList_rows 49 52 16 2 _ [tp.map B, h.map B] rfl rfl rfl Tryz.underlying49 Tryz.zsBlock rfl (by omega) rfl (by omega) (by omega) (by simp [HTL.out, HH.out]) ?_))
    intro w7 hb7 hbel7
    have HR := Lib.hid (show RowsN 16 w7 (some ⟨w6.heap.size, 0, none⟩) [tp, h] from ⟨by simp [HTL.out, HH.out], by have := hb7.lies; simpa using this⟩)
    have HS := Lib.hid (HS.out.later hbel7)
    clear hb7 hbel7
    go_wp2_with fail
    refine (tplus_ok (some ⟨w6.heap.size, 0, none⟩) 2 2 [tp, h] _ rfl (by omega) HR.out).mono ?_
    rintro e w8 ⟨rfl, hbel8⟩
    have HS := Lib.hid (HS.out.later hbel8)
    clear hbel8 HR
    go_wp2_with fail
    refine (e_ok kp q p 0 3 k (plusB [tp, h]) _ (HK.out.later (HS.out.old HBB.out)) (by omega) (by omega) (plusB_length' _)).mono ?_
    rintro e w9 ⟨rfl, hbel9⟩
    rw [HX.out.1]
    have HS := Lib.hid (HS.out.later hbel9)
    clear hbel9
    go_wp2_with (refine wpList_var 52 ((zeros 16).map B) _ rfl rfl Tryz.zero16 rfl ?_)
    intro w10 hb hbel; have hz3 := (HS.out.get 0 rfl).lt; have hz2 := (HS.out.get 1 rfl).lt; have HS := Lib.hid (HS.out.push hb hbel); have hlt10 := hb.lt; clear hb hbel
    generalize w9.heap.size = b9 at *
    go_wp2_with (refine (HS.out.get 0 rfl).wstore rfl rfl rfl (cs := x.map B) rfl Tryz.row16 (by simp [zeros_length]) HXLM.out (oneCell_B _) ?_)
    intro w11 hb11 ho11
    have HS := Lib.hid (HS.out.change 0 hb11 ho11 (by omega) (by simp; omega))
    clear hb11 ho11
    have hcc : cur[0]? = some (B (at8 m 0)) := by
      have h0 : (cur.take n)[0]? = some (B (at8 m 0)) := by rw [HCUR.out.2]; exact mapB_at (at8_get (by rw [HN.out]; omega))
      rw [List.getElem?_take] at h0
      simpa [show 0 < n by omega] using h0
    have hc1 := fun (y : After w11.drew) => ((HS.out.drew.later y.later).get 2 rfl).cell 0 _ hcc
    have hc2 := fun (y : After w11.drew) => ((HS.out.drew.later y.later).get 0 rfl).cell 0 _ (mapB_at (at8_get (b := x) (i := 0) (by rw [HXL.out]; omega)))
    have hcl0 : 0 < cur.length := by rw [HCUR.out.1]; omega
    clear hcc
    go_wp2_with fail
    refine wp_region_R [0, 1, 2, 3, 4, 5, 6, 7, 8] (by kernel_rfl) (by kernel_rfl) ?_
    rintro w12 rfl
    repeat (refine walkR_one rfl rfl (fun K hK => ?_); go_big_quiet_step (fail); refine wpQuiet_nil (hK _ ?_); clear hK K)
    clear hc1 hc2
    refine walkR_free rfl rfl (by rfl) (fun K hK => ?_)
    refine (HS.out.drew.get 2 rfl).opset (v := B (xor8 (at8 m 0) (and8 (at8 x 0) 128))) rfl rfl rfl Tryz.sizeByte rfl rfl hcl0 (fun w13 hb13 ho13 => hK _ _ ?_)
    clear hK K
    have hbel13 := below_only HS.out.drew.bel ho13 (by omega)
    have hown13 := own_of_cur (n := n) hb13 (Nat.le_of_lt hg1) hnc2 hcm2 (by rw [List.length_set]; exact HCUR.out.1)
    rw [List.take_set, HCUR.out.2, mapB_set] at hown13
    have HOWN := Lib.hid hown13
    have HBE := Lib.hid hbel13
    clear hb13 ho13 hbel13 hown13
    go_simp
    refine walkR_nil ?_
    go_wp2
    go_ret
    exact ⟨_, rfl, by rw [HBB.out]; exact HOWN.out, by rw [HBB.out]; exact HBE.out⟩

end Go.Proofs.YtbpghohkhngdfaaGreatDoor
