/-
  Plain facts on float64 numbers that are whole: how they are read, added, compared, and taken back to integers. No program.
-/
import GoSem.Core.Float
import Derived.Laws.FloatArith
namespace Go.Fl
open Ieee

/-- The bits of a whole number. -/
def fl (n : Nat) : Nat := FloatKind.f64.nearest (n : Int)

theorem cut_exact (neg : Bool) (x d : Nat) (h : d ≤ (x * 2 ^ d).log2 + 2) : Toward.even.cut neg (x * 2 ^ d) d = x := by
  unfold Toward.cut
  simp only [Nat.min_eq_left h, Nat.shiftLeft_eq, Nat.one_mul]
  have hp : 0 < 2 ^ d := Nat.two_pow_pos d
  rw [Nat.mul_div_cancel _ hp, Nat.mul_mod_left]
  simp

theorem log2_mul_pow (n K : Nat) (h : n ≠ 0) : (n * 2 ^ K).log2 = n.log2 + K := by
  have hK : 0 < 2 ^ K := Nat.two_pow_pos K
  have h2 : n * 2 ^ K ≠ 0 := by
    have := Nat.mul_pos (Nat.pos_of_ne_zero h) hK
    omega
  refine (Nat.log2_eq_iff h2).2 ⟨?_, ?_⟩
  · rw [Nat.pow_add]; exact Nat.mul_le_mul_right _ (Nat.log2_self_le h)
  · rw [show n.log2 + K + 1 = (n.log2 + 1) + K by omega, Nat.pow_add]
    exact Nat.mul_lt_mul_of_pos_right Nat.lt_log2_self hK

/-- What a whole number's word is, however it is spelt. -/
theorem nearest_whole (n K : Nat) (h0 : n ≠ 0) (h : n < 2 ^ 53) :
    double.nearest false (n * 2 ^ K) (-(K : Int)) = (n.log2 + 1022) * 2 ^ 52 + n * 2 ^ (52 - n.log2) := by
  have hL : n.log2 ≤ 52 := by
    have := (Nat.log2_lt h0).2 h
    omega
  have hK : 0 < 2 ^ K := Nat.two_pow_pos K
  have h2 : n * 2 ^ K ≠ 0 := by
    have := Nat.mul_pos (Nat.pos_of_ne_zero h0) hK
    omega
  have hlow : 2 ^ 52 ≤ n * 2 ^ (52 - n.log2) := by
    have h1 : 2 ^ n.log2 * 2 ^ (52 - n.log2) ≤ n * 2 ^ (52 - n.log2) := Nat.mul_le_mul_right _ (Nat.log2_self_le h0)
    rw [← Nat.pow_add, show n.log2 + (52 - n.log2) = 52 by omega] at h1
    exact h1
  have hup : n * 2 ^ (52 - n.log2) < 2 ^ 53 := by
    have h1 : n * 2 ^ (52 - n.log2) < 2 ^ (n.log2 + 1) * 2 ^ (52 - n.log2) := Nat.mul_lt_mul_of_pos_right Nat.lt_log2_self (Nat.two_pow_pos _)
    rw [← Nat.pow_add, show n.log2 + 1 + (52 - n.log2) = 53 by omega] at h1
    exact h1
  unfold Format.nearest
  rw [if_neg h2]
  have hlp : double.leastPlace = -1074 := by decide
  have hlast : max (-(K : Int) + ((n * 2 ^ K).log2 : Nat) - (double.fractionBits : Nat)) double.leastPlace = (n.log2 : Int) - 52 := by
    rw [log2_mul_pow n K h0, hlp]
    show max (-(K : Int) + ((n.log2 + K : Nat) : Int) - 52) (-1074) = _
    omega
  simp only [hlast]
  have hkept : Toward.even.cut false ((n * 2 ^ K) <<< (-(K : Int) - ((n.log2 : Int) - 52)).toNat) ((n.log2 : Int) - 52 - -(K : Int)).toNat = n * 2 ^ (52 - n.log2) := by
    rw [Nat.shiftLeft_eq]
    by_cases hc : K ≤ 52 - n.log2
    · rw [show ((n.log2 : Int) - 52 - -(K : Int)).toNat = 0 by omega, show (-(K : Int) - ((n.log2 : Int) - 52)).toNat = 52 - n.log2 - K by omega]
      rw [Nat.mul_assoc, ← Nat.pow_add, show K + (52 - n.log2 - K) = 52 - n.log2 by omega]
      have := cut_exact false (n * 2 ^ (52 - n.log2)) 0 (by omega)
      simpa using this
    · rw [show (-(K : Int) - ((n.log2 : Int) - 52)).toNat = 0 by omega, show ((n.log2 : Int) - 52 - -(K : Int)).toNat = K - (52 - n.log2) by omega]
      have e : n * 2 ^ K * 2 ^ 0 = (n * 2 ^ (52 - n.log2)) * 2 ^ (K - (52 - n.log2)) := by
        rw [Nat.pow_zero, Nat.mul_one, Nat.mul_assoc, ← Nat.pow_add, show 52 - n.log2 + (K - (52 - n.log2)) = K by omega]
      rw [e]
      refine cut_exact _ _ _ ?_
      rw [← e, Nat.pow_zero, Nat.mul_one, log2_mul_pow n K h0]
      omega
  rw [hkept, hlp]
  unfold Format.word
  simp only [Bool.false_eq_true, if_false]
  have hinf : double.infRung = 2047 * 2 ^ 52 := by decide
  have hb : double.binade = 2 ^ 52 := by decide
  rw [hinf, hb, show ((n.log2 : Int) - 52 - -1074).toNat = n.log2 + 1022 by omega]
  have h53 : (2 : Nat) ^ 53 = 2 * 2 ^ 52 := by decide
  rw [h53] at hup
  generalize (2 : Nat) ^ 52 = p at *
  generalize n * 2 ^ (52 - n.log2) = m at *
  have : (n.log2 + 1022) * p ≤ 1074 * p := Nat.mul_le_mul_right _ (by omega)
  rw [Nat.min_eq_left]
  omega

theorem nearest_nought (K : Int) : double.nearest false 0 K = 0 := by
  unfold Format.nearest
  rfl

theorem fl_eq (n : Nat) : fl n = double.nearest false n 0 := by
  unfold fl FloatKind.nearest FloatKind.encode Format.write FloatKind.format
  simp only [Int.natAbs_natCast]
  have : (decide ((n : Int) < 0)) = false := by simp
  rw [this]

theorem fl_whole (n : Nat) (h0 : n ≠ 0) (h : n < 2 ^ 53) : fl n = (n.log2 + 1022) * 2 ^ 52 + n * 2 ^ (52 - n.log2) := by
  have := nearest_whole n 0 h0 h
  rw [fl_eq]
  simpa using this

theorem write_whole (n K : Nat) (h : n < 2 ^ 53) : double.write (.number false (n * 2 ^ K) (-(K : Int))) = fl n := by
  by_cases h0 : n = 0
  · subst h0
    show double.nearest false (0 * 2 ^ K) _ = _
    rw [Nat.zero_mul, nearest_nought]; rfl
  · rw [fl_whole n h0 h]
    exact nearest_whole n K h0 h

theorem zero_mul_pow (k : Nat) : 0 * 2 ^ k = 0 := Nat.zero_mul _

theorem read_zero : double.read 0 = .number false 0 (-((1074 : Nat) : Int)) := by decide

/-- Read, a whole number is that number, however it is spelt. -/
theorem read_fl (n : Nat) (h : n < 2 ^ 53) : ∃ k : Nat, double.read (fl n) = .number false (n * 2 ^ k) (-(k : Int)) := by
  by_cases h0 : n = 0
  · subst h0
    have e : fl 0 = 0 := by rw [fl_eq]; exact nearest_nought _
    obtain ⟨k, hk⟩ : ∃ k : Nat, k = 1074 := ⟨_, rfl⟩
    refine ⟨k, ?_⟩
    rw [e, zero_mul_pow, hk]
    exact read_zero
  · refine ⟨52 - n.log2, ?_⟩
    have hL : n.log2 ≤ 52 := by
      have := (Nat.log2_lt h0).2 h
      omega
    have hlow : 2 ^ 52 ≤ n * 2 ^ (52 - n.log2) := by
      have h1 : 2 ^ n.log2 * 2 ^ (52 - n.log2) ≤ n * 2 ^ (52 - n.log2) := Nat.mul_le_mul_right _ (Nat.log2_self_le h0)
      rw [← Nat.pow_add, show n.log2 + (52 - n.log2) = 52 by omega] at h1
      exact h1
    have hup : n * 2 ^ (52 - n.log2) < 2 ^ 53 := by
      have h1 : n * 2 ^ (52 - n.log2) < 2 ^ (n.log2 + 1) * 2 ^ (52 - n.log2) := Nat.mul_lt_mul_of_pos_right Nat.lt_log2_self (Nat.two_pow_pos _)
      rw [← Nat.pow_add, show n.log2 + 1 + (52 - n.log2) = 53 by omega] at h1
      exact h1
    rw [fl_whole n h0 h]
    generalize hm : n * 2 ^ (52 - n.log2) = m at *
    have hb : double.binade = 2 ^ 52 := by decide
    have hs : double.signWeight = 2 ^ 63 := by decide
    have hinf : double.infRung = 2047 * 2 ^ 52 := by decide
    have hlp : double.leastPlace = -1074 := by decide
    have hs2 : (2 : Nat) ^ 63 = 2048 * 2 ^ 52 := by decide
    have h53 : (2 : Nat) ^ 53 = 2 * 2 ^ 52 := by decide
    have hp : 0 < (2 : Nat) ^ 52 := by decide
    unfold Format.read
    rw [hb, hs, hinf, hlp, hs2]
    rw [h53] at hup
    clear hm hb hs hinf hlp hs2 h53 h
    generalize (2 : Nat) ^ 52 = p at *
    have hle : (n.log2 + 1022) * p ≤ 1074 * p := Nat.mul_le_mul_right _ (by omega)
    have hge : 1022 * p ≤ (n.log2 + 1022) * p := Nat.mul_le_mul_right _ (by omega)
    have e1 : ((n.log2 + 1022) * p + m) / (2048 * p) = 0 := by
      rw [Nat.div_eq_zero_iff]; right
      omega
    have e2 : ((n.log2 + 1022) * p + m) % (2048 * p) = (n.log2 + 1022) * p + m := Nat.mod_eq_of_lt (by omega)
    simp only [e1, e2]
    rw [if_neg (by omega), if_pos (by omega)]
    have e6 : m = p * 1 + (m - p) := by omega
    have e3 : ((n.log2 + 1022) * p + m) / p = n.log2 + 1023 := by
      rw [Nat.mul_comm, Nat.mul_add_div hp, e6, Nat.mul_add_div hp, Nat.div_eq_of_lt (by omega)]
    have e4 : ((n.log2 + 1022) * p + m) % p = m - p := by
      rw [Nat.mul_comm, Nat.mul_add_mod, e6, Nat.mul_add_mod, Nat.mod_eq_of_lt (by omega)]
      omega
    rw [e3, e4]
    have e5 : p + (m - p) = m := by omega
    rw [e5]
    have e7 : (-1074 : Int) + ((n.log2 + 1023 - 1 : Nat) : Int) = -((52 - n.log2 : Nat) : Int) := by omega
    rw [e7]
    rfl

theorem fl_zero : fl 0 = 0 := by rw [fl_eq]; exact nearest_nought _

theorem signed_pos (m up : Nat) : signed false m up = ((m * 2 ^ up : Nat) : Int) := by
  unfold signed; simp [Nat.shiftLeft_eq]

/-- A number of the sign +, as so many units of a small place. -/
theorem scale (n k j : Nat) : ∃ d : Nat, (-(k : Int) - min (-(k : Int)) (-(j : Int))).toNat = d ∧ n * 2 ^ k * 2 ^ d = n * 2 ^ max k j := by
  refine ⟨max k j - k, by omega, ?_⟩
  rw [Nat.mul_assoc, ← Nat.pow_add, show k + (max k j - k) = max k j by omega]

/-- A sum of whole numbers is exact. -/
theorem add_fl (a b : Nat) (ha : a < 2 ^ 53) (hb : b < 2 ^ 53) (h : a + b < 2 ^ 53) : floatBits .add .f64 (fl a) (fl b) = some (fl (a + b)) := by
  obtain ⟨k, hk⟩ := read_fl a ha
  obtain ⟨j, hj⟩ := read_fl b hb
  show ((double.read (fl a)).sum (double.read (fl b))).map double.write = _
  rw [hk, hj]
  simp only [Datum.sum]
  obtain ⟨d, hd, ed⟩ := scale a k j
  obtain ⟨c, hc, ec⟩ := scale b j k
  rw [Int.min_comm] at hc
  rw [hd, hc, signed_pos, signed_pos, ed, ec, Nat.max_comm j k]
  have e1 : ((a * 2 ^ max k j : Nat) : Int) + ((b * 2 ^ max k j : Nat) : Int) = (((a + b) * 2 ^ max k j : Nat) : Int) := by
    rw [Nat.add_mul]; omega
  rw [e1]
  have e2 : min (-(k : Int)) (-(j : Int)) = -((max k j : Nat) : Int) := by omega
  rw [e2]
  have hw := write_whole (a + b) (max k j) h
  generalize (a + b) * 2 ^ max k j = m at *
  have e3 : (if (m : Int) = 0 then (false && false) else decide ((m : Int) < 0)) = false := by
    split
    · rfl
    · simp
  rw [e3, Int.natAbs_natCast]
  simp only [Option.map_some, hw]

/-- Whole numbers are compared as they are. -/
theorem order_fl (a b : Nat) (ha : a < 2 ^ 53) (hb : b < 2 ^ 53) : double.order (fl a) (fl b) = some (compare a b) := by
  obtain ⟨k, hk⟩ := read_fl a ha
  obtain ⟨j, hj⟩ := read_fl b hb
  unfold Format.order
  rw [hk, hj]
  simp only [Datum.order]
  obtain ⟨d, hd, ed⟩ := scale a k j
  obtain ⟨c, hc, ec⟩ := scale b j k
  rw [Int.min_comm] at hc
  rw [hd, hc, signed_pos, signed_pos, ed, ec, Nat.max_comm j k]
  have hp : 0 < 2 ^ max k j := Nat.two_pow_pos _
  generalize 2 ^ max k j = p at *
  congr 1
  rcases Nat.lt_trichotomy a b with hlt | rfl | hgt
  · rw [Nat.compare_eq_lt.2 hlt]
    refine Int.compare_eq_lt.2 ?_
    have := Nat.mul_lt_mul_of_pos_right hlt hp
    omega
  · rw [Nat.compare_eq_eq.2 rfl]
    exact Int.compare_eq_eq.2 rfl
  · rw [Nat.compare_eq_gt.2 hgt]
    refine Int.compare_eq_gt.2 ?_
    have := Nat.mul_lt_mul_of_pos_right hgt hp
    omega

theorem cut_zero (neg : Bool) (n d : Nat) : Toward.zero.cut neg n d = n / 2 ^ d := by
  unfold Toward.cut
  simp only [Bool.toNat_false, Nat.add_zero, Nat.shiftLeft_eq, Nat.one_mul]
  by_cases h : d ≤ n.log2 + 2
  · rw [Nat.min_eq_left h]
  · rw [Nat.min_eq_right (by omega)]
    have h1 : n < 2 ^ (n.log2 + 2) := Nat.lt_of_lt_of_le Nat.lt_log2_self (Nat.pow_le_pow_right (by decide) (by omega))
    have h2 : n < 2 ^ d := Nat.lt_of_lt_of_le h1 (Nat.pow_le_pow_right (by decide) (by omega))
    rw [Nat.div_eq_of_lt h1, Nat.div_eq_of_lt h2]

/-- Taken to an integer, a whole number is that integer. -/
theorem toInt_fl (a : Nat) (ha : a < 2 ^ 53) : floatToIntVal .f64 (fl a) .i64 = some (a : Int) := by
  obtain ⟨k, hk⟩ := read_fl a ha
  unfold floatToIntVal
  show (match (double.read (fl a)).toInt .zero with | some n => _ | none => _) = _
  rw [hk]
  have e : (Datum.number false (a * 2 ^ k) (-(k : Int))).toInt .zero = some (a : Int) := by
    unfold Datum.toInt Datum.integral
    simp only
    rw [show (-(k : Int)).toNat = 0 by omega, show (-(-(k : Int))).toNat = k by omega, Nat.shiftLeft_eq, Nat.pow_zero, Nat.mul_one, cut_zero, Nat.mul_div_cancel _ (Nat.two_pow_pos k), signed_pos]
    simp
  rw [e]
  simp only
  rw [if_pos]
  constructor
  · show (-9223372036854775808 : Int) ≤ a
    omega
  · show (a : Int) ≤ 9223372036854775807
    have : (2 : Nat) ^ 53 = 9007199254740992 := by decide
    omega

/-- What any number stands to whole ones: as V to j * D. -/
theorem number_order (x : Nat) (s : Bool) (m : Nat) (e : Int) (hx : double.read x = .number s m e) :
    ∃ (V : Int) (D : Nat), 0 < D ∧ (∀ j, j < 2 ^ 53 → double.order x (fl j) = some (compare V ((j * D : Nat) : Int)) ∧ double.order (fl j) x = some (compare ((j * D : Nat) : Int) V)) ∧
      (0 ≤ V → (double.read x).toInt .zero = some (V / (D : Int))) := by
  by_cases he : 0 ≤ e
  · obtain ⟨q, rfl⟩ := Int.eq_ofNat_of_zero_le he
    refine ⟨signed s m q, 1, by decide, ?_, ?_⟩
    · intro j hj
      obtain ⟨k, hk⟩ := read_fl j hj
      have hp : 0 < 2 ^ k := Nat.two_pow_pos k
      have e0 : min ((q : Nat) : Int) (-(k : Int)) = -(k : Int) := by omega
      have e0' : min (-(k : Int)) ((q : Nat) : Int) = -(k : Int) := by omega
      have e1 : (((q : Nat) : Int) - -(k : Int)).toNat = q + k := by omega
      have e2 : (-(k : Int) - -(k : Int)).toNat = 0 := by omega
      have e3 : signed s m (q + k) = signed s m q * ((2 ^ k : Nat) : Int) := by
        unfold signed
        rw [Nat.shiftLeft_add, Nat.shiftLeft_eq (m <<< q) k]
        cases s <;> simp [Int.neg_mul]
      have hc : ∀ a b : Int, compare (a * ((2 ^ k : Nat) : Int)) (b * ((2 ^ k : Nat) : Int)) = compare a b := by
        intro a b
        have hp' : (0 : Int) < ((2 ^ k : Nat) : Int) := by omega
        generalize ((2 ^ k : Nat) : Int) = p at *
        rcases Int.lt_trichotomy a b with h | rfl | h
        · rw [Int.compare_eq_lt.2 h]; exact Int.compare_eq_lt.2 (Int.mul_lt_mul_of_pos_right h hp')
        · exact (Int.compare_eq_eq.2 rfl).trans (Int.compare_eq_eq.2 rfl).symm
        · rw [Int.compare_eq_gt.2 h]; exact Int.compare_eq_gt.2 (Int.mul_lt_mul_of_pos_right h hp')
      unfold Format.order
      rw [hx, hk]
      simp only [Datum.order]
      rw [e0, e0', e1, e2, signed_pos, e3, Nat.pow_zero, Nat.mul_one, Nat.mul_one, Int.natCast_mul, hc, hc]
      exact ⟨rfl, rfl⟩
    · intro hV
      rw [hx]
      unfold Datum.toInt Datum.integral
      simp only
      rw [show (((q : Nat) : Int)).toNat = q by omega, show (-((q : Nat) : Int)).toNat = 0 by omega, cut_zero, Nat.pow_zero, Nat.div_one]
      have : signed s (m <<< q) 0 = signed s m q := by unfold signed; simp
      rw [this]; simp
  · obtain ⟨q, hq⟩ := Int.eq_ofNat_of_zero_le (show 0 ≤ -e by omega)
    obtain rfl : e = -(q : Int) := by omega
    refine ⟨signed s m 0, 2 ^ q, Nat.two_pow_pos q, ?_, ?_⟩
    · intro j hj
      obtain ⟨k, hk⟩ := read_fl j hj
      have e0 : min (-(q : Int)) (-(k : Int)) = -((max q k : Nat) : Int) := by omega
      have e0' : min (-(k : Int)) (-(q : Int)) = -((max q k : Nat) : Int) := by omega
      have e1 : (-(q : Int) - -((max q k : Nat) : Int)).toNat = max q k - q := by omega
      have e2 : (-(k : Int) - -((max q k : Nat) : Int)).toNat = max q k - k := by omega
      have e3 : signed s m (max q k - q) = signed s m 0 * ((2 ^ (max q k - q) : Nat) : Int) := by
        unfold signed
        rw [Nat.shiftLeft_eq]
        cases s <;> simp [Int.neg_mul]
      have e4 : j * 2 ^ k * 2 ^ (max q k - k) = (j * 2 ^ q) * 2 ^ (max q k - q) := by
        rw [Nat.mul_assoc, Nat.mul_assoc, ← Nat.pow_add, ← Nat.pow_add]
        congr 2; omega
      have hp : 0 < 2 ^ (max q k - q) := Nat.two_pow_pos _
      have hc : ∀ a b : Int, compare (a * ((2 ^ (max q k - q) : Nat) : Int)) (b * ((2 ^ (max q k - q) : Nat) : Int)) = compare a b := by
        intro a b
        have hp' : (0 : Int) < ((2 ^ (max q k - q) : Nat) : Int) := by omega
        generalize ((2 ^ (max q k - q) : Nat) : Int) = p at *
        rcases Int.lt_trichotomy a b with h | rfl | h
        · rw [Int.compare_eq_lt.2 h]; exact Int.compare_eq_lt.2 (Int.mul_lt_mul_of_pos_right h hp')
        · exact (Int.compare_eq_eq.2 rfl).trans (Int.compare_eq_eq.2 rfl).symm
        · rw [Int.compare_eq_gt.2 h]; exact Int.compare_eq_gt.2 (Int.mul_lt_mul_of_pos_right h hp')
      unfold Format.order
      rw [hx, hk]
      simp only [Datum.order]
      rw [e0, e0', e1, e2, signed_pos, e3, e4, Int.natCast_mul (j * 2 ^ q), hc, hc]
      exact ⟨rfl, rfl⟩
    · intro hV
      rw [hx]
      unfold Datum.toInt Datum.integral
      simp only
      rw [show (-(q : Int)).toNat = 0 by omega, show (-(-(q : Int))).toNat = q by omega, cut_zero, Nat.shiftLeft_eq, Nat.pow_zero, Nat.mul_one]
      cases s with
      | false => simp [signed]
      | true =>
        have : m = 0 := by
          unfold signed at hV
          simp at hV
          omega
        subst this
        simp [signed]

/-- The whole number up to 'most' that a float is. -/
def wholeOf (x most : Nat) : Option Nat := (List.range (most + 1)).find? fun i => double.order (fl i) x == some .eq

/-- The three tests of a number: is it at least 0, at most 'most', and is it what its integer is. -/
theorem whole_yes (x most i : Nat) (hm : most < 2 ^ 53) (h : wholeOf x most = some i) :
    i ≤ most ∧ (double.order x 0 == some .gt || double.order x 0 == some .eq) = true ∧ (double.order x (fl most) == some .lt || double.order x (fl most) == some .eq) = true ∧
      floatToIntVal .f64 x .i64 = some (i : Int) ∧ (double.order (fl i) x == some .eq) = true := by
  have h1 := List.find?_some h
  have h2 := List.mem_of_find?_eq_some h
  simp only [List.mem_range] at h2
  have hi : i < 2 ^ 53 := by omega
  refine ⟨by omega, ?_⟩
  have h1' : double.order (fl i) x = some .eq := by simpa using h1
  cases hx : double.read x with
  | nan n t =>
    obtain ⟨k, hk⟩ := read_fl i hi
    unfold Format.order at h1'
    rw [hx, hk] at h1'
    simp [Datum.order] at h1'
  | infinity n =>
    obtain ⟨k, hk⟩ := read_fl i hi
    unfold Format.order at h1'
    rw [hx, hk] at h1'
    cases n <;> simp [Datum.order] at h1'
  | number s m e =>
    obtain ⟨V, D, hD, ho, ht⟩ := number_order x s m e hx
    rw [(ho i hi).2] at h1'
    have hV : ((i * D : Nat) : Int) = V := by
      have : compare ((i * D : Nat) : Int) V = .eq := by simpa using h1'
      exact Int.compare_eq_eq.1 this
    subst hV
    have h0 := (ho 0 (by decide)).1
    rw [fl_zero, Nat.zero_mul] at h0
    have hM := (ho most hm).1
    have hle : i * D ≤ most * D := Nat.mul_le_mul_right _ (by omega)
    refine ⟨?_, ?_, ?_, h1⟩
    · rw [h0]
      rcases Nat.eq_zero_or_pos (i * D) with hz | hz
      · rw [hz, Int.compare_eq_eq.2 rfl]; rfl
      · rw [Int.compare_eq_gt.2 (by omega)]; rfl
    · rw [hM]
      rcases Nat.lt_or_eq_of_le hle with hz | hz
      · rw [Int.compare_eq_lt.2 (by omega)]; rfl
      · rw [hz, Int.compare_eq_eq.2 rfl]; rfl
    · have hti := ht (by omega)
      have e : ((i * D : Nat) : Int) / (D : Int) = (i : Int) := by
        rw [Int.natCast_mul]; exact Int.mul_ediv_cancel _ (by omega)
      rw [e] at hti
      unfold floatToIntVal
      show (match (double.read x).toInt .zero with | some n => _ | none => _) = _
      rw [hti]
      simp only
      rw [if_pos]
      constructor
      · show (-9223372036854775808 : Int) ≤ i
        omega
      · show (i : Int) ≤ 9223372036854775807
        have : (2 : Nat) ^ 53 = 9007199254740992 := by decide
        omega

theorem whole_no (x most : Nat) (hm : most < 2 ^ 53) (h : wholeOf x most = none) :
    (double.order x 0 == some .gt || double.order x 0 == some .eq) = false ∨ (double.order x (fl most) == some .lt || double.order x (fl most) == some .eq) = false ∨
      ((double.order x 0 == some .gt || double.order x 0 == some .eq) = true ∧ (double.order x (fl most) == some .lt || double.order x (fl most) == some .eq) = true ∧ ∃ i : Nat, i ≤ most ∧ floatToIntVal .f64 x .i64 = some (i : Int) ∧ (double.order (fl i) x == some .eq) = false) := by
  have hall : ∀ i, i < most + 1 → (double.order (fl i) x == some .eq) = false := by
    intro i hi
    have := List.find?_eq_none.1 h i (List.mem_range.2 hi)
    simpa using this
  by_cases hg : (double.order x 0 == some .gt || double.order x 0 == some .eq) = true
  case neg => exact .inl (by simpa using hg)
  by_cases hl : (double.order x (fl most) == some .lt || double.order x (fl most) == some .eq) = true
  case neg => exact .inr (.inl (by simpa using hl))
  refine .inr (.inr ⟨hg, hl, ?_⟩)
  have g0 := read_zero
  cases hx : double.read x with
  | nan n t =>
    unfold Format.order at hg
    rw [hx, g0] at hg
    simp [Datum.order] at hg
  | infinity n =>
    obtain ⟨k, hk⟩ := read_fl most hm
    unfold Format.order at hg hl
    rw [hx, g0] at hg
    rw [hx, hk] at hl
    cases n <;> simp [Datum.order] at hg hl
  | number s m e =>
    obtain ⟨V, D, hD, ho, ht⟩ := number_order x s m e hx
    have h0 := (ho 0 (by decide)).1
    rw [fl_zero, Nat.zero_mul] at h0
    have hM := (ho most hm).1
    rw [h0] at hg
    rw [hM] at hl
    have hV0 : 0 ≤ V := by
      rcases Int.lt_trichotomy V 0 with hlt | heq | hgt
      · rw [show ((0 : Nat) : Int) = 0 from rfl, Int.compare_eq_lt.2 hlt] at hg; simp at hg
      · omega
      · omega
    have hVm : V ≤ ((most * D : Nat) : Int) := by
      rcases Int.lt_trichotomy V ((most * D : Nat) : Int) with hlt | heq | hgt
      · omega
      · omega
      · rw [Int.compare_eq_gt.2 hgt] at hl; simp at hl
    obtain ⟨v, rfl⟩ := Int.eq_ofNat_of_zero_le hV0
    have hti := ht hV0
    have e1 : ((v : Nat) : Int) / (D : Int) = ((v / D : Nat) : Int) := by simp
    rw [e1] at hti
    have hle : v / D ≤ most := by
      have h3 : v ≤ most * D := by omega
      exact (Nat.div_le_iff_le_mul_add_pred hD).2 (by rw [Nat.mul_comm]; omega)
    refine ⟨v / D, hle, ?_, hall _ (by omega)⟩
    generalize hvd : v / D = u at *
    unfold floatToIntVal
    show (match (double.read x).toInt .zero with | some n => _ | none => _) = _
    rw [hti]
    simp only
    rw [if_pos]
    constructor
    · show (-9223372036854775808 : Int) ≤ (u : Int)
      omega
    · show (u : Int) ≤ 9223372036854775807
      have : (2 : Nat) ^ 53 = 9007199254740992 := by decide
      omega

theorem wholeOf_fl (n most : Nat) (hm : most < 2 ^ 53) : wholeOf (fl n) most = if n ≤ most then some n else wholeOf (fl n) most := by
  by_cases h : n ≤ most
  · rw [if_pos h]
    unfold wholeOf
    rw [List.find?_range_eq_some]
    refine ⟨by rw [order_fl n n (by omega) (by omega), Nat.compare_eq_eq.2 rfl]; rfl, List.mem_range.2 (by omega), ?_⟩
    intro j hj
    rw [order_fl j n (by omega) (by omega), Nat.compare_eq_lt.2 hj]
    rfl
  · rw [if_neg h]

/-- The place and the number of a cut of so many things. -/
def cutOf (re im many : Nat) : Option (Nat × Nat) :=
  match wholeOf re many with
  | none => none
  | some a =>
    match wholeOf im many with
    | none => none
    | some n => if a + n ≤ many then some (a, n) else none

theorem cutOf_some {re im many a n : Nat} (h : cutOf re im many = some (a, n)) : wholeOf re many = some a ∧ wholeOf im many = some n ∧ a + n ≤ many := by
  unfold cutOf at h
  split at h
  · cases h
  · split at h
    · cases h
    · split at h
      · cases h; exact ⟨by assumption, by assumption, by assumption⟩
      · cases h

theorem cutOf_none {re im many : Nat} (h : cutOf re im many = none) : wholeOf re many = none ∨ (∃ a, wholeOf re many = some a ∧ wholeOf im many = none) ∨ ∃ a n, wholeOf re many = some a ∧ wholeOf im many = some n ∧ many < a + n := by
  unfold cutOf at h
  split at h
  · exact .inl (by assumption)
  · split at h
    · exact .inr (.inl ⟨_, by assumption, by assumption⟩)
    · split at h
      · cases h
      · exact .inr (.inr ⟨_, _, by assumption, by assumption, by omega⟩)

theorem cutOf_fl (a n many : Nat) (hm : many < 2 ^ 53) (h : a + n ≤ many) : cutOf (fl a) (fl n) many = some (a, n) := by
  unfold cutOf
  rw [wholeOf_fl a many hm, wholeOf_fl n many hm, if_pos (by omega), if_pos (by omega)]
  simp [h]

theorem wholeOf_none_of (x most : Nat) (h : ∀ j, j < most + 1 → (double.order (fl j) x == some .eq) = false) : wholeOf x most = none := by
  unfold wholeOf
  rw [List.find?_eq_none]
  intro i hi
  rw [h i (by simpa using hi)]
  simp

theorem wholeOf_some_of (x most k : Nat) (hk : k ≤ most) (h : ∀ j, j < k → (double.order (fl j) x == some .eq) = false) (he : (double.order (fl k) x == some .eq) = true) : wholeOf x most = some k := by
  unfold wholeOf
  rw [List.find?_range_eq_some]
  refine ⟨he, List.mem_range.2 (by omega), ?_⟩
  intro j hj
  rw [h j hj]; rfl

end Go.Fl
