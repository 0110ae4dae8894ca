/-
  More plain laws of a message's parts: they stand side by side; 32 bytes more are a pair more. No program.
-/
import Derived.Test.YtkgckhmfhpnoaaaPartsPlain
namespace Go.CutP
open Go.Fl

/-- 32 bytes more: a pair more at the front, all others moved. -/
def sh (L : List Part) : List Part := (4, 0, 16) :: (5, 16, 16) :: L.map fun p => (p.1, p.2.1 + 32, p.2.2)

theorem tot_sh (L : List Part) : tot (sh L) = tot L + 32 := by
  rcases List.eq_nil_or_concat L with rfl | ⟨M, p, rfl⟩
  · rfl
  · rw [List.concat_eq_append]
    have e : sh (M ++ [p]) = ((4, 0, 16) :: (5, 16, 16) :: M.map fun p => (p.1, p.2.1 + 32, p.2.2)) ++ [(p.1, p.2.1 + 32, p.2.2)] := by simp [sh]
    rw [e]
    simp only [tot, List.getLast?_append, List.getLast?_singleton, Option.some_or, ends]
    omega
theorem add_sh (L : List Part) (k n : Nat) : add (sh L) k n = sh (add L k n) := by
  have h := tot_sh L
  unfold add
  rw [h]
  simp [sh]
theorem pairs_sh (p : Nat) (L : List Part) : pairs p (sh L) = sh (pairs p L) := by
  induction p generalizing L with
  | zero => rfl
  | succ p ih => rw [pairs, pairs, add_sh, add_sh, ih]
theorem rest_sh (d : Nat) (L : List Part) : rest d (sh L) = sh (rest d L) := by
  unfold rest
  split
  · rfl
  · split
    · rw [add_sh]
    · rw [add_sh, add_sh]
theorem longL_more (n : Nat) (h : 32 ≤ n) : longL (n + 32) = sh (longL n) := by
  unfold longL
  have e1 : (n + 32 - 32) % 32 = (n - 32) % 32 := by omega
  have e2 : (n + 32 - 32) / 32 = (n - 32) / 32 + 1 := by omega
  have e3 : pairs ((n - 32) / 32 + 1) [] = sh (pairs ((n - 32) / 32) []) := by rw [← pairs_sh]; rfl
  rw [e1, e2, e3, rest_sh, add_sh, add_sh]
theorem sh_length (L : List Part) : (sh L).length = L.length + 2 := by simp [sh]
theorem sh_at (L : List Part) (i : Nat) (p : Part) (h : L[i]? = some p) : (sh L)[i + 2]? = some (p.1, p.2.1 + 32, p.2.2) := by
  simp [sh, h]

theorem long_len (n : Nat) : (longL n).length ≤ n + 4 := by
  unfold longL
  have h : (rest ((n - 32) % 32) (pairs ((n - 32) / 32) [])).length ≤ 2 * ((n - 32) / 32) + 2 := by
    unfold rest
    split
    · rw [pairs_length]; simp
    · split
      · rw [add_length, pairs_length]; simp
      · rw [add_length, add_length, pairs_length]; simp
  rw [add_length, add_length]
  omega

/-- The parts stand side by side. -/
def sumL (L : List Part) : Nat := (L.map fun p => p.2.2).sum
def Contig (L : List Part) : Prop := ∀ i p, L[i]? = some p → p.2.1 = sumL (L.take i)

theorem sumL_append (L M : List Part) : sumL (L ++ M) = sumL L + sumL M := by simp [sumL]
theorem contig_tot (L : List Part) (h : Contig L) : tot L = sumL L := by
  rcases List.eq_nil_or_concat L with rfl | ⟨M, p, rfl⟩
  · rfl
  · rw [List.concat_eq_append] at *
    have := h M.length p (by simp)
    rw [List.take_left] at this
    rw [sumL_append]
    simp [tot, ends, this, sumL]
theorem contig_add (L : List Part) (k n : Nat) (h : Contig L) : Contig (add L k n) := by
  intro i p hp
  unfold add at *
  rcases Nat.lt_trichotomy i L.length with hlt | rfl | hgt
  · rw [List.getElem?_append_left hlt] at hp
    rw [List.take_append_of_le_length (by omega)]
    exact h i p hp
  · rw [List.getElem?_append_right (by omega)] at hp
    simp at hp
    subst hp
    rw [List.take_left]
    exact contig_tot L h
  · rw [List.getElem?_eq_none (by simp; omega)] at hp
    cases hp
theorem sumL_add (L : List Part) (k n : Nat) : sumL (add L k n) = sumL L + n := by
  unfold add; rw [sumL_append]; simp [sumL]

def isFront (p : Part) : Bool := p.1 == 10
theorem contig_pairs (p : Nat) (L : List Part) (h : Contig L) (hf : L.any isFront = false) : Contig (pairs p L) ∧ sumL (pairs p L) = sumL L + 32 * p ∧ (pairs p L).any isFront = false := by
  induction p generalizing L with
  | zero => exact ⟨h, rfl, hf⟩
  | succ p ih =>
    rw [pairs]
    obtain ⟨h1, h2, h3⟩ := ih (add (add L 4 16) 5 16) (contig_add _ _ _ (contig_add _ _ _ h)) (by simp only [add, List.any_append, hf]; rfl)
    exact ⟨h1, by rw [h2, sumL_add, sumL_add]; omega, h3⟩
theorem contig_rest (d : Nat) (L : List Part) (h : Contig L) (hf : L.any isFront = false) : Contig (rest d L) ∧ sumL (rest d L) = sumL L + d ∧ (rest d L).any isFront = false := by
  unfold rest
  split
  · exact ⟨h, by omega, hf⟩
  · split
    · exact ⟨contig_add _ _ _ h, by rw [sumL_add], by simp only [add, List.any_append, hf]; rfl⟩
    · exact ⟨contig_add _ _ _ (contig_add _ _ _ h), by rw [sumL_add, sumL_add]; omega, by simp only [add, List.any_append, hf]; rfl⟩
theorem contig_long (n : Nat) (h : 32 ≤ n) : Contig (longL n) ∧ sumL (longL n) = n ∧ (longL n).any isFront = false := by
  unfold longL
  obtain ⟨h1, h2, h3⟩ := contig_pairs ((n - 32) / 32) [] (by intro i p hp; cases hp) rfl
  obtain ⟨k1, k2, k3⟩ := contig_rest ((n - 32) % 32) _ h1 h3
  refine ⟨contig_add _ _ _ (contig_add _ _ _ k1), ?_, by simp only [add, List.any_append, k3]; rfl⟩
  rw [sumL_add, sumL_add, k2, h2]
  simp [sumL]; omega

theorem contig_two (k k' x y : Nat) : Contig [(k, 0, x), (k', x, y)] := by
  intro i p hp
  match i with
  | 0 => simp at hp; subst hp; rfl
  | 1 => simp at hp; subst hp; simp [sumL]
  | i + 2 => simp at hp

/-- What the law asks of the parts of a message. -/
theorem partsL_covers (alg n : Int) (h : (partsL alg n).2 = 0) :
    Contig (partsL alg n).1 ∧ sumL (partsL alg n).1 = (if (partsL alg n).1.any isFront then 2 * n.toNat else n.toNat) ∧ 1 ≤ n ∧ n ≤ 65536 := by
  by_cases h1 : alg < 1 ∨ 3 < alg
  · have e : partsL alg n = ([], 8) := by unfold partsL; rw [if_pos h1]
    rw [e] at h; cases h
  by_cases h2 : n < 1 ∨ (alg ≠ 3 ∧ n < 16)
  · have e : partsL alg n = ([], 7) := by unfold partsL; rw [if_neg h1, if_pos h2]
    rw [e] at h; cases h
  by_cases h3 : 65536 < n
  · have e : partsL alg n = ([], 6) := by unfold partsL; rw [if_neg h1, if_neg h2, if_pos h3]
    rw [e] at h; cases h
  obtain ⟨m, rfl⟩ := Int.eq_ofNat_of_zero_le (show 0 ≤ n by omega)
  rcases (show alg = 1 ∨ alg = 2 ∨ alg = 3 by omega) with rfl | rfl | rfl
  · have e : partsL 1 m = ([(1, 0, m - 16), (2, m - 16, 16)], 0) := by unfold partsL; rw [if_neg h1, if_neg h2, if_neg h3, if_pos rfl, Int.toNat_natCast]
    rw [e]
    refine ⟨contig_two _ _ _ _, ?_, by omega, by omega⟩
    simp [sumL, isFront]; omega
  · have e : partsL 2 m = ([(3, 0, 16), (1, 16, m - 16)], 0) := by unfold partsL; rw [if_neg h1, if_neg h2, if_neg h3, if_neg (by omega), if_pos rfl, Int.toNat_natCast]
    rw [e]
    refine ⟨contig_two _ _ _ _, ?_, by omega, by omega⟩
    simp [sumL, isFront]; omega
  · by_cases h4 : (m : Int) < 32
    · have e : partsL 3 m = ([(10, 0, m), (11, m, m)], 0) := by unfold partsL; rw [if_neg h1, if_neg h2, if_neg h3, if_neg (by omega), if_neg (by omega), if_pos h4, Int.toNat_natCast]
      rw [e]
      refine ⟨contig_two _ _ _ _, ?_, by omega, by omega⟩
      simp [sumL, isFront]; omega
    · have e : partsL 3 m = (longL m, 0) := by unfold partsL; rw [if_neg h1, if_neg h2, if_neg h3, if_neg (by omega), if_neg (by omega), if_neg h4, Int.toNat_natCast]
      rw [e]
      obtain ⟨c1, c2, c3⟩ := contig_long m (by omega)
      refine ⟨c1, ?_, by omega, by omega⟩
      rw [c2]; simp [c3]

theorem partsL_fails (alg n : Int) (hn : n ≤ 3000) (h : (partsL alg n).2 ≠ 0) : (partsL alg n).1 = [] ∧ (alg < 1 ∨ 3 < alg ∨ n < 16) ∧ ((partsL alg n).2 = 8 ∨ (partsL alg n).2 = 7) := by
  by_cases h1 : alg < 1 ∨ 3 < alg
  · have e : partsL alg n = ([], 8) := by unfold partsL; rw [if_pos h1]
    rw [e]; exact ⟨rfl, by omega, .inl rfl⟩
  by_cases h2 : n < 1 ∨ (alg ≠ 3 ∧ n < 16)
  · have e : partsL alg n = ([], 7) := by unfold partsL; rw [if_neg h1, if_pos h2]
    rw [e]; exact ⟨rfl, by omega, .inr rfl⟩
  exfalso
  apply h
  have h3 : ¬ 65536 < n := by omega
  unfold partsL
  rw [if_neg h1, if_neg h2, if_neg h3]
  split
  · rfl
  · split
    · rfl
    · split <;> rfl

theorem sumL_take_succ (L : List Part) (i : Nat) (p : Part) (h : L[i]? = some p) : sumL (L.take (i + 1)) = sumL (L.take i) + p.2.2 := by
  rw [List.take_add_one, h, sumL_append]; simp [sumL]
theorem any_take_succ (L : List Part) (i : Nat) (p : Part) (h : L[i]? = some p) : (L.take (i + 1)).any isFront = ((L.take i).any isFront || isFront p) := by
  rw [List.take_add_one, h, List.any_append]; simp
theorem sumL_take_le (L : List Part) (i : Nat) : sumL (L.take i) ≤ sumL L := by
  conv => rhs; rw [← List.take_append_drop i L, sumL_append]
  omega

end Go.CutP
