/-
  The plain laws of cut: half bytes, and bytes of them. No program.
-/
import Derived.Test.YtkgckhmfhpnoaaaOps
namespace Go.CutP
open Go.Ops

/-- All half bytes of bytes. -/
def nibs : List UInt8 → List UInt8
  | [] => []
  | b :: l => shr8 b 4 :: and8 b 15 :: nibs l

theorem nibs_length (l : List UInt8) : (nibs l).length = 2 * l.length := by
  induction l with
  | nil => rfl
  | cons b l ih => simp [nibs, ih]; omega

/-- The half byte of a byte, as the code reckons it. -/
def nib (b : UInt8) (m : Nat) : UInt8 := and8 (shr8 b (4 * (1 - m))) (UInt8.ofNat 15)

theorem nib_high (b : UInt8) : nib b 0 = shr8 b 4 := all8 (p := fun b => nib b 0 = shr8 b 4) (by decide +kernel) b
theorem nib_low (b : UInt8) : nib b 1 = and8 b 15 := all8 (p := fun b => nib b 1 = and8 b 15) (by decide +kernel) b

theorem nibs_at (l : List UInt8) (k : Nat) (h : k < 2 * l.length) : (nibs l)[k]? = some (nib (l.getD (k / 2) 0) (k % 2)) := by
  induction l generalizing k with
  | nil => simp at h
  | cons b l ih =>
    match k with
    | 0 => simp [nibs]; exact (nib_high b).symm
    | 1 => simp [nibs]; exact (nib_low b).symm
    | k + 2 =>
      have := ih k (by simp at h; omega)
      simp only [nibs, List.getElem?_cons_succ]
      rw [this]
      have e1 : (k + 2) / 2 = k / 2 + 1 := by omega
      have e2 : (k + 2) % 2 = k % 2 := by omega
      rw [e1, e2]
      simp

/-- The first k of a list, and noughts behind. -/
def fillTo (L : List UInt8) (n k : Nat) : List UInt8 := L.take k ++ List.replicate (n - k) 0

theorem fill_zero (L : List UInt8) (n : Nat) : fillTo L n 0 = List.replicate n 0 := by simp [fillTo]
theorem fill_full (L : List UInt8) (n : Nat) (h : L.length = n) : fillTo L n n = L := by simp [fillTo, ← h]
theorem fill_set (L : List UInt8) (n k : Nat) (u : UInt8) (hL : L.length = n) (hu : L[k]? = some u) : (fillTo L n k).set k u = fillTo L n (k + 1) := by
  have hk : k < L.length := (List.getElem?_eq_some_iff.1 hu).1
  unfold fillTo
  rw [List.set_append, if_neg (by simp; omega)]
  have e : n - k = (n - (k + 1)) + 1 := by omega
  have hl : (L.take k).length = k := by simp; omega
  rw [hl, Nat.sub_self, e, List.replicate_succ, List.set_cons_zero, List.take_add_one, hu]
  simp
theorem fill_length (L : List UInt8) (n k : Nat) (hL : L.length = n) (hk : k ≤ n) : (fillTo L n k).length = n := by
  simp [fillTo]; omega

/-- A half byte at its place, as the code reckons it. -/
def half (a : UInt8) (m : Nat) : UInt8 := shl8 (and8 a (UInt8.ofNat 15)) (4 * (1 - m))

/-- Half bytes, put together. -/
def joinL : List UInt8 → List UInt8
  | [] => []
  | [a] => [half a 0]
  | a :: b :: l => or8 (half a 0) (half b 1) :: joinL l

theorem joinL_length (h : List UInt8) : (joinL h).length = (h.length + 1) / 2 := by
  fun_induction joinL h with
  | case1 => simp
  | case2 => simp
  | case3 a b l ih => simp [ih]; omega

/-- The first k half bytes, put together, and noughts behind. -/
def joinTo (h : List UInt8) (k : Nat) : List UInt8 := joinL (h.take k) ++ List.replicate ((h.length + 1) / 2 - (k + 1) / 2) 0

theorem joinTo_length (h : List UInt8) (k : Nat) (hk : k ≤ h.length) : (joinTo h k).length = (h.length + 1) / 2 := by
  simp [joinTo, joinL_length, Nat.min_eq_left hk]; omega
theorem joinTo_zero (h : List UInt8) : joinTo h 0 = List.replicate ((h.length + 1) / 2) 0 := by simp [joinTo, joinL]
theorem joinTo_full (h : List UInt8) : joinTo h h.length = joinL h := by simp [joinTo]

theorem or_zero (a : UInt8) : or8 0 a = a := by simp [or8]

theorem joinTo_set (h : List UInt8) (k : Nat) (u : UInt8) (hu : h[k]? = some u) :
    (joinTo h k).set (k / 2) (or8 ((joinTo h k).getD (k / 2) 0) (half u (k % 2))) = joinTo h (k + 1) := by
  fun_induction joinL h generalizing k with
  | case1 => cases hu
  | case2 a =>
    match k with
    | 0 => simp at hu; subst hu; simp [joinTo, joinL, or_zero]
    | k + 1 => simp at hu
  | case3 a b l ih =>
    match k with
    | 0 =>
      simp at hu; subst hu
      have e : (l.length + 1 + 1 + 1) / 2 = (l.length + 1) / 2 + 1 := by omega
      simp [joinTo, joinL, e, List.replicate_succ, or_zero]
    | 1 =>
      simp at hu; subst hu
      have e : (l.length + 1 + 1 + 1) / 2 - 1 = (l.length + 1) / 2 := by omega
      simp [joinTo, joinL, e]
    | k + 2 =>
      have hih := ih k (by simpa using hu)
      have e1 : (k + 2) / 2 = k / 2 + 1 := by omega
      have e2 : (k + 2) % 2 = k % 2 := by omega
      have e3 : ∀ j, joinTo (a :: b :: l) (j + 2) = or8 (half a 0) (half b 1) :: joinTo l j := by
        intro j
        have e : ((l.length + 1 + 1 + 1) / 2 - (j + 2 + 1) / 2) = ((l.length + 1) / 2 - (j + 1) / 2) := by omega
        simp [joinTo, joinL, e]
      rw [e1, e2, e3, show k + 2 + 1 = (k + 1) + 2 by omega, e3, ← hih]
      simp

theorem joinL_at (h : List UInt8) (j : Nat) (a : UInt8) (ha : h[2 * j]? = some a) :
    (joinL h)[j]? = some (match h[2 * j + 1]? with | some b => or8 (half a 0) (half b 1) | none => half a 0) := by
  fun_induction joinL h generalizing j with
  | case1 => cases ha
  | case2 x =>
    match j with
    | 0 => simp at ha; subst ha; simp
    | j + 1 => simp at ha
  | case3 x y l ih =>
    match j with
    | 0 => simp at ha; subst ha; simp
    | j + 1 =>
      have e : 2 * (j + 1) = 2 * j + 1 + 1 := by omega
      rw [e] at ha ⊢
      simp only [List.getElem?_cons_succ] at ha
      have := ih j ha
      simp only [List.getElem?_cons_succ]
      exact this

theorem half0 (a : UInt8) : ((half a 0).toNat : Int) = (a.toNat : Int) % 16 * 16 := all8 (p := fun a => ((half a 0).toNat : Int) = (a.toNat : Int) % 16 * 16) (by decide +kernel) a
theorem half1 (a : UInt8) : ((half a 1).toNat : Int) = (a.toNat : Int) % 16 := all8 (p := fun a => ((half a 1).toNat : Int) = (a.toNat : Int) % 16) (by decide +kernel) a
theorem or_sum : ∀ x, x < 16 → ∀ y, y < 16 → (or8 (UInt8.ofNat (x * 16)) (UInt8.ofNat y)).toNat = x * 16 + y := by decide +kernel
theorem halves_sum (a b : UInt8) : ((or8 (half a 0) (half b 1)).toNat : Int) = (a.toNat : Int) % 16 * 16 + (b.toNat : Int) % 16 := by
  have h0 := half0 a
  have h1 := half1 b
  have e0 : half a 0 = UInt8.ofNat (a.toNat % 16 * 16) := by
    apply UInt8.toNat_inj.1
    rw [UInt8.toNat_ofNat_of_lt' (by show _ < 256; omega)]
    omega
  have e1 : half b 1 = UInt8.ofNat (b.toNat % 16) := by
    apply UInt8.toNat_inj.1
    rw [UInt8.toNat_ofNat_of_lt' (by show _ < 256; omega)]
    omega
  rw [e0, e1, or_sum _ (by omega) _ (by omega)]
  omega

theorem take_snoc {α : Type} (l : List α) (j : Nat) (u : α) (h : l[j]? = some u) : l.take (j + 1) = l.take j ++ [u] := by
  rw [List.take_add_one, h]; rfl

theorem nibs_pair (l : List UInt8) (k : Nat) (b : UInt8) (h : l[k]? = some b) : nibs (l.take (k + 1)) = nibs (l.take k) ++ [shr8 b 4, and8 b 15] := by
  induction l generalizing k with
  | nil => cases h
  | cons x l ih =>
    match k with
    | 0 => simp at h; subst h; simp [nibs]
    | k + 1 =>
      have := ih k (by simpa using h)
      simp only [List.take_succ_cons, nibs, List.cons_append]
      rw [this]

theorem shr8_4 (b : UInt8) : ((shr8 b 4).toNat : Int) = (b.toNat : Int) / 16 := all8 (p := fun b => ((shr8 b 4).toNat : Int) = (b.toNat : Int) / 16) (by decide +kernel) b
theorem and8_15 (b : UInt8) : ((and8 b 15).toNat : Int) = (b.toNat : Int) % 16 := all8 (p := fun b => ((and8 b 15).toNat : Int) = (b.toNat : Int) % 16) (by decide +kernel) b

theorem pair_back (b : UInt8) : or8 (half (shr8 b 4) 0) (half (and8 b 15) 1) = b := all8 (p := fun b => or8 (half (shr8 b 4) 0) (half (and8 b 15) 1) = b) (by decide +kernel) b
theorem join_nibs (l : List UInt8) : joinL (nibs l) = l := by
  induction l with
  | nil => rfl
  | cons b l ih => simp only [nibs, joinL, pair_back, ih]
theorem shr8_low (b : UInt8) : (shr8 b 4).toNat ≤ 15 := all8 (p := fun b => (shr8 b 4).toNat ≤ 15) (by decide +kernel) b
theorem and8_low (b : UInt8) : (and8 b 15).toNat ≤ 15 := all8 (p := fun b => (and8 b 15).toNat ≤ 15) (by decide +kernel) b
theorem nibs_low (l : List UInt8) : ∀ x ∈ nibs l, x.toNat ≤ 15 := by
  induction l with
  | nil => intro x hx; cases hx
  | cons b l ih =>
    intro x hx
    simp only [nibs, List.mem_cons] at hx
    rcases hx with rfl | rfl | hx
    · exact shr8_low b
    · exact and8_low b
    · exact ih x hx

end Go.CutP
