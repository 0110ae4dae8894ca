/-
  Texts of this claim, one behind the other: EzhPlain CutPlain EztPlain BlakePlain BlakeA.
-/
import Derived.Test.YtbpghohkhngdfaaGreatDoorM9
import Derived.Test.YtbpghohkhngdfaaGreatDoorM1
import Derived.Test.YtbpghohkhngdfaaGreatDoorM2
import Derived.Test.YtbpghohkhngdfaaGreatDoorM6
import Derived.Test.YtbpghohkhngdfaaGreatDoorM5
/-
  What ezhash's functions compute. No program.
-/
set_option linter.unusedVariables false
namespace Go.Ezh
open Go.Ops Go.Oct Go.Gf Go.Trn Go.Aes Go.Ring Go.Ezk

def partRest (k : Parts) (j : Nat) (sum b : List UInt8) : List UInt8 := both sum (eBlk k j 0 (block (markL b 128 16)))
def partGo (k : Parts) (j : Nat) : Nat → Nat → List UInt8 → List UInt8 → List UInt8
  | 0, _, sum, _ => sum
  | f + 1, n, sum, b => if 16 ≤ b.length then partGo k j f (n + 1) (both sum (eBlk k j (n + 1) (block b))) (b.drop 16) else if b.length = 0 then sum else partRest k j sum b
/-- What a string brings. -/
def partH (k : Parts) (j : Nat) (b : List UInt8) : List UInt8 := if b.length = 0 then partRest k j (zeros 16) b else partGo k j (b.length + 1) 0 (zeros 16) b
theorem partRest_length (k : Parts) (j : Nat) (sum b : List UInt8) : (partRest k j sum b).length = 16 := both_length _ _
theorem partGo_length (k : Parts) (j : Nat) : ∀ (f n : Nat) (sum b : List UInt8), sum.length = 16 → (partGo k j f n sum b).length = 16
  | 0, _, _, _, h => h
  | f + 1, n, sum, b, h => by
    unfold partGo
    split
    · exact partGo_length k j f _ _ _ (both_length _ _)
    · split
      · exact h
      · exact partRest_length _ _ _ _
theorem partH_length (k : Parts) (j : Nat) (b : List UInt8) : (partH k j b).length = 16 := by
  unfold partH
  split
  · exact partRest_length _ _ _ _
  · exact partGo_length _ _ _ _ _ _ (zeros_length 16)
/-- The hash of a row. -/
def hashGo (k : Parts) : Nat → List UInt8 → List (List UInt8) → List UInt8
  | _, sum, [] => sum
  | j, sum, b :: r => hashGo k (j + 1) (both sum (partH k j b)) r
def hashH (k : Parts) (row : List (List UInt8)) : List UInt8 := hashGo k 3 (zeros 16) row
theorem hashGo_length (k : Parts) : ∀ (row : List (List UInt8)) (j : Nat) (sum : List UInt8), sum.length = 16 → (hashGo k j sum row).length = 16
  | [], _, _, h => h
  | b :: r, j, sum, _ => hashGo_length k r _ _ (both_length _ _)
theorem hashH_length (k : Parts) (row : List (List UInt8)) : (hashH k row).length = 16 := hashGo_length _ _ _ _ (zeros_length 16)
theorem hashGo_snoc (k : Parts) : ∀ (row : List (List UInt8)) (j : Nat) (sum b : List UInt8), hashGo k j sum (row ++ [b]) = both (hashGo k j sum row) (partH k (j + row.length) b)
  | [], _, _, _ => rfl
  | x :: r, j, sum, b => by
    simp only [List.cons_append, hashGo, List.length_cons]
    rw [hashGo_snoc k r]
    congr 2
    omega

/-- A block by exclusive or with a number, its highest byte first. -/
def countedH (h : List UInt8) (n : Nat) : List UInt8 := (List.range 16).map fun i => if i < 8 then at8 h i else xor8 (at8 h i) (at8 (putLong (UInt64.ofNat n)) (15 - i))
theorem countedH_length (h : List UInt8) (n : Nat) : (countedH h n).length = 16 := by simp [countedH]
def prfGo (k : Parts) (h : List UInt8) (n : Nat) : Nat → List UInt8 → List UInt8
  | 0, out => out
  | f + 1, out => if n ≤ out.length then out else prfGo k h n f (out ++ eTen k 3 (countedH h (out.length / 16)))
/-- So many bytes of a row. -/
def prfH (k : Parts) (row : List (List UInt8)) (n : Nat) : List UInt8 := (prfGo k (hashH k row) n (n + 1) []).take n
theorem prfGo_length (k : Parts) (h : List UInt8) (n : Nat) : ∀ (f : Nat) (out : List UInt8), n ≤ out.length + 16 * f → n ≤ (prfGo k h n f out).length
  | 0, out, h => by simp only [prfGo]; omega
  | f + 1, out, h' => by
    unfold prfGo
    split
    · assumption
    · exact prfGo_length k h n f _ (by rw [List.length_append, eTen_length]; omega)
theorem prfH_length (k : Parts) (row : List (List UInt8)) (n : Nat) : (prfH k row n).length = n := by
  unfold prfH
  rw [List.length_take]
  have := prfGo_length k (hashH k row) n (n + 1) [] (by simp; omega)
  omega

end Go.Ezh
/-
  The plain laws of cut: half bytes, and bytes of them. No program.
-/
namespace Go.CutP
open Go.Ops

/-- All half bytes of bytes. -/
def nibs : List UInt8 → List UInt8
  | [] => []
  | b :: l => shr8 b 4 :: and8 b 15 :: nibs l

theorem nibs_length (l : List UInt8) : (nibs l).length = 2 * l.length := by
  induction l with
  | nil => rfl
  | cons b l ih => simp [nibs, ih]; omega

/-- The half byte of a byte, as the code reckons it. -/
def nib (b : UInt8) (m : Nat) : UInt8 := and8 (shr8 b (4 * (1 - m))) (UInt8.ofNat 15)

theorem nib_high (b : UInt8) : nib b 0 = shr8 b 4 := all8 (p := fun b => nib b 0 = shr8 b 4) (by decide +kernel) b
theorem nib_low (b : UInt8) : nib b 1 = and8 b 15 := all8 (p := fun b => nib b 1 = and8 b 15) (by decide +kernel) b

theorem nibs_at (l : List UInt8) (k : Nat) (h : k < 2 * l.length) : (nibs l)[k]? = some (nib (l.getD (k / 2) 0) (k % 2)) := by
  induction l generalizing k with
  | nil => simp at h
  | cons b l ih =>
    match k with
    | 0 => simp [nibs]; exact (nib_high b).symm
    | 1 => simp [nibs]; exact (nib_low b).symm
    | k + 2 =>
      have := ih k (by simp at h; omega)
      simp only [nibs, List.getElem?_cons_succ]
      rw [this]
      have e1 : (k + 2) / 2 = k / 2 + 1 := by omega
      have e2 : (k + 2) % 2 = k % 2 := by omega
      rw [e1, e2]
      simp

/-- The first k of a list, and noughts behind. -/
def fillTo (L : List UInt8) (n k : Nat) : List UInt8 := L.take k ++ List.replicate (n - k) 0

theorem fill_zero (L : List UInt8) (n : Nat) : fillTo L n 0 = List.replicate n 0 := by simp [fillTo]
theorem fill_full (L : List UInt8) (n : Nat) (h : L.length = n) : fillTo L n n = L := by simp [fillTo, ← h]
theorem fill_set (L : List UInt8) (n k : Nat) (u : UInt8) (hL : L.length = n) (hu : L[k]? = some u) : (fillTo L n k).set k u = fillTo L n (k + 1) := by
  have hk : k < L.length := (List.getElem?_eq_some_iff.1 hu).1
  unfold fillTo
  rw [List.set_append, if_neg (by simp; omega)]
  have e : n - k = (n - (k + 1)) + 1 := by omega
  have hl : (L.take k).length = k := by simp; omega
  rw [hl, Nat.sub_self, e, List.replicate_succ, List.set_cons_zero, List.take_add_one, hu]
  simp
theorem fill_length (L : List UInt8) (n k : Nat) (hL : L.length = n) (hk : k ≤ n) : (fillTo L n k).length = n := by
  simp [fillTo]; omega

/-- A half byte at its place, as the code reckons it. -/
def half (a : UInt8) (m : Nat) : UInt8 := shl8 (and8 a (UInt8.ofNat 15)) (4 * (1 - m))

/-- Half bytes, put together. -/
def joinL : List UInt8 → List UInt8
  | [] => []
  | [a] => [half a 0]
  | a :: b :: l => or8 (half a 0) (half b 1) :: joinL l

theorem joinL_length (h : List UInt8) : (joinL h).length = (h.length + 1) / 2 := by
  fun_induction joinL h with
  | case1 => simp
  | case2 => simp
  | case3 a b l ih => simp [ih]; omega

/-- The first k half bytes, put together, and noughts behind. -/
def joinTo (h : List UInt8) (k : Nat) : List UInt8 := joinL (h.take k) ++ List.replicate ((h.length + 1) / 2 - (k + 1) / 2) 0

theorem joinTo_length (h : List UInt8) (k : Nat) (hk : k ≤ h.length) : (joinTo h k).length = (h.length + 1) / 2 := by
  simp [joinTo, joinL_length, Nat.min_eq_left hk]; omega
theorem joinTo_zero (h : List UInt8) : joinTo h 0 = List.replicate ((h.length + 1) / 2) 0 := by simp [joinTo, joinL]
theorem joinTo_full (h : List UInt8) : joinTo h h.length = joinL h := by simp [joinTo]

theorem or_zero (a : UInt8) : or8 0 a = a := by simp [or8]

theorem joinTo_set (h : List UInt8) (k : Nat) (u : UInt8) (hu : h[k]? = some u) :
    (joinTo h k).set (k / 2) (or8 ((joinTo h k).getD (k / 2) 0) (half u (k % 2))) = joinTo h (k + 1) := by
  fun_induction joinL h generalizing k with
  | case1 => cases hu
  | case2 a =>
    match k with
    | 0 => simp at hu; subst hu; simp [joinTo, joinL, or_zero]
    | k + 1 => simp at hu
  | case3 a b l ih =>
    match k with
    | 0 =>
      simp at hu; subst hu
      have e : (l.length + 1 + 1 + 1) / 2 = (l.length + 1) / 2 + 1 := by omega
      simp [joinTo, joinL, e, List.replicate_succ, or_zero]
    | 1 =>
      simp at hu; subst hu
      have e : (l.length + 1 + 1 + 1) / 2 - 1 = (l.length + 1) / 2 := by omega
      simp [joinTo, joinL, e]
    | k + 2 =>
      have hih := ih k (by simpa using hu)
      have e1 : (k + 2) / 2 = k / 2 + 1 := by omega
      have e2 : (k + 2) % 2 = k % 2 := by omega
      have e3 : ∀ j, joinTo (a :: b :: l) (j + 2) = or8 (half a 0) (half b 1) :: joinTo l j := by
        intro j
        have e : ((l.length + 1 + 1 + 1) / 2 - (j + 2 + 1) / 2) = ((l.length + 1) / 2 - (j + 1) / 2) := by omega
        simp [joinTo, joinL, e]
      rw [e1, e2, e3, show k + 2 + 1 = (k + 1) + 2 by omega, e3, ← hih]
      simp

theorem joinL_at (h : List UInt8) (j : Nat) (a : UInt8) (ha : h[2 * j]? = some a) :
    (joinL h)[j]? = some (match h[2 * j + 1]? with | some b => or8 (half a 0) (half b 1) | none => half a 0) := by
  fun_induction joinL h generalizing j with
  | case1 => cases ha
  | case2 x =>
    match j with
    | 0 => simp at ha; subst ha; simp
    | j + 1 => simp at ha
  | case3 x y l ih =>
    match j with
    | 0 => simp at ha; subst ha; simp
    | j + 1 =>
      have e : 2 * (j + 1) = 2 * j + 1 + 1 := by omega
      rw [e] at ha ⊢
      simp only [List.getElem?_cons_succ] at ha
      have := ih j ha
      simp only [List.getElem?_cons_succ]
      exact this

theorem half0 (a : UInt8) : ((half a 0).toNat : Int) = (a.toNat : Int) % 16 * 16 := all8 (p := fun a => ((half a 0).toNat : Int) = (a.toNat : Int) % 16 * 16) (by decide +kernel) a
theorem half1 (a : UInt8) : ((half a 1).toNat : Int) = (a.toNat : Int) % 16 := all8 (p := fun a => ((half a 1).toNat : Int) = (a.toNat : Int) % 16) (by decide +kernel) a
theorem or_sum : ∀ x, x < 16 → ∀ y, y < 16 → (or8 (UInt8.ofNat (x * 16)) (UInt8.ofNat y)).toNat = x * 16 + y := by decide +kernel
theorem halves_sum (a b : UInt8) : ((or8 (half a 0) (half b 1)).toNat : Int) = (a.toNat : Int) % 16 * 16 + (b.toNat : Int) % 16 := by
  have h0 := half0 a
  have h1 := half1 b
  have e0 : half a 0 = UInt8.ofNat (a.toNat % 16 * 16) := by
    apply UInt8.toNat_inj.1
    rw [UInt8.toNat_ofNat_of_lt' (by show _ < 256; omega)]
    omega
  have e1 : half b 1 = UInt8.ofNat (b.toNat % 16) := by
    apply UInt8.toNat_inj.1
    rw [UInt8.toNat_ofNat_of_lt' (by show _ < 256; omega)]
    omega
  rw [e0, e1, or_sum _ (by omega) _ (by omega)]
  omega

theorem take_snoc {α : Type} (l : List α) (j : Nat) (u : α) (h : l[j]? = some u) : l.take (j + 1) = l.take j ++ [u] := by
  rw [List.take_add_one, h]; rfl

theorem nibs_pair (l : List UInt8) (k : Nat) (b : UInt8) (h : l[k]? = some b) : nibs (l.take (k + 1)) = nibs (l.take k) ++ [shr8 b 4, and8 b 15] := by
  induction l generalizing k with
  | nil => cases h
  | cons x l ih =>
    match k with
    | 0 => simp at h; subst h; simp [nibs]
    | k + 1 =>
      have := ih k (by simpa using h)
      simp only [List.take_succ_cons, nibs, List.cons_append]
      rw [this]

theorem shr8_4 (b : UInt8) : ((shr8 b 4).toNat : Int) = (b.toNat : Int) / 16 := all8 (p := fun b => ((shr8 b 4).toNat : Int) = (b.toNat : Int) / 16) (by decide +kernel) b
theorem and8_15 (b : UInt8) : ((and8 b 15).toNat : Int) = (b.toNat : Int) % 16 := all8 (p := fun b => ((and8 b 15).toNat : Int) = (b.toNat : Int) % 16) (by decide +kernel) b

theorem pair_back (b : UInt8) : or8 (half (shr8 b 4) 0) (half (and8 b 15) 1) = b := all8 (p := fun b => or8 (half (shr8 b 4) 0) (half (and8 b 15) 1) = b) (by decide +kernel) b
theorem join_nibs (l : List UInt8) : joinL (nibs l) = l := by
  induction l with
  | nil => rfl
  | cons b l ih => simp only [nibs, joinL, pair_back, ih]
theorem shr8_low (b : UInt8) : (shr8 b 4).toNat ≤ 15 := all8 (p := fun b => (shr8 b 4).toNat ≤ 15) (by decide +kernel) b
theorem and8_low (b : UInt8) : (and8 b 15).toNat ≤ 15 := all8 (p := fun b => (and8 b 15).toNat ≤ 15) (by decide +kernel) b
theorem nibs_low (l : List UInt8) : ∀ x ∈ nibs l, x.toNat ≤ 15 := by
  induction l with
  | nil => intro x hx; cases hx
  | cons b l ih =>
    intro x hx
    simp only [nibs, List.mem_cons] at hx
    rcases hx with rfl | rfl | hx
    · exact shr8_low b
    · exact and8_low b
    · exact ih x hx

end Go.CutP
/-
  What eztiny's functions compute; and that what is enciphered is deciphered to what it was. No program.
-/
set_option linter.unusedVariables false
namespace Go.Ezt
open Go.Ops Go.Oct Go.Gf Go.Trn Go.Aes Go.Ring Go.Ezk Go.Ezh Go.CutP

theorem at8_both (a b : List UInt8) (i : Nat) (h : i < 16) : at8 (both a b) i = xor8 (at8 a i) (at8 b i) := by
  apply at8_some
  simp [both, h]
theorem ext16 {a b : List UInt8} (ha : a.length = 16) (hb : b.length = 16) (h : ∀ i, i < 16 → at8 a i = at8 b i) : a = b := by
  apply List.ext_getElem?
  intro i
  by_cases hi : i < 16
  · rw [at8_get (by omega), at8_get (by omega), h i hi]
  · rw [List.getElem?_eq_none (by omega), List.getElem?_eq_none (by omega)]
theorem xor8_comm (a b : UInt8) : xor8 a b = xor8 b a := UInt8.xor_comm a b
theorem xor8_assoc (a b c : UInt8) : xor8 (xor8 a b) c = xor8 a (xor8 b c) := UInt8.xor_assoc a b c
theorem xor8_self (a : UInt8) : xor8 a a = 0 := UInt8.xor_self
theorem xor8_zero (a : UInt8) : xor8 a 0 = a := UInt8.xor_zero
theorem zero_xor8 (a : UInt8) : xor8 0 a = a := UInt8.zero_xor
theorem xor8_twice (a b : UInt8) : xor8 (xor8 a b) b = a := by rw [xor8_assoc, xor8_self, xor8_zero]
theorem both_comm (a b : List UInt8) : both a b = both b a := ext16 (both_length _ _) (both_length _ _) fun i hi => by rw [at8_both _ _ _ hi, at8_both _ _ _ hi, xor8_comm]
theorem both_assoc (a b c : List UInt8) : both (both a b) c = both a (both b c) := ext16 (both_length _ _) (both_length _ _) fun i hi => by
  rw [at8_both _ _ _ hi, at8_both _ _ _ hi, at8_both _ _ _ hi, at8_both _ _ _ hi, xor8_assoc]
theorem at8_zeros (n i : Nat) : at8 (zeros n) i = 0 := by
  by_cases h : i < n
  · exact at8_some (by simp [zeros, h])
  · exact at8_none (by rw [zeros_length]; omega)
theorem both_zero {a : List UInt8} (h : a.length = 16) : both a (zeros 16) = a := ext16 (both_length _ _) h fun i hi => by rw [at8_both _ _ _ hi, at8_zeros, xor8_zero]
theorem zero_both {a : List UInt8} (h : a.length = 16) : both (zeros 16) a = a := by rw [both_comm, both_zero h]
theorem both_self (a : List UInt8) : both a a = zeros 16 := ext16 (both_length _ _) (zeros_length 16) fun i hi => by rw [at8_both _ _ _ hi, at8_zeros, xor8_self]
theorem both_twice {a : List UInt8} (h : a.length = 16) (b : List UInt8) : both (both a b) b = a := by rw [both_assoc, both_self, both_zero h]
theorem both_twice' {b : List UInt8} (h : b.length = 16) (a : List UInt8) : both a (both a b) = b := by rw [← both_assoc, both_self, zero_both h]

theorem xorL_get {a b : List UInt8} {i : Nat} (h1 : i < a.length) (h2 : i < b.length) : (xorL a b)[i]? = some (xor8 (at8 a i) (at8 b i)) := by
  unfold xorL
  rw [List.getElem?_map, List.getElem?_range (by omega)]
  rfl
theorem xorL_twice {a b : List UInt8} (h : a.length ≤ b.length) : xorL (xorL a b) b = a := by
  apply List.ext_getElem?
  intro i
  have hl : (xorL a b).length = a.length := by rw [xorL_length]; omega
  by_cases hi : i < a.length
  · rw [xorL_get (by omega) (by omega), at8_some (xorL_get hi (by omega)), xor8_twice, at8_get hi]
  · rw [List.getElem?_eq_none (by rw [xorL_length]; omega), List.getElem?_eq_none (by omega)]

/-- How many rounds there are. -/
def roundsT (n : Nat) : Nat := if n < 1 ∨ 31 < n then 0 else if n = 1 then 24 else if n = 2 then 16 else if n < 16 then 10 else 8
def plusB (l : List (List UInt8)) : List UInt8 := l.foldl both (zeros 16)
def counted (n : Nat) : List UInt8 := (List.range 16).map fun i => if i < 8 then 0 else at8 (putLong (UInt64.ofNat n)) (15 - i)
theorem counted_length (n : Nat) : (counted n).length = 16 := by simp [counted]
/-- What a half brings to the other one. -/
def stepT (k : Parts) (h : List UInt8) (i j : Nat) (half : List UInt8) : List UInt8 :=
  (nibs (eBlk k 0 i (plusB [block (joinL (half ++ [8])), h, counted j]))).take half.length
theorem stepT_length (k : Parts) (h : List UInt8) (i j : Nat) (half : List UInt8) (hl : half.length ≤ 31) : (stepT k h i j half).length = half.length := by
  unfold stepT
  rw [List.length_take, nibs_length, eBlk_length]
  omega
def topped (m : List UInt8) : List UInt8 := (block m).set 0 (or8 (at8 (block m) 0) 128)
def flipBy (k : Parts) (h m : List UInt8) : UInt8 := and8 (at8 (eBlk k 0 3 (plusB [topped m, h])) 0) 128
/-- The first bit, turned or not. -/
def flipT (k : Parts) (h m : List UInt8) : List UInt8 := if m.length = 0 ∨ 16 ≤ m.length then m else m.set 0 (xor8 (at8 m 0) (flipBy k h m))
theorem flipT_yes {k : Parts} {h m : List UInt8} (hm : ¬ (m.length = 0 ∨ 16 ≤ m.length)) : flipT k h m = m.set 0 (xor8 (at8 m 0) (flipBy k h m)) := by unfold flipT; rw [if_neg hm]
theorem flipT_length (k : Parts) (h m : List UInt8) : (flipT k h m).length = m.length := by
  unfold flipT; split; rfl; exact List.length_set
def leftT (m : List UInt8) : List UInt8 := (nibs m).take m.length
def rightT (m : List UInt8) : List UInt8 := ((nibs m).drop m.length).take m.length
theorem leftT_length (m : List UInt8) : (leftT m).length = m.length := by unfold leftT; rw [List.length_take, nibs_length]; omega
theorem rightT_length (m : List UInt8) : (rightT m).length = m.length := by unfold rightT; rw [List.length_take, List.length_drop, nibs_length]; omega
theorem halves_all (m : List UInt8) : leftT m ++ rightT m = nibs m := by
  unfold leftT rightT
  rw [List.take_of_length_le (l := List.drop _ _) (by rw [List.length_drop, nibs_length]; omega), List.take_append_drop]
/-- One round. -/
def swapT (k : Parts) (h : List UInt8) (i j : Nat) (p : List UInt8 × List UInt8) : List UInt8 × List UInt8 := (p.2, xorL p.1 (stepT k h i j p.2))
/-- Rounds f, f+1, .. n of them; and back. -/
def upT (k : Parts) (h : List UInt8) (i : Nat) : Nat → List UInt8 × List UInt8 → List UInt8 × List UInt8
  | 0, p => p
  | n + 1, p => swapT k h i n (upT k h i n p)
def downT (k : Parts) (h : List UInt8) (i : Nat) : Nat → List UInt8 × List UInt8 → List UInt8 × List UInt8
  | 0, p => p
  | n + 1, p => downT k h i n (swapT k h i n p)
def numT (n : Nat) : Nat := if 16 ≤ n then 6 else 7
def outT (p : List UInt8 × List UInt8) : List UInt8 := joinL (p.2 ++ p.1)
def turnT (k : Parts) (row : List (List UInt8)) (m : List UInt8) (back : Bool) : List UInt8 :=
  if back = true then outT (downT k (hashH k row) (numT m.length) (roundsT m.length) (leftT (flipT k (hashH k row) m), rightT (flipT k (hashH k row) m)))
  else flipT k (hashH k row) (outT (upT k (hashH k row) (numT m.length) (roundsT m.length) (leftT m, rightT m)))

/-- Both halves are of n half bytes. -/
def Two (n : Nat) (p : List UInt8 × List UInt8) : Prop := p.1.length = n ∧ p.2.length = n
theorem Two.swap {k : Parts} {h : List UInt8} {i j n : Nat} {p : List UInt8 × List UInt8} (hp : Two n p) (hn : n ≤ 31) : Two n (swapT k h i j p) := by
  refine ⟨hp.2, ?_⟩
  show (xorL _ _).length = n
  rw [xorL_length, stepT_length _ _ _ _ _ (by rw [hp.2]; exact hn), hp.1, hp.2]
  omega
theorem Two.up {k : Parts} {h : List UInt8} {i n : Nat} {p : List UInt8 × List UInt8} (hp : Two n p) (hn : n ≤ 31) : ∀ r, Two n (upT k h i r p)
  | 0 => hp
  | r + 1 => (Two.up hp hn r).swap hn
theorem Two.down {k : Parts} {h : List UInt8} {i n : Nat} (hn : n ≤ 31) : ∀ (r : Nat) {p : List UInt8 × List UInt8}, Two n p → Two n (downT k h i r p)
  | 0, _, hp => hp
  | r + 1, _, hp => Two.down hn r (hp.swap hn)
theorem Two.flip {n : Nat} {p : List UInt8 × List UInt8} (hp : Two n p) : Two n (p.2, p.1) := ⟨hp.2, hp.1⟩
theorem Two.out {n : Nat} {p : List UInt8 × List UInt8} (hp : Two n p) : (outT p).length = n := by
  unfold outT; rw [joinL_length, List.length_append, hp.1, hp.2]; omega
theorem Two.start (m : List UInt8) : Two m.length (leftT m, rightT m) := ⟨leftT_length m, rightT_length m⟩
theorem downT_snoc (k : Parts) (h : List UInt8) (i : Nat) : ∀ (n : Nat) (p : List UInt8 × List UInt8), downT k h i (n + 1) p = downT k h i n (swapT k h i n p) := fun _ _ => rfl
/-- A round, undone. -/
theorem swap_back {k : Parts} {h : List UInt8} {i j n : Nat} {p : List UInt8 × List UInt8} (hp : Two n p) (hn : n ≤ 31) :
    swapT k h i j ((swapT k h i j p).2, (swapT k h i j p).1) = (p.2, p.1) := by
  show ((p.2 : List UInt8), xorL (xorL p.1 (stepT k h i j p.2)) (stepT k h i j p.2)) = (p.2, p.1)
  rw [xorL_twice (by rw [stepT_length _ _ _ _ _ (by rw [hp.2]; exact hn), hp.1, hp.2]; omega)]
theorem down_up {k : Parts} {h : List UInt8} {i n : Nat} (hn : n ≤ 31) : ∀ (r : Nat) {p : List UInt8 × List UInt8}, Two n p → downT k h i r ((upT k h i r p).2, (upT k h i r p).1) = (p.2, p.1)
  | 0, _, _ => rfl
  | r + 1, p, hp => by
    show downT k h i r (swapT k h i r ((swapT k h i r (upT k h i r p)).2, (swapT k h i r (upT k h i r p)).1)) = _
    rw [swap_back (hp.up hn r) hn]
    exact down_up hn r hp
theorem up_down {k : Parts} {h : List UInt8} {i n : Nat} (hn : n ≤ 31) : ∀ (r : Nat) {p : List UInt8 × List UInt8}, Two n p → upT k h i r ((downT k h i r p).2, (downT k h i r p).1) = (p.2, p.1)
  | 0, _, _ => rfl
  | r + 1, p, hp => by
    show swapT k h i r (upT k h i r ((downT k h i r (swapT k h i r p)).2, (downT k h i r (swapT k h i r p)).1)) = _
    rw [up_down hn r (hp.swap hn), swap_back hp hn]

/-- Half bytes. -/
def Low (l : List UInt8) : Prop := ∀ x ∈ l, x.toNat ≤ 15
theorem low_nibs (m : List UInt8) : Low (nibs m) := nibs_low m
theorem xor_low : ∀ x, x < 16 → ∀ y, y < 16 → (xor8 (UInt8.ofNat x) (UInt8.ofNat y)).toNat ≤ 15 := by decide +kernel
theorem xor8_low (a b : UInt8) (ha : a.toNat ≤ 15) (hb : b.toNat ≤ 15) : (xor8 a b).toNat ≤ 15 := by
  have := xor_low a.toNat (by omega) b.toNat (by omega)
  rwa [UInt8.ofNat_toNat, UInt8.ofNat_toNat] at this
theorem at8_low {l : List UInt8} (h : Low l) (i : Nat) : (at8 l i).toNat ≤ 15 := by
  by_cases hi : i < l.length
  · exact h _ (List.mem_of_getElem? (at8_get hi))
  · rw [at8_none (by omega)]; simp
theorem Low.xorL {a b : List UInt8} (ha : Low a) (hb : Low b) : Low (xorL a b) := by
  intro x hx
  simp only [Oct.xorL, List.mem_map] at hx
  obtain ⟨i, _, rfl⟩ := hx
  exact xor8_low _ _ (at8_low ha i) (at8_low hb i)
theorem Low.take {l : List UInt8} (h : Low l) (n : Nat) : Low (l.take n) := fun x hx => h x (List.mem_of_mem_take hx)
theorem Low.drop {l : List UInt8} (h : Low l) (n : Nat) : Low (l.drop n) := fun x hx => h x (List.mem_of_mem_drop hx)
theorem Low.append {a b : List UInt8} (ha : Low a) (hb : Low b) : Low (a ++ b) := fun x hx => (List.mem_append.1 hx).elim (ha x) (hb x)
def LowT (p : List UInt8 × List UInt8) : Prop := Low p.1 ∧ Low p.2
theorem LowT.swap {k : Parts} {h : List UInt8} {i j : Nat} {p : List UInt8 × List UInt8} (hp : LowT p) : LowT (swapT k h i j p) := ⟨hp.2, hp.1.xorL ((low_nibs _).take _)⟩
theorem LowT.up {k : Parts} {h : List UInt8} {i : Nat} {p : List UInt8 × List UInt8} (hp : LowT p) : ∀ r, LowT (upT k h i r p)
  | 0 => hp
  | r + 1 => (LowT.up hp r).swap
theorem LowT.down {k : Parts} {h : List UInt8} {i : Nat} : ∀ (r : Nat) {p : List UInt8 × List UInt8}, LowT p → LowT (downT k h i r p)
  | 0, _, hp => hp
  | r + 1, _, hp => LowT.down r hp.swap
theorem LowT.start (m : List UInt8) : LowT (leftT m, rightT m) := ⟨(low_nibs m).take _, ((low_nibs m).drop _).take _⟩
theorem high_back : ∀ x, x < 16 → ∀ y, y < 16 → shr8 (or8 (half (UInt8.ofNat x) 0) (half (UInt8.ofNat y) 1)) 4 = UInt8.ofNat x ∧ and8 (or8 (half (UInt8.ofNat x) 0) (half (UInt8.ofNat y) 1)) 15 = UInt8.ofNat y := by decide +kernel
/-- Of an even number of half bytes, put together and cut apart again. -/
theorem nibs_join : ∀ (l : List UInt8), Low l → l.length % 2 = 0 → nibs (joinL l) = l
  | [], _, _ => rfl
  | [a], _, h => by simp at h
  | a :: b :: l, hl, h => by
    have ha := hl a (by simp)
    have hb := hl b (by simp)
    have := high_back a.toNat (by omega) b.toNat (by omega)
    rw [UInt8.ofNat_toNat, UInt8.ofNat_toNat] at this
    rw [joinL, nibs, this.1, this.2, nibs_join l (fun x hx => hl x (by simp [hx])) (by simp at h; omega)]
theorem halves_out {n : Nat} {p : List UInt8 × List UInt8} (hp : Two n p) (hl : LowT p) : (leftT (outT p), rightT (outT p)) = (p.2, p.1) := by
  have h1 : nibs (outT p) = p.2 ++ p.1 := nibs_join _ (hl.2.append hl.1) (by rw [List.length_append, hp.1, hp.2]; omega)
  have h2 := hp.out
  unfold leftT rightT
  rw [h1, h2, List.take_append_of_le_length (by rw [hp.2]; exact Nat.le_refl _), List.take_of_length_le (by rw [hp.2]; exact Nat.le_refl _), List.drop_append_of_le_length (by rw [hp.2]; exact Nat.le_refl _), List.drop_eq_nil_of_le (by rw [hp.2]; exact Nat.le_refl _), List.nil_append, List.take_of_length_le (by rw [hp.1]; exact Nat.le_refl _)]
theorem outT_start (m : List UInt8) : outT (rightT m, leftT m) = m := by
  unfold outT; rw [halves_all, join_nibs]

theorem top_same : ∀ x, x < 256 → ∀ y, y < 256 → or8 (xor8 (UInt8.ofNat x) (and8 (UInt8.ofNat y) 128)) 128 = or8 (UInt8.ofNat x) 128 := by decide +kernel
theorem topped_flip {m : List UInt8} (h : m.length ≠ 0) (y : UInt8) : topped (m.set 0 (xor8 (at8 m 0) (and8 y 128))) = topped m := by
  have hs : ∀ i, i ≠ 0 → at8 (m.set 0 (xor8 (at8 m 0) (and8 y 128))) i = at8 m i := fun i hi => by
    unfold at8; simp [List.getD, List.getElem?_set_ne (Ne.symm hi)]
  have h0 : at8 (m.set 0 (xor8 (at8 m 0) (and8 y 128))) 0 = xor8 (at8 m 0) (and8 y 128) := at8_some (by rw [List.getElem?_set_self (by omega)])
  have hb : ∀ (l : List UInt8) i, i < 16 → at8 (block l) i = at8 l i := fun l i hi => at8_some (by simp [block, hi])
  unfold topped
  refine ext16 (by rw [List.length_set, block_length]) (by rw [List.length_set, block_length]) fun i hi => ?_
  by_cases e : i = 0
  · subst e
    rw [at8_some (List.getElem?_set_self (by rw [block_length]; omega)), at8_some (List.getElem?_set_self (by rw [block_length]; omega)), hb _ _ hi, hb _ _ hi, h0]
    have := top_same (at8 m 0).toNat (UInt8.toNat_lt _) y.toNat (UInt8.toNat_lt _)
    rwa [UInt8.ofNat_toNat, UInt8.ofNat_toNat] at this
  · unfold at8
    simp only [List.getD, List.getElem?_set_ne (Ne.symm e)]
    have := hb (m.set 0 (xor8 (at8 m 0) (and8 y 128))) i hi
    have h2 := hb m i hi
    rw [hs i e, ← h2] at this
    exact this
theorem flip_flip (k : Parts) (h m : List UInt8) : flipT k h (flipT k h m) = m := by
  by_cases hm : m.length = 0 ∨ 16 ≤ m.length
  · have e : flipT k h m = m := by unfold flipT; rw [if_pos hm]
    rw [e, e]
  · have e : flipT k h m = m.set 0 (xor8 (at8 m 0) (flipBy k h m)) := by unfold flipT; rw [if_neg hm]
    have hl : (flipT k h m).length = m.length := flipT_length _ _ _
    have hby : flipBy k h (flipT k h m) = flipBy k h m := by
      unfold flipBy
      rw [e]
      unfold flipBy
      rw [topped_flip (by omega)]
    have e2 : flipT k h (flipT k h m) = (flipT k h m).set 0 (xor8 (at8 (flipT k h m) 0) (flipBy k h m)) := by
      rw [flipT_yes (m := flipT k h m) (by rw [hl]; exact hm), hby]
    have h0 : at8 (flipT k h m) 0 = xor8 (at8 m 0) (flipBy k h m) := at8_some (by rw [e, List.getElem?_set_self (by omega)])
    rw [e2, h0, xor8_twice, e, List.set_set]
    apply List.ext_getElem?
    intro i
    by_cases hi : i = 0
    · subst hi
      rw [List.getElem?_set_self (by omega), at8_get (by omega)]
    · rw [List.getElem?_set_ne (Ne.symm hi)]

theorem turnT_length (k : Parts) (row : List (List UInt8)) (m : List UInt8) (back : Bool) (hm : m.length ≤ 31) : (turnT k row m back).length = m.length := by
  unfold turnT
  split
  · have := (Two.start (flipT k (hashH k row) m))
    rw [flipT_length] at this
    exact (this.down hm _).out
  · rw [flipT_length]
    exact ((Two.start m).up hm _).out
/-- WHAT IS ENCIPHERED IS DECIPHERED TO WHAT IT WAS, and the other way round. -/
theorem turnT_back (k : Parts) (row : List (List UInt8)) (m : List UInt8) (back : Bool) (hm : m.length ≤ 31) : turnT k row (turnT k row m back) (!back) = m := by
  have hl := turnT_length k row m back hm
  cases back with
  | false =>
    show turnT k row _ true = m
    have e : turnT k row m false = flipT k (hashH k row) (outT (upT k (hashH k row) (numT m.length) (roundsT m.length) (leftT m, rightT m))) := rfl
    rw [turnT, if_pos rfl, hl, e, flip_flip, halves_out ((Two.start m).up hm _) ((LowT.start m).up _), down_up hm _ (Two.start m)]
    exact outT_start m
  | true =>
    show turnT k row _ false = m
    have e : turnT k row m true = outT (downT k (hashH k row) (numT m.length) (roundsT m.length) (leftT (flipT k (hashH k row) m), rightT (flipT k (hashH k row) m))) := rfl
    have ht := (Two.start (flipT k (hashH k row) m))
    rw [flipT_length] at ht
    rw [turnT, if_neg (by simp), hl, e, halves_out (ht.down hm _) ((LowT.start _).down _), up_down hm _ ht]
    show flipT _ _ (outT (rightT _, leftT _)) = m
    rw [outT_start, flip_flip]

end Go.Ezt
/-
  What blake's functions compute. No program.
-/
set_option linter.unusedVariables false
namespace Go.Blake
open Go.Ops Go.Oct

def at64 (l : List UInt64) (i : Nat) : UInt64 := l.getD i 0
theorem at64_get {l : List UInt64} {i : Nat} (h : i < l.length) : l[i]? = some (at64 l i) := by simp [at64, List.getD, h]
theorem at64_some {b : List UInt64} {i : Nat} {x : UInt64} (h : b[i]? = some x) : at64 b i = x := by simp [at64, List.getD, h]
/-- Turned to the right. -/
def rot64 (x : UInt64) (n : Nat) : UInt64 := or64 (shl64 x (64 - n)) (shr64 x n)
def halfB (v : List UInt64) (a b c d : Nat) (x : UInt64) (n m : Nat) : List UInt64 :=
  let v1 := v.set a (add64 (at64 v a) (add64 (at64 v b) x))
  let v2 := v1.set d (rot64 (xor64 (at64 v1 d) (at64 v1 a)) n)
  let v3 := v2.set c (add64 (at64 v2 c) (at64 v2 d))
  v3.set b (rot64 (xor64 (at64 v3 b) (at64 v3 c)) m)
theorem halfB_length (v : List UInt64) (a b c d : Nat) (x : UInt64) (n m : Nat) : (halfB v a b c d x n m).length = v.length := by simp [halfB]
def stirB (v : List UInt64) (i by' : Nat) (x y : UInt64) : List UInt64 :=
  halfB (halfB v i (4 + (i + by') % 4) (8 + (i + 2 * by') % 4) (12 + (i + 3 * by') % 4) x 32 24) i (4 + (i + by') % 4) (8 + (i + 2 * by') % 4) (12 + (i + 3 * by') % 4) y 16 63
theorem stirB_length (v : List UInt64) (i by' : Nat) (x y : UInt64) : (stirB v i by' x y).length = v.length := by simp [stirB, halfB_length]
def firstB : List UInt64 := [0x6a09e667f3bcc908, 0xbb67ae8584caa73b, 0x3c6ef372fe94f82b, 0xa54ff53a5f1d36f1, 0x510e527fade682d1, 0x9b05688c2b3e6c1f, 0x1f83d9abfb41bd6b, 0x5be0cd19137e2179]
def rowsB : List UInt8 := [
  0, 1, 2, 3, 4, 5, 6, 7, 8, 9, 10, 11, 12, 13, 14, 15,
  14, 10, 4, 8, 9, 15, 13, 6, 1, 12, 0, 2, 11, 7, 5, 3,
  11, 8, 12, 0, 5, 2, 15, 13, 10, 14, 3, 6, 7, 1, 9, 4,
  7, 9, 3, 1, 13, 12, 11, 14, 2, 6, 5, 10, 4, 0, 15, 8,
  9, 0, 5, 7, 2, 4, 10, 15, 14, 1, 11, 12, 6, 8, 3, 13,
  2, 12, 6, 10, 0, 11, 8, 3, 4, 13, 7, 5, 15, 14, 1, 9,
  12, 5, 1, 15, 14, 13, 4, 10, 0, 7, 6, 3, 9, 2, 8, 11,
  13, 11, 7, 14, 12, 1, 3, 9, 5, 0, 15, 4, 8, 6, 2, 10,
  6, 15, 14, 9, 11, 3, 0, 8, 12, 2, 13, 7, 1, 4, 10, 5,
  10, 2, 8, 4, 7, 6, 1, 5, 15, 11, 9, 14, 3, 12, 13, 0]
def rowB (r : Nat) : List UInt8 := (rowsB.drop (16 * r)).take 16
theorem rowB_length {r : Nat} (h : r < 10) : (rowB r).length = 16 := by
  unfold rowB; rw [List.length_take, List.length_drop]; show min 16 (160 - 16 * r) = 16; omega
theorem rowB_small : ∀ r, r < 10 → ∀ i, i < 16 → (at8 (rowB r) i).toNat < 16 := by decide
def stirGo (m : List UInt64) (row : List UInt8) (v : List UInt64) : Nat → List UInt64
  | 0 => v
  | k + 1 => stirB (stirGo m row v k) (k % 4) (k / 4) (at64 m (at8 row (2 * k)).toNat) (at64 m (at8 row (2 * k + 1)).toNat)
theorem stirGo_length (m : List UInt64) (row : List UInt8) (v : List UInt64) : ∀ k, (stirGo m row v k).length = v.length
  | 0 => rfl
  | k + 1 => by rw [stirGo, stirB_length, stirGo_length m row v k]
def roundGo (m v : List UInt64) : Nat → List UInt64
  | 0 => v
  | r + 1 => stirGo m (rowB (r % 10)) (roundGo m v r) 8
theorem roundGo_length (m v : List UInt64) : ∀ r, (roundGo m v r).length = v.length
  | 0 => rfl
  | r + 1 => by rw [roundGo, stirGo_length, roundGo_length m v r]
def numbers (blk : List UInt8) : List UInt64 := (List.range 16).map fun i => longL blk (8 * i)
theorem numbers_length (blk : List UInt8) : (numbers blk).length = 16 := by simp [numbers]
def startAt (h : List UInt64) (i : Nat) : UInt64 := if i < 8 then at64 h i else at64 firstB (i - 8)
def start0 (h : List UInt64) : List UInt64 := (List.range 16).map (startAt h)
theorem start0_length (h : List UInt64) : (start0 h).length = 16 := by simp [start0]
def start2 (h : List UInt64) (lo hi : UInt64) : List UInt64 :=
  let v := (start0 h).set 12 (xor64 (at64 (start0 h) 12) lo)
  v.set 13 (xor64 (at64 v 13) hi)
theorem start2_length (h : List UInt64) (lo hi : UInt64) : (start2 h lo hi).length = 16 := by simp [start2, start0_length]
def startB (h : List UInt64) (lo hi : UInt64) (last : Bool) : List UInt64 :=
  if last = true then (start2 h lo hi).set 14 (not64 (at64 (start2 h lo hi) 14)) else start2 h lo hi
theorem startB_length (h : List UInt64) (lo hi : UInt64) (last : Bool) : (startB h lo hi last).length = 16 := by
  unfold startB; split <;> simp [start2_length]
/-- The compression of a block. -/
def outAt (h v : List UInt64) (i : Nat) : UInt64 := xor64 (at64 h i) (xor64 (at64 v i) (at64 v (i + 8)))
def compress (h : List UInt64) (blk : List UInt8) (lo hi : UInt64) (last : Bool) : List UInt64 :=
  (List.range 8).map (outAt h (roundGo (numbers blk) (startB h lo hi last) 12))
theorem compress_length (h : List UInt64) (blk : List UInt8) (lo hi : UInt64) (last : Bool) : (compress h blk lo hi last).length = 8 := by simp [compress]
def longsB : List UInt64 → List UInt8
  | [] => []
  | n :: r => putLong n ++ longsB r
theorem longsB_length : ∀ (l : List UInt64), (longsB l).length = 8 * l.length
  | [] => rfl
  | n :: r => by simp only [longsB, List.length_append, putLong_length, List.length_cons, longsB_length r]; omega
theorem longsB_snoc : ∀ (l : List UInt64) (n : UInt64), longsB (l ++ [n]) = longsB l ++ putLong n
  | [], n => by simp [longsB]
  | x :: r, n => by simp only [List.cons_append, longsB, longsB_snoc r n, List.append_assoc]
def padTo (n : Nat) (b : List UInt8) : List UInt8 := b ++ zeros (n - b.length)
/-- The sum of 48 bytes of a row of at most 128, without a key. -/
def headB : List UInt64 := firstB.set 0 (xor64 0x6a09e667f3bcc908 0x01010030)
def sum48 (b : List UInt8) : List UInt8 := (longsB (compress headB (padTo 128 b) (UInt64.ofNat b.length) 0 true)).take 48
theorem sum48_length (b : List UInt8) : (sum48 b).length = 48 := by
  unfold sum48; rw [List.length_take, longsB_length, compress_length]; rfl

end Go.Blake
/-
  The walks of blake: a number turned, four numbers stirred.
-/
namespace Go.Cells
open Go.RowKit
theorem only_drew {b : Nat} {w w' : World} (h : Only b w w') : Only b w w'.drew := ⟨h.os, h.tape, h.output, h.size, h.block⟩
theorem Blk.wset {P : Program} {w : World} {b i : Nat} {vs : List Value} {ty' : TypeId} (h : Blk w b vs ty') {ops : Array Oper} {rest : List Oper} {op : Oper} {a : Act} {Q : Exit → Act → World → Prop} {ty : TypeId} {x y : Operand} {v : Value}
    (hgd : op.guard = none) (ho : op.op = .store ty x y) (hx : a.eval x = .pointer (some ⟨b, i, none⟩)) (hy : a.eval y = v) (hs : (P.info? ty).map (·.size) = some 1) (hv : v.cells = #[v]) (h1 : v.oneCell' = true) (hi : i < vs.length)
    (k : ∀ w', Blk w' b (vs.set i v) ty' → Only b w w' → wpList P ops Q rest (a.put op.dst undef) w') : wpList P ops Q (op :: rest) a w :=
  wpList_plain hgd fun _ hK => h.opset ho hx hy hs hv h1 hi fun w' hb ho' => hK _ _ (k w' hb ho')
theorem only_drew' {b : Nat} {w w' : World} (h : Only b w.drew w') : Only b w w' := ⟨h.os, h.tape, h.output, h.size, h.block⟩
end Go.Cells
namespace Go.Proofs.YtbpghohkhngdfaaGreatDoor
open Go.RowKit Go.Mem Go.Ops Go.Cells Go.Oct Go.Blake
set_option linter.unusedSimpArgs false
set_option linter.unusedVariables false
set_option maxRecDepth 100000
attribute [local irreducible] walkR walkP walk0 walkB

theorem Tryz.sizeLong : (Tryz.prog.info? 147).map (·.size) = some 1 := by kernel_rfl

/-- The numbers by which blake turns. -/
def Turns (n : Nat) : Prop := n = 32 ∨ n = 24 ∨ n = 16 ∨ n = 63
theorem rot_ok (x : UInt64) (n : Nat) (w : World) (hn : Turns n) : Calls Tryz.prog 261 #[L x, .int .i64 (-(n : Int))] w fun e w' => e = .returned (L (rot64 x n)) ∧ w = w' := by
  rcases hn with rfl | rfl | rfl | rfl
  · show Calls _ _ #[L x, .int .i64 (-32)] w _
    have hz : IntKind.u64.wrap (-32) = 18446744073709551584 := by decide
    have hz2 : bits .and .u64 (18446744073709551584) 63 = 32 := by decide
    go_enter Tryz.func261, Tryz.ntmps261
    go_wp2
    go_ret
    exact ⟨rfl, rfl⟩
  · show Calls _ _ #[L x, .int .i64 (-24)] w _
    have hz : IntKind.u64.wrap (-24) = 18446744073709551592 := by decide
    have hz2 : bits .and .u64 (18446744073709551592) 63 = 40 := by decide
    go_enter Tryz.func261, Tryz.ntmps261
    go_wp2
    go_ret
    exact ⟨rfl, rfl⟩
  · show Calls _ _ #[L x, .int .i64 (-16)] w _
    have hz : IntKind.u64.wrap (-16) = 18446744073709551600 := by decide
    have hz2 : bits .and .u64 (18446744073709551600) 63 = 48 := by decide
    go_enter Tryz.func261, Tryz.ntmps261
    go_wp2
    go_ret
    exact ⟨rfl, rfl⟩
  · show Calls _ _ #[L x, .int .i64 (-63)] w _
    have hz : IntKind.u64.wrap (-63) = 18446744073709551553 := by decide
    have hz2 : bits .and .u64 (18446744073709551553) 63 = 1 := by decide
    go_enter Tryz.func261, Tryz.ntmps261
    go_wp2
    go_ret
    exact ⟨rfl, rfl⟩

set_option maxHeartbeats 1000000 in
theorem half_ok (pv a b c d n m : Nat) (x : UInt64) (vs : List UInt64) (w : World) (hb : Blk w pv (vs.map L) 263) (hl : vs.length = 16) (ha : a < 16) (hbl : b < 16) (hc : c < 16) (hd : d < 16) (hn : Turns n) (hm : Turns m) :
    Calls Tryz.prog 259 #[.pointer (some ⟨pv, 0, none⟩), .int .i64 a, .int .i64 b, .int .i64 c, .int .i64 d, L x, .int .i64 n, .int .i64 m] w fun e w' => (∃ v, e = .returned v) ∧ Blk w' pv ((halfB vs a b c d x n m).map L) 263 ∧ Only pv w w' := by
  have HB := Lib.hid hb
  have HL := Lib.hid hl
  have HN := Lib.hid hn
  have HM := Lib.hid hm
  have HO := Lib.hid (Only.refl pv w)
  have hn1 : IntKind.i64.wrap (-(n : Int)) = -(n : Int) := IntWalk.i64_in _ (by unfold Turns at hn; omega)
  have hm1 : IntKind.i64.wrap (-(m : Int)) = -(m : Int) := IntWalk.i64_in _ (by unfold Turns at hm; omega)
  obtain ⟨v1, hv1⟩ : ∃ v1, v1 = vs.set a (add64 (at64 vs a) (add64 (at64 vs b) x)) := ⟨_, rfl⟩
  obtain ⟨v2, hv2⟩ : ∃ v2, v2 = v1.set d (rot64 (xor64 (at64 v1 d) (at64 v1 a)) n) := ⟨_, rfl⟩
  obtain ⟨v3, hv3⟩ : ∃ v3, v3 = v2.set c (add64 (at64 v2 c) (at64 v2 d)) := ⟨_, rfl⟩
  have HE := Lib.hid (show halfB vs a b c d x n m = v3.set b (rot64 (xor64 (at64 v3 b) (at64 v3 c)) m) by rw [hv3, hv2, hv1]; rfl)
  have HL1 := Lib.hid (show v1.length = 16 by rw [hv1, List.length_set]; exact hl)
  have HL2 := Lib.hid (show v2.length = 16 by rw [hv2, List.length_set]; exact HL1.out)
  have HL3 := Lib.hid (show v3.length = 16 by rw [hv3, List.length_set]; exact HL2.out)
  have HV1 := Lib.hid hv1
  have HV2 := Lib.hid hv2
  have HV3 := Lib.hid hv3
  clear hb hl hn hm hv1 hv2 hv3
  go_enter Tryz.func259, Tryz.ntmps259
  have hc1 := fun (x : After w.drew) => (HB.out.drew.below x.later HB.out.drew.lt).cell a _ (mapL_at (at64_get (l := vs) (i := a) (by rw [HL.out]; exact ha)))
  have hc2 := fun (x : After w.drew) => (HB.out.drew.below x.later HB.out.drew.lt).cell b _ (mapL_at (at64_get (l := vs) (i := b) (by rw [HL.out]; exact hbl)))
  go_wp2_with fail
  refine wp_region_R [0, 1, 2, 3, 4, 5, 6, 7, 8, 9, 10, 11, 12, 13, 14, 15] (by kernel_rfl) (by kernel_rfl) ?_
  rintro w1 rfl
  repeat (refine walkR_one rfl rfl (fun K hK => ?_); go_big_quiet_step (fail); refine wpQuiet_nil (hK _ ?_); clear hK K)
  clear hc1 hc2
  refine walkR_free rfl rfl (by rfl) (fun K hK => ?_)
  refine HB.out.drew.opset (v := L (add64 (at64 vs a) (add64 (at64 vs b) x))) rfl rfl rfl Tryz.sizeLong rfl rfl (by rw [List.length_map, HL.out]; exact ha) (fun w2 hb2 ho2 => hK _ _ ?_)
  clear hK K
  rw [mapL_set, ← HV1.out] at hb2
  have HB := Lib.hid hb2
  have HO := Lib.hid ((only_drew HO.out).trans ho2)
  clear hb2 ho2
  go_simp
  refine walkR_nil ?_
  have hc1 := fun (x : After w2.drew) => (HB.out.drew.below x.later HB.out.drew.lt).cell a _ (mapL_at (at64_get (l := v1) (i := a) (by rw [HL1.out]; exact ha)))
  have hc2 := fun (x : After w2.drew) => (HB.out.drew.below x.later HB.out.drew.lt).cell d _ (mapL_at (at64_get (l := v1) (i := d) (by rw [HL1.out]; exact hd)))
  go_wp2_with fail
  refine wp_region_R [0, 1, 2, 3, 4, 5, 6, 7, 8, 9, 10, 11, 12, 13, 14, 16, 15, 17, 18] (by kernel_rfl) (by kernel_rfl) ?_
  rintro w3 rfl
  repeat (refine walkR_one rfl rfl (fun K hK => ?_); go_big_quiet_step (fail); refine wpQuiet_nil (hK _ ?_); clear hK K)
  clear hc1 hc2
  refine walkR_call rfl rfl (by rfl) (fun K hK => ?_)
  go_simp
  refine (rot_ok _ n _ HN.out).mono ?_
  rintro e w3 ⟨rfl, rfl⟩
  go_simp
  refine hK _ _ (Below.refl _ _) ?_
  clear hK K
  repeat (refine walkR_one rfl rfl (fun K hK => ?_); go_big_quiet_step (fail); refine wpQuiet_nil (hK _ ?_); clear hK K)
  refine walkR_free rfl rfl (by rfl) (fun K hK => ?_)
  refine HB.out.drew.opset (v := L (rot64 (xor64 (at64 v1 d) (at64 v1 a)) n)) rfl rfl rfl Tryz.sizeLong rfl rfl (by rw [List.length_map, HL1.out]; exact hd) (fun w4 hb4 ho4 => hK _ _ ?_)
  clear hK K
  rw [mapL_set, ← HV2.out] at hb4
  have HB := Lib.hid hb4
  have HO := Lib.hid ((only_drew HO.out).trans ho4)
  clear hb4 ho4
  go_simp
  refine walkR_nil ?_
  have hc1 := fun (x : After w4.drew) => (HB.out.drew.below x.later HB.out.drew.lt).cell c _ (mapL_at (at64_get (l := v2) (i := c) (by rw [HL2.out]; exact hc)))
  have hc2 := fun (x : After w4.drew) => (HB.out.drew.below x.later HB.out.drew.lt).cell d _ (mapL_at (at64_get (l := v2) (i := d) (by rw [HL2.out]; exact hd)))
  go_wp2_with fail
  refine wp_region_R [0, 1, 2, 3, 4, 5, 6, 7, 8, 9, 10, 11, 12, 13] (by kernel_rfl) (by kernel_rfl) ?_
  rintro w5 rfl
  repeat (refine walkR_one rfl rfl (fun K hK => ?_); go_big_quiet_step (fail); refine wpQuiet_nil (hK _ ?_); clear hK K)
  clear hc1 hc2
  refine walkR_free rfl rfl (by rfl) (fun K hK => ?_)
  refine HB.out.drew.opset (v := L (add64 (at64 v2 c) (at64 v2 d))) rfl rfl rfl Tryz.sizeLong rfl rfl (by rw [List.length_map, HL2.out]; exact hc) (fun w6 hb6 ho6 => hK _ _ ?_)
  clear hK K
  rw [mapL_set, ← HV3.out] at hb6
  have HB := Lib.hid hb6
  have HO := Lib.hid ((only_drew HO.out).trans ho6)
  clear hb6 ho6
  go_simp
  refine walkR_nil ?_
  have hc1 := fun (x : After w6.drew) => (HB.out.drew.below x.later HB.out.drew.lt).cell b _ (mapL_at (at64_get (l := v3) (i := b) (by rw [HL3.out]; exact hbl)))
  have hc2 := fun (x : After w6.drew) => (HB.out.drew.below x.later HB.out.drew.lt).cell c _ (mapL_at (at64_get (l := v3) (i := c) (by rw [HL3.out]; exact hc)))
  go_wp2_with fail
  refine wp_region_R [0, 1, 2, 3, 4, 5, 6, 7, 8, 9, 10, 11, 12, 13, 14, 16, 15, 17, 18] (by kernel_rfl) (by kernel_rfl) ?_
  rintro w7 rfl
  repeat (refine walkR_one rfl rfl (fun K hK => ?_); go_big_quiet_step (fail); refine wpQuiet_nil (hK _ ?_); clear hK K)
  clear hc1 hc2
  refine walkR_call rfl rfl (by rfl) (fun K hK => ?_)
  go_simp
  refine (rot_ok _ m _ HM.out).mono ?_
  rintro e w7 ⟨rfl, rfl⟩
  go_simp
  refine hK _ _ (Below.refl _ _) ?_
  clear hK K
  repeat (refine walkR_one rfl rfl (fun K hK => ?_); go_big_quiet_step (fail); refine wpQuiet_nil (hK _ ?_); clear hK K)
  refine walkR_free rfl rfl (by rfl) (fun K hK => ?_)
  refine HB.out.drew.opset (v := L (rot64 (xor64 (at64 v3 b) (at64 v3 c)) m)) rfl rfl rfl Tryz.sizeLong rfl rfl (by rw [List.length_map, HL3.out]; exact hbl) (fun w8 hb8 ho8 => hK _ _ ?_)
  clear hK K
  rw [mapL_set, ← HE.out] at hb8
  have HB := Lib.hid hb8
  have HO := Lib.hid ((only_drew HO.out).trans ho8)
  clear hb8 ho8
  go_simp
  refine walkR_nil ?_
  go_wp2
  go_end0
  exact ⟨⟨_, rfl⟩, HB.out, HO.out⟩

theorem stir_ok (pv i y' : Nat) (x y : UInt64) (vs : List UInt64) (w : World) (hb : Blk w pv (vs.map L) 263) (hl : vs.length = 16) (hi : i < 4) (hy : y' < 2) :
    Calls Tryz.prog 253 #[.pointer (some ⟨pv, 0, none⟩), .int .i64 i, .int .i64 y', L x, L y] w fun e w' => (∃ v, e = .returned v) ∧ Blk w' pv ((stirB vs i y' x y).map L) 263 ∧ Only pv w w' := by
  obtain ⟨r1, hr1⟩ : ∃ r1, r1 = (i + y') % 4 := ⟨_, rfl⟩
  obtain ⟨r2, hr2⟩ : ∃ r1, r1 = (i + 2 * y') % 4 := ⟨_, rfl⟩
  obtain ⟨r3, hr3⟩ : ∃ r1, r1 = (i + 3 * y') % 4 := ⟨_, rfl⟩
  obtain ⟨q1, hq1⟩ : ∃ r, r = 4 + r1 := ⟨_, rfl⟩
  obtain ⟨q2, hq2⟩ : ∃ r, r = 8 + r2 := ⟨_, rfl⟩
  obtain ⟨q3, hq3⟩ : ∃ r, r = 12 + r3 := ⟨_, rfl⟩
  have e1 : ((i : Int) + (y' : Int)) % 4 = (r1 : Int) := by omega
  have e2 : ((i : Int) + 2 * (y' : Int)) % 4 = (r2 : Int) := by omega
  have e3 : ((i : Int) + 3 * (y' : Int)) % 4 = (r3 : Int) := by omega
  have f1 : (4 : Int) + (r1 : Int) = (q1 : Int) := by omega
  have f2 : (8 : Int) + (r2 : Int) = (q2 : Int) := by omega
  have f3 : (12 : Int) + (r3 : Int) = (q3 : Int) := by omega
  have HE := Lib.hid (show stirB vs i y' x y = halfB (halfB vs i q1 q2 q3 x 32 24) i q1 q2 q3 y 16 63 by rw [hq1, hq2, hq3, hr1, hr2, hr3]; rfl)
  have g1 : q1 < 16 := by omega
  have g2 : q2 < 16 := by omega
  have g3 : q3 < 16 := by omega
  have HB := Lib.hid hb
  have HL := Lib.hid hl
  clear hb hl hq1 hq2 hq3 hr1 hr2 hr3
  go_enter Tryz.func253, Tryz.ntmps253
  go_wp2_with fail
  refine (half_ok pv i q1 q2 q3 32 24 x vs _ HB.out HL.out (by omega) g1 g2 g3 (.inl rfl) (.inr (.inl rfl))).mono ?_
  rintro e w1 ⟨⟨v1, rfl⟩, hb1, ho1⟩
  have HB := Lib.hid hb1
  have HO := Lib.hid ho1
  have HL := Lib.hid (show (halfB vs i q1 q2 q3 x 32 24).length = 16 by rw [halfB_length]; exact HL.out)
  generalize halfB vs i q1 q2 q3 x 32 24 = us at *
  clear hb1 ho1
  go_wp2_with fail
  refine (half_ok pv i q1 q2 q3 16 63 y us _ HB.out HL.out (by omega) g1 g2 g3 (.inr (.inr (.inl rfl))) (.inr (.inr (.inr rfl)))).mono ?_
  rintro e w2 ⟨⟨v2, rfl⟩, hb2, ho2⟩
  rw [← HE.out] at hb2
  have HB := Lib.hid hb2
  have HO := Lib.hid (HO.out.trans ho2)
  clear hb2 ho2
  go_wp2
  go_end0
  exact ⟨⟨_, rfl⟩, HB.out, HO.out⟩

end Go.Proofs.YtbpghohkhngdfaaGreatDoor
