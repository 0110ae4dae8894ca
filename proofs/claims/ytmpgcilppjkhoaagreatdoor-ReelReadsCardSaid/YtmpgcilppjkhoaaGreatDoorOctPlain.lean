/-
  What octet's functions compute. No program.
-/
import Derived.Test.YtmpgcilppjkhoaaGreatDoorCells
namespace Go.Oct
open Go.Ops

/-- A row's byte; behind its end 0. -/
def at8 (b : List UInt8) (i : Nat) : UInt8 := b.getD i 0
def gather (f : Nat → UInt8) : Nat → UInt64
  | 0 => 0
  | k + 1 => or64 (gather f k) (shl64 (up8_64 (f k)) (8 * k))
def longL (b : List UInt8) (at' : Nat) : UInt64 := gather (fun k => at8 b (at' + k)) 8
def wordL (b : List UInt8) (at' : Nat) : UInt32 := lo64_32 (gather (fun k => at8 b (at' + k)) 4)
def putWord (n : UInt32) : List UInt8 := (List.range 4).map fun k => lo32_8 (shr32 n (8 * k))
def putLong (n : UInt64) : List UInt8 := (List.range 8).map fun k => lo64_8 (shr64 n (8 * k))
def block (b : List UInt8) : List UInt8 := (List.range 16).map fun k => at8 b k
def xorL (a b : List UInt8) : List UInt8 := (List.range (min a.length b.length)).map fun i => xor8 (at8 a i) (at8 b i)
def roomL (n size : Nat) : Nat := (size - n % size) % size
def padL (b : List UInt8) (size : Nat) : List UInt8 := b ++ List.replicate (roomL b.length size) 0
def markL (b : List UInt8) (mark : UInt8) (size : Nat) : List UInt8 := padL (b ++ [mark]) size

def zeros (n : Nat) : List UInt8 := List.replicate n 0
theorem zeros_length (n : Nat) : (zeros n).length = n := by simp [zeros]

theorem putWord_length (n : UInt32) : (putWord n).length = 4 := by simp [putWord]
theorem putLong_length (n : UInt64) : (putLong n).length = 8 := by simp [putLong]
theorem block_length (b : List UInt8) : (block b).length = 16 := by simp [block]
theorem xorL_length (a b : List UInt8) : (xorL a b).length = min a.length b.length := by simp [xorL]

/-- The first k places of a row hold what is told of them. -/
def Filled {α : Type} (f : Nat → α) (n k : Nat) (l : List α) : Prop := l.length = n ∧ ∀ i, i < k → l[i]? = some (f i)

theorem Filled.zero {α : Type} {f : Nat → α} {n : Nat} {l : List α} (h : l.length = n) : Filled f n 0 l := ⟨h, fun i hi => absurd hi (by omega)⟩
theorem Filled.step {α : Type} {f : Nat → α} {n k : Nat} {l : List α} (h : Filled f n k l) (hk : k < n) : Filled f n (k + 1) (l.set k (f k)) := by
  refine ⟨by simpa using h.1, fun i hi => ?_⟩
  rw [List.getElem?_set]
  by_cases e : k = i
  · subst e
    simp [h.1, hk]
  · rw [if_neg e]
    exact h.2 i (by omega)
theorem Filled.all {α : Type} {f : Nat → α} {n : Nat} {l : List α} (h : Filled f n n l) : l = (List.range n).map f := by
  apply List.ext_getElem?
  intro i
  by_cases hi : i < n
  · rw [h.2 i hi]; simp [hi]
  · rw [List.getElem?_eq_none (by have := h.1; omega), List.getElem?_eq_none (by simp; omega)]
theorem Filled.at {α : Type} {f : Nat → α} {n k : Nat} {l : List α} (h : Filled f n k l) {i : Nat} (hi : i < n) : ∃ x, l[i]? = some x := ⟨l[i]'(by have := h.1; omega), by simp⟩

theorem at8_some {b : List UInt8} {i : Nat} {x : UInt8} (h : b[i]? = some x) : at8 b i = x := by simp [at8, List.getD, h]
theorem at8_none {b : List UInt8} {i : Nat} (h : b.length ≤ i) : at8 b i = 0 := by simp [at8, List.getD, h]
theorem at8_get {b : List UInt8} {i : Nat} (h : i < b.length) : b[i]? = some (at8 b i) := by simp [at8, List.getD, h]

theorem Filled.splice {α : Type} {f : Nat → α} {n k m : Nat} {l cs : List α} (h : Filled f n k l) (hm : k + m ≤ n) (hc : cs.length = m) (hcs : ∀ j, j < m → cs[j]? = some (f (k + j))) : Filled f n (k + m) (splice l k cs) := by
  have hl := h.1
  refine ⟨by rw [length_splice _ _ _ (by omega)]; exact hl, fun i hi => ?_⟩
  unfold Go.splice
  by_cases h1 : i < k
  · rw [List.getElem?_append_left (by rw [List.length_take]; omega), List.getElem?_take_of_lt h1]
    exact h.2 i h1
  · rw [List.getElem?_append_right (by rw [List.length_take]; omega), List.length_take, Nat.min_eq_left (by omega), List.getElem?_append_left (by omega), hcs _ (by omega)]
    congr 2
    omega
theorem splice_map {α β : Type} (g : α → β) (l cs : List α) (k : Nat) : Go.splice (l.map g) k (cs.map g) = (Go.splice l k cs).map g := by
  simp [Go.splice]

end Go.Oct
