/-
  What turn's functions compute. No program.
-/
import Derived.Test.YtmpgcilppjkhoaaGreatDoorGfPlain
namespace Go.Trn
open Go.Ops Go.Oct Go.Gf

def at32 (l : List UInt32) (i : Nat) : UInt32 := l.getD i 0
theorem at32_get {l : List UInt32} {i : Nat} (h : i < l.length) : l[i]? = some (at32 l i) := by simp [at32, List.getD, h]

def mixes : List UInt8 := [2, 3, 1, 1]
def unmixes : List UInt8 := [14, 11, 13, 9]
def bringsGo (by' : List UInt8) (row : Nat) (a : UInt8) : Nat → UInt32
  | 0 => 0
  | r + 1 => or32 (bringsGo by' row a r) (shl32 (up8_32 (times (at8 by' ((row + 4 - r) % 4)) a)) (8 * r))
def brings (by' : List UInt8) (row : Nat) (a : UInt8) : UInt32 := bringsGo by' row a 4
def shifted (row column : Nat) : Nat := row + 4 * ((column + row) % 4)
/-- The exclusive or of two blocks. -/
def both (a b : List UInt8) : List UInt8 := (List.range 16).map fun i => xor8 (at8 a i) (at8 b i)

/-- A table's entry: mixed of the box of a byte, or mixed back of the byte. -/
def entry (T : List UInt8) (i : Nat) : UInt32 :=
  if i < 1024 then brings mixes (i / 256) (at8 T (i % 256)) else brings unmixes ((i - 1024) / 256) (UInt8.ofNat (i % 256))
def entries (T : List UInt8) : List UInt32 := (List.range 2048).map (entry T)
/-- The first k entries of both halves are laid. -/
def Laid (T : List UInt8) (k : Nat) (l : List UInt32) : Prop := l.length = 2048 ∧ ∀ i, i < k → l[i]? = some (entry T i) ∧ l[1024 + i]? = some (entry T (1024 + i))

theorem Laid.zero {T : List UInt8} {l : List UInt32} (h : l.length = 2048) : Laid T 0 l := ⟨h, fun i hi => absurd hi (by omega)⟩
theorem Laid.step {T : List UInt8} {k : Nat} {l : List UInt32} (h : Laid T k l) (hk : k < 1024) : Laid T (k + 1) ((l.set k (entry T k)).set (1024 + k) (entry T (1024 + k))) := by
  refine ⟨by simpa using h.1, fun i hi => ?_⟩
  have hl := h.1
  by_cases e : i = k
  · subst e
    constructor
    · rw [List.getElem?_set_ne (by omega), List.getElem?_set_self (by omega)]
    · rw [List.getElem?_set_self (by rw [List.length_set]; omega)]
  · obtain ⟨h1, h2⟩ := h.2 i (by omega)
    constructor
    · rw [List.getElem?_set_ne (by omega), List.getElem?_set_ne (by omega)]; exact h1
    · rw [List.getElem?_set_ne (by omega), List.getElem?_set_ne (by omega)]; exact h2
theorem Laid.all {T : List UInt8} {l : List UInt32} (h : Laid T 1024 l) : l = entries T := by
  apply List.ext_getElem?
  intro i
  by_cases hi : i < 1024
  · rw [(h.2 i hi).1]; simp [entries, show i < 2048 by omega]
  · by_cases hi2 : i < 2048
    · have := (h.2 (i - 1024) (by omega)).2
      rw [show 1024 + (i - 1024) = i by omega] at this
      rw [this]; simp [entries, hi2]
    · rw [List.getElem?_eq_none (by have := h.1; omega), List.getElem?_eq_none (by simp [entries]; omega)]
theorem entries_length (T : List UInt8) : (entries T).length = 2048 := by simp [entries]
theorem Laid.at {T : List UInt8} {k : Nat} {l : List UInt32} (h : Laid T k l) {i : Nat} (hi : i < 2048) : ∃ x, l[i]? = some x := ⟨l[i]'(by have := h.1; omega), by simp⟩

def tab (r : Nat) (x : UInt8) : UInt32 := at32 (entries boxes) (256 * r + x.toNat)
def untab (r : Nat) (x : UInt8) : UInt32 := at32 (entries boxes) (1024 + 256 * r + x.toNat)
def roundGo (b key : List UInt8) (c : Nat) : Nat → UInt32
  | 0 => wordL key (4 * c)
  | r + 1 => xor32 (roundGo b key c r) (tab r (at8 b (shifted r c)))
def roundAt (b key : List UInt8) (i : Nat) : UInt8 := at8 (putWord (roundGo b key (i / 4) 4)) (i % 4)
def round (b key : List UInt8) : List UInt8 := (List.range 16).map (roundAt b key)
theorem roundAt_at (b key : List UInt8) (k j : Nat) (hj : j < 4) : (putWord (roundGo b key k 4))[j]? = some (roundAt b key (4 * k + j)) := by
  unfold roundAt
  rw [show (4 * k + j) / 4 = k by omega, show (4 * k + j) % 4 = j by omega]
  exact at8_get (by rw [putWord_length]; exact hj)
def lastAt (b : List UInt8) (i : Nat) : UInt8 := at8 boxes (at8 b (shifted (i % 4) (i / 4))).toNat
def last (b key : List UInt8) : List UInt8 := both ((List.range 16).map (lastAt b)) key
def unboxedAt (b : List UInt8) (i : Nat) : UInt8 := at8 boxes (256 + (at8 b (i % 4 + 4 * ((i / 4 + 4 - i % 4) % 4))).toNat)
def unboxed (b : List UInt8) : List UInt8 := (List.range 16).map (unboxedAt b)
def unroundGo (b : List UInt8) (c : Nat) : Nat → UInt32
  | 0 => 0
  | r + 1 => xor32 (unroundGo b c r) (untab r (at8 b (r + 4 * c)))
def unroundAt (b : List UInt8) (i : Nat) : UInt8 := at8 (putWord (unroundGo b (i / 4) 4)) (i % 4)
theorem unroundAt_at (b : List UInt8) (k j : Nat) (hj : j < 4) : (putWord (unroundGo b k 4))[j]? = some (unroundAt b (4 * k + j)) := by
  unfold unroundAt
  rw [show (4 * k + j) / 4 = k by omega, show (4 * k + j) % 4 = j by omega]
  exact at8_get (by rw [putWord_length]; exact hj)
def unround (b key : List UInt8) : List UInt8 := unboxed ((List.range 16).map (unroundAt (both b key)))
def unlast (b key : List UInt8) : List UInt8 := unboxed (both b key)
def rounds (b : List UInt8) (keys : List (List UInt8)) : List UInt8 := keys.foldl round b

theorem both_length (a b : List UInt8) : (both a b).length = 16 := by simp [both]
theorem round_length (b key : List UInt8) : (round b key).length = 16 := by simp [round]
theorem last_length (b key : List UInt8) : (last b key).length = 16 := by simp [last, both]
theorem unboxed_length (b : List UInt8) : (unboxed b).length = 16 := by simp [unboxed]
theorem unround_length (b key : List UInt8) : (unround b key).length = 16 := by simp [unround, unboxed]
theorem unlast_length (b key : List UInt8) : (unlast b key).length = 16 := by simp [unlast, unboxed]

end Go.Trn
