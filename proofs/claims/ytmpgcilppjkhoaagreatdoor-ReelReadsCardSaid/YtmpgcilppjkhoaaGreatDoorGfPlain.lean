/-
  What gf's functions compute. No program.
-/
import Derived.Test.YtmpgcilppjkhoaaGreatDoorOctPlain
namespace Go.Gf
open Go.Ops Go.Oct

def dbl (a : UInt8) : UInt8 := xor8 (shl8 a 1) (mul8 (shr8 a 7) 27)
def timesGo : Nat → UInt8 → UInt8 → UInt8 → UInt8
  | 0, _, _, s => s
  | n + 1, a, b, s => if b = 0 then s else timesGo n (dbl a) (shr8 b 1) (xor8 s (mul8 a (and8 b 1)))
def times (a b : UInt8) : UInt8 := timesGo 8 a b 0

theorem timesGo_zero (n : Nat) (a s : UInt8) : timesGo n a 0 s = s := by
  cases n <;> simp [timesGo]

theorem shr8_lt (b : UInt8) (k : Nat) (h : b.toNat < 2 ^ (k + 1)) : (shr8 b 1).toNat < 2 ^ k := by
  have := lt8 b
  unfold shr8
  rw [UInt8.toNat_ofNat_of_lt' (by show _ < 256; omega)]
  rw [Nat.pow_succ] at h
  omega

theorem zero_of_toNat {b : UInt8} (h : b.toNat = 0) : b = 0 := UInt8.toNat_inj.1 (by simpa using h)

def rot8 (x : UInt8) (k : Nat) : UInt8 := or8 (shl8 x k) (shr8 x (8 - k))
def boxGo (i : UInt8) : Nat → UInt8
  | 0 => 99
  | k + 1 => xor8 (boxGo i k) (rot8 i k)
def box (i : UInt8) : UInt8 := boxGo i 5
def putL (l : List UInt8) (a b : UInt8) : List UInt8 := (l.set a.toNat b).set (256 + b.toNat) a
def powGo : Nat → UInt8
  | 0 => 1
  | k + 1 => xor8 (powGo k) (dbl (powGo k))
def makeGo : Nat → List UInt8
  | 0 => putL (zeros 512) 0 (box 0)
  | k + 1 => putL (makeGo k) (powGo k) (box (powGo ((255 - k) % 255)))
/-- Both boxes: there, and back. -/
def boxes : List UInt8 := makeGo 255

theorem putL_length (l : List UInt8) (a b : UInt8) : (putL l a b).length = l.length := by simp [putL]
theorem makeGo_length (k : Nat) : (makeGo k).length = 512 := by
  induction k with
  | zero => rw [makeGo, putL_length, zeros_length]
  | succ k ih => rw [makeGo, putL_length, ih]
theorem boxes_length : boxes.length = 512 := makeGo_length 255

end Go.Gf
