/-
  The operations on bytes, as the machine's own type has them: each is kept under a name of its own, so that a walk's frame stays small. No program.
-/
import Derived.WalkKit
import Derived.WalkLawsBesides
namespace Go.Ops

def and8 (a b : UInt8) : UInt8 := a &&& b
def or8 (a b : UInt8) : UInt8 := a ||| b
def xor8 (a b : UInt8) : UInt8 := a ^^^ b
def shr8 (a : UInt8) (n : Nat) : UInt8 := UInt8.ofNat (a.toNat / 2 ^ n)
def shl8 (a : UInt8) (n : Nat) : UInt8 := UInt8.ofNat (a.toNat * 2 ^ n)

theorem ofInt8 (a : UInt8) : BitVec.ofInt 8 (a.toNat : Int) = a.toBitVec := by
  rw [BitVec.ofInt_natCast]
  exact BitVec.ofNat_toNat _ _ |>.trans (by simp)

theorem wrap8 (n : Nat) (h : n < 256) : IntKind.u8.wrap (n : Int) = n := by
  simp [IntKind.wrap, IntKind.bits, IntKind.signed]; omega

theorem lt8 (a : UInt8) : a.toNat < 256 := a.toNat_lt

@[go_sem high] theorem bits_and8 (a b : UInt8) : bits .and .u8 (a.toNat : Int) (b.toNat : Int) = ((and8 a b).toNat : Int) := by
  show IntKind.u8.wrap ((BitVec.ofInt 8 (a.toNat : Int) &&& BitVec.ofInt 8 (b.toNat : Int)).toNat : Int) = _
  rw [ofInt8, ofInt8, wrap8 _ (BitVec.isLt _)]; rfl
@[go_sem high] theorem bits_or8 (a b : UInt8) : bits .or .u8 (a.toNat : Int) (b.toNat : Int) = ((or8 a b).toNat : Int) := by
  show IntKind.u8.wrap ((BitVec.ofInt 8 (a.toNat : Int) ||| BitVec.ofInt 8 (b.toNat : Int)).toNat : Int) = _
  rw [ofInt8, ofInt8, wrap8 _ (BitVec.isLt _)]; rfl
@[go_sem high] theorem bits_xor8 (a b : UInt8) : bits .xor .u8 (a.toNat : Int) (b.toNat : Int) = ((xor8 a b).toNat : Int) := by
  show IntKind.u8.wrap ((BitVec.ofInt 8 (a.toNat : Int) ^^^ BitVec.ofInt 8 (b.toNat : Int)).toNat : Int) = _
  rw [ofInt8, ofInt8, wrap8 _ (BitVec.isLt _)]; rfl

theorem lit8 (n : Nat) (h : n < 256) : (n : Int) = ((UInt8.ofNat n).toNat : Int) := by
  rw [UInt8.toNat_ofNat_of_lt' h]

@[go_sem high] theorem bits_and8_lit (a : UInt8) (n : Nat) (h : n < 256) : bits .and .u8 (a.toNat : Int) (no_index (OfNat.ofNat n)) = ((and8 a (UInt8.ofNat n)).toNat : Int) := by
  rw [← bits_and8, ← lit8 n h]; rfl
@[go_sem high] theorem bits_or8_lit (a : UInt8) (n : Nat) (h : n < 256) : bits .or .u8 (a.toNat : Int) (no_index (OfNat.ofNat n)) = ((or8 a (UInt8.ofNat n)).toNat : Int) := by
  rw [← bits_or8, ← lit8 n h]; rfl
@[go_sem high] theorem bits_xor8_lit (a : UInt8) (n : Nat) (h : n < 256) : bits .xor .u8 (a.toNat : Int) (no_index (OfNat.ofNat n)) = ((xor8 a (UInt8.ofNat n)).toNat : Int) := by
  rw [← bits_xor8, ← lit8 n h]; rfl

@[go_sem] theorem div_pow8 (a : UInt8) (n : Nat) : (a.toNat : Int) / 2 ^ n = ((shr8 a n).toNat : Int) := by
  have h := lt8 a
  have hd : a.toNat / 2 ^ n < 256 := Nat.lt_of_le_of_lt (Nat.div_le_self _ _) h
  unfold shr8
  rw [UInt8.toNat_ofNat_of_lt' hd]
  simp

@[go_sem] theorem mul_pow8 (a : UInt8) (n : Nat) : (a.toNat : Int) * 2 ^ n % 256 = ((shl8 a n).toNat : Int) := by
  unfold shl8
  rw [UInt8.toNat_ofNat']
  simp

/-- Of all bytes, by looking at each. -/
theorem all8 {p : UInt8 → Prop} (h : ∀ n, n < 256 → p (UInt8.ofNat n)) (b : UInt8) : p b := by
  have := h b.toNat b.toNat_lt
  rwa [UInt8.ofNat_toNat] at this

end Go.Ops
