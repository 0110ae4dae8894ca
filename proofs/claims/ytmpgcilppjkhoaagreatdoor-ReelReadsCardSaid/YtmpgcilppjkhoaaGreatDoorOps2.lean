/-
  The operations on numbers of 8, 32 and 64 bits, as the machine's own types have them: each is kept under a name of its own, so that a walk's frame stays small. No program.
-/
import Derived.Test.YtmpgcilppjkhoaaGreatDoorOps
namespace Go.Ops

/-- Numbers of 32 and of 64 bits as values. -/
abbrev W (x : UInt32) : Value := .int .u32 (x.toNat : Int)
abbrev L (x : UInt64) : Value := .int .u64 (x.toNat : Int)

@[go_sem high] theorem bits_and8_lit' (a : UInt8) (n : Nat) (h : n < 256) : bits .and .u8 (no_index (OfNat.ofNat n)) (a.toNat : Int) = ((and8 (UInt8.ofNat n) a).toNat : Int) := by
  rw [← bits_and8, ← lit8 n h]; rfl
@[go_sem high] theorem bits_or8_lit' (a : UInt8) (n : Nat) (h : n < 256) : bits .or .u8 (no_index (OfNat.ofNat n)) (a.toNat : Int) = ((or8 (UInt8.ofNat n) a).toNat : Int) := by
  rw [← bits_or8, ← lit8 n h]; rfl
@[go_sem high] theorem bits_xor8_lit' (a : UInt8) (n : Nat) (h : n < 256) : bits .xor .u8 (no_index (OfNat.ofNat n)) (a.toNat : Int) = ((xor8 (UInt8.ofNat n) a).toNat : Int) := by
  rw [← bits_xor8, ← lit8 n h]; rfl
def not8 (a : UInt8) : UInt8 := ~~~a
def add8 (a b : UInt8) : UInt8 := a + b
def sub8 (a b : UInt8) : UInt8 := a - b
def mul8 (a b : UInt8) : UInt8 := a * b
theorem wrapmod8 (n : Int) : IntKind.u8.wrap n = n % 256 := by
  simp [IntKind.wrap, IntKind.bits, IntKind.signed]
theorem wrap_add8 (a b : UInt8) : IntKind.u8.wrap ((a.toNat : Int) + (b.toNat : Int)) = ((add8 a b).toNat : Int) := by
  rw [wrapmod8]; unfold add8; rw [UInt8.toNat_add]; simp
theorem wrap_sub8 (a b : UInt8) : IntKind.u8.wrap ((a.toNat : Int) - (b.toNat : Int)) = ((sub8 a b).toNat : Int) := by
  rw [wrapmod8]; unfold sub8; rw [UInt8.toNat_sub]
  have := lt8 a; have := lt8 b
  omega
theorem wrap_mul8 (a b : UInt8) : IntKind.u8.wrap ((a.toNat : Int) * (b.toNat : Int)) = ((mul8 a b).toNat : Int) := by
  rw [wrapmod8]; unfold mul8; rw [UInt8.toNat_mul]; simp
@[go_sem high] theorem arith_add8 (a b : UInt8) : Op.intArith .add .u8 (a.toNat : Int) (b.toNat : Int) = pure (.int .u8 (((add8 a b).toNat : Nat) : Int)) := by
  rw [← wrap_add8]; rfl
@[go_sem high] theorem arith_add8_lit (a : UInt8) (n : Nat) (h : n < 256) : Op.intArith .add .u8 (a.toNat : Int) (no_index (OfNat.ofNat n)) = pure (.int .u8 (((add8 a (UInt8.ofNat n)).toNat : Nat) : Int)) := by
  rw [← arith_add8, ← lit8 n h]; rfl
@[go_sem high] theorem arith_add8_lit' (a : UInt8) (n : Nat) (h : n < 256) : Op.intArith .add .u8 (no_index (OfNat.ofNat n)) (a.toNat : Int) = pure (.int .u8 (((add8 (UInt8.ofNat n) a).toNat : Nat) : Int)) := by
  rw [← arith_add8, ← lit8 n h]; rfl
@[go_sem high] theorem wrap_add8_lit (a : UInt8) (n : Nat) (h : n < 256) : IntKind.u8.wrap ((a.toNat : Int) + (no_index (OfNat.ofNat n))) = ((add8 a (UInt8.ofNat n)).toNat : Int) := by
  rw [← wrap_add8, ← lit8 n h]; rfl
@[go_sem high] theorem wrap_add8_lit' (a : UInt8) (n : Nat) (h : n < 256) : IntKind.u8.wrap ((no_index (OfNat.ofNat n)) + (a.toNat : Int)) = ((add8 (UInt8.ofNat n) a).toNat : Int) := by
  rw [← wrap_add8, ← lit8 n h]; rfl
@[go_sem high] theorem wrap_add8' (a b : UInt8) : IntKind.u8.wrap ((a.toNat : Int) + (b.toNat : Int)) = ((add8 a b).toNat : Int) := wrap_add8 a b
@[go_sem high] theorem arith_sub8 (a b : UInt8) : Op.intArith .sub .u8 (a.toNat : Int) (b.toNat : Int) = pure (.int .u8 (((sub8 a b).toNat : Nat) : Int)) := by
  rw [← wrap_sub8]; rfl
@[go_sem high] theorem arith_sub8_lit (a : UInt8) (n : Nat) (h : n < 256) : Op.intArith .sub .u8 (a.toNat : Int) (no_index (OfNat.ofNat n)) = pure (.int .u8 (((sub8 a (UInt8.ofNat n)).toNat : Nat) : Int)) := by
  rw [← arith_sub8, ← lit8 n h]; rfl
@[go_sem high] theorem arith_sub8_lit' (a : UInt8) (n : Nat) (h : n < 256) : Op.intArith .sub .u8 (no_index (OfNat.ofNat n)) (a.toNat : Int) = pure (.int .u8 (((sub8 (UInt8.ofNat n) a).toNat : Nat) : Int)) := by
  rw [← arith_sub8, ← lit8 n h]; rfl
@[go_sem high] theorem wrap_sub8_lit (a : UInt8) (n : Nat) (h : n < 256) : IntKind.u8.wrap ((a.toNat : Int) - (no_index (OfNat.ofNat n))) = ((sub8 a (UInt8.ofNat n)).toNat : Int) := by
  rw [← wrap_sub8, ← lit8 n h]; rfl
@[go_sem high] theorem wrap_sub8_lit' (a : UInt8) (n : Nat) (h : n < 256) : IntKind.u8.wrap ((no_index (OfNat.ofNat n)) - (a.toNat : Int)) = ((sub8 (UInt8.ofNat n) a).toNat : Int) := by
  rw [← wrap_sub8, ← lit8 n h]; rfl
@[go_sem high] theorem wrap_sub8' (a b : UInt8) : IntKind.u8.wrap ((a.toNat : Int) - (b.toNat : Int)) = ((sub8 a b).toNat : Int) := wrap_sub8 a b
@[go_sem high] theorem arith_mul8 (a b : UInt8) : Op.intArith .mul .u8 (a.toNat : Int) (b.toNat : Int) = pure (.int .u8 (((mul8 a b).toNat : Nat) : Int)) := by
  rw [← wrap_mul8]; rfl
@[go_sem high] theorem arith_mul8_lit (a : UInt8) (n : Nat) (h : n < 256) : Op.intArith .mul .u8 (a.toNat : Int) (no_index (OfNat.ofNat n)) = pure (.int .u8 (((mul8 a (UInt8.ofNat n)).toNat : Nat) : Int)) := by
  rw [← arith_mul8, ← lit8 n h]; rfl
@[go_sem high] theorem arith_mul8_lit' (a : UInt8) (n : Nat) (h : n < 256) : Op.intArith .mul .u8 (no_index (OfNat.ofNat n)) (a.toNat : Int) = pure (.int .u8 (((mul8 (UInt8.ofNat n) a).toNat : Nat) : Int)) := by
  rw [← arith_mul8, ← lit8 n h]; rfl
@[go_sem high] theorem wrap_mul8_lit (a : UInt8) (n : Nat) (h : n < 256) : IntKind.u8.wrap ((a.toNat : Int) * (no_index (OfNat.ofNat n))) = ((mul8 a (UInt8.ofNat n)).toNat : Int) := by
  rw [← wrap_mul8, ← lit8 n h]; rfl
@[go_sem high] theorem wrap_mul8_lit' (a : UInt8) (n : Nat) (h : n < 256) : IntKind.u8.wrap ((no_index (OfNat.ofNat n)) * (a.toNat : Int)) = ((mul8 (UInt8.ofNat n) a).toNat : Int) := by
  rw [← wrap_mul8, ← lit8 n h]; rfl
@[go_sem high] theorem wrap_mul8' (a b : UInt8) : IntKind.u8.wrap ((a.toNat : Int) * (b.toNat : Int)) = ((mul8 a b).toNat : Int) := wrap_mul8 a b
theorem shr_eq8 (a : UInt8) (n : Nat) : (a.toNat : Int) / 2 ^ n = ((shr8 a n).toNat : Int) := by
  have h := lt8 a
  have hd : a.toNat / 2 ^ n < 256 := Nat.lt_of_le_of_lt (Nat.div_le_self _ _) h
  unfold shr8
  rw [UInt8.toNat_ofNat_of_lt' hd]
  simp
theorem shl_eq8 (a : UInt8) (n : Nat) : IntKind.u8.wrap ((a.toNat : Int) * 2 ^ n) = ((shl8 a n).toNat : Int) := by
  rw [wrapmod8]; unfold shl8
  rw [UInt8.toNat_ofNat']
  simp
@[go_sem high] theorem shift_shr8_lit (a : UInt8) (yk : IntKind) (n : Nat) (h : n ≤ 8) : Op.shift .shr .u8 (a.toNat : Int) yk (no_index (OfNat.ofNat n)) = pure (.int .u8 ((shr8 a n).toNat : Int)) := by
  rw [← shr_eq8]
  exact shift_shr .u8 yk _ (n : Int) (by omega) (by simp [IntKind.bits]; omega)
@[go_sem high] theorem shift_shl8_lit (a : UInt8) (yk : IntKind) (n : Nat) (h : n ≤ 8) : Op.shift .shl .u8 (a.toNat : Int) yk (no_index (OfNat.ofNat n)) = pure (.int .u8 ((shl8 a n).toNat : Int)) := by
  rw [← shl_eq8]
  exact shift_shl .u8 yk _ (n : Int) (by omega) (by simp [IntKind.bits]; omega)
@[go_sem high] theorem wrap_shl8 (a : UInt8) (n : Nat) : IntKind.u8.wrap ((a.toNat : Int) * 2 ^ n) = ((shl8 a n).toNat : Int) := shl_eq8 a n
@[go_sem high] theorem wrap_self8 (a : UInt8) : IntKind.u8.wrap (a.toNat : Int) = (a.toNat : Int) := wrap8 _ (lt8 a)

def and32 (a b : UInt32) : UInt32 := a &&& b
def or32 (a b : UInt32) : UInt32 := a ||| b
def xor32 (a b : UInt32) : UInt32 := a ^^^ b
def shr32 (a : UInt32) (n : Nat) : UInt32 := UInt32.ofNat (a.toNat / 2 ^ n)
def shl32 (a : UInt32) (n : Nat) : UInt32 := UInt32.ofNat (a.toNat * 2 ^ n)
theorem ofInt32 (a : UInt32) : BitVec.ofInt 32 (a.toNat : Int) = a.toBitVec := by
  rw [BitVec.ofInt_natCast]
  exact BitVec.ofNat_toNat _ _ |>.trans (by simp)
theorem wrap32 (n : Nat) (h : n < 4294967296) : IntKind.u32.wrap (n : Int) = n := by
  simp [IntKind.wrap, IntKind.bits, IntKind.signed]; omega
theorem lt32 (a : UInt32) : a.toNat < 4294967296 := a.toNat_lt
theorem lit32 (n : Nat) (h : n < 4294967296) : (n : Int) = ((UInt32.ofNat n).toNat : Int) := by
  rw [UInt32.toNat_ofNat_of_lt' h]

@[go_sem high] theorem bits_and32 (a b : UInt32) : bits .and .u32 (a.toNat : Int) (b.toNat : Int) = ((and32 a b).toNat : Int) := by
  show IntKind.u32.wrap ((BitVec.ofInt 32 (a.toNat : Int) &&& BitVec.ofInt 32 (b.toNat : Int)).toNat : Int) = _
  rw [ofInt32, ofInt32, wrap32 _ (BitVec.isLt _)]; rfl
@[go_sem high] theorem bits_and32_lit (a : UInt32) (n : Nat) (h : n < 4294967296) : bits .and .u32 (a.toNat : Int) (no_index (OfNat.ofNat n)) = ((and32 a (UInt32.ofNat n)).toNat : Int) := by
  rw [← bits_and32, ← lit32 n h]; rfl
@[go_sem high] theorem bits_or32 (a b : UInt32) : bits .or .u32 (a.toNat : Int) (b.toNat : Int) = ((or32 a b).toNat : Int) := by
  show IntKind.u32.wrap ((BitVec.ofInt 32 (a.toNat : Int) ||| BitVec.ofInt 32 (b.toNat : Int)).toNat : Int) = _
  rw [ofInt32, ofInt32, wrap32 _ (BitVec.isLt _)]; rfl
@[go_sem high] theorem bits_or32_lit (a : UInt32) (n : Nat) (h : n < 4294967296) : bits .or .u32 (a.toNat : Int) (no_index (OfNat.ofNat n)) = ((or32 a (UInt32.ofNat n)).toNat : Int) := by
  rw [← bits_or32, ← lit32 n h]; rfl
@[go_sem high] theorem bits_xor32 (a b : UInt32) : bits .xor .u32 (a.toNat : Int) (b.toNat : Int) = ((xor32 a b).toNat : Int) := by
  show IntKind.u32.wrap ((BitVec.ofInt 32 (a.toNat : Int) ^^^ BitVec.ofInt 32 (b.toNat : Int)).toNat : Int) = _
  rw [ofInt32, ofInt32, wrap32 _ (BitVec.isLt _)]; rfl
@[go_sem high] theorem bits_xor32_lit (a : UInt32) (n : Nat) (h : n < 4294967296) : bits .xor .u32 (a.toNat : Int) (no_index (OfNat.ofNat n)) = ((xor32 a (UInt32.ofNat n)).toNat : Int) := by
  rw [← bits_xor32, ← lit32 n h]; rfl
@[go_sem high] theorem bits_and32_lit' (a : UInt32) (n : Nat) (h : n < 4294967296) : bits .and .u32 (no_index (OfNat.ofNat n)) (a.toNat : Int) = ((and32 (UInt32.ofNat n) a).toNat : Int) := by
  rw [← bits_and32, ← lit32 n h]; rfl
@[go_sem high] theorem bits_or32_lit' (a : UInt32) (n : Nat) (h : n < 4294967296) : bits .or .u32 (no_index (OfNat.ofNat n)) (a.toNat : Int) = ((or32 (UInt32.ofNat n) a).toNat : Int) := by
  rw [← bits_or32, ← lit32 n h]; rfl
@[go_sem high] theorem bits_xor32_lit' (a : UInt32) (n : Nat) (h : n < 4294967296) : bits .xor .u32 (no_index (OfNat.ofNat n)) (a.toNat : Int) = ((xor32 (UInt32.ofNat n) a).toNat : Int) := by
  rw [← bits_xor32, ← lit32 n h]; rfl
def not32 (a : UInt32) : UInt32 := ~~~a
def add32 (a b : UInt32) : UInt32 := a + b
def sub32 (a b : UInt32) : UInt32 := a - b
def mul32 (a b : UInt32) : UInt32 := a * b
theorem wrapmod32 (n : Int) : IntKind.u32.wrap n = n % 4294967296 := by
  simp [IntKind.wrap, IntKind.bits, IntKind.signed]
theorem wrap_add32 (a b : UInt32) : IntKind.u32.wrap ((a.toNat : Int) + (b.toNat : Int)) = ((add32 a b).toNat : Int) := by
  rw [wrapmod32]; unfold add32; rw [UInt32.toNat_add]; simp
theorem wrap_sub32 (a b : UInt32) : IntKind.u32.wrap ((a.toNat : Int) - (b.toNat : Int)) = ((sub32 a b).toNat : Int) := by
  rw [wrapmod32]; unfold sub32; rw [UInt32.toNat_sub]
  have := lt32 a; have := lt32 b
  omega
theorem wrap_mul32 (a b : UInt32) : IntKind.u32.wrap ((a.toNat : Int) * (b.toNat : Int)) = ((mul32 a b).toNat : Int) := by
  rw [wrapmod32]; unfold mul32; rw [UInt32.toNat_mul]; simp
@[go_sem high] theorem arith_add32 (a b : UInt32) : Op.intArith .add .u32 (a.toNat : Int) (b.toNat : Int) = pure (.int .u32 (((add32 a b).toNat : Nat) : Int)) := by
  rw [← wrap_add32]; rfl
@[go_sem high] theorem arith_add32_lit (a : UInt32) (n : Nat) (h : n < 4294967296) : Op.intArith .add .u32 (a.toNat : Int) (no_index (OfNat.ofNat n)) = pure (.int .u32 (((add32 a (UInt32.ofNat n)).toNat : Nat) : Int)) := by
  rw [← arith_add32, ← lit32 n h]; rfl
@[go_sem high] theorem arith_add32_lit' (a : UInt32) (n : Nat) (h : n < 4294967296) : Op.intArith .add .u32 (no_index (OfNat.ofNat n)) (a.toNat : Int) = pure (.int .u32 (((add32 (UInt32.ofNat n) a).toNat : Nat) : Int)) := by
  rw [← arith_add32, ← lit32 n h]; rfl
@[go_sem high] theorem wrap_add32_lit (a : UInt32) (n : Nat) (h : n < 4294967296) : IntKind.u32.wrap ((a.toNat : Int) + (no_index (OfNat.ofNat n))) = ((add32 a (UInt32.ofNat n)).toNat : Int) := by
  rw [← wrap_add32, ← lit32 n h]; rfl
@[go_sem high] theorem wrap_add32_lit' (a : UInt32) (n : Nat) (h : n < 4294967296) : IntKind.u32.wrap ((no_index (OfNat.ofNat n)) + (a.toNat : Int)) = ((add32 (UInt32.ofNat n) a).toNat : Int) := by
  rw [← wrap_add32, ← lit32 n h]; rfl
@[go_sem high] theorem wrap_add32' (a b : UInt32) : IntKind.u32.wrap ((a.toNat : Int) + (b.toNat : Int)) = ((add32 a b).toNat : Int) := wrap_add32 a b
@[go_sem high] theorem arith_sub32 (a b : UInt32) : Op.intArith .sub .u32 (a.toNat : Int) (b.toNat : Int) = pure (.int .u32 (((sub32 a b).toNat : Nat) : Int)) := by
  rw [← wrap_sub32]; rfl
@[go_sem high] theorem arith_sub32_lit (a : UInt32) (n : Nat) (h : n < 4294967296) : Op.intArith .sub .u32 (a.toNat : Int) (no_index (OfNat.ofNat n)) = pure (.int .u32 (((sub32 a (UInt32.ofNat n)).toNat : Nat) : Int)) := by
  rw [← arith_sub32, ← lit32 n h]; rfl
@[go_sem high] theorem arith_sub32_lit' (a : UInt32) (n : Nat) (h : n < 4294967296) : Op.intArith .sub .u32 (no_index (OfNat.ofNat n)) (a.toNat : Int) = pure (.int .u32 (((sub32 (UInt32.ofNat n) a).toNat : Nat) : Int)) := by
  rw [← arith_sub32, ← lit32 n h]; rfl
@[go_sem high] theorem wrap_sub32_lit (a : UInt32) (n : Nat) (h : n < 4294967296) : IntKind.u32.wrap ((a.toNat : Int) - (no_index (OfNat.ofNat n))) = ((sub32 a (UInt32.ofNat n)).toNat : Int) := by
  rw [← wrap_sub32, ← lit32 n h]; rfl
@[go_sem high] theorem wrap_sub32_lit' (a : UInt32) (n : Nat) (h : n < 4294967296) : IntKind.u32.wrap ((no_index (OfNat.ofNat n)) - (a.toNat : Int)) = ((sub32 (UInt32.ofNat n) a).toNat : Int) := by
  rw [← wrap_sub32, ← lit32 n h]; rfl
@[go_sem high] theorem wrap_sub32' (a b : UInt32) : IntKind.u32.wrap ((a.toNat : Int) - (b.toNat : Int)) = ((sub32 a b).toNat : Int) := wrap_sub32 a b
@[go_sem high] theorem arith_mul32 (a b : UInt32) : Op.intArith .mul .u32 (a.toNat : Int) (b.toNat : Int) = pure (.int .u32 (((mul32 a b).toNat : Nat) : Int)) := by
  rw [← wrap_mul32]; rfl
@[go_sem high] theorem arith_mul32_lit (a : UInt32) (n : Nat) (h : n < 4294967296) : Op.intArith .mul .u32 (a.toNat : Int) (no_index (OfNat.ofNat n)) = pure (.int .u32 (((mul32 a (UInt32.ofNat n)).toNat : Nat) : Int)) := by
  rw [← arith_mul32, ← lit32 n h]; rfl
@[go_sem high] theorem arith_mul32_lit' (a : UInt32) (n : Nat) (h : n < 4294967296) : Op.intArith .mul .u32 (no_index (OfNat.ofNat n)) (a.toNat : Int) = pure (.int .u32 (((mul32 (UInt32.ofNat n) a).toNat : Nat) : Int)) := by
  rw [← arith_mul32, ← lit32 n h]; rfl
@[go_sem high] theorem wrap_mul32_lit (a : UInt32) (n : Nat) (h : n < 4294967296) : IntKind.u32.wrap ((a.toNat : Int) * (no_index (OfNat.ofNat n))) = ((mul32 a (UInt32.ofNat n)).toNat : Int) := by
  rw [← wrap_mul32, ← lit32 n h]; rfl
@[go_sem high] theorem wrap_mul32_lit' (a : UInt32) (n : Nat) (h : n < 4294967296) : IntKind.u32.wrap ((no_index (OfNat.ofNat n)) * (a.toNat : Int)) = ((mul32 (UInt32.ofNat n) a).toNat : Int) := by
  rw [← wrap_mul32, ← lit32 n h]; rfl
@[go_sem high] theorem wrap_mul32' (a b : UInt32) : IntKind.u32.wrap ((a.toNat : Int) * (b.toNat : Int)) = ((mul32 a b).toNat : Int) := wrap_mul32 a b
theorem shr_eq32 (a : UInt32) (n : Nat) : (a.toNat : Int) / 2 ^ n = ((shr32 a n).toNat : Int) := by
  have h := lt32 a
  have hd : a.toNat / 2 ^ n < 4294967296 := Nat.lt_of_le_of_lt (Nat.div_le_self _ _) h
  unfold shr32
  rw [UInt32.toNat_ofNat_of_lt' hd]
  simp
theorem shl_eq32 (a : UInt32) (n : Nat) : IntKind.u32.wrap ((a.toNat : Int) * 2 ^ n) = ((shl32 a n).toNat : Int) := by
  rw [wrapmod32]; unfold shl32
  rw [UInt32.toNat_ofNat']
  simp
@[go_sem high] theorem shift_shr32_lit (a : UInt32) (yk : IntKind) (n : Nat) (h : n ≤ 32) : Op.shift .shr .u32 (a.toNat : Int) yk (no_index (OfNat.ofNat n)) = pure (.int .u32 ((shr32 a n).toNat : Int)) := by
  rw [← shr_eq32]
  exact shift_shr .u32 yk _ (n : Int) (by omega) (by simp [IntKind.bits]; omega)
@[go_sem high] theorem shift_shl32_lit (a : UInt32) (yk : IntKind) (n : Nat) (h : n ≤ 32) : Op.shift .shl .u32 (a.toNat : Int) yk (no_index (OfNat.ofNat n)) = pure (.int .u32 ((shl32 a n).toNat : Int)) := by
  rw [← shl_eq32]
  exact shift_shl .u32 yk _ (n : Int) (by omega) (by simp [IntKind.bits]; omega)
@[go_sem high] theorem wrap_shl32 (a : UInt32) (n : Nat) : IntKind.u32.wrap ((a.toNat : Int) * 2 ^ n) = ((shl32 a n).toNat : Int) := shl_eq32 a n
@[go_sem high] theorem wrap_self32 (a : UInt32) : IntKind.u32.wrap (a.toNat : Int) = (a.toNat : Int) := wrap32 _ (lt32 a)
@[go_sem] theorem div_pow32 (a : UInt32) (n : Nat) : (a.toNat : Int) / 2 ^ n = ((shr32 a n).toNat : Int) := shr_eq32 a n

def and64 (a b : UInt64) : UInt64 := a &&& b
def or64 (a b : UInt64) : UInt64 := a ||| b
def xor64 (a b : UInt64) : UInt64 := a ^^^ b
def shr64 (a : UInt64) (n : Nat) : UInt64 := UInt64.ofNat (a.toNat / 2 ^ n)
def shl64 (a : UInt64) (n : Nat) : UInt64 := UInt64.ofNat (a.toNat * 2 ^ n)
theorem ofInt64 (a : UInt64) : BitVec.ofInt 64 (a.toNat : Int) = a.toBitVec := by
  rw [BitVec.ofInt_natCast]
  exact BitVec.ofNat_toNat _ _ |>.trans (by simp)
theorem wrap64 (n : Nat) (h : n < 18446744073709551616) : IntKind.u64.wrap (n : Int) = n := by
  simp [IntKind.wrap, IntKind.bits, IntKind.signed]; omega
theorem lt64 (a : UInt64) : a.toNat < 18446744073709551616 := a.toNat_lt
theorem lit64 (n : Nat) (h : n < 18446744073709551616) : (n : Int) = ((UInt64.ofNat n).toNat : Int) := by
  rw [UInt64.toNat_ofNat_of_lt' h]

@[go_sem high] theorem bits_and64 (a b : UInt64) : bits .and .u64 (a.toNat : Int) (b.toNat : Int) = ((and64 a b).toNat : Int) := by
  show IntKind.u64.wrap ((BitVec.ofInt 64 (a.toNat : Int) &&& BitVec.ofInt 64 (b.toNat : Int)).toNat : Int) = _
  rw [ofInt64, ofInt64, wrap64 _ (BitVec.isLt _)]; rfl
@[go_sem high] theorem bits_and64_lit (a : UInt64) (n : Nat) (h : n < 18446744073709551616) : bits .and .u64 (a.toNat : Int) (no_index (OfNat.ofNat n)) = ((and64 a (UInt64.ofNat n)).toNat : Int) := by
  rw [← bits_and64, ← lit64 n h]; rfl
@[go_sem high] theorem bits_or64 (a b : UInt64) : bits .or .u64 (a.toNat : Int) (b.toNat : Int) = ((or64 a b).toNat : Int) := by
  show IntKind.u64.wrap ((BitVec.ofInt 64 (a.toNat : Int) ||| BitVec.ofInt 64 (b.toNat : Int)).toNat : Int) = _
  rw [ofInt64, ofInt64, wrap64 _ (BitVec.isLt _)]; rfl
@[go_sem high] theorem bits_or64_lit (a : UInt64) (n : Nat) (h : n < 18446744073709551616) : bits .or .u64 (a.toNat : Int) (no_index (OfNat.ofNat n)) = ((or64 a (UInt64.ofNat n)).toNat : Int) := by
  rw [← bits_or64, ← lit64 n h]; rfl
@[go_sem high] theorem bits_xor64 (a b : UInt64) : bits .xor .u64 (a.toNat : Int) (b.toNat : Int) = ((xor64 a b).toNat : Int) := by
  show IntKind.u64.wrap ((BitVec.ofInt 64 (a.toNat : Int) ^^^ BitVec.ofInt 64 (b.toNat : Int)).toNat : Int) = _
  rw [ofInt64, ofInt64, wrap64 _ (BitVec.isLt _)]; rfl
@[go_sem high] theorem bits_xor64_lit (a : UInt64) (n : Nat) (h : n < 18446744073709551616) : bits .xor .u64 (a.toNat : Int) (no_index (OfNat.ofNat n)) = ((xor64 a (UInt64.ofNat n)).toNat : Int) := by
  rw [← bits_xor64, ← lit64 n h]; rfl
@[go_sem high] theorem bits_and64_lit' (a : UInt64) (n : Nat) (h : n < 18446744073709551616) : bits .and .u64 (no_index (OfNat.ofNat n)) (a.toNat : Int) = ((and64 (UInt64.ofNat n) a).toNat : Int) := by
  rw [← bits_and64, ← lit64 n h]; rfl
@[go_sem high] theorem bits_or64_lit' (a : UInt64) (n : Nat) (h : n < 18446744073709551616) : bits .or .u64 (no_index (OfNat.ofNat n)) (a.toNat : Int) = ((or64 (UInt64.ofNat n) a).toNat : Int) := by
  rw [← bits_or64, ← lit64 n h]; rfl
@[go_sem high] theorem bits_xor64_lit' (a : UInt64) (n : Nat) (h : n < 18446744073709551616) : bits .xor .u64 (no_index (OfNat.ofNat n)) (a.toNat : Int) = ((xor64 (UInt64.ofNat n) a).toNat : Int) := by
  rw [← bits_xor64, ← lit64 n h]; rfl
def not64 (a : UInt64) : UInt64 := ~~~a
def add64 (a b : UInt64) : UInt64 := a + b
def sub64 (a b : UInt64) : UInt64 := a - b
def mul64 (a b : UInt64) : UInt64 := a * b
theorem wrapmod64 (n : Int) : IntKind.u64.wrap n = n % 18446744073709551616 := by
  simp [IntKind.wrap, IntKind.bits, IntKind.signed]
theorem wrap_add64 (a b : UInt64) : IntKind.u64.wrap ((a.toNat : Int) + (b.toNat : Int)) = ((add64 a b).toNat : Int) := by
  rw [wrapmod64]; unfold add64; rw [UInt64.toNat_add]; simp
theorem wrap_sub64 (a b : UInt64) : IntKind.u64.wrap ((a.toNat : Int) - (b.toNat : Int)) = ((sub64 a b).toNat : Int) := by
  rw [wrapmod64]; unfold sub64; rw [UInt64.toNat_sub]
  have := lt64 a; have := lt64 b
  omega
theorem wrap_mul64 (a b : UInt64) : IntKind.u64.wrap ((a.toNat : Int) * (b.toNat : Int)) = ((mul64 a b).toNat : Int) := by
  rw [wrapmod64]; unfold mul64; rw [UInt64.toNat_mul]; simp
@[go_sem high] theorem arith_add64 (a b : UInt64) : Op.intArith .add .u64 (a.toNat : Int) (b.toNat : Int) = pure (.int .u64 (((add64 a b).toNat : Nat) : Int)) := by
  rw [← wrap_add64]; rfl
@[go_sem high] theorem arith_add64_lit (a : UInt64) (n : Nat) (h : n < 18446744073709551616) : Op.intArith .add .u64 (a.toNat : Int) (no_index (OfNat.ofNat n)) = pure (.int .u64 (((add64 a (UInt64.ofNat n)).toNat : Nat) : Int)) := by
  rw [← arith_add64, ← lit64 n h]; rfl
@[go_sem high] theorem arith_add64_lit' (a : UInt64) (n : Nat) (h : n < 18446744073709551616) : Op.intArith .add .u64 (no_index (OfNat.ofNat n)) (a.toNat : Int) = pure (.int .u64 (((add64 (UInt64.ofNat n) a).toNat : Nat) : Int)) := by
  rw [← arith_add64, ← lit64 n h]; rfl
@[go_sem high] theorem wrap_add64_lit (a : UInt64) (n : Nat) (h : n < 18446744073709551616) : IntKind.u64.wrap ((a.toNat : Int) + (no_index (OfNat.ofNat n))) = ((add64 a (UInt64.ofNat n)).toNat : Int) := by
  rw [← wrap_add64, ← lit64 n h]; rfl
@[go_sem high] theorem wrap_add64_lit' (a : UInt64) (n : Nat) (h : n < 18446744073709551616) : IntKind.u64.wrap ((no_index (OfNat.ofNat n)) + (a.toNat : Int)) = ((add64 (UInt64.ofNat n) a).toNat : Int) := by
  rw [← wrap_add64, ← lit64 n h]; rfl
@[go_sem high] theorem wrap_add64' (a b : UInt64) : IntKind.u64.wrap ((a.toNat : Int) + (b.toNat : Int)) = ((add64 a b).toNat : Int) := wrap_add64 a b
@[go_sem high] theorem arith_sub64 (a b : UInt64) : Op.intArith .sub .u64 (a.toNat : Int) (b.toNat : Int) = pure (.int .u64 (((sub64 a b).toNat : Nat) : Int)) := by
  rw [← wrap_sub64]; rfl
@[go_sem high] theorem arith_sub64_lit (a : UInt64) (n : Nat) (h : n < 18446744073709551616) : Op.intArith .sub .u64 (a.toNat : Int) (no_index (OfNat.ofNat n)) = pure (.int .u64 (((sub64 a (UInt64.ofNat n)).toNat : Nat) : Int)) := by
  rw [← arith_sub64, ← lit64 n h]; rfl
@[go_sem high] theorem arith_sub64_lit' (a : UInt64) (n : Nat) (h : n < 18446744073709551616) : Op.intArith .sub .u64 (no_index (OfNat.ofNat n)) (a.toNat : Int) = pure (.int .u64 (((sub64 (UInt64.ofNat n) a).toNat : Nat) : Int)) := by
  rw [← arith_sub64, ← lit64 n h]; rfl
@[go_sem high] theorem wrap_sub64_lit (a : UInt64) (n : Nat) (h : n < 18446744073709551616) : IntKind.u64.wrap ((a.toNat : Int) - (no_index (OfNat.ofNat n))) = ((sub64 a (UInt64.ofNat n)).toNat : Int) := by
  rw [← wrap_sub64, ← lit64 n h]; rfl
@[go_sem high] theorem wrap_sub64_lit' (a : UInt64) (n : Nat) (h : n < 18446744073709551616) : IntKind.u64.wrap ((no_index (OfNat.ofNat n)) - (a.toNat : Int)) = ((sub64 (UInt64.ofNat n) a).toNat : Int) := by
  rw [← wrap_sub64, ← lit64 n h]; rfl
@[go_sem high] theorem wrap_sub64' (a b : UInt64) : IntKind.u64.wrap ((a.toNat : Int) - (b.toNat : Int)) = ((sub64 a b).toNat : Int) := wrap_sub64 a b
@[go_sem high] theorem arith_mul64 (a b : UInt64) : Op.intArith .mul .u64 (a.toNat : Int) (b.toNat : Int) = pure (.int .u64 (((mul64 a b).toNat : Nat) : Int)) := by
  rw [← wrap_mul64]; rfl
@[go_sem high] theorem arith_mul64_lit (a : UInt64) (n : Nat) (h : n < 18446744073709551616) : Op.intArith .mul .u64 (a.toNat : Int) (no_index (OfNat.ofNat n)) = pure (.int .u64 (((mul64 a (UInt64.ofNat n)).toNat : Nat) : Int)) := by
  rw [← arith_mul64, ← lit64 n h]; rfl
@[go_sem high] theorem arith_mul64_lit' (a : UInt64) (n : Nat) (h : n < 18446744073709551616) : Op.intArith .mul .u64 (no_index (OfNat.ofNat n)) (a.toNat : Int) = pure (.int .u64 (((mul64 (UInt64.ofNat n) a).toNat : Nat) : Int)) := by
  rw [← arith_mul64, ← lit64 n h]; rfl
@[go_sem high] theorem wrap_mul64_lit (a : UInt64) (n : Nat) (h : n < 18446744073709551616) : IntKind.u64.wrap ((a.toNat : Int) * (no_index (OfNat.ofNat n))) = ((mul64 a (UInt64.ofNat n)).toNat : Int) := by
  rw [← wrap_mul64, ← lit64 n h]; rfl
@[go_sem high] theorem wrap_mul64_lit' (a : UInt64) (n : Nat) (h : n < 18446744073709551616) : IntKind.u64.wrap ((no_index (OfNat.ofNat n)) * (a.toNat : Int)) = ((mul64 (UInt64.ofNat n) a).toNat : Int) := by
  rw [← wrap_mul64, ← lit64 n h]; rfl
@[go_sem high] theorem wrap_mul64' (a b : UInt64) : IntKind.u64.wrap ((a.toNat : Int) * (b.toNat : Int)) = ((mul64 a b).toNat : Int) := wrap_mul64 a b
theorem shr_eq64 (a : UInt64) (n : Nat) : (a.toNat : Int) / 2 ^ n = ((shr64 a n).toNat : Int) := by
  have h := lt64 a
  have hd : a.toNat / 2 ^ n < 18446744073709551616 := Nat.lt_of_le_of_lt (Nat.div_le_self _ _) h
  unfold shr64
  rw [UInt64.toNat_ofNat_of_lt' hd]
  simp
theorem shl_eq64 (a : UInt64) (n : Nat) : IntKind.u64.wrap ((a.toNat : Int) * 2 ^ n) = ((shl64 a n).toNat : Int) := by
  rw [wrapmod64]; unfold shl64
  rw [UInt64.toNat_ofNat']
  simp
@[go_sem high] theorem shift_shr64_lit (a : UInt64) (yk : IntKind) (n : Nat) (h : n ≤ 64) : Op.shift .shr .u64 (a.toNat : Int) yk (no_index (OfNat.ofNat n)) = pure (.int .u64 ((shr64 a n).toNat : Int)) := by
  rw [← shr_eq64]
  exact shift_shr .u64 yk _ (n : Int) (by omega) (by simp [IntKind.bits]; omega)
@[go_sem high] theorem shift_shl64_lit (a : UInt64) (yk : IntKind) (n : Nat) (h : n ≤ 64) : Op.shift .shl .u64 (a.toNat : Int) yk (no_index (OfNat.ofNat n)) = pure (.int .u64 ((shl64 a n).toNat : Int)) := by
  rw [← shl_eq64]
  exact shift_shl .u64 yk _ (n : Int) (by omega) (by simp [IntKind.bits]; omega)
@[go_sem high] theorem wrap_shl64 (a : UInt64) (n : Nat) : IntKind.u64.wrap ((a.toNat : Int) * 2 ^ n) = ((shl64 a n).toNat : Int) := shl_eq64 a n
@[go_sem high] theorem wrap_self64 (a : UInt64) : IntKind.u64.wrap (a.toNat : Int) = (a.toNat : Int) := wrap64 _ (lt64 a)
@[go_sem] theorem div_pow64 (a : UInt64) (n : Nat) : (a.toNat : Int) / 2 ^ n = ((shr64 a n).toNat : Int) := shr_eq64 a n

def up8_32 (x : UInt8) : UInt32 := UInt32.ofNat x.toNat
@[go_sem high] theorem wrap_up8_32 (x : UInt8) : IntKind.u32.wrap (x.toNat : Int) = ((up8_32 x).toNat : Int) := by
  have := lt8 x
  rw [wrap32 _ (by omega)]; unfold up8_32; rw [UInt32.toNat_ofNat_of_lt' (by show _ < 4294967296; omega)]
def lo32_8 (x : UInt32) : UInt8 := UInt8.ofNat x.toNat
@[go_sem high] theorem wrap_lo32_8 (x : UInt32) : IntKind.u8.wrap (x.toNat : Int) = ((lo32_8 x).toNat : Int) := by
  rw [wrapmod8]; unfold lo32_8; rw [UInt8.toNat_ofNat']; simp
def up8_64 (x : UInt8) : UInt64 := UInt64.ofNat x.toNat
@[go_sem high] theorem wrap_up8_64 (x : UInt8) : IntKind.u64.wrap (x.toNat : Int) = ((up8_64 x).toNat : Int) := by
  have := lt8 x
  rw [wrap64 _ (by omega)]; unfold up8_64; rw [UInt64.toNat_ofNat_of_lt' (by show _ < 18446744073709551616; omega)]
def lo64_8 (x : UInt64) : UInt8 := UInt8.ofNat x.toNat
@[go_sem high] theorem wrap_lo64_8 (x : UInt64) : IntKind.u8.wrap (x.toNat : Int) = ((lo64_8 x).toNat : Int) := by
  rw [wrapmod8]; unfold lo64_8; rw [UInt8.toNat_ofNat']; simp
def up32_64 (x : UInt32) : UInt64 := UInt64.ofNat x.toNat
@[go_sem high] theorem wrap_up32_64 (x : UInt32) : IntKind.u64.wrap (x.toNat : Int) = ((up32_64 x).toNat : Int) := by
  have := lt32 x
  rw [wrap64 _ (by omega)]; unfold up32_64; rw [UInt64.toNat_ofNat_of_lt' (by show _ < 18446744073709551616; omega)]
def lo64_32 (x : UInt64) : UInt32 := UInt32.ofNat x.toNat
@[go_sem high] theorem wrap_lo64_32 (x : UInt64) : IntKind.u32.wrap (x.toNat : Int) = ((lo64_32 x).toNat : Int) := by
  rw [wrapmod32]; unfold lo64_32; rw [UInt32.toNat_ofNat']; simp
theorem of_nat8 (n : Nat) : IntKind.u8.wrap (n : Int) = ((UInt8.ofNat n).toNat : Int) := by
  rw [wrapmod8, UInt8.toNat_ofNat']; simp
theorem of_nat32 (n : Nat) : IntKind.u32.wrap (n : Int) = ((UInt32.ofNat n).toNat : Int) := by
  rw [wrapmod32, UInt32.toNat_ofNat']; simp
theorem of_nat64 (n : Nat) : IntKind.u64.wrap (n : Int) = ((UInt64.ofNat n).toNat : Int) := by
  rw [wrapmod64, UInt64.toNat_ofNat']; simp

end Go.Ops
