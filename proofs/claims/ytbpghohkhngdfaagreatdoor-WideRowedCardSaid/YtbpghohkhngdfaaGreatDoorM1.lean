/-
  Texts of this claim, one behind the other: Mem Ops Ops2.
-/
import Derived.WalkKit
import Derived.WalkSpells
import Derived.WalkLawsBesides
import Derived.Lib.Hide
import Derived.Laws.AppendOwnNone
import Derived.Laws.CopyOwn
import Derived.Deep.AppendLies
import Derived.Deep.Onto
/-
  Plain facts on memory: cells behind an address, as lists; a slice of bytes as a list of bytes. No program.
-/
namespace Go.Mem
open Go.RowKit

/-- A byte as a value. -/
abbrev B (b : UInt8) : Value := .int .u8 (b.toNat : Int)

/-- The cells xs lie behind the address. -/
def Lies (w : World) (ao : Option Addr) (xs : List Value) : Prop :=
  ∀ j u, xs[j]? = some u → ∃ b off, ao = some ⟨b, off, none⟩ ∧ w.cell? ⟨b, off + j, none⟩ = some u

theorem add_eq (b off j : Nat) : (⟨b, off, none⟩ : Addr).add j = ⟨b, off + j, none⟩ := by
  unfold Addr.add; split <;> simp_all

theorem block_lt_of_cell {w : World} {b o : Nat} {s : Option Nat} {u : Value} (h : w.cell? ⟨b, o, s⟩ = some u) : b < w.heap.size := World.block_lt_of_cell? w _ h

theorem Lies.below {w w' : World} {ao : Option Addr} {xs : List Value} (h : Lies w ao xs) (hb : Below w.heap.size w w') : Lies w' ao xs := by
  intro j u hu
  obtain ⟨b, off, e, hc⟩ := h j u hu
  exact ⟨b, off, e, (hb.cell (p := ⟨b, off + j, none⟩) (block_lt_of_cell hc)).trans hc⟩

theorem Lies.nil (w : World) (ao : Option Addr) : Lies w ao [] := by intro j u hu; cases hu

theorem Lies.at {w : World} {ao : Option Addr} {xs : List Value} (h : Lies w ao xs) (hn : xs ≠ []) : ∃ b off, ao = some ⟨b, off, none⟩ ∧ b < w.heap.size ∧ ∀ j u, xs[j]? = some u → w.cell? ⟨b, off + j, none⟩ = some u := by
  cases xs with
  | nil => exact absurd rfl hn
  | cons x xs =>
    obtain ⟨b, off, e, hc⟩ := h 0 x rfl
    refine ⟨b, off, e, block_lt_of_cell hc, ?_⟩
    intro j u hu
    obtain ⟨b', off', e', hc'⟩ := h j u hu
    rw [e] at e'
    cases e'
    exact hc'

theorem Lies.news {w : World} {ad : Addr} {xs : List Value} (h : Lies w (some ad) xs) : ∀ j u, xs[j]? = some u → w.cell? (ad.add j) = some u := by
  intro j u hu
  obtain ⟨b, off, e, hc⟩ := h j u hu
  cases e
  rw [add_eq]; exact hc

/-- What lies behind a cut: from the element 'a' on. -/
theorem Lies.drop {w : World} {ao : Option Addr} {xs : List Value} (h : Lies w ao xs) (a : Nat) : Lies w (ao.map (·.add a)) (xs.drop a) := by
  intro j u hu
  rw [List.getElem?_drop] at hu
  obtain ⟨b, off, e, hc⟩ := h (a + j) u hu
  refine ⟨b, off + a, ?_, ?_⟩
  · rw [e, Option.map_some, add_eq]
  · rw [Nat.add_assoc]; exact hc

theorem Lies.take {w : World} {ao : Option Addr} {xs : List Value} (h : Lies w ao xs) (n : Nat) : Lies w ao (xs.take n) := by
  intro j u hu
  rw [List.getElem?_take] at hu
  split at hu
  · exact h j u hu
  · cases hu

/-- A slice expression's address, as the model has it. -/
theorem Lies.cut {w : World} {ao : Option Addr} {xs : List Value} {cap : Nat} (h : Lies w ao xs) (hcap : xs.length ≤ cap) (a n : Nat) :
    Lies w (if cap = a then ao else ao.map (·.add a)) ((xs.drop a).take n) := by
  by_cases hc : cap = a
  · rw [if_pos hc, List.drop_eq_nil_of_le (by omega)]
    simp only [List.take_nil]
    exact Lies.nil _ _
  · rw [if_neg hc]
    exact (h.drop a).take n

theorem Lies.of_own {w : World} {base : Nat} {e : TypeId} {size : Nat} {ao : Option Addr} {n cap : Nat} {xs : List Value} (h : w.ownsRow base e size (.slice ao n cap) n xs) : Lies w ao xs := by
  intro j u hu
  rcases h.2 with ⟨hv, hn⟩ | ⟨g, c, cur, hv, hb, hg, _, _, _, ht⟩
  · have : xs = [] := List.eq_nil_of_length_eq_zero (by rw [h.1, hn]; simp)
    rw [this] at hu; cases hu
  · cases hv
    refine ⟨g, 0, rfl, ?_⟩
    have := h.cells (g := g) rfl j u hu
    rw [add_eq] at this
    exact this

/-- A value that owns is a slice of so many elements. -/
theorem own_form {w : World} {base : Nat} {e : TypeId} {size : Nat} {v : Value} {n : Nat} {xs : List Value} (h : w.ownsRow base e size v n xs) :
    ∃ ao cap, v = .slice ao n cap ∧ n ≤ cap ∧ cap ≤ maxLen ∧ Lies w ao xs := by
  rcases h.2 with ⟨hv, hn⟩ | ⟨g, c, cur, hv, hb, hg, h1, h2, h3, ht⟩
  · subst hn
    exact ⟨none, 0, hv, by omega, by simp [maxLen], Lies.of_own (base := base) (e := e) (size := size) (hv ▸ h)⟩
  · exact ⟨some ⟨g, 0, none⟩, c, hv, h1, h2, Lies.of_own (base := base) (e := e) (size := size) (hv ▸ h)⟩

theorem oneCell_B (bs : List UInt8) : ∀ u ∈ bs.map B, u.oneCell' = true := by
  intro u hu
  obtain ⟨b, _, rfl⟩ := List.mem_map.1 hu
  rfl

theorem eql_slice_nil {P : Program} (w : World) (t e : TypeId) (a : Option Addr) (l c : Nat) (h : P.underlying t = some (.slice e)) :
    (binOp .eql t (.slice a l c) (.slice none 0 0)).run P w = .ok (.bool a.isNone) w := by
  simp only [binOp]
  simp [run_equal_slice_nil w t e a l c h]

theorem Lies.of_block {w : World} {b : Nat} {cs : Array Value} {t : TypeId} {fr : Nat × Nat} (h : w.heap[b]? = some (.cells cs t fr)) : Lies w (some ⟨b, 0, none⟩) cs.toList := by
  intro j u hu
  refine ⟨b, 0, rfl, ?_⟩
  have := World.news_of_block h j u hu
  rw [add_eq] at this
  exact this

theorem run_equalIn_complex {P : Program} (w : World) (d : Nat) (t : TypeId) (k : FloatKind) (a b x y : Nat) (ht : P.underlying t = some (.complex k)) :
    (Op.equalIn (d + 1) t (.complex k a b) (.complex k x y)).run P w = .ok ((k.format.order a x == some .eq) && (k.format.order b y == some .eq)) w := by
  simp [Op.equalIn, run_underlying ht, Op.floatEq]

/-- Bytes as a string. -/
def str (bs : List UInt8) : ByteArray := ⟨bs.toArray⟩

/-- 'string(b)'. -/
theorem run_string {P : Program} (w : World) (src dst e : TypeId) (hs : P.underlying src = some (.slice e)) (he : P.underlying e = some (.int .u8)) (hd : P.underlying dst = some .string)
    (ao : Option Addr) (len cap : Nat) (bs : List UInt8) (hlen : bs.length = len) (hl : Lies w ao (bs.map B)) : (convert src dst (.slice ao len cap)).run P w = .ok (.string (str bs)) w := by
  rw [run_convert_bytes_string w src dst e _ len cap hs he hd]
  cases ao with
  | none =>
    have : bs = [] := by
      cases bs with
      | nil => rfl
      | cons x xs => obtain ⟨_, _, e, _⟩ := hl 0 (B x) rfl; cases e
    subst this
    rfl
  | some ad =>
    have h1 : (loadCells ad len).run P w = .ok ((bs.map fun b => (b.toNat : Int)).map (Value.int .u8)).toArray w := by
      have := run_loadCells_list (P := P) w ad (bs.map B) hl.news
      rw [List.map_map]
      rw [List.length_map, hlen] at this
      exact this
    rw [run_bytesToString w _ len cap _ h1, foldl_push_bytes]
    simp only [List.map_map]
    have h2 : (List.map ((fun n => UInt8.ofNat n.toNat) ∘ fun b : UInt8 => (b.toNat : Int)) bs) = bs := by
      conv => rhs; rw [← List.map_id bs]
      apply List.map_congr_left
      intro b _
      simp
    rw [h2]
    simp [str, ByteArray.empty, ByteArray.emptyWithCapacity]
    rfl

theorem str_beq (a b : List UInt8) : ((str a).toList == (str b).toList) = (a == b) := by
  simp [str]

/-- A slice expression's address, under one name. -/
def cutAddr (ao : Option Addr) (cap a : Nat) : Option Addr := if cap = a then ao else ao.map (·.add a)

theorem Lies.cutA {w : World} {ao : Option Addr} {xs : List Value} {cap : Nat} (h : Lies w ao xs) (hcap : xs.length ≤ cap) (a n : Nat) :
    Lies w (cutAddr ao cap a) ((xs.drop a).take n) := Lies.cut h hcap a n

/-- 's[i:j]', of elements of one cell. -/
theorem run_cut {P : Program} (w : World) (t e : TypeId) (ht : P.underlying t = some (.slice e)) (hs : ∀ w : World, (sizeOf e).run P w = .ok 1 w) (ao : Option Addr) (len cap lo hi : Nat) (i j : Int) (hi' : i = lo) (hj : j = hi) (h1 : lo ≤ hi) (h2 : hi ≤ cap) :
    (Instr.slice t (.slice ao len cap) (some (.int .i64 i)) (some (.int .i64 j)) none).run P w = .ok (.slice (cutAddr ao cap lo) (hi - lo) (cap - lo)) w := by
  subst hi'; subst hj
  simp [Instr.slice, Instr.sliceBounds, Instr.sliceBound, run_underlying ht, hs, asIntOf, h1, h2, cutAddr]

theorem run_size {P : Program} (e : TypeId) (i : TypeInfo) (n : Nat) (hi : P.info? e = some i) (hs : i.size = n) (w : World) : (sizeOf e).run P w = .ok n w := by
  simp [sizeOf, typeInfo, hi, hs]

/-- A slice of bytes that came in, as a list of bytes. -/
theorem bytes_of_row {w : World} {a : Option Addr} {len cap : Nat} {zs : List Int}
    (h : (a = none ∧ len = 0 ∧ cap = 0 ∧ zs = []) ∨ ∃ x, a = some x ∧ len ≤ cap ∧ cap ≤ maxLen ∧ zs.length = cap ∧ (∀ i, i < zs.length → w.cell? (x.add i) = some (.int .u8 (zs.getD i 0))) ∧ ∀ n ∈ zs, (Lit.int .u8 n).wf = true) :
    ∃ bs : List UInt8, bs.length = len ∧ len ≤ cap ∧ cap ≤ maxLen ∧ Lies w a (bs.map B) := by
  rcases h with ⟨rfl, rfl, rfl, rfl⟩ | ⟨x, rfl, hl, hm, hz, hc, hw⟩
  · exact ⟨[], rfl, Nat.le_refl _, by simp [maxLen], Lies.nil _ _⟩
  · refine ⟨(zs.take len).map fun n => UInt8.ofNat n.toNat, by simp; omega, hl, hm, ?_⟩
    intro j u hu
    rw [List.map_map, List.getElem?_map] at hu
    cases hj : (zs.take len)[j]? with
    | none => rw [hj] at hu; cases hu
    | some n =>
      rw [hj] at hu
      simp only [Option.map_some, Option.some.injEq] at hu
      have hj2 : zs[j]? = some n := by
        rw [List.getElem?_take] at hj
        split at hj
        · exact hj
        · cases hj
      have hlt : j < zs.length := (List.getElem?_eq_some_iff.1 hj2).1
      have hcj := hc j hlt
      have hn : zs.getD j 0 = n := by simp [List.getD, hj2]
      rw [hn] at hcj
      have hwn := hw n (List.mem_of_getElem? hj2)
      have hb : 0 ≤ n ∧ n ≤ 255 := by simpa [Lit.wf, IntKind.min, IntKind.max, IntKind.signed, IntKind.bits] using hwn
      have hB : B (UInt8.ofNat n.toNat) = .int .u8 n := by
        show Value.int .u8 _ = _
        rw [UInt8.toNat_ofNat_of_lt' (by show _ < 256; omega)]
        congr 1; omega
      subst hu
      have hx0 : x.spot = none := by
        have hc0 := hc 0 (by omega)
        have e : x.add 0 = x := by simp [Addr.add]
        rw [e] at hc0
        cases hs : x.spot with
        | none => rfl
        | some s =>
          exfalso
          revert hc0
          simp [World.cell?, hs]
          split <;> simp
      obtain ⟨b, off, sp⟩ := x
      simp only at hx0
      subst hx0
      refine ⟨b, off, rfl, ?_⟩
      rw [add_eq] at hcj
      rw [hcj]
      exact congrArg some hB.symm

/-- The result is a slice in new memory; nothing that was there has changed. -/
def Fresh (w : World) (e : TypeId) (size n : Nat) (xs : List Value) (mk : Value → Value) : Ending → World → Prop :=
  fun en w' => ∃ v, en = .returned (mk v) ∧ w'.ownsRow w.heap.size e size v n xs ∧ Below w.heap.size w w'

end Go.Mem
/-
  The operations on bytes, as the machine's own type has them: each is kept under a name of its own, so that a walk's frame stays small. No program.
-/
namespace Go.Ops

def and8 (a b : UInt8) : UInt8 := a &&& b
def or8 (a b : UInt8) : UInt8 := a ||| b
def xor8 (a b : UInt8) : UInt8 := a ^^^ b
def shr8 (a : UInt8) (n : Nat) : UInt8 := UInt8.ofNat (a.toNat / 2 ^ n)
def shl8 (a : UInt8) (n : Nat) : UInt8 := UInt8.ofNat (a.toNat * 2 ^ n)

theorem ofInt8 (a : UInt8) : BitVec.ofInt 8 (a.toNat : Int) = a.toBitVec := by
  rw [BitVec.ofInt_natCast]
  exact BitVec.ofNat_toNat _ _ |>.trans (by simp)

theorem wrap8 (n : Nat) (h : n < 256) : IntKind.u8.wrap (n : Int) = n := by
  simp [IntKind.wrap, IntKind.bits, IntKind.signed]; omega

theorem lt8 (a : UInt8) : a.toNat < 256 := a.toNat_lt

@[go_sem high] theorem bits_and8 (a b : UInt8) : bits .and .u8 (a.toNat : Int) (b.toNat : Int) = ((and8 a b).toNat : Int) := by
  show IntKind.u8.wrap ((BitVec.ofInt 8 (a.toNat : Int) &&& BitVec.ofInt 8 (b.toNat : Int)).toNat : Int) = _
  rw [ofInt8, ofInt8, wrap8 _ (BitVec.isLt _)]; rfl
@[go_sem high] theorem bits_or8 (a b : UInt8) : bits .or .u8 (a.toNat : Int) (b.toNat : Int) = ((or8 a b).toNat : Int) := by
  show IntKind.u8.wrap ((BitVec.ofInt 8 (a.toNat : Int) ||| BitVec.ofInt 8 (b.toNat : Int)).toNat : Int) = _
  rw [ofInt8, ofInt8, wrap8 _ (BitVec.isLt _)]; rfl
@[go_sem high] theorem bits_xor8 (a b : UInt8) : bits .xor .u8 (a.toNat : Int) (b.toNat : Int) = ((xor8 a b).toNat : Int) := by
  show IntKind.u8.wrap ((BitVec.ofInt 8 (a.toNat : Int) ^^^ BitVec.ofInt 8 (b.toNat : Int)).toNat : Int) = _
  rw [ofInt8, ofInt8, wrap8 _ (BitVec.isLt _)]; rfl

theorem lit8 (n : Nat) (h : n < 256) : (n : Int) = ((UInt8.ofNat n).toNat : Int) := by
  rw [UInt8.toNat_ofNat_of_lt' h]

@[go_sem high] theorem bits_and8_lit (a : UInt8) (n : Nat) (h : n < 256) : bits .and .u8 (a.toNat : Int) (no_index (OfNat.ofNat n)) = ((and8 a (UInt8.ofNat n)).toNat : Int) := by
  rw [← bits_and8, ← lit8 n h]; rfl
@[go_sem high] theorem bits_or8_lit (a : UInt8) (n : Nat) (h : n < 256) : bits .or .u8 (a.toNat : Int) (no_index (OfNat.ofNat n)) = ((or8 a (UInt8.ofNat n)).toNat : Int) := by
  rw [← bits_or8, ← lit8 n h]; rfl
@[go_sem high] theorem bits_xor8_lit (a : UInt8) (n : Nat) (h : n < 256) : bits .xor .u8 (a.toNat : Int) (no_index (OfNat.ofNat n)) = ((xor8 a (UInt8.ofNat n)).toNat : Int) := by
  rw [← bits_xor8, ← lit8 n h]; rfl

@[go_sem] theorem div_pow8 (a : UInt8) (n : Nat) : (a.toNat : Int) / 2 ^ n = ((shr8 a n).toNat : Int) := by
  have h := lt8 a
  have hd : a.toNat / 2 ^ n < 256 := Nat.lt_of_le_of_lt (Nat.div_le_self _ _) h
  unfold shr8
  rw [UInt8.toNat_ofNat_of_lt' hd]
  simp

@[go_sem] theorem mul_pow8 (a : UInt8) (n : Nat) : (a.toNat : Int) * 2 ^ n % 256 = ((shl8 a n).toNat : Int) := by
  unfold shl8
  rw [UInt8.toNat_ofNat']
  simp

/-- Of all bytes, by looking at each. -/
theorem all8 {p : UInt8 → Prop} (h : ∀ n, n < 256 → p (UInt8.ofNat n)) (b : UInt8) : p b := by
  have := h b.toNat b.toNat_lt
  rwa [UInt8.ofNat_toNat] at this

end Go.Ops
/-
  The operations on numbers of 8, 32 and 64 bits, as the machine's own types have them: each is kept under a name of its own, so that a walk's frame stays small. No program.
-/
namespace Go.Ops

/-- Numbers of 32 and of 64 bits as values. -/
abbrev W (x : UInt32) : Value := .int .u32 (x.toNat : Int)
abbrev L (x : UInt64) : Value := .int .u64 (x.toNat : Int)

@[go_sem high] theorem bits_and8_lit' (a : UInt8) (n : Nat) (h : n < 256) : bits .and .u8 (no_index (OfNat.ofNat n)) (a.toNat : Int) = ((and8 (UInt8.ofNat n) a).toNat : Int) := by
  rw [← bits_and8, ← lit8 n h]; rfl
@[go_sem high] theorem bits_or8_lit' (a : UInt8) (n : Nat) (h : n < 256) : bits .or .u8 (no_index (OfNat.ofNat n)) (a.toNat : Int) = ((or8 (UInt8.ofNat n) a).toNat : Int) := by
  rw [← bits_or8, ← lit8 n h]; rfl
@[go_sem high] theorem bits_xor8_lit' (a : UInt8) (n : Nat) (h : n < 256) : bits .xor .u8 (no_index (OfNat.ofNat n)) (a.toNat : Int) = ((xor8 (UInt8.ofNat n) a).toNat : Int) := by
  rw [← bits_xor8, ← lit8 n h]; rfl
def not8 (a : UInt8) : UInt8 := ~~~a
def add8 (a b : UInt8) : UInt8 := a + b
def sub8 (a b : UInt8) : UInt8 := a - b
def mul8 (a b : UInt8) : UInt8 := a * b
theorem wrapmod8 (n : Int) : IntKind.u8.wrap n = n % 256 := by
  simp [IntKind.wrap, IntKind.bits, IntKind.signed]
theorem wrap_add8 (a b : UInt8) : IntKind.u8.wrap ((a.toNat : Int) + (b.toNat : Int)) = ((add8 a b).toNat : Int) := by
  rw [wrapmod8]; unfold add8; rw [UInt8.toNat_add]; simp
theorem wrap_sub8 (a b : UInt8) : IntKind.u8.wrap ((a.toNat : Int) - (b.toNat : Int)) = ((sub8 a b).toNat : Int) := by
  rw [wrapmod8]; unfold sub8; rw [UInt8.toNat_sub]
  have := lt8 a; have := lt8 b
  omega
theorem wrap_mul8 (a b : UInt8) : IntKind.u8.wrap ((a.toNat : Int) * (b.toNat : Int)) = ((mul8 a b).toNat : Int) := by
  rw [wrapmod8]; unfold mul8; rw [UInt8.toNat_mul]; simp
@[go_sem high] theorem arith_add8 (a b : UInt8) : Op.intArith .add .u8 (a.toNat : Int) (b.toNat : Int) = pure (.int .u8 (((add8 a b).toNat : Nat) : Int)) := by
  rw [← wrap_add8]; rfl
@[go_sem high] theorem arith_add8_lit (a : UInt8) (n : Nat) (h : n < 256) : Op.intArith .add .u8 (a.toNat : Int) (no_index (OfNat.ofNat n)) = pure (.int .u8 (((add8 a (UInt8.ofNat n)).toNat : Nat) : Int)) := by
  rw [← arith_add8, ← lit8 n h]; rfl
@[go_sem high] theorem arith_add8_lit' (a : UInt8) (n : Nat) (h : n < 256) : Op.intArith .add .u8 (no_index (OfNat.ofNat n)) (a.toNat : Int) = pure (.int .u8 (((add8 (UInt8.ofNat n) a).toNat : Nat) : Int)) := by
  rw [← arith_add8, ← lit8 n h]; rfl
@[go_sem high] theorem wrap_add8_lit (a : UInt8) (n : Nat) (h : n < 256) : IntKind.u8.wrap ((a.toNat : Int) + (no_index (OfNat.ofNat n))) = ((add8 a (UInt8.ofNat n)).toNat : Int) := by
  rw [← wrap_add8, ← lit8 n h]; rfl
@[go_sem high] theorem wrap_add8_lit' (a : UInt8) (n : Nat) (h : n < 256) : IntKind.u8.wrap ((no_index (OfNat.ofNat n)) + (a.toNat : Int)) = ((add8 (UInt8.ofNat n) a).toNat : Int) := by
  rw [← wrap_add8, ← lit8 n h]; rfl
@[go_sem high] theorem wrap_add8' (a b : UInt8) : IntKind.u8.wrap ((a.toNat : Int) + (b.toNat : Int)) = ((add8 a b).toNat : Int) := wrap_add8 a b
@[go_sem high] theorem arith_sub8 (a b : UInt8) : Op.intArith .sub .u8 (a.toNat : Int) (b.toNat : Int) = pure (.int .u8 (((sub8 a b).toNat : Nat) : Int)) := by
  rw [← wrap_sub8]; rfl
@[go_sem high] theorem arith_sub8_lit (a : UInt8) (n : Nat) (h : n < 256) : Op.intArith .sub .u8 (a.toNat : Int) (no_index (OfNat.ofNat n)) = pure (.int .u8 (((sub8 a (UInt8.ofNat n)).toNat : Nat) : Int)) := by
  rw [← arith_sub8, ← lit8 n h]; rfl
@[go_sem high] theorem arith_sub8_lit' (a : UInt8) (n : Nat) (h : n < 256) : Op.intArith .sub .u8 (no_index (OfNat.ofNat n)) (a.toNat : Int) = pure (.int .u8 (((sub8 (UInt8.ofNat n) a).toNat : Nat) : Int)) := by
  rw [← arith_sub8, ← lit8 n h]; rfl
@[go_sem high] theorem wrap_sub8_lit (a : UInt8) (n : Nat) (h : n < 256) : IntKind.u8.wrap ((a.toNat : Int) - (no_index (OfNat.ofNat n))) = ((sub8 a (UInt8.ofNat n)).toNat : Int) := by
  rw [← wrap_sub8, ← lit8 n h]; rfl
@[go_sem high] theorem wrap_sub8_lit' (a : UInt8) (n : Nat) (h : n < 256) : IntKind.u8.wrap ((no_index (OfNat.ofNat n)) - (a.toNat : Int)) = ((sub8 (UInt8.ofNat n) a).toNat : Int) := by
  rw [← wrap_sub8, ← lit8 n h]; rfl
@[go_sem high] theorem wrap_sub8' (a b : UInt8) : IntKind.u8.wrap ((a.toNat : Int) - (b.toNat : Int)) = ((sub8 a b).toNat : Int) := wrap_sub8 a b
@[go_sem high] theorem arith_mul8 (a b : UInt8) : Op.intArith .mul .u8 (a.toNat : Int) (b.toNat : Int) = pure (.int .u8 (((mul8 a b).toNat : Nat) : Int)) := by
  rw [← wrap_mul8]; rfl
@[go_sem high] theorem arith_mul8_lit (a : UInt8) (n : Nat) (h : n < 256) : Op.intArith .mul .u8 (a.toNat : Int) (no_index (OfNat.ofNat n)) = pure (.int .u8 (((mul8 a (UInt8.ofNat n)).toNat : Nat) : Int)) := by
  rw [← arith_mul8, ← lit8 n h]; rfl
@[go_sem high] theorem arith_mul8_lit' (a : UInt8) (n : Nat) (h : n < 256) : Op.intArith .mul .u8 (no_index (OfNat.ofNat n)) (a.toNat : Int) = pure (.int .u8 (((mul8 (UInt8.ofNat n) a).toNat : Nat) : Int)) := by
  rw [← arith_mul8, ← lit8 n h]; rfl
@[go_sem high] theorem wrap_mul8_lit (a : UInt8) (n : Nat) (h : n < 256) : IntKind.u8.wrap ((a.toNat : Int) * (no_index (OfNat.ofNat n))) = ((mul8 a (UInt8.ofNat n)).toNat : Int) := by
  rw [← wrap_mul8, ← lit8 n h]; rfl
@[go_sem high] theorem wrap_mul8_lit' (a : UInt8) (n : Nat) (h : n < 256) : IntKind.u8.wrap ((no_index (OfNat.ofNat n)) * (a.toNat : Int)) = ((mul8 (UInt8.ofNat n) a).toNat : Int) := by
  rw [← wrap_mul8, ← lit8 n h]; rfl
@[go_sem high] theorem wrap_mul8' (a b : UInt8) : IntKind.u8.wrap ((a.toNat : Int) * (b.toNat : Int)) = ((mul8 a b).toNat : Int) := wrap_mul8 a b
theorem shr_eq8 (a : UInt8) (n : Nat) : (a.toNat : Int) / 2 ^ n = ((shr8 a n).toNat : Int) := by
  have h := lt8 a
  have hd : a.toNat / 2 ^ n < 256 := Nat.lt_of_le_of_lt (Nat.div_le_self _ _) h
  unfold shr8
  rw [UInt8.toNat_ofNat_of_lt' hd]
  simp
theorem shl_eq8 (a : UInt8) (n : Nat) : IntKind.u8.wrap ((a.toNat : Int) * 2 ^ n) = ((shl8 a n).toNat : Int) := by
  rw [wrapmod8]; unfold shl8
  rw [UInt8.toNat_ofNat']
  simp
@[go_sem high] theorem shift_shr8_lit (a : UInt8) (yk : IntKind) (n : Nat) (h : n ≤ 8) : Op.shift .shr .u8 (a.toNat : Int) yk (no_index (OfNat.ofNat n)) = pure (.int .u8 ((shr8 a n).toNat : Int)) := by
  rw [← shr_eq8]
  exact shift_shr .u8 yk _ (n : Int) (by omega) (by simp [IntKind.bits]; omega)
@[go_sem high] theorem shift_shl8_lit (a : UInt8) (yk : IntKind) (n : Nat) (h : n ≤ 8) : Op.shift .shl .u8 (a.toNat : Int) yk (no_index (OfNat.ofNat n)) = pure (.int .u8 ((shl8 a n).toNat : Int)) := by
  rw [← shl_eq8]
  exact shift_shl .u8 yk _ (n : Int) (by omega) (by simp [IntKind.bits]; omega)
@[go_sem high] theorem wrap_shl8 (a : UInt8) (n : Nat) : IntKind.u8.wrap ((a.toNat : Int) * 2 ^ n) = ((shl8 a n).toNat : Int) := shl_eq8 a n
@[go_sem high] theorem wrap_self8 (a : UInt8) : IntKind.u8.wrap (a.toNat : Int) = (a.toNat : Int) := wrap8 _ (lt8 a)

def and32 (a b : UInt32) : UInt32 := a &&& b
def or32 (a b : UInt32) : UInt32 := a ||| b
def xor32 (a b : UInt32) : UInt32 := a ^^^ b
def shr32 (a : UInt32) (n : Nat) : UInt32 := UInt32.ofNat (a.toNat / 2 ^ n)
def shl32 (a : UInt32) (n : Nat) : UInt32 := UInt32.ofNat (a.toNat * 2 ^ n)
theorem ofInt32 (a : UInt32) : BitVec.ofInt 32 (a.toNat : Int) = a.toBitVec := by
  rw [BitVec.ofInt_natCast]
  exact BitVec.ofNat_toNat _ _ |>.trans (by simp)
theorem wrap32 (n : Nat) (h : n < 4294967296) : IntKind.u32.wrap (n : Int) = n := by
  simp [IntKind.wrap, IntKind.bits, IntKind.signed]; omega
theorem lt32 (a : UInt32) : a.toNat < 4294967296 := a.toNat_lt
theorem lit32 (n : Nat) (h : n < 4294967296) : (n : Int) = ((UInt32.ofNat n).toNat : Int) := by
  rw [UInt32.toNat_ofNat_of_lt' h]

@[go_sem high] theorem bits_and32 (a b : UInt32) : bits .and .u32 (a.toNat : Int) (b.toNat : Int) = ((and32 a b).toNat : Int) := by
  show IntKind.u32.wrap ((BitVec.ofInt 32 (a.toNat : Int) &&& BitVec.ofInt 32 (b.toNat : Int)).toNat : Int) = _
  rw [ofInt32, ofInt32, wrap32 _ (BitVec.isLt _)]; rfl
@[go_sem high] theorem bits_and32_lit (a : UInt32) (n : Nat) (h : n < 4294967296) : bits .and .u32 (a.toNat : Int) (no_index (OfNat.ofNat n)) = ((and32 a (UInt32.ofNat n)).toNat : Int) := by
  rw [← bits_and32, ← lit32 n h]; rfl
@[go_sem high] theorem bits_or32 (a b : UInt32) : bits .or .u32 (a.toNat : Int) (b.toNat : Int) = ((or32 a b).toNat : Int) := by
  show IntKind.u32.wrap ((BitVec.ofInt 32 (a.toNat : Int) ||| BitVec.ofInt 32 (b.toNat : Int)).toNat : Int) = _
  rw [ofInt32, ofInt32, wrap32 _ (BitVec.isLt _)]; rfl
@[go_sem high] theorem bits_or32_lit (a : UInt32) (n : Nat) (h : n < 4294967296) : bits .or .u32 (a.toNat : Int) (no_index (OfNat.ofNat n)) = ((or32 a (UInt32.ofNat n)).toNat : Int) := by
  rw [← bits_or32, ← lit32 n h]; rfl
@[go_sem high] theorem bits_xor32 (a b : UInt32) : bits .xor .u32 (a.toNat : Int) (b.toNat : Int) = ((xor32 a b).toNat : Int) := by
  show IntKind.u32.wrap ((BitVec.ofInt 32 (a.toNat : Int) ^^^ BitVec.ofInt 32 (b.toNat : Int)).toNat : Int) = _
  rw [ofInt32, ofInt32, wrap32 _ (BitVec.isLt _)]; rfl
@[go_sem high] theorem bits_xor32_lit (a : UInt32) (n : Nat) (h : n < 4294967296) : bits .xor .u32 (a.toNat : Int) (no_index (OfNat.ofNat n)) = ((xor32 a (UInt32.ofNat n)).toNat : Int) := by
  rw [← bits_xor32, ← lit32 n h]; rfl
@[go_sem high] theorem bits_and32_lit' (a : UInt32) (n : Nat) (h : n < 4294967296) : bits .and .u32 (no_index (OfNat.ofNat n)) (a.toNat : Int) = ((and32 (UInt32.ofNat n) a).toNat : Int) := by
  rw [← bits_and32, ← lit32 n h]; rfl
@[go_sem high] theorem bits_or32_lit' (a : UInt32) (n : Nat) (h : n < 4294967296) : bits .or .u32 (no_index (OfNat.ofNat n)) (a.toNat : Int) = ((or32 (UInt32.ofNat n) a).toNat : Int) := by
  rw [← bits_or32, ← lit32 n h]; rfl
@[go_sem high] theorem bits_xor32_lit' (a : UInt32) (n : Nat) (h : n < 4294967296) : bits .xor .u32 (no_index (OfNat.ofNat n)) (a.toNat : Int) = ((xor32 (UInt32.ofNat n) a).toNat : Int) := by
  rw [← bits_xor32, ← lit32 n h]; rfl
def not32 (a : UInt32) : UInt32 := ~~~a
def add32 (a b : UInt32) : UInt32 := a + b
def sub32 (a b : UInt32) : UInt32 := a - b
def mul32 (a b : UInt32) : UInt32 := a * b
theorem wrapmod32 (n : Int) : IntKind.u32.wrap n = n % 4294967296 := by
  simp [IntKind.wrap, IntKind.bits, IntKind.signed]
theorem wrap_add32 (a b : UInt32) : IntKind.u32.wrap ((a.toNat : Int) + (b.toNat : Int)) = ((add32 a b).toNat : Int) := by
  rw [wrapmod32]; unfold add32; rw [UInt32.toNat_add]; simp
theorem wrap_sub32 (a b : UInt32) : IntKind.u32.wrap ((a.toNat : Int) - (b.toNat : Int)) = ((sub32 a b).toNat : Int) := by
  rw [wrapmod32]; unfold sub32; rw [UInt32.toNat_sub]
  have := lt32 a; have := lt32 b
  omega
theorem wrap_mul32 (a b : UInt32) : IntKind.u32.wrap ((a.toNat : Int) * (b.toNat : Int)) = ((mul32 a b).toNat : Int) := by
  rw [wrapmod32]; unfold mul32; rw [UInt32.toNat_mul]; simp
@[go_sem high] theorem arith_add32 (a b : UInt32) : Op.intArith .add .u32 (a.toNat : Int) (b.toNat : Int) = pure (.int .u32 (((add32 a b).toNat : Nat) : Int)) := by
  rw [← wrap_add32]; rfl
@[go_sem high] theorem arith_add32_lit (a : UInt32) (n : Nat) (h : n < 4294967296) : Op.intArith .add .u32 (a.toNat : Int) (no_index (OfNat.ofNat n)) = pure (.int .u32 (((add32 a (UInt32.ofNat n)).toNat : Nat) : Int)) := by
  rw [← arith_add32, ← lit32 n h]; rfl
@[go_sem high] theorem arith_add32_lit' (a : UInt32) (n : Nat) (h : n < 4294967296) : Op.intArith .add .u32 (no_index (OfNat.ofNat n)) (a.toNat : Int) = pure (.int .u32 (((add32 (UInt32.ofNat n) a).toNat : Nat) : Int)) := by
  rw [← arith_add32, ← lit32 n h]; rfl
@[go_sem high] theorem wrap_add32_lit (a : UInt32) (n : Nat) (h : n < 4294967296) : IntKind.u32.wrap ((a.toNat : Int) + (no_index (OfNat.ofNat n))) = ((add32 a (UInt32.ofNat n)).toNat : Int) := by
  rw [← wrap_add32, ← lit32 n h]; rfl
@[go_sem high] theorem wrap_add32_lit' (a : UInt32) (n : Nat) (h : n < 4294967296) : IntKind.u32.wrap ((no_index (OfNat.ofNat n)) + (a.toNat : Int)) = ((add32 (UInt32.ofNat n) a).toNat : Int) := by
  rw [← wrap_add32, ← lit32 n h]; rfl
@[go_sem high] theorem wrap_add32' (a b : UInt32) : IntKind.u32.wrap ((a.toNat : Int) + (b.toNat : Int)) = ((add32 a b).toNat : Int) := wrap_add32 a b
@[go_sem high] theorem arith_sub32 (a b : UInt32) : Op.intArith .sub .u32 (a.toNat : Int) (b.toNat : Int) = pure (.int .u32 (((sub32 a b).toNat : Nat) : Int)) := by
  rw [← wrap_sub32]; rfl
@[go_sem high] theorem arith_sub32_lit (a : UInt32) (n : Nat) (h : n < 4294967296) : Op.intArith .sub .u32 (a.toNat : Int) (no_index (OfNat.ofNat n)) = pure (.int .u32 (((sub32 a (UInt32.ofNat n)).toNat : Nat) : Int)) := by
  rw [← arith_sub32, ← lit32 n h]; rfl
@[go_sem high] theorem arith_sub32_lit' (a : UInt32) (n : Nat) (h : n < 4294967296) : Op.intArith .sub .u32 (no_index (OfNat.ofNat n)) (a.toNat : Int) = pure (.int .u32 (((sub32 (UInt32.ofNat n) a).toNat : Nat) : Int)) := by
  rw [← arith_sub32, ← lit32 n h]; rfl
@[go_sem high] theorem wrap_sub32_lit (a : UInt32) (n : Nat) (h : n < 4294967296) : IntKind.u32.wrap ((a.toNat : Int) - (no_index (OfNat.ofNat n))) = ((sub32 a (UInt32.ofNat n)).toNat : Int) := by
  rw [← wrap_sub32, ← lit32 n h]; rfl
@[go_sem high] theorem wrap_sub32_lit' (a : UInt32) (n : Nat) (h : n < 4294967296) : IntKind.u32.wrap ((no_index (OfNat.ofNat n)) - (a.toNat : Int)) = ((sub32 (UInt32.ofNat n) a).toNat : Int) := by
  rw [← wrap_sub32, ← lit32 n h]; rfl
@[go_sem high] theorem wrap_sub32' (a b : UInt32) : IntKind.u32.wrap ((a.toNat : Int) - (b.toNat : Int)) = ((sub32 a b).toNat : Int) := wrap_sub32 a b
@[go_sem high] theorem arith_mul32 (a b : UInt32) : Op.intArith .mul .u32 (a.toNat : Int) (b.toNat : Int) = pure (.int .u32 (((mul32 a b).toNat : Nat) : Int)) := by
  rw [← wrap_mul32]; rfl
@[go_sem high] theorem arith_mul32_lit (a : UInt32) (n : Nat) (h : n < 4294967296) : Op.intArith .mul .u32 (a.toNat : Int) (no_index (OfNat.ofNat n)) = pure (.int .u32 (((mul32 a (UInt32.ofNat n)).toNat : Nat) : Int)) := by
  rw [← arith_mul32, ← lit32 n h]; rfl
@[go_sem high] theorem arith_mul32_lit' (a : UInt32) (n : Nat) (h : n < 4294967296) : Op.intArith .mul .u32 (no_index (OfNat.ofNat n)) (a.toNat : Int) = pure (.int .u32 (((mul32 (UInt32.ofNat n) a).toNat : Nat) : Int)) := by
  rw [← arith_mul32, ← lit32 n h]; rfl
@[go_sem high] theorem wrap_mul32_lit (a : UInt32) (n : Nat) (h : n < 4294967296) : IntKind.u32.wrap ((a.toNat : Int) * (no_index (OfNat.ofNat n))) = ((mul32 a (UInt32.ofNat n)).toNat : Int) := by
  rw [← wrap_mul32, ← lit32 n h]; rfl
@[go_sem high] theorem wrap_mul32_lit' (a : UInt32) (n : Nat) (h : n < 4294967296) : IntKind.u32.wrap ((no_index (OfNat.ofNat n)) * (a.toNat : Int)) = ((mul32 (UInt32.ofNat n) a).toNat : Int) := by
  rw [← wrap_mul32, ← lit32 n h]; rfl
@[go_sem high] theorem wrap_mul32' (a b : UInt32) : IntKind.u32.wrap ((a.toNat : Int) * (b.toNat : Int)) = ((mul32 a b).toNat : Int) := wrap_mul32 a b
theorem shr_eq32 (a : UInt32) (n : Nat) : (a.toNat : Int) / 2 ^ n = ((shr32 a n).toNat : Int) := by
  have h := lt32 a
  have hd : a.toNat / 2 ^ n < 4294967296 := Nat.lt_of_le_of_lt (Nat.div_le_self _ _) h
  unfold shr32
  rw [UInt32.toNat_ofNat_of_lt' hd]
  simp
theorem shl_eq32 (a : UInt32) (n : Nat) : IntKind.u32.wrap ((a.toNat : Int) * 2 ^ n) = ((shl32 a n).toNat : Int) := by
  rw [wrapmod32]; unfold shl32
  rw [UInt32.toNat_ofNat']
  simp
@[go_sem high] theorem shift_shr32_lit (a : UInt32) (yk : IntKind) (n : Nat) (h : n ≤ 32) : Op.shift .shr .u32 (a.toNat : Int) yk (no_index (OfNat.ofNat n)) = pure (.int .u32 ((shr32 a n).toNat : Int)) := by
  rw [← shr_eq32]
  exact shift_shr .u32 yk _ (n : Int) (by omega) (by simp [IntKind.bits]; omega)
@[go_sem high] theorem shift_shl32_lit (a : UInt32) (yk : IntKind) (n : Nat) (h : n ≤ 32) : Op.shift .shl .u32 (a.toNat : Int) yk (no_index (OfNat.ofNat n)) = pure (.int .u32 ((shl32 a n).toNat : Int)) := by
  rw [← shl_eq32]
  exact shift_shl .u32 yk _ (n : Int) (by omega) (by simp [IntKind.bits]; omega)
@[go_sem high] theorem wrap_shl32 (a : UInt32) (n : Nat) : IntKind.u32.wrap ((a.toNat : Int) * 2 ^ n) = ((shl32 a n).toNat : Int) := shl_eq32 a n
@[go_sem high] theorem wrap_self32 (a : UInt32) : IntKind.u32.wrap (a.toNat : Int) = (a.toNat : Int) := wrap32 _ (lt32 a)
@[go_sem] theorem div_pow32 (a : UInt32) (n : Nat) : (a.toNat : Int) / 2 ^ n = ((shr32 a n).toNat : Int) := shr_eq32 a n

def and64 (a b : UInt64) : UInt64 := a &&& b
def or64 (a b : UInt64) : UInt64 := a ||| b
def xor64 (a b : UInt64) : UInt64 := a ^^^ b
def shr64 (a : UInt64) (n : Nat) : UInt64 := UInt64.ofNat (a.toNat / 2 ^ n)
def shl64 (a : UInt64) (n : Nat) : UInt64 := UInt64.ofNat (a.toNat * 2 ^ n)
theorem ofInt64 (a : UInt64) : BitVec.ofInt 64 (a.toNat : Int) = a.toBitVec := by
  rw [BitVec.ofInt_natCast]
  exact BitVec.ofNat_toNat _ _ |>.trans (by simp)
theorem wrap64 (n : Nat) (h : n < 18446744073709551616) : IntKind.u64.wrap (n : Int) = n := by
  simp [IntKind.wrap, IntKind.bits, IntKind.signed]; omega
theorem lt64 (a : UInt64) : a.toNat < 18446744073709551616 := a.toNat_lt
theorem lit64 (n : Nat) (h : n < 18446744073709551616) : (n : Int) = ((UInt64.ofNat n).toNat : Int) := by
  rw [UInt64.toNat_ofNat_of_lt' h]

@[go_sem high] theorem bits_and64 (a b : UInt64) : bits .and .u64 (a.toNat : Int) (b.toNat : Int) = ((and64 a b).toNat : Int) := by
  show IntKind.u64.wrap ((BitVec.ofInt 64 (a.toNat : Int) &&& BitVec.ofInt 64 (b.toNat : Int)).toNat : Int) = _
  rw [ofInt64, ofInt64, wrap64 _ (BitVec.isLt _)]; rfl
@[go_sem high] theorem bits_and64_lit (a : UInt64) (n : Nat) (h : n < 18446744073709551616) : bits .and .u64 (a.toNat : Int) (no_index (OfNat.ofNat n)) = ((and64 a (UInt64.ofNat n)).toNat : Int) := by
  rw [← bits_and64, ← lit64 n h]; rfl
@[go_sem high] theorem bits_or64 (a b : UInt64) : bits .or .u64 (a.toNat : Int) (b.toNat : Int) = ((or64 a b).toNat : Int) := by
  show IntKind.u64.wrap ((BitVec.ofInt 64 (a.toNat : Int) ||| BitVec.ofInt 64 (b.toNat : Int)).toNat : Int) = _
  rw [ofInt64, ofInt64, wrap64 _ (BitVec.isLt _)]; rfl
@[go_sem high] theorem bits_or64_lit (a : UInt64) (n : Nat) (h : n < 18446744073709551616) : bits .or .u64 (a.toNat : Int) (no_index (OfNat.ofNat n)) = ((or64 a (UInt64.ofNat n)).toNat : Int) := by
  rw [← bits_or64, ← lit64 n h]; rfl
@[go_sem high] theorem bits_xor64 (a b : UInt64) : bits .xor .u64 (a.toNat : Int) (b.toNat : Int) = ((xor64 a b).toNat : Int) := by
  show IntKind.u64.wrap ((BitVec.ofInt 64 (a.toNat : Int) ^^^ BitVec.ofInt 64 (b.toNat : Int)).toNat : Int) = _
  rw [ofInt64, ofInt64, wrap64 _ (BitVec.isLt _)]; rfl
@[go_sem high] theorem bits_xor64_lit (a : UInt64) (n : Nat) (h : n < 18446744073709551616) : bits .xor .u64 (a.toNat : Int) (no_index (OfNat.ofNat n)) = ((xor64 a (UInt64.ofNat n)).toNat : Int) := by
  rw [← bits_xor64, ← lit64 n h]; rfl
@[go_sem high] theorem bits_and64_lit' (a : UInt64) (n : Nat) (h : n < 18446744073709551616) : bits .and .u64 (no_index (OfNat.ofNat n)) (a.toNat : Int) = ((and64 (UInt64.ofNat n) a).toNat : Int) := by
  rw [← bits_and64, ← lit64 n h]; rfl
@[go_sem high] theorem bits_or64_lit' (a : UInt64) (n : Nat) (h : n < 18446744073709551616) : bits .or .u64 (no_index (OfNat.ofNat n)) (a.toNat : Int) = ((or64 (UInt64.ofNat n) a).toNat : Int) := by
  rw [← bits_or64, ← lit64 n h]; rfl
@[go_sem high] theorem bits_xor64_lit' (a : UInt64) (n : Nat) (h : n < 18446744073709551616) : bits .xor .u64 (no_index (OfNat.ofNat n)) (a.toNat : Int) = ((xor64 (UInt64.ofNat n) a).toNat : Int) := by
  rw [← bits_xor64, ← lit64 n h]; rfl
def not64 (a : UInt64) : UInt64 := ~~~a
def add64 (a b : UInt64) : UInt64 := a + b
def sub64 (a b : UInt64) : UInt64 := a - b
def mul64 (a b : UInt64) : UInt64 := a * b
theorem wrapmod64 (n : Int) : IntKind.u64.wrap n = n % 18446744073709551616 := by
  simp [IntKind.wrap, IntKind.bits, IntKind.signed]
theorem wrap_add64 (a b : UInt64) : IntKind.u64.wrap ((a.toNat : Int) + (b.toNat : Int)) = ((add64 a b).toNat : Int) := by
  rw [wrapmod64]; unfold add64; rw [UInt64.toNat_add]; simp
theorem wrap_sub64 (a b : UInt64) : IntKind.u64.wrap ((a.toNat : Int) - (b.toNat : Int)) = ((sub64 a b).toNat : Int) := by
  rw [wrapmod64]; unfold sub64; rw [UInt64.toNat_sub]
  have := lt64 a; have := lt64 b
  omega
theorem wrap_mul64 (a b : UInt64) : IntKind.u64.wrap ((a.toNat : Int) * (b.toNat : Int)) = ((mul64 a b).toNat : Int) := by
  rw [wrapmod64]; unfold mul64; rw [UInt64.toNat_mul]; simp
@[go_sem high] theorem arith_add64 (a b : UInt64) : Op.intArith .add .u64 (a.toNat : Int) (b.toNat : Int) = pure (.int .u64 (((add64 a b).toNat : Nat) : Int)) := by
  rw [← wrap_add64]; rfl
@[go_sem high] theorem arith_add64_lit (a : UInt64) (n : Nat) (h : n < 18446744073709551616) : Op.intArith .add .u64 (a.toNat : Int) (no_index (OfNat.ofNat n)) = pure (.int .u64 (((add64 a (UInt64.ofNat n)).toNat : Nat) : Int)) := by
  rw [← arith_add64, ← lit64 n h]; rfl
@[go_sem high] theorem arith_add64_lit' (a : UInt64) (n : Nat) (h : n < 18446744073709551616) : Op.intArith .add .u64 (no_index (OfNat.ofNat n)) (a.toNat : Int) = pure (.int .u64 (((add64 (UInt64.ofNat n) a).toNat : Nat) : Int)) := by
  rw [← arith_add64, ← lit64 n h]; rfl
@[go_sem high] theorem wrap_add64_lit (a : UInt64) (n : Nat) (h : n < 18446744073709551616) : IntKind.u64.wrap ((a.toNat : Int) + (no_index (OfNat.ofNat n))) = ((add64 a (UInt64.ofNat n)).toNat : Int) := by
  rw [← wrap_add64, ← lit64 n h]; rfl
@[go_sem high] theorem wrap_add64_lit' (a : UInt64) (n : Nat) (h : n < 18446744073709551616) : IntKind.u64.wrap ((no_index (OfNat.ofNat n)) + (a.toNat : Int)) = ((add64 (UInt64.ofNat n) a).toNat : Int) := by
  rw [← wrap_add64, ← lit64 n h]; rfl
@[go_sem high] theorem wrap_add64' (a b : UInt64) : IntKind.u64.wrap ((a.toNat : Int) + (b.toNat : Int)) = ((add64 a b).toNat : Int) := wrap_add64 a b
@[go_sem high] theorem arith_sub64 (a b : UInt64) : Op.intArith .sub .u64 (a.toNat : Int) (b.toNat : Int) = pure (.int .u64 (((sub64 a b).toNat : Nat) : Int)) := by
  rw [← wrap_sub64]; rfl
@[go_sem high] theorem arith_sub64_lit (a : UInt64) (n : Nat) (h : n < 18446744073709551616) : Op.intArith .sub .u64 (a.toNat : Int) (no_index (OfNat.ofNat n)) = pure (.int .u64 (((sub64 a (UInt64.ofNat n)).toNat : Nat) : Int)) := by
  rw [← arith_sub64, ← lit64 n h]; rfl
@[go_sem high] theorem arith_sub64_lit' (a : UInt64) (n : Nat) (h : n < 18446744073709551616) : Op.intArith .sub .u64 (no_index (OfNat.ofNat n)) (a.toNat : Int) = pure (.int .u64 (((sub64 (UInt64.ofNat n) a).toNat : Nat) : Int)) := by
  rw [← arith_sub64, ← lit64 n h]; rfl
@[go_sem high] theorem wrap_sub64_lit (a : UInt64) (n : Nat) (h : n < 18446744073709551616) : IntKind.u64.wrap ((a.toNat : Int) - (no_index (OfNat.ofNat n))) = ((sub64 a (UInt64.ofNat n)).toNat : Int) := by
  rw [← wrap_sub64, ← lit64 n h]; rfl
@[go_sem high] theorem wrap_sub64_lit' (a : UInt64) (n : Nat) (h : n < 18446744073709551616) : IntKind.u64.wrap ((no_index (OfNat.ofNat n)) - (a.toNat : Int)) = ((sub64 (UInt64.ofNat n) a).toNat : Int) := by
  rw [← wrap_sub64, ← lit64 n h]; rfl
@[go_sem high] theorem wrap_sub64' (a b : UInt64) : IntKind.u64.wrap ((a.toNat : Int) - (b.toNat : Int)) = ((sub64 a b).toNat : Int) := wrap_sub64 a b
@[go_sem high] theorem arith_mul64 (a b : UInt64) : Op.intArith .mul .u64 (a.toNat : Int) (b.toNat : Int) = pure (.int .u64 (((mul64 a b).toNat : Nat) : Int)) := by
  rw [← wrap_mul64]; rfl
@[go_sem high] theorem arith_mul64_lit (a : UInt64) (n : Nat) (h : n < 18446744073709551616) : Op.intArith .mul .u64 (a.toNat : Int) (no_index (OfNat.ofNat n)) = pure (.int .u64 (((mul64 a (UInt64.ofNat n)).toNat : Nat) : Int)) := by
  rw [← arith_mul64, ← lit64 n h]; rfl
@[go_sem high] theorem arith_mul64_lit' (a : UInt64) (n : Nat) (h : n < 18446744073709551616) : Op.intArith .mul .u64 (no_index (OfNat.ofNat n)) (a.toNat : Int) = pure (.int .u64 (((mul64 (UInt64.ofNat n) a).toNat : Nat) : Int)) := by
  rw [← arith_mul64, ← lit64 n h]; rfl
@[go_sem high] theorem wrap_mul64_lit (a : UInt64) (n : Nat) (h : n < 18446744073709551616) : IntKind.u64.wrap ((a.toNat : Int) * (no_index (OfNat.ofNat n))) = ((mul64 a (UInt64.ofNat n)).toNat : Int) := by
  rw [← wrap_mul64, ← lit64 n h]; rfl
@[go_sem high] theorem wrap_mul64_lit' (a : UInt64) (n : Nat) (h : n < 18446744073709551616) : IntKind.u64.wrap ((no_index (OfNat.ofNat n)) * (a.toNat : Int)) = ((mul64 (UInt64.ofNat n) a).toNat : Int) := by
  rw [← wrap_mul64, ← lit64 n h]; rfl
@[go_sem high] theorem wrap_mul64' (a b : UInt64) : IntKind.u64.wrap ((a.toNat : Int) * (b.toNat : Int)) = ((mul64 a b).toNat : Int) := wrap_mul64 a b
theorem shr_eq64 (a : UInt64) (n : Nat) : (a.toNat : Int) / 2 ^ n = ((shr64 a n).toNat : Int) := by
  have h := lt64 a
  have hd : a.toNat / 2 ^ n < 18446744073709551616 := Nat.lt_of_le_of_lt (Nat.div_le_self _ _) h
  unfold shr64
  rw [UInt64.toNat_ofNat_of_lt' hd]
  simp
theorem shl_eq64 (a : UInt64) (n : Nat) : IntKind.u64.wrap ((a.toNat : Int) * 2 ^ n) = ((shl64 a n).toNat : Int) := by
  rw [wrapmod64]; unfold shl64
  rw [UInt64.toNat_ofNat']
  simp
@[go_sem high] theorem shift_shr64_lit (a : UInt64) (yk : IntKind) (n : Nat) (h : n ≤ 64) : Op.shift .shr .u64 (a.toNat : Int) yk (no_index (OfNat.ofNat n)) = pure (.int .u64 ((shr64 a n).toNat : Int)) := by
  rw [← shr_eq64]
  exact shift_shr .u64 yk _ (n : Int) (by omega) (by simp [IntKind.bits]; omega)
@[go_sem high] theorem shift_shl64_lit (a : UInt64) (yk : IntKind) (n : Nat) (h : n ≤ 64) : Op.shift .shl .u64 (a.toNat : Int) yk (no_index (OfNat.ofNat n)) = pure (.int .u64 ((shl64 a n).toNat : Int)) := by
  rw [← shl_eq64]
  exact shift_shl .u64 yk _ (n : Int) (by omega) (by simp [IntKind.bits]; omega)
@[go_sem high] theorem wrap_shl64 (a : UInt64) (n : Nat) : IntKind.u64.wrap ((a.toNat : Int) * 2 ^ n) = ((shl64 a n).toNat : Int) := shl_eq64 a n
@[go_sem high] theorem wrap_self64 (a : UInt64) : IntKind.u64.wrap (a.toNat : Int) = (a.toNat : Int) := wrap64 _ (lt64 a)
@[go_sem] theorem div_pow64 (a : UInt64) (n : Nat) : (a.toNat : Int) / 2 ^ n = ((shr64 a n).toNat : Int) := shr_eq64 a n

def up8_32 (x : UInt8) : UInt32 := UInt32.ofNat x.toNat
@[go_sem high] theorem wrap_up8_32 (x : UInt8) : IntKind.u32.wrap (x.toNat : Int) = ((up8_32 x).toNat : Int) := by
  have := lt8 x
  rw [wrap32 _ (by omega)]; unfold up8_32; rw [UInt32.toNat_ofNat_of_lt' (by show _ < 4294967296; omega)]
def lo32_8 (x : UInt32) : UInt8 := UInt8.ofNat x.toNat
@[go_sem high] theorem wrap_lo32_8 (x : UInt32) : IntKind.u8.wrap (x.toNat : Int) = ((lo32_8 x).toNat : Int) := by
  rw [wrapmod8]; unfold lo32_8; rw [UInt8.toNat_ofNat']; simp
def up8_64 (x : UInt8) : UInt64 := UInt64.ofNat x.toNat
@[go_sem high] theorem wrap_up8_64 (x : UInt8) : IntKind.u64.wrap (x.toNat : Int) = ((up8_64 x).toNat : Int) := by
  have := lt8 x
  rw [wrap64 _ (by omega)]; unfold up8_64; rw [UInt64.toNat_ofNat_of_lt' (by show _ < 18446744073709551616; omega)]
def lo64_8 (x : UInt64) : UInt8 := UInt8.ofNat x.toNat
@[go_sem high] theorem wrap_lo64_8 (x : UInt64) : IntKind.u8.wrap (x.toNat : Int) = ((lo64_8 x).toNat : Int) := by
  rw [wrapmod8]; unfold lo64_8; rw [UInt8.toNat_ofNat']; simp
def up32_64 (x : UInt32) : UInt64 := UInt64.ofNat x.toNat
@[go_sem high] theorem wrap_up32_64 (x : UInt32) : IntKind.u64.wrap (x.toNat : Int) = ((up32_64 x).toNat : Int) := by
  have := lt32 x
  rw [wrap64 _ (by omega)]; unfold up32_64; rw [UInt64.toNat_ofNat_of_lt' (by show _ < 18446744073709551616; omega)]
def lo64_32 (x : UInt64) : UInt32 := UInt32.ofNat x.toNat
@[go_sem high] theorem wrap_lo64_32 (x : UInt64) : IntKind.u32.wrap (x.toNat : Int) = ((lo64_32 x).toNat : Int) := by
  rw [wrapmod32]; unfold lo64_32; rw [UInt32.toNat_ofNat']; simp
theorem of_nat8 (n : Nat) : IntKind.u8.wrap (n : Int) = ((UInt8.ofNat n).toNat : Int) := by
  rw [wrapmod8, UInt8.toNat_ofNat']; simp
theorem of_nat32 (n : Nat) : IntKind.u32.wrap (n : Int) = ((UInt32.ofNat n).toNat : Int) := by
  rw [wrapmod32, UInt32.toNat_ofNat']; simp
theorem of_nat64 (n : Nat) : IntKind.u64.wrap (n : Int) = ((UInt64.ofNat n).toNat : Int) := by
  rw [wrapmod64, UInt64.toNat_ofNat']; simp

end Go.Ops
