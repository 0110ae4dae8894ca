/-
  Texts of this claim, one behind the other: Mem Ops Ops2 Cells OctPlain.
-/
import Derived.WalkKit
import Derived.WalkSpells
import Derived.WalkLawsBesides
import Derived.Lib.Hide
import Derived.Laws.AppendOwnNone
import Derived.Laws.CopyOwn
import Derived.Deep.AppendLies
import Derived.Deep.Onto
import Derived.Deep.MidRow
import Derived.OwnWalk
/-
  Plain facts on memory: cells behind an address, as lists; a slice of bytes as a list of bytes. No program.
-/
namespace Go.Mem
open Go.RowKit

/-- A byte as a value. -/
abbrev B (b : UInt8) : Value := .int .u8 (b.toNat : Int)

/-- The cells xs lie behind the address. -/
def Lies (w : World) (ao : Option Addr) (xs : List Value) : Prop :=
  ∀ j u, xs[j]? = some u → ∃ b off, ao = some ⟨b, off, none⟩ ∧ w.cell? ⟨b, off + j, none⟩ = some u

theorem add_eq (b off j : Nat) : (⟨b, off, none⟩ : Addr).add j = ⟨b, off + j, none⟩ := by
  unfold Addr.add; split <;> simp_all

theorem block_lt_of_cell {w : World} {b o : Nat} {s : Option Nat} {u : Value} (h : w.cell? ⟨b, o, s⟩ = some u) : b < w.heap.size := World.block_lt_of_cell? w _ h

theorem Lies.below {w w' : World} {ao : Option Addr} {xs : List Value} (h : Lies w ao xs) (hb : Below w.heap.size w w') : Lies w' ao xs := by
  intro j u hu
  obtain ⟨b, off, e, hc⟩ := h j u hu
  exact ⟨b, off, e, (hb.cell (p := ⟨b, off + j, none⟩) (block_lt_of_cell hc)).trans hc⟩

theorem Lies.nil (w : World) (ao : Option Addr) : Lies w ao [] := by intro j u hu; cases hu

theorem Lies.at {w : World} {ao : Option Addr} {xs : List Value} (h : Lies w ao xs) (hn : xs ≠ []) : ∃ b off, ao = some ⟨b, off, none⟩ ∧ b < w.heap.size ∧ ∀ j u, xs[j]? = some u → w.cell? ⟨b, off + j, none⟩ = some u := by
  cases xs with
  | nil => exact absurd rfl hn
  | cons x xs =>
    obtain ⟨b, off, e, hc⟩ := h 0 x rfl
    refine ⟨b, off, e, block_lt_of_cell hc, ?_⟩
    intro j u hu
    obtain ⟨b', off', e', hc'⟩ := h j u hu
    rw [e] at e'
    cases e'
    exact hc'

theorem Lies.news {w : World} {ad : Addr} {xs : List Value} (h : Lies w (some ad) xs) : ∀ j u, xs[j]? = some u → w.cell? (ad.add j) = some u := by
  intro j u hu
  obtain ⟨b, off, e, hc⟩ := h j u hu
  cases e
  rw [add_eq]; exact hc

/-- What lies behind a cut: from the element 'a' on. -/
theorem Lies.drop {w : World} {ao : Option Addr} {xs : List Value} (h : Lies w ao xs) (a : Nat) : Lies w (ao.map (·.add a)) (xs.drop a) := by
  intro j u hu
  rw [List.getElem?_drop] at hu
  obtain ⟨b, off, e, hc⟩ := h (a + j) u hu
  refine ⟨b, off + a, ?_, ?_⟩
  · rw [e, Option.map_some, add_eq]
  · rw [Nat.add_assoc]; exact hc

theorem Lies.take {w : World} {ao : Option Addr} {xs : List Value} (h : Lies w ao xs) (n : Nat) : Lies w ao (xs.take n) := by
  intro j u hu
  rw [List.getElem?_take] at hu
  split at hu
  · exact h j u hu
  · cases hu

/-- A slice expression's address, as the model has it. -/
theorem Lies.cut {w : World} {ao : Option Addr} {xs : List Value} {cap : Nat} (h : Lies w ao xs) (hcap : xs.length ≤ cap) (a n : Nat) :
    Lies w (if cap = a then ao else ao.map (·.add a)) ((xs.drop a).take n) := by
  by_cases hc : cap = a
  · rw [if_pos hc, List.drop_eq_nil_of_le (by omega)]
    simp only [List.take_nil]
    exact Lies.nil _ _
  · rw [if_neg hc]
    exact (h.drop a).take n

theorem Lies.of_own {w : World} {base : Nat} {e : TypeId} {size : Nat} {ao : Option Addr} {n cap : Nat} {xs : List Value} (h : w.ownsRow base e size (.slice ao n cap) n xs) : Lies w ao xs := by
  intro j u hu
  rcases h.2 with ⟨hv, hn⟩ | ⟨g, c, cur, hv, hb, hg, _, _, _, ht⟩
  · have : xs = [] := List.eq_nil_of_length_eq_zero (by rw [h.1, hn]; simp)
    rw [this] at hu; cases hu
  · cases hv
    refine ⟨g, 0, rfl, ?_⟩
    have := h.cells (g := g) rfl j u hu
    rw [add_eq] at this
    exact this

/-- A value that owns is a slice of so many elements. -/
theorem own_form {w : World} {base : Nat} {e : TypeId} {size : Nat} {v : Value} {n : Nat} {xs : List Value} (h : w.ownsRow base e size v n xs) :
    ∃ ao cap, v = .slice ao n cap ∧ n ≤ cap ∧ cap ≤ maxLen ∧ Lies w ao xs := by
  rcases h.2 with ⟨hv, hn⟩ | ⟨g, c, cur, hv, hb, hg, h1, h2, h3, ht⟩
  · subst hn
    exact ⟨none, 0, hv, by omega, by simp [maxLen], Lies.of_own (base := base) (e := e) (size := size) (hv ▸ h)⟩
  · exact ⟨some ⟨g, 0, none⟩, c, hv, h1, h2, Lies.of_own (base := base) (e := e) (size := size) (hv ▸ h)⟩

theorem oneCell_B (bs : List UInt8) : ∀ u ∈ bs.map B, u.oneCell' = true := by
  intro u hu
  obtain ⟨b, _, rfl⟩ := List.mem_map.1 hu
  rfl

theorem eql_slice_nil {P : Program} (w : World) (t e : TypeId) (a : Option Addr) (l c : Nat) (h : P.underlying t = some (.slice e)) :
    (binOp .eql t (.slice a l c) (.slice none 0 0)).run P w = .ok (.bool a.isNone) w := by
  simp only [binOp]
  simp [run_equal_slice_nil w t e a l c h]

theorem Lies.of_block {w : World} {b : Nat} {cs : Array Value} {t : TypeId} {fr : Nat × Nat} (h : w.heap[b]? = some (.cells cs t fr)) : Lies w (some ⟨b, 0, none⟩) cs.toList := by
  intro j u hu
  refine ⟨b, 0, rfl, ?_⟩
  have := World.news_of_block h j u hu
  rw [add_eq] at this
  exact this

theorem run_equalIn_complex {P : Program} (w : World) (d : Nat) (t : TypeId) (k : FloatKind) (a b x y : Nat) (ht : P.underlying t = some (.complex k)) :
    (Op.equalIn (d + 1) t (.complex k a b) (.complex k x y)).run P w = .ok ((k.format.order a x == some .eq) && (k.format.order b y == some .eq)) w := by
  simp [Op.equalIn, run_underlying ht, Op.floatEq]

/-- Bytes as a string. -/
def str (bs : List UInt8) : ByteArray := ⟨bs.toArray⟩

/-- 'string(b)'. -/
theorem run_string {P : Program} (w : World) (src dst e : TypeId) (hs : P.underlying src = some (.slice e)) (he : P.underlying e = some (.int .u8)) (hd : P.underlying dst = some .string)
    (ao : Option Addr) (len cap : Nat) (bs : List UInt8) (hlen : bs.length = len) (hl : Lies w ao (bs.map B)) : (convert src dst (.slice ao len cap)).run P w = .ok (.string (str bs)) w := by
  rw [run_convert_bytes_string w src dst e _ len cap hs he hd]
  cases ao with
  | none =>
    have : bs = [] := by
      cases bs with
      | nil => rfl
      | cons x xs => obtain ⟨_, _, e, _⟩ := hl 0 (B x) rfl; cases e
    subst this
    rfl
  | some ad =>
    have h1 : (loadCells ad len).run P w = .ok ((bs.map fun b => (b.toNat : Int)).map (Value.int .u8)).toArray w := by
      have := run_loadCells_list (P := P) w ad (bs.map B) hl.news
      rw [List.map_map]
      rw [List.length_map, hlen] at this
      exact this
    rw [run_bytesToString w _ len cap _ h1, foldl_push_bytes]
    simp only [List.map_map]
    have h2 : (List.map ((fun n => UInt8.ofNat n.toNat) ∘ fun b : UInt8 => (b.toNat : Int)) bs) = bs := by
      conv => rhs; rw [← List.map_id bs]
      apply List.map_congr_left
      intro b _
      simp
    rw [h2]
    simp [str, ByteArray.empty, ByteArray.emptyWithCapacity]
    rfl

theorem str_beq (a b : List UInt8) : ((str a).toList == (str b).toList) = (a == b) := by
  simp [str]

/-- A slice expression's address, under one name. -/
def cutAddr (ao : Option Addr) (cap a : Nat) : Option Addr := if cap = a then ao else ao.map (·.add a)

theorem Lies.cutA {w : World} {ao : Option Addr} {xs : List Value} {cap : Nat} (h : Lies w ao xs) (hcap : xs.length ≤ cap) (a n : Nat) :
    Lies w (cutAddr ao cap a) ((xs.drop a).take n) := Lies.cut h hcap a n

/-- 's[i:j]', of elements of one cell. -/
theorem run_cut {P : Program} (w : World) (t e : TypeId) (ht : P.underlying t = some (.slice e)) (hs : ∀ w : World, (sizeOf e).run P w = .ok 1 w) (ao : Option Addr) (len cap lo hi : Nat) (i j : Int) (hi' : i = lo) (hj : j = hi) (h1 : lo ≤ hi) (h2 : hi ≤ cap) :
    (Instr.slice t (.slice ao len cap) (some (.int .i64 i)) (some (.int .i64 j)) none).run P w = .ok (.slice (cutAddr ao cap lo) (hi - lo) (cap - lo)) w := by
  subst hi'; subst hj
  simp [Instr.slice, Instr.sliceBounds, Instr.sliceBound, run_underlying ht, hs, asIntOf, h1, h2, cutAddr]

theorem run_size {P : Program} (e : TypeId) (i : TypeInfo) (n : Nat) (hi : P.info? e = some i) (hs : i.size = n) (w : World) : (sizeOf e).run P w = .ok n w := by
  simp [sizeOf, typeInfo, hi, hs]

/-- A slice of bytes that came in, as a list of bytes. -/
theorem bytes_of_row {w : World} {a : Option Addr} {len cap : Nat} {zs : List Int}
    (h : (a = none ∧ len = 0 ∧ cap = 0 ∧ zs = []) ∨ ∃ x, a = some x ∧ len ≤ cap ∧ cap ≤ maxLen ∧ zs.length = cap ∧ (∀ i, i < zs.length → w.cell? (x.add i) = some (.int .u8 (zs.getD i 0))) ∧ ∀ n ∈ zs, (Lit.int .u8 n).wf = true) :
    ∃ bs : List UInt8, bs.length = len ∧ len ≤ cap ∧ cap ≤ maxLen ∧ Lies w a (bs.map B) := by
  rcases h with ⟨rfl, rfl, rfl, rfl⟩ | ⟨x, rfl, hl, hm, hz, hc, hw⟩
  · exact ⟨[], rfl, Nat.le_refl _, by simp [maxLen], Lies.nil _ _⟩
  · refine ⟨(zs.take len).map fun n => UInt8.ofNat n.toNat, by simp; omega, hl, hm, ?_⟩
    intro j u hu
    rw [List.map_map, List.getElem?_map] at hu
    cases hj : (zs.take len)[j]? with
    | none => rw [hj] at hu; cases hu
    | some n =>
      rw [hj] at hu
      simp only [Option.map_some, Option.some.injEq] at hu
      have hj2 : zs[j]? = some n := by
        rw [List.getElem?_take] at hj
        split at hj
        · exact hj
        · cases hj
      have hlt : j < zs.length := (List.getElem?_eq_some_iff.1 hj2).1
      have hcj := hc j hlt
      have hn : zs.getD j 0 = n := by simp [List.getD, hj2]
      rw [hn] at hcj
      have hwn := hw n (List.mem_of_getElem? hj2)
      have hb : 0 ≤ n ∧ n ≤ 255 := by simpa [Lit.wf, IntKind.min, IntKind.max, IntKind.signed, IntKind.bits] using hwn
      have hB : B (UInt8.ofNat n.toNat) = .int .u8 n := by
        show Value.int .u8 _ = _
        rw [UInt8.toNat_ofNat_of_lt' (by show _ < 256; omega)]
        congr 1; omega
      subst hu
      have hx0 : x.spot = none := by
        have hc0 := hc 0 (by omega)
        have e : x.add 0 = x := by simp [Addr.add]
        rw [e] at hc0
        cases hs : x.spot with
        | none => rfl
        | some s =>
          exfalso
          revert hc0
          simp [World.cell?, hs]
          split <;> simp
      obtain ⟨b, off, sp⟩ := x
      simp only at hx0
      subst hx0
      refine ⟨b, off, rfl, ?_⟩
      rw [add_eq] at hcj
      rw [hcj]
      exact congrArg some hB.symm

/-- The result is a slice in new memory; nothing that was there has changed. -/
def Fresh (w : World) (e : TypeId) (size n : Nat) (xs : List Value) (mk : Value → Value) : Ending → World → Prop :=
  fun en w' => ∃ v, en = .returned (mk v) ∧ w'.ownsRow w.heap.size e size v n xs ∧ Below w.heap.size w w'

end Go.Mem
/-
  The operations on bytes, as the machine's own type has them: each is kept under a name of its own, so that a walk's frame stays small. No program.
-/
namespace Go.Ops

def and8 (a b : UInt8) : UInt8 := a &&& b
def or8 (a b : UInt8) : UInt8 := a ||| b
def xor8 (a b : UInt8) : UInt8 := a ^^^ b
def shr8 (a : UInt8) (n : Nat) : UInt8 := UInt8.ofNat (a.toNat / 2 ^ n)
def shl8 (a : UInt8) (n : Nat) : UInt8 := UInt8.ofNat (a.toNat * 2 ^ n)

theorem ofInt8 (a : UInt8) : BitVec.ofInt 8 (a.toNat : Int) = a.toBitVec := by
  rw [BitVec.ofInt_natCast]
  exact BitVec.ofNat_toNat _ _ |>.trans (by simp)

theorem wrap8 (n : Nat) (h : n < 256) : IntKind.u8.wrap (n : Int) = n := by
  simp [IntKind.wrap, IntKind.bits, IntKind.signed]; omega

theorem lt8 (a : UInt8) : a.toNat < 256 := a.toNat_lt

@[go_sem high] theorem bits_and8 (a b : UInt8) : bits .and .u8 (a.toNat : Int) (b.toNat : Int) = ((and8 a b).toNat : Int) := by
  show IntKind.u8.wrap ((BitVec.ofInt 8 (a.toNat : Int) &&& BitVec.ofInt 8 (b.toNat : Int)).toNat : Int) = _
  rw [ofInt8, ofInt8, wrap8 _ (BitVec.isLt _)]; rfl
@[go_sem high] theorem bits_or8 (a b : UInt8) : bits .or .u8 (a.toNat : Int) (b.toNat : Int) = ((or8 a b).toNat : Int) := by
  show IntKind.u8.wrap ((BitVec.ofInt 8 (a.toNat : Int) ||| BitVec.ofInt 8 (b.toNat : Int)).toNat : Int) = _
  rw [ofInt8, ofInt8, wrap8 _ (BitVec.isLt _)]; rfl
@[go_sem high] theorem bits_xor8 (a b : UInt8) : bits .xor .u8 (a.toNat : Int) (b.toNat : Int) = ((xor8 a b).toNat : Int) := by
  show IntKind.u8.wrap ((BitVec.ofInt 8 (a.toNat : Int) ^^^ BitVec.ofInt 8 (b.toNat : Int)).toNat : Int) = _
  rw [ofInt8, ofInt8, wrap8 _ (BitVec.isLt _)]; rfl

theorem lit8 (n : Nat) (h : n < 256) : (n : Int) = ((UInt8.ofNat n).toNat : Int) := by
  rw [UInt8.toNat_ofNat_of_lt' h]

@[go_sem high] theorem bits_and8_lit (a : UInt8) (n : Nat) (h : n < 256) : bits .and .u8 (a.toNat : Int) (no_index (OfNat.ofNat n)) = ((and8 a (UInt8.ofNat n)).toNat : Int) := by
  rw [← bits_and8, ← lit8 n h]; rfl
@[go_sem high] theorem bits_or8_lit (a : UInt8) (n : Nat) (h : n < 256) : bits .or .u8 (a.toNat : Int) (no_index (OfNat.ofNat n)) = ((or8 a (UInt8.ofNat n)).toNat : Int) := by
  rw [← bits_or8, ← lit8 n h]; rfl
@[go_sem high] theorem bits_xor8_lit (a : UInt8) (n : Nat) (h : n < 256) : bits .xor .u8 (a.toNat : Int) (no_index (OfNat.ofNat n)) = ((xor8 a (UInt8.ofNat n)).toNat : Int) := by
  rw [← bits_xor8, ← lit8 n h]; rfl

@[go_sem] theorem div_pow8 (a : UInt8) (n : Nat) : (a.toNat : Int) / 2 ^ n = ((shr8 a n).toNat : Int) := by
  have h := lt8 a
  have hd : a.toNat / 2 ^ n < 256 := Nat.lt_of_le_of_lt (Nat.div_le_self _ _) h
  unfold shr8
  rw [UInt8.toNat_ofNat_of_lt' hd]
  simp

@[go_sem] theorem mul_pow8 (a : UInt8) (n : Nat) : (a.toNat : Int) * 2 ^ n % 256 = ((shl8 a n).toNat : Int) := by
  unfold shl8
  rw [UInt8.toNat_ofNat']
  simp

/-- Of all bytes, by looking at each. -/
theorem all8 {p : UInt8 → Prop} (h : ∀ n, n < 256 → p (UInt8.ofNat n)) (b : UInt8) : p b := by
  have := h b.toNat b.toNat_lt
  rwa [UInt8.ofNat_toNat] at this

end Go.Ops
/-
  The operations on numbers of 8, 32 and 64 bits, as the machine's own types have them: each is kept under a name of its own, so that a walk's frame stays small. No program.
-/
namespace Go.Ops

/-- Numbers of 32 and of 64 bits as values. -/
abbrev W (x : UInt32) : Value := .int .u32 (x.toNat : Int)
abbrev L (x : UInt64) : Value := .int .u64 (x.toNat : Int)

@[go_sem high] theorem bits_and8_lit' (a : UInt8) (n : Nat) (h : n < 256) : bits .and .u8 (no_index (OfNat.ofNat n)) (a.toNat : Int) = ((and8 (UInt8.ofNat n) a).toNat : Int) := by
  rw [← bits_and8, ← lit8 n h]; rfl
@[go_sem high] theorem bits_or8_lit' (a : UInt8) (n : Nat) (h : n < 256) : bits .or .u8 (no_index (OfNat.ofNat n)) (a.toNat : Int) = ((or8 (UInt8.ofNat n) a).toNat : Int) := by
  rw [← bits_or8, ← lit8 n h]; rfl
@[go_sem high] theorem bits_xor8_lit' (a : UInt8) (n : Nat) (h : n < 256) : bits .xor .u8 (no_index (OfNat.ofNat n)) (a.toNat : Int) = ((xor8 (UInt8.ofNat n) a).toNat : Int) := by
  rw [← bits_xor8, ← lit8 n h]; rfl
def not8 (a : UInt8) : UInt8 := ~~~a
def add8 (a b : UInt8) : UInt8 := a + b
def sub8 (a b : UInt8) : UInt8 := a - b
def mul8 (a b : UInt8) : UInt8 := a * b
theorem wrapmod8 (n : Int) : IntKind.u8.wrap n = n % 256 := by
  simp [IntKind.wrap, IntKind.bits, IntKind.signed]
theorem wrap_add8 (a b : UInt8) : IntKind.u8.wrap ((a.toNat : Int) + (b.toNat : Int)) = ((add8 a b).toNat : Int) := by
  rw [wrapmod8]; unfold add8; rw [UInt8.toNat_add]; simp
theorem wrap_sub8 (a b : UInt8) : IntKind.u8.wrap ((a.toNat : Int) - (b.toNat : Int)) = ((sub8 a b).toNat : Int) := by
  rw [wrapmod8]; unfold sub8; rw [UInt8.toNat_sub]
  have := lt8 a; have := lt8 b
  omega
theorem wrap_mul8 (a b : UInt8) : IntKind.u8.wrap ((a.toNat : Int) * (b.toNat : Int)) = ((mul8 a b).toNat : Int) := by
  rw [wrapmod8]; unfold mul8; rw [UInt8.toNat_mul]; simp
@[go_sem high] theorem arith_add8 (a b : UInt8) : Op.intArith .add .u8 (a.toNat : Int) (b.toNat : Int) = pure (.int .u8 (((add8 a b).toNat : Nat) : Int)) := by
  rw [← wrap_add8]; rfl
@[go_sem high] theorem arith_add8_lit (a : UInt8) (n : Nat) (h : n < 256) : Op.intArith .add .u8 (a.toNat : Int) (no_index (OfNat.ofNat n)) = pure (.int .u8 (((add8 a (UInt8.ofNat n)).toNat : Nat) : Int)) := by
  rw [← arith_add8, ← lit8 n h]; rfl
@[go_sem high] theorem arith_add8_lit' (a : UInt8) (n : Nat) (h : n < 256) : Op.intArith .add .u8 (no_index (OfNat.ofNat n)) (a.toNat : Int) = pure (.int .u8 (((add8 (UInt8.ofNat n) a).toNat : Nat) : Int)) := by
  rw [← arith_add8, ← lit8 n h]; rfl
@[go_sem high] theorem wrap_add8_lit (a : UInt8) (n : Nat) (h : n < 256) : IntKind.u8.wrap ((a.toNat : Int) + (no_index (OfNat.ofNat n))) = ((add8 a (UInt8.ofNat n)).toNat : Int) := by
  rw [← wrap_add8, ← lit8 n h]; rfl
@[go_sem high] theorem wrap_add8_lit' (a : UInt8) (n : Nat) (h : n < 256) : IntKind.u8.wrap ((no_index (OfNat.ofNat n)) + (a.toNat : Int)) = ((add8 (UInt8.ofNat n) a).toNat : Int) := by
  rw [← wrap_add8, ← lit8 n h]; rfl
@[go_sem high] theorem wrap_add8' (a b : UInt8) : IntKind.u8.wrap ((a.toNat : Int) + (b.toNat : Int)) = ((add8 a b).toNat : Int) := wrap_add8 a b
@[go_sem high] theorem arith_sub8 (a b : UInt8) : Op.intArith .sub .u8 (a.toNat : Int) (b.toNat : Int) = pure (.int .u8 (((sub8 a b).toNat : Nat) : Int)) := by
  rw [← wrap_sub8]; rfl
@[go_sem high] theorem arith_sub8_lit (a : UInt8) (n : Nat) (h : n < 256) : Op.intArith .sub .u8 (a.toNat : Int) (no_index (OfNat.ofNat n)) = pure (.int .u8 (((sub8 a (UInt8.ofNat n)).toNat : Nat) : Int)) := by
  rw [← arith_sub8, ← lit8 n h]; rfl
@[go_sem high] theorem arith_sub8_lit' (a : UInt8) (n : Nat) (h : n < 256) : Op.intArith .sub .u8 (no_index (OfNat.ofNat n)) (a.toNat : Int) = pure (.int .u8 (((sub8 (UInt8.ofNat n) a).toNat : Nat) : Int)) := by
  rw [← arith_sub8, ← lit8 n h]; rfl
@[go_sem high] theorem wrap_sub8_lit (a : UInt8) (n : Nat) (h : n < 256) : IntKind.u8.wrap ((a.toNat : Int) - (no_index (OfNat.ofNat n))) = ((sub8 a (UInt8.ofNat n)).toNat : Int) := by
  rw [← wrap_sub8, ← lit8 n h]; rfl
@[go_sem high] theorem wrap_sub8_lit' (a : UInt8) (n : Nat) (h : n < 256) : IntKind.u8.wrap ((no_index (OfNat.ofNat n)) - (a.toNat : Int)) = ((sub8 (UInt8.ofNat n) a).toNat : Int) := by
  rw [← wrap_sub8, ← lit8 n h]; rfl
@[go_sem high] theorem wrap_sub8' (a b : UInt8) : IntKind.u8.wrap ((a.toNat : Int) - (b.toNat : Int)) = ((sub8 a b).toNat : Int) := wrap_sub8 a b
@[go_sem high] theorem arith_mul8 (a b : UInt8) : Op.intArith .mul .u8 (a.toNat : Int) (b.toNat : Int) = pure (.int .u8 (((mul8 a b).toNat : Nat) : Int)) := by
  rw [← wrap_mul8]; rfl
@[go_sem high] theorem arith_mul8_lit (a : UInt8) (n : Nat) (h : n < 256) : Op.intArith .mul .u8 (a.toNat : Int) (no_index (OfNat.ofNat n)) = pure (.int .u8 (((mul8 a (UInt8.ofNat n)).toNat : Nat) : Int)) := by
  rw [← arith_mul8, ← lit8 n h]; rfl
@[go_sem high] theorem arith_mul8_lit' (a : UInt8) (n : Nat) (h : n < 256) : Op.intArith .mul .u8 (no_index (OfNat.ofNat n)) (a.toNat : Int) = pure (.int .u8 (((mul8 (UInt8.ofNat n) a).toNat : Nat) : Int)) := by
  rw [← arith_mul8, ← lit8 n h]; rfl
@[go_sem high] theorem wrap_mul8_lit (a : UInt8) (n : Nat) (h : n < 256) : IntKind.u8.wrap ((a.toNat : Int) * (no_index (OfNat.ofNat n))) = ((mul8 a (UInt8.ofNat n)).toNat : Int) := by
  rw [← wrap_mul8, ← lit8 n h]; rfl
@[go_sem high] theorem wrap_mul8_lit' (a : UInt8) (n : Nat) (h : n < 256) : IntKind.u8.wrap ((no_index (OfNat.ofNat n)) * (a.toNat : Int)) = ((mul8 (UInt8.ofNat n) a).toNat : Int) := by
  rw [← wrap_mul8, ← lit8 n h]; rfl
@[go_sem high] theorem wrap_mul8' (a b : UInt8) : IntKind.u8.wrap ((a.toNat : Int) * (b.toNat : Int)) = ((mul8 a b).toNat : Int) := wrap_mul8 a b
theorem shr_eq8 (a : UInt8) (n : Nat) : (a.toNat : Int) / 2 ^ n = ((shr8 a n).toNat : Int) := by
  have h := lt8 a
  have hd : a.toNat / 2 ^ n < 256 := Nat.lt_of_le_of_lt (Nat.div_le_self _ _) h
  unfold shr8
  rw [UInt8.toNat_ofNat_of_lt' hd]
  simp
theorem shl_eq8 (a : UInt8) (n : Nat) : IntKind.u8.wrap ((a.toNat : Int) * 2 ^ n) = ((shl8 a n).toNat : Int) := by
  rw [wrapmod8]; unfold shl8
  rw [UInt8.toNat_ofNat']
  simp
@[go_sem high] theorem shift_shr8_lit (a : UInt8) (yk : IntKind) (n : Nat) (h : n ≤ 8) : Op.shift .shr .u8 (a.toNat : Int) yk (no_index (OfNat.ofNat n)) = pure (.int .u8 ((shr8 a n).toNat : Int)) := by
  rw [← shr_eq8]
  exact shift_shr .u8 yk _ (n : Int) (by omega) (by simp [IntKind.bits]; omega)
@[go_sem high] theorem shift_shl8_lit (a : UInt8) (yk : IntKind) (n : Nat) (h : n ≤ 8) : Op.shift .shl .u8 (a.toNat : Int) yk (no_index (OfNat.ofNat n)) = pure (.int .u8 ((shl8 a n).toNat : Int)) := by
  rw [← shl_eq8]
  exact shift_shl .u8 yk _ (n : Int) (by omega) (by simp [IntKind.bits]; omega)
@[go_sem high] theorem wrap_shl8 (a : UInt8) (n : Nat) : IntKind.u8.wrap ((a.toNat : Int) * 2 ^ n) = ((shl8 a n).toNat : Int) := shl_eq8 a n
@[go_sem high] theorem wrap_self8 (a : UInt8) : IntKind.u8.wrap (a.toNat : Int) = (a.toNat : Int) := wrap8 _ (lt8 a)

def and32 (a b : UInt32) : UInt32 := a &&& b
def or32 (a b : UInt32) : UInt32 := a ||| b
def xor32 (a b : UInt32) : UInt32 := a ^^^ b
def shr32 (a : UInt32) (n : Nat) : UInt32 := UInt32.ofNat (a.toNat / 2 ^ n)
def shl32 (a : UInt32) (n : Nat) : UInt32 := UInt32.ofNat (a.toNat * 2 ^ n)
theorem ofInt32 (a : UInt32) : BitVec.ofInt 32 (a.toNat : Int) = a.toBitVec := by
  rw [BitVec.ofInt_natCast]
  exact BitVec.ofNat_toNat _ _ |>.trans (by simp)
theorem wrap32 (n : Nat) (h : n < 4294967296) : IntKind.u32.wrap (n : Int) = n := by
  simp [IntKind.wrap, IntKind.bits, IntKind.signed]; omega
theorem lt32 (a : UInt32) : a.toNat < 4294967296 := a.toNat_lt
theorem lit32 (n : Nat) (h : n < 4294967296) : (n : Int) = ((UInt32.ofNat n).toNat : Int) := by
  rw [UInt32.toNat_ofNat_of_lt' h]

@[go_sem high] theorem bits_and32 (a b : UInt32) : bits .and .u32 (a.toNat : Int) (b.toNat : Int) = ((and32 a b).toNat : Int) := by
  show IntKind.u32.wrap ((BitVec.ofInt 32 (a.toNat : Int) &&& BitVec.ofInt 32 (b.toNat : Int)).toNat : Int) = _
  rw [ofInt32, ofInt32, wrap32 _ (BitVec.isLt _)]; rfl
@[go_sem high] theorem bits_and32_lit (a : UInt32) (n : Nat) (h : n < 4294967296) : bits .and .u32 (a.toNat : Int) (no_index (OfNat.ofNat n)) = ((and32 a (UInt32.ofNat n)).toNat : Int) := by
  rw [← bits_and32, ← lit32 n h]; rfl
@[go_sem high] theorem bits_or32 (a b : UInt32) : bits .or .u32 (a.toNat : Int) (b.toNat : Int) = ((or32 a b).toNat : Int) := by
  show IntKind.u32.wrap ((BitVec.ofInt 32 (a.toNat : Int) ||| BitVec.ofInt 32 (b.toNat : Int)).toNat : Int) = _
  rw [ofInt32, ofInt32, wrap32 _ (BitVec.isLt _)]; rfl
@[go_sem high] theorem bits_or32_lit (a : UInt32) (n : Nat) (h : n < 4294967296) : bits .or .u32 (a.toNat : Int) (no_index (OfNat.ofNat n)) = ((or32 a (UInt32.ofNat n)).toNat : Int) := by
  rw [← bits_or32, ← lit32 n h]; rfl
@[go_sem high] theorem bits_xor32 (a b : UInt32) : bits .xor .u32 (a.toNat : Int) (b.toNat : Int) = ((xor32 a b).toNat : Int) := by
  show IntKind.u32.wrap ((BitVec.ofInt 32 (a.toNat : Int) ^^^ BitVec.ofInt 32 (b.toNat : Int)).toNat : Int) = _
  rw [ofInt32, ofInt32, wrap32 _ (BitVec.isLt _)]; rfl
@[go_sem high] theorem bits_xor32_lit (a : UInt32) (n : Nat) (h : n < 4294967296) : bits .xor .u32 (a.toNat : Int) (no_index (OfNat.ofNat n)) = ((xor32 a (UInt32.ofNat n)).toNat : Int) := by
  rw [← bits_xor32, ← lit32 n h]; rfl
@[go_sem high] theorem bits_and32_lit' (a : UInt32) (n : Nat) (h : n < 4294967296) : bits .and .u32 (no_index (OfNat.ofNat n)) (a.toNat : Int) = ((and32 (UInt32.ofNat n) a).toNat : Int) := by
  rw [← bits_and32, ← lit32 n h]; rfl
@[go_sem high] theorem bits_or32_lit' (a : UInt32) (n : Nat) (h : n < 4294967296) : bits .or .u32 (no_index (OfNat.ofNat n)) (a.toNat : Int) = ((or32 (UInt32.ofNat n) a).toNat : Int) := by
  rw [← bits_or32, ← lit32 n h]; rfl
@[go_sem high] theorem bits_xor32_lit' (a : UInt32) (n : Nat) (h : n < 4294967296) : bits .xor .u32 (no_index (OfNat.ofNat n)) (a.toNat : Int) = ((xor32 (UInt32.ofNat n) a).toNat : Int) := by
  rw [← bits_xor32, ← lit32 n h]; rfl
def not32 (a : UInt32) : UInt32 := ~~~a
def add32 (a b : UInt32) : UInt32 := a + b
def sub32 (a b : UInt32) : UInt32 := a - b
def mul32 (a b : UInt32) : UInt32 := a * b
theorem wrapmod32 (n : Int) : IntKind.u32.wrap n = n % 4294967296 := by
  simp [IntKind.wrap, IntKind.bits, IntKind.signed]
theorem wrap_add32 (a b : UInt32) : IntKind.u32.wrap ((a.toNat : Int) + (b.toNat : Int)) = ((add32 a b).toNat : Int) := by
  rw [wrapmod32]; unfold add32; rw [UInt32.toNat_add]; simp
theorem wrap_sub32 (a b : UInt32) : IntKind.u32.wrap ((a.toNat : Int) - (b.toNat : Int)) = ((sub32 a b).toNat : Int) := by
  rw [wrapmod32]; unfold sub32; rw [UInt32.toNat_sub]
  have := lt32 a; have := lt32 b
  omega
theorem wrap_mul32 (a b : UInt32) : IntKind.u32.wrap ((a.toNat : Int) * (b.toNat : Int)) = ((mul32 a b).toNat : Int) := by
  rw [wrapmod32]; unfold mul32; rw [UInt32.toNat_mul]; simp
@[go_sem high] theorem arith_add32 (a b : UInt32) : Op.intArith .add .u32 (a.toNat : Int) (b.toNat : Int) = pure (.int .u32 (((add32 a b).toNat : Nat) : Int)) := by
  rw [← wrap_add32]; rfl
@[go_sem high] theorem arith_add32_lit (a : UInt32) (n : Nat) (h : n < 4294967296) : Op.intArith .add .u32 (a.toNat : Int) (no_index (OfNat.ofNat n)) = pure (.int .u32 (((add32 a (UInt32.ofNat n)).toNat : Nat) : Int)) := by
  rw [← arith_add32, ← lit32 n h]; rfl
@[go_sem high] theorem arith_add32_lit' (a : UInt32) (n : Nat) (h : n < 4294967296) : Op.intArith .add .u32 (no_index (OfNat.ofNat n)) (a.toNat : Int) = pure (.int .u32 (((add32 (UInt32.ofNat n) a).toNat : Nat) : Int)) := by
  rw [← arith_add32, ← lit32 n h]; rfl
@[go_sem high] theorem wrap_add32_lit (a : UInt32) (n : Nat) (h : n < 4294967296) : IntKind.u32.wrap ((a.toNat : Int) + (no_index (OfNat.ofNat n))) = ((add32 a (UInt32.ofNat n)).toNat : Int) := by
  rw [← wrap_add32, ← lit32 n h]; rfl
@[go_sem high] theorem wrap_add32_lit' (a : UInt32) (n : Nat) (h : n < 4294967296) : IntKind.u32.wrap ((no_index (OfNat.ofNat n)) + (a.toNat : Int)) = ((add32 (UInt32.ofNat n) a).toNat : Int) := by
  rw [← wrap_add32, ← lit32 n h]; rfl
@[go_sem high] theorem wrap_add32' (a b : UInt32) : IntKind.u32.wrap ((a.toNat : Int) + (b.toNat : Int)) = ((add32 a b).toNat : Int) := wrap_add32 a b
@[go_sem high] theorem arith_sub32 (a b : UInt32) : Op.intArith .sub .u32 (a.toNat : Int) (b.toNat : Int) = pure (.int .u32 (((sub32 a b).toNat : Nat) : Int)) := by
  rw [← wrap_sub32]; rfl
@[go_sem high] theorem arith_sub32_lit (a : UInt32) (n : Nat) (h : n < 4294967296) : Op.intArith .sub .u32 (a.toNat : Int) (no_index (OfNat.ofNat n)) = pure (.int .u32 (((sub32 a (UInt32.ofNat n)).toNat : Nat) : Int)) := by
  rw [← arith_sub32, ← lit32 n h]; rfl
@[go_sem high] theorem arith_sub32_lit' (a : UInt32) (n : Nat) (h : n < 4294967296) : Op.intArith .sub .u32 (no_index (OfNat.ofNat n)) (a.toNat : Int) = pure (.int .u32 (((sub32 (UInt32.ofNat n) a).toNat : Nat) : Int)) := by
  rw [← arith_sub32, ← lit32 n h]; rfl
@[go_sem high] theorem wrap_sub32_lit (a : UInt32) (n : Nat) (h : n < 4294967296) : IntKind.u32.wrap ((a.toNat : Int) - (no_index (OfNat.ofNat n))) = ((sub32 a (UInt32.ofNat n)).toNat : Int) := by
  rw [← wrap_sub32, ← lit32 n h]; rfl
@[go_sem high] theorem wrap_sub32_lit' (a : UInt32) (n : Nat) (h : n < 4294967296) : IntKind.u32.wrap ((no_index (OfNat.ofNat n)) - (a.toNat : Int)) = ((sub32 (UInt32.ofNat n) a).toNat : Int) := by
  rw [← wrap_sub32, ← lit32 n h]; rfl
@[go_sem high] theorem wrap_sub32' (a b : UInt32) : IntKind.u32.wrap ((a.toNat : Int) - (b.toNat : Int)) = ((sub32 a b).toNat : Int) := wrap_sub32 a b
@[go_sem high] theorem arith_mul32 (a b : UInt32) : Op.intArith .mul .u32 (a.toNat : Int) (b.toNat : Int) = pure (.int .u32 (((mul32 a b).toNat : Nat) : Int)) := by
  rw [← wrap_mul32]; rfl
@[go_sem high] theorem arith_mul32_lit (a : UInt32) (n : Nat) (h : n < 4294967296) : Op.intArith .mul .u32 (a.toNat : Int) (no_index (OfNat.ofNat n)) = pure (.int .u32 (((mul32 a (UInt32.ofNat n)).toNat : Nat) : Int)) := by
  rw [← arith_mul32, ← lit32 n h]; rfl
@[go_sem high] theorem arith_mul32_lit' (a : UInt32) (n : Nat) (h : n < 4294967296) : Op.intArith .mul .u32 (no_index (OfNat.ofNat n)) (a.toNat : Int) = pure (.int .u32 (((mul32 (UInt32.ofNat n) a).toNat : Nat) : Int)) := by
  rw [← arith_mul32, ← lit32 n h]; rfl
@[go_sem high] theorem wrap_mul32_lit (a : UInt32) (n : Nat) (h : n < 4294967296) : IntKind.u32.wrap ((a.toNat : Int) * (no_index (OfNat.ofNat n))) = ((mul32 a (UInt32.ofNat n)).toNat : Int) := by
  rw [← wrap_mul32, ← lit32 n h]; rfl
@[go_sem high] theorem wrap_mul32_lit' (a : UInt32) (n : Nat) (h : n < 4294967296) : IntKind.u32.wrap ((no_index (OfNat.ofNat n)) * (a.toNat : Int)) = ((mul32 (UInt32.ofNat n) a).toNat : Int) := by
  rw [← wrap_mul32, ← lit32 n h]; rfl
@[go_sem high] theorem wrap_mul32' (a b : UInt32) : IntKind.u32.wrap ((a.toNat : Int) * (b.toNat : Int)) = ((mul32 a b).toNat : Int) := wrap_mul32 a b
theorem shr_eq32 (a : UInt32) (n : Nat) : (a.toNat : Int) / 2 ^ n = ((shr32 a n).toNat : Int) := by
  have h := lt32 a
  have hd : a.toNat / 2 ^ n < 4294967296 := Nat.lt_of_le_of_lt (Nat.div_le_self _ _) h
  unfold shr32
  rw [UInt32.toNat_ofNat_of_lt' hd]
  simp
theorem shl_eq32 (a : UInt32) (n : Nat) : IntKind.u32.wrap ((a.toNat : Int) * 2 ^ n) = ((shl32 a n).toNat : Int) := by
  rw [wrapmod32]; unfold shl32
  rw [UInt32.toNat_ofNat']
  simp
@[go_sem high] theorem shift_shr32_lit (a : UInt32) (yk : IntKind) (n : Nat) (h : n ≤ 32) : Op.shift .shr .u32 (a.toNat : Int) yk (no_index (OfNat.ofNat n)) = pure (.int .u32 ((shr32 a n).toNat : Int)) := by
  rw [← shr_eq32]
  exact shift_shr .u32 yk _ (n : Int) (by omega) (by simp [IntKind.bits]; omega)
@[go_sem high] theorem shift_shl32_lit (a : UInt32) (yk : IntKind) (n : Nat) (h : n ≤ 32) : Op.shift .shl .u32 (a.toNat : Int) yk (no_index (OfNat.ofNat n)) = pure (.int .u32 ((shl32 a n).toNat : Int)) := by
  rw [← shl_eq32]
  exact shift_shl .u32 yk _ (n : Int) (by omega) (by simp [IntKind.bits]; omega)
@[go_sem high] theorem wrap_shl32 (a : UInt32) (n : Nat) : IntKind.u32.wrap ((a.toNat : Int) * 2 ^ n) = ((shl32 a n).toNat : Int) := shl_eq32 a n
@[go_sem high] theorem wrap_self32 (a : UInt32) : IntKind.u32.wrap (a.toNat : Int) = (a.toNat : Int) := wrap32 _ (lt32 a)
@[go_sem] theorem div_pow32 (a : UInt32) (n : Nat) : (a.toNat : Int) / 2 ^ n = ((shr32 a n).toNat : Int) := shr_eq32 a n

def and64 (a b : UInt64) : UInt64 := a &&& b
def or64 (a b : UInt64) : UInt64 := a ||| b
def xor64 (a b : UInt64) : UInt64 := a ^^^ b
def shr64 (a : UInt64) (n : Nat) : UInt64 := UInt64.ofNat (a.toNat / 2 ^ n)
def shl64 (a : UInt64) (n : Nat) : UInt64 := UInt64.ofNat (a.toNat * 2 ^ n)
theorem ofInt64 (a : UInt64) : BitVec.ofInt 64 (a.toNat : Int) = a.toBitVec := by
  rw [BitVec.ofInt_natCast]
  exact BitVec.ofNat_toNat _ _ |>.trans (by simp)
theorem wrap64 (n : Nat) (h : n < 18446744073709551616) : IntKind.u64.wrap (n : Int) = n := by
  simp [IntKind.wrap, IntKind.bits, IntKind.signed]; omega
theorem lt64 (a : UInt64) : a.toNat < 18446744073709551616 := a.toNat_lt
theorem lit64 (n : Nat) (h : n < 18446744073709551616) : (n : Int) = ((UInt64.ofNat n).toNat : Int) := by
  rw [UInt64.toNat_ofNat_of_lt' h]

@[go_sem high] theorem bits_and64 (a b : UInt64) : bits .and .u64 (a.toNat : Int) (b.toNat : Int) = ((and64 a b).toNat : Int) := by
  show IntKind.u64.wrap ((BitVec.ofInt 64 (a.toNat : Int) &&& BitVec.ofInt 64 (b.toNat : Int)).toNat : Int) = _
  rw [ofInt64, ofInt64, wrap64 _ (BitVec.isLt _)]; rfl
@[go_sem high] theorem bits_and64_lit (a : UInt64) (n : Nat) (h : n < 18446744073709551616) : bits .and .u64 (a.toNat : Int) (no_index (OfNat.ofNat n)) = ((and64 a (UInt64.ofNat n)).toNat : Int) := by
  rw [← bits_and64, ← lit64 n h]; rfl
@[go_sem high] theorem bits_or64 (a b : UInt64) : bits .or .u64 (a.toNat : Int) (b.toNat : Int) = ((or64 a b).toNat : Int) := by
  show IntKind.u64.wrap ((BitVec.ofInt 64 (a.toNat : Int) ||| BitVec.ofInt 64 (b.toNat : Int)).toNat : Int) = _
  rw [ofInt64, ofInt64, wrap64 _ (BitVec.isLt _)]; rfl
@[go_sem high] theorem bits_or64_lit (a : UInt64) (n : Nat) (h : n < 18446744073709551616) : bits .or .u64 (a.toNat : Int) (no_index (OfNat.ofNat n)) = ((or64 a (UInt64.ofNat n)).toNat : Int) := by
  rw [← bits_or64, ← lit64 n h]; rfl
@[go_sem high] theorem bits_xor64 (a b : UInt64) : bits .xor .u64 (a.toNat : Int) (b.toNat : Int) = ((xor64 a b).toNat : Int) := by
  show IntKind.u64.wrap ((BitVec.ofInt 64 (a.toNat : Int) ^^^ BitVec.ofInt 64 (b.toNat : Int)).toNat : Int) = _
  rw [ofInt64, ofInt64, wrap64 _ (BitVec.isLt _)]; rfl
@[go_sem high] theorem bits_xor64_lit (a : UInt64) (n : Nat) (h : n < 18446744073709551616) : bits .xor .u64 (a.toNat : Int) (no_index (OfNat.ofNat n)) = ((xor64 a (UInt64.ofNat n)).toNat : Int) := by
  rw [← bits_xor64, ← lit64 n h]; rfl
@[go_sem high] theorem bits_and64_lit' (a : UInt64) (n : Nat) (h : n < 18446744073709551616) : bits .and .u64 (no_index (OfNat.ofNat n)) (a.toNat : Int) = ((and64 (UInt64.ofNat n) a).toNat : Int) := by
  rw [← bits_and64, ← lit64 n h]; rfl
@[go_sem high] theorem bits_or64_lit' (a : UInt64) (n : Nat) (h : n < 18446744073709551616) : bits .or .u64 (no_index (OfNat.ofNat n)) (a.toNat : Int) = ((or64 (UInt64.ofNat n) a).toNat : Int) := by
  rw [← bits_or64, ← lit64 n h]; rfl
@[go_sem high] theorem bits_xor64_lit' (a : UInt64) (n : Nat) (h : n < 18446744073709551616) : bits .xor .u64 (no_index (OfNat.ofNat n)) (a.toNat : Int) = ((xor64 (UInt64.ofNat n) a).toNat : Int) := by
  rw [← bits_xor64, ← lit64 n h]; rfl
def not64 (a : UInt64) : UInt64 := ~~~a
def add64 (a b : UInt64) : UInt64 := a + b
def sub64 (a b : UInt64) : UInt64 := a - b
def mul64 (a b : UInt64) : UInt64 := a * b
theorem wrapmod64 (n : Int) : IntKind.u64.wrap n = n % 18446744073709551616 := by
  simp [IntKind.wrap, IntKind.bits, IntKind.signed]
theorem wrap_add64 (a b : UInt64) : IntKind.u64.wrap ((a.toNat : Int) + (b.toNat : Int)) = ((add64 a b).toNat : Int) := by
  rw [wrapmod64]; unfold add64; rw [UInt64.toNat_add]; simp
theorem wrap_sub64 (a b : UInt64) : IntKind.u64.wrap ((a.toNat : Int) - (b.toNat : Int)) = ((sub64 a b).toNat : Int) := by
  rw [wrapmod64]; unfold sub64; rw [UInt64.toNat_sub]
  have := lt64 a; have := lt64 b
  omega
theorem wrap_mul64 (a b : UInt64) : IntKind.u64.wrap ((a.toNat : Int) * (b.toNat : Int)) = ((mul64 a b).toNat : Int) := by
  rw [wrapmod64]; unfold mul64; rw [UInt64.toNat_mul]; simp
@[go_sem high] theorem arith_add64 (a b : UInt64) : Op.intArith .add .u64 (a.toNat : Int) (b.toNat : Int) = pure (.int .u64 (((add64 a b).toNat : Nat) : Int)) := by
  rw [← wrap_add64]; rfl
@[go_sem high] theorem arith_add64_lit (a : UInt64) (n : Nat) (h : n < 18446744073709551616) : Op.intArith .add .u64 (a.toNat : Int) (no_index (OfNat.ofNat n)) = pure (.int .u64 (((add64 a (UInt64.ofNat n)).toNat : Nat) : Int)) := by
  rw [← arith_add64, ← lit64 n h]; rfl
@[go_sem high] theorem arith_add64_lit' (a : UInt64) (n : Nat) (h : n < 18446744073709551616) : Op.intArith .add .u64 (no_index (OfNat.ofNat n)) (a.toNat : Int) = pure (.int .u64 (((add64 (UInt64.ofNat n) a).toNat : Nat) : Int)) := by
  rw [← arith_add64, ← lit64 n h]; rfl
@[go_sem high] theorem wrap_add64_lit (a : UInt64) (n : Nat) (h : n < 18446744073709551616) : IntKind.u64.wrap ((a.toNat : Int) + (no_index (OfNat.ofNat n))) = ((add64 a (UInt64.ofNat n)).toNat : Int) := by
  rw [← wrap_add64, ← lit64 n h]; rfl
@[go_sem high] theorem wrap_add64_lit' (a : UInt64) (n : Nat) (h : n < 18446744073709551616) : IntKind.u64.wrap ((no_index (OfNat.ofNat n)) + (a.toNat : Int)) = ((add64 (UInt64.ofNat n) a).toNat : Int) := by
  rw [← wrap_add64, ← lit64 n h]; rfl
@[go_sem high] theorem wrap_add64' (a b : UInt64) : IntKind.u64.wrap ((a.toNat : Int) + (b.toNat : Int)) = ((add64 a b).toNat : Int) := wrap_add64 a b
@[go_sem high] theorem arith_sub64 (a b : UInt64) : Op.intArith .sub .u64 (a.toNat : Int) (b.toNat : Int) = pure (.int .u64 (((sub64 a b).toNat : Nat) : Int)) := by
  rw [← wrap_sub64]; rfl
@[go_sem high] theorem arith_sub64_lit (a : UInt64) (n : Nat) (h : n < 18446744073709551616) : Op.intArith .sub .u64 (a.toNat : Int) (no_index (OfNat.ofNat n)) = pure (.int .u64 (((sub64 a (UInt64.ofNat n)).toNat : Nat) : Int)) := by
  rw [← arith_sub64, ← lit64 n h]; rfl
@[go_sem high] theorem arith_sub64_lit' (a : UInt64) (n : Nat) (h : n < 18446744073709551616) : Op.intArith .sub .u64 (no_index (OfNat.ofNat n)) (a.toNat : Int) = pure (.int .u64 (((sub64 (UInt64.ofNat n) a).toNat : Nat) : Int)) := by
  rw [← arith_sub64, ← lit64 n h]; rfl
@[go_sem high] theorem wrap_sub64_lit (a : UInt64) (n : Nat) (h : n < 18446744073709551616) : IntKind.u64.wrap ((a.toNat : Int) - (no_index (OfNat.ofNat n))) = ((sub64 a (UInt64.ofNat n)).toNat : Int) := by
  rw [← wrap_sub64, ← lit64 n h]; rfl
@[go_sem high] theorem wrap_sub64_lit' (a : UInt64) (n : Nat) (h : n < 18446744073709551616) : IntKind.u64.wrap ((no_index (OfNat.ofNat n)) - (a.toNat : Int)) = ((sub64 (UInt64.ofNat n) a).toNat : Int) := by
  rw [← wrap_sub64, ← lit64 n h]; rfl
@[go_sem high] theorem wrap_sub64' (a b : UInt64) : IntKind.u64.wrap ((a.toNat : Int) - (b.toNat : Int)) = ((sub64 a b).toNat : Int) := wrap_sub64 a b
@[go_sem high] theorem arith_mul64 (a b : UInt64) : Op.intArith .mul .u64 (a.toNat : Int) (b.toNat : Int) = pure (.int .u64 (((mul64 a b).toNat : Nat) : Int)) := by
  rw [← wrap_mul64]; rfl
@[go_sem high] theorem arith_mul64_lit (a : UInt64) (n : Nat) (h : n < 18446744073709551616) : Op.intArith .mul .u64 (a.toNat : Int) (no_index (OfNat.ofNat n)) = pure (.int .u64 (((mul64 a (UInt64.ofNat n)).toNat : Nat) : Int)) := by
  rw [← arith_mul64, ← lit64 n h]; rfl
@[go_sem high] theorem arith_mul64_lit' (a : UInt64) (n : Nat) (h : n < 18446744073709551616) : Op.intArith .mul .u64 (no_index (OfNat.ofNat n)) (a.toNat : Int) = pure (.int .u64 (((mul64 (UInt64.ofNat n) a).toNat : Nat) : Int)) := by
  rw [← arith_mul64, ← lit64 n h]; rfl
@[go_sem high] theorem wrap_mul64_lit (a : UInt64) (n : Nat) (h : n < 18446744073709551616) : IntKind.u64.wrap ((a.toNat : Int) * (no_index (OfNat.ofNat n))) = ((mul64 a (UInt64.ofNat n)).toNat : Int) := by
  rw [← wrap_mul64, ← lit64 n h]; rfl
@[go_sem high] theorem wrap_mul64_lit' (a : UInt64) (n : Nat) (h : n < 18446744073709551616) : IntKind.u64.wrap ((no_index (OfNat.ofNat n)) * (a.toNat : Int)) = ((mul64 (UInt64.ofNat n) a).toNat : Int) := by
  rw [← wrap_mul64, ← lit64 n h]; rfl
@[go_sem high] theorem wrap_mul64' (a b : UInt64) : IntKind.u64.wrap ((a.toNat : Int) * (b.toNat : Int)) = ((mul64 a b).toNat : Int) := wrap_mul64 a b
theorem shr_eq64 (a : UInt64) (n : Nat) : (a.toNat : Int) / 2 ^ n = ((shr64 a n).toNat : Int) := by
  have h := lt64 a
  have hd : a.toNat / 2 ^ n < 18446744073709551616 := Nat.lt_of_le_of_lt (Nat.div_le_self _ _) h
  unfold shr64
  rw [UInt64.toNat_ofNat_of_lt' hd]
  simp
theorem shl_eq64 (a : UInt64) (n : Nat) : IntKind.u64.wrap ((a.toNat : Int) * 2 ^ n) = ((shl64 a n).toNat : Int) := by
  rw [wrapmod64]; unfold shl64
  rw [UInt64.toNat_ofNat']
  simp
@[go_sem high] theorem shift_shr64_lit (a : UInt64) (yk : IntKind) (n : Nat) (h : n ≤ 64) : Op.shift .shr .u64 (a.toNat : Int) yk (no_index (OfNat.ofNat n)) = pure (.int .u64 ((shr64 a n).toNat : Int)) := by
  rw [← shr_eq64]
  exact shift_shr .u64 yk _ (n : Int) (by omega) (by simp [IntKind.bits]; omega)
@[go_sem high] theorem shift_shl64_lit (a : UInt64) (yk : IntKind) (n : Nat) (h : n ≤ 64) : Op.shift .shl .u64 (a.toNat : Int) yk (no_index (OfNat.ofNat n)) = pure (.int .u64 ((shl64 a n).toNat : Int)) := by
  rw [← shl_eq64]
  exact shift_shl .u64 yk _ (n : Int) (by omega) (by simp [IntKind.bits]; omega)
@[go_sem high] theorem wrap_shl64 (a : UInt64) (n : Nat) : IntKind.u64.wrap ((a.toNat : Int) * 2 ^ n) = ((shl64 a n).toNat : Int) := shl_eq64 a n
@[go_sem high] theorem wrap_self64 (a : UInt64) : IntKind.u64.wrap (a.toNat : Int) = (a.toNat : Int) := wrap64 _ (lt64 a)
@[go_sem] theorem div_pow64 (a : UInt64) (n : Nat) : (a.toNat : Int) / 2 ^ n = ((shr64 a n).toNat : Int) := shr_eq64 a n

def up8_32 (x : UInt8) : UInt32 := UInt32.ofNat x.toNat
@[go_sem high] theorem wrap_up8_32 (x : UInt8) : IntKind.u32.wrap (x.toNat : Int) = ((up8_32 x).toNat : Int) := by
  have := lt8 x
  rw [wrap32 _ (by omega)]; unfold up8_32; rw [UInt32.toNat_ofNat_of_lt' (by show _ < 4294967296; omega)]
def lo32_8 (x : UInt32) : UInt8 := UInt8.ofNat x.toNat
@[go_sem high] theorem wrap_lo32_8 (x : UInt32) : IntKind.u8.wrap (x.toNat : Int) = ((lo32_8 x).toNat : Int) := by
  rw [wrapmod8]; unfold lo32_8; rw [UInt8.toNat_ofNat']; simp
def up8_64 (x : UInt8) : UInt64 := UInt64.ofNat x.toNat
@[go_sem high] theorem wrap_up8_64 (x : UInt8) : IntKind.u64.wrap (x.toNat : Int) = ((up8_64 x).toNat : Int) := by
  have := lt8 x
  rw [wrap64 _ (by omega)]; unfold up8_64; rw [UInt64.toNat_ofNat_of_lt' (by show _ < 18446744073709551616; omega)]
def lo64_8 (x : UInt64) : UInt8 := UInt8.ofNat x.toNat
@[go_sem high] theorem wrap_lo64_8 (x : UInt64) : IntKind.u8.wrap (x.toNat : Int) = ((lo64_8 x).toNat : Int) := by
  rw [wrapmod8]; unfold lo64_8; rw [UInt8.toNat_ofNat']; simp
def up32_64 (x : UInt32) : UInt64 := UInt64.ofNat x.toNat
@[go_sem high] theorem wrap_up32_64 (x : UInt32) : IntKind.u64.wrap (x.toNat : Int) = ((up32_64 x).toNat : Int) := by
  have := lt32 x
  rw [wrap64 _ (by omega)]; unfold up32_64; rw [UInt64.toNat_ofNat_of_lt' (by show _ < 18446744073709551616; omega)]
def lo64_32 (x : UInt64) : UInt32 := UInt32.ofNat x.toNat
@[go_sem high] theorem wrap_lo64_32 (x : UInt64) : IntKind.u32.wrap (x.toNat : Int) = ((lo64_32 x).toNat : Int) := by
  rw [wrapmod32]; unfold lo64_32; rw [UInt32.toNat_ofNat']; simp
theorem of_nat8 (n : Nat) : IntKind.u8.wrap (n : Int) = ((UInt8.ofNat n).toNat : Int) := by
  rw [wrapmod8, UInt8.toNat_ofNat']; simp
theorem of_nat32 (n : Nat) : IntKind.u32.wrap (n : Int) = ((UInt32.ofNat n).toNat : Int) := by
  rw [wrapmod32, UInt32.toNat_ofNat']; simp
theorem of_nat64 (n : Nat) : IntKind.u64.wrap (n : Int) = ((UInt64.ofNat n).toNat : Int) := by
  rw [wrapmod64, UInt64.toNat_ofNat']; simp

end Go.Ops
/-
  Plain facts on memory: a block as a list of cells that may be written. No program.
-/
namespace Go.Cells
open Go.RowKit Go.Mem Go.Ops

/-- The block holds these cells; none is frozen. -/
def Blk (w : World) (b : Nat) (vs : List Value) (ty : TypeId) : Prop := w.heap[b]? = some (.cells vs.toArray ty (0, 0))

theorem Blk.lt {w : World} {b : Nat} {vs : List Value} {ty : TypeId} (h : Blk w b vs ty) : b < w.heap.size := by
  unfold Blk at h
  exact (Array.getElem?_eq_some_iff.1 h).1

theorem Blk.cell {w : World} {b : Nat} {vs : List Value} {ty : TypeId} (h : Blk w b vs ty) (i : Nat) (u : Value) (hu : vs[i]? = some u) : w.cell? ⟨b, i, none⟩ = some u := by
  unfold Blk at h
  simp [World.cell?, h, hu]

theorem Blk.free {w : World} {b : Nat} {vs : List Value} {ty : TypeId} (h : Blk w b vs ty) (i : Nat) : w.frozen? ⟨b, i, none⟩ = false := by
  unfold Blk at h
  simp [World.frozen?, h]

theorem Blk.set {w : World} {b : Nat} {vs : List Value} {ty : TypeId} (h : Blk w b vs ty) (i : Nat) (v : Value) : Blk (w.setCell ⟨b, i, none⟩ v) b (vs.set i v) ty := by
  unfold Blk at *
  have hlt := (Array.getElem?_eq_some_iff.1 h).1
  have he := (Array.getElem?_eq_some_iff.1 h).2
  simp only [World.setCell, Array.getElem?_modify, h]
  simp

theorem Blk.setOther {w : World} {b : Nat} {vs : List Value} {ty : TypeId} (h : Blk w b vs ty) {a : Addr} (hne : a.block ≠ b) (v : Value) : Blk (w.setCell a v) b vs ty := by
  unfold Blk at *
  simp only [World.setCell, Array.getElem?_modify, h]
  simp [hne]

theorem Blk.new (w : World) (vs : List Value) (ty : TypeId) : Blk (w.alloc (.cells vs.toArray ty)) w.heap.size vs ty := heap_alloc_new w _

theorem Blk.alloc {w : World} {b : Nat} {vs : List Value} {ty : TypeId} (h : Blk w b vs ty) (o : Obj) : Blk (w.alloc o) b vs ty := (heap_alloc_old w _ h.lt).trans h

theorem Blk.drew {w : World} {b : Nat} {vs : List Value} {ty : TypeId} (h : Blk w b vs ty) : Blk w.drew b vs ty := h

theorem Blk.below {w w' : World} {b B : Nat} {vs : List Value} {ty : TypeId} (h : Blk w b vs ty) (hb : Below B w w') (h2 : b < B) : Blk w' b vs ty := (hb.block b h2).trans h

theorem Blk.lies {w : World} {b : Nat} {vs : List Value} {ty : TypeId} (h : Blk w b vs ty) : Lies w (some ⟨b, 0, none⟩) vs := by
  have := Lies.of_block h
  simpa using this

theorem Blk.range {w : World} {b : Nat} {vs : List Value} {ty : TypeId} (h : Blk w b vs ty) : w.rangeAt b 0 vs := by
  intro j v hv
  rw [Nat.zero_add]
  exact h.cell j v hv

theorem mapB_at {l : List UInt8} {i : Nat} {x : UInt8} (h : l[i]? = some x) : (l.map B)[i]? = some (B x) := by simp [h]
theorem mapW_at {l : List UInt32} {i : Nat} {x : UInt32} (h : l[i]? = some x) : (l.map W)[i]? = some (W x) := by simp [h]
theorem mapL_at {l : List UInt64} {i : Nat} {x : UInt64} (h : l[i]? = some x) : (l.map L)[i]? = some (L x) := by simp [h]
theorem mapB_set (l : List UInt8) (i : Nat) (x : UInt8) : (l.map B).set i (B x) = (l.set i x).map B := by rw [List.map_set]
theorem mapW_set (l : List UInt32) (i : Nat) (x : UInt32) : (l.map W).set i (W x) = (l.set i x).map W := by rw [List.map_set]
theorem mapL_set (l : List UInt64) (i : Nat) (x : UInt64) : (l.map L).set i (L x) = (l.set i x).map L := by rw [List.map_set]
theorem at_lt {α : Type} {l : List α} {i : Nat} (h : i < l.length) : ∃ x, l[i]? = some x := ⟨l[i], by simp [h]⟩

/-- A row or a struct of so many cells. -/
def Row (P : Program) (ty : TypeId) (n : Nat) : Prop := (P.underlying ty).map (·.isRow) = some true ∧ (P.info? ty).map (·.size) = some n

theorem Row.open {P : Program} {ty : TypeId} {n : Nat} (h : Row P ty n) : ∃ d, P.underlying ty = some d ∧ d.isRow = true ∧ (P.info? ty).map (·.size) = some n := by
  obtain ⟨h1, h2⟩ := h
  cases hd : P.underlying ty with
  | none => rw [hd] at h1; cases h1
  | some d => rw [hd] at h1; exact ⟨d, rfl, by simpa using h1, h2⟩

/-- The world has changed at one block alone. -/
structure Only (b : Nat) (w w' : World) : Prop where
  os : w'.os = w.os
  tape : w'.tape = w.tape
  output : w'.output = w.output
  size : w'.heap.size = w.heap.size
  block : ∀ k, k ≠ b → w'.heap[k]? = w.heap[k]?

theorem Only.refl (b : Nat) (w : World) : Only b w w := ⟨rfl, rfl, rfl, rfl, fun _ _ => rfl⟩
theorem Only.trans {b : Nat} {u v w : World} (h : Only b u v) (k : Only b v w) : Only b u w :=
  ⟨k.os.trans h.os, k.tape.trans h.tape, k.output.trans h.output, k.size.trans h.size, fun i hi => (k.block i hi).trans (h.block i hi)⟩
theorem Only.setCell (w : World) (a : Addr) (v : Value) : Only a.block w (w.setCell a v) :=
  ⟨rfl, rfl, rfl, by simp [World.setCell], fun k hk => heap_setCell_other w a k v hk⟩
theorem Only.setCells (b : Nat) : ∀ (vs : List Value) (o : Nat) (w : World), Only b w (w.setCells b o vs)
  | [], _, w => Only.refl b w
  | v :: r, o, w => (Only.setCell w ⟨b, o, none⟩ v).trans (Only.setCells b r (o + 1) _)

theorem Blk.only {w w' : World} {b c : Nat} {vs : List Value} {ty : TypeId} (h : Blk w c vs ty) (ho : Only b w w') (hne : c ≠ b) : Blk w' c vs ty := (ho.block c hne).trans h
theorem below_only {B b : Nat} {u w w' : World} (h : Below B u w) (ho : Only b w w') (hb : B ≤ b) : Below B u w' :=
  ⟨ho.os.trans h.os, ho.tape.trans h.tape, ho.output.trans h.output, by rw [ho.size]; exact h.size, fun k hk => (ho.block k (by omega)).trans (h.block k hk)⟩

theorem Blk.setCells {b : Nat} {ty : TypeId} : ∀ (cs vs : List Value) (o : Nat) (w : World), o + cs.length ≤ vs.length → Blk w b vs ty → Blk (w.setCells b o cs) b (vs.take o ++ cs ++ vs.drop (o + cs.length)) ty
  | [], vs, o, w, _, h => by simpa [World.setCells] using h
  | v :: r, vs, o, w, hl, h => by
    rw [List.length_cons] at hl
    have := Blk.setCells r (vs.set o v) (o + 1) _ (by rw [List.length_set]; omega) (h.set o v)
    have e : (vs.set o v).take (o + 1) ++ r ++ (vs.set o v).drop (o + 1 + r.length) = vs.take o ++ (v :: r) ++ vs.drop (o + (v :: r).length) := by
      rw [List.drop_set_of_lt (by omega), List.length_cons, show o + 1 + r.length = o + (r.length + 1) by omega]
      congr 1
      rw [List.take_add_one, List.take_set_of_le (by omega)]
      simp [show o < vs.length by omega]
    rw [e] at this
    exact this

theorem Blk.setAll {w : World} {b : Nat} {vs cs : List Value} {ty : TypeId} (h : Blk w b vs ty) (hl : cs.length = vs.length) : Blk (w.setCells b 0 cs) b cs ty := by
  have := Blk.setCells cs vs 0 w (by omega) h
  rw [Nat.zero_add, List.drop_eq_nil_of_le (by omega)] at this
  simpa using this

theorem Blk.there {w : World} {b : Nat} {vs : List Value} {ty : TypeId} (h : Blk w b vs ty) (o n : Nat) (hn : o + n ≤ vs.length) : w.there b o n := by
  intro j hj
  have hu : vs[o + j]? = some (vs[o + j]'(by omega)) := by simp
  exact ⟨by rw [h.cell _ _ hu]; rfl, h.free _⟩

/-- An array or a struct by value, loaded whole: at a plain region's operation. -/
theorem Blk.wload {P : Program} {w : World} {b n : Nat} {vs : List Value} {ty' : TypeId} (h : Blk w b vs ty') {ops : Array Oper} {rest : List Oper} {op : Oper} {a : Act} {Q : Exit → Act → World → Prop} {ty : TypeId} {x : Operand}
    (hgd : op.guard = none) (ho : op.op = .load ty x) (hx : a.eval x = .pointer (some ⟨b, 0, none⟩)) (hr : Row P ty n) (hn : vs.length = n)
    (k : wpList P ops Q rest (a.put op.dst (.agg vs.toArray)) w) : wpList P ops Q (op :: rest) a w := by
  obtain ⟨d, hu, hd, hi⟩ := hr.open
  exact wpList_load_mid hgd ty x ho b 0 hx vs d h.range hu hd (by rw [hi, hn]) k

/-- An array or a struct by value, stored whole. -/
theorem Blk.wstore {P : Program} {w : World} {b n : Nat} {vs : List Value} {ty' : TypeId} (h : Blk w b vs ty') {ops : Array Oper} {rest : List Oper} {op : Oper} {a : Act} {Q : Exit → Act → World → Prop} {ty : TypeId} {x y : Operand} {cs : List Value}
    (hgd : op.guard = none) (ho : op.op = .store ty x y) (hx : a.eval x = .pointer (some ⟨b, 0, none⟩)) (hy : a.eval y = .agg cs.toArray) (hr : Row P ty n) (hn : vs.length = n) (hc : cs.length = n)
    (h1 : ∀ v ∈ cs, v.oneCell' = true)
    (k : ∀ w', Blk w' b cs ty' → Only b w w' → wpList P ops Q rest (a.put op.dst undef) w') : wpList P ops Q (op :: rest) a w := by
  obtain ⟨d, hu, hd, hi⟩ := hr.open
  refine wpList_store_mid hgd ty x y ho b 0 cs.toArray hx hy (h.there 0 _ (by rw [List.size_toArray]; omega)) (by rw [hi]; simp [hc]) (all_oneCell_toArray h1) ?_
  exact k (w.setCells b 0 cs) (h.setAll (by omega)) (Only.setCells b cs 0 w)

/-- 'copy' into a block. -/
theorem Blk.wcopy {P : Program} {w : World} {g : Nat} {cur : List Value} {t : TypeId} (h : Blk w g cur t) {ops : Array Oper} {rest : List Oper} {o : Oper} {a : Act} {Q : Exit → Act → World → Prop} {d s : Operand} {dT sT elem : TypeId}
    {dp sp : Option Addr} {dLen dCap sLen sCap : Nat} (off : Nat) (cs : List Value)
    (hgd : o.guard = none) (ho : o.op = .call { callee := .builtin .copy, args := #[d, s], argTypes := #[dT, sT] }) (hd : a.eval d = .slice dp dLen dCap) (hs : a.eval s = .slice sp sLen sCap)
    (hu : P.underlying dT = some (.slice elem)) (hsz : (P.info? elem).map (·.size) = some 1)
    (hdp : 0 < cs.length → dp = some ⟨g, off, none⟩) (hsrc : Lies w sp cs) (hn : cs.length = Nat.min sLen dLen) (hfit : off + cs.length ≤ cur.length) (h1 : ∀ v ∈ cs, v.oneCell' = true)
    (k : ∀ w', Blk w' g (splice cur off cs) t → Only g w w' → wpList P ops Q rest (a.put o.dst (goInt cs.length)) w') : wpList P ops Q (o :: rest) a w := by
  by_cases h0 : cs.length = 0
  · obtain rfl : cs = [] := List.eq_nil_of_length_eq_zero h0
    refine wpList_copy_nothing hgd d s dT sT ho elem hu hsz dp sp dLen dCap sLen sCap hd hs (by simpa using hn.symm) ?_
    exact k w (by simpa [splice] using h) (Only.refl _ _)
  · obtain rfl := hdp (by omega)
    obtain ⟨b, off', rfl, _, hc⟩ := hsrc.at (by intro e; simp [e] at h0)
    refine wpList_plain hgd fun K hK => ?_
    have hrun := run_copy_cells (P := P) w dT sT o.type elem g off dLen dCap ⟨b, off', none⟩ sLen sCap cs hu hsz hn (fun j v hv => by rw [add_eq]; exact hc j v hv)
      (fun j hj => ((h.there off cs.length hfit) j hj).1) (fun j hj => h.free _) h1
    unfold Oper.wp
    simp [execOp, ho, resolve, invoke, builtin, hd, hs, hrun, Result.andThen]
    refine hK _ _ (k _ ?_ (Only.setCells g cs off w))
    have := Blk.setCells cs cur off w hfit h
    rwa [List.append_assoc] at this

/-- A new block keeps all that was there. -/
theorem later_alloc (w : World) (o : Obj) : Below w.heap.size w (w.alloc o) := (Below.refl _ _).alloc (Nat.le_refl _) _

/-- A variable in memory of its own, at a plain region's operation. -/
theorem wpList_var {P : Program} {w : World} {ops : Array Oper} {rest : List Oper} {o : Oper} {a : Act} {Q : Exit → Act → World → Prop} (t : TypeId) (vs : List Value) (z : Value)
    (hgd : o.guard = none) (ho : o.op = .alloc t) (hz : (P.info? t).map (·.zero) = some (some z)) (hv : z.cells = vs.toArray)
    (k : ∀ w', Blk w' w.heap.size vs t → Below w.heap.size w w' → wpList P ops Q rest (a.put o.dst (.pointer (some ⟨w.heap.size, 0, none⟩))) w') : wpList P ops Q (o :: rest) a w := by
  refine wpList_plain hgd fun K hK => ?_
  have hk := k (w.alloc (.cells vs.toArray t)) (Blk.new w vs t) (later_alloc w _)
  cases hq : P.info? t with
  | none => rw [hq] at hz; cases hz
  | some x =>
    rw [hq] at hz
    have hx : x.zero = some z := by simpa using hz
    unfold Oper.wp
    simp [execOp, ho, Instr.alloc, zeroValue, typeInfo, hq, hx, newVar, newRow, hv]
    exact hK _ _ hk

theorem wpList_box {P : Program} {w : World} {ops : Array Oper} {rest : List Oper} {o : Oper} {a : Act} {Q : Exit → Act → World → Prop} (t : TypeId) (x : Operand) (vs : List Value) (v : Value)
    (hgd : o.guard = none) (ho : o.op = .box t x) (hx : a.eval x = v) (hv : v.cells = vs.toArray)
    (k : ∀ w', Blk w' w.heap.size vs t → Below w.heap.size w w' → wpList P ops Q rest (a.put o.dst (.pointer (some ⟨w.heap.size, 0, none⟩))) w') : wpList P ops Q (o :: rest) a w := by
  refine wpList_plain hgd fun K hK => ?_
  have hk := k (w.alloc (.cells vs.toArray t)) (Blk.new w vs t) (later_alloc w _)
  unfold Oper.wp
  simp [execOp, ho, Instr.box, hx, newVar, newRow, hv]
  exact hK _ _ hk

theorem blk_of_own {w : World} {base : Nat} {e : TypeId} {g n : Nat} {xs : List Value} (h : w.ownsRow base e 1 (.slice (some ⟨g, 0, none⟩) n n) n xs) : Blk w g xs e ∧ base ≤ g := by
  rcases h.2 with ⟨hv, _⟩ | ⟨g', c, cur, hv, hb, hg, h1, h2, h3, ht⟩
  · cases hv
  · cases hv
    refine ⟨?_, hb⟩
    have hl := h.1
    have : cur.toList = xs := by
      rw [← ht, List.take_of_length_le (by simp at h3 ⊢; omega)]
    unfold Blk
    rw [hg, ← this]

theorem own_of_blk {w : World} {base : Nat} {e : TypeId} {g n : Nat} {xs : List Value} (h : Blk w g xs e) (hb : base ≤ g) (hn : xs.length = n) (hm : n ≤ maxLen) : w.ownsRow base e 1 (.slice (some ⟨g, 0, none⟩) n n) n xs := by
  refine ⟨by rw [hn, Nat.mul_one], .inr ⟨g, n, xs.toArray, rfl, hb, h, Nat.le_refl _, hm, by simp [hn], ?_⟩⟩
  show xs.take (n * 1) = xs
  rw [List.take_of_length_le (by omega)]

/-- 'make' of a slice whose elements are one cell. -/
theorem wpList_make {P : Program} {w : World} {ops : Array Oper} {rest : List Oper} {o : Oper} {a : Act} {Q : Exit → Act → World → Prop} (t e : TypeId) (z : Value) (by' : Nat) (n : Nat) {l c : Operand} {kl kc : IntKind} {L C : Int}
    (hg : o.guard = none) (hop : o.op = Op.makeSlice t l c) (hl : a.eval l = .int kl L) (hc : a.eval c = .int kc C) (h1 : P.underlying t = some (.slice e)) (hi : (P.info? e).map (fun i => (i.zero, i.size, i.bytes)) = some (some z, 1, by')) (hz : z.cells = #[z])
    (hL : L = (n : Int)) (hC : C = (n : Int)) (b2 : by' * n ≤ 281474976710656) (b3 : n ≤ maxLen)
    (k : ∀ w', Blk w' w.heap.size (List.replicate n z) e → Below w.heap.size w w' → wpList P ops Q rest (a.put o.dst (.slice (some ⟨w.heap.size, 0, none⟩) n n)) w') : wpList P ops Q (o :: rest) a w := by
  obtain ⟨i0, hi0, hz0, hz1, hz2⟩ := info_parts hi
  refine wpList_make_full w hg l c t hop w.heap.size e i0 z 1 h1 hi0 hz0 hz1 kl kc L C n hl hc hL hC (by rw [hz2]; exact b2) b3 (Nat.le_refl _) (fun w' hown hgrow => ?_)
  have hb := (blk_of_own hown).1
  have e1 : (madeCells z.cells (n * 1)).toList = List.replicate n z := by
    rw [hz, Nat.mul_one, toList_madeCells_one]
  rw [e1] at hb
  exact k w' hb ((Below.refl w.heap.size w).grown hgrow (Nat.le_refl _) (fun k h => by cases h))

/-- What a walk knows of the world: nothing below the base has changed, and these blocks hold these cells. -/
structure St (w0 : World) (base : Nat) (w : World) (L : List (Nat × List Value × TypeId)) : Prop where
  base_le : base ≤ w0.heap.size
  bel : Below base w0 w
  all : ∀ e ∈ L, Blk w e.1 e.2.1 e.2.2

theorem St.start (w : World) : St w w.heap.size w [] := ⟨Nat.le_refl _, Below.refl _ _, fun _ h => by cases h⟩
theorem St.get {w0 w : World} {base : Nat} {L : List (Nat × List Value × TypeId)} (h : St w0 base w L) (i : Nat) {b : Nat} {vs : List Value} {ty : TypeId} (hi : L[i]? = some (b, vs, ty)) : Blk w b vs ty := h.all _ (List.mem_of_getElem? hi)
theorem St.later {w0 w w' : World} {base : Nat} {L : List (Nat × List Value × TypeId)} (h : St w0 base w L) (hl : Below w.heap.size w w') : St w0 base w' L :=
  ⟨h.base_le, h.bel.trans (hl.mono (Nat.le_trans h.base_le h.bel.size)), fun e he => (h.all e he).below hl (h.all e he).lt⟩
theorem St.drew {w0 w : World} {base : Nat} {L : List (Nat × List Value × TypeId)} (h : St w0 base w L) : St w0 base w.drew L := ⟨h.base_le, h.bel.drew, fun e he => (h.all e he).drew⟩
theorem St.add {w0 w : World} {base : Nat} {L : List (Nat × List Value × TypeId)} (h : St w0 base w L) {b : Nat} {vs : List Value} {ty : TypeId} (hb : Blk w b vs ty) : St w0 base w ((b, vs, ty) :: L) :=
  ⟨h.base_le, h.bel, fun e he => by
    rcases List.mem_cons.1 he with rfl | he
    · exact hb
    · exact h.all e he⟩
theorem St.push {w0 w w' : World} {base : Nat} {L : List (Nat × List Value × TypeId)} (h : St w0 base w L) {b : Nat} {vs : List Value} {ty : TypeId} (hb : Blk w' b vs ty) (hl : Below w.heap.size w w') : St w0 base w' ((b, vs, ty) :: L) := (h.later hl).add hb
theorem mem_eraseIdx_ne {α : Type} : ∀ (L : List α) (i j : Nat) (e : α), j ≠ i → L[j]? = some e → e ∈ L.eraseIdx i
  | [], _, _, _, _, h => by simp at h
  | x :: r, 0, 0, _, hne, _ => absurd rfl hne
  | x :: r, 0, j + 1, e, _, h => by rw [List.getElem?_cons_succ] at h; exact List.mem_of_getElem? h
  | x :: r, i + 1, 0, e, _, h => by simp at h; subst h; simp [List.eraseIdx]
  | x :: r, i + 1, j + 1, e, hne, h => by
    rw [List.getElem?_cons_succ] at h
    exact List.mem_cons_of_mem _ (mem_eraseIdx_ne r i j e (fun h => hne (congrArg (· + 1) h)) h)

/-- One block has changed. -/
theorem St.change {w0 w w' : World} {base : Nat} {L : List (Nat × List Value × TypeId)} (h : St w0 base w L) (i : Nat) {b : Nat} {us : List Value} {ty : TypeId} (hb : Blk w' b us ty) (ho : Only b w w')
    (hbase : base ≤ b) (hne : ∀ e ∈ L.eraseIdx i, e.1 ≠ b) : St w0 base w' (L.set i (b, us, ty)) :=
  ⟨h.base_le, below_only h.bel ho hbase, fun e he => by
    obtain ⟨j, hj⟩ := List.mem_iff_getElem?.1 he
    rw [List.getElem?_set] at hj
    by_cases e1 : i = j
    · subst e1
      rw [if_pos rfl] at hj
      split at hj
      · cases hj; exact hb
      · cases hj
    · rw [if_neg e1] at hj
      exact (h.all e (List.mem_of_getElem? hj)).only ho (hne e (mem_eraseIdx_ne _ _ _ _ (fun h => e1 h.symm) hj))⟩
theorem St.ne {w0 w : World} {base : Nat} {L : List (Nat × List Value × TypeId)} (h : St w0 base w L) : ∀ e ∈ L, e.1 < w.heap.size := fun e he => (h.all e he).lt
theorem St.size {w0 w : World} {base : Nat} {L : List (Nat × List Value × TypeId)} (h : St w0 base w L) : base ≤ w.heap.size := Nat.le_trans h.base_le h.bel.size

/-! The same at one operation. -/
theorem Blk.opload {P : Program} {w : World} {b n : Nat} {vs : List Value} {ty' : TypeId} (h : Blk w b vs ty') {op : Oper} {a : Act} {K : Act → World → Prop} {Q : Exit → Act → World → Prop} {ty : TypeId} {x : Operand}
    (ho : op.op = .load ty x) (hx : a.eval x = .pointer (some ⟨b, 0, none⟩)) (hr : Row P ty n) (hn : vs.length = n) (k : K (a.put op.dst (.agg vs.toArray)) w) : op.wp P a w K Q := by
  obtain ⟨d, hu, hd, hi⟩ := hr.open
  exact wp_load_mid ty x ho b 0 hx vs d h.range hu hd (by rw [hi, hn]) k

theorem Blk.opstore {P : Program} {w : World} {b n : Nat} {vs : List Value} {ty' : TypeId} (h : Blk w b vs ty') {op : Oper} {a : Act} {K : Act → World → Prop} {Q : Exit → Act → World → Prop} {ty : TypeId} {x y : Operand} {cs : List Value}
    (ho : op.op = .store ty x y) (hx : a.eval x = .pointer (some ⟨b, 0, none⟩)) (hy : a.eval y = .agg cs.toArray) (hr : Row P ty n) (hn : vs.length = n) (hc : cs.length = n) (h1 : ∀ v ∈ cs, v.oneCell' = true)
    (k : ∀ w', Blk w' b cs ty' → Only b w w' → K (a.put op.dst undef) w') : op.wp P a w K Q := by
  obtain ⟨d, hu, hd, hi⟩ := hr.open
  refine wp_store_mid ty x y ho b 0 cs.toArray hx hy (h.there 0 _ (by rw [List.size_toArray]; omega)) (by rw [hi]; simp [hc]) (all_oneCell_toArray h1) ?_
  exact k (w.setCells b 0 cs) (h.setAll (by omega)) (Only.setCells b cs 0 w)

/-- One cell is stored. -/
theorem Blk.opset {P : Program} {w : World} {b i : Nat} {vs : List Value} {ty' : TypeId} (h : Blk w b vs ty') {op : Oper} {a : Act} {K : Act → World → Prop} {Q : Exit → Act → World → Prop} {ty : TypeId} {x y : Operand} {v : Value}
    (ho : op.op = .store ty x y) (hx : a.eval x = .pointer (some ⟨b, i, none⟩)) (hy : a.eval y = v) (hs : (P.info? ty).map (·.size) = some 1) (hv : v.cells = #[v]) (h1 : v.oneCell' = true) (hi : i < vs.length)
    (k : ∀ w', Blk w' b (vs.set i v) ty' → Only b w w' → K (a.put op.dst undef) w') : op.wp P a w K Q := by
  have hk := k _ (h.set i v) (Only.setCell w ⟨b, i, none⟩ v)
  have hrun := run_storeCells_cells (P := P) b i [v] 0 w (fun j hj => by
      have : j = 0 := by simpa using hj
      subst this
      have := ((h.there i 1 (by omega)) 0 (by omega)).1
      simpa using this) (fun j _ => h.free _) (by simpa using h1)
  cases hq : P.info? ty with
  | none => rw [hq] at hs; cases hs
  | some t =>
    have ht : t.size = 1 := by rw [hq] at hs; simpa using hs
    unfold Oper.wp
    simp only [Nat.add_zero, World.setCells] at hrun
    simp [execOp, ho, hx, hy, Instr.storeAt, Instr.sureAddr, storeVar, sizeOf, typeInfo, hq, ht, hv, hrun]
    exact hk

theorem Blk.opcopy {P : Program} {w : World} {g : Nat} {cur : List Value} {t : TypeId} (h : Blk w g cur t) {o : Oper} {a : Act} {K : Act → World → Prop} {Q : Exit → Act → World → Prop} {d s : Operand} {dT sT elem : TypeId}
    {dp sp : Option Addr} {dLen dCap sLen sCap : Nat} (off : Nat) (cs : List Value)
    (ho : o.op = .call { callee := .builtin .copy, args := #[d, s], argTypes := #[dT, sT] }) (hd : a.eval d = .slice dp dLen dCap) (hs : a.eval s = .slice sp sLen sCap)
    (hu : P.underlying dT = some (.slice elem)) (hsz : (P.info? elem).map (·.size) = some 1)
    (hdp : 0 < cs.length → dp = some ⟨g, off, none⟩) (hsrc : Lies w sp cs) (hn : cs.length = Nat.min sLen dLen) (hfit : off + cs.length ≤ cur.length) (h1 : ∀ v ∈ cs, v.oneCell' = true)
    (k : ∀ w', Blk w' g (splice cur off cs) t → Only g w w' → K (a.put o.dst (goInt cs.length)) w') : o.wp P a w K Q := by
  by_cases h0 : cs.length = 0
  · obtain rfl : cs = [] := List.eq_nil_of_length_eq_zero h0
    have hrun := run_copy_none (P := P) w dT sT o.type elem dp sp dLen dCap sLen sCap hu hsz (by simpa using hn.symm)
    unfold Oper.wp
    simp [execOp, ho, resolve, invoke, builtin, hd, hs, hrun, Result.andThen]
    exact k w (by simpa [splice] using h) (Only.refl _ _)
  · obtain rfl := hdp (by omega)
    obtain ⟨b, off', rfl, _, hc⟩ := hsrc.at (by intro e; simp [e] at h0)
    have hrun := run_copy_cells (P := P) w dT sT o.type elem g off dLen dCap ⟨b, off', none⟩ sLen sCap cs hu hsz hn (fun j v hv => by rw [add_eq]; exact hc j v hv)
      (fun j hj => ((h.there off cs.length hfit) j hj).1) (fun j hj => h.free _) h1
    unfold Oper.wp
    simp [execOp, ho, resolve, invoke, builtin, hd, hs, hrun, Result.andThen]
    refine k _ ?_ (Only.setCells g cs off w)
    have := Blk.setCells cs cur off w hfit h
    rwa [List.append_assoc] at this

/-- The one result is a variable of an array or a struct. -/
theorem Blk.result {P : Program} {w : World} {b n : Nat} {vs : List Value} {ty' : TypeId} (h : Blk w b vs ty') {fn : Func} {R : Ending → World → Prop} {a : Act} {p : Tmp} {ty : TypeId}
    (hf : fn.results = #[.cell p ty]) (hd : a.defers = []) (hp : a.tmps.getD p undef = .pointer (some ⟨b, 0, none⟩)) (hr : Row P ty n) (hn : vs.length = n)
    (k : R (.returned (.agg vs.toArray)) w) : bodyPost P fn R .ret a w := by
  obtain ⟨d, hu, hd', hi⟩ := hr.open
  exact bodyPost_ret (results_cell_row hf _ _ _ _ _ _ _ hp h hu (by cases d <;> simp_all [TypeDesc.isRow]) (by rw [hi]; simp [hn])) hd k

/-- A cut of an array's variable, from an element on. -/
theorem run_sliceAt_low {P : Program} (w : World) (t e : TypeId) (n : Nat) (ht : P.underlying t = some (.array n e)) (hs : (P.info? e).map (·.size) = some 1) (b o lo : Nat) (i : Int) (hi : i = lo) (h : lo < n) :
    (Instr.sliceAt t (.pointer (some ⟨b, o, none⟩)) (some (.int .i64 i)) none none).run P w = .ok (.slice (some ⟨b, o + lo, none⟩) (n - lo) (n - lo)) w := by
  subst hi
  cases hq : P.info? e with
  | none => rw [hq] at hs; cases hs
  | some x =>
    have hx : x.size = 1 := by rw [hq] at hs; simpa using hs
    have hz : (sizeOf e).run P w = .ok 1 w := by simp [sizeOf, typeInfo, hq, hx]
    have hne : n ≠ lo := by omega
    simp [Instr.sliceAt, run_underlying ht, Instr.sureAddr, Instr.sliceBounds, Instr.sliceBound, asIntOf, hz, show lo ≤ n by omega, hne, add_eq]

/-- An element of an array by value; the element is one cell. -/
theorem run_index_one {P : Program} (w : World) (t e : TypeId) (n : Nat) (cs : Array Value) (k : IntKind) (i : Nat) (v : Value) (ht : P.underlying t = some (.array n e)) (he : (P.underlying e).map (·.isRow) = some false) (hs : (P.info? e).map (·.size) = some 1)
    (hi : cs[i]? = some v) (hlt : i < n) : (Instr.index t (.agg cs) (.int k (i : Int))).run P w = .ok v w := by
  cases hq : P.info? e with
  | none => rw [hq] at hs; cases hs
  | some x =>
    have hx : x.size = 1 := by rw [hq] at hs; simpa using hs
    cases hd : P.underlying e with
    | none => rw [hd] at he; cases he
    | some d =>
      have hagg : (isAgg e).run P w = .ok false w := by
        unfold isAgg
        rw [Sem.run_bind, run_underlying hd w]
        rw [hd] at he
        cases d <;> simp_all [TypeDesc.isRow]
      simp [Instr.index, asIntOf, run_underlying ht, hlt, sizeOf, typeInfo, hq, hx, part, hagg, hi]

end Go.Cells
/-
  What octet's functions compute. No program.
-/
namespace Go.Oct
open Go.Ops

/-- A row's byte; behind its end 0. -/
def at8 (b : List UInt8) (i : Nat) : UInt8 := b.getD i 0
def gather (f : Nat → UInt8) : Nat → UInt64
  | 0 => 0
  | k + 1 => or64 (gather f k) (shl64 (up8_64 (f k)) (8 * k))
def longL (b : List UInt8) (at' : Nat) : UInt64 := gather (fun k => at8 b (at' + k)) 8
def wordL (b : List UInt8) (at' : Nat) : UInt32 := lo64_32 (gather (fun k => at8 b (at' + k)) 4)
def putWord (n : UInt32) : List UInt8 := (List.range 4).map fun k => lo32_8 (shr32 n (8 * k))
def putLong (n : UInt64) : List UInt8 := (List.range 8).map fun k => lo64_8 (shr64 n (8 * k))
def block (b : List UInt8) : List UInt8 := (List.range 16).map fun k => at8 b k
def xorL (a b : List UInt8) : List UInt8 := (List.range (min a.length b.length)).map fun i => xor8 (at8 a i) (at8 b i)
def roomL (n size : Nat) : Nat := (size - n % size) % size
def padL (b : List UInt8) (size : Nat) : List UInt8 := b ++ List.replicate (roomL b.length size) 0
def markL (b : List UInt8) (mark : UInt8) (size : Nat) : List UInt8 := padL (b ++ [mark]) size

def zeros (n : Nat) : List UInt8 := List.replicate n 0
theorem zeros_length (n : Nat) : (zeros n).length = n := by simp [zeros]

theorem putWord_length (n : UInt32) : (putWord n).length = 4 := by simp [putWord]
theorem putLong_length (n : UInt64) : (putLong n).length = 8 := by simp [putLong]
theorem block_length (b : List UInt8) : (block b).length = 16 := by simp [block]
theorem xorL_length (a b : List UInt8) : (xorL a b).length = min a.length b.length := by simp [xorL]

/-- The first k places of a row hold what is told of them. -/
def Filled {α : Type} (f : Nat → α) (n k : Nat) (l : List α) : Prop := l.length = n ∧ ∀ i, i < k → l[i]? = some (f i)

theorem Filled.zero {α : Type} {f : Nat → α} {n : Nat} {l : List α} (h : l.length = n) : Filled f n 0 l := ⟨h, fun i hi => absurd hi (by omega)⟩
theorem Filled.step {α : Type} {f : Nat → α} {n k : Nat} {l : List α} (h : Filled f n k l) (hk : k < n) : Filled f n (k + 1) (l.set k (f k)) := by
  refine ⟨by simpa using h.1, fun i hi => ?_⟩
  rw [List.getElem?_set]
  by_cases e : k = i
  · subst e
    simp [h.1, hk]
  · rw [if_neg e]
    exact h.2 i (by omega)
theorem Filled.all {α : Type} {f : Nat → α} {n : Nat} {l : List α} (h : Filled f n n l) : l = (List.range n).map f := by
  apply List.ext_getElem?
  intro i
  by_cases hi : i < n
  · rw [h.2 i hi]; simp [hi]
  · rw [List.getElem?_eq_none (by have := h.1; omega), List.getElem?_eq_none (by simp; omega)]
theorem Filled.at {α : Type} {f : Nat → α} {n k : Nat} {l : List α} (h : Filled f n k l) {i : Nat} (hi : i < n) : ∃ x, l[i]? = some x := ⟨l[i]'(by have := h.1; omega), by simp⟩

theorem at8_some {b : List UInt8} {i : Nat} {x : UInt8} (h : b[i]? = some x) : at8 b i = x := by simp [at8, List.getD, h]
theorem at8_none {b : List UInt8} {i : Nat} (h : b.length ≤ i) : at8 b i = 0 := by simp [at8, List.getD, h]
theorem at8_get {b : List UInt8} {i : Nat} (h : i < b.length) : b[i]? = some (at8 b i) := by simp [at8, List.getD, h]

theorem Filled.splice {α : Type} {f : Nat → α} {n k m : Nat} {l cs : List α} (h : Filled f n k l) (hm : k + m ≤ n) (hc : cs.length = m) (hcs : ∀ j, j < m → cs[j]? = some (f (k + j))) : Filled f n (k + m) (splice l k cs) := by
  have hl := h.1
  refine ⟨by rw [length_splice _ _ _ (by omega)]; exact hl, fun i hi => ?_⟩
  unfold Go.splice
  by_cases h1 : i < k
  · rw [List.getElem?_append_left (by rw [List.length_take]; omega), List.getElem?_take_of_lt h1]
    exact h.2 i h1
  · rw [List.getElem?_append_right (by rw [List.length_take]; omega), List.length_take, Nat.min_eq_left (by omega), List.getElem?_append_left (by omega), hcs _ (by omega)]
    congr 2
    omega
theorem splice_map {α β : Type} (g : α → β) (l cs : List α) (k : Nat) : Go.splice (l.map g) k (cs.map g) = (Go.splice l k cs).map g := by
  simp [Go.splice]

end Go.Oct
