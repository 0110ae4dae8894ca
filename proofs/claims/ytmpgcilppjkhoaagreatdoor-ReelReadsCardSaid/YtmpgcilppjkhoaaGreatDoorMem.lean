/-
  Plain facts on memory: cells behind an address, as lists; a slice of bytes as a list of bytes. No program.
-/
import Derived.WalkKit
import Derived.WalkSpells
import Derived.WalkLawsBesides
import Derived.Lib.Hide
import Derived.Laws.AppendOwnNone
import Derived.Laws.CopyOwn
import Derived.Deep.AppendLies
import Derived.Deep.Onto
namespace Go.Mem
open Go.RowKit

/-- A byte as a value. -/
abbrev B (b : UInt8) : Value := .int .u8 (b.toNat : Int)

/-- The cells xs lie behind the address. -/
def Lies (w : World) (ao : Option Addr) (xs : List Value) : Prop :=
  ∀ j u, xs[j]? = some u → ∃ b off, ao = some ⟨b, off, none⟩ ∧ w.cell? ⟨b, off + j, none⟩ = some u

theorem add_eq (b off j : Nat) : (⟨b, off, none⟩ : Addr).add j = ⟨b, off + j, none⟩ := by
  unfold Addr.add; split <;> simp_all

theorem block_lt_of_cell {w : World} {b o : Nat} {s : Option Nat} {u : Value} (h : w.cell? ⟨b, o, s⟩ = some u) : b < w.heap.size := World.block_lt_of_cell? w _ h

theorem Lies.below {w w' : World} {ao : Option Addr} {xs : List Value} (h : Lies w ao xs) (hb : Below w.heap.size w w') : Lies w' ao xs := by
  intro j u hu
  obtain ⟨b, off, e, hc⟩ := h j u hu
  exact ⟨b, off, e, (hb.cell (p := ⟨b, off + j, none⟩) (block_lt_of_cell hc)).trans hc⟩

theorem Lies.nil (w : World) (ao : Option Addr) : Lies w ao [] := by intro j u hu; cases hu

theorem Lies.at {w : World} {ao : Option Addr} {xs : List Value} (h : Lies w ao xs) (hn : xs ≠ []) : ∃ b off, ao = some ⟨b, off, none⟩ ∧ b < w.heap.size ∧ ∀ j u, xs[j]? = some u → w.cell? ⟨b, off + j, none⟩ = some u := by
  cases xs with
  | nil => exact absurd rfl hn
  | cons x xs =>
    obtain ⟨b, off, e, hc⟩ := h 0 x rfl
    refine ⟨b, off, e, block_lt_of_cell hc, ?_⟩
    intro j u hu
    obtain ⟨b', off', e', hc'⟩ := h j u hu
    rw [e] at e'
    cases e'
    exact hc'

theorem Lies.news {w : World} {ad : Addr} {xs : List Value} (h : Lies w (some ad) xs) : ∀ j u, xs[j]? = some u → w.cell? (ad.add j) = some u := by
  intro j u hu
  obtain ⟨b, off, e, hc⟩ := h j u hu
  cases e
  rw [add_eq]; exact hc

/-- What lies behind a cut: from the element 'a' on. -/
theorem Lies.drop {w : World} {ao : Option Addr} {xs : List Value} (h : Lies w ao xs) (a : Nat) : Lies w (ao.map (·.add a)) (xs.drop a) := by
  intro j u hu
  rw [List.getElem?_drop] at hu
  obtain ⟨b, off, e, hc⟩ := h (a + j) u hu
  refine ⟨b, off + a, ?_, ?_⟩
  · rw [e, Option.map_some, add_eq]
  · rw [Nat.add_assoc]; exact hc

theorem Lies.take {w : World} {ao : Option Addr} {xs : List Value} (h : Lies w ao xs) (n : Nat) : Lies w ao (xs.take n) := by
  intro j u hu
  rw [List.getElem?_take] at hu
  split at hu
  · exact h j u hu
  · cases hu

/-- A slice expression's address, as the model has it. -/
theorem Lies.cut {w : World} {ao : Option Addr} {xs : List Value} {cap : Nat} (h : Lies w ao xs) (hcap : xs.length ≤ cap) (a n : Nat) :
    Lies w (if cap = a then ao else ao.map (·.add a)) ((xs.drop a).take n) := by
  by_cases hc : cap = a
  · rw [if_pos hc, List.drop_eq_nil_of_le (by omega)]
    simp only [List.take_nil]
    exact Lies.nil _ _
  · rw [if_neg hc]
    exact (h.drop a).take n

theorem Lies.of_own {w : World} {base : Nat} {e : TypeId} {size : Nat} {ao : Option Addr} {n cap : Nat} {xs : List Value} (h : w.ownsRow base e size (.slice ao n cap) n xs) : Lies w ao xs := by
  intro j u hu
  rcases h.2 with ⟨hv, hn⟩ | ⟨g, c, cur, hv, hb, hg, _, _, _, ht⟩
  · have : xs = [] := List.eq_nil_of_length_eq_zero (by rw [h.1, hn]; simp)
    rw [this] at hu; cases hu
  · cases hv
    refine ⟨g, 0, rfl, ?_⟩
    have := h.cells (g := g) rfl j u hu
    rw [add_eq] at this
    exact this

/-- A value that owns is a slice of so many elements. -/
theorem own_form {w : World} {base : Nat} {e : TypeId} {size : Nat} {v : Value} {n : Nat} {xs : List Value} (h : w.ownsRow base e size v n xs) :
    ∃ ao cap, v = .slice ao n cap ∧ n ≤ cap ∧ cap ≤ maxLen ∧ Lies w ao xs := by
  rcases h.2 with ⟨hv, hn⟩ | ⟨g, c, cur, hv, hb, hg, h1, h2, h3, ht⟩
  · subst hn
    exact ⟨none, 0, hv, by omega, by simp [maxLen], Lies.of_own (base := base) (e := e) (size := size) (hv ▸ h)⟩
  · exact ⟨some ⟨g, 0, none⟩, c, hv, h1, h2, Lies.of_own (base := base) (e := e) (size := size) (hv ▸ h)⟩

theorem oneCell_B (bs : List UInt8) : ∀ u ∈ bs.map B, u.oneCell' = true := by
  intro u hu
  obtain ⟨b, _, rfl⟩ := List.mem_map.1 hu
  rfl

theorem eql_slice_nil {P : Program} (w : World) (t e : TypeId) (a : Option Addr) (l c : Nat) (h : P.underlying t = some (.slice e)) :
    (binOp .eql t (.slice a l c) (.slice none 0 0)).run P w = .ok (.bool a.isNone) w := by
  simp only [binOp]
  simp [run_equal_slice_nil w t e a l c h]

theorem Lies.of_block {w : World} {b : Nat} {cs : Array Value} {t : TypeId} {fr : Nat × Nat} (h : w.heap[b]? = some (.cells cs t fr)) : Lies w (some ⟨b, 0, none⟩) cs.toList := by
  intro j u hu
  refine ⟨b, 0, rfl, ?_⟩
  have := World.news_of_block h j u hu
  rw [add_eq] at this
  exact this

theorem run_equalIn_complex {P : Program} (w : World) (d : Nat) (t : TypeId) (k : FloatKind) (a b x y : Nat) (ht : P.underlying t = some (.complex k)) :
    (Op.equalIn (d + 1) t (.complex k a b) (.complex k x y)).run P w = .ok ((k.format.order a x == some .eq) && (k.format.order b y == some .eq)) w := by
  simp [Op.equalIn, run_underlying ht, Op.floatEq]

/-- Bytes as a string. -/
def str (bs : List UInt8) : ByteArray := ⟨bs.toArray⟩

/-- 'string(b)'. -/
theorem run_string {P : Program} (w : World) (src dst e : TypeId) (hs : P.underlying src = some (.slice e)) (he : P.underlying e = some (.int .u8)) (hd : P.underlying dst = some .string)
    (ao : Option Addr) (len cap : Nat) (bs : List UInt8) (hlen : bs.length = len) (hl : Lies w ao (bs.map B)) : (convert src dst (.slice ao len cap)).run P w = .ok (.string (str bs)) w := by
  rw [run_convert_bytes_string w src dst e _ len cap hs he hd]
  cases ao with
  | none =>
    have : bs = [] := by
      cases bs with
      | nil => rfl
      | cons x xs => obtain ⟨_, _, e, _⟩ := hl 0 (B x) rfl; cases e
    subst this
    rfl
  | some ad =>
    have h1 : (loadCells ad len).run P w = .ok ((bs.map fun b => (b.toNat : Int)).map (Value.int .u8)).toArray w := by
      have := run_loadCells_list (P := P) w ad (bs.map B) hl.news
      rw [List.map_map]
      rw [List.length_map, hlen] at this
      exact this
    rw [run_bytesToString w _ len cap _ h1, foldl_push_bytes]
    simp only [List.map_map]
    have h2 : (List.map ((fun n => UInt8.ofNat n.toNat) ∘ fun b : UInt8 => (b.toNat : Int)) bs) = bs := by
      conv => rhs; rw [← List.map_id bs]
      apply List.map_congr_left
      intro b _
      simp
    rw [h2]
    simp [str, ByteArray.empty, ByteArray.emptyWithCapacity]
    rfl

theorem str_beq (a b : List UInt8) : ((str a).toList == (str b).toList) = (a == b) := by
  simp [str]

/-- A slice expression's address, under one name. -/
def cutAddr (ao : Option Addr) (cap a : Nat) : Option Addr := if cap = a then ao else ao.map (·.add a)

theorem Lies.cutA {w : World} {ao : Option Addr} {xs : List Value} {cap : Nat} (h : Lies w ao xs) (hcap : xs.length ≤ cap) (a n : Nat) :
    Lies w (cutAddr ao cap a) ((xs.drop a).take n) := Lies.cut h hcap a n

/-- 's[i:j]', of elements of one cell. -/
theorem run_cut {P : Program} (w : World) (t e : TypeId) (ht : P.underlying t = some (.slice e)) (hs : ∀ w : World, (sizeOf e).run P w = .ok 1 w) (ao : Option Addr) (len cap lo hi : Nat) (i j : Int) (hi' : i = lo) (hj : j = hi) (h1 : lo ≤ hi) (h2 : hi ≤ cap) :
    (Instr.slice t (.slice ao len cap) (some (.int .i64 i)) (some (.int .i64 j)) none).run P w = .ok (.slice (cutAddr ao cap lo) (hi - lo) (cap - lo)) w := by
  subst hi'; subst hj
  simp [Instr.slice, Instr.sliceBounds, Instr.sliceBound, run_underlying ht, hs, asIntOf, h1, h2, cutAddr]

theorem run_size {P : Program} (e : TypeId) (i : TypeInfo) (n : Nat) (hi : P.info? e = some i) (hs : i.size = n) (w : World) : (sizeOf e).run P w = .ok n w := by
  simp [sizeOf, typeInfo, hi, hs]

/-- A slice of bytes that came in, as a list of bytes. -/
theorem bytes_of_row {w : World} {a : Option Addr} {len cap : Nat} {zs : List Int}
    (h : (a = none ∧ len = 0 ∧ cap = 0 ∧ zs = []) ∨ ∃ x, a = some x ∧ len ≤ cap ∧ cap ≤ maxLen ∧ zs.length = cap ∧ (∀ i, i < zs.length → w.cell? (x.add i) = some (.int .u8 (zs.getD i 0))) ∧ ∀ n ∈ zs, (Lit.int .u8 n).wf = true) :
    ∃ bs : List UInt8, bs.length = len ∧ len ≤ cap ∧ cap ≤ maxLen ∧ Lies w a (bs.map B) := by
  rcases h with ⟨rfl, rfl, rfl, rfl⟩ | ⟨x, rfl, hl, hm, hz, hc, hw⟩
  · exact ⟨[], rfl, Nat.le_refl _, by simp [maxLen], Lies.nil _ _⟩
  · refine ⟨(zs.take len).map fun n => UInt8.ofNat n.toNat, by simp; omega, hl, hm, ?_⟩
    intro j u hu
    rw [List.map_map, List.getElem?_map] at hu
    cases hj : (zs.take len)[j]? with
    | none => rw [hj] at hu; cases hu
    | some n =>
      rw [hj] at hu
      simp only [Option.map_some, Option.some.injEq] at hu
      have hj2 : zs[j]? = some n := by
        rw [List.getElem?_take] at hj
        split at hj
        · exact hj
        · cases hj
      have hlt : j < zs.length := (List.getElem?_eq_some_iff.1 hj2).1
      have hcj := hc j hlt
      have hn : zs.getD j 0 = n := by simp [List.getD, hj2]
      rw [hn] at hcj
      have hwn := hw n (List.mem_of_getElem? hj2)
      have hb : 0 ≤ n ∧ n ≤ 255 := by simpa [Lit.wf, IntKind.min, IntKind.max, IntKind.signed, IntKind.bits] using hwn
      have hB : B (UInt8.ofNat n.toNat) = .int .u8 n := by
        show Value.int .u8 _ = _
        rw [UInt8.toNat_ofNat_of_lt' (by show _ < 256; omega)]
        congr 1; omega
      subst hu
      have hx0 : x.spot = none := by
        have hc0 := hc 0 (by omega)
        have e : x.add 0 = x := by simp [Addr.add]
        rw [e] at hc0
        cases hs : x.spot with
        | none => rfl
        | some s =>
          exfalso
          revert hc0
          simp [World.cell?, hs]
          split <;> simp
      obtain ⟨b, off, sp⟩ := x
      simp only at hx0
      subst hx0
      refine ⟨b, off, rfl, ?_⟩
      rw [add_eq] at hcj
      rw [hcj]
      exact congrArg some hB.symm

/-- The result is a slice in new memory; nothing that was there has changed. -/
def Fresh (w : World) (e : TypeId) (size n : Nat) (xs : List Value) (mk : Value → Value) : Ending → World → Prop :=
  fun en w' => ∃ v, en = .returned (mk v) ∧ w'.ownsRow w.heap.size e size v n xs ∧ Below w.heap.size w w'

end Go.Mem
