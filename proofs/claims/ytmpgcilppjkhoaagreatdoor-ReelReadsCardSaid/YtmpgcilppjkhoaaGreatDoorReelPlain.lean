/-
  What reel computes: numbers' bytes, commands' bytes, and the way back. No program.
-/
import Derived.Test.YtmpgcilppjkhoaaGreatDoorOctPlain
namespace Go.Reel
open Go.Ops Go.Oct
set_option linter.unusedSimpArgs false
set_option linter.unusedVariables false

/-- A number's lowest bytes. -/
def bytesOf (n many : Nat) : List UInt8 := (List.range many).map fun i => UInt8.ofNat (n / 256 ^ i)
/-- The number of bytes, the lowest first. -/
def numOf : List UInt8 → Nat
  | [] => 0
  | b :: r => b.toNat + 256 * numOf r

theorem bytesOf_length (n many : Nat) : (bytesOf n many).length = many := by simp [bytesOf]
theorem bytesOf_zero (n : Nat) : bytesOf n 0 = [] := rfl
theorem bytesOf_succ (n many : Nat) : bytesOf n (many + 1) = UInt8.ofNat n :: bytesOf (n / 256) many := by
  unfold bytesOf
  rw [List.range_succ_eq_map]
  simp only [List.map_cons, List.map_map, Nat.pow_zero, Nat.div_one]
  congr 1
  apply List.map_congr_left
  intro i _
  simp only [Function.comp]
  rw [Nat.div_div_eq_div_mul, Nat.pow_succ, Nat.mul_comm]
theorem bytesOf_snoc (n many : Nat) : bytesOf n (many + 1) = bytesOf n many ++ [UInt8.ofNat (n / 256 ^ many)] := by
  unfold bytesOf
  rw [List.range_succ]
  simp

theorem numOf_lt : ∀ bs : List UInt8, numOf bs < 256 ^ bs.length
  | [] => by simp [numOf]
  | b :: r => by
    have h := numOf_lt r
    have hb := b.toNat_lt
    simp only [numOf, List.length_cons, Nat.pow_succ]
    omega

theorem numOf_bytesOf : ∀ (many n : Nat), n < 256 ^ many → numOf (bytesOf n many) = n
  | 0, n, h => by simp [numOf, bytesOf_zero] at *; omega
  | many + 1, n, h => by
    rw [bytesOf_succ, numOf, numOf_bytesOf many (n / 256) (by rw [Nat.pow_succ] at h; omega)]
    rw [UInt8.toNat_ofNat']
    omega

theorem bytesOf_numOf : ∀ bs : List UInt8, bytesOf (numOf bs) bs.length = bs
  | [] => rfl
  | b :: r => by
    have hb := b.toNat_lt
    simp only [numOf, List.length_cons]
    rw [bytesOf_succ, show (b.toNat + 256 * numOf r) / 256 = numOf r by omega, bytesOf_numOf r]
    congr 1
    apply UInt8.toNat_inj.1
    rw [UInt8.toNat_ofNat']
    omega

/-- A number as octet lays it. -/
theorem putLong_take (u : UInt64) (many : Nat) (h : many ≤ 8) : (putLong u).take many = bytesOf u.toNat many := by
  unfold putLong bytesOf
  rw [← List.map_take, List.take_range, Nat.min_eq_left h]
  apply List.map_congr_left
  intro i hi
  have hi := List.mem_range.1 hi
  apply UInt8.toNat_inj.1
  rw [UInt8.toNat_ofNat']
  unfold lo64_8 shr64
  rw [UInt8.toNat_ofNat', UInt64.toNat_ofNat', show (256 : Nat) ^ i = 2 ^ (8 * i) by rw [Nat.pow_mul], Nat.mod_mod_of_dvd _ (by decide)]

theorem numOf_snoc : ∀ (l : List UInt8) (x : UInt8), numOf (l ++ [x]) = numOf l + 256 ^ l.length * x.toNat
  | [], x => by simp [numOf]
  | b :: r, x => by
    simp only [List.cons_append, numOf, numOf_snoc r x, List.length_cons, Nat.pow_succ]
    rw [Nat.mul_add, ← Nat.mul_assoc, Nat.mul_comm 256 (256 ^ r.length), Nat.add_assoc]

theorem numOf_zeros (l : List UInt8) (n : Nat) : numOf (l ++ List.replicate n 0) = numOf l := by
  induction n with
  | zero => simp
  | succ n ih => rw [List.replicate_succ', ← List.append_assoc, numOf_snoc, ih]; simp

theorem gather_toNat (f : Nat → UInt8) : ∀ k, k ≤ 8 → (gather f k).toNat = numOf ((List.range k).map f)
  | 0, _ => rfl
  | k + 1, h => by
    have ih := gather_toNat f k (by omega)
    have hlt := numOf_lt ((List.range k).map f)
    rw [List.length_map, List.length_range] at hlt
    have hb := (f k).toNat_lt
    have hp : (256 : Nat) ^ k = 2 ^ (8 * k) := by rw [Nat.pow_mul]
    have hshl : (shl64 (up8_64 (f k)) (8 * k)).toNat = 2 ^ (8 * k) * (f k).toNat := by
      unfold shl64 up8_64
      rw [UInt64.toNat_ofNat', UInt64.toNat_ofNat']
      rw [Nat.mod_eq_of_lt (a := (f k).toNat) (by omega), Nat.mul_comm]
      apply Nat.mod_eq_of_lt
      have h1 : 2 ^ (8 * k) * (f k).toNat < 2 ^ (8 * k) * 2 ^ 8 := Nat.mul_lt_mul_of_pos_left (by omega) (Nat.two_pow_pos _)
      rw [← Nat.pow_add] at h1
      have h2 : 2 ^ (8 * k + 8) ≤ 2 ^ 64 := Nat.pow_le_pow_right (by omega) (by omega)
      omega
    rw [List.range_succ, List.map_append, List.map_cons, List.map_nil, numOf_snoc, List.length_map, List.length_range]
    show (or64 (gather f k) (shl64 (up8_64 (f k)) (8 * k))).toNat = _
    unfold or64
    rw [UInt64.toNat_or, hshl, ih, Nat.or_comm, ← Nat.two_pow_add_eq_or_of_lt (by rw [← hp]; exact hlt), hp]
    omega

theorem longL_num (bs : List UInt8) (h : bs.length ≤ 8) : (longL bs 0).toNat = numOf bs := by
  unfold longL
  rw [gather_toNat _ 8 (Nat.le_refl _)]
  have : (List.range 8).map (fun k => at8 bs (0 + k)) = bs ++ List.replicate (8 - bs.length) 0 := by
    apply List.ext_getElem?
    intro i
    by_cases hi : i < 8
    · rw [List.getElem?_map, List.getElem?_range hi]
      by_cases hb : i < bs.length
      · rw [List.getElem?_append_left hb, at8_get hb]; simp
      · rw [List.getElem?_append_right (by omega), List.getElem?_replicate, if_pos (by omega)]
        simp [at8_none (show bs.length ≤ i by omega)]
    · rw [List.getElem?_eq_none (by simp; omega), List.getElem?_eq_none (by simp; omega)]
  rw [this, numOf_zeros]

/-- A number as one of 64 bits. -/
def u64 (n : Int) : UInt64 := UInt64.ofNat (n % 18446744073709551616).toNat
theorem wrap_u64 (n : Int) : IntKind.u64.wrap n = ((u64 n).toNat : Int) := by
  rw [wrapmod64]
  unfold u64
  rw [UInt64.toNat_ofNat_of_lt' (by show _ < 18446744073709551616; omega)]
  omega
theorem u64_nat (n : Nat) (h : n < 18446744073709551616) : (u64 (n : Int)).toNat = n := by
  unfold u64
  rw [UInt64.toNat_ofNat_of_lt' (by show _ < 18446744073709551616; omega)]
  omega
theorem u64_of (n : Int) (h : 0 ≤ n) (h2 : n < 18446744073709551616) : (u64 n).toNat = n.toNat := by
  obtain ⟨m, rfl⟩ : ∃ m : Nat, n = m := ⟨n.toNat, by omega⟩
  rw [u64_nat _ (by omega)]; rfl

/-- What put puts. -/
def putN (n : Int) (many : Nat) : List UInt8 := (putLong (u64 n)).take many
theorem putN_eq (n : Int) (many : Nat) (h : many ≤ 8) : putN n many = bytesOf (u64 n).toNat many := putLong_take _ _ h
theorem putN_length (n : Int) (many : Nat) (h : many ≤ 8) : (putN n many).length = many := by rw [putN_eq _ _ h, bytesOf_length]

/-- A command. -/
structure Cmd where
  kind : Int
  a : Int
  n : Int
  m : Int
  key : List UInt8
  b : List UInt8
  name : List UInt8

/-- An error's number of a command that is to be written. -/
def Cmd.err (c : Cmd) : Nat :=
  if 0 ≤ c.kind ∧ c.kind < 256 ∧ 0 ≤ c.a ∧ c.a < 256 ∧ 0 ≤ c.n ∧ c.n < 4294967296 ∧ 0 ≤ c.m ∧ c.m < 4294967296 then
    (if c.key.length < 256 ∧ c.b.length < 65536 ∧ c.name.length < 65536 then 0 else 6) else 21

def Cmd.bytes (c : Cmd) : List UInt8 :=
  bytesOf c.kind.toNat 1 ++ (bytesOf c.a.toNat 1 ++ (bytesOf c.n.toNat 4 ++ (bytesOf c.m.toNat 4 ++ (bytesOf c.key.length 1 ++ (c.key ++ (bytesOf c.b.length 2 ++ (c.b ++ (bytesOf c.name.length 2 ++ c.name))))))))

def errP : List Cmd → Nat
  | [] => 0
  | c :: r => if c.err = 0 then errP r else c.err
def outP (l : List Cmd) : List UInt8 := l.flatMap Cmd.bytes

theorem errP_append (l m : List Cmd) : errP (l ++ m) = if errP l = 0 then errP m else errP l := by
  induction l with
  | nil => simp [errP]
  | cons c r ih =>
    simp only [List.cons_append, errP, ih]
    by_cases h : c.err = 0 <;> simp [h]
theorem outP_append (l m : List Cmd) : outP (l ++ m) = outP l ++ outP m := by simp [outP]
theorem outP_snoc (l : List Cmd) (c : Cmd) : outP (l ++ [c]) = outP l ++ c.bytes := by simp [outP]
theorem outP_cons (c : Cmd) (l : List Cmd) : outP (c :: l) = c.bytes ++ outP l := by simp [outP]

def numP (many : Nat) (bs : List UInt8) : Option (Nat × List UInt8) := if bs.length < many then none else some (numOf (bs.take many), bs.drop many)
def bytesP (many : Nat) (bs : List UInt8) : Option (List UInt8 × List UInt8) :=
  match numP many bs with
  | none => none
  | some (n, r) => if r.length < n then none else some (r.take n, r.drop n)
def opP (bs : List UInt8) : Option (Cmd × List UInt8) :=
  match numP 1 bs with
  | none => none
  | some (k, b1) => match numP 1 b1 with
  | none => none
  | some (a, b2) => match numP 4 b2 with
  | none => none
  | some (n, b3) => match numP 4 b3 with
  | none => none
  | some (m, b4) => match bytesP 1 b4 with
  | none => none
  | some (key, b5) => match bytesP 2 b5 with
  | none => none
  | some (b, b6) => match bytesP 2 b6 with
  | none => none
  | some (name, b7) => some (⟨k, a, n, m, key, b, name⟩, b7)

theorem numP_put (n many : Nat) (r : List UInt8) (h : n < 256 ^ many) : numP many (bytesOf n many ++ r) = some (n, r) := by
  unfold numP
  rw [if_neg (by simp [bytesOf_length]), List.take_append_of_le_length (by simp [bytesOf_length]), List.take_of_length_le (by simp [bytesOf_length]), numOf_bytesOf _ _ h,
    List.drop_append_of_le_length (by simp [bytesOf_length]), List.drop_of_length_le (by simp [bytesOf_length])]
  rfl

theorem bytesP_put (xs r : List UInt8) (many : Nat) (h : xs.length < 256 ^ many) : bytesP many (bytesOf xs.length many ++ (xs ++ r)) = some (xs, r) := by
  unfold bytesP
  rw [numP_put _ _ _ h]
  simp

theorem numP_some {many n : Nat} {bs r : List UInt8} (h : numP many bs = some (n, r)) : bs = bytesOf n many ++ r ∧ n < 256 ^ many := by
  unfold numP at h
  split at h
  · cases h
  · rename_i hl
    simp only [Option.some.injEq, Prod.mk.injEq] at h
    obtain ⟨rfl, rfl⟩ := h
    have hlen : (bs.take many).length = many := by rw [List.length_take]; omega
    have h1 := bytesOf_numOf (bs.take many)
    have h2 := numOf_lt (bs.take many)
    rw [hlen] at h1 h2
    refine ⟨?_, h2⟩
    rw [h1, List.take_append_drop]

theorem bytesP_some {many : Nat} {bs xs r : List UInt8} (h : bytesP many bs = some (xs, r)) : bs = bytesOf xs.length many ++ (xs ++ r) ∧ xs.length < 256 ^ many := by
  unfold bytesP at h
  cases hn : numP many bs with
  | none => rw [hn] at h; cases h
  | some p =>
    obtain ⟨n, q⟩ := p
    rw [hn] at h
    obtain ⟨h1, h2⟩ := numP_some hn
    simp only at h
    split at h
    · cases h
    · simp only [Option.some.injEq, Prod.mk.injEq] at h
      obtain ⟨rfl, rfl⟩ := h
      have hl : (q.take n).length = n := by rw [List.length_take]; omega
      rw [hl, List.take_append_drop]
      exact ⟨h1, h2⟩

theorem Cmd.err_zero {c : Cmd} (h : c.err = 0) : (0 ≤ c.kind ∧ c.kind < 256 ∧ 0 ≤ c.a ∧ c.a < 256 ∧ 0 ≤ c.n ∧ c.n < 4294967296 ∧ 0 ≤ c.m ∧ c.m < 4294967296) ∧ c.key.length < 256 ∧ c.b.length < 65536 ∧ c.name.length < 65536 := by
  unfold Cmd.err at h
  split at h
  · rename_i h1
    split at h
    · rename_i h2; exact ⟨h1, h2⟩
    · cases h
  · cases h

theorem opP_put (c : Cmd) (r : List UInt8) (h : c.err = 0) : opP (c.bytes ++ r) = some (c, r) := by
  obtain ⟨⟨h1, h2, h3, h4, h5, h6, h7, h8⟩, h9, h10, h11⟩ := c.err_zero h
  unfold opP Cmd.bytes
  simp only [List.append_assoc]
  rw [numP_put _ _ _ (by omega)]
  simp only
  rw [numP_put _ _ _ (by omega)]
  simp only
  rw [numP_put _ _ _ (by omega)]
  simp only
  rw [numP_put _ _ _ (by omega)]
  simp only
  rw [bytesP_put _ _ _ (by omega)]
  simp only
  rw [bytesP_put _ _ _ (by omega)]
  simp only
  rw [bytesP_put _ _ _ (by omega)]
  simp only [Int.toNat_of_nonneg h1, Int.toNat_of_nonneg h3, Int.toNat_of_nonneg h5, Int.toNat_of_nonneg h7]

theorem opP_some {bs r : List UInt8} {c : Cmd} (h : opP bs = some (c, r)) : bs = c.bytes ++ r ∧ c.err = 0 := by
  unfold opP at h
  cases h1 : numP 1 bs with
  | none => rw [h1] at h; cases h
  | some p =>
  obtain ⟨k, b1⟩ := p
  rw [h1] at h; simp only at h
  cases h2 : numP 1 b1 with
  | none => rw [h2] at h; cases h
  | some p =>
  obtain ⟨a, b2⟩ := p
  rw [h2] at h; simp only at h
  cases h3 : numP 4 b2 with
  | none => rw [h3] at h; cases h
  | some p =>
  obtain ⟨n, b3⟩ := p
  rw [h3] at h; simp only at h
  cases h4 : numP 4 b3 with
  | none => rw [h4] at h; cases h
  | some p =>
  obtain ⟨m, b4⟩ := p
  rw [h4] at h; simp only at h
  cases h5 : bytesP 1 b4 with
  | none => rw [h5] at h; cases h
  | some p =>
  obtain ⟨key, b5⟩ := p
  rw [h5] at h; simp only at h
  cases h6 : bytesP 2 b5 with
  | none => rw [h6] at h; cases h
  | some p =>
  obtain ⟨b, b6⟩ := p
  rw [h6] at h; simp only at h
  cases h7 : bytesP 2 b6 with
  | none => rw [h7] at h; cases h
  | some p =>
  obtain ⟨name, b7⟩ := p
  rw [h7] at h
  simp only [Option.some.injEq, Prod.mk.injEq] at h
  obtain ⟨rfl, rfl⟩ := h
  obtain ⟨e1, l1⟩ := numP_some h1
  obtain ⟨e2, l2⟩ := numP_some h2
  obtain ⟨e3, l3⟩ := numP_some h3
  obtain ⟨e4, l4⟩ := numP_some h4
  obtain ⟨e5, l5⟩ := bytesP_some h5
  obtain ⟨e6, l6⟩ := bytesP_some h6
  obtain ⟨e7, l7⟩ := bytesP_some h7
  constructor
  · simp only [Cmd.bytes, Int.toNat_natCast, List.append_assoc]
    rw [← e7, ← e6, ← e5, ← e4, ← e3, ← e2, ← e1]
  · unfold Cmd.err
    rw [if_pos (by simp only; omega), if_pos (by simp only; omega)]

theorem Cmd.bytes_length (c : Cmd) : c.bytes.length = 15 + c.key.length + c.b.length + c.name.length := by
  simp [Cmd.bytes, bytesOf_length]; omega

theorem putN_bytes (n : Int) (many : Nat) (h : many ≤ 8) (h0 : 0 ≤ n) (h1 : n < 18446744073709551616) : putN n many = bytesOf n.toNat many := by rw [putN_eq _ _ h, u64_of n h0 h1]

theorem Cmd.bytes_put (c : Cmd) (bs : List UInt8) (h : c.err = 0) :
    bs ++ putN c.kind 1 ++ putN c.a 1 ++ putN c.n 4 ++ putN c.m 4 ++ putN c.key.length 1 ++ c.key ++ putN c.b.length 2 ++ c.b ++ putN c.name.length 2 ++ c.name = bs ++ c.bytes := by
  obtain ⟨⟨h1, h2, h3, h4, h5, h6, h7, h8⟩, h9, h10, h11⟩ := c.err_zero h
  rw [putN_bytes _ 1 (by omega) h1 (by omega), putN_bytes _ 1 (by omega) h3 (by omega), putN_bytes _ 4 (by omega) h5 (by omega), putN_bytes _ 4 (by omega) h7 (by omega),
    putN_bytes _ 1 (by omega) (by omega) (by omega), putN_bytes _ 2 (by omega) (by omega) (by omega), putN_bytes _ 2 (by omega) (by omega) (by omega)]
  simp [Cmd.bytes, List.append_assoc]

/-- Commands whose bytes are few. -/
def Mild (c : Cmd) : Prop := c.key.length ≤ 2000 ∧ c.b.length ≤ 2000 ∧ c.name.length ≤ 2000
theorem outP_length : ∀ l : List Cmd, (∀ c ∈ l, Mild c) → (outP l).length ≤ l.length * 6015
  | [], _ => by simp [outP]
  | c :: r, h => by
    have h1 := outP_length r (fun d hd => h d (List.mem_cons_of_mem _ hd))
    obtain ⟨a, b, d⟩ := h c (by simp)
    rw [outP_cons, List.length_append, c.bytes_length, List.length_cons, Nat.add_mul]
    omega

theorem errP_take {l : List Cmd} {j : Nat} {c : Cmd} (h : errP (l.take j) = 0) (hj : l[j]? = some c) : errP (l.take (j + 1)) = c.err ∧ (c.err ≠ 0 → errP l = c.err) := by
  have e1 : l.take (j + 1) = l.take j ++ [c] := by rw [List.take_add_one, hj]; rfl
  have e2 : errP (l.take (j + 1)) = c.err := by
    rw [e1, errP_append, if_pos h]
    simp only [errP]
    split <;> simp_all
  refine ⟨e2, fun hc => ?_⟩
  conv => lhs; rw [← List.take_append_drop (j + 1) l]
  rw [errP_append, e2, if_neg hc]
theorem outP_take {l : List Cmd} {j : Nat} {c : Cmd} (hj : l[j]? = some c) : outP (l.take (j + 1)) = outP (l.take j) ++ c.bytes := by
  rw [List.take_add_one, hj]
  exact outP_snoc _ _

/-- All commands of bytes. -/
def parse (bs : List UInt8) : Option (List Cmd) :=
  if bs = [] then some [] else
  match opP bs with
  | none => none
  | some (c, r) => if h : r.length < bs.length then (parse r).map (c :: ·) else none
termination_by bs.length

theorem parse_nil : parse [] = some [] := by unfold parse; simp
theorem parse_none {bs : List UInt8} (hn : bs ≠ []) (h : opP bs = none) : parse bs = none := by
  unfold parse
  rw [if_neg hn, h]
theorem parse_some {bs r : List UInt8} {c : Cmd} (h : opP bs = some (c, r)) : parse bs = (parse r).map (c :: ·) := by
  obtain ⟨e, _⟩ := opP_some h
  have hl : bs.length = c.bytes.length + r.length := by rw [e]; simp
  rw [c.bytes_length] at hl
  rw [parse.eq_1 bs]
  rw [if_neg (by rintro rfl; simp at hl; omega), h]
  simp only
  rw [dif_pos (by omega)]

theorem parse_out : ∀ l : List Cmd, errP l = 0 → parse (outP l) = some l
  | [], _ => parse_nil
  | c :: l, h => by
    simp only [errP] at h
    split at h
    · rename_i hc
      rw [outP_cons, parse_some (opP_put c _ hc), parse_out l h]
      rfl
    · contradiction

theorem parse_only : ∀ (n : Nat) (bs : List UInt8) (l : List Cmd), bs.length ≤ n → parse bs = some l → errP l = 0 ∧ outP l = bs
  | n, [], l, _, h => by
    rw [parse_nil] at h
    cases h
    exact ⟨rfl, rfl⟩
  | 0, x :: bs, l, hn, h => by simp at hn
  | n + 1, x :: bs, l, hn, h => by
    cases ho : opP (x :: bs) with
    | none => rw [parse_none (by simp) ho] at h; cases h
    | some p =>
      obtain ⟨c, r⟩ := p
      rw [parse_some ho] at h
      obtain ⟨e, hc⟩ := opP_some ho
      have hl : (x :: bs).length = c.bytes.length + r.length := by rw [e]; simp
      rw [c.bytes_length] at hl
      cases hr : parse r with
      | none => rw [hr] at h; cases h
      | some m =>
        rw [hr] at h
        simp only [Option.map_some, Option.some.injEq] at h
        subst h
        obtain ⟨h1, h2⟩ := parse_only n r m (by simp at hn hl; omega) hr
        refine ⟨?_, ?_⟩
        · simp only [errP, hc, if_true]; exact h1
        · rw [outP_cons, h2, e]

/-- What is told of one command. -/
def tellB (e n : Int) (b : List UInt8) : List UInt8 := bytesOf (u64 e).toNat 1 ++ (bytesOf (u64 n).toNat 4 ++ (bytesOf b.length 4 ++ b))

end Go.Reel
