/-
  Texts of this claim, one behind the other: AesInv AdiPlain HctrPlain WidPlain.
-/
import Derived.Test.YtbpghohkhngdfaaGreatDoorM10
import Derived.Test.YtbpghohkhngdfaaGreatDoorM22
import Derived.Test.YtbpghohkhngdfaaGreatDoorM12
/-
  AES, there and back: a round and its undoing, by tables of whole columns. No program.
-/
set_option linter.unusedVariables false
namespace Go.AesI
open Go.Ops Go.Oct Go.Gf Go.Trn Go.Aes Go.Ezt

/-! Numbers of bytes. -/
def natB (f : Nat → UInt8) : Nat → Nat
  | 0 => 0
  | k + 1 => natB f k + (f k).toNat * 2 ^ (8 * k)
theorem natB_lt (f : Nat → UInt8) : ∀ k, natB f k < 2 ^ (8 * k)
  | 0 => by simp [natB]
  | k + 1 => by
    have h1 := natB_lt f k
    have h2 := (f k).toNat_lt
    unfold natB
    rw [show 8 * (k + 1) = 8 * k + 8 by omega, Nat.pow_add]
    have : (f k).toNat * 2 ^ (8 * k) ≤ 255 * 2 ^ (8 * k) := Nat.mul_le_mul_right _ (by omega)
    omega
theorem or_add {a x n : Nat} (h : a < 2 ^ n) : a ||| x * 2 ^ n = a + x * 2 ^ n := by
  have := Nat.shiftLeft_add_eq_or_of_lt h x
  rw [Nat.shiftLeft_eq] at this
  rw [Nat.or_comm, ← this, Nat.add_comm]
theorem gather_nat (f : Nat → UInt8) : ∀ k, k ≤ 8 → (gather f k).toNat = natB f k
  | 0, _ => rfl
  | k + 1, hk => by
    have ih := gather_nat f k (by omega)
    have h1 := natB_lt f k
    have h2 := (f k).toNat_lt
    unfold gather natB
    show (gather f k ||| shl64 (up8_64 (f k)) (8 * k)).toNat = _
    rw [UInt64.toNat_or, ih]
    have e1 : (up8_64 (f k)).toNat = (f k).toNat := by unfold up8_64; exact UInt64.toNat_ofNat_of_lt' (by show _ < 18446744073709551616; omega)
    have h3 : (f k).toNat * 2 ^ (8 * k) < 2 ^ 64 := by
      have h4 : (f k).toNat * 2 ^ (8 * k) ≤ 255 * 2 ^ (8 * k) := Nat.mul_le_mul_right _ (by omega)
      have h5 : (2 : Nat) ^ (8 * k) ≤ 2 ^ 56 := Nat.pow_le_pow_right (by omega) (by omega)
      have h6 : (255 : Nat) * 2 ^ 56 < 2 ^ 64 := by decide
      omega
    have e2 : (shl64 (up8_64 (f k)) (8 * k)).toNat = (f k).toNat * 2 ^ (8 * k) := by
      unfold shl64
      rw [e1]
      exact UInt64.toNat_ofNat_of_lt' h3
    rw [e2, or_add h1]
theorem natB_byte (f : Nat → UInt8) (j : Nat) : ∀ k, j < k → natB f k / 2 ^ (8 * j) % 256 = (f j).toNat
  | 0, h => by omega
  | k + 1, h => by
    unfold natB
    have h2 := (f j).toNat_lt
    by_cases e : j = k
    · subst e
      rw [Nat.add_mul_div_right _ _ (Nat.two_pow_pos _), Nat.div_eq_of_lt (natB_lt f j), Nat.zero_add]
      exact Nat.mod_eq_of_lt h2
    · have ih := natB_byte f j k (by omega)
      obtain ⟨d, hd⟩ : ∃ d, k = j + 1 + d := ⟨k - (j + 1), by omega⟩
      have e1 : (f k).toNat * 2 ^ (8 * k) = ((f k).toNat * 2 ^ (8 * d) * 256) * 2 ^ (8 * j) := by
        rw [show (2 : Nat) ^ (8 * k) = 2 ^ (8 * d) * 256 * 2 ^ (8 * j) by rw [hd, show 8 * (j + 1 + d) = 8 * d + 8 + 8 * j by omega, Nat.pow_add, Nat.pow_add]]
        simp only [Nat.mul_assoc]
      rw [e1, Nat.add_mul_div_right _ _ (Nat.two_pow_pos _), Nat.add_mul_mod_self_right, ih]

theorem toNat_lo32_8 (x : UInt32) : (lo32_8 x).toNat = x.toNat % 256 := by unfold lo32_8; exact UInt8.toNat_ofNat'
theorem toNat_shr32 (x : UInt32) (n : Nat) : (shr32 x n).toNat = x.toNat / 2 ^ n := by
  unfold shr32
  exact UInt32.toNat_ofNat_of_lt' (Nat.lt_of_le_of_lt (Nat.div_le_self _ _) x.toNat_lt)
/-- A word's byte. -/
def byteW (n : UInt32) (j : Nat) : UInt8 := lo32_8 (shr32 n (8 * j))
theorem byteW_nat (n : UInt32) (j : Nat) : (byteW n j).toNat = n.toNat / 2 ^ (8 * j) % 256 := by unfold byteW; rw [toNat_lo32_8, toNat_shr32]
theorem at8_putWord (n : UInt32) {j : Nat} (h : j < 4) : at8 (putWord n) j = byteW n j := at8_some (by simp [putWord, byteW, h])
theorem wordL_nat (b : List UInt8) (at' : Nat) : (wordL b at').toNat = natB (fun k => at8 b (at' + k)) 4 := by
  unfold wordL lo64_32
  rw [gather_nat _ _ (by omega)]
  exact UInt32.toNat_ofNat_of_lt' (natB_lt _ 4)
theorem byte_wordL (b : List UInt8) (at' : Nat) {j : Nat} (h : j < 4) : byteW (wordL b at') j = at8 b (at' + j) := by
  apply UInt8.toNat_inj.1
  rw [byteW_nat, wordL_nat, natB_byte _ j 4 h]
theorem byteW_xor (a b : UInt32) (j : Nat) : byteW (xor32 a b) j = xor8 (byteW a j) (byteW b j) := by
  apply UInt8.toNat_inj.1
  show _ = (byteW a j ^^^ byteW b j).toNat
  rw [UInt8.toNat_xor, byteW_nat, byteW_nat, byteW_nat]
  show (a ^^^ b).toNat / _ % 256 = _
  rw [UInt32.toNat_xor]
  apply Nat.eq_of_testBit_eq
  intro i
  rw [Nat.testBit_xor, show (256 : Nat) = 2 ^ 8 from rfl, Nat.testBit_mod_two_pow, Nat.testBit_mod_two_pow, Nat.testBit_mod_two_pow, Nat.testBit_div_two_pow, Nat.testBit_div_two_pow, Nat.testBit_div_two_pow, Nat.testBit_xor]
  cases decide (i < 8) <;> simp

/-! What is linear. -/
theorem xor32_comm (a b : UInt32) : xor32 a b = xor32 b a := UInt32.xor_comm a b
theorem xor32_assoc (a b c : UInt32) : xor32 (xor32 a b) c = xor32 a (xor32 b c) := UInt32.xor_assoc a b c
theorem xor32_swap (a b c d : UInt32) : xor32 (xor32 a b) (xor32 c d) = xor32 (xor32 a c) (xor32 b d) := by
  rw [xor32_assoc, ← xor32_assoc b c d, xor32_comm b c, xor32_assoc c b d, ← xor32_assoc]
instance : Std.Associative xor32 := ⟨xor32_assoc⟩
instance : Std.Commutative xor32 := ⟨xor32_comm⟩
theorem xor32_self (a : UInt32) : xor32 a a = 0 := UInt32.xor_self
theorem xor32_zero (a : UInt32) : xor32 a 0 = a := UInt32.xor_zero
theorem zero_xor32 (a : UInt32) : xor32 0 a = a := UInt32.zero_xor
def linGo (e : Nat → UInt32) (x : Nat) : Nat → UInt32
  | 0 => 0
  | k + 1 => xor32 (linGo e x k) (if x.testBit k then e k else 0)
theorem linGo_xor (e : Nat → UInt32) (x y : Nat) : ∀ k, linGo e (x ^^^ y) k = xor32 (linGo e x k) (linGo e y k)
  | 0 => (xor32_self 0).symm
  | k + 1 => by
    unfold linGo
    rw [linGo_xor e x y k, xor32_swap, Nat.testBit_xor]
    congr 1
    cases x.testBit k <;> cases y.testBit k <;> simp [xor32_self, xor32_zero, zero_xor32]
theorem lin_xor {f : UInt8 → UInt32} (h : ∀ n, n < 256 → f (UInt8.ofNat n) = linGo (fun i => f (UInt8.ofNat (2 ^ i))) n 8) (a b : UInt8) : f (xor8 a b) = xor32 (f a) (f b) := by
  have e : ∀ x : UInt8, f x = linGo (fun i => f (UInt8.ofNat (2 ^ i))) x.toNat 8 := fun x => by
    have := h x.toNat x.toNat_lt
    rwa [UInt8.ofNat_toNat] at this
  rw [e (xor8 a b), e a, e b]
  show linGo _ (a ^^^ b).toNat 8 = _
  rw [UInt8.toNat_xor, linGo_xor]

/-- What a byte brings to a column, mixed; and mixed back. -/
def mixM (r : Nat) (y : UInt8) : UInt32 := brings Trn.mixes r y
def mixA (r : Nat) (y : UInt8) : UInt32 := brings Trn.unmixes r y
theorem mixM_xor (r : Nat) (hr : r < 4) (a b : UInt8) : mixM r (xor8 a b) = xor32 (mixM r a) (mixM r b) :=
  lin_xor ((by decide +kernel : ∀ r, r < 4 → ∀ n, n < 256 → mixM r (UInt8.ofNat n) = linGo (fun i => mixM r (UInt8.ofNat (2 ^ i))) n 8) r hr) a b
theorem mixA_xor (r : Nat) (hr : r < 4) (a b : UInt8) : mixA r (xor8 a b) = xor32 (mixA r a) (mixA r b) :=
  lin_xor ((by decide +kernel : ∀ r, r < 4 → ∀ n, n < 256 → mixA r (UInt8.ofNat n) = linGo (fun i => mixA r (UInt8.ofNat (2 ^ i))) n 8) r hr) a b
def box8 (x : UInt8) : UInt8 := at8 boxes x.toNat
def unbox8 (x : UInt8) : UInt8 := at8 boxes (256 + x.toNat)
theorem unbox_box (x : UInt8) : unbox8 (box8 x) = x := all8 (p := fun x => unbox8 (box8 x) = x) (by decide +kernel) x
theorem box_unbox (x : UInt8) : box8 (unbox8 x) = x := all8 (p := fun x => box8 (unbox8 x) = x) (by decide +kernel) x
theorem at32_entries {i : Nat} (h : i < 2048) : at32 (entries boxes) i = entry boxes i := by
  unfold at32 entries
  simp [List.getD, h]
theorem tab_eq (r : Nat) (hr : r < 4) (x : UInt8) : tab r x = mixM r (box8 x) := by
  have hx := x.toNat_lt
  unfold tab
  rw [at32_entries (by omega)]
  unfold entry
  rw [if_pos (by omega), show (256 * r + x.toNat) / 256 = r by omega, show (256 * r + x.toNat) % 256 = x.toNat by omega]
  rfl
theorem untab_eq (r : Nat) (hr : r < 4) (x : UInt8) : untab r x = mixA r x := by
  have hx := x.toNat_lt
  unfold untab
  rw [at32_entries (by omega)]
  unfold entry
  rw [if_neg (by omega), show (1024 + 256 * r + x.toNat - 1024) / 256 = r by omega, show (1024 + 256 * r + x.toNat) % 256 = x.toNat by omega, UInt8.ofNat_toNat]
  rfl

/-! A column, mixed and mixed back. -/
def mixGo (f : Nat → UInt8 → UInt32) (s : List UInt8) (c : Nat) : Nat → UInt32
  | 0 => 0
  | r + 1 => xor32 (mixGo f s c r) (f r (at8 s (r + 4 * c)))
def gath (f : Nat → UInt8 → UInt32) (w : UInt32) : UInt32 := xor32 (xor32 (xor32 (xor32 0 (f 0 (byteW w 0))) (f 1 (byteW w 1))) (f 2 (byteW w 2))) (f 3 (byteW w 3))
def Add (f : Nat → UInt8 → UInt32) : Prop := ∀ r, r < 4 → ∀ a b, f r (xor8 a b) = xor32 (f r a) (f r b)
theorem addM : Add mixM := fun r hr a b => mixM_xor r hr a b
theorem addA : Add mixA := fun r hr a b => mixA_xor r hr a b
theorem gath_xor {f : Nat → UInt8 → UInt32} (h : Add f) (a b : UInt32) : gath f (xor32 a b) = xor32 (gath f a) (gath f b) := by
  unfold gath
  rw [byteW_xor, byteW_xor, byteW_xor, byteW_xor, h 0 (by omega), h 1 (by omega), h 2 (by omega), h 3 (by omega)]
  rw [zero_xor32, zero_xor32, zero_xor32]
  ac_rfl
def place (r : Nat) (y : UInt8) : UInt32 := shl32 (up8_32 y) (8 * r)
theorem gath_AM (r : Nat) (hr : r < 4) (y : UInt8) : gath mixA (mixM r y) = place r y := by
  have := (by decide +kernel : ∀ r, r < 4 → ∀ n, n < 256 → gath mixA (mixM r (UInt8.ofNat n)) = place r (UInt8.ofNat n)) r hr y.toNat y.toNat_lt
  rwa [UInt8.ofNat_toNat] at this
theorem gath_MA (r : Nat) (hr : r < 4) (y : UInt8) : gath mixM (mixA r y) = place r y := by
  have := (by decide +kernel : ∀ r, r < 4 → ∀ n, n < 256 → gath mixM (mixA r (UInt8.ofNat n)) = place r (UInt8.ofNat n)) r hr y.toNat y.toNat_lt
  rwa [UInt8.ofNat_toNat] at this
theorem byte_place (r : Nat) (hr : r < 4) (j : Nat) (hj : j < 4) (y : UInt8) : byteW (place r y) j = if j = r then y else 0 := by
  have := (by decide +kernel : ∀ r, r < 4 → ∀ j, j < 4 → ∀ n, n < 256 → byteW (place r (UInt8.ofNat n)) j = if j = r then (UInt8.ofNat n) else 0) r hr j hj y.toNat y.toNat_lt
  rwa [UInt8.ofNat_toNat] at this
def mixCols (f : Nat → UInt8 → UInt32) (s : List UInt8) : List UInt8 := (List.range 16).map fun i => byteW (mixGo f s (i / 4) 4) (i % 4)
theorem mixCols_length (f : Nat → UInt8 → UInt32) (s : List UInt8) : (mixCols f s).length = 16 := by simp [mixCols]
theorem at8_mixCols (f : Nat → UInt8 → UInt32) (s : List UInt8) {i : Nat} (h : i < 16) : at8 (mixCols f s) i = byteW (mixGo f s (i / 4) 4) (i % 4) := at8_some (by simp [mixCols, h])
theorem mixGo_cols (f g : Nat → UInt8 → UInt32) (s : List UInt8) {c : Nat} (hc : c < 4) : mixGo f (mixCols g s) c 4 = gath f (mixGo g s c 4) := by
  have e : ∀ r, r < 4 → at8 (mixCols g s) (r + 4 * c) = byteW (mixGo g s c 4) r := fun r hr => by
    rw [at8_mixCols _ _ (by omega), show (r + 4 * c) / 4 = c by omega, show (r + 4 * c) % 4 = r by omega]
  simp only [mixGo, e 0 (by omega), e 1 (by omega), e 2 (by omega), e 3 (by omega), gath]
theorem cols_back {f g : Nat → UInt8 → UInt32} (hf : Add f) (hz : gath f 0 = 0) (h : ∀ r, r < 4 → ∀ y, gath f (g r y) = place r y) {s : List UInt8} (hs : s.length = 16) : mixCols f (mixCols g s) = s := by
  refine ext16 (mixCols_length _ _) hs fun i hi => ?_
  have hc : i / 4 < 4 := by omega
  rw [at8_mixCols _ _ hi, mixGo_cols _ _ _ hc]
  have e : gath f (mixGo g s (i / 4) 4) = xor32 (xor32 (xor32 (place 0 (at8 s (0 + 4 * (i / 4)))) (place 1 (at8 s (1 + 4 * (i / 4))))) (place 2 (at8 s (2 + 4 * (i / 4))))) (place 3 (at8 s (3 + 4 * (i / 4)))) := by
    simp only [mixGo]
    rw [gath_xor hf, gath_xor hf, gath_xor hf, gath_xor hf, hz, zero_xor32, h 0 (by omega), h 1 (by omega), h 2 (by omega), h 3 (by omega)]
  rw [e, byteW_xor, byteW_xor, byteW_xor, byte_place 0 (by omega) _ (by omega), byte_place 1 (by omega) _ (by omega), byte_place 2 (by omega) _ (by omega), byte_place 3 (by omega) _ (by omega)]
  obtain h0 | h0 | h0 | h0 : i % 4 = 0 ∨ i % 4 = 1 ∨ i % 4 = 2 ∨ i % 4 = 3 := by omega
  all_goals rw [h0]; simp [zero_xor8, Ezt.xor8_zero]; congr 1; omega

/-! Rows shifted and boxed. -/
def subS (b : List UInt8) : List UInt8 := (List.range 16).map (lastAt b)
theorem subS_length (b : List UInt8) : (subS b).length = 16 := by simp [subS]
theorem at8_subS (b : List UInt8) {i : Nat} (h : i < 16) : at8 (subS b) i = box8 (at8 b (shifted (i % 4) (i / 4))) := at8_some (by simp [subS, h]; rfl)
theorem at8_unboxed (b : List UInt8) {i : Nat} (h : i < 16) : at8 (unboxed b) i = unbox8 (at8 b (i % 4 + 4 * ((i / 4 + 4 - i % 4) % 4))) := at8_some (by simp [unboxed, h]; rfl)
theorem unboxed_subS {b : List UInt8} (hb : b.length = 16) : unboxed (subS b) = b := by
  refine ext16 (unboxed_length _) hb fun i hi => ?_
  rw [at8_unboxed _ hi, at8_subS _ (by omega), unbox_box]
  congr 1
  unfold shifted
  omega
theorem subS_unboxed {b : List UInt8} (hb : b.length = 16) : subS (unboxed b) = b := by
  refine ext16 (subS_length _) hb fun i hi => ?_
  rw [at8_subS _ hi, at8_unboxed _ (by unfold shifted; omega), box_unbox]
  congr 1
  unfold shifted
  omega
theorem roundGo_eq (b key : List UInt8) {c : Nat} (hc : c < 4) : ∀ r, r ≤ 4 → roundGo b key c r = xor32 (wordL key (4 * c)) (mixGo mixM (subS b) c r)
  | 0, _ => (xor32_zero _).symm
  | r + 1, h => by
    unfold roundGo mixGo
    rw [roundGo_eq b key hc r (by omega), tab_eq r (by omega), at8_subS _ (by omega), show (r + 4 * c) % 4 = r by omega, show (r + 4 * c) / 4 = c by omega, xor32_assoc]
theorem round_eq (b key : List UInt8) : round b key = both (mixCols mixM (subS b)) key := by
  refine ext16 (round_length _ _) (both_length _ _) fun i hi => ?_
  have e : at8 (round b key) i = roundAt b key i := at8_some (by simp [round, hi])
  rw [e, at8_both _ _ _ hi, at8_mixCols _ _ hi]
  unfold roundAt
  rw [at8_putWord _ (by omega), roundGo_eq b key (by omega) 4 (by omega), byteW_xor, byte_wordL _ _ (by omega), xor8_comm]
  congr 2
  omega
theorem unroundGo_eq (b : List UInt8) (c : Nat) : ∀ r, r ≤ 4 → unroundGo b c r = mixGo mixA b c r
  | 0, _ => rfl
  | r + 1, h => by
    unfold unroundGo mixGo
    rw [unroundGo_eq b c r (by omega), untab_eq r (by omega)]
theorem unround_eq (b key : List UInt8) : unround b key = unboxed (mixCols mixA (both b key)) := by
  have e : (List.range 16).map (unroundAt (both b key)) = mixCols mixA (both b key) := by
    refine ext16 (by rw [List.length_map, List.length_range]) (mixCols_length _ _) fun i hi => ?_
    have e : at8 ((List.range 16).map (unroundAt (both b key))) i = unroundAt (both b key) i := at8_some (by rw [List.getElem?_map, List.getElem?_range hi]; rfl)
    rw [e, at8_mixCols _ _ hi]
    unfold unroundAt
    rw [at8_putWord _ (by omega), unroundGo_eq _ _ 4 (by omega)]
  show unboxed ((List.range 16).map (unroundAt (both b key))) = _
  rw [e]
theorem unround_round {b : List UInt8} (hb : b.length = 16) (key : List UInt8) : unround (round b key) key = b := by
  rw [unround_eq, round_eq, both_twice (mixCols_length _ _), cols_back addA (by decide +kernel) gath_AM (subS_length _), unboxed_subS hb]
theorem round_unround {b : List UInt8} (hb : b.length = 16) (key : List UInt8) : round (unround b key) key = b := by
  rw [round_eq, unround_eq, subS_unboxed (mixCols_length _ _), cols_back addM (by decide +kernel) gath_MA (both_length _ _), both_twice hb]
theorem last_eq (b key : List UInt8) : last b key = both (subS b) key := rfl
theorem unlast_last {b : List UInt8} (hb : b.length = 16) (key : List UInt8) : unlast (last b key) key = b := by
  unfold unlast
  rw [last_eq, both_twice (subS_length _), unboxed_subS hb]
theorem last_unlast {b : List UInt8} (hb : b.length = 16) (key : List UInt8) : last (unlast b key) key = b := by
  rw [last_eq]
  unfold unlast
  rw [subS_unboxed (both_length _ _), both_twice hb]

/-! All rounds. -/
theorem rounds_snoc (b : List UInt8) (ks : List (List UInt8)) (k : List UInt8) : rounds b (ks ++ [k]) = round (rounds b ks) k := by simp [rounds]
theorem dec_rounds (ks : List (List UInt8)) : ∀ (m : Nat) (b : List UInt8), b.length = 16 → m + 1 ≤ ks.length → decGo ks (m + 1) (rounds b ((ks.drop 1).take m)) = b
  | 0, b, hb, _ => by simp [rounds, decGo]
  | m + 1, b, hb, h => by
    have e : (ks.drop 1).take (m + 1) = (ks.drop 1).take m ++ [key ks (m + 1)] := by
      rw [List.take_add_one, List.getElem?_drop, Nat.add_comm 1 m, key_get (by omega)]
      rfl
    rw [e, rounds_snoc, decGo_step _ _ _ (by omega), show m + 1 + 1 - 1 = m + 1 by omega, unround_round (rounds_length _ _ hb), dec_rounds ks m b hb (by omega)]
theorem rounds_dec (ks : List (List UInt8)) : ∀ (m : Nat) (b : List UInt8), b.length = 16 → m + 1 ≤ ks.length → rounds (decGo ks (m + 1) b) ((ks.drop 1).take m) = b
  | 0, b, hb, _ => by simp [rounds, decGo]
  | m + 1, b, hb, h => by
    have e : (ks.drop 1).take (m + 1) = (ks.drop 1).take m ++ [key ks (m + 1)] := by
      rw [List.take_add_one, List.getElem?_drop, Nat.add_comm 1 m, key_get (by omega)]
      rfl
    rw [e, rounds_snoc, decGo_step _ _ _ (by omega), show m + 1 + 1 - 1 = m + 1 by omega, rounds_dec ks m _ (unround_length _ _) (by omega), round_unround hb]
theorem decGo_length (ks : List (List UInt8)) : ∀ (m : Nat) (b : List UInt8), b.length = 16 → (decGo ks m b).length = 16
  | 0, b, h => h
  | 1, b, h => h
  | m + 2, b, h => by
    unfold decGo
    exact decGo_length ks (m + 1) _ (unround_length _ _)
/-- WHAT IS ENCIPHERED IS DECIPHERED TO WHAT IT WAS, and the other way round. -/
theorem dec_enc {ks : List (List UInt8)} (hk : 2 ≤ ks.length) {b : List UInt8} (hb : b.length = 16) : dec ks (enc ks b) = b := by
  unfold dec enc
  rw [unlast_last (rounds_length _ _ (both_length _ _))]
  have := dec_rounds ks (ks.length - 2) (both b (key ks 0)) (both_length _ _) (by omega)
  rw [show ks.length - 2 + 1 = ks.length - 1 by omega] at this
  rw [this, both_twice hb]
theorem enc_dec {ks : List (List UInt8)} (hk : 2 ≤ ks.length) {b : List UInt8} (hb : b.length = 16) : enc ks (dec ks b) = b := by
  unfold dec enc
  rw [both_twice (decGo_length _ _ _ (unlast_length _ _))]
  have := rounds_dec ks (ks.length - 2) (unlast b (key ks (ks.length - 1))) (unlast_length _ _) (by omega)
  rw [show ks.length - 2 + 1 = ks.length - 1 by omega] at this
  rw [this, last_unlast hb]

end Go.AesI
/-
  What Adiantum computes: wide numbers, Poly1305, NH, its hash, the cipher; and that it has a way back. No program.
-/
set_option linter.unusedVariables false
namespace Go.Adi
open Go.Ops Go.Oct Go.Trn Go.Blake Go.Prime Go.Cha Go.Aes Go.AesI

/-! Numbers of 128 bits. -/
def nat (p : UInt64 × UInt64) : Nat := p.1.toNat + 18446744073709551616 * p.2.toNat
def wd (n : Nat) : UInt64 × UInt64 := (UInt64.ofNat n, UInt64.ofNat (n / 18446744073709551616))
def loadW (b : List UInt8) : UInt64 × UInt64 := (longL b 0, longL b 8)
def bytesW (p : UInt64 × UInt64) : List UInt8 := putLong p.1 ++ putLong p.2
def plusW (p q : UInt64 × UInt64) : UInt64 × UInt64 := wd (nat p + nat q)
def minusW (p q : UInt64 × UInt64) : UInt64 × UInt64 := wd (nat p + 340282366920938463463374607431768211456 - nat q)
theorem bytesW_length (p : UInt64 × UInt64) : (bytesW p).length = 16 := by simp [bytesW, putLong]
theorem nat_lt (p : UInt64 × UInt64) : nat p < 340282366920938463463374607431768211456 := by
  have h1 := p.1.toNat_lt
  have h2 := p.2.toNat_lt
  unfold nat
  omega
theorem wd_lo (n : Nat) : (wd n).1.toNat = n % 18446744073709551616 := UInt64.toNat_ofNat'
theorem wd_hi (n : Nat) : (wd n).2.toNat = n / 18446744073709551616 % 18446744073709551616 := UInt64.toNat_ofNat'
theorem nat_wd (n : Nat) : nat (wd n) = n % 340282366920938463463374607431768211456 := by
  unfold nat
  rw [wd_lo, wd_hi]
  omega
theorem wd_nat (p : UInt64 × UInt64) : wd (nat p) = p := by
  have h1 := p.1.toNat_lt
  have h2 := p.2.toNat_lt
  apply Prod.ext
  · apply UInt64.toNat_inj.1
    rw [wd_lo]
    unfold nat
    omega
  · apply UInt64.toNat_inj.1
    rw [wd_hi]
    unfold nat
    omega
theorem wd_eq {n m : Nat} (h : n % 340282366920938463463374607431768211456 = m % 340282366920938463463374607431768211456) : wd n = wd m := by
  rw [← wd_nat (wd n), ← wd_nat (wd m), nat_wd, nat_wd, h]
theorem plus_minus (p q : UInt64 × UInt64) : minusW (plusW p q) q = p := by
  have h1 := nat_lt p
  have h2 := nat_lt q
  conv => rhs; rw [← wd_nat p]
  unfold minusW plusW
  rw [nat_wd]
  apply wd_eq
  omega
theorem minus_plus (p q : UInt64 × UInt64) : plusW (minusW p q) q = p := by
  have h1 := nat_lt p
  have h2 := nat_lt q
  conv => rhs; rw [← wd_nat p]
  unfold minusW plusW
  rw [nat_wd]
  apply wd_eq
  omega
theorem natB_of (f : Nat → UInt8) (a : Nat) : ∀ k, (∀ j, j < k → (f j).toNat = a / 2 ^ (8 * j) % 256) → natB f k = a % 2 ^ (8 * k)
  | 0, _ => by simp [natB, Nat.mod_one]
  | k + 1, h => by
    unfold natB
    rw [natB_of f a k (fun j hj => h j (by omega)), h k (by omega), show 8 * (k + 1) = 8 * k + 8 by omega, Nat.pow_add, Nat.mod_mul, Nat.mul_comm (a / _ % 256)]
theorem at8_putLong (n : UInt64) {j : Nat} (h : j < 8) : at8 (putLong n) j = lo64_8 (shr64 n (8 * j)) := at8_some (by simp [putLong, h])
theorem byteL_nat (n : UInt64) (j : Nat) : (lo64_8 (shr64 n (8 * j))).toNat = n.toNat / 2 ^ (8 * j) % 256 := by
  unfold lo64_8
  rw [toNat_shr64]
  exact UInt8.toNat_ofNat'
theorem longL_nat (b : List UInt8) (at' : Nat) : (longL b at').toNat = natB (fun k => at8 b (at' + k)) 8 := gather_nat _ _ (by omega)
theorem at8_left {a b : List UInt8} {i : Nat} (h : i < a.length) : at8 (a ++ b) i = at8 a i := by simp [at8, List.getD, List.getElem?_append_left h]
theorem at8_right {a b : List UInt8} {i : Nat} : at8 (a ++ b) (a.length + i) = at8 b i := by
  simp only [at8, List.getD]
  rw [List.getElem?_append_right (by omega)]
  congr 3
  omega
theorem long_put (n : UInt64) (a b : List UInt8) : longL (a ++ putLong n ++ b) a.length = n := by
  apply UInt64.toNat_inj.1
  rw [longL_nat, natB_of _ n.toNat 8 (fun j hj => by
    rw [List.append_assoc, at8_right, at8_left (by rw [putLong_length]; exact hj), at8_putLong n hj, byteL_nat])]
  exact Nat.mod_eq_of_lt n.toNat_lt
theorem load_bytes (p : UInt64 × UInt64) : loadW (bytesW p) = p := by
  unfold loadW bytesW
  have h1 := long_put p.1 [] (putLong p.2)
  have h2 := long_put p.2 (putLong p.1) []
  rw [List.nil_append, List.length_nil] at h1
  rw [List.append_nil, putLong_length] at h2
  rw [h1, h2]
theorem putLong_longL (b : List UInt8) (at' : Nat) {j : Nat} (hj : j < 8) : at8 (putLong (longL b at')) j = at8 b (at' + j) := by
  apply UInt8.toNat_inj.1
  rw [at8_putLong _ hj, byteL_nat, longL_nat, natB_byte _ j 8 hj]
theorem bytes_load {b : List UInt8} (h : b.length = 16) : bytesW (loadW b) = b := by
  apply List.ext_getElem?
  intro i
  rcases Nat.lt_or_ge i 16 with hi | hi
  · rw [Oct.at8_get (by rw [bytesW_length]; exact hi : i < (bytesW (loadW b)).length), Oct.at8_get (by omega : i < b.length)]
    congr 1
    unfold bytesW loadW
    rcases Nat.lt_or_ge i 8 with h8 | h8
    · rw [at8_left (by rw [putLong_length]; exact h8), putLong_longL _ _ h8, Nat.zero_add]
    · obtain ⟨j, rfl⟩ : ∃ j, i = 8 + j := ⟨i - 8, by omega⟩
      have e := at8_right (a := putLong (longL b 0)) (b := putLong (longL b 8)) (i := j)
      rw [putLong_length] at e
      rw [e, putLong_longL _ _ (by omega)]
  · rw [List.getElem?_eq_none (by rw [bytesW_length]; exact hi), List.getElem?_eq_none (by omega)]

/-! Poly1305. -/
def clampAt (b : List UInt8) (i : Nat) : UInt8 := if i % 4 = 3 then and8 (at8 b i) 15 else if i % 4 = 0 ∧ i ≠ 0 then and8 (at8 b i) 252 else at8 b i
def clampB (b : List UInt8) : List UInt8 := (List.range 16).map (clampAt b)
theorem clampB_length (b : List UInt8) : (clampB b).length = 16 := by simp [clampB]
def partP (r v n : Nat) : Nat := (v + n) % PP * r % PP
def wholeN (b : List UInt8) : Nat := (leN b + 340282366920938463463374607431768211456) % PP
def lastN (b : List UInt8) : Nat := leN (b ++ [1] ++ zeros (15 - b.length)) % PP
theorem partP_lt (r v n : Nat) : partP r v n < PP := Nat.mod_lt _ (by decide)
/-- The value of the whole parts, and what is left. -/
def absorb (r v : Nat) (d : List UInt8) : Nat × List UInt8 := if h : 16 ≤ d.length then absorb r (partP r v (wholeN (d.take 16))) (d.drop 16) else (v, d)
termination_by d.length
decreasing_by simp; omega
theorem absorb_lt {r v : Nat} {d : List UInt8} (h : ¬ 16 ≤ d.length) : absorb r v d = (v, d) := by
  unfold absorb
  rw [dif_neg h]
theorem absorb_ge {r v : Nat} {d : List UInt8} (h : 16 ≤ d.length) : absorb r v d = absorb r (partP r v (wholeN (d.take 16))) (d.drop 16) := by
  conv => lhs; unfold absorb
  rw [dif_pos h]
theorem absorb_spec (r : Nat) : ∀ (n v : Nat) (d : List UInt8), d.length ≤ n → v < PP → (absorb r v d).1 < PP ∧ (absorb r v d).2.length < 16
  | n, v, d, h, hv => by
    by_cases h16 : 16 ≤ d.length
    · rw [absorb_ge h16]
      match n, h with
      | 0, h => omega
      | n + 1, h => exact absorb_spec r n _ _ (by rw [List.length_drop]; omega) (partP_lt _ _ _)
    · rw [absorb_lt h16]
      exact ⟨hv, Nat.lt_of_not_le h16⟩
def valueP (r v : Nat) (d : List UInt8) : Nat := if d.length = 0 then v else partP r v (lastN d)
theorem valueP_lt {r v : Nat} {d : List UInt8} (h : v < PP) : valueP r v d < PP := by
  unfold valueP
  split
  · exact h
  · exact partP_lt _ _ _
def rOf (key : List UInt8) : Nat := leN (clampB key) % PP
theorem rOf_lt (key : List UInt8) : rOf key < PP := Nat.mod_lt _ (by decide)

/-! NH. -/
def wordsN (key : List UInt8) : List UInt32 := (List.range 268).map fun i => wordL key (4 * i)
theorem wordsN_length (key : List UInt8) : (wordsN key).length = 268 := by simp [wordsN]
def prodN (a k b l : UInt32) : UInt64 := mul64 (up32_64 (add32 a k)) (up32_64 (add32 b l))
def unitN (ws : List UInt32) (b : List UInt8) (u p : Nat) : UInt64 :=
  add64 (prodN (wordL b (16 * u)) (at32 ws (4 * u + 4 * p)) (wordL b (16 * u + 8)) (at32 ws (4 * u + 4 * p + 2))) (prodN (wordL b (16 * u + 4)) (at32 ws (4 * u + 4 * p + 1)) (wordL b (16 * u + 12)) (at32 ws (4 * u + 4 * p + 3)))
def nhGo (ws : List UInt32) (b : List UInt8) : Nat → List UInt64
  | 0 => [0, 0, 0, 0]
  | u + 1 => (List.range 4).map fun p => add64 (at64 (nhGo ws b u) p) (unitN ws b u p)
theorem nhGo_length (ws : List UInt32) (b : List UInt8) : ∀ u, (nhGo ws b u).length = 4
  | 0 => rfl
  | u + 1 => by simp [nhGo]
def nh (ws : List UInt32) (b : List UInt8) : List UInt8 := (nhGo ws b (b.length / 16)).flatMap putLong
theorem flatMap_put_length : ∀ l : List UInt64, (l.flatMap putLong).length = 8 * l.length
  | [] => rfl
  | x :: l => by rw [List.flatMap_cons, List.length_append, flatMap_put_length l, putLong_length, List.length_cons]; omega
theorem nh_length (ws : List UInt32) (b : List UInt8) : (nh ws b).length = 32 := by
  unfold nh
  rw [flatMap_put_length, nhGo_length]

/-! Adiantum's hash. -/
def headA (kt tweak : List UInt8) (n : Nat) : UInt64 × UInt64 :=
  loadW (lowB (valueP (rOf kt) (absorb (rOf kt) (absorb (rOf kt) 0 (bytesW (wd (8 * n)))).1 ((absorb (rOf kt) 0 (bytesW (wd (8 * n)))).2 ++ tweak)).1 (absorb (rOf kt) (absorb (rOf kt) 0 (bytesW (wd (8 * n)))).1 ((absorb (rOf kt) 0 (bytesW (wd (8 * n)))).2 ++ tweak)).2))
def bodyGo (ws : List UInt32) (r v : Nat) (p d : List UInt8) : Nat × List UInt8 :=
  if h : d.length = 0 then (v, p) else bodyGo ws r (absorb r v (p ++ nh ws (d.take 1024))).1 (absorb r v (p ++ nh ws (d.take 1024))).2 (d.drop 1024)
termination_by d.length
decreasing_by simp; omega
def bodyA (km : List UInt8) (ws : List UInt32) (b : List UInt8) : UInt64 × UInt64 :=
  loadW (lowB (valueP (rOf km) (bodyGo ws (rOf km) 0 [] (padL b 16)).1 (bodyGo ws (rOf km) 0 [] (padL b 16)).2))

/-! The cipher. -/
structure AKeys where
  key : List UInt8
  ks : List (List UInt8)
  kt : List UInt8
  km : List UInt8
  ws : List UInt32
def sumA (k : AKeys) (tweak b : List UInt8) : UInt64 × UInt64 := plusW (headA k.kt tweak b.length) (bodyA k.km k.ws b)
def ownA (key : List UInt8) : List UInt8 := crypt key (1 :: zeros 23) 12 (zeros 1136)
theorem ownA_length (key : List UInt8) : (ownA key).length = 1136 := by unfold ownA; rw [crypt_length, zeros_length]
def keysA (key : List UInt8) : AKeys := ⟨key, expand 8 true ((ownA key).take 32), block ((ownA key).drop 32), block ((ownA key).drop 48), wordsN ((ownA key).drop 64)⟩
def streamA (k : AKeys) (m : UInt64 × UInt64) (b : List UInt8) : List UInt8 := crypt k.key (bytesW m ++ [1] ++ zeros 7) 12 b
theorem streamA_length (k : AKeys) (m : UInt64 × UInt64) (b : List UInt8) : (streamA k m b).length = b.length := crypt_length _ _ _ _
theorem streamA_twice (k : AKeys) (m : UInt64 × UInt64) (b : List UInt8) : streamA k m (streamA k m b) = b := crypt_twice _ _ _ _
def middleE (k : AKeys) (tweak m : List UInt8) : UInt64 × UInt64 := loadW (enc k.ks (bytesW (plusW (loadW (m.drop (m.length - 16))) (sumA k tweak (m.take (m.length - 16))))))
def encA (k : AKeys) (tweak m : List UInt8) : List UInt8 :=
  streamA k (middleE k tweak m) (m.take (m.length - 16)) ++ bytesW (minusW (middleE k tweak m) (sumA k tweak (streamA k (middleE k tweak m) (m.take (m.length - 16)))))
def middleD (k : AKeys) (tweak m : List UInt8) : UInt64 × UInt64 := plusW (loadW (m.drop (m.length - 16))) (sumA k tweak (m.take (m.length - 16)))
def decA (k : AKeys) (tweak m : List UInt8) : List UInt8 :=
  streamA k (middleD k tweak m) (m.take (m.length - 16)) ++ bytesW (minusW (loadW (dec k.ks (bytesW (middleD k tweak m)))) (sumA k tweak (streamA k (middleD k tweak m) (m.take (m.length - 16)))))
theorem encA_length (k : AKeys) (tweak : List UInt8) {m : List UInt8} (h : 16 ≤ m.length) : (encA k tweak m).length = m.length := by
  unfold encA
  rw [List.length_append, streamA_length, bytesW_length, List.length_take]
  omega
theorem decA_length (k : AKeys) (tweak : List UInt8) {m : List UInt8} (h : 16 ≤ m.length) : (decA k tweak m).length = m.length := by
  unfold decA
  rw [List.length_append, streamA_length, bytesW_length, List.length_take]
  omega
theorem take_two (a : List UInt8) (p : UInt64 × UInt64) : (a ++ bytesW p).take ((a ++ bytesW p).length - 16) = a := by
  rw [List.length_append, bytesW_length, Nat.add_sub_cancel, List.take_append_of_le_length (Nat.le_refl _), List.take_length]
theorem drop_two (a : List UInt8) (p : UInt64 × UInt64) : (a ++ bytesW p).drop ((a ++ bytesW p).length - 16) = bytesW p := by
  rw [List.length_append, bytesW_length, Nat.add_sub_cancel, List.drop_append_of_le_length (Nat.le_refl _), List.drop_length, List.nil_append]
theorem decA_encA (k : AKeys) (hk : 2 ≤ k.ks.length) (tweak : List UInt8) {m : List UInt8} (h : 16 ≤ m.length) : decA k tweak (encA k tweak m) = m := by
  have hm : middleD k tweak (encA k tweak m) = middleE k tweak m := by
    unfold middleD encA
    rw [take_two, drop_two, load_bytes, minus_plus]
  have ht : (encA k tweak m).take ((encA k tweak m).length - 16) = streamA k (middleE k tweak m) (m.take (m.length - 16)) := by
    unfold encA
    rw [take_two]
  unfold decA
  rw [hm, ht, streamA_twice]
  have h16 : (m.drop (m.length - 16)).length = 16 := by rw [List.length_drop]; omega
  have hb : bytesW (minusW (loadW (dec k.ks (bytesW (middleE k tweak m)))) (sumA k tweak (m.take (m.length - 16)))) = m.drop (m.length - 16) := by
    unfold middleE
    rw [bytes_load (enc_length _ _), dec_enc hk (bytesW_length _), load_bytes, plus_minus, bytes_load h16]
  rw [hb, List.take_append_drop]
theorem encA_decA (k : AKeys) (hk : 2 ≤ k.ks.length) (tweak : List UInt8) {m : List UInt8} (h : 16 ≤ m.length) : encA k tweak (decA k tweak m) = m := by
  have hm : middleE k tweak (decA k tweak m) = middleD k tweak m := by
    unfold middleE decA
    rw [take_two, drop_two, load_bytes, minus_plus, bytes_load (dec_length _ _), enc_dec hk (bytesW_length _), load_bytes]
  have ht : (decA k tweak m).take ((decA k tweak m).length - 16) = streamA k (middleD k tweak m) (m.take (m.length - 16)) := by
    unfold decA
    rw [take_two]
  unfold encA
  rw [hm, ht, streamA_twice]
  have h16 : (m.drop (m.length - 16)).length = 16 := by rw [List.length_drop]; omega
  have hb : bytesW (minusW (middleD k tweak m) (sumA k tweak (m.take (m.length - 16)))) = m.drop (m.length - 16) := by
    unfold middleD
    rw [plus_minus, bytes_load h16]
  rw [hb, List.take_append_drop]
theorem keysA_ks (key : List UInt8) : 2 ≤ (keysA key).ks.length := by
  show 2 ≤ (expand _ _ _).length
  rw [expand_length]
  omega
end Go.Adi
/-
  What HCTR2 computes: the ring's dots by a table, POLYVAL, XCTR, the cipher; and that it has a way back. No program.
-/
set_option linter.unusedVariables false
namespace Go.Hct
open Go.Ops Go.Oct Go.Trn Go.Aes Go.AesI Go.Adi
open Go.Ezt (plusB both_assoc both_comm zero_both both_twice at8_both xor8_twice)

/-! The ring. -/
def upR (w : UInt64 × UInt64) : UInt64 × UInt64 := (xor64 (shl64 w.1 1) (shr64 w.2 63), xor64 (xor64 (shl64 w.2 1) (shr64 w.1 63)) (mul64 (shr64 w.2 63) 13979173243358019584))
def downR (w : UInt64 × UInt64) : UInt64 × UInt64 := (xor64 (shr64 w.1 1) (shl64 w.2 63), xor64 (shr64 w.2 1) (mul64 (and64 w.1 1) 16212958658533785600))
def bitR (w : UInt64 × UInt64) (i : Nat) : UInt64 := if i < 64 then and64 (shr64 w.1 i) 1 else and64 (shr64 w.2 (i - 64)) 1
def plusR (a b : UInt64 × UInt64) (f : UInt64) : UInt64 × UInt64 := (xor64 a.1 (mul64 f b.1), xor64 a.2 (mul64 f b.2))
def dotGo (x y : UInt64 × UInt64) : Nat → UInt64 × UInt64
  | 0 => (0, 0)
  | i + 1 => downR (plusR (dotGo x y i) x (bitR y i))
def dotR (x y : UInt64 × UInt64) : UInt64 × UInt64 := dotGo x y 128
def oneAt (h : List UInt8) : Nat → UInt64 × UInt64
  | 0 => dotR (loadW h) (1, 0)
  | k + 1 => upR (oneAt h k)
def atP (t : List (UInt64 × UInt64)) (i : Nat) : UInt64 × UInt64 := t.getD i (0, 0)
/-- The table behind so many entries. -/
def tabGo (h : List UInt8) : Nat → List (UInt64 × UInt64)
  | 0 => List.replicate 16 (0, 0)
  | m + 1 => (tabGo h m).set (m + 1) (plusR (atP (tabGo h m) (m + 1 - 2 ^ (m + 1).log2)) (oneAt h (m + 1).log2) 1)
def tabR (h : List UInt8) : List (UInt64 × UInt64) := tabGo h 15
theorem tabGo_length (h : List UInt8) : ∀ m, (tabGo h m).length = 16
  | 0 => by simp [tabGo]
  | m + 1 => by rw [tabGo, List.length_set, tabGo_length h m]
def nibR (t : List (UInt64 × UInt64)) (s : UInt64 × UInt64) (n : UInt8) : UInt64 × UInt64 := plusR (upR (upR (upR (upR s)))) (atP t n.toNat) 1
def dotTGo (t : List (UInt64 × UInt64)) (a : List UInt8) : Nat → UInt64 × UInt64
  | 0 => (0, 0)
  | i + 1 => nibR t (nibR t (dotTGo t a i) (shr8 (at8 a (15 - i)) 4)) (and8 (at8 a (15 - i)) 15)
def dotT (t : List (UInt64 × UInt64)) (a : List UInt8) : List UInt8 := bytesW (dotTGo t a 16)
theorem dotT_length (t : List (UInt64 × UInt64)) (a : List UInt8) : (dotT t a).length = 16 := bytesW_length _

/-! POLYVAL. -/
def valGo (t : List (UInt64 × UInt64)) (v b : List UInt8) : List UInt8 := if h : b.length = 0 then v else valGo t (dotT t (block (xorL v b))) (b.drop 16)
termination_by b.length
decreasing_by simp; omega
theorem valGo_nil (t : List (UInt64 × UInt64)) (v : List UInt8) : valGo t v [] = v := by unfold valGo; simp
theorem valGo_step {t : List (UInt64 × UInt64)} {v b : List UInt8} (h : b.length ≠ 0) : valGo t v b = valGo t (dotT t (block (xorL v b))) (b.drop 16) := by
  conv => lhs; unfold valGo
  rw [dif_neg h]
theorem valGo_length (t : List (UInt64 × UInt64)) : ∀ (n : Nat) (v b : List UInt8), b.length ≤ n → v.length = 16 → (valGo t v b).length = 16
  | n, v, b, h, hv => by
    by_cases h0 : b.length = 0
    · rw [List.eq_nil_of_length_eq_zero h0, valGo_nil]; exact hv
    · rw [valGo_step h0]
      match n, h with
      | 0, h => omega
      | n + 1, h => exact valGo_length t n _ _ (by rw [List.length_drop]; omega) (dotT_length _ _)
def lengthV (n : Nat) (kind : UInt64) : List UInt8 := bytesW (or64 (shl64 (UInt64.ofNat n) 4) kind, shr64 (UInt64.ofNat n) 60)
def encodeV (tweak m : List UInt8) : List UInt8 := if m.length % 16 = 0 then lengthV tweak.length 2 ++ padL tweak 16 ++ m else lengthV tweak.length 3 ++ padL tweak 16 ++ markL m 1 16
def hashV (h tweak m : List UInt8) : List UInt8 := valGo (tabR h) (zeros 16) (padL (encodeV tweak m) 16)
theorem hashV_length (h tweak m : List UInt8) : (hashV h tweak m).length = 16 := valGo_length _ _ _ _ (Nat.le_refl _) (zeros_length 16)

/-! XCTR. -/
def startX (start : List UInt8) (i : Nat) : List UInt8 := (List.range 16).map fun j => if j < 8 then xor8 (at8 start j) (at8 (putLong (UInt64.ofNat i)) j) else at8 start j
theorem startX_length (start : List UInt8) (i : Nat) : (startX start i).length = 16 := by simp [startX]
def blockX (ks : List (List UInt8)) (start : List UInt8) (i : Nat) : List UInt8 := enc ks (startX start i)
theorem blockX_length (ks : List (List UInt8)) (start : List UInt8) (i : Nat) : (blockX ks start i).length = 16 := enc_length _ _
def cryptX (ks : List (List UInt8)) (start b : List UInt8) : List UInt8 := (List.range b.length).map fun j => xor8 (at8 b j) (at8 (blockX ks start (1 + j / 16)) (j % 16))
theorem cryptX_length (ks : List (List UInt8)) (start b : List UInt8) : (cryptX ks start b).length = b.length := by simp [cryptX]
theorem cryptX_twice (ks : List (List UInt8)) (start b : List UInt8) : cryptX ks start (cryptX ks start b) = b := by
  apply List.ext_getElem?
  intro i
  by_cases h : i < b.length
  · have h1 : (cryptX ks start b)[i]? = some (xor8 (at8 b i) (at8 (blockX ks start (1 + i / 16)) (i % 16))) := by simp [cryptX, h]
    have h2 : (cryptX ks start (cryptX ks start b))[i]? = some (xor8 (at8 (cryptX ks start b) i) (at8 (blockX ks start (1 + i / 16)) (i % 16))) := by
      conv => lhs; unfold cryptX
      rw [List.getElem?_map, List.getElem?_range (by simp [h])]
      rfl
    rw [h2, Oct.at8_some h1, xor8_twice, Oct.at8_get h]
  · rw [List.getElem?_eq_none (by rw [cryptX_length, cryptX_length]; omega), List.getElem?_eq_none (by omega)]

/-! The cipher. -/
structure HKeys where
  ks : List (List UInt8)
  h : List UInt8
  l : List UInt8
def keysH (n : Nat) (long : Bool) (key : List UInt8) : HKeys := ⟨expand n long key, enc (expand n long key) (zeros 16), enc (expand n long key) (1 :: zeros 15)⟩
theorem plusB_two (a b : List UInt8) (h : a.length = 16) : plusB [a, b] = both a b := by
  show both (both (zeros 16) a) b = _
  rw [zero_both h]
theorem plusB_swap (a b l : List UInt8) : plusB [a, b, l] = plusB [b, a, l] := by
  show both (both (both (zeros 16) a) b) l = both (both (both (zeros 16) b) a) l
  rw [both_assoc (zeros 16) a b, both_comm a b, ← both_assoc]
def oneH (k : HKeys) (tweak m : List UInt8) : List UInt8 := plusB [block (m.take 16), hashV k.h tweak (m.drop 16)]
def doesH (k : HKeys) (tweak m two : List UInt8) : List UInt8 :=
  plusB [two, hashV k.h tweak (cryptX k.ks (plusB [oneH k tweak m, two, k.l]) (m.drop 16))] ++ cryptX k.ks (plusB [oneH k tweak m, two, k.l]) (m.drop 16)
def encH (k : HKeys) (tweak m : List UInt8) : List UInt8 := doesH k tweak m (enc k.ks (oneH k tweak m))
def decH (k : HKeys) (tweak m : List UInt8) : List UInt8 := doesH k tweak m (dec k.ks (oneH k tweak m))
theorem plusB_length (a b : List UInt8) : (plusB [a, b]).length = 16 := both_length _ _
theorem oneH_length (k : HKeys) (tweak m : List UInt8) : (oneH k tweak m).length = 16 := plusB_length _ _
theorem doesH_length (k : HKeys) (tweak m two : List UInt8) (h : 16 ≤ m.length) : (doesH k tweak m two).length = m.length := by
  unfold doesH
  rw [List.length_append, plusB_length, cryptX_length, List.length_drop]
  omega
theorem encH_length (k : HKeys) (tweak m : List UInt8) (h : 16 ≤ m.length) : (encH k tweak m).length = m.length := doesH_length _ _ _ _ h
theorem decH_length (k : HKeys) (tweak m : List UInt8) (h : 16 ≤ m.length) : (decH k tweak m).length = m.length := doesH_length _ _ _ _ h
theorem block_id {b : List UInt8} (h : b.length = 16) : block b = b := by
  apply List.ext_getElem?
  intro i
  by_cases hi : i < 16
  · rw [Oct.at8_get (by omega : i < b.length)]
    simp [block, hi]
  · rw [List.getElem?_eq_none (by rw [block_length]; omega), List.getElem?_eq_none (by omega)]
theorem does_back (k : HKeys) (tweak m two : List UInt8) (h : 16 ≤ m.length) (h2 : two.length = 16) :
    oneH k tweak (doesH k tweak m two) = two ∧ doesH k tweak (doesH k tweak m two) (oneH k tweak m) = m := by
  have hd : (doesH k tweak m two).drop 16 = cryptX k.ks (plusB [oneH k tweak m, two, k.l]) (m.drop 16) := by
    unfold doesH
    rw [List.drop_append_of_le_length (by rw [plusB_length]; omega), List.drop_eq_nil_of_le (by rw [plusB_length]; omega), List.nil_append]
  have ht : (doesH k tweak m two).take 16 = plusB [two, hashV k.h tweak (cryptX k.ks (plusB [oneH k tweak m, two, k.l]) (m.drop 16))] := by
    unfold doesH
    rw [List.take_append_of_le_length (by rw [plusB_length]; omega), List.take_of_length_le (by rw [plusB_length]; omega)]
  have ho : oneH k tweak (doesH k tweak m two) = two := by
    unfold oneH
    rw [ht, hd, block_id (plusB_length _ _), plusB_two _ _ (plusB_length _ _), plusB_two _ _ h2, both_twice h2]
  refine ⟨ho, ?_⟩
  have hb : block (m.take 16) = m.take 16 := block_id (by rw [List.length_take]; omega)
  have h1 : oneH k tweak m = both (m.take 16) (hashV k.h tweak (m.drop 16)) := by
    unfold oneH
    rw [hb, plusB_two _ _ (by rw [List.length_take]; omega)]
  generalize doesH k tweak m two = z at *
  unfold doesH
  rw [ho, hd, plusB_swap two, cryptX_twice, plusB_two _ _ (oneH_length _ _ _), h1, both_twice (by rw [List.length_take]; omega), List.take_append_drop]
theorem decH_encH (k : HKeys) (hk : 2 ≤ k.ks.length) (tweak : List UInt8) {m : List UInt8} (h : 16 ≤ m.length) : decH k tweak (encH k tweak m) = m := by
  obtain ⟨h1, h2⟩ := does_back k tweak m (enc k.ks (oneH k tweak m)) h (enc_length _ _)
  unfold decH encH
  rw [h1, dec_enc hk (oneH_length _ _ _), h2]
theorem encH_decH (k : HKeys) (hk : 2 ≤ k.ks.length) (tweak : List UInt8) {m : List UInt8} (h : 16 ≤ m.length) : encH k tweak (decH k tweak m) = m := by
  obtain ⟨h1, h2⟩ := does_back k tweak m (dec k.ks (oneH k tweak m)) h (dec_length _ _)
  unfold decH encH
  rw [h1, enc_dec hk (oneH_length _ _ _), h2]
end Go.Hct
/-
  What a cipher of any of the three schemes computes, and that it has a way back. No program.
-/
set_option linter.unusedVariables false
namespace Go.Wid
open Go.Ops Go.Oct Go.Aes Go.Ezk Go.Aez Go.Adi Go.Hct

inductive CKey where
  | adi (k : AKeys)
  | hct (k : HKeys)
  | aez (k : Parts)
def CKey.alg : CKey → Nat
  | .adi _ => 1
  | .hct _ => 2
  | .aez _ => 3
def CKey.least : CKey → Nat
  | .adi _ => 16
  | .hct _ => 16
  | .aez _ => 1
def CKey.Fit : CKey → Prop
  | .adi k => 2 ≤ k.ks.length
  | .hct k => 2 ≤ k.ks.length
  | .aez _ => True
def turnG (k : CKey) (tweak m : List UInt8) (back : Bool) : List UInt8 :=
  match k with
  | .adi k => if back then decA k tweak m else encA k tweak m
  | .hct k => if back then decH k tweak m else encH k tweak m
  | .aez k => rowA k [tweak] m back
theorem turnG_length {k : CKey} (tweak : List UInt8) {m : List UInt8} (back : Bool) (h : k.least ≤ m.length) : (turnG k tweak m back).length = m.length := by
  cases k with
  | adi k => cases back; exact encA_length _ _ h; exact decA_length _ _ h
  | hct k => cases back; exact encH_length _ _ _ h; exact decH_length _ _ _ h
  | aez k => exact rowA_length _ _ _ _
theorem turnG_back {k : CKey} (hk : k.Fit) (tweak : List UInt8) {m : List UInt8} (back : Bool) (h : k.least ≤ m.length) : turnG k tweak (turnG k tweak m back) (!back) = m := by
  cases k with
  | adi k => cases back; exact decA_encA _ hk _ h; exact encA_decA _ hk _ h
  | hct k => cases back; exact decH_encH _ hk _ h; exact encH_decH _ hk _ h
  | aez k => exact rowA_back _ _ _ _
theorem turnG_inj {k : CKey} (hk : k.Fit) (tweak : List UInt8) {m n : List UInt8} (back : Bool) (h : k.least ≤ m.length) (h2 : k.least ≤ n.length) : (turnG k tweak m back = turnG k tweak n back) ↔ m = n :=
  ⟨fun e => by rw [← turnG_back hk tweak back h, e, turnG_back hk tweak back h2], fun e => by rw [e]⟩

/-- An error's number of a scheme and a key's length; 0: it may be. -/
def wrongG (alg : Int) (n : Nat) : Nat :=
  if alg = 1 then (if n = 32 then 0 else 2)
  else if alg = 2 then (if n = 16 ∨ n = 24 ∨ n = 32 then 0 else 2)
  else if alg = 3 then (if 0 < n ∧ n ≤ 128 then 0 else 2)
  else 8
def keyG (alg : Int) (key : List UInt8) : CKey :=
  if alg = 1 then .adi (keysA key) else if alg = 2 then .hct (keysH (key.length / 4) (key.length == 32) key) else .aez (keyParts key)
theorem keyG_fit (alg : Int) (key : List UInt8) : (keyG alg key).Fit := by
  unfold keyG
  split
  · exact keysA_ks key
  · split
    · show 2 ≤ (expand _ _ _).length
      rw [expand_length]
      omega
    · trivial
def leastG (alg : Int) : Nat := if alg = 3 then 1 else 16
theorem keyG_least {alg : Int} {key : List UInt8} (h : wrongG alg key.length = 0) : (keyG alg key).least = leastG alg := by
  unfold keyG leastG
  by_cases h1 : alg = 1
  · subst h1; rfl
  · by_cases h2 : alg = 2
    · subst h2; rfl
    · by_cases h3 : alg = 3
      · subst h3; rfl
      · unfold wrongG at h
        rw [if_neg h1, if_neg h2, if_neg h3] at h
        omega
end Go.Wid
