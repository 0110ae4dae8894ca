/-
  Texts of this claim, one behind the other: GfPlain TurnPlain AesPlain RingPlain OctA RegionR Kind0.
-/
import Derived.Test.YtnkaodjfjllkfaaGreatDoorM1
import Derived.Test.YtnkaodjfjllkfaaGreatDoorRows
import Derived.OrdersHeld
import Derived.Deep.RegionHeld3
import Derived.WalkKit
import Derived.Deep.QuietTactic
import Derived.BigQuiet
/-
  What gf's functions compute. No program.
-/
namespace Go.Gf
open Go.Ops Go.Oct

def dbl (a : UInt8) : UInt8 := xor8 (shl8 a 1) (mul8 (shr8 a 7) 27)
def timesGo : Nat → UInt8 → UInt8 → UInt8 → UInt8
  | 0, _, _, s => s
  | n + 1, a, b, s => if b = 0 then s else timesGo n (dbl a) (shr8 b 1) (xor8 s (mul8 a (and8 b 1)))
def times (a b : UInt8) : UInt8 := timesGo 8 a b 0

theorem timesGo_zero (n : Nat) (a s : UInt8) : timesGo n a 0 s = s := by
  cases n <;> simp [timesGo]

theorem shr8_lt (b : UInt8) (k : Nat) (h : b.toNat < 2 ^ (k + 1)) : (shr8 b 1).toNat < 2 ^ k := by
  have := lt8 b
  unfold shr8
  rw [UInt8.toNat_ofNat_of_lt' (by show _ < 256; omega)]
  rw [Nat.pow_succ] at h
  omega

theorem zero_of_toNat {b : UInt8} (h : b.toNat = 0) : b = 0 := UInt8.toNat_inj.1 (by simpa using h)

def rot8 (x : UInt8) (k : Nat) : UInt8 := or8 (shl8 x k) (shr8 x (8 - k))
def boxGo (i : UInt8) : Nat → UInt8
  | 0 => 99
  | k + 1 => xor8 (boxGo i k) (rot8 i k)
def box (i : UInt8) : UInt8 := boxGo i 5
def putL (l : List UInt8) (a b : UInt8) : List UInt8 := (l.set a.toNat b).set (256 + b.toNat) a
def powGo : Nat → UInt8
  | 0 => 1
  | k + 1 => xor8 (powGo k) (dbl (powGo k))
def makeGo : Nat → List UInt8
  | 0 => putL (zeros 512) 0 (box 0)
  | k + 1 => putL (makeGo k) (powGo k) (box (powGo ((255 - k) % 255)))
/-- Both boxes: there, and back. -/
def boxes : List UInt8 := makeGo 255

theorem putL_length (l : List UInt8) (a b : UInt8) : (putL l a b).length = l.length := by simp [putL]
theorem makeGo_length (k : Nat) : (makeGo k).length = 512 := by
  induction k with
  | zero => rw [makeGo, putL_length, zeros_length]
  | succ k ih => rw [makeGo, putL_length, ih]
theorem boxes_length : boxes.length = 512 := makeGo_length 255

end Go.Gf
/-
  What turn's functions compute. No program.
-/
namespace Go.Trn
open Go.Ops Go.Oct Go.Gf

def at32 (l : List UInt32) (i : Nat) : UInt32 := l.getD i 0
theorem at32_get {l : List UInt32} {i : Nat} (h : i < l.length) : l[i]? = some (at32 l i) := by simp [at32, List.getD, h]

def mixes : List UInt8 := [2, 3, 1, 1]
def unmixes : List UInt8 := [14, 11, 13, 9]
def bringsGo (by' : List UInt8) (row : Nat) (a : UInt8) : Nat → UInt32
  | 0 => 0
  | r + 1 => or32 (bringsGo by' row a r) (shl32 (up8_32 (times (at8 by' ((row + 4 - r) % 4)) a)) (8 * r))
def brings (by' : List UInt8) (row : Nat) (a : UInt8) : UInt32 := bringsGo by' row a 4
def shifted (row column : Nat) : Nat := row + 4 * ((column + row) % 4)
/-- The exclusive or of two blocks. -/
def both (a b : List UInt8) : List UInt8 := (List.range 16).map fun i => xor8 (at8 a i) (at8 b i)

/-- A table's entry: mixed of the box of a byte, or mixed back of the byte. -/
def entry (T : List UInt8) (i : Nat) : UInt32 :=
  if i < 1024 then brings mixes (i / 256) (at8 T (i % 256)) else brings unmixes ((i - 1024) / 256) (UInt8.ofNat (i % 256))
def entries (T : List UInt8) : List UInt32 := (List.range 2048).map (entry T)
/-- The first k entries of both halves are laid. -/
def Laid (T : List UInt8) (k : Nat) (l : List UInt32) : Prop := l.length = 2048 ∧ ∀ i, i < k → l[i]? = some (entry T i) ∧ l[1024 + i]? = some (entry T (1024 + i))

theorem Laid.zero {T : List UInt8} {l : List UInt32} (h : l.length = 2048) : Laid T 0 l := ⟨h, fun i hi => absurd hi (by omega)⟩
theorem Laid.step {T : List UInt8} {k : Nat} {l : List UInt32} (h : Laid T k l) (hk : k < 1024) : Laid T (k + 1) ((l.set k (entry T k)).set (1024 + k) (entry T (1024 + k))) := by
  refine ⟨by simpa using h.1, fun i hi => ?_⟩
  have hl := h.1
  by_cases e : i = k
  · subst e
    constructor
    · rw [List.getElem?_set_ne (by omega), List.getElem?_set_self (by omega)]
    · rw [List.getElem?_set_self (by rw [List.length_set]; omega)]
  · obtain ⟨h1, h2⟩ := h.2 i (by omega)
    constructor
    · rw [List.getElem?_set_ne (by omega), List.getElem?_set_ne (by omega)]; exact h1
    · rw [List.getElem?_set_ne (by omega), List.getElem?_set_ne (by omega)]; exact h2
theorem Laid.all {T : List UInt8} {l : List UInt32} (h : Laid T 1024 l) : l = entries T := by
  apply List.ext_getElem?
  intro i
  by_cases hi : i < 1024
  · rw [(h.2 i hi).1]; simp [entries, show i < 2048 by omega]
  · by_cases hi2 : i < 2048
    · have := (h.2 (i - 1024) (by omega)).2
      rw [show 1024 + (i - 1024) = i by omega] at this
      rw [this]; simp [entries, hi2]
    · rw [List.getElem?_eq_none (by have := h.1; omega), List.getElem?_eq_none (by simp [entries]; omega)]
theorem entries_length (T : List UInt8) : (entries T).length = 2048 := by simp [entries]
theorem Laid.at {T : List UInt8} {k : Nat} {l : List UInt32} (h : Laid T k l) {i : Nat} (hi : i < 2048) : ∃ x, l[i]? = some x := ⟨l[i]'(by have := h.1; omega), by simp⟩

def tab (r : Nat) (x : UInt8) : UInt32 := at32 (entries boxes) (256 * r + x.toNat)
def untab (r : Nat) (x : UInt8) : UInt32 := at32 (entries boxes) (1024 + 256 * r + x.toNat)
def roundGo (b key : List UInt8) (c : Nat) : Nat → UInt32
  | 0 => wordL key (4 * c)
  | r + 1 => xor32 (roundGo b key c r) (tab r (at8 b (shifted r c)))
def roundAt (b key : List UInt8) (i : Nat) : UInt8 := at8 (putWord (roundGo b key (i / 4) 4)) (i % 4)
def round (b key : List UInt8) : List UInt8 := (List.range 16).map (roundAt b key)
theorem roundAt_at (b key : List UInt8) (k j : Nat) (hj : j < 4) : (putWord (roundGo b key k 4))[j]? = some (roundAt b key (4 * k + j)) := by
  unfold roundAt
  rw [show (4 * k + j) / 4 = k by omega, show (4 * k + j) % 4 = j by omega]
  exact at8_get (by rw [putWord_length]; exact hj)
def lastAt (b : List UInt8) (i : Nat) : UInt8 := at8 boxes (at8 b (shifted (i % 4) (i / 4))).toNat
def last (b key : List UInt8) : List UInt8 := both ((List.range 16).map (lastAt b)) key
def unboxedAt (b : List UInt8) (i : Nat) : UInt8 := at8 boxes (256 + (at8 b (i % 4 + 4 * ((i / 4 + 4 - i % 4) % 4))).toNat)
def unboxed (b : List UInt8) : List UInt8 := (List.range 16).map (unboxedAt b)
def unroundGo (b : List UInt8) (c : Nat) : Nat → UInt32
  | 0 => 0
  | r + 1 => xor32 (unroundGo b c r) (untab r (at8 b (r + 4 * c)))
def unroundAt (b : List UInt8) (i : Nat) : UInt8 := at8 (putWord (unroundGo b (i / 4) 4)) (i % 4)
theorem unroundAt_at (b : List UInt8) (k j : Nat) (hj : j < 4) : (putWord (unroundGo b k 4))[j]? = some (unroundAt b (4 * k + j)) := by
  unfold unroundAt
  rw [show (4 * k + j) / 4 = k by omega, show (4 * k + j) % 4 = j by omega]
  exact at8_get (by rw [putWord_length]; exact hj)
def unround (b key : List UInt8) : List UInt8 := unboxed ((List.range 16).map (unroundAt (both b key)))
def unlast (b key : List UInt8) : List UInt8 := unboxed (both b key)
def rounds (b : List UInt8) (keys : List (List UInt8)) : List UInt8 := keys.foldl round b

theorem both_length (a b : List UInt8) : (both a b).length = 16 := by simp [both]
theorem round_length (b key : List UInt8) : (round b key).length = 16 := by simp [round]
theorem last_length (b key : List UInt8) : (last b key).length = 16 := by simp [last, both]
theorem unboxed_length (b : List UInt8) : (unboxed b).length = 16 := by simp [unboxed]
theorem unround_length (b key : List UInt8) : (unround b key).length = 16 := by simp [unround, unboxed]
theorem unlast_length (b key : List UInt8) : (unlast b key).length = 16 := by simp [unlast, unboxed]

end Go.Trn
/-
  What aes's functions compute. No program.
-/
set_option linter.unusedVariables false
namespace Go.Aes
open Go.Ops Go.Oct Go.Gf Go.Trn

def subW (w : List UInt8) : List UInt8 := (List.range 4).map fun i => at8 boxes (at8 w i).toNat
def plusW (a b : List UInt8) : List UInt8 := (List.range 4).map fun i => xor8 (at8 a i) (at8 b i)
theorem subW_length (w : List UInt8) : (subW w).length = 4 := by simp [subW]
theorem plusW_length (a b : List UInt8) : (plusW a b).length = 4 := by simp [plusW]

theorem block_xor (a b : List UInt8) (ha : a.length = 16) (hb : b.length = 16) : block (xorL a b) = both a b := by
  apply List.ext_getElem?
  intro i
  by_cases hi : i < 16
  · have h : (xorL a b)[i]? = some (xor8 (at8 a i) (at8 b i)) := by simp [xorL, ha, hb, hi]
    simp only [block, both, List.getElem?_map, List.getElem?_range, hi]
    simp [at8_some h]
  · rw [List.getElem?_eq_none (by rw [block_length]; omega), List.getElem?_eq_none (by rw [both_length]; omega)]

def key (ks : List (List UInt8)) (i : Nat) : List UInt8 := ks.getD i []
theorem key_get {ks : List (List UInt8)} {i : Nat} (h : i < ks.length) : ks[i]? = some (key ks i) := by simp [key, List.getD, h]
/-- A block enciphered, and deciphered, by round keys. -/
def enc (ks : List (List UInt8)) (b : List UInt8) : List UInt8 := last (rounds (both b (key ks 0)) ((ks.drop 1).take (ks.length - 2))) (key ks (ks.length - 1))
def decGo (ks : List (List UInt8)) : Nat → List UInt8 → List UInt8
  | 0, b => b
  | 1, b => b
  | i + 2, b => decGo ks (i + 1) (unround b (key ks (i + 1)))
theorem decGo_step (ks : List (List UInt8)) (i : Nat) (b : List UInt8) (h : 1 < i) : decGo ks i b = decGo ks (i - 1) (unround b (key ks (i - 1))) := by
  obtain ⟨m, rfl⟩ : ∃ m, i = m + 2 := ⟨i - 2, by omega⟩
  rfl
theorem decGo_one (ks : List (List UInt8)) (b : List UInt8) : decGo ks 1 b = b := rfl
def dec (ks : List (List UInt8)) (b : List UInt8) : List UInt8 := both (decGo ks (ks.length - 1) (unlast b (key ks (ks.length - 1)))) (key ks 0)
theorem enc_length (ks : List (List UInt8)) (b : List UInt8) : (enc ks b).length = 16 := last_length _ _
theorem dec_length (ks : List (List UInt8)) (b : List UInt8) : (dec ks b).length = 16 := both_length _ _
theorem rounds_length : ∀ (ks : List (List UInt8)) (b : List UInt8), b.length = 16 → (rounds b ks).length = 16
  | [], b, h => h
  | k :: r, b, _ => rounds_length r (round b k) (round_length b k)

/-- A word that is made out of the last one. -/
def turned (n : Nat) (long : Bool) (m : Nat) (w : List UInt8) (power : UInt8) : List UInt8 :=
  if m % n = 0 then (subW [at8 w 1, at8 w 2, at8 w 3, at8 w 0]).set 0 (xor8 (at8 (subW [at8 w 1, at8 w 2, at8 w 3, at8 w 0]) 0) power)
  else if long = true ∧ m % n = 4 then subW w else w
def expStep (n : Nat) (long : Bool) (st : List (List UInt8) × UInt8) : List (List UInt8) × UInt8 :=
  (st.1 ++ [plusW (key st.1 (st.1.length - n)) (turned n long st.1.length (key st.1 (st.1.length - 1)) st.2)], if st.1.length % n = 0 then dbl st.2 else st.2)
def expStart (n : Nat) (k : List UInt8) : List (List UInt8) := (List.range n).map fun i => putWord (wordL k (4 * i))
def expGo (n : Nat) (long : Bool) (k : List UInt8) : Nat → List (List UInt8) × UInt8
  | 0 => (expStart n k, 1)
  | i + 1 => expStep n long (expGo n long k i)
def expWords (n : Nat) (long : Bool) (k : List UInt8) : List (List UInt8) := (expGo n long k (4 * (n + 7) - n)).1
/-- A key's round keys. -/
def expand (n : Nat) (long : Bool) (k : List UInt8) : List (List UInt8) := (List.range (n + 7)).map fun i => (((expWords n long k).drop (4 * i)).take 4).flatten

theorem turned_length (n : Nat) (long : Bool) (m : Nat) (w : List UInt8) (power : UInt8) (h : w.length = 4) : (turned n long m w power).length = 4 := by
  unfold turned
  split
  · rw [List.length_set, subW_length]
  · split
    · exact subW_length _
    · exact h
theorem expGo_length (n : Nat) (long : Bool) (k : List UInt8) : ∀ i, (expGo n long k i).1.length = n + i
  | 0 => by simp [expGo, expStart]
  | i + 1 => by simp [expGo, expStep, expGo_length n long k i]; omega
theorem expGo_each (n : Nat) (long : Bool) (k : List UInt8) : ∀ i, ∀ x ∈ (expGo n long k i).1, x.length = 4
  | 0, x, h => by
    simp [expGo, expStart] at h
    obtain ⟨j, _, rfl⟩ := h
    exact putWord_length _
  | i + 1, x, h => by
    rw [expGo, expStep, List.mem_append] at h
    rcases h with h | h
    · exact expGo_each n long k i x h
    · simp at h; subst h; exact plusW_length _ _
theorem expWords_length (n : Nat) (long : Bool) (k : List UInt8) : (expWords n long k).length = 4 * (n + 7) := by
  unfold expWords; rw [expGo_length]; omega
theorem expWords_each (n : Nat) (long : Bool) (k : List UInt8) : ∀ x ∈ expWords n long k, x.length = 4 := expGo_each n long k _
theorem expand_length (n : Nat) (long : Bool) (k : List UInt8) : (expand n long k).length = n + 7 := by simp [expand]

end Go.Aes
/-
  What ring's functions compute. No program.
-/
set_option linter.unusedVariables false
namespace Go.Ring
open Go.Ops Go.Oct Go.Gf Go.Trn Go.Aes

def dblAt (a : List UInt8) (i : Nat) : UInt8 := if i < 15 then or8 (shl8 (at8 a i) 1) (shr8 (at8 a (i + 1)) 7) else xor8 (shl8 (at8 a 15) 1) (mul8 (shr8 (at8 a 0) 7) 135)
def dbl16 (a : List UInt8) : List UInt8 := (List.range 16).map (dblAt a)
theorem dbl16_length (a : List UInt8) : (dbl16 a).length = 16 := by simp [dbl16]
def sum16 (a b : List UInt8) (wanted : Bool) : List UInt8 := if wanted = true then both a b else a
theorem sum16_length (a b : List UInt8) (wanted : Bool) (h : a.length = 16) : (sum16 a b wanted).length = 16 := by unfold sum16; split; exact both_length _ _; exact h
def mulGo : Nat → UInt64 → List UInt8 → List UInt8 → List UInt8
  | 0, _, out, _ => out
  | k + 1, n, out, a => if n.toNat = 0 then out else mulGo k (shr64 n 1) (sum16 out a (((and64 n 1).toNat : Int) == 1)) (dbl16 a)
def multiple (n : UInt64) (a : List UInt8) : List UInt8 := mulGo 64 n (zeros 16) a
theorem mulGo_length : ∀ (k : Nat) (n : UInt64) (out a : List UInt8), out.length = 16 → (mulGo k n out a).length = 16
  | 0, _, _, _, h => h
  | k + 1, n, out, a, h => by
    unfold mulGo
    split
    · exact h
    · exact mulGo_length k _ _ _ (sum16_length _ _ _ h)
theorem multiple_length (n : UInt64) (a : List UInt8) : (multiple n a).length = 16 := mulGo_length _ _ _ _ (zeros_length 16)
def raiseGo : Nat → List UInt8 → List UInt8
  | 0, a => a
  | k + 1, a => raiseGo k (dbl16 a)
theorem raiseGo_length : ∀ (k : Nat) (a : List UInt8), a.length = 16 → (raiseGo k a).length = 16
  | 0, a, h => h
  | k + 1, a, _ => raiseGo_length k _ (dbl16_length a)

end Go.Ring
/-
  The walks of octet: numbers of bytes.
-/
namespace Go.Proofs.YtnkaodjfjllkfaaGreatDoor
open Go.RowKit Go.Mem Go.Ops Go.Cells Go.Oct
set_option linter.unusedSimpArgs false

theorem Tryz.row4 : Row Tryz.prog 107 4 := ⟨by kernel_rfl, by kernel_rfl⟩
theorem Tryz.row8 : Row Tryz.prog 126 8 := ⟨by kernel_rfl, by kernel_rfl⟩
theorem Tryz.row16 : Row Tryz.prog 88 16 := ⟨by kernel_rfl, by kernel_rfl⟩

theorem Tryz.zero16 : (Tryz.prog.info? 88).map (·.zero) = some (some (.agg ((zeros 16).map B).toArray)) := by kernel_rfl
theorem Tryz.zero8 : (Tryz.prog.info? 126).map (·.zero) = some (some (.agg ((zeros 8).map B).toArray)) := by kernel_rfl
theorem Tryz.zero4 : (Tryz.prog.info? 107).map (·.zero) = some (some (.agg ((zeros 4).map B).toArray)) := by kernel_rfl
theorem Tryz.sizeByte : (Tryz.prog.info? 5).map (·.size) = some 1 := by kernel_rfl
theorem putword_ok (n : UInt32) (w : World) :
    Calls Tryz.prog 133 #[W n] w fun e w' => e = .returned (.agg ((putWord n).map B).toArray) ∧ Below w.heap.size w w' := by
  go_enter Tryz.func133, Tryz.ntmps133
  go_wp2
  go_loopw [5] (fun i wr => ∃ (j : Nat) (l : List UInt8), j ≤ 4 ∧ i = .int .i64 j ∧ Filled (fun k => lo32_8 (shr32 n (8 * k))) 4 j l ∧ Blk wr w.heap.size ([0,0,0,0].map B) 107 ∧ Blk wr (w.heap.size + 1) (l.map B) 107 ∧ Below w.heap.size w wr)
    (fun i _ => 4 - (intOf i).toNat)
  case atStart =>
    have h0 := Blk.new (w.alloc (.cells #[.int .u8 0, .int .u8 0, .int .u8 0, .int .u8 0] 107)) ([0,0,0,0].map B) 107
    simp at h0
    exact ⟨0, [0,0,0,0], by omega, rfl, Filled.zero rfl, (Blk.new w ([0,0,0,0].map B) 107).alloc _, h0, ((Below.refl _ _).alloc (Nat.le_refl _) _).alloc (by simp) _⟩
  case round =>
    obtain ⟨j, l, hj, rfl, hL, hbr, hb, hbel⟩ := hrel
    by_cases hlt : j < 4
    · obtain ⟨x, hx⟩ := hL.at hlt
      have hc := hb.cell j _ (mapB_at hx)
      have hf := hb.free j
      have HB := Lib.hid hb
      have HR := Lib.hid hbr
      clear hb hbr hx
      go_wp2
      go_roundw
      case rel => exact ⟨j + 1, _, by omega, rfl, hL.step hlt, HR.out.setOther (by simp) _, mapB_set _ _ _ ▸ HB.out.set j _, hbel.setCell (by simp) _⟩
      case measure => simp [intOf]; omega
    · obtain rfl : j = 4 := by omega
      have HB := Lib.hid hb
      have HR := Lib.hid hbr
      have HL := Lib.hid hL
      clear hb hbr hL
      go_wp2_with (first | (refine HB.out.wload rfl rfl rfl Tryz.row4 (by simp [HL.out.1]) ?_) | (refine HR.out.wstore rfl rfl rfl rfl Tryz.row4 rfl (by simp [HL.out.1]) (oneCell_B _) ?_))
      intro w' hb ho
      go_wp2
      refine hb.result rfl rfl rfl Tryz.row4 (by simp [HL.out.1]) ?_
      rw [HL.out.all]
      exact ⟨rfl, below_only hbel ho (Nat.le_refl _)⟩

theorem putlong_ok (n : UInt64) (w : World) :
    Calls Tryz.prog 53 #[L n] w fun e w' => e = .returned (.agg ((putLong n).map B).toArray) ∧ Below w.heap.size w w' := by
  go_enter Tryz.func53, Tryz.ntmps53
  go_wp2
  go_loopw [5] (fun i wr => ∃ (j : Nat) (l : List UInt8), j ≤ 8 ∧ i = .int .i64 j ∧ Filled (fun k => lo64_8 (shr64 n (8 * k))) 8 j l ∧ Blk wr w.heap.size ([0,0,0,0,0,0,0,0].map B) 126 ∧ Blk wr (w.heap.size + 1) (l.map B) 126 ∧ Below w.heap.size w wr)
    (fun i _ => 8 - (intOf i).toNat)
  case atStart =>
    have h0 := Blk.new (w.alloc (.cells ([0,0,0,0,0,0,0,0].map B).toArray 126)) ([0,0,0,0,0,0,0,0].map B) 126
    simp at h0
    exact ⟨0, [0,0,0,0,0,0,0,0], by omega, rfl, Filled.zero rfl, (Blk.new w ([0,0,0,0,0,0,0,0].map B) 126).alloc _, h0, ((Below.refl _ _).alloc (Nat.le_refl _) _).alloc (by simp) _⟩
  case round =>
    obtain ⟨j, l, hj, rfl, hL, hbr, hb, hbel⟩ := hrel
    by_cases hlt : j < 8
    · obtain ⟨x, hx⟩ := hL.at hlt
      have hc := hb.cell j _ (mapB_at hx)
      have hf := hb.free j
      have HB := Lib.hid hb
      have HR := Lib.hid hbr
      clear hb hbr hx
      go_wp2
      go_roundw
      case rel => exact ⟨j + 1, _, by omega, rfl, hL.step hlt, HR.out.setOther (by simp) _, mapB_set _ _ _ ▸ HB.out.set j _, hbel.setCell (by simp) _⟩
      case measure => simp [intOf]; omega
    · obtain rfl : j = 8 := by omega
      have HB := Lib.hid hb
      have HR := Lib.hid hbr
      have HL := Lib.hid hL
      clear hb hbr hL
      go_wp2_with (first | (refine HB.out.wload rfl rfl rfl Tryz.row8 (by simp [HL.out.1]) ?_) | (refine HR.out.wstore rfl rfl rfl rfl Tryz.row8 rfl (by simp [HL.out.1]) (oneCell_B _) ?_))
      intro w' hb ho
      go_wp2
      refine hb.result rfl rfl rfl Tryz.row8 (by simp [HL.out.1]) ?_
      rw [HL.out.all]
      exact ⟨rfl, below_only hbel ho (Nat.le_refl _)⟩

/-- What 'from' hands back: a closure over two cells. -/
def Tells (w : World) (c1 c2 : Nat) (at' : Nat) (ao : Option Addr) (len cap : Nat) : Prop :=
  w.cell? ⟨c1, 0, none⟩ = some (.int .i64 at') ∧ w.cell? ⟨c2, 0, none⟩ = some (.slice ao len cap)

theorem from_in (c1 c2 : Nat) (ao : Option Addr) (len cap at' k : Nat) (bs : List UInt8) (w : World) (hlen : bs.length = len) (hb : at' ≤ 1099511627776) (hk : k ≤ 1099511627776) (hc : len ≤ 1099511627776) (hl : Lies w ao (bs.map B))
    (ht : Tells w c1 c2 at' ao len cap) :
    Calls Tryz.prog 221 #[.int .i64 k, .pointer (some ⟨c1, 0, none⟩), .pointer (some ⟨c2, 0, none⟩)] w fun e w' => e = .returned (B (at8 bs (at' + k))) ∧ w = w' := by
  obtain ⟨h1, h2⟩ := ht
  by_cases hlt : at' + k < len
  · have hx : bs[at' + k]? = some (at8 bs (at' + k)) := at8_get (by omega)
    generalize at8 bs (at' + k) = x at *
    obtain ⟨b, off, rfl, hcell⟩ := hl _ _ (mapB_at hx)
    clear hl hlen hx
    have ht1 : decide ((at' : Int) > (len : Int) - 1 - k) = false := by simp; omega
    go_enter Tryz.func221, Tryz.ntmps221
    go_wp2
    go_ret
    exact ⟨rfl, rfl⟩
  · have hx : at8 bs (at' + k) = 0 := at8_none (by omega)
    rw [hx]
    clear hl hx hlen
    go_enter Tryz.func221, Tryz.ntmps221
    go_wp2
    go_ret
    exact ⟨rfl, rfl⟩

theorem gather_ok (many : Nat) (c1 c2 : Nat) (ao : Option Addr) (len cap at' : Nat) (bs : List UInt8) (w : World) (hm : many ≤ 8) (hlen : bs.length = len) (hb : at' ≤ 1099511627776) (hc : len ≤ 1099511627776) (hl : Lies w ao (bs.map B))
    (ht : Tells w c1 c2 at' ao len cap) :
    Calls Tryz.prog 184 #[.int .i64 many, .func (.func 221) #[] #[.pointer (some ⟨c1, 0, none⟩), .pointer (some ⟨c2, 0, none⟩)]] w fun e w' => e = .returned (L (gather (fun k => at8 bs (at' + k)) many)) ∧ w = w' := by
  have HLEN := Lib.hid hlen
  have HL := Lib.hid hl
  have HT := Lib.hid ht
  clear hlen hl ht
  go_enter Tryz.func184, Tryz.ntmps184
  go_wp2
  go_loopw [5, 8] (fun n i wr => ∃ j : Nat, j ≤ many ∧ i = .int .i64 j ∧ n = L (gather (fun k => at8 bs (at' + k)) j) ∧ w = wr) (fun _ i _ => many - (intOf i).toNat)
  case atStart => exact ⟨0, Nat.zero_le _, rfl, rfl, rfl⟩
  case round =>
    obtain ⟨j, hj, rfl, rfl, rfl⟩ := hrel
    by_cases hlt : j < many
    · go_wp2_with fail
      refine (from_in c1 c2 ao len cap at' j bs _ HLEN.out hb (by omega) hc HL.out HT.out).mono ?_
      rintro e w1 ⟨rfl, rfl⟩
      go_wp2
      go_roundw
      case rel => exact ⟨j + 1, by omega, rfl, rfl, by trivial⟩
      case measure => simp [intOf]; omega
    · obtain rfl : j = many := by omega
      go_wp2
      go_ret
      exact ⟨rfl, by trivial⟩

/-- 'from' hands back a closure over two new cells. -/
theorem fromfn_ok (ao : Option Addr) (len cap at' : Nat) (w : World) :
    Calls Tryz.prog 185 #[.slice ao len cap, .int .i64 at'] w fun e w' => ∃ c1 c2, e = .returned (.func (.func 221) #[] #[.pointer (some ⟨c1, 0, none⟩), .pointer (some ⟨c2, 0, none⟩)]) ∧ Tells w' c1 c2 at' ao len cap ∧ Below w.heap.size w w' := by
  go_enter Tryz.func185, Tryz.ntmps185
  go_wp2
  go_ret
  exact ⟨_, _, rfl, ⟨by simp, by simp⟩, ((Below.refl _ _).alloc (Nat.le_refl _) _).alloc (by simp) _⟩

theorem word_ok (ao : Option Addr) (len cap at' : Nat) (bs : List UInt8) (w : World) (hlen : bs.length = len) (hb : at' ≤ 1099511627776) (hc : len ≤ 1099511627776) (hl : Lies w ao (bs.map B)) :
    Calls Tryz.prog 134 #[.slice ao len cap, .int .i64 at'] w fun e w' => e = .returned (W (wordL bs at')) ∧ Below w.heap.size w w' := by
  have HLEN := Lib.hid hlen
  have HL := Lib.hid hl
  clear hlen hl
  go_enter Tryz.func134, Tryz.ntmps134
  go_wp2_with fail
  refine (fromfn_ok _ _ _ _ _).mono ?_
  rintro e w1 ⟨c1, c2, rfl, ht, hbel⟩
  have HT := Lib.hid ht
  clear ht
  go_wp2_with fail
  refine (gather_ok 4 c1 c2 ao len cap at' bs _ (by omega) HLEN.out hb hc (HL.out.below hbel) HT.out).mono ?_
  rintro e w2 ⟨rfl, rfl⟩
  go_wp2
  go_ret
  exact ⟨rfl, hbel⟩

theorem long_ok (ao : Option Addr) (len cap at' : Nat) (bs : List UInt8) (w : World) (hlen : bs.length = len) (hb : at' ≤ 1099511627776) (hc : len ≤ 1099511627776) (hl : Lies w ao (bs.map B)) :
    Calls Tryz.prog 244 #[.slice ao len cap, .int .i64 at'] w fun e w' => e = .returned (L (longL bs at')) ∧ Below w.heap.size w w' := by
  have HLEN := Lib.hid hlen
  have HL := Lib.hid hl
  clear hlen hl
  go_enter Tryz.func244, Tryz.ntmps244
  go_wp2_with fail
  refine (fromfn_ok _ _ _ _ _).mono ?_
  rintro e w1 ⟨c1, c2, rfl, ht, hbel⟩
  have HT := Lib.hid ht
  clear ht
  go_wp2_with fail
  refine (gather_ok 8 c1 c2 ao len cap at' bs _ (by omega) HLEN.out hb hc (HL.out.below hbel) HT.out).mono ?_
  rintro e w2 ⟨rfl, rfl⟩
  go_wp2
  go_ret
  exact ⟨rfl, hbel⟩

end Go.Proofs.YtnkaodjfjllkfaaGreatDoor
/-
  A region that draws its order, walked ONCE: what only computes or reads is taken as soon as it may come up, if it yields the same in every later world; what changes the world comes up alone. No program.
-/
namespace Go
open Go.RowKit

/-- What a later world keeps: all blocks that there are. -/
def Later (w w' : World) : Prop := Below w.heap.size w w'
theorem Later.refl (w : World) : Later w w := Below.refl _ _
theorem Later.trans {a b c : World} (h : Later a b) (k : Later b c) : Later a c := Below.trans h (Below.mono k h.size)

theorem RowKit.Below.later {B : Nat} {w w1 w' : World} (h : Below B w w1) (hB : B ≤ w.heap.size) (k : Later w1 w') : Below B w w' := h.trans (Below.mono k (Nat.le_trans hB h.size))
theorem RowKit.Below.laterD {B : Nat} {w w1 w' : World} (h : Below B w w1) (hB : B ≤ w.heap.size) (k : Later w1.drew w') : Below B w w' := h.drew.trans (Below.mono k (Nat.le_trans hB h.size))

/-- The kinds of operations: 0: it computes, or reads; 1: it makes memory, or is a call; 2: it may change what there is. -/
def Oper.kindR (o : Oper) : Nat :=
  match o.op with
  | .move _ | .assign _ | .pick .. | .load .. | .nilCheck _ | .binOp .. | .unOp .. | .fieldAddr .. | .field .. | .indexAddr .. | .index .. | .extract .. | .slice .. | .makeFunc .. | .makeInterface .. | .build .. | .typeAssert .. => 0
  | .convert .. => 0
  | .call c => match c.callee with
    | .builtin .len | .builtin .cap | .builtin .real | .builtin .imag | .builtin .complex | .builtin .min | .builtin .max => 0
    | .builtin .append | .builtin .copy => 2
    | .builtin _ => 2
    | _ => 1
  | .alloc _ | .box .. | .buildSlice .. | .makeSlice .. => 1
  | _ => 2

section
variable {P : Program} {ops : Array Oper} {Q : Exit → Act → World → Prop} {md : Region.Mode}

/-- Whatever order is picked; behind each operation that is not of kind 2 the world is a later one. -/
def wpAnyR (P : Program) (md : Region.Mode) (ops : Array Oper) (Q : Exit → Act → World → Prop) : Nat → Array Bool → Act → World → Prop
  | 0, listed, a, w => Region.ready md ops listed = [] ∧ Q .normal a w
  | fuel + 1, listed, a, w =>
    (Region.ready md ops listed = [] → Q .normal a w) ∧
    ∀ i ∈ Region.ready md ops listed, wpOp P ops Q i (fun a' w' => ((ops[i]?).map Oper.kindR ≠ some 2 → Later w w') ∧ wpAnyR P md ops Q fuel (listed.setIfInBounds i true) a' w') a w

theorem wpAny_of_R : ∀ (fuel : Nat) (listed : Array Bool) (a : Act) (w : World), wpAnyR P md ops Q fuel listed a w → wpAny P md ops Q fuel listed a w
  | 0, _, _, _, h => h
  | fuel + 1, _, _, _, h => ⟨h.1, fun i hi => wpOp_mono (fun a' w' h' => wpAny_of_R fuel _ a' w' h'.2) (h.2 i hi)⟩

theorem YieldsIf.later {o : Oper} {v : Value} {a : Act} {w w' : World} (h : YieldsIf P ops (Later w) o v a) (hw : Later w w') : YieldsIf P ops (Later w') o v a :=
  h.imp (fun ⟨h1, h2⟩ => ⟨h1, fun x hx => h2 x (hw.trans hx)⟩) id

theorem wpAnyR_first {i : Nat} {oi : Oper} {v : Value} (hi : ops[i]? = some oi) (hsel : ∀ (j : Nat) (o : Oper) cs b, ops[j]? = some o → o.op ≠ .select cs b)
    (hQ : ∀ c a w, Q (.panic c) (a.put oi.dst v) w → Q (.panic c) a w) (D : Nat → Bool) (hDi : D i = false)
    (hD : ∀ d, D d = true → ∃ od, ops[d]? = some od ∧ ∃ e ∈ od.after, Region.binds md e = true ∧ (e.on = i ∨ D e.on = true)) :
    ∀ (fuel : Nat) (listed : Array Bool) (a : Act) (w : World),
      (∀ d, D d = true → listed.getD d true = false) →
      (∀ j oj, ops[j]? = some oj → j ≠ i → listed.getD j true = false → D j = false → oi.apart ops oj = true ∧ oj.kindR ≠ 2) →
      i ∈ Region.ready md ops listed → YieldsIf P ops (Later w) oi v a →
      wpAnyR P md ops Q fuel (listed.setIfInBounds i true) (a.put oi.dst v) w → wpAnyR P md ops Q (fuel + 1) listed a w := by
  intro fuel
  induction fuel with
  | zero =>
    intro listed a w _ _ hr hy H
    refine ⟨fun h => (by rw [h] at hr; cases hr), fun j hj => ?_⟩
    by_cases hji : j = i
    · subst hji; exact hy.wpOp hi (Later.refl w) ⟨fun _ => Later.refl w, H⟩
    · have := ready_mono hj hji
      rw [H.1] at this
      cases this
  | succ fuel ih =>
    intro listed a w hun hfree hr hy H
    refine ⟨fun h => (by rw [h] at hr; cases hr), fun j hj => ?_⟩
    by_cases hji : j = i
    · subst hji; exact hy.wpOp hi (Later.refl w) ⟨fun _ => Later.refl w, H⟩
    · have h1 := H.2 j (ready_mono hj hji)
      obtain ⟨hjun, oj, hoj, hall⟩ := mem_ready.1 hj
      have hget : ∀ k, listed.getD k true = false → (listed[k]?).getD true = false := fun k hk => by
        rcases Nat.lt_or_ge k listed.size with h' | h'
        · simpa [Array.getD, h'] using hk
        · simp [Array.getD, Nat.not_lt.2 h'] at hk
      have hDj : D j = false := by
        cases hdj : D j with
        | false => rfl
        | true =>
          obtain ⟨od, hod, e, he, hb, hon⟩ := hD j hdj
          rw [hoj] at hod
          cases hod
          have h1 := hall e he hb
          have h0 : listed.getD e.on true = false := by
            rcases hon with h | h
            · rw [h]; exact (mem_ready.1 hr).1
            · exact hun _ h
          rcases Nat.lt_or_ge e.on listed.size with h' | h'
          · simp [h'] at h0 h1; rw [h0] at h1; cases h1
          · simp [Array.getElem?_eq_none h'] at h1
      have hfj := hfree j oj hoj hji hjun hDj
      have hkj : (ops[j]?).map Oper.kindR ≠ some 2 := by rw [hoj]; simpa using hfj.2
      have h2 := wpOp_putIf hoj hfj.1 (fun cs b => hsel i oi cs b hi) (fun cs b => hsel j oj cs b hoj) hQ hy h1
      have hun' : ∀ d, D d = true → (listed.setIfInBounds j true).getD d true = false := fun d hd => by
        have hne : j ≠ d := by rintro rfl; rw [hDj] at hd; cases hd
        rw [getD_set_ne true hne]
        exact hun d hd
      have hfree' : ∀ k ok, ops[k]? = some ok → k ≠ i → (listed.setIfInBounds j true).getD k true = false →
          D k = false → oi.apart ops ok = true ∧ ok.kindR ≠ 2 := fun k ok hk hki hun hno => by
        refine hfree k ok hk hki ?_ hno
        by_cases hjk : j = k
        · subst hjk; exact hjun
        · rw [getD_set_ne true hjk] at hun; exact hun
      refine wpOp_mono (fun a' w' h3 => ⟨h3.2.1, ih (listed.setIfInBounds j true) a' w' hun' hfree' (ready_mono hr (Ne.symm hji)) (h3.1.later (h3.2.1 hkj)) ?_⟩) h2
      rw [Array.setIfInBounds_comm _ _ hji]
      exact h3.2.2

/-- What stands behind number i: it waits for i, or for what waits for i. -/
def Region.behindR (md : Region.Mode) (ops : Array Oper) (listed : Array Bool) (i : Nat) : List Nat :=
  (List.range ops.size).foldl (fun D j => if listed.getD j true || j == i then D else match ops[j]? with
    | none => D
    | some oj => if oj.after.any (fun e => Region.binds md e && (e.on == i || D.contains e.on)) then j :: D else D) []

/-- The test on that list. -/
def Region.heldR (md : Region.Mode) (ops : Array Oper) (listed : Array Bool) (i : Nat) (oi : Oper) (D : List Nat) : Bool :=
  !D.contains i &&
  D.all (fun d => !(listed.getD d true) && match ops[d]? with
    | some od => od.after.any (fun e => Region.binds md e && (e.on == i || D.contains e.on))
    | none => false) &&
  (List.range ops.size).all fun j => j == i || listed.getD j true || D.contains j || match ops[j]? with
    | some oj => oi.apart ops oj && oj.kindR != 2
    | none => true

/-- Number i may be taken first. -/
def Region.freeR (md : Region.Mode) (ops : Array Oper) (listed : Array Bool) (i : Nat) : Bool :=
  match ops[i]? with
  | none => false
  | some oi => Region.heldR md ops listed i oi (Region.behindR md ops listed i)

theorem Region.freeR_spec {i : Nat} {oi : Oper} {listed : Array Bool} (hi : ops[i]? = some oi) (h : Region.freeR md ops listed i = true) :
    ∃ D : Nat → Bool, D i = false ∧ (∀ d, D d = true → ∃ od, ops[d]? = some od ∧ ∃ e ∈ od.after, Region.binds md e = true ∧ (e.on = i ∨ D e.on = true)) ∧
      (∀ d, D d = true → listed.getD d true = false) ∧
      (∀ j oj, ops[j]? = some oj → j ≠ i → listed.getD j true = false → D j = false → oi.apart ops oj = true ∧ oj.kindR ≠ 2) := by
  unfold Region.freeR at h
  simp only [hi] at h
  generalize Region.behindR md ops listed i = L at h
  unfold Region.heldR at h
  rw [Bool.and_eq_true, Bool.and_eq_true] at h
  obtain ⟨⟨h1, h2⟩, h3⟩ := h
  rw [List.all_eq_true] at h2 h3
  refine ⟨fun d => L.contains d, by simpa using h1, fun d hd => ?_, fun d hd => ?_, fun j oj hj hne hun hnd => ?_⟩
  · have := h2 d (by simpa using hd)
    rw [Bool.and_eq_true] at this
    cases hod : ops[d]? with
    | none => simp [hod] at this
    | some od =>
      have h4 := this.2
      simp only [hod] at h4
      obtain ⟨e, he, hb⟩ := Array.any_eq_true'.1 h4
      rw [Bool.and_eq_true, Bool.or_eq_true] at hb
      exact ⟨od, rfl, e, he, hb.1, hb.2.imp (fun h => by simpa using h) id⟩
  · have := h2 d (by simpa using hd)
    rw [Bool.and_eq_true] at this
    simpa using this.1
  · have hlt : j < ops.size := (Array.getElem?_eq_some_iff.1 hj).1
    have := h3 j (List.mem_range.2 hlt)
    have e1 : (j == i) = false := by simpa using hne
    simp only at hnd
    rw [e1, hun, hnd, Bool.false_or, Bool.false_or, Bool.false_or] at this
    simp only [hj, Bool.and_eq_true] at this
    exact ⟨this.1, by simpa using this.2⟩

/-- The order fits: what is of kind 0 may be taken first, what is not comes up alone; at the end all have come up. -/
def Region.checkR (md : Region.Mode) (ops : Array Oper) : List Nat → Array Bool → Bool
  | [], listed => Region.ready md ops listed == []
  | i :: r, listed =>
    (match ops[i]? with
     | none => false
     | some o => if o.kindR = 0 then (Region.ready md ops listed).contains i && Region.freeR md ops listed i else Region.ready md ops listed == [i]) &&
    Region.checkR md ops r (listed.setIfInBounds i true)

/-- THE WALK, in the order that is given. -/
def walkR (P : Program) (ops : Array Oper) (Q : Exit → Act → World → Prop) : List Nat → Act → World → Prop
  | [], a, w => Q .normal a w
  | i :: r, a, w =>
    match ops[i]? with
    | none => False
    | some o =>
      if Region.wanted o (yielded ops a.tmps) = true then
        (if o.kindR = 0 then ∃ v, (∀ w', Later w w' → (execOp a.eval o).run P w' = .ok (.value v) w') ∧ walkR P ops Q r (a.put o.dst v) w
         else o.wp P a w (fun a' w' => (o.kindR ≠ 2 → Later w w') ∧ walkR P ops Q r a' w') Q)
      else walkR P ops Q r (a.put o.dst undef) w

theorem wpAnyR_of_walk (hs : Region.noSelect ops = true) (hQ : ∀ c a w, ¬ Q (.panic c) a w) : ∀ (order : List Nat) (listed : Array Bool) (a : Act) (w : World),
    Region.checkR md ops order listed = true → walkR P ops Q order a w → wpAnyR P md ops Q order.length listed a w
  | [], listed, a, w, hB, h => by
    simp only [Region.checkR, beq_iff_eq] at hB
    exact ⟨hB, h⟩
  | i :: r, listed, a, w, hB, h => by
    simp only [Region.checkR, Bool.and_eq_true] at hB
    obtain ⟨hB1, hB2⟩ := hB
    cases ho : ops[i]? with
    | none => simp [ho] at hB1
    | some o =>
      simp only [ho] at hB1
      simp only [walkR, ho] at h
      by_cases hk : o.kindR = 0
      · simp only [hk, if_true, Bool.and_eq_true] at hB1 h
        by_cases hw : Region.wanted o (yielded ops a.tmps) = true
        · rw [if_pos hw] at h
          obtain ⟨v, hv, hr⟩ := h
          obtain ⟨D, hDi, hD, hDu, hDf⟩ := Region.freeR_spec ho hB1.2
          exact wpAnyR_first ho (Region.noSelect_spec hs) (fun c a w hq => absurd hq (hQ _ _ _)) D hDi hD r.length listed a w hDu hDf (by simpa using hB1.1) (.inl ⟨hw, hv⟩)
            (wpAnyR_of_walk hs hQ r _ _ _ hB2 hr)
        · rw [if_neg hw] at h
          obtain ⟨D, hDi, hD, hDu, hDf⟩ := Region.freeR_spec ho hB1.2
          exact wpAnyR_first ho (Region.noSelect_spec hs) (fun c a w hq => absurd hq (hQ _ _ _)) D hDi hD r.length listed a w hDu hDf (by simpa using hB1.1) (.inr ⟨by simpa using hw, rfl⟩)
            (wpAnyR_of_walk hs hQ r _ _ _ hB2 h)
      · simp only [hk, if_false, beq_iff_eq] at hB1 h
        refine ⟨fun h0 => (by rw [hB1] at h0; cases h0), fun j hj => ?_⟩
        rw [hB1] at hj
        obtain rfl : j = i := by simpa using hj
        unfold wpOp
        simp only [ho]
        by_cases hw : Region.wanted o (yielded ops a.tmps) = true
        · rw [if_pos hw] at h ⊢
          refine .inl (Oper.wp_mono ?_ h)
          intro a' w' h'
          refine ⟨fun hne => h'.1 (by simpa using hne), wpAnyR_of_walk hs hQ r _ _ _ hB2 h'.2⟩
        · rw [if_neg hw] at h ⊢
          exact ⟨fun _ => Later.refl w, wpAnyR_of_walk hs hQ r _ _ _ hB2 h⟩

/-- THE LAW. -/
theorem wp_region_R {id : Nat} {l : List Oper} {a : Act} {w : World} (order : List Nat) (hm : P.follows .mixedOrders = true)
    (hB : (Region.noSelect l.toArray && (order.length == l.length) && Region.checkR .any l.toArray order (Array.replicate l.length false)) = true)
    (h : ∀ w', w' = w.drew → walkR P l.toArray (NoPanic Q) order a w') : (Code.region id l.toArray true).wp P Q a w := by
  simp only [Bool.and_eq_true, beq_iff_eq] at hB
  obtain ⟨⟨hs, hl⟩, hB⟩ := hB
  refine wp_region_noPanic (wp_region_any hm (wpAny_of_R _ _ _ _ ?_))
  have := wpAnyR_of_walk (P := P) (Q := NoPanic Q) hs (fun c a w hq => hq) order _ a w.drew hB (h _ rfl)
  rw [hl] at this
  exact this

/-! The moves of the walk. -/
theorem walkR_nil {a : Act} {w : World} (h : Q .normal a w) : walkR P ops (NoPanic Q) [] a w := h

theorem walkR_yes {i : Nat} {r : List Nat} {o : Oper} {a : Act} {w : World} {v : Value} (ho : ops[i]? = some o) (hk : o.kindR = 0) (hw : Region.wanted o (yielded ops a.tmps) = true)
    (hv : ∀ w', Later w w' → (execOp a.eval o).run P w' = .ok (.value v) w') (h : ∀ K : Act → Prop, (∀ a', walkR P ops Q r a' w → K a') → K (a.put o.dst v)) : walkR P ops Q (i :: r) a w := by
  simp only [walkR, ho, hk, hw, if_true]
  exact ⟨v, hv, h _ fun _ h => h⟩

theorem walkR_no {i : Nat} {r : List Nat} {o : Oper} {a : Act} {w : World} (ho : ops[i]? = some o) (hw : Region.wanted o (yielded ops a.tmps) = false)
    (h : ∀ K : Act → Prop, (∀ a', walkR P ops Q r a' w → K a') → K (a.put o.dst undef)) : walkR P ops Q (i :: r) a w := by
  simp only [walkR, ho, hw, Bool.false_eq_true, if_false]
  exact h _ fun _ h => h

theorem walkR_call {i : Nat} {r : List Nat} {o : Oper} {a : Act} {w : World} (ho : ops[i]? = some o) (hk : o.kindR = 1) (hw : Region.wanted o (yielded ops a.tmps) = true)
    (h : ∀ K : Act → World → Prop, (∀ a' w', Later w w' → walkR P ops Q r a' w' → K a' w') → o.wp P a w K Q) : walkR P ops Q (i :: r) a w := by
  simp only [walkR, ho, hk, hw, if_true]
  exact h _ fun _ _ h1 h2 => ⟨fun _ => h1, h2⟩

theorem walkR_free {i : Nat} {r : List Nat} {o : Oper} {a : Act} {w : World} (ho : ops[i]? = some o) (hk : o.kindR = 2) (hw : Region.wanted o (yielded ops a.tmps) = true)
    (h : ∀ K : Act → World → Prop, (∀ a' w', walkR P ops Q r a' w' → K a' w') → o.wp P a w K Q) : walkR P ops Q (i :: r) a w := by
  simp only [walkR, ho, hk, hw, if_true]
  exact h _ fun _ _ h2 => ⟨fun h1 => absurd rfl h1, h2⟩

end
end Go
/-
  What only computes or reads yields a value. No program.
-/
namespace Go
open Go.RowKit

section
variable {P : Program} {ops : Array Oper} {Q : Exit → Act → World → Prop}

/-- A later world. -/
structure After (w : World) where
  val : World
  later : Later w val
/-- The class of the later worlds, in the form that the library's quiet walk sees through. -/
abbrev Afters (w : World) : World → Prop := fun w' => ∃ x : After w, w' = x.val

instance (w : World) : Nonempty (After w) := ⟨⟨w, Later.refl w⟩⟩

theorem value_bind (s : Sem Value) (w w' : World) (n : Next) (h : Sem.run P (do let x ← s; pure (Next.value x)) w = .ok n w') : ∃ u, n = .value u := by
  rw [Sem.run_bind] at h
  cases hs : s.run P w with
  | ok x w1 =>
    rw [hs] at h
    simp only [Result.andThen, Sem.run_pure] at h
    cases h
    exact ⟨x, rfl⟩
  | halt x w1 => rw [hs] at h; cases h

theorem value_of_kind0 {o : Oper} {ρ : Operand → Value} {w w' : World} {n : Next} (hk : o.kindR = 0) (h : (execOp ρ o).run P w = .ok n w') : ∃ u, n = .value u := by
  unfold Oper.kindR at hk
  unfold execOp at h
  cases hop : o.op
  case call c =>
    simp only [hop] at hk h
    cases hc : c.callee with
    | builtin b =>
      simp only [hc] at hk
      cases b <;> simp only [reduceCtorEq] at hk <;> first
        | (cases hk; done)
        | (simp only [resolve, hc, Sem.run_bind, Sem.run_pure, Result.andThen_ok, invoke, builtin] at h
           exact value_bind _ _ _ _ (by simpa only [Sem.run_bind, Sem.run_pure] using h))
    | value f => simp only [hc] at hk; cases hk
    | invoke r m => simp only [hc] at hk; cases hk
  case pick c a b =>
    simp only [hop] at h
    rw [Sem.run_bind] at h
    cases hp : (asBool (ρ c)).run P w with
    | halt x w1 => rw [hp] at h; cases h
    | ok p w1 =>
      rw [hp] at h
      simp only [Result.andThen, Sem.run_pure] at h
      cases h
      exact ⟨_, rfl⟩
  case nilCheck x =>
    simp only [hop] at h
    split at h
    all_goals try (simp [runtimePanic, goPanic] at h; done)
    all_goals try (rw [Sem.run_pure] at h; cases h; exact ⟨_, rfl⟩)
    all_goals try split at h
    all_goals try (simp [runtimePanic, goPanic] at h; done)
    all_goals try (rw [Sem.run_pure] at h; cases h; exact ⟨_, rfl⟩)
    rw [Sem.run_bind] at h
    cases hp : (program).run P w with
    | halt x w1 => rw [hp] at h; cases h
    | ok p w1 =>
      rw [hp] at h
      simp only [Result.andThen, Sem.run_bind] at h
      split at h
      · split at h
        · simp [unsupported] at h
        · simp only [Sem.run_pure] at h
          cases h
          exact ⟨_, rfl⟩
      · cases h
  all_goals
    simp only [hop] at hk h
    first
      | (cases hk; done)
      | exact value_bind _ _ _ _ h
      | (rw [Sem.run_pure] at h; cases h; exact ⟨_, rfl⟩)

theorem run_of_quietAt {C : World → Prop} {o : Oper} {a : Act} {w : World} {v : Value} (hk : o.kindR = 0) (h : o.quietAt P a C w v) : (execOp a.eval o).run P w = .ok (.value v) w := by
  unfold Oper.quietAt at h
  cases hr : (execOp a.eval o).run P w with
  | halt x w' => rw [hr] at h; exact h.elim
  | ok n w' =>
    obtain ⟨u, rfl⟩ := value_of_kind0 hk hr
    rw [hr] at h
    simp only [Oper.quietUpon] at h
    rw [h.1, h.2]

/-- One operation that only computes or reads, by the library's quiet walk. -/
theorem walkR_one {i : Nat} {r : List Nat} {o : Oper} {tl : List Oper} {a : Act} {w : World} (hd : ops.toList.drop i = o :: tl) (hk : o.kindR = 0)
    (hh : ∀ K : Act → Prop, (∀ a', walkR P ops Q r a' w → K a') → wpQuiet P ops (Afters w) K [o] a) : walkR P ops Q (i :: r) a w := by
  have h := hh (fun a' => walkR P ops Q r a' w) (fun _ h => h)
  have ho : ops[i]? = some o := by
    have := congrArg (·[0]?) hd
    simpa using this
  simp only [wpQuiet] at h
  simp only [walkR, ho, hk, if_true]
  by_cases hw : Region.wanted o (yielded ops a.tmps) = true
  · rw [if_pos hw] at h ⊢
    obtain ⟨v, hv, hn⟩ := h
    exact ⟨v, fun w' hw' => run_of_quietAt hk (hv w' ⟨⟨w', hw'⟩, rfl⟩), hn⟩
  · rw [if_neg hw] at h ⊢
    exact h

end
end Go
