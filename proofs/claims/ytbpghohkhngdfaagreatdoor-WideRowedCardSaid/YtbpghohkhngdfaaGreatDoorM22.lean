/-
  Texts of this claim, one behind the other: WideA ChaPlain PrimePlain PrimeOps.
-/
import Derived.Test.YtbpghohkhngdfaaGreatDoorM20
import Derived.Test.YtbpghohkhngdfaaGreatDoorM21
import Derived.Test.YtbpghohkhngdfaaGreatDoorM2
import Derived.Test.YtbpghohkhngdfaaGreatDoorM10
/-
  The walks of wide: a cipher with AEZ's keys, its row for a short message.
-/
namespace Go.Proofs.YtbpghohkhngdfaaGreatDoor
open Go.RowKit Go.Mem Go.Ops Go.Cells Go.Oct Go.Gf Go.Trn Go.Aes Go.Ring Go.Ezk Go.Ezh Go.Ezt Go.Ezc Go.Aez Go.Blake Go.CutP Go.Fl
set_option linter.unusedSimpArgs false
set_option linter.unusedVariables false
set_option maxRecDepth 100000
attribute [local irreducible] walkR walkP walk0 walkB walkK

theorem Tryz.rowEz : Row Tryz.prog 87 1 := ⟨by kernel_rfl, by kernel_rfl⟩
theorem Tryz.zeroEz : (Tryz.prog.info? 87).map (·.zero) = some (some (.agg #[.pointer none])) := by kernel_rfl
theorem Tryz.concEz : Tryz.prog.concrete 87 = true := by kernel_rfl
theorem as_ez (v : Value) (w : World) : (Instr.typeAssert (.iface 87 v) 75 87 true).run Tryz.prog w = .ok (.tuple #[v, .bool true]) w := by kernel_rfl

/-- A cipher of AEZ's. -/
structure Ciph (w : World) (cp kp q p : Nat) (k : Parts) : Prop where
  key : EKey w kp q p k
  blk : Blk w cp [.int .i64 3, .iface 87 (.agg #[.pointer (some ⟨kp, 0, none⟩)])] 79
theorem Ciph.later {w w' : World} {cp kp q p : Nat} {k : Parts} (h : Ciph w cp kp q p k) (hb : Below w.heap.size w w') : Ciph w' cp kp q p k := ⟨h.key.later hb, h.blk.below hb h.blk.lt⟩

theorem alg_ok (cp kp q p : Nat) (k : Parts) (w : World) (hc : Ciph w cp kp q p k) : Calls Tryz.prog 19 #[.pointer (some ⟨cp, 0, none⟩)] w fun e w' => e = .returned (.int .i64 3) ∧ w = w' := by
  have hc0 := hc.blk.cell 0 _ rfl
  clear hc
  go_enter Tryz.func19, Tryz.ntmps19
  go_wp2
  go_ret
  exact ⟨rfl, rfl⟩

theorem rows_ok (cp kp q p : Nat) (k : Parts) (w : World) (hc : Ciph w cp kp q p k) : Calls Tryz.prog 48 #[.pointer (some ⟨cp, 0, none⟩)] w fun e w' => e = .returned (.tuple #[.agg #[.pointer (some ⟨kp, 0, none⟩)], .int .i64 0]) ∧ Below w.heap.size w w' := by
  have HC := Lib.hid hc
  have hae := as_ez (.agg #[.pointer (some ⟨kp, 0, none⟩)])
  have HS := Lib.hid (St.start w)
  clear hc
  go_enter Tryz.func48, Tryz.ntmps48
  go_wp2_with (refine wpList_var 87 [.pointer none] _ rfl rfl Tryz.zeroEz rfl ?_)
  intro w1 hb hbel; have HS := Lib.hid (HS.out.push hb hbel); have hlt1 := hb.lt; have HC := Lib.hid (HC.out.later hbel); clear hb hbel
  have hc1 := HC.out.blk.cell 1 _ rfl
  go_wp2_with (refine wpList_var 87 [.pointer none] _ rfl rfl Tryz.zeroEz rfl ?_)
  intro w2 hb hbel; have HS := Lib.hid (HS.out.push hb hbel); have hlt2 := hb.lt; clear hb hbel hc1
  go_wp2_with (refine (HS.out.get 0 rfl).wstore rfl rfl rfl (cs := [.pointer (some ⟨kp, 0, none⟩)]) rfl Tryz.rowEz rfl rfl (by simp [Value.oneCell']) ?_)
  intro w3 hb3 ho3
  have HS := Lib.hid (HS.out.change 0 hb3 ho3 (by omega) (by simp; omega))
  clear hb3 ho3
  go_wp2_with (first | (refine (HS.out.get 0 rfl).wload rfl rfl rfl Tryz.rowEz rfl ?_) | (refine (HS.out.get 1 rfl).wstore rfl rfl rfl (cs := [.pointer (some ⟨kp, 0, none⟩)]) rfl Tryz.rowEz rfl rfl (by simp [Value.oneCell']) ?_))
  intro w4 hb4 ho4
  have HB := Lib.hid (below_only HS.out.bel ho4 (by omega))
  go_wp2
  refine hb4.result2 rfl rfl rfl rfl Tryz.rowEz rfl ⟨rfl, HB.out⟩

theorem schemed_ok (q p : Nat) (ao : Option Addr) (n cap : Nat) (b : List UInt8) (w : World) (hb : b.length = n) (hn0 : 0 < n) (hn1 : n ≤ 128) (hc : n ≤ cap) (hl : Lies w ao (b.map B)) (ht : Tab w q p) (hg : BGlob w) :
    Calls Tryz.prog 41 #[.pointer (some ⟨q, 0, none⟩), .int .i64 3, .slice ao n cap] w fun e w' => ∃ kp, e = .returned (.tuple #[.iface 87 (.agg #[.pointer (some ⟨kp, 0, none⟩)]), .int .i64 0]) ∧ EKey w' kp q p (keyParts b) ∧ w.heap.size ≤ kp ∧ Below w.heap.size w w' := by
  have HN := Lib.hid hb
  have HL := Lib.hid hl
  have HT := Lib.hid ht
  have HG := Lib.hid hg
  have hmk := fun (x : Value) (w : World) => run_makeInterface (P := Tryz.prog) (w := w) 87 x Tryz.concEz
  clear hb hl ht hg
  go_enter Tryz.func41, Tryz.ntmps41
  go_wp2_with fail
  refine (extract_ok q p ao n cap b _ HN.out hn0 hn1 hc HL.out HT.out HG.out).mono ?_
  rintro e w1 ⟨kp, rfl, hk, hle, hbel⟩
  have HK := Lib.hid hk
  have HB := Lib.hid hbel
  clear hk hbel
  go_wp2
  go_ret2
  exact ⟨_, rfl, HK.out, hle, HB.out⟩

theorem schemed_bad (q : Nat) (ao : Option Addr) (n cap : Nat) (w : World) (hn : n = 0 ∨ 128 < n) :
    Calls Tryz.prog 41 #[.pointer (some ⟨q, 0, none⟩), .int .i64 3, .slice ao n cap] w fun e w' => e = .returned (.tuple #[.iface 87 (.agg #[.pointer none]), .int .i64 2]) ∧ w = w' := by
  have hmk := fun (x : Value) (w : World) => run_makeInterface (P := Tryz.prog) (w := w) 87 x Tryz.concEz
  have HN := Lib.hid hn
  clear hn
  go_enter Tryz.func41, Tryz.ntmps41
  go_wp2_with fail
  refine (extract_bad q ao n cap _ HN.out).mono ?_
  rintro e w1 ⟨rfl, rfl⟩
  go_wp2
  go_ret2
  exact ⟨rfl, rfl⟩

theorem wnew_ok (q p : Nat) (ao : Option Addr) (n cap : Nat) (b : List UInt8) (w : World) (hb : b.length = n) (hn0 : 0 < n) (hn1 : n ≤ 128) (hc : n ≤ cap) (hl : Lies w ao (b.map B)) (ht : Tab w q p) (hg : BGlob w) :
    Calls Tryz.prog 16 #[.pointer (some ⟨q, 0, none⟩), .int .i64 3, .slice ao n cap] w fun e w' => ∃ cp kp, e = .returned (.tuple #[.pointer (some ⟨cp, 0, none⟩), .int .i64 0]) ∧ Ciph w' cp kp q p (keyParts b) ∧ Below w.heap.size w w' := by
  have HN := Lib.hid hb
  have HL := Lib.hid hl
  have HT := Lib.hid ht
  have HG := Lib.hid hg
  clear hb hl ht hg
  go_enter Tryz.func16, Tryz.ntmps16
  go_wp2_with fail
  refine (schemed_ok q p ao n cap b _ HN.out hn0 hn1 hc HL.out HT.out HG.out).mono ?_
  rintro e w1 ⟨kp, rfl, hk, hle, hbel⟩
  have HK := Lib.hid hk
  have HB := Lib.hid hbel
  clear hk hbel
  go_wp2_with (refine wpList_box 79 _ [.int .i64 3, .iface 87 (.agg #[.pointer (some ⟨kp, 0, none⟩)])] _ rfl rfl rfl rfl ?_)
  intro w2 hb2 hbel2
  have HC := Lib.hid (show Ciph w2 w1.heap.size kp q p (keyParts b) from ⟨HK.out.later hbel2, hb2⟩)
  have HB := Lib.hid (HB.out.trans (hbel2.mono HB.out.size))
  clear hb2 hbel2
  go_wp2
  go_ret2
  exact ⟨_, _, rfl, HC.out, HB.out⟩

theorem wnew_bad (q : Nat) (ao : Option Addr) (n cap : Nat) (w : World) (hn : n = 0 ∨ 128 < n) :
    Calls Tryz.prog 16 #[.pointer (some ⟨q, 0, none⟩), .int .i64 3, .slice ao n cap] w fun e w' => e = .returned (.tuple #[.pointer none, .int .i64 2]) ∧ w = w' := by
  have HN := Lib.hid hn
  clear hn
  go_enter Tryz.func16, Tryz.ntmps16
  go_wp2_with fail
  refine (schemed_bad q ao n cap _ HN.out).mono ?_
  rintro e w1 ⟨rfl, rfl⟩
  go_wp2
  go_ret2
  exact ⟨rfl, rfl⟩

theorem ezrow_ok (kp q p : Nat) (k : Parts) (ao : Option Addr) (N cap : Nat) (ss : List Str) (bo : Option Addr) (n cb : Nat) (m : List UInt8) (back : Bool) (w : World) (hk : EKey w kp q p k) (hN : ss.length = N) (hN1 : N ≤ 500) (hs : StrsIn w ao ss) (hlen : ∀ s ∈ ss, s.bs.length ≤ 10000)
    (hn : m.length = n) (h1 : 1 ≤ n) (h31 : n ≤ 20000) (hcb : n ≤ cb) (hl : Lies w bo (m.map B)) :
    Calls Tryz.prog 49 #[.agg #[.pointer (some ⟨kp, 0, none⟩)], .slice ao N cap, .slice bo n cb, .bool back] w fun e w' => ∃ v, e = .returned (.tuple #[v, .int .i64 0]) ∧ w'.ownsRow w.heap.size 5 1 v n ((rowA k (rowOf ss) m back).map B) ∧ Below w.heap.size w w' := by
  have HK := Lib.hid hk
  have HNN := Lib.hid hN
  have HS := Lib.hid hs
  have HLEN := Lib.hid hlen
  have HN := Lib.hid hn
  have HL := Lib.hid hl
  have HBK : ∀ w0 : World, EKey w0 kp q p k → Lies w0 bo (m.map B) → StrsIn w0 ao ss → Calls Tryz.prog (if n < 32 then 78 else 79) #[.pointer (some ⟨kp, 0, none⟩), .slice ao N cap, .slice bo n cb, .bool back] w0 fun e w' => ∃ v, e = .returned (.tuple #[v, .int .i64 0]) ∧ w'.ownsRow w0.heap.size 5 1 v n ((rowA k (rowOf ss) m back).map B) ∧ Below w0.heap.size w0 w' := by
    intro w0 hk0 hl0 hs0
    by_cases h32 : n < 32
    · rw [if_pos h32, rowA_lt (by rw [hn]; exact h32)]
      cases back
      · exact tturn_f kp q p k ao N cap ss bo n cb m _ hk0 hN hN1 hs0 hlen hn h1 (by omega) hl0
      · exact tturn_b kp q p k ao N cap ss bo n cb m _ hk0 hN hN1 hs0 hlen hn h1 (by omega) hl0
    · rw [if_neg h32, rowA_ge (by rw [hn]; exact h32)]
      cases back
      · exact cturn_f kp q p k ao N cap ss bo n cb m _ hk0 hN hN1 hs0 hlen hn (by omega) h31 hcb hl0
      · exact cturn_b kp q p k ao N cap ss bo n cb m _ hk0 hN hN1 hs0 hlen hn (by omega) h31 hcb hl0
  have HBK := Lib.hid HBK
  generalize rowA k (rowOf ss) m back = Rr at *
  clear hk hN hs hlen hn hl
  by_cases h32 : n < 32
  · have hd : decide ((n : Int) < 32) = true := by simp; omega
    rw [if_pos h32] at HBK
    clear h32
    go_enter Tryz.func49, Tryz.ntmps49
    go_wp2_with (refine wpList_box 87 _ [.pointer (some ⟨kp, 0, none⟩)] _ rfl rfl rfl rfl ?_)
    intro w1 hb hbel
    have hc0 := hb.cell 0 _ rfl
    have HB := Lib.hid hbel
    clear hb hbel
    go_wp2_with fail
    refine (HBK.out _ (HK.out.later HB.out) (HL.out.below HB.out) (HS.out.below HB.out)).mono ?_
    rintro e w2 ⟨v2, rfl, hown2, hbel2⟩
    have HO := Lib.hid (own_le hown2 HB.out.size)
    have HB := Lib.hid (HB.out.trans (hbel2.mono HB.out.size))
    clear hown2 hbel2
    go_wp2
    go_ret2
    exact ⟨_, rfl, HO.out, HB.out⟩
  · have hd : decide ((n : Int) < 32) = false := by simp; omega
    rw [if_neg h32] at HBK
    clear h32
    go_enter Tryz.func49, Tryz.ntmps49
    go_wp2_with (refine wpList_box 87 _ [.pointer (some ⟨kp, 0, none⟩)] _ rfl rfl rfl rfl ?_)
    intro w1 hb hbel
    have hc0 := hb.cell 0 _ rfl
    have HB := Lib.hid hbel
    clear hb hbel
    go_wp2_with fail
    refine (HBK.out _ (HK.out.later HB.out) (HL.out.below HB.out) (HS.out.below HB.out)).mono ?_
    rintro e w2 ⟨v2, rfl, hown2, hbel2⟩
    have HO := Lib.hid (own_le hown2 HB.out.size)
    have HB := Lib.hid (HB.out.trans (hbel2.mono HB.out.size))
    clear hown2 hbel2
    go_wp2
    go_ret2
    exact ⟨_, rfl, HO.out, HB.out⟩

theorem crow_ok (cp kp q p : Nat) (k : Parts) (ao : Option Addr) (N cap : Nat) (ss : List Str) (bo : Option Addr) (n cb : Nat) (m : List UInt8) (back : Bool) (w : World) (hk : Ciph w cp kp q p k) (hN : ss.length = N) (hN1 : N ≤ 500) (hs : StrsIn w ao ss) (hlen : ∀ s ∈ ss, s.bs.length ≤ 10000)
    (hn : m.length = n) (h1 : 1 ≤ n) (h31 : n ≤ 20000) (hcb : n ≤ cb) (hl : Lies w bo (m.map B)) :
    Calls Tryz.prog 24 #[.pointer (some ⟨cp, 0, none⟩), .slice ao N cap, .slice bo n cb, .bool back] w fun e w' => ∃ v, e = .returned (.tuple #[v, .int .i64 0]) ∧ w'.ownsRow w.heap.size 5 1 v n ((rowA k (rowOf ss) m back).map B) ∧ Below w.heap.size w w' := by
  have HK := Lib.hid hk
  have HNN := Lib.hid hN
  have HST := Lib.hid hs
  have HLEN := Lib.hid hlen
  have HN := Lib.hid hn
  have HL := Lib.hid hl
  have HS := Lib.hid (St.start w)
  clear hk hN hs hlen hn hl
  go_enter Tryz.func24, Tryz.ntmps24
  go_wp2_with fail
  refine (rows_ok cp kp q p k _ HK.out).mono ?_
  rintro e w1 ⟨rfl, hbel⟩
  have HS := Lib.hid (HS.out.later hbel)
  have hz1 := HS.out.size
  clear hbel
  go_wp2_with (refine wpList_var 87 [.pointer none] _ rfl rfl Tryz.zeroEz rfl ?_)
  intro w2 hb hbel; have HS := Lib.hid (HS.out.push hb hbel); have hlt2 := hb.lt; clear hb hbel
  go_wp2_with (refine (HS.out.get 0 rfl).wstore rfl rfl rfl (cs := [.pointer (some ⟨kp, 0, none⟩)]) rfl Tryz.rowEz rfl rfl (by simp [Value.oneCell']) ?_)
  intro w3 hb3 ho3
  have HS := Lib.hid (HS.out.change 0 hb3 ho3 (by omega) (by simp))
  clear hb3 ho3
  go_wp2_with (refine (HS.out.get 0 rfl).wload rfl rfl rfl Tryz.rowEz rfl ?_)
  go_wp2_with fail
  refine (ezrow_ok kp q p k ao N cap ss bo n cb m back _ (HK.out.later HS.out.bel).key HNN.out hN1 (HST.out.below HS.out.bel) HLEN.out HN.out h1 h31 hcb (HL.out.below HS.out.bel)).mono ?_
  rintro e w4 ⟨v4, rfl, hown4, hbel4⟩
  have HO := Lib.hid (own_le hown4 HS.out.size)
  have HB := Lib.hid (HS.out.bel.trans (hbel4.mono HS.out.size))
  clear hown4 hbel4
  go_wp2
  go_ret2
  exact ⟨_, rfl, HO.out, HB.out⟩

end Go.Proofs.YtbpghohkhngdfaaGreatDoor
/-
  What chacha's functions compute. No program.
-/
set_option linter.unusedVariables false
namespace Go.Cha
open Go.Ops Go.Oct Go.Trn

/-- Turned to the left. -/
def rot32 (x : UInt32) (n : Nat) : UInt32 := or32 (shl32 x n) (shr32 x (32 - n))
structure Four where
  a : UInt32
  b : UInt32
  c : UInt32
  d : UInt32
def q1 (f : Four) (n : Nat) : Four := ⟨add32 f.a f.b, f.b, f.c, rot32 (xor32 f.d (add32 f.a f.b)) n⟩
def q2 (f : Four) (n : Nat) : Four := ⟨f.a, rot32 (xor32 f.b (add32 f.c f.d)) n, add32 f.c f.d, f.d⟩
def quarter (f : Four) : Four := q2 (q1 (q2 (q1 f 16) 12) 8) 7
def quarterAt (s : List UInt32) (i j k l : Nat) : List UInt32 :=
  let f := quarter ⟨at32 s i, at32 s j, at32 s k, at32 s l⟩
  (((s.set i f.a).set j f.b).set k f.c).set l f.d
theorem quarterAt_length (s : List UInt32) (i j k l : Nat) : (quarterAt s i j k l).length = s.length := by simp [quarterAt]
def slantGo (by' : Nat) (s : List UInt32) : Nat → List UInt32
  | 0 => s
  | i + 1 => quarterAt (slantGo by' s i) i (4 + (i + by') % 4) (8 + (i + 2 * by') % 4) (12 + (i + 3 * by') % 4)
theorem slantGo_length (by' : Nat) (s : List UInt32) : ∀ i, (slantGo by' s i).length = s.length
  | 0 => rfl
  | i + 1 => by rw [slantGo, quarterAt_length, slantGo_length by' s i]
def mixGo (s : List UInt32) : Nat → List UInt32
  | 0 => s
  | r + 1 => slantGo 1 (slantGo 0 (mixGo s r) 4) 4
theorem mixGo_length (s : List UInt32) : ∀ r, (mixGo s r).length = s.length
  | 0 => rfl
  | r + 1 => by rw [mixGo, slantGo_length, slantGo_length, mixGo_length s r]
/-- The constant's bytes. -/
def wordsC : List UInt8 := [101, 120, 112, 97, 110, 100, 32, 51, 50, 45, 98, 121, 116, 101, 32, 107]
def startAt (key inn : List UInt8) (r : Nat) : UInt32 :=
  if r < 4 then wordL wordsC (4 * r) else if r < 8 then wordL key (4 * (r - 4)) else if r < 12 then wordL key (4 * (r - 8) + 16) else wordL inn (4 * (r - 12))
def startC (key inn : List UInt8) : List UInt32 := (List.range 16).map (startAt key inn)
theorem startC_length (key inn : List UInt8) : (startC key inn).length = 16 := by simp [startC]
def addAll (t s : List UInt32) : List UInt32 := (List.range 16).map fun i => add32 (at32 t i) (at32 s i)
theorem addAll_length (t s : List UInt32) : (addAll t s).length = 16 := by simp [addAll]
def putAll (l : List UInt32) : List UInt8 := (l.map putWord).flatten
theorem putAll_length : ∀ l : List UInt32, (putAll l).length = 4 * l.length
  | [] => rfl
  | x :: r => by
    have := putAll_length r
    unfold putAll at this ⊢
    rw [List.map_cons, List.flatten_cons, List.length_append, this, List.length_cons]
    simp [putWord]
    omega
def blockC (key inn : List UInt8) (rounds : Nat) : List UInt8 := putAll (addAll (mixGo (startC key inn) (rounds / 2)) (startC key inn))
theorem blockC_length (key inn : List UInt8) (rounds : Nat) : (blockC key inn rounds).length = 64 := by rw [blockC, putAll_length, addAll_length]
def shortC (key inn : List UInt8) (rounds : Nat) : List UInt8 :=
  let t := mixGo (startC key inn) (rounds / 2)
  putAll (t.take 4) ++ putAll (t.drop 12)
theorem shortC_length (key inn : List UInt8) (rounds : Nat) : (shortC key inn rounds).length = 32 := by
  simp [shortC, putAll_length, mixGo_length, startC_length]
/-- The stream's block of a number. -/
def streamAt (key nonce : List UInt8) (rounds : Nat) (many : Nat) : List UInt8 := blockC (shortC key (nonce.take 16) rounds) (putLong (UInt64.ofNat many) ++ nonce.drop 16) rounds
/-- Bytes by exclusive or with the stream from a block on. -/
def cryptGo (key nonce : List UInt8) (rounds : Nat) (many : Nat) (b : List UInt8) : List UInt8 :=
  if h : b.length = 0 then [] else xorL b (streamAt key nonce rounds many) ++ cryptGo key nonce rounds (many + 1) (b.drop 64)
termination_by b.length
decreasing_by simp; omega
def crypt (key nonce : List UInt8) (rounds : Nat) (b : List UInt8) : List UInt8 := cryptGo key nonce rounds 0 b
theorem xorL_length (a b : List UInt8) : (xorL a b).length = min a.length b.length := by simp [xorL]
theorem streamAt_length (key nonce : List UInt8) (rounds many : Nat) : (streamAt key nonce rounds many).length = 64 := blockC_length _ _ _
theorem cryptGo_length (key nonce : List UInt8) (rounds : Nat) : ∀ (n many : Nat) (b : List UInt8), b.length ≤ n → (cryptGo key nonce rounds many b).length = b.length
  | n, many, b, h => by
    unfold cryptGo
    by_cases h0 : b.length = 0
    · rw [dif_pos h0, h0]; rfl
    · rw [dif_neg h0, List.length_append, xorL_length, streamAt_length]
      match n, h with
      | 0, h => omega
      | n + 1, h =>
        rw [cryptGo_length key nonce rounds n (many + 1) (b.drop 64) (by rw [List.length_drop]; omega), List.length_drop]
        omega
theorem crypt_length (key nonce : List UInt8) (rounds : Nat) (b : List UInt8) : (crypt key nonce rounds b).length = b.length := cryptGo_length _ _ _ _ _ _ (Nat.le_refl _)
theorem xor8_self (a b : UInt8) : xor8 (xor8 a b) b = a := by unfold xor8; rw [UInt8.xor_assoc, UInt8.xor_self, UInt8.xor_zero]
theorem at8_get {b : List UInt8} {i : Nat} (h : i < b.length) : b[i]? = some (at8 b i) := by simp [at8, List.getD, h]
theorem xorL_get {a s : List UInt8} {i : Nat} (h : i < min a.length s.length) : (xorL a s)[i]? = some (xor8 (at8 a i) (at8 s i)) := by
  unfold xorL
  rw [List.getElem?_map, List.getElem?_range h]
  rfl
theorem cryptGo_nil (key nonce : List UInt8) (rounds many : Nat) : cryptGo key nonce rounds many [] = [] := by
  unfold cryptGo
  simp
theorem xorL_twice (a s : List UInt8) : xorL (xorL a s) s = a.take s.length := by
  apply List.ext_getElem?
  intro i
  by_cases h : i < min a.length s.length
  · have h1 : (xorL a s)[i]? = some (xor8 (at8 a i) (at8 s i)) := xorL_get h
    have h2 : at8 (xorL a s) i = xor8 (at8 a i) (at8 s i) := by rw [at8, List.getD, h1]; rfl
    have h3 : (xorL (xorL a s) s)[i]? = some (xor8 (at8 (xorL a s) i) (at8 s i)) := xorL_get (by rw [xorL_length]; omega)
    rw [h3, h2, xor8_self, List.getElem?_take, if_pos (by omega), at8_get (by omega)]
  · rw [List.getElem?_eq_none (by rw [xorL_length, xorL_length]; omega), List.getElem?_eq_none (by rw [List.length_take]; omega)]
theorem cryptGo_twice (key nonce : List UInt8) (rounds : Nat) : ∀ (n many : Nat) (b : List UInt8), b.length ≤ n → cryptGo key nonce rounds many (cryptGo key nonce rounds many b) = b
  | n, many, b, h => by
    by_cases h0 : b.length = 0
    · have : b = [] := List.eq_nil_of_length_eq_zero h0
      subst this
      rw [cryptGo_nil, cryptGo_nil]
    · have e : cryptGo key nonce rounds many b = xorL b (streamAt key nonce rounds many) ++ cryptGo key nonce rounds (many + 1) (b.drop 64) := by
        conv => lhs; unfold cryptGo
        rw [dif_neg h0]
      have hl := cryptGo_length key nonce rounds _ many b (Nat.le_refl _)
      have hx := xorL_length b (streamAt key nonce rounds many)
      rw [streamAt_length] at hx
      unfold cryptGo
      rw [dif_neg (by omega)]
      match n, h with
      | 0, h => omega
      | n + 1, h =>
        have ih := cryptGo_twice key nonce rounds n (many + 1) (b.drop 64) (by rw [List.length_drop]; omega)
        by_cases h64 : 64 ≤ b.length
        · have hd : (cryptGo key nonce rounds many b).drop 64 = cryptGo key nonce rounds (many + 1) (b.drop 64) := by
            rw [e, List.drop_append_of_le_length (by omega), List.drop_eq_nil_of_le (by omega), List.nil_append]
          have hxo : xorL (cryptGo key nonce rounds many b) (streamAt key nonce rounds many) = xorL (xorL b (streamAt key nonce rounds many)) (streamAt key nonce rounds many) := by
            rw [e]
            unfold xorL
            have hs := streamAt_length key nonce rounds many
            have hcl := cryptGo_length key nonce rounds _ (many + 1) (b.drop 64) (Nat.le_refl _)
            simp only [List.length_append, List.length_map, List.length_range, hs]
            have e1 : min (min b.length 64 + (cryptGo key nonce rounds (many + 1) (b.drop 64)).length) 64 = 64 := by omega
            have e2 : min (min b.length 64) 64 = 64 := by omega
            rw [e1, e2]
            apply List.map_congr_left
            intro i hi
            have hi := List.mem_range.1 hi
            congr 1
            simp only [at8, List.getD]
            rw [List.getElem?_append_left (by simp; omega)]
          rw [hd, ih, hxo, xorL_twice, streamAt_length, List.take_append_drop]
        · have hz : cryptGo key nonce rounds (many + 1) (b.drop 64) = [] := by
            rw [List.drop_eq_nil_of_le (by omega), cryptGo_nil]
          rw [hz, List.append_nil] at e
          rw [e, xorL_twice, streamAt_length, List.take_of_length_le (by omega), List.drop_eq_nil_of_le (by rw [hx]; omega), cryptGo_nil, List.append_nil]
theorem crypt_twice (key nonce : List UInt8) (rounds : Nat) (b : List UInt8) : crypt key nonce rounds (crypt key nonce rounds b) = b := cryptGo_twice _ _ _ _ _ _ (Nat.le_refl _)
end Go.Cha
/-
  What prime's functions compute: numbers modulo 2^130 - 5, in five parts of 26 bits. No program.
-/
set_option linter.unusedVariables false
namespace Go.Prime
open Go.Ops Go.Oct Go.Blake Go.Trn

theorem toNat_and64 (a : UInt64) : (and64 a 67108863).toNat = a.toNat % 67108864 := by
  unfold and64
  rw [UInt64.toNat_and]
  show a.toNat &&& 67108863 = _
  exact Nat.and_two_pow_sub_one_eq_mod _ 26
theorem toNat_shr64 (a : UInt64) (n : Nat) : (shr64 a n).toNat = a.toNat / 2 ^ n := by
  unfold shr64
  exact UInt64.toNat_ofNat_of_lt' (Nat.lt_of_le_of_lt (Nat.div_le_self _ _) a.toNat_lt)
theorem toNat_add64 (a b : UInt64) (h : a.toNat + b.toNat < 18446744073709551616) : (add64 a b).toNat = a.toNat + b.toNat := by
  unfold add64
  rw [UInt64.toNat_add]
  exact Nat.mod_eq_of_lt h
theorem toNat_mul64 (a b : UInt64) (h : a.toNat * b.toNat < 18446744073709551616) : (mul64 a b).toNat = a.toNat * b.toNat := by
  unfold mul64
  rw [UInt64.toNat_mul]
  exact Nat.mod_eq_of_lt h

/-- The prime. -/
def PP : Nat := 1361129467683753853853498429727072845819
def val5 (l : List UInt64) : Nat := (at64 l 0).toNat + 67108864 * (at64 l 1).toNat + 4503599627370496 * (at64 l 2).toNat + 302231454903657293676544 * (at64 l 3).toNat + 20282409603651670423947251286016 * (at64 l 4).toNat
/-- One part, carried. -/
def carryGo (l : List UInt64) : Nat → List UInt64 × UInt64
  | 0 => (l, 0)
  | i + 1 => ((carryGo l i).1.set i (and64 (add64 (at64 (carryGo l i).1 i) (carryGo l i).2) 67108863), shr64 (add64 (at64 (carryGo l i).1 i) (carryGo l i).2) 26)
def carried (l : List UInt64) : List UInt64 := (carryGo l 5).1.set 0 (add64 (at64 (carryGo l 5).1 0) (mul64 5 (carryGo l 5).2))
theorem carryGo_length (l : List UInt64) : ∀ i, (carryGo l i).1.length = l.length
  | 0 => rfl
  | i + 1 => by rw [carryGo, List.length_set, carryGo_length l i]
theorem carried_length (l : List UInt64) : (carried l).length = l.length := by rw [carried, List.length_set, carryGo_length]
/-- Parts that are not too great; parts in form. -/
def Loose (l : List UInt64) : Prop := l.length = 5 ∧ ∀ i, i < 5 → (at64 l i).toNat < 1152921504606846976
def Tight (l : List UInt64) : Prop := l.length = 5 ∧ ∀ i, i < 5 → (at64 l i).toNat < 67108864
theorem list5 {α : Type} {l : List α} (h : l.length = 5) : ∃ a0 a1 a2 a3 a4, l = [a0, a1, a2, a3, a4] := by
  match l, h with
  | [a0, a1, a2, a3, a4], _ => exact ⟨a0, a1, a2, a3, a4, rfl⟩
theorem Tight.loose {l : List UInt64} (h : Tight l) : Loose l := ⟨h.1, fun i hi => Nat.lt_trans (h.2 i hi) (by decide)⟩

theorem carried_eq (a0 a1 a2 a3 a4 : UInt64) : ∃ x1 x2 x3 x4, x1 = add64 a1 (shr64 (add64 a0 0) 26) ∧ x2 = add64 a2 (shr64 x1 26) ∧ x3 = add64 a3 (shr64 x2 26) ∧ x4 = add64 a4 (shr64 x3 26) ∧
    carried [a0, a1, a2, a3, a4] = [add64 (and64 (add64 a0 0) 67108863) (mul64 5 (shr64 x4 26)), and64 x1 67108863, and64 x2 67108863, and64 x3 67108863, and64 x4 67108863] :=
  ⟨_, _, _, _, rfl, rfl, rfl, rfl, rfl⟩

theorem carried_spec {l : List UInt64} (h : Loose l) : ∃ c, val5 (carried l) + c * PP = val5 l ∧ c < 68719476736 ∧ (∀ i, 0 < i → i < 5 → (at64 (carried l) i).toNat < 67108864) ∧ (at64 (carried l) 0).toNat < 67108864 + 5 * c ∧ Loose (carried l) := by
  obtain ⟨a0, a1, a2, a3, a4, rfl⟩ := list5 h.1
  have h0 : a0.toNat < 1152921504606846976 := h.2 0 (by omega)
  have h1 : a1.toNat < 1152921504606846976 := h.2 1 (by omega)
  have h2 : a2.toNat < 1152921504606846976 := h.2 2 (by omega)
  have h3 : a3.toNat < 1152921504606846976 := h.2 3 (by omega)
  have h4 : a4.toNat < 1152921504606846976 := h.2 4 (by omega)
  obtain ⟨x1, x2, x3, x4, e1, e2, e3, e4, hc⟩ := carried_eq a0 a1 a2 a3 a4
  have f0 : (add64 a0 0).toNat = a0.toNat := by rw [toNat_add64 _ _ (by simp; omega)]; rfl
  have f1 : x1.toNat = a1.toNat + a0.toNat / 67108864 := by
    rw [e1, toNat_add64, toNat_shr64, f0]
    rw [toNat_shr64, f0]; omega
  have f2 : x2.toNat = a2.toNat + x1.toNat / 67108864 := by
    rw [e2, toNat_add64, toNat_shr64]
    rw [toNat_shr64]; omega
  have f3 : x3.toNat = a3.toNat + x2.toNat / 67108864 := by
    rw [e3, toNat_add64, toNat_shr64]
    rw [toNat_shr64]; omega
  have f4 : x4.toNat = a4.toNat + x3.toNat / 67108864 := by
    rw [e4, toNat_add64, toNat_shr64]
    rw [toNat_shr64]; omega
  have s4 : (shr64 x4 26).toNat = x4.toNat / 67108864 := toNat_shr64 _ _
  have m5 : (mul64 5 (shr64 x4 26)).toNat = 5 * (x4.toNat / 67108864) := by
    rw [toNat_mul64, s4]; rfl
    rw [s4]; show 5 * _ < _; omega
  have g0 : (add64 (and64 (add64 a0 0) 67108863) (mul64 5 (shr64 x4 26))).toNat = a0.toNat % 67108864 + 5 * (x4.toNat / 67108864) := by
    rw [toNat_add64, toNat_and64, f0, m5]
    rw [toNat_and64, f0, m5]; omega
  rw [hc]
  refine ⟨x4.toNat / 67108864, ?_, by omega, ?_, ?_, rfl, ?_⟩
  · simp only [val5, at64, List.getD_cons_zero, List.getD_cons_succ, g0, toNat_and64, PP]
    omega
  · intro i hi0 hi
    match i, hi0, hi with
    | 1, _, _ => simp only [at64, List.getD_cons_zero, List.getD_cons_succ, toNat_and64]; omega
    | 2, _, _ => simp only [at64, List.getD_cons_zero, List.getD_cons_succ, toNat_and64]; omega
    | 3, _, _ => simp only [at64, List.getD_cons_zero, List.getD_cons_succ, toNat_and64]; omega
    | 4, _, _ => simp only [at64, List.getD_cons_zero, List.getD_cons_succ, toNat_and64]; omega
  · simp only [at64, List.getD_cons_zero, g0]; omega
  · intro i hi
    match i, hi with
    | 0, _ => simp only [at64, List.getD_cons_zero, g0]; omega
    | 1, _ => simp only [at64, List.getD_cons_zero, List.getD_cons_succ, toNat_and64]; omega
    | 2, _ => simp only [at64, List.getD_cons_zero, List.getD_cons_succ, toNat_and64]; omega
    | 3, _ => simp only [at64, List.getD_cons_zero, List.getD_cons_succ, toNat_and64]; omega
    | 4, _ => simp only [at64, List.getD_cons_zero, List.getD_cons_succ, toNat_and64]; omega

theorem carried_tight {l : List UInt64} (h : Tight l) : carried l = l := by
  obtain ⟨a0, a1, a2, a3, a4, rfl⟩ := list5 h.1
  have h0 : a0.toNat < 67108864 := h.2 0 (by omega)
  have h1 : a1.toNat < 67108864 := h.2 1 (by omega)
  have h2 : a2.toNat < 67108864 := h.2 2 (by omega)
  have h3 : a3.toNat < 67108864 := h.2 3 (by omega)
  have h4 : a4.toNat < 67108864 := h.2 4 (by omega)
  have add0 : ∀ x : UInt64, add64 x 0 = x := fun x => UInt64.add_zero x
  have shr0 : ∀ x : UInt64, x.toNat < 67108864 → shr64 x 26 = 0 := fun x hx => UInt64.toNat_inj.1 (by rw [toNat_shr64]; show _ = 0; omega)
  have and0 : ∀ x : UInt64, x.toNat < 67108864 → and64 x 67108863 = x := fun x hx => UInt64.toNat_inj.1 (by rw [toNat_and64]; omega)
  obtain ⟨x1, x2, x3, x4, e1, e2, e3, e4, hc⟩ := carried_eq a0 a1 a2 a3 a4
  have f1 : x1 = a1 := by rw [e1, add0, shr0 _ h0, add0]
  have f2 : x2 = a2 := by rw [e2, f1, shr0 _ h1, add0]
  have f3 : x3 = a3 := by rw [e3, f2, shr0 _ h2, add0]
  have f4 : x4 = a4 := by rw [e4, f3, shr0 _ h3, add0]
  rw [hc, f1, f2, f3, f4, shr0 _ h4, add0, and0 _ h0, and0 _ h1, and0 _ h2, and0 _ h3, and0 _ h4]
  rw [show mul64 5 0 = 0 from rfl, add0]

instance (l : List UInt64) : Decidable (∀ i, i < 5 → (at64 l i).toNat < 67108864) := inferInstance
/-- By what each round comes closer. -/
def meas (l : List UInt64) : Nat := 2 * val5 l + if (∀ i, i < 5 → (at64 l i).toNat < 67108864) then 0 else 1
theorem meas_less {l : List UInt64} (h : Loose l) (hne : carried l ≠ l) : meas (carried l) < meas l := by
  obtain ⟨c, h1, h2, h3, h4, h5⟩ := carried_spec h
  unfold meas
  by_cases hc : c = 0
  · subst hc
    have hv : val5 (carried l) = val5 l := by simpa using h1
    have ht : ∀ i, i < 5 → (at64 (carried l) i).toNat < 67108864 := by
      intro i hi
      by_cases e : i = 0
      · subst e; simpa using h4
      · exact h3 i (by omega) hi
    have hn : ¬ ∀ i, i < 5 → (at64 l i).toNat < 67108864 := fun hall => hne (carried_tight ⟨h.1, hall⟩)
    rw [if_pos ht, if_neg hn, hv]
    omega
  · have hp : PP ≤ c * PP := Nat.le_mul_of_pos_left _ (by omega)
    have hpp : 1 ≤ PP := by decide
    split <;> split <;> omega
theorem tight_of_carried {l : List UInt64} (h : Loose l) (he : carried l = l) : Tight l := by
  obtain ⟨c, h1, h2, h3, h4, h5⟩ := carried_spec h
  rw [he] at h1 h3 h4
  have hc : c = 0 := by
    rcases Nat.eq_zero_or_pos c with h | h
    · exact h
    · have hp : PP ≤ c * PP := Nat.le_mul_of_pos_left _ h
      have hpp : 1 ≤ PP := by decide
      omega
  subst hc
  refine ⟨h.1, fun i hi => ?_⟩
  by_cases e : i = 0
  · subst e; simpa using h4
  · exact h3 i (by omega) hi
theorem carried_mod {l : List UInt64} (h : Loose l) : val5 (carried l) % PP = val5 l % PP := by
  obtain ⟨c, h1, _⟩ := carried_spec h
  rw [← h1, Nat.add_mul_mod_self_right]

/-- A number's five parts. -/
def numOf (n : Nat) : List UInt32 := [UInt32.ofNat (n % 67108864), UInt32.ofNat (n / 67108864 % 67108864), UInt32.ofNat (n / 4503599627370496 % 67108864), UInt32.ofNat (n / 302231454903657293676544 % 67108864), UInt32.ofNat (n / 20282409603651670423947251286016 % 67108864)]
theorem numOf_length (n : Nat) : (numOf n).length = 5 := rfl
def low32 (l : List UInt64) : List UInt32 := [lo64_32 (at64 l 0), lo64_32 (at64 l 1), lo64_32 (at64 l 2), lo64_32 (at64 l 3), lo64_32 (at64 l 4)]
/-- The prime taken away once more, if it fits. -/
def cutP (l : List UInt64) : List UInt64 := if (at64 l 1 = 67108863 ∧ at64 l 2 = 67108863 ∧ at64 l 3 = 67108863 ∧ at64 l 4 = 67108863) ∧ 67108858 < (at64 l 0).toNat then [sub64 (at64 l 0) 67108859, 0, 0, 0, 0] else l
theorem low32_tight {l : List UInt64} (h : Tight l) : low32 l = numOf (val5 l) := by
  obtain ⟨a0, a1, a2, a3, a4, rfl⟩ := list5 h.1
  have h0 : a0.toNat < 67108864 := h.2 0 (by omega)
  have h1 : a1.toNat < 67108864 := h.2 1 (by omega)
  have h2 : a2.toNat < 67108864 := h.2 2 (by omega)
  have h3 : a3.toNat < 67108864 := h.2 3 (by omega)
  have h4 : a4.toNat < 67108864 := h.2 4 (by omega)
  simp only [low32, numOf, val5, lo64_32, at64, List.getD_cons_zero, List.getD_cons_succ]
  congr 1
  · congr 1; omega
  congr 1
  · congr 1; omega
  congr 1
  · congr 1; omega
  congr 1
  · congr 1; omega
  congr 1
  · congr 1; omega
theorem cutP_spec {l : List UInt64} (h : Tight l) : low32 (cutP l) = numOf (val5 l % PP) := by
  obtain ⟨a0, a1, a2, a3, a4, rfl⟩ := list5 h.1
  have h0 : a0.toNat < 67108864 := h.2 0 (by omega)
  have h1 : a1.toNat < 67108864 := h.2 1 (by omega)
  have h2 : a2.toNat < 67108864 := h.2 2 (by omega)
  have h3 : a3.toNat < 67108864 := h.2 3 (by omega)
  have h4 : a4.toNat < 67108864 := h.2 4 (by omega)
  unfold cutP
  by_cases hc : (at64 [a0, a1, a2, a3, a4] 1 = 67108863 ∧ at64 [a0, a1, a2, a3, a4] 2 = 67108863 ∧ at64 [a0, a1, a2, a3, a4] 3 = 67108863 ∧ at64 [a0, a1, a2, a3, a4] 4 = 67108863) ∧ 67108858 < (at64 [a0, a1, a2, a3, a4] 0).toNat
  · rw [if_pos hc]
    simp only [at64, List.getD_cons_zero, List.getD_cons_succ] at hc ⊢
    obtain ⟨⟨rfl, rfl, rfl, rfl⟩, h5⟩ := hc
    have hs : (sub64 a0 67108859).toNat = a0.toNat - 67108859 := by
      unfold sub64
      exact UInt64.toNat_sub_of_le _ _ (by rw [UInt64.le_iff_toNat_le]; show 67108859 ≤ a0.toNat; omega)
    have hm : (67108863 : UInt64).toNat = 67108863 := rfl
    have hv : val5 [a0, 67108863, 67108863, 67108863, 67108863] % PP = a0.toNat - 67108859 := by
      simp only [val5, at64, List.getD_cons_zero, List.getD_cons_succ, hm, PP]
      omega
    have ht : Tight [sub64 a0 67108859, 0, 0, 0, 0] := by
      refine ⟨rfl, fun i hi => ?_⟩
      match i, hi with
      | 0, _ => simp only [at64, List.getD_cons_zero, hs]; omega
      | 1, _ => exact (by decide : (0 : UInt64).toNat < 67108864)
      | 2, _ => exact (by decide : (0 : UInt64).toNat < 67108864)
      | 3, _ => exact (by decide : (0 : UInt64).toNat < 67108864)
      | 4, _ => exact (by decide : (0 : UInt64).toNat < 67108864)
    have hv2 : val5 [sub64 a0 67108859, 0, 0, 0, 0] = a0.toNat - 67108859 := by
      have hz : (0 : UInt64).toNat = 0 := rfl
      simp only [val5, at64, List.getD_cons_zero, List.getD_cons_succ, hs, hz]
      omega
    rw [low32_tight ht, hv, hv2]
  · rw [if_neg hc, low32_tight h]
    congr 1
    symm
    apply Nat.mod_eq_of_lt
    simp only [at64, List.getD_cons_zero, List.getD_cons_succ] at hc
    by_cases e : a1.toNat = 67108863 ∧ a2.toNat = 67108863 ∧ a3.toNat = 67108863 ∧ a4.toNat = 67108863
    · have h5 : ¬ 67108858 < a0.toNat := fun h6 => hc ⟨⟨UInt64.toNat_inj.1 e.1, UInt64.toNat_inj.1 e.2.1, UInt64.toNat_inj.1 e.2.2.1, UInt64.toNat_inj.1 e.2.2.2⟩, h6⟩
      simp only [val5, at64, List.getD_cons_zero, List.getD_cons_succ, PP]
      omega
    · simp only [val5, at64, List.getD_cons_zero, List.getD_cons_succ, PP]
      omega
end Go.Prime
/-
  What prime's sums and products compute. No program.
-/
set_option linter.unusedVariables false
namespace Go.Prime
open Go.Ops Go.Oct Go.Blake Go.Trn

def looseOf (l : List UInt32) : List UInt64 := [up32_64 (at32 l 0), up32_64 (at32 l 1), up32_64 (at32 l 2), up32_64 (at32 l 3), up32_64 (at32 l 4)]
theorem toNat_up32 (x : UInt32) : (up32_64 x).toNat = x.toNat := by
  unfold up32_64
  exact UInt64.toNat_ofNat_of_lt' (Nat.lt_trans x.toNat_lt (by decide))
theorem looseOf_tight (n : Nat) : Tight (looseOf (numOf n)) := by
  refine ⟨rfl, fun i hi => ?_⟩
  match i, hi with
  | 0, _ => show (up32_64 _).toNat < _; rw [toNat_up32, at32, numOf, List.getD_cons_zero, UInt32.toNat_ofNat_of_lt' (by show _ < 4294967296; omega)]; omega
  | 1, _ => show (up32_64 _).toNat < _; rw [toNat_up32, at32, numOf, List.getD_cons_succ, List.getD_cons_zero, UInt32.toNat_ofNat_of_lt' (by show _ < 4294967296; omega)]; omega
  | 2, _ => show (up32_64 _).toNat < _; rw [toNat_up32, at32, numOf, List.getD_cons_succ, List.getD_cons_succ, List.getD_cons_zero, UInt32.toNat_ofNat_of_lt' (by show _ < 4294967296; omega)]; omega
  | 3, _ => show (up32_64 _).toNat < _; rw [toNat_up32, at32, numOf, List.getD_cons_succ, List.getD_cons_succ, List.getD_cons_succ, List.getD_cons_zero, UInt32.toNat_ofNat_of_lt' (by show _ < 4294967296; omega)]; omega
  | 4, _ => show (up32_64 _).toNat < _; rw [toNat_up32, at32, numOf, List.getD_cons_succ, List.getD_cons_succ, List.getD_cons_succ, List.getD_cons_succ, List.getD_cons_zero, UInt32.toNat_ofNat_of_lt' (by show _ < 4294967296; omega)]; omega
theorem looseOf_val {n : Nat} (h : n < 1361129467683753853853498429727072845824) : val5 (looseOf (numOf n)) = n := by
  have e0 : ∀ m : Nat, (UInt32.ofNat (m % 67108864)).toNat = m % 67108864 := fun m => UInt32.toNat_ofNat_of_lt' (by show _ < 4294967296; omega)
  simp only [val5, looseOf, numOf, at64, at32, List.getD_cons_zero, List.getD_cons_succ, toNat_up32, e0]
  omega
/-- A sum. -/
def plusL (a b : List UInt64) : List UInt64 := [add64 (at64 a 0) (at64 b 0), add64 (at64 a 1) (at64 b 1), add64 (at64 a 2) (at64 b 2), add64 (at64 a 3) (at64 b 3), add64 (at64 a 4) (at64 b 4)]
theorem plusL_spec {a b : List UInt64} (ha : Tight a) (hb : Tight b) : Loose (plusL a b) ∧ val5 (plusL a b) = val5 a + val5 b := by
  have e : ∀ i, i < 5 → (add64 (at64 a i) (at64 b i)).toNat = (at64 a i).toNat + (at64 b i).toNat := fun i hi => toNat_add64 _ _ (by have := ha.2 i hi; have := hb.2 i hi; omega)
  constructor
  · refine ⟨rfl, fun i hi => ?_⟩
    have h1 := ha.2 i hi
    have h2 := hb.2 i hi
    have h3 := e i hi
    match i, hi with
    | 0, _ => show (add64 _ _).toNat < _; omega
    | 1, _ => show (add64 _ _).toNat < _; omega
    | 2, _ => show (add64 _ _).toNat < _; omega
    | 3, _ => show (add64 _ _).toNat < _; omega
    | 4, _ => show (add64 _ _).toNat < _; omega
  · have e0 := e 0 (by omega); have e1 := e 1 (by omega); have e2 := e 2 (by omega); have e3 := e 3 (by omega); have e4 := e 4 (by omega)
    have hd : ∀ x0 x1 x2 x3 x4 : UInt64, val5 [x0, x1, x2, x3, x4] = x0.toNat + 67108864 * x1.toNat + 4503599627370496 * x2.toNat + 302231454903657293676544 * x3.toNat + 20282409603651670423947251286016 * x4.toNat := fun _ _ _ _ _ => rfl
    unfold plusL
    rw [hd, e0, e1, e2, e3, e4]
    unfold val5
    omega
/-- One product, where it belongs. -/
def termL (a b : List UInt64) (i j : Nat) : UInt64 := if 5 ≤ i + j then mul64 (mul64 (at64 a i) (at64 b j)) 5 else mul64 (at64 a i) (at64 b j)
def stepL (a b w : List UInt64) (i j : Nat) : List UInt64 := w.set ((i + j) % 5) (add64 (at64 w ((i + j) % 5)) (termL a b i j))
def rowL (a b w : List UInt64) (i : Nat) : Nat → List UInt64
  | 0 => w
  | j + 1 => stepL a b (rowL a b w i j) i j
def timesL (a b w : List UInt64) : Nat → List UInt64
  | 0 => w
  | i + 1 => rowL a b (timesL a b w i) i 5
theorem stepL_length (a b w : List UInt64) (i j : Nat) : (stepL a b w i j).length = w.length := by simp [stepL]
theorem rowL_length (a b w : List UInt64) (i : Nat) : ∀ j, (rowL a b w i j).length = w.length
  | 0 => rfl
  | j + 1 => by rw [rowL, stepL_length, rowL_length a b w i j]
theorem timesL_length (a b w : List UInt64) : ∀ i, (timesL a b w i).length = w.length
  | 0 => rfl
  | i + 1 => by rw [timesL, rowL_length, timesL_length a b w i]
theorem termL_nat {a b : List UInt64} (ha : Tight a) (hb : Tight b) {i j : Nat} (hi : i < 5) (hj : j < 5) : (termL a b i j).toNat = (if 5 ≤ i + j then 5 else 1) * ((at64 a i).toNat * (at64 b j).toNat) ∧ (at64 a i).toNat * (at64 b j).toNat ≤ 4503599627370496 := by
  have h1 := ha.2 i hi
  have h2 := hb.2 j hj
  have hm : (at64 a i).toNat * (at64 b j).toNat ≤ 67108864 * 67108864 := Nat.mul_le_mul (by omega) (by omega)
  have hp : (mul64 (at64 a i) (at64 b j)).toNat = (at64 a i).toNat * (at64 b j).toNat := toNat_mul64 _ _ (by omega)
  refine ⟨?_, by omega⟩
  unfold termL
  split
  · rw [toNat_mul64 _ _ (by rw [hp]; show _ * 5 < _; omega), hp]
    show _ * 5 = _
    omega
  · rw [hp]; omega

attribute [local irreducible] termL add64 in
theorem rowL_0 (a b : List UInt64) (w0 w1 w2 w3 w4 : UInt64) : rowL a b [w0, w1, w2, w3, w4] 0 5 = [add64 w0 (termL a b 0 0), add64 w1 (termL a b 0 1), add64 w2 (termL a b 0 2), add64 w3 (termL a b 0 3), add64 w4 (termL a b 0 4)] := rfl
attribute [local irreducible] termL add64 in
theorem rowL_1 (a b : List UInt64) (w0 w1 w2 w3 w4 : UInt64) : rowL a b [w0, w1, w2, w3, w4] 1 5 = [add64 w0 (termL a b 1 4), add64 w1 (termL a b 1 0), add64 w2 (termL a b 1 1), add64 w3 (termL a b 1 2), add64 w4 (termL a b 1 3)] := rfl
attribute [local irreducible] termL add64 in
theorem rowL_2 (a b : List UInt64) (w0 w1 w2 w3 w4 : UInt64) : rowL a b [w0, w1, w2, w3, w4] 2 5 = [add64 w0 (termL a b 2 3), add64 w1 (termL a b 2 4), add64 w2 (termL a b 2 0), add64 w3 (termL a b 2 1), add64 w4 (termL a b 2 2)] := rfl
attribute [local irreducible] termL add64 in
theorem rowL_3 (a b : List UInt64) (w0 w1 w2 w3 w4 : UInt64) : rowL a b [w0, w1, w2, w3, w4] 3 5 = [add64 w0 (termL a b 3 2), add64 w1 (termL a b 3 3), add64 w2 (termL a b 3 4), add64 w3 (termL a b 3 0), add64 w4 (termL a b 3 1)] := rfl
attribute [local irreducible] termL add64 in
theorem rowL_4 (a b : List UInt64) (w0 w1 w2 w3 w4 : UInt64) : rowL a b [w0, w1, w2, w3, w4] 4 5 = [add64 w0 (termL a b 4 1), add64 w1 (termL a b 4 2), add64 w2 (termL a b 4 3), add64 w3 (termL a b 4 4), add64 w4 (termL a b 4 0)] := rfl
theorem timesL_eq (a b : List UInt64) : timesL a b [0, 0, 0, 0, 0] 5 = [add64 (add64 (add64 (add64 (add64 0 (termL a b 0 0)) (termL a b 1 4)) (termL a b 2 3)) (termL a b 3 2)) (termL a b 4 1), add64 (add64 (add64 (add64 (add64 0 (termL a b 0 1)) (termL a b 1 0)) (termL a b 2 4)) (termL a b 3 3)) (termL a b 4 2), add64 (add64 (add64 (add64 (add64 0 (termL a b 0 2)) (termL a b 1 1)) (termL a b 2 0)) (termL a b 3 4)) (termL a b 4 3), add64 (add64 (add64 (add64 (add64 0 (termL a b 0 3)) (termL a b 1 2)) (termL a b 2 1)) (termL a b 3 0)) (termL a b 4 4), add64 (add64 (add64 (add64 (add64 0 (termL a b 0 4)) (termL a b 1 3)) (termL a b 2 2)) (termL a b 3 1)) (termL a b 4 0)] := by
  rw [timesL, timesL, timesL, timesL, timesL, timesL, rowL_0, rowL_1, rowL_2, rowL_3, rowL_4]
theorem sum5 {x0 x1 x2 x3 x4 : UInt64} (h0 : x0.toNat ≤ 22517998136852480) (h1 : x1.toNat ≤ 22517998136852480) (h2 : x2.toNat ≤ 22517998136852480) (h3 : x3.toNat ≤ 22517998136852480) (h4 : x4.toNat ≤ 22517998136852480) :
    (add64 (add64 (add64 (add64 (add64 0 x0) x1) x2) x3) x4).toNat = x0.toNat + x1.toNat + x2.toNat + x3.toNat + x4.toNat := by
  have z : (0 : UInt64).toNat = 0 := rfl
  have e0 : (add64 0 x0).toNat = x0.toNat := by rw [toNat_add64 _ _ (by omega), z]; omega
  have e1 : (add64 (add64 0 x0) x1).toNat = x0.toNat + x1.toNat := by rw [toNat_add64 _ _ (by omega), e0]
  have e2 : (add64 (add64 (add64 0 x0) x1) x2).toNat = x0.toNat + x1.toNat + x2.toNat := by rw [toNat_add64 _ _ (by omega), e1]
  have e3 : (add64 (add64 (add64 (add64 0 x0) x1) x2) x3).toNat = x0.toNat + x1.toNat + x2.toNat + x3.toNat := by rw [toNat_add64 _ _ (by omega), e2]
  rw [toNat_add64 _ _ (by omega), e3]
theorem timesL_spec {a b : List UInt64} (ha : Tight a) (hb : Tight b) : Loose (timesL a b [0, 0, 0, 0, 0] 5) ∧ val5 (timesL a b [0, 0, 0, 0, 0] 5) % PP = val5 a * val5 b % PP := by
  have T := fun i j (hi : i < 5) (hj : j < 5) => termL_nat ha hb hi hj
  have bound : ∀ i j, i < 5 → j < 5 → (termL a b i j).toNat ≤ 22517998136852480 := by
    intro i j hi hj
    obtain ⟨h1, h2⟩ := T i j hi hj
    rw [h1]
    split <;> omega
  have s0 := sum5 (bound 0 0 (by omega) (by omega)) (bound 1 4 (by omega) (by omega)) (bound 2 3 (by omega) (by omega)) (bound 3 2 (by omega) (by omega)) (bound 4 1 (by omega) (by omega))
  have s1 := sum5 (bound 0 1 (by omega) (by omega)) (bound 1 0 (by omega) (by omega)) (bound 2 4 (by omega) (by omega)) (bound 3 3 (by omega) (by omega)) (bound 4 2 (by omega) (by omega))
  have s2 := sum5 (bound 0 2 (by omega) (by omega)) (bound 1 1 (by omega) (by omega)) (bound 2 0 (by omega) (by omega)) (bound 3 4 (by omega) (by omega)) (bound 4 3 (by omega) (by omega))
  have s3 := sum5 (bound 0 3 (by omega) (by omega)) (bound 1 2 (by omega) (by omega)) (bound 2 1 (by omega) (by omega)) (bound 3 0 (by omega) (by omega)) (bound 4 4 (by omega) (by omega))
  have s4 := sum5 (bound 0 4 (by omega) (by omega)) (bound 1 3 (by omega) (by omega)) (bound 2 2 (by omega) (by omega)) (bound 3 1 (by omega) (by omega)) (bound 4 0 (by omega) (by omega))
  have t00 : (termL a b 0 0).toNat = ((at64 a 0).toNat * (at64 b 0).toNat) := by rw [(T 0 0 (by omega) (by omega)).1]; simp
  have t01 : (termL a b 0 1).toNat = ((at64 a 0).toNat * (at64 b 1).toNat) := by rw [(T 0 1 (by omega) (by omega)).1]; simp
  have t02 : (termL a b 0 2).toNat = ((at64 a 0).toNat * (at64 b 2).toNat) := by rw [(T 0 2 (by omega) (by omega)).1]; simp
  have t03 : (termL a b 0 3).toNat = ((at64 a 0).toNat * (at64 b 3).toNat) := by rw [(T 0 3 (by omega) (by omega)).1]; simp
  have t04 : (termL a b 0 4).toNat = ((at64 a 0).toNat * (at64 b 4).toNat) := by rw [(T 0 4 (by omega) (by omega)).1]; simp
  have t10 : (termL a b 1 0).toNat = ((at64 a 1).toNat * (at64 b 0).toNat) := by rw [(T 1 0 (by omega) (by omega)).1]; simp
  have t11 : (termL a b 1 1).toNat = ((at64 a 1).toNat * (at64 b 1).toNat) := by rw [(T 1 1 (by omega) (by omega)).1]; simp
  have t12 : (termL a b 1 2).toNat = ((at64 a 1).toNat * (at64 b 2).toNat) := by rw [(T 1 2 (by omega) (by omega)).1]; simp
  have t13 : (termL a b 1 3).toNat = ((at64 a 1).toNat * (at64 b 3).toNat) := by rw [(T 1 3 (by omega) (by omega)).1]; simp
  have t14 : (termL a b 1 4).toNat = 5 * ((at64 a 1).toNat * (at64 b 4).toNat) := by rw [(T 1 4 (by omega) (by omega)).1]; simp
  have t20 : (termL a b 2 0).toNat = ((at64 a 2).toNat * (at64 b 0).toNat) := by rw [(T 2 0 (by omega) (by omega)).1]; simp
  have t21 : (termL a b 2 1).toNat = ((at64 a 2).toNat * (at64 b 1).toNat) := by rw [(T 2 1 (by omega) (by omega)).1]; simp
  have t22 : (termL a b 2 2).toNat = ((at64 a 2).toNat * (at64 b 2).toNat) := by rw [(T 2 2 (by omega) (by omega)).1]; simp
  have t23 : (termL a b 2 3).toNat = 5 * ((at64 a 2).toNat * (at64 b 3).toNat) := by rw [(T 2 3 (by omega) (by omega)).1]; simp
  have t24 : (termL a b 2 4).toNat = 5 * ((at64 a 2).toNat * (at64 b 4).toNat) := by rw [(T 2 4 (by omega) (by omega)).1]; simp
  have t30 : (termL a b 3 0).toNat = ((at64 a 3).toNat * (at64 b 0).toNat) := by rw [(T 3 0 (by omega) (by omega)).1]; simp
  have t31 : (termL a b 3 1).toNat = ((at64 a 3).toNat * (at64 b 1).toNat) := by rw [(T 3 1 (by omega) (by omega)).1]; simp
  have t32 : (termL a b 3 2).toNat = 5 * ((at64 a 3).toNat * (at64 b 2).toNat) := by rw [(T 3 2 (by omega) (by omega)).1]; simp
  have t33 : (termL a b 3 3).toNat = 5 * ((at64 a 3).toNat * (at64 b 3).toNat) := by rw [(T 3 3 (by omega) (by omega)).1]; simp
  have t34 : (termL a b 3 4).toNat = 5 * ((at64 a 3).toNat * (at64 b 4).toNat) := by rw [(T 3 4 (by omega) (by omega)).1]; simp
  have t40 : (termL a b 4 0).toNat = ((at64 a 4).toNat * (at64 b 0).toNat) := by rw [(T 4 0 (by omega) (by omega)).1]; simp
  have t41 : (termL a b 4 1).toNat = 5 * ((at64 a 4).toNat * (at64 b 1).toNat) := by rw [(T 4 1 (by omega) (by omega)).1]; simp
  have t42 : (termL a b 4 2).toNat = 5 * ((at64 a 4).toNat * (at64 b 2).toNat) := by rw [(T 4 2 (by omega) (by omega)).1]; simp
  have t43 : (termL a b 4 3).toNat = 5 * ((at64 a 4).toNat * (at64 b 3).toNat) := by rw [(T 4 3 (by omega) (by omega)).1]; simp
  have t44 : (termL a b 4 4).toNat = 5 * ((at64 a 4).toNat * (at64 b 4).toNat) := by rw [(T 4 4 (by omega) (by omega)).1]; simp
  have hd : ∀ x0 x1 x2 x3 x4 : UInt64, val5 [x0, x1, x2, x3, x4] = x0.toNat + 67108864 * x1.toNat + 4503599627370496 * x2.toNat + 302231454903657293676544 * x3.toNat + 20282409603651670423947251286016 * x4.toNat := fun _ _ _ _ _ => rfl
  rw [timesL_eq]
  refine ⟨⟨rfl, fun i hi => ?_⟩, ?_⟩
  · match i, hi with
    | 0, _ => show (add64 _ _).toNat < _; rw [s0]; have := bound 0 0 (by omega) (by omega); have := bound 1 4 (by omega) (by omega); have := bound 2 3 (by omega) (by omega); have := bound 3 2 (by omega) (by omega); have := bound 4 1 (by omega) (by omega); omega
    | 1, _ => show (add64 _ _).toNat < _; rw [s1]; have := bound 0 1 (by omega) (by omega); have := bound 1 0 (by omega) (by omega); have := bound 2 4 (by omega) (by omega); have := bound 3 3 (by omega) (by omega); have := bound 4 2 (by omega) (by omega); omega
    | 2, _ => show (add64 _ _).toNat < _; rw [s2]; have := bound 0 2 (by omega) (by omega); have := bound 1 1 (by omega) (by omega); have := bound 2 0 (by omega) (by omega); have := bound 3 4 (by omega) (by omega); have := bound 4 3 (by omega) (by omega); omega
    | 3, _ => show (add64 _ _).toNat < _; rw [s3]; have := bound 0 3 (by omega) (by omega); have := bound 1 2 (by omega) (by omega); have := bound 2 1 (by omega) (by omega); have := bound 3 0 (by omega) (by omega); have := bound 4 4 (by omega) (by omega); omega
    | 4, _ => show (add64 _ _).toNat < _; rw [s4]; have := bound 0 4 (by omega) (by omega); have := bound 1 3 (by omega) (by omega); have := bound 2 2 (by omega) (by omega); have := bound 3 1 (by omega) (by omega); have := bound 4 0 (by omega) (by omega); omega
  · rw [hd, s0, s1, s2, s3, s4]
    unfold val5
    rw [t00, t01, t02, t03, t04, t10, t11, t12, t13, t14, t20, t21, t22, t23, t24, t30, t31, t32, t33, t34, t40, t41, t42, t43, t44]
    generalize (at64 a 0).toNat = a0
    generalize (at64 b 0).toNat = b0
    generalize (at64 a 1).toNat = a1
    generalize (at64 b 1).toNat = b1
    generalize (at64 a 2).toNat = a2
    generalize (at64 b 2).toNat = b2
    generalize (at64 a 3).toNat = a3
    generalize (at64 b 3).toNat = b3
    generalize (at64 a 4).toNat = a4
    generalize (at64 b 4).toNat = b4
    have key : (a0 + 67108864 * a1 + 4503599627370496 * a2 + 302231454903657293676544 * a3 + 20282409603651670423947251286016 * a4) * (b0 + 67108864 * b1 + 4503599627370496 * b2 + 302231454903657293676544 * b3 + 20282409603651670423947251286016 * b4) = ((a0 * b0 + 5 * (a1 * b4) + 5 * (a2 * b3) + 5 * (a3 * b2) + 5 * (a4 * b1)) + 67108864 * (a0 * b1 + a1 * b0 + 5 * (a2 * b4) + 5 * (a3 * b3) + 5 * (a4 * b2)) + 4503599627370496 * (a0 * b2 + a1 * b1 + a2 * b0 + 5 * (a3 * b4) + 5 * (a4 * b3)) + 302231454903657293676544 * (a0 * b3 + a1 * b2 + a2 * b1 + a3 * b0 + 5 * (a4 * b4)) + 20282409603651670423947251286016 * (a0 * b4 + a1 * b3 + a2 * b2 + a3 * b1 + a4 * b0)) + ((a1 * b4 + a2 * b3 + a3 * b2 + a4 * b1) + 67108864 * (a2 * b4 + a3 * b3 + a4 * b2) + 4503599627370496 * (a3 * b4 + a4 * b3) + 302231454903657293676544 * (a4 * b4)) * PP := by
      unfold PP
      grind
    rw [key, Nat.add_mul_mod_self_right]

theorem toNat_shl64 (a : UInt64) (n : Nat) : (shl64 a n).toNat = a.toNat * 2 ^ n % 18446744073709551616 := by
  unfold shl64
  exact UInt64.toNat_ofNat'
theorem toNat_or64 (a b : UInt64) (k : Nat) (ha : a.toNat < 2 ^ k) (hb : b.toNat % 2 ^ k = 0) : (or64 a b).toNat = a.toNat + b.toNat := by
  unfold or64
  rw [UInt64.toNat_or]
  obtain ⟨q, hq⟩ : ∃ q, b.toNat = 2 ^ k * q := ⟨b.toNat / 2 ^ k, by have := Nat.div_add_mod b.toNat (2 ^ k); omega⟩
  rw [hq, Nat.or_comm, ← Nat.two_pow_add_eq_or_of_lt ha, Nat.add_comm]
/-- Of bytes. -/
def ofL (lo hi : UInt64) (high : UInt32) : List UInt64 := [and64 lo 67108863, and64 (shr64 lo 26) 67108863, and64 (or64 (shr64 lo 52) (shl64 hi 12)) 67108863, and64 (shr64 hi 14) 67108863, or64 (shr64 hi 40) (shl64 (up32_64 high) 24)]
theorem ofL_spec (lo hi : UInt64) (high : UInt32) (hh : high.toNat ≤ 1) : Loose (ofL lo hi high) ∧ val5 (ofL lo hi high) = lo.toNat + 18446744073709551616 * hi.toNat + 340282366920938463463374607431768211456 * high.toNat := by
  have hl := lo.toNat_lt
  have hi' := hi.toNat_lt
  have p2 : (or64 (shr64 lo 52) (shl64 hi 12)).toNat = lo.toNat / 4503599627370496 + hi.toNat * 4096 % 18446744073709551616 := by
    rw [toNat_or64 _ _ 12 (by rw [toNat_shr64]; show _ / 4503599627370496 < 4096; omega) (by rw [toNat_shl64]; show _ * 4096 % 18446744073709551616 % 4096 = 0; omega), toNat_shr64, toNat_shl64]
  have p4 : (or64 (shr64 hi 40) (shl64 (up32_64 high) 24)).toNat = hi.toNat / 1099511627776 + high.toNat * 16777216 := by
    have e : (shl64 (up32_64 high) 24).toNat = high.toNat * 16777216 := by
      rw [toNat_shl64, toNat_up32]
      show _ * 16777216 % _ = _
      omega
    rw [toNat_or64 _ _ 24 (by rw [toNat_shr64]; show _ / 1099511627776 < 16777216; omega) (by rw [e]; show _ * 16777216 % 16777216 = 0; omega), toNat_shr64, e]
  have q0 : (and64 lo 67108863).toNat = lo.toNat % 67108864 := toNat_and64 _
  have q1 : (and64 (shr64 lo 26) 67108863).toNat = lo.toNat / 67108864 % 67108864 := by rw [toNat_and64, toNat_shr64]
  have q2 : (and64 (or64 (shr64 lo 52) (shl64 hi 12)) 67108863).toNat = (lo.toNat / 4503599627370496 + hi.toNat * 4096 % 18446744073709551616) % 67108864 := by rw [toNat_and64, p2]
  have q3 : (and64 (shr64 hi 14) 67108863).toNat = hi.toNat / 16384 % 67108864 := by rw [toNat_and64, toNat_shr64]
  refine ⟨⟨rfl, fun i hi2 => ?_⟩, ?_⟩
  · match i, hi2 with
    | 0, _ => show (and64 _ _).toNat < _; omega
    | 1, _ => show (and64 _ _).toNat < _; omega
    | 2, _ => show (and64 _ _).toNat < _; omega
    | 3, _ => show (and64 _ _).toNat < _; omega
    | 4, _ => show (or64 _ _).toNat < _; omega
  · have hd : ∀ x0 x1 x2 x3 x4 : UInt64, val5 [x0, x1, x2, x3, x4] = x0.toNat + 67108864 * x1.toNat + 4503599627370496 * x2.toNat + 302231454903657293676544 * x3.toNat + 20282409603651670423947251286016 * x4.toNat := fun _ _ _ _ _ => rfl
    unfold ofL
    rw [hd, q0, q1, q2, q3, p4]
    omega
def lowLo (w : List UInt64) : UInt64 := or64 (or64 (at64 w 0) (shl64 (at64 w 1) 26)) (shl64 (at64 w 2) 52)
def lowHi (w : List UInt64) : UInt64 := or64 (or64 (shr64 (at64 w 2) 12) (shl64 (at64 w 3) 14)) (shl64 (at64 w 4) 40)
theorem low_spec {w : List UInt64} (h : Tight w) : lowLo w = UInt64.ofNat (val5 w) ∧ lowHi w = UInt64.ofNat (val5 w / 18446744073709551616) := by
  have h0 := h.2 0 (by omega)
  have h1 := h.2 1 (by omega)
  have h2 := h.2 2 (by omega)
  have h3 := h.2 3 (by omega)
  have h4 := h.2 4 (by omega)
  have s1 : (shl64 (at64 w 1) 26).toNat = (at64 w 1).toNat * 67108864 := by rw [toNat_shl64]; show _ * 67108864 % _ = _; omega
  have s2 : (shl64 (at64 w 2) 52).toNat = (at64 w 2).toNat * 4503599627370496 % 18446744073709551616 := by rw [toNat_shl64]
  have s3 : (shl64 (at64 w 3) 14).toNat = (at64 w 3).toNat * 16384 := by rw [toNat_shl64]; show _ * 16384 % _ = _; omega
  have s4 : (shl64 (at64 w 4) 40).toNat = (at64 w 4).toNat * 1099511627776 % 18446744073709551616 := by rw [toNat_shl64]
  have s5 : (shr64 (at64 w 2) 12).toNat = (at64 w 2).toNat / 4096 := toNat_shr64 _ _
  have o1 : (or64 (at64 w 0) (shl64 (at64 w 1) 26)).toNat = (at64 w 0).toNat + (at64 w 1).toNat * 67108864 := by
    rw [toNat_or64 _ _ 26 (by show _ < 67108864; exact h0) (by rw [s1]; show _ * 67108864 % 67108864 = 0; omega), s1]
  have o2 : (or64 (shr64 (at64 w 2) 12) (shl64 (at64 w 3) 14)).toNat = (at64 w 2).toNat / 4096 + (at64 w 3).toNat * 16384 := by
    rw [toNat_or64 _ _ 14 (by rw [s5]; show _ < 16384; omega) (by rw [s3]; show _ * 16384 % 16384 = 0; omega), s3, s5]
  constructor
  · apply UInt64.toNat_inj.1
    unfold lowLo
    rw [toNat_or64 _ _ 52 (by rw [o1]; show _ < 4503599627370496; omega) (by rw [s2]; show _ % 18446744073709551616 % 4503599627370496 = 0; omega), o1, s2, UInt64.toNat_ofNat']
    unfold val5
    show _ = _ % 18446744073709551616
    omega
  · apply UInt64.toNat_inj.1
    unfold lowHi
    rw [toNat_or64 _ _ 40 (by rw [o2]; show _ < 1099511627776; omega) (by rw [s4]; show _ % 18446744073709551616 % 1099511627776 = 0; omega), o2, s4, UInt64.toNat_ofNat']
    unfold val5
    show _ = _ % 18446744073709551616
    omega
/-- What sixteen bytes are as a number, the lowest first. -/
def leN (b : List UInt8) : Nat := (longL b 0).toNat + 18446744073709551616 * (longL b 8).toNat
/-- A number's lowest sixteen bytes. -/
def lowB (n : Nat) : List UInt8 := putLong (UInt64.ofNat n) ++ putLong (UInt64.ofNat (n / 18446744073709551616))
theorem lowB_length (n : Nat) : (lowB n).length = 16 := by simp [lowB, putLong]
end Go.Prime
