/-
  The walks of reel: a reader's bytes and commands.
-/
import Derived.Test.YtmpgcilppjkhoaaGreatDoorReelC
import Derived.Test.YtmpgcilppjkhoaaGreatDoorReelZ
namespace Go.Proofs.YtmpgcilppjkhoaaGreatDoor
open Go.RowKit Go.Mem Go.Ops Go.Cells Go.Oct Go.Reel
set_option linter.unusedSimpArgs false
set_option linter.unusedVariables false
set_option maxRecDepth 100000

theorem numOf_small (bs : List UInt8) (many : Nat) (hm : many ≤ 4) : numOf (bs.take many) < 4294967296 := by
  have := numOf_lt (bs.take many)
  have h2 : 256 ^ (bs.take many).length ≤ 256 ^ 4 := Nat.pow_le_pow_right (by omega) (by rw [List.length_take]; omega)
  omega

theorem grown_trans {a b c : World} {k : Nat} (h : a.grownBy b (some k)) (g : b.grownBy c (some k)) : a.grownBy c (some k) :=
  ⟨g.os.trans h.os, g.tape.trans h.tape, g.output.trans h.output, Nat.le_trans h.size g.size, fun i hi hne => (g.block i (Nat.lt_of_lt_of_le hi h.size) hne).trans (h.block i hi hne)⟩

theorem rdbytes_short (many : Nat) (w0 w : World) (rb : Nat) (bs : List UInt8) (hr : Rd w0 w rb bs) (h : bytesP many bs = none) (hm : many ≤ 4) :
    Calls Tryz.prog 37 #[.pointer (some ⟨rb, 0, none⟩), .int .i64 many] w fun e w' => e = .panicked Short ∧ w.grownBy w' (some rb) := by
  have HR := Lib.hid hr
  clear hr
  by_cases h1 : bs.length < many
  · go_enter Tryz.func37, Tryz.ntmps37
    go_wp2_with fail
    refine (number_short many w0 _ rb bs HR.out h1).mono ?_
    rintro e w1 ⟨rfl, rfl⟩
    exact ⟨rfl, rfl, World.grownBy.refl _ _⟩
  · have h2 : (bs.drop many).length < numOf (bs.take many) := by
      unfold bytesP numP at h
      rw [if_neg h1] at h
      simp only at h
      split at h
      · assumption
      · cases h
    go_enter Tryz.func37, Tryz.ntmps37
    go_wp2_with fail
    refine (number_ok many w0 _ rb bs HR.out (by omega) hm).mono ?_
    rintro e w1 ⟨rfl, hrd, hg⟩
    have HRD := Lib.hid hrd
    have HG := Lib.hid hg
    clear hrd hg
    go_wp2_with fail
    refine (take_short (numOf (bs.take many)) w0 _ rb (bs.drop many) HRD.out h2).mono ?_
    rintro e w2 ⟨rfl, rfl⟩
    exact ⟨rfl, rfl, HG.out⟩

theorem rdbytes_ok (many : Nat) (w0 w : World) (rb : Nat) (bs xs r : List UInt8) (hr : Rd w0 w rb bs) (h : bytesP many bs = some (xs, r)) (hm : many ≤ 4) :
    Calls Tryz.prog 37 #[.pointer (some ⟨rb, 0, none⟩), .int .i64 many] w fun e w' => ∃ v, e = .returned v ∧ OwnB 5 w' w0.heap.size v xs ∧ Rd w0 w' rb r ∧ w.grownBy w' (some rb) := by
  have HR := Lib.hid hr
  clear hr
  have h1 : many ≤ bs.length := by
    rcases Nat.lt_or_ge bs.length many with h1 | h1
    · unfold bytesP numP at h
      rw [if_pos h1] at h
      cases h
    · exact h1
  obtain ⟨h2, rfl, rfl⟩ : numOf (bs.take many) ≤ (bs.drop many).length ∧ (bs.drop many).take (numOf (bs.take many)) = xs ∧ (bs.drop many).drop (numOf (bs.take many)) = r := by
    unfold bytesP numP at h
    rw [if_neg (by omega)] at h
    simp only at h
    split at h
    · cases h
    · simp only [Option.some.injEq, Prod.mk.injEq] at h
      exact ⟨by omega, h.1, h.2⟩
  have hsm := numOf_small bs many hm
  clear h
  go_enter Tryz.func37, Tryz.ntmps37
  go_wp2_with fail
  refine (number_ok many w0 _ rb bs HR.out h1 hm).mono ?_
  rintro e w1 ⟨rfl, hrd, hg⟩
  have HRD := Lib.hid hrd
  have HG := Lib.hid hg
  clear hrd hg
  go_wp2_with fail
  refine (take_ok (numOf (bs.take many)) w0 _ rb (bs.drop many) HRD.out h2).mono ?_
  rintro e w2 ⟨ao, cap, rfl, _, _, hl, hrd, hg⟩
  have HL := Lib.hid (hl.below hrd.bel)
  have HRD := Lib.hid hrd
  have HG := Lib.hid (grown_trans HG.out hg)
  clear hl hrd hg
  go_wp2_with fail
  refine (clone_ok ao _ cap ((bs.drop many).take (numOf (bs.take many))) _ (by rw [List.length_take]; omega) (by omega) HL.out).mono ?_
  rintro e w3 ⟨v, rfl, hown, hbel⟩
  have HOWN := Lib.hid (hown.base_le HRD.out.bel.size)
  have HRD := Lib.hid (HRD.out.later hbel)
  have HG := Lib.hid (grown_below HG.out hbel)
  clear hown hbel
  go_wp2
  go_ret
  exact ⟨v, rfl, HOWN.out, HRD.out, HG.out⟩


theorem Rd.only {w0 w w' : World} {rb tx : Nat} {bs : List UInt8} (h : Rd w0 w rb bs) (ho : Only tx w w') (hne : rb ≠ tx) (hge : w0.heap.size ≤ tx) : Rd w0 w' rb bs := by
  obtain ⟨ao, cap, h1, h2⟩ := h.ex
  exact ⟨⟨ao, cap, h1.only ho hne, h2⟩, below_only h.bel ho hge, h.ge⟩
theorem blk_grown {w w' : World} {b rb : Nat} {vs : List Value} {ty : TypeId} (h : Blk w b vs ty) (hg : w.grownBy w' (some rb)) (hne : b ≠ rb) : Blk w' b vs ty :=
  (hg.block b h.lt (by simpa using hne)).trans h
theorem own_grown {w0 w w' : World} {base rb : Nat} {v : Value} {bs q : List UInt8} (h : OwnB 5 w base v bs) (hr : Rd w0 w rb q) (hg : w.grownBy w' (some rb)) : OwnB 5 w' base v bs := by
  obtain ⟨ao, cap, hb, _⟩ := hr.ex
  refine World.ownsRow.kept h hg ?_
  right
  intro e
  exact own_ne' h hb (by decide) rb e rfl

structure OpSt (w0 ws w : World) (rb tres tx : Nat) (xv : List Value) (bs : List UInt8) (os : List (Value × List UInt8)) : Prop where
  rd : Rd w0 w rb bs
  x : Blk w tx xv 39
  res : Blk w tres zeroOp 39
  g : ws.grownBy w (some rb)
  hs : ws.heap.size ≤ tres
  ht : tres < tx
  hrb : rb < ws.heap.size
  h0 : w0.heap.size ≤ ws.heap.size
  own : ∀ o ∈ os, OwnB 5 w w0.heap.size o.1 o.2

theorem OpSt.call {w0 ws w w' : World} {rb tres tx : Nat} {xv : List Value} {bs bs' : List UInt8} {os : List (Value × List UInt8)} (h : OpSt w0 ws w rb tres tx xv bs os) (hr : Rd w0 w' rb bs') (hg : w.grownBy w' (some rb)) : OpSt w0 ws w' rb tres tx xv bs' os := by
  have h1 := h.hs; have h2 := h.ht; have h3 := h.hrb
  exact ⟨hr, blk_grown h.x hg (by omega), blk_grown h.res hg (by omega), grown_trans h.g hg, h.hs, h.ht, h.hrb, h.h0, fun o ho => own_grown (h.own o ho) h.rd hg⟩
theorem OpSt.set {w0 ws w w' : World} {rb tres tx : Nat} {xv xv' : List Value} {bs : List UInt8} {os : List (Value × List UInt8)} (h : OpSt w0 ws w rb tres tx xv bs os) (hb : Blk w' tx xv' 39) (ho : Only tx w w') : OpSt w0 ws w' rb tres tx xv' bs os := by
  have h1 := h.hs; have h2 := h.ht; have h3 := h.hrb; have h4 := h.h0
  refine ⟨h.rd.only ho (by omega) (by omega), hb, h.res.only ho (by omega), ?_, h.hs, h.ht, h.hrb, h.h0, fun o h5 => (h.own o h5).only ho h.x (by decide)⟩
  exact ⟨ho.os.trans h.g.os, ho.tape.trans h.g.tape, ho.output.trans h.g.output, Nat.le_trans h.g.size (Nat.le_of_eq ho.size.symm), fun k hk hne => (ho.block k (by omega)).trans (h.g.block k hk hne)⟩
theorem OpSt.add {w0 ws w : World} {rb tres tx : Nat} {xv : List Value} {bs : List UInt8} {os : List (Value × List UInt8)} (h : OpSt w0 ws w rb tres tx xv bs os) {v : Value} {xs : List UInt8} (ho : OwnB 5 w w0.heap.size v xs) : OpSt w0 ws w rb tres tx xv bs ((v, xs) :: os) :=
  ⟨h.rd, h.x, h.res, h.g, h.hs, h.ht, h.hrb, h.h0, fun o h5 => by
    rcases List.mem_cons.1 h5 with rfl | h5
    · exact ho
    · exact h.own o h5⟩

/-- A command that a reader has made. -/
structure NewOp (w : World) (base : Nat) (x : Opr) : Prop where
  key : OwnB 5 w base (.slice x.ko x.c.key.length x.kc) x.c.key
  b : OwnB 5 w base (.slice x.bo x.c.b.length x.bc) x.c.b
  err : x.c.err = 0

theorem NewOp.in {w : World} {base : Nat} {x : Opr} (h : NewOp w base x) : x.In w := by
  obtain ⟨⟨h1, h2, h3, h4, h5, h6, h7, h8⟩, h9, h10, h11⟩ := x.c.err_zero h.err
  obtain ⟨_, _, e1, l1, m1, q1⟩ := h.key.form
  obtain ⟨_, _, e2, l2, m2, q2⟩ := h.b.form
  cases e1
  cases e2
  exact ⟨⟨by omega, by omega⟩, ⟨by omega, by omega⟩, ⟨by omega, by omega⟩, ⟨by omega, by omega⟩, q1, q2, ⟨l1, m1⟩, ⟨l2, m2⟩, by unfold maxLen; omega⟩

theorem Tryz.size_int : (Tryz.prog.info? 3).map (·.size) = some 1 := by kernel_rfl
theorem Tryz.size_bytes : (Tryz.prog.info? 24).map (·.size) = some 1 := by kernel_rfl
theorem Tryz.size_string : (Tryz.prog.info? 9).map (·.size) = some 1 := by kernel_rfl
theorem _root_.Go.Reel.OwnB.lies {e : TypeId} {w : World} {base n cap : Nat} {ao : Option Addr} {bs : List UInt8} (h : OwnB e w base (.slice ao n cap) bs) : Lies w ao (bs.map B) := by
  obtain ⟨_, _, e, _, _, q⟩ := h.form
  cases e
  exact q

theorem num_short (many : Nat) (w0 w : World) (rb : Nat) (bs : List UInt8) (hr : Rd w0 w rb bs) (h : numP many bs = none) (hm : many ≤ 4) :
    Calls Tryz.prog 36 #[.pointer (some ⟨rb, 0, none⟩), .int .i64 many] w fun e w' => e = .panicked Short ∧ w.grownBy w' (some rb) := by
  refine (number_short many w0 w rb bs hr ?_).mono ?_
  · unfold numP at h
    split at h
    · assumption
    · cases h
  · rintro e w1 ⟨rfl, rfl⟩
    exact ⟨rfl, World.grownBy.refl _ _⟩
theorem num_ok (many : Nat) (w0 w : World) (rb : Nat) (bs : List UInt8) (n : Nat) (r : List UInt8) (hr : Rd w0 w rb bs) (h : numP many bs = some (n, r)) (hm : many ≤ 4) :
    Calls Tryz.prog 36 #[.pointer (some ⟨rb, 0, none⟩), .int .i64 many] w fun e w' => e = .returned (.int .i64 n) ∧ Rd w0 w' rb r ∧ w.grownBy w' (some rb) := by
  unfold numP at h
  split at h
  · cases h
  · simp only [Option.some.injEq, Prod.mk.injEq] at h
    obtain ⟨rfl, rfl⟩ := h
    exact number_ok many w0 w rb bs hr (by omega) hm

set_option maxHeartbeats 2000000 in
theorem op_short0 (w0 w : World) (rb : Nat) (bs : List UInt8)  (hr : Rd w0 w rb bs) (hrb : rb < w.heap.size)  (h0 : numP 1 bs = none) :
    Calls Tryz.prog 26 #[.pointer (some ⟨rb, 0, none⟩)] w fun e w' => e = .panicked Short ∧ w.grownBy w' (some rb) := by
  have HR := Lib.hid hr
  have h0le := hr.bel.size
  clear hr
  go_enter Tryz.func26, Tryz.ntmps26
  go_wp2_with (refine wpList_var 39 zeroOp _ rfl rfl Tryz.zeroOp rfl ?_)
  intro wa hba hbela
  have HBA := Lib.hid hba
  have HRA := Lib.hid (HR.out.later hbela)
  have HGA := Lib.hid (grown_below (World.grownBy.refl w (some rb)) hbela)
  clear hba hbela
  go_wp2_with fail
  refine (num_short 1 w0 _ rb bs HRA.out h0 (by omega)).mono ?_
  rintro e wz ⟨rfl, hg⟩
  exact ⟨rfl, rfl, grown_trans HGA.out hg⟩

set_option maxHeartbeats 2000000 in
theorem op_short1 (w0 w : World) (rb : Nat) (bs : List UInt8) (k : Nat) (b1 : List UInt8) (hr : Rd w0 w rb bs) (hrb : rb < w.heap.size) (h0 : numP 1 bs = some (k, b1)) (h1 : numP 1 b1 = none) :
    Calls Tryz.prog 26 #[.pointer (some ⟨rb, 0, none⟩)] w fun e w' => e = .panicked Short ∧ w.grownBy w' (some rb) := by
  have HR := Lib.hid hr
  have h0le := hr.bel.size
  clear hr
  go_enter Tryz.func26, Tryz.ntmps26
  go_wp2_with (refine wpList_var 39 zeroOp _ rfl rfl Tryz.zeroOp rfl ?_)
  intro wa hba hbela
  have HBA := Lib.hid hba
  have HRA := Lib.hid (HR.out.later hbela)
  have HGA := Lib.hid (grown_below (World.grownBy.refl w (some rb)) hbela)
  clear hba hbela
  go_wp2_with fail
  refine (num_ok 1 w0 _ rb bs k b1 (HRA.out) h0 (by omega)).mono ?_
  rintro e w1 ⟨rfl, hrd, hg⟩
  have HRA := Lib.hid hrd
  have HBA := Lib.hid (blk_grown HBA.out hg (Nat.ne_of_gt hrb))
  have HGA := Lib.hid (grown_trans HGA.out hg)
  clear hrd hg
  go_wp2_with (refine wpList_var 39 zeroOp _ rfl rfl Tryz.zeroOp rfl ?_)
  intro wb hbb hbelb
  have HS := Lib.hid (show OpSt w0 w wb rb w.heap.size w1.heap.size zeroOp b1 [] from ⟨HRA.out.later hbelb, hbb, HBA.out.below hbelb HBA.out.lt, grown_below HGA.out hbelb, Nat.le_refl _, HBA.out.lt, hrb, h0le, fun _ h => by cases h⟩)
  clear HBA HRA HGA hbb hbelb
  generalize w1.heap.size = tx at *
  go_wp2_with (refine HS.out.x.wstore rfl rfl rfl (cs := [.int .i64 k, .int .i64 0, .int .i64 0, .int .i64 0, .slice none 0 0, .slice none 0 0, .string (str [])]) rfl Tryz.rowOp rfl rfl (by intro v hv; simp at hv; rcases hv with rfl | rfl | rfl | rfl <;> rfl) ?_)
  intro wc hb ho
  have HS := Lib.hid (HS.out.set hb ho)
  clear hb ho
  go_wp2_with fail
  refine (num_short 1 w0 _ rb b1 HS.out.rd h1 (by omega)).mono ?_
  rintro e wz ⟨rfl, hg⟩
  exact ⟨rfl, rfl, grown_trans HS.out.g hg⟩

set_option maxHeartbeats 2000000 in
theorem op_short2 (w0 w : World) (rb : Nat) (bs : List UInt8) (k : Nat) (b1 : List UInt8) (a : Nat) (b2 : List UInt8) (hr : Rd w0 w rb bs) (hrb : rb < w.heap.size) (h0 : numP 1 bs = some (k, b1)) (h1 : numP 1 b1 = some (a, b2)) (h2 : numP 4 b2 = none) :
    Calls Tryz.prog 26 #[.pointer (some ⟨rb, 0, none⟩)] w fun e w' => e = .panicked Short ∧ w.grownBy w' (some rb) := by
  have HR := Lib.hid hr
  have h0le := hr.bel.size
  clear hr
  go_enter Tryz.func26, Tryz.ntmps26
  go_wp2_with (refine wpList_var 39 zeroOp _ rfl rfl Tryz.zeroOp rfl ?_)
  intro wa hba hbela
  have HBA := Lib.hid hba
  have HRA := Lib.hid (HR.out.later hbela)
  have HGA := Lib.hid (grown_below (World.grownBy.refl w (some rb)) hbela)
  clear hba hbela
  go_wp2_with fail
  refine (num_ok 1 w0 _ rb bs k b1 (HRA.out) h0 (by omega)).mono ?_
  rintro e w1 ⟨rfl, hrd, hg⟩
  have HRA := Lib.hid hrd
  have HBA := Lib.hid (blk_grown HBA.out hg (Nat.ne_of_gt hrb))
  have HGA := Lib.hid (grown_trans HGA.out hg)
  clear hrd hg
  go_wp2_with (refine wpList_var 39 zeroOp _ rfl rfl Tryz.zeroOp rfl ?_)
  intro wb hbb hbelb
  have HS := Lib.hid (show OpSt w0 w wb rb w.heap.size w1.heap.size zeroOp b1 [] from ⟨HRA.out.later hbelb, hbb, HBA.out.below hbelb HBA.out.lt, grown_below HGA.out hbelb, Nat.le_refl _, HBA.out.lt, hrb, h0le, fun _ h => by cases h⟩)
  clear HBA HRA HGA hbb hbelb
  generalize w1.heap.size = tx at *
  go_wp2_with (refine HS.out.x.wstore rfl rfl rfl (cs := [.int .i64 k, .int .i64 0, .int .i64 0, .int .i64 0, .slice none 0 0, .slice none 0 0, .string (str [])]) rfl Tryz.rowOp rfl rfl (by intro v hv; simp at hv; rcases hv with rfl | rfl | rfl | rfl <;> rfl) ?_)
  intro wc hb ho
  have HS := Lib.hid (HS.out.set hb ho)
  clear hb ho
  go_wp2_with fail
  refine (num_ok 1 w0 _ rb b1 a b2 (HS.out.rd) h1 (by omega)).mono ?_
  rintro e w2 ⟨rfl, hrd, hg⟩
  have HS := Lib.hid (HS.out.call hrd hg)
  clear hrd hg
  go_wp2_with (refine HS.out.x.wset (i := 1) (v := .int .i64 a) rfl rfl rfl rfl Tryz.size_int rfl rfl (by simp) ?_)
  intro wx1 hb ho
  have HS := Lib.hid (HS.out.set hb ho)
  clear hb ho
  go_wp2_with fail
  refine (num_short 4 w0 _ rb b2 HS.out.rd h2 (by omega)).mono ?_
  rintro e wz ⟨rfl, hg⟩
  exact ⟨rfl, rfl, grown_trans HS.out.g hg⟩

set_option maxHeartbeats 2000000 in
theorem op_short3 (w0 w : World) (rb : Nat) (bs : List UInt8) (k : Nat) (b1 : List UInt8) (a : Nat) (b2 : List UInt8) (n : Nat) (b3 : List UInt8) (hr : Rd w0 w rb bs) (hrb : rb < w.heap.size) (h0 : numP 1 bs = some (k, b1)) (h1 : numP 1 b1 = some (a, b2)) (h2 : numP 4 b2 = some (n, b3)) (h3 : numP 4 b3 = none) :
    Calls Tryz.prog 26 #[.pointer (some ⟨rb, 0, none⟩)] w fun e w' => e = .panicked Short ∧ w.grownBy w' (some rb) := by
  have HR := Lib.hid hr
  have h0le := hr.bel.size
  clear hr
  go_enter Tryz.func26, Tryz.ntmps26
  go_wp2_with (refine wpList_var 39 zeroOp _ rfl rfl Tryz.zeroOp rfl ?_)
  intro wa hba hbela
  have HBA := Lib.hid hba
  have HRA := Lib.hid (HR.out.later hbela)
  have HGA := Lib.hid (grown_below (World.grownBy.refl w (some rb)) hbela)
  clear hba hbela
  go_wp2_with fail
  refine (num_ok 1 w0 _ rb bs k b1 (HRA.out) h0 (by omega)).mono ?_
  rintro e w1 ⟨rfl, hrd, hg⟩
  have HRA := Lib.hid hrd
  have HBA := Lib.hid (blk_grown HBA.out hg (Nat.ne_of_gt hrb))
  have HGA := Lib.hid (grown_trans HGA.out hg)
  clear hrd hg
  go_wp2_with (refine wpList_var 39 zeroOp _ rfl rfl Tryz.zeroOp rfl ?_)
  intro wb hbb hbelb
  have HS := Lib.hid (show OpSt w0 w wb rb w.heap.size w1.heap.size zeroOp b1 [] from ⟨HRA.out.later hbelb, hbb, HBA.out.below hbelb HBA.out.lt, grown_below HGA.out hbelb, Nat.le_refl _, HBA.out.lt, hrb, h0le, fun _ h => by cases h⟩)
  clear HBA HRA HGA hbb hbelb
  generalize w1.heap.size = tx at *
  go_wp2_with (refine HS.out.x.wstore rfl rfl rfl (cs := [.int .i64 k, .int .i64 0, .int .i64 0, .int .i64 0, .slice none 0 0, .slice none 0 0, .string (str [])]) rfl Tryz.rowOp rfl rfl (by intro v hv; simp at hv; rcases hv with rfl | rfl | rfl | rfl <;> rfl) ?_)
  intro wc hb ho
  have HS := Lib.hid (HS.out.set hb ho)
  clear hb ho
  go_wp2_with fail
  refine (num_ok 1 w0 _ rb b1 a b2 (HS.out.rd) h1 (by omega)).mono ?_
  rintro e w2 ⟨rfl, hrd, hg⟩
  have HS := Lib.hid (HS.out.call hrd hg)
  clear hrd hg
  go_wp2_with (refine HS.out.x.wset (i := 1) (v := .int .i64 a) rfl rfl rfl rfl Tryz.size_int rfl rfl (by simp) ?_)
  intro wx1 hb ho
  have HS := Lib.hid (HS.out.set hb ho)
  clear hb ho
  go_wp2_with fail
  refine (num_ok 4 w0 _ rb b2 n b3 (HS.out.rd) h2 (by omega)).mono ?_
  rintro e w3 ⟨rfl, hrd, hg⟩
  have HS := Lib.hid (HS.out.call hrd hg)
  clear hrd hg
  go_wp2_with (refine HS.out.x.wset (i := 2) (v := .int .i64 n) rfl rfl rfl rfl Tryz.size_int rfl rfl (by simp) ?_)
  intro wx2 hb ho
  have HS := Lib.hid (HS.out.set hb ho)
  clear hb ho
  go_wp2_with fail
  refine (num_short 4 w0 _ rb b3 HS.out.rd h3 (by omega)).mono ?_
  rintro e wz ⟨rfl, hg⟩
  exact ⟨rfl, rfl, grown_trans HS.out.g hg⟩

set_option maxHeartbeats 2000000 in
theorem op_short4 (w0 w : World) (rb : Nat) (bs : List UInt8) (k : Nat) (b1 : List UInt8) (a : Nat) (b2 : List UInt8) (n : Nat) (b3 : List UInt8) (m : Nat) (b4 : List UInt8) (hr : Rd w0 w rb bs) (hrb : rb < w.heap.size) (h0 : numP 1 bs = some (k, b1)) (h1 : numP 1 b1 = some (a, b2)) (h2 : numP 4 b2 = some (n, b3)) (h3 : numP 4 b3 = some (m, b4)) (h4 : bytesP 1 b4 = none) :
    Calls Tryz.prog 26 #[.pointer (some ⟨rb, 0, none⟩)] w fun e w' => e = .panicked Short ∧ w.grownBy w' (some rb) := by
  have HR := Lib.hid hr
  have h0le := hr.bel.size
  clear hr
  go_enter Tryz.func26, Tryz.ntmps26
  go_wp2_with (refine wpList_var 39 zeroOp _ rfl rfl Tryz.zeroOp rfl ?_)
  intro wa hba hbela
  have HBA := Lib.hid hba
  have HRA := Lib.hid (HR.out.later hbela)
  have HGA := Lib.hid (grown_below (World.grownBy.refl w (some rb)) hbela)
  clear hba hbela
  go_wp2_with fail
  refine (num_ok 1 w0 _ rb bs k b1 (HRA.out) h0 (by omega)).mono ?_
  rintro e w1 ⟨rfl, hrd, hg⟩
  have HRA := Lib.hid hrd
  have HBA := Lib.hid (blk_grown HBA.out hg (Nat.ne_of_gt hrb))
  have HGA := Lib.hid (grown_trans HGA.out hg)
  clear hrd hg
  go_wp2_with (refine wpList_var 39 zeroOp _ rfl rfl Tryz.zeroOp rfl ?_)
  intro wb hbb hbelb
  have HS := Lib.hid (show OpSt w0 w wb rb w.heap.size w1.heap.size zeroOp b1 [] from ⟨HRA.out.later hbelb, hbb, HBA.out.below hbelb HBA.out.lt, grown_below HGA.out hbelb, Nat.le_refl _, HBA.out.lt, hrb, h0le, fun _ h => by cases h⟩)
  clear HBA HRA HGA hbb hbelb
  generalize w1.heap.size = tx at *
  go_wp2_with (refine HS.out.x.wstore rfl rfl rfl (cs := [.int .i64 k, .int .i64 0, .int .i64 0, .int .i64 0, .slice none 0 0, .slice none 0 0, .string (str [])]) rfl Tryz.rowOp rfl rfl (by intro v hv; simp at hv; rcases hv with rfl | rfl | rfl | rfl <;> rfl) ?_)
  intro wc hb ho
  have HS := Lib.hid (HS.out.set hb ho)
  clear hb ho
  go_wp2_with fail
  refine (num_ok 1 w0 _ rb b1 a b2 (HS.out.rd) h1 (by omega)).mono ?_
  rintro e w2 ⟨rfl, hrd, hg⟩
  have HS := Lib.hid (HS.out.call hrd hg)
  clear hrd hg
  go_wp2_with (refine HS.out.x.wset (i := 1) (v := .int .i64 a) rfl rfl rfl rfl Tryz.size_int rfl rfl (by simp) ?_)
  intro wx1 hb ho
  have HS := Lib.hid (HS.out.set hb ho)
  clear hb ho
  go_wp2_with fail
  refine (num_ok 4 w0 _ rb b2 n b3 (HS.out.rd) h2 (by omega)).mono ?_
  rintro e w3 ⟨rfl, hrd, hg⟩
  have HS := Lib.hid (HS.out.call hrd hg)
  clear hrd hg
  go_wp2_with (refine HS.out.x.wset (i := 2) (v := .int .i64 n) rfl rfl rfl rfl Tryz.size_int rfl rfl (by simp) ?_)
  intro wx2 hb ho
  have HS := Lib.hid (HS.out.set hb ho)
  clear hb ho
  go_wp2_with fail
  refine (num_ok 4 w0 _ rb b3 m b4 (HS.out.rd) h3 (by omega)).mono ?_
  rintro e w4 ⟨rfl, hrd, hg⟩
  have HS := Lib.hid (HS.out.call hrd hg)
  clear hrd hg
  go_wp2_with (refine HS.out.x.wset (i := 3) (v := .int .i64 m) rfl rfl rfl rfl Tryz.size_int rfl rfl (by simp) ?_)
  intro wx3 hb ho
  have HS := Lib.hid (HS.out.set hb ho)
  clear hb ho
  go_wp2_with fail
  refine (rdbytes_short 1 w0 _ rb b4 HS.out.rd h4 (by omega)).mono ?_
  rintro e wz ⟨rfl, hg⟩
  exact ⟨rfl, rfl, grown_trans HS.out.g hg⟩

set_option maxHeartbeats 2000000 in
theorem op_short5 (w0 w : World) (rb : Nat) (bs : List UInt8) (k : Nat) (b1 : List UInt8) (a : Nat) (b2 : List UInt8) (n : Nat) (b3 : List UInt8) (m : Nat) (b4 : List UInt8) (key b5 : List UInt8) (hr : Rd w0 w rb bs) (hrb : rb < w.heap.size) (h0 : numP 1 bs = some (k, b1)) (h1 : numP 1 b1 = some (a, b2)) (h2 : numP 4 b2 = some (n, b3)) (h3 : numP 4 b3 = some (m, b4)) (h4 : bytesP 1 b4 = some (key, b5)) (h5 : bytesP 2 b5 = none) :
    Calls Tryz.prog 26 #[.pointer (some ⟨rb, 0, none⟩)] w fun e w' => e = .panicked Short ∧ w.grownBy w' (some rb) := by
  have HR := Lib.hid hr
  have h0le := hr.bel.size
  clear hr
  go_enter Tryz.func26, Tryz.ntmps26
  go_wp2_with (refine wpList_var 39 zeroOp _ rfl rfl Tryz.zeroOp rfl ?_)
  intro wa hba hbela
  have HBA := Lib.hid hba
  have HRA := Lib.hid (HR.out.later hbela)
  have HGA := Lib.hid (grown_below (World.grownBy.refl w (some rb)) hbela)
  clear hba hbela
  go_wp2_with fail
  refine (num_ok 1 w0 _ rb bs k b1 (HRA.out) h0 (by omega)).mono ?_
  rintro e w1 ⟨rfl, hrd, hg⟩
  have HRA := Lib.hid hrd
  have HBA := Lib.hid (blk_grown HBA.out hg (Nat.ne_of_gt hrb))
  have HGA := Lib.hid (grown_trans HGA.out hg)
  clear hrd hg
  go_wp2_with (refine wpList_var 39 zeroOp _ rfl rfl Tryz.zeroOp rfl ?_)
  intro wb hbb hbelb
  have HS := Lib.hid (show OpSt w0 w wb rb w.heap.size w1.heap.size zeroOp b1 [] from ⟨HRA.out.later hbelb, hbb, HBA.out.below hbelb HBA.out.lt, grown_below HGA.out hbelb, Nat.le_refl _, HBA.out.lt, hrb, h0le, fun _ h => by cases h⟩)
  clear HBA HRA HGA hbb hbelb
  generalize w1.heap.size = tx at *
  go_wp2_with (refine HS.out.x.wstore rfl rfl rfl (cs := [.int .i64 k, .int .i64 0, .int .i64 0, .int .i64 0, .slice none 0 0, .slice none 0 0, .string (str [])]) rfl Tryz.rowOp rfl rfl (by intro v hv; simp at hv; rcases hv with rfl | rfl | rfl | rfl <;> rfl) ?_)
  intro wc hb ho
  have HS := Lib.hid (HS.out.set hb ho)
  clear hb ho
  go_wp2_with fail
  refine (num_ok 1 w0 _ rb b1 a b2 (HS.out.rd) h1 (by omega)).mono ?_
  rintro e w2 ⟨rfl, hrd, hg⟩
  have HS := Lib.hid (HS.out.call hrd hg)
  clear hrd hg
  go_wp2_with (refine HS.out.x.wset (i := 1) (v := .int .i64 a) rfl rfl rfl rfl Tryz.size_int rfl rfl (by simp) ?_)
  intro wx1 hb ho
  have HS := Lib.hid (HS.out.set hb ho)
  clear hb ho
  go_wp2_with fail
  refine (num_ok 4 w0 _ rb b2 n b3 (HS.out.rd) h2 (by omega)).mono ?_
  rintro e w3 ⟨rfl, hrd, hg⟩
  have HS := Lib.hid (HS.out.call hrd hg)
  clear hrd hg
  go_wp2_with (refine HS.out.x.wset (i := 2) (v := .int .i64 n) rfl rfl rfl rfl Tryz.size_int rfl rfl (by simp) ?_)
  intro wx2 hb ho
  have HS := Lib.hid (HS.out.set hb ho)
  clear hb ho
  go_wp2_with fail
  refine (num_ok 4 w0 _ rb b3 m b4 (HS.out.rd) h3 (by omega)).mono ?_
  rintro e w4 ⟨rfl, hrd, hg⟩
  have HS := Lib.hid (HS.out.call hrd hg)
  clear hrd hg
  go_wp2_with (refine HS.out.x.wset (i := 3) (v := .int .i64 m) rfl rfl rfl rfl Tryz.size_int rfl rfl (by simp) ?_)
  intro wx3 hb ho
  have HS := Lib.hid (HS.out.set hb ho)
  clear hb ho
  go_wp2_with fail
  refine (rdbytes_ok 1 w0 _ rb b4 key b5 (HS.out.rd) h4 (by omega)).mono ?_
  rintro e w5 ⟨v4, rfl, hown, hrd, hg⟩
  have HS := Lib.hid (HS.out.call hrd hg)
  have HS := Lib.hid (HS.out.add hown)
  obtain ⟨ao4, cap4, rfl, hl4, hm4, _⟩ := hown.form
  clear hown
  clear hrd hg
  go_wp2_with (refine HS.out.x.wset (i := 4) (v := .slice ao4 key.length cap4) rfl rfl rfl rfl Tryz.size_bytes rfl rfl (by simp) ?_)
  intro wx4 hb ho
  have HS := Lib.hid (HS.out.set hb ho)
  clear hb ho
  go_wp2_with fail
  refine (rdbytes_short 2 w0 _ rb b5 HS.out.rd h5 (by omega)).mono ?_
  rintro e wz ⟨rfl, hg⟩
  exact ⟨rfl, rfl, grown_trans HS.out.g hg⟩

set_option maxHeartbeats 2000000 in
theorem op_short6 (w0 w : World) (rb : Nat) (bs : List UInt8) (k : Nat) (b1 : List UInt8) (a : Nat) (b2 : List UInt8) (n : Nat) (b3 : List UInt8) (m : Nat) (b4 : List UInt8) (key b5 : List UInt8) (b b6 : List UInt8) (hr : Rd w0 w rb bs) (hrb : rb < w.heap.size) (h0 : numP 1 bs = some (k, b1)) (h1 : numP 1 b1 = some (a, b2)) (h2 : numP 4 b2 = some (n, b3)) (h3 : numP 4 b3 = some (m, b4)) (h4 : bytesP 1 b4 = some (key, b5)) (h5 : bytesP 2 b5 = some (b, b6)) (h6 : bytesP 2 b6 = none) :
    Calls Tryz.prog 26 #[.pointer (some ⟨rb, 0, none⟩)] w fun e w' => e = .panicked Short ∧ w.grownBy w' (some rb) := by
  have HR := Lib.hid hr
  have h0le := hr.bel.size
  clear hr
  go_enter Tryz.func26, Tryz.ntmps26
  go_wp2_with (refine wpList_var 39 zeroOp _ rfl rfl Tryz.zeroOp rfl ?_)
  intro wa hba hbela
  have HBA := Lib.hid hba
  have HRA := Lib.hid (HR.out.later hbela)
  have HGA := Lib.hid (grown_below (World.grownBy.refl w (some rb)) hbela)
  clear hba hbela
  go_wp2_with fail
  refine (num_ok 1 w0 _ rb bs k b1 (HRA.out) h0 (by omega)).mono ?_
  rintro e w1 ⟨rfl, hrd, hg⟩
  have HRA := Lib.hid hrd
  have HBA := Lib.hid (blk_grown HBA.out hg (Nat.ne_of_gt hrb))
  have HGA := Lib.hid (grown_trans HGA.out hg)
  clear hrd hg
  go_wp2_with (refine wpList_var 39 zeroOp _ rfl rfl Tryz.zeroOp rfl ?_)
  intro wb hbb hbelb
  have HS := Lib.hid (show OpSt w0 w wb rb w.heap.size w1.heap.size zeroOp b1 [] from ⟨HRA.out.later hbelb, hbb, HBA.out.below hbelb HBA.out.lt, grown_below HGA.out hbelb, Nat.le_refl _, HBA.out.lt, hrb, h0le, fun _ h => by cases h⟩)
  clear HBA HRA HGA hbb hbelb
  generalize w1.heap.size = tx at *
  go_wp2_with (refine HS.out.x.wstore rfl rfl rfl (cs := [.int .i64 k, .int .i64 0, .int .i64 0, .int .i64 0, .slice none 0 0, .slice none 0 0, .string (str [])]) rfl Tryz.rowOp rfl rfl (by intro v hv; simp at hv; rcases hv with rfl | rfl | rfl | rfl <;> rfl) ?_)
  intro wc hb ho
  have HS := Lib.hid (HS.out.set hb ho)
  clear hb ho
  go_wp2_with fail
  refine (num_ok 1 w0 _ rb b1 a b2 (HS.out.rd) h1 (by omega)).mono ?_
  rintro e w2 ⟨rfl, hrd, hg⟩
  have HS := Lib.hid (HS.out.call hrd hg)
  clear hrd hg
  go_wp2_with (refine HS.out.x.wset (i := 1) (v := .int .i64 a) rfl rfl rfl rfl Tryz.size_int rfl rfl (by simp) ?_)
  intro wx1 hb ho
  have HS := Lib.hid (HS.out.set hb ho)
  clear hb ho
  go_wp2_with fail
  refine (num_ok 4 w0 _ rb b2 n b3 (HS.out.rd) h2 (by omega)).mono ?_
  rintro e w3 ⟨rfl, hrd, hg⟩
  have HS := Lib.hid (HS.out.call hrd hg)
  clear hrd hg
  go_wp2_with (refine HS.out.x.wset (i := 2) (v := .int .i64 n) rfl rfl rfl rfl Tryz.size_int rfl rfl (by simp) ?_)
  intro wx2 hb ho
  have HS := Lib.hid (HS.out.set hb ho)
  clear hb ho
  go_wp2_with fail
  refine (num_ok 4 w0 _ rb b3 m b4 (HS.out.rd) h3 (by omega)).mono ?_
  rintro e w4 ⟨rfl, hrd, hg⟩
  have HS := Lib.hid (HS.out.call hrd hg)
  clear hrd hg
  go_wp2_with (refine HS.out.x.wset (i := 3) (v := .int .i64 m) rfl rfl rfl rfl Tryz.size_int rfl rfl (by simp) ?_)
  intro wx3 hb ho
  have HS := Lib.hid (HS.out.set hb ho)
  clear hb ho
  go_wp2_with fail
  refine (rdbytes_ok 1 w0 _ rb b4 key b5 (HS.out.rd) h4 (by omega)).mono ?_
  rintro e w5 ⟨v4, rfl, hown, hrd, hg⟩
  have HS := Lib.hid (HS.out.call hrd hg)
  have HS := Lib.hid (HS.out.add hown)
  obtain ⟨ao4, cap4, rfl, hl4, hm4, _⟩ := hown.form
  clear hown
  clear hrd hg
  go_wp2_with (refine HS.out.x.wset (i := 4) (v := .slice ao4 key.length cap4) rfl rfl rfl rfl Tryz.size_bytes rfl rfl (by simp) ?_)
  intro wx4 hb ho
  have HS := Lib.hid (HS.out.set hb ho)
  clear hb ho
  go_wp2_with fail
  refine (rdbytes_ok 2 w0 _ rb b5 b b6 (HS.out.rd) h5 (by omega)).mono ?_
  rintro e w6 ⟨v5, rfl, hown, hrd, hg⟩
  have HS := Lib.hid (HS.out.call hrd hg)
  have HS := Lib.hid (HS.out.add hown)
  obtain ⟨ao5, cap5, rfl, hl5, hm5, _⟩ := hown.form
  clear hown
  clear hrd hg
  go_wp2_with (refine HS.out.x.wset (i := 5) (v := .slice ao5 b.length cap5) rfl rfl rfl rfl Tryz.size_bytes rfl rfl (by simp) ?_)
  intro wx5 hb ho
  have HS := Lib.hid (HS.out.set hb ho)
  clear hb ho
  go_wp2_with fail
  refine (rdbytes_short 2 w0 _ rb b6 HS.out.rd h6 (by omega)).mono ?_
  rintro e wz ⟨rfl, hg⟩
  exact ⟨rfl, rfl, grown_trans HS.out.g hg⟩

set_option maxHeartbeats 4000000 in
theorem op_parts (w0 w : World) (rb : Nat) (bs : List UInt8) (k : Nat) (b1 : List UInt8) (a : Nat) (b2 : List UInt8) (n : Nat) (b3 : List UInt8) (m : Nat) (b4 : List UInt8) (key b5 : List UInt8) (b b6 : List UInt8) (name b7 : List UInt8) (hr : Rd w0 w rb bs) (hrb : rb < w.heap.size) (h0 : numP 1 bs = some (k, b1)) (h1 : numP 1 b1 = some (a, b2)) (h2 : numP 4 b2 = some (n, b3)) (h3 : numP 4 b3 = some (m, b4)) (h4 : bytesP 1 b4 = some (key, b5)) (h5 : bytesP 2 b5 = some (b, b6)) (h6 : bytesP 2 b6 = some (name, b7)) (herr : (⟨k, a, n, m, key, b, name⟩ : Cmd).err = 0) :
    Calls Tryz.prog 26 #[.pointer (some ⟨rb, 0, none⟩)] w fun e w' => ∃ x : Opr, x.c = ⟨k, a, n, m, key, b, name⟩ ∧ e = .returned (.agg x.vals.toArray) ∧ NewOp w' w0.heap.size x ∧ Rd w0 w' rb b7 ∧ w.grownBy w' (some rb) := by
  have HERR := Lib.hid herr
  clear herr
  have HR := Lib.hid hr
  have h0le := hr.bel.size
  clear hr
  go_enter Tryz.func26, Tryz.ntmps26
  go_wp2_with (refine wpList_var 39 zeroOp _ rfl rfl Tryz.zeroOp rfl ?_)
  intro wa hba hbela
  have HBA := Lib.hid hba
  have HRA := Lib.hid (HR.out.later hbela)
  have HGA := Lib.hid (grown_below (World.grownBy.refl w (some rb)) hbela)
  clear hba hbela
  go_wp2_with fail
  refine (num_ok 1 w0 _ rb bs k b1 (HRA.out) h0 (by omega)).mono ?_
  rintro e w1 ⟨rfl, hrd, hg⟩
  have HRA := Lib.hid hrd
  have HBA := Lib.hid (blk_grown HBA.out hg (Nat.ne_of_gt hrb))
  have HGA := Lib.hid (grown_trans HGA.out hg)
  clear hrd hg
  go_wp2_with (refine wpList_var 39 zeroOp _ rfl rfl Tryz.zeroOp rfl ?_)
  intro wb hbb hbelb
  have HS := Lib.hid (show OpSt w0 w wb rb w.heap.size w1.heap.size zeroOp b1 [] from ⟨HRA.out.later hbelb, hbb, HBA.out.below hbelb HBA.out.lt, grown_below HGA.out hbelb, Nat.le_refl _, HBA.out.lt, hrb, h0le, fun _ h => by cases h⟩)
  clear HBA HRA HGA hbb hbelb
  generalize w1.heap.size = tx at *
  go_wp2_with (refine HS.out.x.wstore rfl rfl rfl (cs := [.int .i64 k, .int .i64 0, .int .i64 0, .int .i64 0, .slice none 0 0, .slice none 0 0, .string (str [])]) rfl Tryz.rowOp rfl rfl (by intro v hv; simp at hv; rcases hv with rfl | rfl | rfl | rfl <;> rfl) ?_)
  intro wc hb ho
  have HS := Lib.hid (HS.out.set hb ho)
  clear hb ho
  go_wp2_with fail
  refine (num_ok 1 w0 _ rb b1 a b2 (HS.out.rd) h1 (by omega)).mono ?_
  rintro e w2 ⟨rfl, hrd, hg⟩
  have HS := Lib.hid (HS.out.call hrd hg)
  clear hrd hg
  go_wp2_with (refine HS.out.x.wset (i := 1) (v := .int .i64 a) rfl rfl rfl rfl Tryz.size_int rfl rfl (by simp) ?_)
  intro wx1 hb ho
  have HS := Lib.hid (HS.out.set hb ho)
  clear hb ho
  go_wp2_with fail
  refine (num_ok 4 w0 _ rb b2 n b3 (HS.out.rd) h2 (by omega)).mono ?_
  rintro e w3 ⟨rfl, hrd, hg⟩
  have HS := Lib.hid (HS.out.call hrd hg)
  clear hrd hg
  go_wp2_with (refine HS.out.x.wset (i := 2) (v := .int .i64 n) rfl rfl rfl rfl Tryz.size_int rfl rfl (by simp) ?_)
  intro wx2 hb ho
  have HS := Lib.hid (HS.out.set hb ho)
  clear hb ho
  go_wp2_with fail
  refine (num_ok 4 w0 _ rb b3 m b4 (HS.out.rd) h3 (by omega)).mono ?_
  rintro e w4 ⟨rfl, hrd, hg⟩
  have HS := Lib.hid (HS.out.call hrd hg)
  clear hrd hg
  go_wp2_with (refine HS.out.x.wset (i := 3) (v := .int .i64 m) rfl rfl rfl rfl Tryz.size_int rfl rfl (by simp) ?_)
  intro wx3 hb ho
  have HS := Lib.hid (HS.out.set hb ho)
  clear hb ho
  go_wp2_with fail
  refine (rdbytes_ok 1 w0 _ rb b4 key b5 (HS.out.rd) h4 (by omega)).mono ?_
  rintro e w5 ⟨v4, rfl, hown, hrd, hg⟩
  have HS := Lib.hid (HS.out.call hrd hg)
  have HS := Lib.hid (HS.out.add hown)
  obtain ⟨ao4, cap4, rfl, hl4, hm4, _⟩ := hown.form
  clear hown
  clear hrd hg
  go_wp2_with (refine HS.out.x.wset (i := 4) (v := .slice ao4 key.length cap4) rfl rfl rfl rfl Tryz.size_bytes rfl rfl (by simp) ?_)
  intro wx4 hb ho
  have HS := Lib.hid (HS.out.set hb ho)
  clear hb ho
  go_wp2_with fail
  refine (rdbytes_ok 2 w0 _ rb b5 b b6 (HS.out.rd) h5 (by omega)).mono ?_
  rintro e w6 ⟨v5, rfl, hown, hrd, hg⟩
  have HS := Lib.hid (HS.out.call hrd hg)
  have HS := Lib.hid (HS.out.add hown)
  obtain ⟨ao5, cap5, rfl, hl5, hm5, _⟩ := hown.form
  clear hown
  clear hrd hg
  go_wp2_with (refine HS.out.x.wset (i := 5) (v := .slice ao5 b.length cap5) rfl rfl rfl rfl Tryz.size_bytes rfl rfl (by simp) ?_)
  intro wx5 hb ho
  have HS := Lib.hid (HS.out.set hb ho)
  clear hb ho
  go_wp2_with fail
  refine (rdbytes_ok 2 w0 _ rb b6 name b7 (HS.out.rd) h6 (by omega)).mono ?_
  rintro e w7 ⟨v6, rfl, hown, hrd, hg⟩
  have HS := Lib.hid (HS.out.call hrd hg)
  have HS := Lib.hid (HS.out.add hown)
  obtain ⟨ao6, cap6, rfl, hl6, hm6, _⟩ := hown.form
  have hstr := fun (w' : World) (hl : Lies w' ao6 (name.map B)) => run_string (P := Tryz.prog) w' 24 9 5 Tryz.underlying24 Tryz.underlying5 Tryz.underlying9 ao6 name.length cap6 name rfl hl
  have hstr2 := hstr w7 (HS.out.own _ (List.mem_cons_self ..)).lies
  clear hstr
  clear hown
  clear hrd hg
  go_wp2_with (refine HS.out.x.wset (i := 6) (v := .string (str name)) rfl rfl rfl rfl Tryz.size_string rfl rfl (by simp) ?_)
  intro wx6 hb ho
  have HS := Lib.hid (HS.out.set hb ho)
  clear hb ho
  have HXL := Lib.hid (HS.out.x)
  go_wp2_with (first | (refine HXL.out.wload rfl rfl rfl Tryz.rowOp rfl ?_) | (refine HS.out.res.wstore rfl rfl rfl (cs := [.int .i64 k, .int .i64 a, .int .i64 n, .int .i64 m, .slice ao4 key.length cap4, .slice ao5 b.length cap5, .string (str name)]) rfl Tryz.rowOp rfl rfl (by intro v hv; simp at hv; rcases hv with rfl | rfl | rfl | rfl | rfl | rfl | rfl <;> rfl) ?_))
  intro wd hb ho
  have HO := Lib.hid (fun (o : Value × List UInt8) (h : o ∈ _) => (HS.out.own o h).only ho HS.out.res (by decide))
  have h1 := HS.out.hs
  have h2 := HS.out.ht
  have HRD := Lib.hid (HS.out.rd.only ho (by omega) (by omega))
  have HG := Lib.hid (show w.grownBy wd (some rb) from ⟨ho.os.trans HS.out.g.os, ho.tape.trans HS.out.g.tape, ho.output.trans HS.out.g.output, Nat.le_trans HS.out.g.size (Nat.le_of_eq ho.size.symm), fun k hk hne => (ho.block k (by omega)).trans (HS.out.g.block k hk hne)⟩)
  have HB := Lib.hid hb
  clear hb ho HXL
  go_wp2
  refine HB.out.result rfl rfl rfl Tryz.rowOp rfl ⟨⟨⟨k, a, n, m, key, b, name⟩, ao4, cap4, ao5, cap5⟩, rfl, rfl, ⟨HO.out (_, _) (by simp), HO.out (_, _) (by simp), HERR.out⟩, HRD.out, HG.out⟩

end Go.Proofs.YtmpgcilppjkhoaaGreatDoor
