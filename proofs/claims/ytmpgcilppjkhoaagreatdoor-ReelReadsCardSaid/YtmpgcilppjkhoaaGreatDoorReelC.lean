/-
  The walks of reel: a reader.
-/
import Derived.Test.YtmpgcilppjkhoaaGreatDoorReelA
namespace Go.Proofs.YtmpgcilppjkhoaaGreatDoor
open Go.RowKit Go.Mem Go.Ops Go.Cells Go.Oct Go.Reel
set_option linter.unusedSimpArgs false
set_option linter.unusedVariables false
set_option maxRecDepth 100000

/-- A reader that has these bytes ahead. -/
structure Rd (w0 w : World) (rb : Nat) (bs : List UInt8) : Prop where
  ex : ∃ ao cap, Blk w rb [.slice ao bs.length cap] 65 ∧ bs.length ≤ cap ∧ cap ≤ maxLen ∧ Lies w0 ao (bs.map B)
  bel : Below w0.heap.size w0 w
  ge : w0.heap.size ≤ rb

theorem Rd.later {w0 w w' : World} {rb : Nat} {bs : List UInt8} (h : Rd w0 w rb bs) (hb : Below w.heap.size w w') : Rd w0 w' rb bs := by
  obtain ⟨ao, cap, h1, h2⟩ := h.ex
  exact ⟨⟨ao, cap, h1.below hb h1.lt, h2⟩, h.bel.trans (hb.mono h.bel.size), h.ge⟩
theorem Rd.drew {w0 w : World} {rb : Nat} {bs : List UInt8} (h : Rd w0 w rb bs) : Rd w0 w.drew rb bs := ⟨h.ex, h.bel.drew, h.ge⟩

/-- What a reader gives up with. -/
abbrev Short : List PanicEntry := [{ v := .iface 61 (.agg #[]), recovered := false }]

theorem take_short (n : Nat) (w0 w : World) (rb : Nat) (bs : List UInt8) (hr : Rd w0 w rb bs) (hn : bs.length < n) :
    Calls Tryz.prog 47 #[.pointer (some ⟨rb, 0, none⟩), .int .i64 n] w fun e w' => e = .panicked Short ∧ w = w' := by
  obtain ⟨ao, cap, hb, hc, hm, hl⟩ := hr.ex
  have c0 := hb.cell 0 _ rfl
  have ht : decide ((n : Int) > (bs.length : Int)) = true := by simp; omega
  clear hb hl hr
  go_enter Tryz.func47, Tryz.ntmps47
  go_wp2
  exact ⟨rfl, rfl, rfl⟩

theorem take_ok (n : Nat) (w0 w : World) (rb : Nat) (bs : List UInt8) (hr : Rd w0 w rb bs) (hn : n ≤ bs.length) :
    Calls Tryz.prog 47 #[.pointer (some ⟨rb, 0, none⟩), .int .i64 n] w fun e w' => ∃ ao cap, e = .returned (.slice ao n cap) ∧ n ≤ cap ∧ cap ≤ maxLen ∧ Lies w0 ao ((bs.take n).map B) ∧ Rd w0 w' rb (bs.drop n) ∧ w.grownBy w' (some rb) := by
  obtain ⟨ao, cap, hb, hc, hm, hl⟩ := hr.ex
  have c0 := hb.cell 0 _ rfl
  have hf := hb.free 0
  have ht : decide ((n : Int) > (bs.length : Int)) = false := by simp; omega
  have HB := Lib.hid hb
  have HL := Lib.hid hl
  have HR := Lib.hid hr
  clear hb hl hr
  go_enter Tryz.func47, Tryz.ntmps47
  have HF := Lib.hid (fun (u : Value) => (⟨rfl, rfl, rfl, by simp, fun k _ hk => Below.heap_setCell w _ u k (fun h => hk (by rw [h]))⟩ : w.grownBy (w.setCell ⟨rb, 0, none⟩ u) (some rb)))
  go_wp2
  · rename_i h
    subst h
    go_ret
    refine ⟨_, _, rfl, Nat.le_refl _, hm, HL.out.take _, ⟨⟨ao, 0, ?_, by rw [List.length_drop]; omega, by simp [maxLen], ?_⟩, HR.out.bel.setCell HR.out.ge _, HR.out.ge⟩, HF.out _⟩
    · rw [List.length_drop]; exact HB.out.set 0 _
    · rw [List.drop_of_length_le (by omega)]; exact Lies.nil _ _
  · go_ret
    refine ⟨_, _, rfl, by omega, hm, HL.out.take _, ⟨⟨ao.map (·.add n), cap - n, ?_, by rw [List.length_drop]; omega, by omega, ?_⟩, HR.out.bel.setCell HR.out.ge _, HR.out.ge⟩, HF.out _⟩
    · rw [List.length_drop]; exact HB.out.set 0 _
    · rw [List.map_drop]; exact HL.out.drop n

theorem number_short (many : Nat) (w0 w : World) (rb : Nat) (bs : List UInt8) (hr : Rd w0 w rb bs) (hn : bs.length < many) :
    Calls Tryz.prog 36 #[.pointer (some ⟨rb, 0, none⟩), .int .i64 many] w fun e w' => e = .panicked Short ∧ w = w' := by
  have HR := Lib.hid hr
  clear hr
  go_enter Tryz.func36, Tryz.ntmps36
  go_wp2_with fail
  refine (take_short many w0 _ rb bs HR.out hn).mono ?_
  rintro e w1 ⟨rfl, rfl⟩
  exact ⟨rfl, rfl, rfl⟩

theorem number_ok (many : Nat) (w0 w : World) (rb : Nat) (bs : List UInt8) (hr : Rd w0 w rb bs) (hn : many ≤ bs.length) (hm : many ≤ 4) :
    Calls Tryz.prog 36 #[.pointer (some ⟨rb, 0, none⟩), .int .i64 many] w fun e w' => e = .returned (.int .i64 (numOf (bs.take many))) ∧ Rd w0 w' rb (bs.drop many) ∧ w.grownBy w' (some rb) := by
  have HR := Lib.hid hr
  have hlt : (longL (bs.take many) 0).toNat < 4294967296 := by
    rw [longL_num _ (by rw [List.length_take]; omega)]
    have := numOf_lt (bs.take many)
    have h2 : 256 ^ (bs.take many).length ≤ 256 ^ 4 := Nat.pow_le_pow_right (by omega) (by rw [List.length_take]; omega)
    omega
  have HE := Lib.hid (longL_num (bs.take many) (by rw [List.length_take]; omega))
  have HW := Lib.hid (show IntKind.i64.wrap ((longL (bs.take many) 0).toNat : Int) = ((longL (bs.take many) 0).toNat : Int) from IntWalk.i64_in _ (by omega))
  clear hr
  go_enter Tryz.func36, Tryz.ntmps36
  go_wp2_with fail
  refine (take_ok many w0 _ rb bs HR.out hn).mono ?_
  rintro e w1 ⟨ao, cap, rfl, h1, h2, h3, hrd, hg⟩
  have HRD := Lib.hid hrd
  have HG := Lib.hid hg
  have HL := Lib.hid (h3.below hrd.bel)
  clear h3 hrd hg
  go_wp2_with fail
  refine (long_ok ao many cap 0 (bs.take many) _ (by rw [List.length_take]; omega) (by omega) (by omega) HL.out).mono ?_
  rintro e w2 ⟨rfl, hbel⟩
  have HRD := Lib.hid (HRD.out.later hbel)
  have HG := Lib.hid (grown_below HG.out hbel)
  clear hbel HL
  generalize longL (bs.take many) 0 = z at *
  have hw := HW.out
  go_wp2
  go_ret
  exact ⟨by rw [← HE.out]; rfl, HRD.out, HG.out⟩

theorem clone_ok (ao : Option Addr) (n cap : Nat) (bs : List UInt8) (w : World) (hn : bs.length = n) (hb : n ≤ 1099511627776) (hl : Lies w ao (bs.map B)) :
    Calls Tryz.prog 48 #[.slice ao n cap] w fun e w' => ∃ v, e = .returned v ∧ OwnB 5 w' w.heap.size v bs ∧ Below w.heap.size w w' := by
  have HL := Lib.hid hl
  have HN := Lib.hid hn
  clear hl hn
  cases ao with
  | none =>
    have : bs = [] := by
      cases bs with
      | nil => rfl
      | cons x xs => obtain ⟨_, _, e, _⟩ := HL.out 0 (B x) rfl; cases e
    subst this
    have hnil := fun (w : World) => (show (binOp .eql 24 (.slice none n cap) (.slice none 0 0)).run Tryz.prog w = .ok (.bool true) w from eql_slice_nil (P := Tryz.prog) w 24 5 none n cap Tryz.underlying24)
    go_enter Tryz.func48, Tryz.ntmps48
    go_wp2
    go_ret
    exact ⟨_, rfl, OwnB.nil _ _ _, Below.refl _ _⟩
  | some a =>
    have hnil := fun (w : World) => (show (binOp .eql 24 (.slice (some a) n cap) (.slice none 0 0)).run Tryz.prog w = .ok (.bool false) w from eql_slice_nil (P := Tryz.prog) w 24 5 (some a) n cap Tryz.underlying24)
    go_enter Tryz.func48, Tryz.ntmps48
    go_wp2_with (refine wpList_build0 rfl 24 rfl Tryz.underlying24 Tryz.infoByteR ?_)
    intro w1 v1 hown1 hbel1
    have HOWN := Lib.hid hown1
    have HBEL := Lib.hid hbel1
    have HL := Lib.hid (HL.out.below hbel1)
    clear hown1 hbel1
    go_wp2_with (at_builtin; refine wpList_append_bytes rfl 24 (.tmp 5) (.tmp 6) rfl Tryz.underlying24 Tryz.infoByteR rfl HOWN.out (some a) n cap bs rfl HN.out HL.out (by simp; omega) HBEL.out.size ?_)
    intro v2 w2 hown2 hg2
    have HB2 := Lib.hid (HOWN.out.belowGrown HBEL.out hg2 (Nat.le_refl _) HBEL.out.size)
    have HO2 := Lib.hid hown2
    clear hown2 hg2
    go_wp2
    go_ret
    exact ⟨_, rfl, HO2.out, HB2.out⟩

end Go.Proofs.YtmpgcilppjkhoaaGreatDoor
