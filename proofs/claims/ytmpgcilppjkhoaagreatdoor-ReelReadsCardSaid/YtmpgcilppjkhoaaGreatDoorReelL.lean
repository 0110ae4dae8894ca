/-
  The walks of a bench's run of one command, of reel.Play of its bytes, and of 'awake'.
-/
import Derived.Test.YtmpgcilppjkhoaaGreatDoorReelJ
import Derived.Test.YtmpgcilppjkhoaaGreatDoorReelF
import Derived.Test.YtmpgcilppjkhoaaGreatDoorReelT
import Derived.Test.YtmpgcilppjkhoaaGreatDoorReelW
import Derived.Test.YtmpgcilppjkhoaaGreatDoorTurnB
namespace Go.Proofs.YtmpgcilppjkhoaaGreatDoor
open Go.RowKit Go.Mem Go.Ops Go.Cells Go.Oct Go.Reel Go.Gf Go.Trn
set_option linter.unusedSimpArgs false
set_option linter.unusedVariables false
set_option maxRecDepth 100000

theorem Tryz.infoOut : (Tryz.prog.info? 48).map (fun i => (i.zero, i.size, i.bytes)) = some (some (.agg zeroOut'.toArray), 3, 40) := by kernel_rfl
theorem Tryz.zsOut : (Tryz.prog.info? 48).map (fun i => (i.zero, i.size)) = some (some (.agg zeroOut'.toArray), 3) := by kernel_rfl

/-- What a sector of no volume tells. -/
def outV : List Value := [.int .i64 2, .int .i64 0, .slice none 0 0]

abbrev RunFrame (bp : Nat) (ao : Option Addr) (cap : Nat) (v : Value) (us : Nat → Value) : Act := { tmps := #[.pointer (some ⟨bp, 0, none⟩), .slice ao 1 cap, us 2, us 3, us 4, v, us 6, us 7, us 8, us 9, us 10, us 11, us 12, us 13, us 14, us 15, us 16, us 17, us 18, us 19, us 20, us 21], defers := [] }

def RunAt (bp : Nat) (ao : Option Addr) (cap : Nat) (w : World) (x : Act) (wr : World) : Prop :=
  ∃ (us : Nat → Value) (v : Value) (m : Nat), x = RunFrame bp ao cap v us ∧ m ≤ 1 ∧ Hid (wr.ownsRow w.heap.size 48 3 v m (if m = 0 then [] else outV)) ∧ Hid (Below w.heap.size w wr)

theorem RunAt.intro {bp : Nat} {ao : Option Addr} {cap : Nat} {w : World} {x : Act} {wr : World} (v : Value) (m : Nat) (hx : x = RunFrame bp ao cap v (fun i => x.tmps.getD i undef)) (hm : m ≤ 1)
    (ho : wr.ownsRow w.heap.size 48 3 v m (if m = 0 then [] else outV)) (hb : Below w.heap.size w wr) : RunAt bp ao cap w x wr := ⟨_, v, m, hx, hm, ho, hb⟩

set_option maxHeartbeats 4000000 in
theorem run_one (bp hp q : Nat) (ao : Option Addr) (cap : Nat) (x : Opr) (w : World) (hb : Blk w bp (benchV hp q) 88) (hx : OpsIn w ao [x]) (hk : x.c.kind = 3) :
    Calls Tryz.prog 33 #[.pointer (some ⟨bp, 0, none⟩), .slice ao 1 cap] w fun e w' => ∃ v, e = .returned v ∧ w'.ownsRow w.heap.size 48 3 v 1 outV ∧ Below w.heap.size w w' := by
  obtain ⟨i0, hi, hz0, hz1, hz2⟩ := info_parts Tryz.infoOut
  have HI := Lib.hid (And.intro hi (And.intro hz0 (And.intro hz1 hz2)))
  have HB := Lib.hid hb
  have HX := Lib.hid hx
  have HK := Lib.hid hk
  clear hb hx hk hi hz0 hz1 hz2
  go_enter Tryz.func33, Tryz.ntmps33
  go_wp2_with fail
  refine wp_scope_label 0 (RunAt bp ao cap w) (fun x _ => 1 - (match x.tmps.getD 5 undef with | .slice _ m _ => m | _ => 0)) rfl ?_ ?_
  · simp only [wpPre]
    go_wp2
    exact RunAt.intro (.slice none 0 0) 0 rfl (by omega) (nil_owns _ _ _ _) (Below.refl _ _)
  · rintro y wr ⟨us, v, m, rfl, hm, HO, HBEL⟩
    obtain ⟨va, vcap, rfl, _, _, _⟩ := own_form HO.out
    by_cases h0 : m = 0
    · subst h0
      obtain ⟨hin, xb, xoff, rfl, hxb, hr⟩ := (HX.out.below HBEL.out).at (i := 0) rfl
      have HR := Lib.hid hr
      have HL7 := Lib.hid x.vals_length
      clear hin hr
      go_wp2_with (refine wpList_load_mid rfl 39 (.tmp 17) rfl xb (xoff + 0 * 7) rfl _ _ HR.out Tryz.underlying39 rfl (by rw [HL7.out]; exact Tryz.rowOp.2) ?_)
      go_wp2_with fail
      refine (do_read bp hp q x _ (HB.out.below HBEL.out HB.out.lt) HK.out).mono ?_
      rintro e w1 ⟨rfl, hbel1⟩
      have HO := Lib.hid (own_below HO.out hbel1)
      have HBEL := Lib.hid (HBEL.out.trans (hbel1.mono HBEL.out.size))
      clear hbel1 HR
      go_wp2_with (refine wpList_rows 44 48 3 1 _ [outV] rfl rfl rfl Tryz.underlying44 Tryz.zsOut rfl (by omega) rfl (by omega) (by omega) (by simp [outV]) ?_)
      intro w2 hb2 hbel2
      have HB2 := Lib.hid (show Lies w2 (some ⟨w1.heap.size, 0, none⟩) outV by have := hb2.lies; simpa using this)
      have HO := Lib.hid (own_below HO.out hbel2)
      have HBEL := Lib.hid (HBEL.out.trans (hbel2.mono HBEL.out.size))
      clear hb2 hbel2
      go_wp2_with (at_builtin; refine wpList_append_own _ rfl (.tmp 12) (.tmp 20) 44 rfl w.heap.size 48 i0 (.agg zeroOut'.toArray) 3 40 Tryz.underlying44 HI.out.1 HI.out.2.1 HI.out.2.2.1 HI.out.2.2.2 rfl (by decide) _ _ _ rfl HO.out ⟨w1.heap.size, 0, none⟩ 1 1 outV rfl rfl HB2.out.news (by intro v hv; simp [outV] at hv; rcases hv with rfl | rfl | rfl <;> rfl) (by unfold maxLen; omega) (by omega) HBEL.out.size ?_)
      intro v3 w3 hown3 hg3 _
      have HB3 := Lib.hid (below_append HBEL.out HO.out hg3 (Nat.le_refl _) HBEL.out.size)
      have HO3 := Lib.hid hown3
      clear hown3 hg3
      obtain ⟨va3, vcap3, rfl, _, _, _⟩ := own_form HO3.out
      go_wp2_with fail
      refine wp_goto ?_
      exact ⟨rfl, RunAt.intro _ 1 rfl (by omega) HO3.out HB3.out, by show 1 - 1 < 1 - 0; omega⟩
    · obtain rfl : m = 1 := by omega
      go_wp2
      go_ret
      exact ⟨_, rfl, HO.out, HBEL.out⟩

/-- The bytes of the one command of the example. -/
def b15 : List UInt8 := [3, 0, 2, 1, 0, 0, 0, 0, 0, 0, 0, 0, 0, 0, 0]
def b9 : List UInt8 := [2, 0, 0, 0, 0, 0, 0, 0, 0]
def c258 : Cmd := ⟨3, 0, 258, 0, [], [], []⟩
theorem parse_b15 : parse b15 = some [c258] := by
  have h : opP b15 = some (c258, []) := by rfl
  rw [parse_some h, parse_nil]
  rfl

theorem ops_of_own {w : World} {base n : Nat} {ao : Option Addr} {cap : Nat} {xs : List Opr} (h : w.ownsRow base 39 7 (.slice ao n cap) n (opsV xs)) (he : ∀ x ∈ xs, x.In w) : OpsIn w ao xs :=
  ⟨⟨by intro v hv; obtain ⟨x, _, rfl⟩ := List.mem_map.1 hv; exact x.vals_length, Lies.of_own h⟩, he⟩

set_option maxHeartbeats 4000000 in
theorem play_ok (q : Nat) (ao : Option Addr) (cap : Nat) (w : World) (hc : 15 ≤ cap) (hcm : cap ≤ maxLen) (hl : Lies w ao (b15.map B)) :
    Calls Tryz.prog 23 #[.pointer (some ⟨q, 0, none⟩), .slice ao 15 cap] w fun e w' => ∃ v, e = .returned v ∧ OwnB 5 w' w.heap.size v b9 ∧ Below w.heap.size w w' := by
  have HL := Lib.hid hl
  clear hl
  go_enter Tryz.func23, Tryz.ntmps23
  go_wp2_with fail
  refine (read_walk ao 15 cap b15 _ rfl hc hcm (by omega) HL.out).mono ?_
  rintro e w1 ⟨_, hs, hbel1⟩
  obtain ⟨v, xs, rfl, hxs, hown, hnew⟩ := hs _ parse_b15
  obtain ⟨x, hx1⟩ : ∃ x, xs = [x] := List.length_eq_one_iff.1 (by have := congrArg List.length hxs; simpa using this)
  subst hx1
  have hxc : x.c = c258 := by simpa using hxs
  obtain ⟨va, vcap, rfl, _, _, _⟩ := own_form hown
  have HOPS := Lib.hid (ops_of_own hown (fun y hy => (hnew y hy).in))
  have HB := Lib.hid hbel1
  have HK := Lib.hid (show x.c.kind = 3 by rw [hxc]; rfl)
  clear hs hxs hown hnew hbel1 hxc
  go_wp2_with fail
  refine (benchnew_ok q _).mono ?_
  rintro e w2 ⟨bp, hp, rfl, hbb, hbel2⟩
  have HBB := Lib.hid hbb
  have HOPS := Lib.hid (HOPS.out.below hbel2)
  have HB := Lib.hid (HB.out.trans (hbel2.mono HB.out.size))
  clear hbb hbel2
  go_wp2_with fail
  refine (run_one bp hp q va vcap x _ HBB.out HOPS.out HK.out).mono ?_
  rintro e w3 ⟨v3, rfl, hown3, hbel3⟩
  obtain ⟨v3a, v3cap, rfl, _, _, hl3⟩ := own_form hown3
  have HO := Lib.hid (show OutsIn w3 v3a [⟨2, 0, none, 0, []⟩] from ⟨⟨by simp [Oute.vals], by simpa [Oute.vals, outV] using hl3⟩, by
    intro y hy
    simp at hy
    subst hy
    exact ⟨⟨by decide, by decide⟩, ⟨by decide, by decide⟩, Lies.nil _ _, ⟨by simp, by simp [maxLen]⟩⟩⟩)
  have HB := Lib.hid (HB.out.trans (hbel3.mono HB.out.size))
  clear hown3 hl3 hbel3
  go_wp2_with fail
  refine (tell_ok v3a 1 v3cap [⟨2, 0, none, 0, []⟩] _ rfl HO.out (by omega) (by simp)).mono ?_
  rintro e w4 ⟨v4, rfl, hown4, hbel4⟩
  have HO4 := Lib.hid (show OwnB 5 w4 w.heap.size v4 b9 from hown4.base_le HB.out.size)
  have HB := Lib.hid (HB.out.trans (hbel4.mono HB.out.size))
  clear hown4 hbel4
  go_wp2
  go_ret
  exact ⟨_, rfl, HO4.out, HB.out⟩

theorem _root_.Go.Proofs.YtmpgcilppjkhoaaGreatDoor.Globals.below {w w' : World} (h : Globals w) (hb : Below w.heap.size w w') : Globals w' := by
  have e1 : tyAt w' 0 = tyAt w 0 := by unfold tyAt; rw [hb.block _ h.mixes.lt]
  have e2 : tyAt w' 1 = tyAt w 1 := by unfold tyAt; rw [hb.block _ h.unmixes.lt]
  exact ⟨by rw [e1]; exact h.mixes.below hb h.mixes.lt, by rw [e2]; exact h.unmixes.below hb h.unmixes.lt⟩

theorem tables_ok (w : World) (hg : Globals w) : Calls Tryz.prog 24 #[] w fun e w' => ∃ q, e = .returned (.pointer (some ⟨q, 0, none⟩)) ∧ Below w.heap.size w w' := by
  have HG := Lib.hid hg
  clear hg
  go_enter Tryz.func24, Tryz.ntmps24
  go_wp2_with fail
  refine (make_ok _).mono ?_
  rintro e w1 ⟨p, rfl, _, hb, hbel⟩
  have HB := Lib.hid hb
  have HL := Lib.hid hbel
  clear hb hbel
  go_wp2_with fail
  refine (new_ok p boxes _ boxes_length HB.out (HG.out.below HL.out)).mono ?_
  rintro e w2 ⟨q, rfl, _, _, hbel2⟩
  have HL := Lib.hid (HL.out.trans (hbel2.mono HL.out.size))
  clear hbel2
  go_wp2
  go_ret
  exact ⟨_, rfl, HL.out⟩

theorem string_ok (w : World) (ao : Option Addr) (n cap : Nat) (bs : List UInt8) (hn : bs.length = n) (hl : Lies w ao (bs.map B)) : (convert 24 9 (.slice ao n cap)).run Tryz.prog w = .ok (.string (str bs)) w :=
  run_string (P := Tryz.prog) w 24 9 5 Tryz.underlying24 Tryz.underlying5 Tryz.underlying9 ao n cap bs hn hl

def x258 : Opr := ⟨c258, none, 0, none, 0⟩
theorem Tryz.zsOpL : (Tryz.prog.info? 39).map (fun i => (i.zero, i.size)) = some (some (.agg (Go.Proofs.YtmpgcilppjkhoaaGreatDoor.zeroOp).toArray), 7) := by kernel_rfl

set_option maxHeartbeats 4000000 in
theorem awake_ok (w : World) (hg : Globals w) : Calls Tryz.prog 13 #[] w fun e w' => e = .returned (.bool true) ∧ Below w.heap.size w w' := by
  have HG := Lib.hid hg
  clear hg
  go_enter Tryz.func13, Tryz.ntmps13
  go_wp2_with (refine wpList_rows 28 39 7 1 _ [x258.vals] rfl rfl rfl Tryz.underlying28 Tryz.zsOpL rfl (by omega) rfl (by omega) (by omega) (by simp [x258.vals_length]) ?_)
  intro w1 hb1 hbel1
  have HOPS := Lib.hid (show OpsIn w1 (some ⟨w.heap.size, 0, none⟩) [x258] from ⟨⟨by simp [Opr.vals_length], by have := hb1.lies; simpa using this⟩, by
    intro y hy
    simp at hy
    subst hy
    exact ⟨⟨by decide, by decide⟩, ⟨by decide, by decide⟩, ⟨by decide, by decide⟩, ⟨by decide, by decide⟩, Lies.nil _ _, Lies.nil _ _, ⟨by decide, by decide⟩, ⟨by decide, by decide⟩, by decide⟩⟩)
  have HB := Lib.hid hbel1
  clear hb1 hbel1
  go_wp2_with fail
  refine (write_ok _ 1 _ [x258] _ rfl HOPS.out (by omega) (by intro y hy; simp at hy; subst hy; exact ⟨by decide, by decide, by decide⟩)).mono ?_
  rintro e w2 ⟨v2, rfl, hown2, _, hbel2⟩
  obtain ⟨v2a, v2cap, rfl, _, _, hl2⟩ := (hown2 rfl).form
  have HL2 := Lib.hid (show Lies w2 v2a (b15.map B) from hl2)
  have HB := Lib.hid (HB.out.trans (hbel2.mono HB.out.size))
  have hl15 : (outP ([x258].map (·.c))).length = 15 := rfl
  have her : errP ([x258].map (·.c)) = 0 := rfl
  rw [hl15, her]
  clear hown2 hbel2 hl2 HOPS hl15 her
  go_wp2_with fail
  refine (tables_ok _ (HG.out.below HB.out)).mono ?_
  rintro e w3 ⟨q, rfl, hbel3⟩
  have HL2 := Lib.hid (HL2.out.below hbel3)
  have HB := Lib.hid (HB.out.trans (hbel3.mono HB.out.size))
  clear hbel3
  have HN3 := Lib.hid (Blk.new w3 [.int .u8 3, .int .u8 0, .int .u8 2, .int .u8 1, .int .u8 0, .int .u8 0, .int .u8 0, .int .u8 0, .int .u8 0, .int .u8 0, .int .u8 0, .int .u8 0, .int .u8 0, .int .u8 0, .int .u8 0] 5)
  go_wp2_with fail
  refine (play_ok q _ 15 _ (by omega) (by decide) (show Lies _ _ (b15.map B) from HN3.out.lies)).mono ?_
  rintro e w4 ⟨v4, rfl, hown4, hbel4⟩
  obtain ⟨v4a, v4cap, rfl, _, _, hl4⟩ := hown4.form
  have hbel34 := (later_alloc w3 _).trans (hbel4.mono (later_alloc w3 _).size)
  have HL2 := Lib.hid (HL2.out.below hbel34)
  have HL4 := Lib.hid hl4
  have HB := Lib.hid (HB.out.trans (hbel34.mono HB.out.size))
  have hl9 : b9.length = 9 := rfl
  rw [hl9]
  clear hown4 hbel4 hl4 hbel34 HN3 hl9
  have F1 := string_ok w4 v2a 15 v2cap b15 rfl HL2.out
  have HA1 := Lib.hid (later_alloc w4 (.cells #[.int .u8 3, .int .u8 0, .int .u8 2, .int .u8 1, .int .u8 0, .int .u8 0, .int .u8 0, .int .u8 0, .int .u8 0, .int .u8 0, .int .u8 0, .int .u8 0, .int .u8 0, .int .u8 0, .int .u8 0] 5))
  have F2 := string_ok (w4.alloc (.cells #[.int .u8 3, .int .u8 0, .int .u8 2, .int .u8 1, .int .u8 0, .int .u8 0, .int .u8 0, .int .u8 0, .int .u8 0, .int .u8 0, .int .u8 0, .int .u8 0, .int .u8 0, .int .u8 0, .int .u8 0] 5)) (some ⟨w4.heap.size, 0, none⟩) 15 15 b15 rfl
    (show Lies _ _ (b15.map B) from (Blk.new w4 [.int .u8 3, .int .u8 0, .int .u8 2, .int .u8 1, .int .u8 0, .int .u8 0, .int .u8 0, .int .u8 0, .int .u8 0, .int .u8 0, .int .u8 0, .int .u8 0, .int .u8 0, .int .u8 0, .int .u8 0] 5).lies)
  have F3 := string_ok _ v4a 9 v4cap b9 rfl (HL4.out.below HA1.out)
  obtain ⟨w5, hw5⟩ : ∃ w5, w5 = w4.alloc (.cells #[.int .u8 3, .int .u8 0, .int .u8 2, .int .u8 1, .int .u8 0, .int .u8 0, .int .u8 0, .int .u8 0, .int .u8 0, .int .u8 0, .int .u8 0, .int .u8 0, .int .u8 0, .int .u8 0, .int .u8 0] 5) := ⟨_, rfl⟩
  have F4 := string_ok (w5.alloc (.cells #[.int .u8 2, .int .u8 0, .int .u8 0, .int .u8 0, .int .u8 0, .int .u8 0, .int .u8 0, .int .u8 0, .int .u8 0] 5)) (some ⟨w5.heap.size, 0, none⟩) 9 9 b9 rfl
    (show Lies _ _ (b9.map B) from (Blk.new w5 [.int .u8 2, .int .u8 0, .int .u8 0, .int .u8 0, .int .u8 0, .int .u8 0, .int .u8 0, .int .u8 0, .int .u8 0] 5).lies)
  have h5 : w5.heap.size = w4.heap.size + 1 := by rw [hw5]; simp
  rw [h5] at F4
  clear h5
  subst hw5
  generalize str b15 = s15 at *
  generalize str b9 = s9 at *
  go_wp2
  go_ret
  exact ⟨rfl, (HB.out.alloc HB.out.size _).alloc (by have := HB.out.size; simp; omega) _⟩

end Go.Proofs.YtmpgcilppjkhoaaGreatDoor
