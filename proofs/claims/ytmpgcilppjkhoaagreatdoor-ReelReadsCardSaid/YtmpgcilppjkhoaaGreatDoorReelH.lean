/-
  The walk of the document's answer: whether a command can be written.
-/
import Derived.Test.YtmpgcilppjkhoaaGreatDoorReelB
namespace Go.Proofs.YtmpgcilppjkhoaaGreatDoor
open Go.RowKit Go.Mem Go.Ops Go.Cells Go.Oct Go.Reel
set_option linter.unusedSimpArgs false
set_option linter.unusedVariables false
set_option maxRecDepth 100000

set_option maxHeartbeats 4000000 in
theorem refwrong_ok (x : Opr) (w : World) : Calls Tryz.prog 21 #[.agg x.vals.toArray] w fun e w' => e = .returned (.int .i64 x.c.err) ∧ Below w.heap.size w w' := by
  have hsz := str_size x.c.name
  by_cases g0 : x.c.kind < 0
  case pos =>
    have HERR := Lib.hid (show x.c.err = 21 by unfold Cmd.err; rw [if_neg (by omega)])
    have d0 : decide (x.c.kind < 0) = true := by simpa using g0
    clear g0
    go_enter Tryz.func21, Tryz.ntmps21
    go_wp2_with (refine wpList_box 40 _ x.vals _ rfl rfl rfl rfl ?_)
    intro w1 hb hbel
    have c0 := hb.cell 0 _ rfl
    have c1 := hb.cell 1 _ rfl
    have c2 := hb.cell 2 _ rfl
    have c3 := hb.cell 3 _ rfl
    have c4 := hb.cell 4 _ rfl
    have c5 := hb.cell 5 _ rfl
    have c6 := hb.cell 6 _ rfl
    clear hb
    go_wp2
    go_ret
    exact ⟨by rw [HERR.out]; rfl, hbel⟩
  have d0 : decide (x.c.kind < 0) = false := by simpa using g0
  by_cases g1 : x.c.kind > 255
  case pos =>
    have HERR := Lib.hid (show x.c.err = 21 by unfold Cmd.err; rw [if_neg (by omega)])
    have d1 : decide (x.c.kind > 255) = true := by simpa using g1
    clear g0
    clear g1
    go_enter Tryz.func21, Tryz.ntmps21
    go_wp2_with (refine wpList_box 40 _ x.vals _ rfl rfl rfl rfl ?_)
    intro w1 hb hbel
    have c0 := hb.cell 0 _ rfl
    have c1 := hb.cell 1 _ rfl
    have c2 := hb.cell 2 _ rfl
    have c3 := hb.cell 3 _ rfl
    have c4 := hb.cell 4 _ rfl
    have c5 := hb.cell 5 _ rfl
    have c6 := hb.cell 6 _ rfl
    clear hb
    go_wp2
    go_ret
    exact ⟨by rw [HERR.out]; rfl, hbel⟩
  have d1 : decide (x.c.kind > 255) = false := by simpa using g1
  by_cases g2 : x.c.a < 0
  case pos =>
    have HERR := Lib.hid (show x.c.err = 21 by unfold Cmd.err; rw [if_neg (by omega)])
    have d2 : decide (x.c.a < 0) = true := by simpa using g2
    clear g0
    clear g1
    clear g2
    go_enter Tryz.func21, Tryz.ntmps21
    go_wp2_with (refine wpList_box 40 _ x.vals _ rfl rfl rfl rfl ?_)
    intro w1 hb hbel
    have c0 := hb.cell 0 _ rfl
    have c1 := hb.cell 1 _ rfl
    have c2 := hb.cell 2 _ rfl
    have c3 := hb.cell 3 _ rfl
    have c4 := hb.cell 4 _ rfl
    have c5 := hb.cell 5 _ rfl
    have c6 := hb.cell 6 _ rfl
    clear hb
    go_wp2
    go_ret
    exact ⟨by rw [HERR.out]; rfl, hbel⟩
  have d2 : decide (x.c.a < 0) = false := by simpa using g2
  by_cases g3 : x.c.a > 255
  case pos =>
    have HERR := Lib.hid (show x.c.err = 21 by unfold Cmd.err; rw [if_neg (by omega)])
    have d3 : decide (x.c.a > 255) = true := by simpa using g3
    clear g0
    clear g1
    clear g2
    clear g3
    go_enter Tryz.func21, Tryz.ntmps21
    go_wp2_with (refine wpList_box 40 _ x.vals _ rfl rfl rfl rfl ?_)
    intro w1 hb hbel
    have c0 := hb.cell 0 _ rfl
    have c1 := hb.cell 1 _ rfl
    have c2 := hb.cell 2 _ rfl
    have c3 := hb.cell 3 _ rfl
    have c4 := hb.cell 4 _ rfl
    have c5 := hb.cell 5 _ rfl
    have c6 := hb.cell 6 _ rfl
    clear hb
    go_wp2
    go_ret
    exact ⟨by rw [HERR.out]; rfl, hbel⟩
  have d3 : decide (x.c.a > 255) = false := by simpa using g3
  by_cases g4 : x.c.n < 0
  case pos =>
    have HERR := Lib.hid (show x.c.err = 21 by unfold Cmd.err; rw [if_neg (by omega)])
    have d4 : decide (x.c.n < 0) = true := by simpa using g4
    clear g0
    clear g1
    clear g2
    clear g3
    clear g4
    go_enter Tryz.func21, Tryz.ntmps21
    go_wp2_with (refine wpList_box 40 _ x.vals _ rfl rfl rfl rfl ?_)
    intro w1 hb hbel
    have c0 := hb.cell 0 _ rfl
    have c1 := hb.cell 1 _ rfl
    have c2 := hb.cell 2 _ rfl
    have c3 := hb.cell 3 _ rfl
    have c4 := hb.cell 4 _ rfl
    have c5 := hb.cell 5 _ rfl
    have c6 := hb.cell 6 _ rfl
    clear hb
    go_wp2
    go_ret
    exact ⟨by rw [HERR.out]; rfl, hbel⟩
  have d4 : decide (x.c.n < 0) = false := by simpa using g4
  by_cases g5 : x.c.n > 4294967295
  case pos =>
    have HERR := Lib.hid (show x.c.err = 21 by unfold Cmd.err; rw [if_neg (by omega)])
    have d5 : decide (x.c.n > 4294967295) = true := by simpa using g5
    clear g0
    clear g1
    clear g2
    clear g3
    clear g4
    clear g5
    go_enter Tryz.func21, Tryz.ntmps21
    go_wp2_with (refine wpList_box 40 _ x.vals _ rfl rfl rfl rfl ?_)
    intro w1 hb hbel
    have c0 := hb.cell 0 _ rfl
    have c1 := hb.cell 1 _ rfl
    have c2 := hb.cell 2 _ rfl
    have c3 := hb.cell 3 _ rfl
    have c4 := hb.cell 4 _ rfl
    have c5 := hb.cell 5 _ rfl
    have c6 := hb.cell 6 _ rfl
    clear hb
    go_wp2
    go_ret
    exact ⟨by rw [HERR.out]; rfl, hbel⟩
  have d5 : decide (x.c.n > 4294967295) = false := by simpa using g5
  by_cases g6 : x.c.m < 0
  case pos =>
    have HERR := Lib.hid (show x.c.err = 21 by unfold Cmd.err; rw [if_neg (by omega)])
    have d6 : decide (x.c.m < 0) = true := by simpa using g6
    clear g0
    clear g1
    clear g2
    clear g3
    clear g4
    clear g5
    clear g6
    go_enter Tryz.func21, Tryz.ntmps21
    go_wp2_with (refine wpList_box 40 _ x.vals _ rfl rfl rfl rfl ?_)
    intro w1 hb hbel
    have c0 := hb.cell 0 _ rfl
    have c1 := hb.cell 1 _ rfl
    have c2 := hb.cell 2 _ rfl
    have c3 := hb.cell 3 _ rfl
    have c4 := hb.cell 4 _ rfl
    have c5 := hb.cell 5 _ rfl
    have c6 := hb.cell 6 _ rfl
    clear hb
    go_wp2
    go_ret
    exact ⟨by rw [HERR.out]; rfl, hbel⟩
  have d6 : decide (x.c.m < 0) = false := by simpa using g6
  by_cases g7 : x.c.m > 4294967295
  case pos =>
    have HERR := Lib.hid (show x.c.err = 21 by unfold Cmd.err; rw [if_neg (by omega)])
    have d7 : decide (x.c.m > 4294967295) = true := by simpa using g7
    clear g0
    clear g1
    clear g2
    clear g3
    clear g4
    clear g5
    clear g6
    clear g7
    go_enter Tryz.func21, Tryz.ntmps21
    go_wp2_with (refine wpList_box 40 _ x.vals _ rfl rfl rfl rfl ?_)
    intro w1 hb hbel
    have c0 := hb.cell 0 _ rfl
    have c1 := hb.cell 1 _ rfl
    have c2 := hb.cell 2 _ rfl
    have c3 := hb.cell 3 _ rfl
    have c4 := hb.cell 4 _ rfl
    have c5 := hb.cell 5 _ rfl
    have c6 := hb.cell 6 _ rfl
    clear hb
    go_wp2
    go_ret
    exact ⟨by rw [HERR.out]; rfl, hbel⟩
  have d7 : decide (x.c.m > 4294967295) = false := by simpa using g7
  by_cases g8 : (x.c.key.length : Int) > 255
  case pos =>
    have HERR := Lib.hid (show x.c.err = 6 by unfold Cmd.err; rw [if_pos (by omega), if_neg (by omega)])
    have d8 : decide ((x.c.key.length : Int) > 255) = true := by simpa using g8
    clear g0
    clear g1
    clear g2
    clear g3
    clear g4
    clear g5
    clear g6
    clear g7
    clear g8
    go_enter Tryz.func21, Tryz.ntmps21
    go_wp2_with (refine wpList_box 40 _ x.vals _ rfl rfl rfl rfl ?_)
    intro w1 hb hbel
    have c0 := hb.cell 0 _ rfl
    have c1 := hb.cell 1 _ rfl
    have c2 := hb.cell 2 _ rfl
    have c3 := hb.cell 3 _ rfl
    have c4 := hb.cell 4 _ rfl
    have c5 := hb.cell 5 _ rfl
    have c6 := hb.cell 6 _ rfl
    clear hb
    go_wp2
    go_ret
    exact ⟨by rw [HERR.out]; rfl, hbel⟩
  have d8 : decide ((x.c.key.length : Int) > 255) = false := by simpa using g8
  by_cases g9 : (x.c.b.length : Int) > 65535
  case pos =>
    have HERR := Lib.hid (show x.c.err = 6 by unfold Cmd.err; rw [if_pos (by omega), if_neg (by omega)])
    have d9 : decide ((x.c.b.length : Int) > 65535) = true := by simpa using g9
    clear g0
    clear g1
    clear g2
    clear g3
    clear g4
    clear g5
    clear g6
    clear g7
    clear g8
    clear g9
    go_enter Tryz.func21, Tryz.ntmps21
    go_wp2_with (refine wpList_box 40 _ x.vals _ rfl rfl rfl rfl ?_)
    intro w1 hb hbel
    have c0 := hb.cell 0 _ rfl
    have c1 := hb.cell 1 _ rfl
    have c2 := hb.cell 2 _ rfl
    have c3 := hb.cell 3 _ rfl
    have c4 := hb.cell 4 _ rfl
    have c5 := hb.cell 5 _ rfl
    have c6 := hb.cell 6 _ rfl
    clear hb
    go_wp2
    go_ret
    exact ⟨by rw [HERR.out]; rfl, hbel⟩
  have d9 : decide ((x.c.b.length : Int) > 65535) = false := by simpa using g9
  by_cases g10 : (x.c.name.length : Int) > 65535
  case pos =>
    have HERR := Lib.hid (show x.c.err = 6 by unfold Cmd.err; rw [if_pos (by omega), if_neg (by omega)])
    have d10 : decide ((x.c.name.length : Int) > 65535) = true := by simpa using g10
    clear g0
    clear g1
    clear g2
    clear g3
    clear g4
    clear g5
    clear g6
    clear g7
    clear g8
    clear g9
    clear g10
    go_enter Tryz.func21, Tryz.ntmps21
    go_wp2_with (refine wpList_box 40 _ x.vals _ rfl rfl rfl rfl ?_)
    intro w1 hb hbel
    have c0 := hb.cell 0 _ rfl
    have c1 := hb.cell 1 _ rfl
    have c2 := hb.cell 2 _ rfl
    have c3 := hb.cell 3 _ rfl
    have c4 := hb.cell 4 _ rfl
    have c5 := hb.cell 5 _ rfl
    have c6 := hb.cell 6 _ rfl
    clear hb
    go_wp2
    go_ret
    exact ⟨by rw [HERR.out]; rfl, hbel⟩
  have d10 : decide ((x.c.name.length : Int) > 65535) = false := by simpa using g10
  have HERR := Lib.hid (show x.c.err = 0 by unfold Cmd.err; rw [if_pos (by omega), if_pos (by omega)])
  clear g0
  clear g1
  clear g2
  clear g3
  clear g4
  clear g5
  clear g6
  clear g7
  clear g8
  clear g9
  clear g10
  go_enter Tryz.func21, Tryz.ntmps21
  go_wp2_with (refine wpList_box 40 _ x.vals _ rfl rfl rfl rfl ?_)
  intro w1 hb hbel
  have c0 := hb.cell 0 _ rfl
  have c1 := hb.cell 1 _ rfl
  have c2 := hb.cell 2 _ rfl
  have c3 := hb.cell 3 _ rfl
  have c4 := hb.cell 4 _ rfl
  have c5 := hb.cell 5 _ rfl
  have c6 := hb.cell 6 _ rfl
  clear hb
  go_wp2
  go_ret
  exact ⟨by rw [HERR.out]; rfl, hbel⟩

end Go.Proofs.YtmpgcilppjkhoaaGreatDoor
