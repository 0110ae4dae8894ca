/-
  The walks of reel: whether a command can be written.
-/
import Derived.Test.YtmpgcilppjkhoaaGreatDoorReelA
namespace Go.Proofs.YtmpgcilppjkhoaaGreatDoor
open Go.RowKit Go.Mem Go.Ops Go.Cells Go.Oct Go.Reel
set_option linter.unusedSimpArgs false
set_option linter.unusedVariables false
set_option maxRecDepth 100000

theorem str_size (bs : List UInt8) : (str bs).size = bs.length := by simp [str, ByteArray.size]

set_option maxHeartbeats 4000000 in
theorem wrong_ok (x : Opr) (w : World) : Calls Tryz.prog 19 #[.agg x.vals.toArray] w fun e w' => e = .returned (.int .i64 x.c.err) ∧ Below w.heap.size w w' := by
  have hsz := str_size x.c.name
  by_cases g0 : 0 ≤ x.c.kind ∧ x.c.kind < 256
  case neg =>
    have HERR := Lib.hid (show x.c.err = 21 by unfold Cmd.err; rw [if_neg (by omega)])
    have H0 := Lib.hid (show false = decide (0 ≤ x.c.kind ∧ x.c.kind < 256) by simpa using g0)
    clear g0
    go_enter Tryz.func19, Tryz.ntmps19
    go_wp2_with (refine wpList_box 39 _ x.vals _ rfl rfl rfl rfl ?_)
    intro w1 hb hbel
    have c0 := hb.cell 0 _ rfl
    have c1 := hb.cell 1 _ rfl
    have c2 := hb.cell 2 _ rfl
    have c3 := hb.cell 3 _ rfl
    have c4 := hb.cell 4 _ rfl
    have c5 := hb.cell 5 _ rfl
    have c6 := hb.cell 6 _ rfl
    clear hb
    go_wp2_with fail
    refine (fits1_ok x.c.kind false _ H0.out).mono ?_
    rintro e w2 ⟨rfl, rfl⟩
    go_wp2
    go_ret
    exact ⟨by rw [HERR.out]; rfl, hbel⟩
  have H0 := Lib.hid (show true = decide (0 ≤ x.c.kind ∧ x.c.kind < 256) by simpa using g0)
  by_cases g1 : 0 ≤ x.c.a ∧ x.c.a < 256
  case neg =>
    have HERR := Lib.hid (show x.c.err = 21 by unfold Cmd.err; rw [if_neg (by omega)])
    have H1 := Lib.hid (show false = decide (0 ≤ x.c.a ∧ x.c.a < 256) by simpa using g1)
    clear g0
    clear g1
    go_enter Tryz.func19, Tryz.ntmps19
    go_wp2_with (refine wpList_box 39 _ x.vals _ rfl rfl rfl rfl ?_)
    intro w1 hb hbel
    have c0 := hb.cell 0 _ rfl
    have c1 := hb.cell 1 _ rfl
    have c2 := hb.cell 2 _ rfl
    have c3 := hb.cell 3 _ rfl
    have c4 := hb.cell 4 _ rfl
    have c5 := hb.cell 5 _ rfl
    have c6 := hb.cell 6 _ rfl
    clear hb
    go_wp2_with fail
    refine (fits1_ok x.c.kind true _ H0.out).mono ?_
    rintro e w2 ⟨rfl, rfl⟩
    go_wp2_with fail
    refine (fits1_ok x.c.a false _ H1.out).mono ?_
    rintro e w3 ⟨rfl, rfl⟩
    go_wp2
    go_ret
    exact ⟨by rw [HERR.out]; rfl, hbel⟩
  have H1 := Lib.hid (show true = decide (0 ≤ x.c.a ∧ x.c.a < 256) by simpa using g1)
  by_cases g2 : 0 ≤ x.c.n ∧ x.c.n < 4294967296
  case neg =>
    have HERR := Lib.hid (show x.c.err = 21 by unfold Cmd.err; rw [if_neg (by omega)])
    have H2 := Lib.hid (show false = decide (0 ≤ x.c.n ∧ x.c.n < 4294967296) by simpa using g2)
    clear g0
    clear g1
    clear g2
    go_enter Tryz.func19, Tryz.ntmps19
    go_wp2_with (refine wpList_box 39 _ x.vals _ rfl rfl rfl rfl ?_)
    intro w1 hb hbel
    have c0 := hb.cell 0 _ rfl
    have c1 := hb.cell 1 _ rfl
    have c2 := hb.cell 2 _ rfl
    have c3 := hb.cell 3 _ rfl
    have c4 := hb.cell 4 _ rfl
    have c5 := hb.cell 5 _ rfl
    have c6 := hb.cell 6 _ rfl
    clear hb
    go_wp2_with fail
    refine (fits1_ok x.c.kind true _ H0.out).mono ?_
    rintro e w2 ⟨rfl, rfl⟩
    go_wp2_with fail
    refine (fits1_ok x.c.a true _ H1.out).mono ?_
    rintro e w3 ⟨rfl, rfl⟩
    go_wp2_with fail
    refine (fits4_ok x.c.n false _ H2.out).mono ?_
    rintro e w4 ⟨rfl, rfl⟩
    go_wp2
    go_ret
    exact ⟨by rw [HERR.out]; rfl, hbel⟩
  have H2 := Lib.hid (show true = decide (0 ≤ x.c.n ∧ x.c.n < 4294967296) by simpa using g2)
  by_cases g3 : 0 ≤ x.c.m ∧ x.c.m < 4294967296
  case neg =>
    have HERR := Lib.hid (show x.c.err = 21 by unfold Cmd.err; rw [if_neg (by omega)])
    have H3 := Lib.hid (show false = decide (0 ≤ x.c.m ∧ x.c.m < 4294967296) by simpa using g3)
    clear g0
    clear g1
    clear g2
    clear g3
    go_enter Tryz.func19, Tryz.ntmps19
    go_wp2_with (refine wpList_box 39 _ x.vals _ rfl rfl rfl rfl ?_)
    intro w1 hb hbel
    have c0 := hb.cell 0 _ rfl
    have c1 := hb.cell 1 _ rfl
    have c2 := hb.cell 2 _ rfl
    have c3 := hb.cell 3 _ rfl
    have c4 := hb.cell 4 _ rfl
    have c5 := hb.cell 5 _ rfl
    have c6 := hb.cell 6 _ rfl
    clear hb
    go_wp2_with fail
    refine (fits1_ok x.c.kind true _ H0.out).mono ?_
    rintro e w2 ⟨rfl, rfl⟩
    go_wp2_with fail
    refine (fits1_ok x.c.a true _ H1.out).mono ?_
    rintro e w3 ⟨rfl, rfl⟩
    go_wp2_with fail
    refine (fits4_ok x.c.n true _ H2.out).mono ?_
    rintro e w4 ⟨rfl, rfl⟩
    go_wp2_with fail
    refine (fits4_ok x.c.m false _ H3.out).mono ?_
    rintro e w5 ⟨rfl, rfl⟩
    go_wp2
    go_ret
    exact ⟨by rw [HERR.out]; rfl, hbel⟩
  have H3 := Lib.hid (show true = decide (0 ≤ x.c.m ∧ x.c.m < 4294967296) by simpa using g3)
  by_cases g4 : 0 ≤ (x.c.key.length : Int) ∧ (x.c.key.length : Int) < 256
  case neg =>
    have HERR := Lib.hid (show x.c.err = 6 by unfold Cmd.err; rw [if_pos (by omega), if_neg (by omega)])
    have H4 := Lib.hid (show false = decide (0 ≤ (x.c.key.length : Int) ∧ (x.c.key.length : Int) < 256) by simpa using g4)
    clear g0
    clear g1
    clear g2
    clear g3
    clear g4
    go_enter Tryz.func19, Tryz.ntmps19
    go_wp2_with (refine wpList_box 39 _ x.vals _ rfl rfl rfl rfl ?_)
    intro w1 hb hbel
    have c0 := hb.cell 0 _ rfl
    have c1 := hb.cell 1 _ rfl
    have c2 := hb.cell 2 _ rfl
    have c3 := hb.cell 3 _ rfl
    have c4 := hb.cell 4 _ rfl
    have c5 := hb.cell 5 _ rfl
    have c6 := hb.cell 6 _ rfl
    clear hb
    go_wp2_with fail
    refine (fits1_ok x.c.kind true _ H0.out).mono ?_
    rintro e w2 ⟨rfl, rfl⟩
    go_wp2_with fail
    refine (fits1_ok x.c.a true _ H1.out).mono ?_
    rintro e w3 ⟨rfl, rfl⟩
    go_wp2_with fail
    refine (fits4_ok x.c.n true _ H2.out).mono ?_
    rintro e w4 ⟨rfl, rfl⟩
    go_wp2_with fail
    refine (fits4_ok x.c.m true _ H3.out).mono ?_
    rintro e w5 ⟨rfl, rfl⟩
    go_wp2_with fail
    refine (fits1_ok (x.c.key.length : Int) false _ H4.out).mono ?_
    rintro e w6 ⟨rfl, rfl⟩
    go_wp2
    go_ret
    exact ⟨by rw [HERR.out]; rfl, hbel⟩
  have H4 := Lib.hid (show true = decide (0 ≤ (x.c.key.length : Int) ∧ (x.c.key.length : Int) < 256) by simpa using g4)
  by_cases g5 : 0 ≤ (x.c.b.length : Int) ∧ (x.c.b.length : Int) < 65536
  case neg =>
    have HERR := Lib.hid (show x.c.err = 6 by unfold Cmd.err; rw [if_pos (by omega), if_neg (by omega)])
    have H5 := Lib.hid (show false = decide (0 ≤ (x.c.b.length : Int) ∧ (x.c.b.length : Int) < 65536) by simpa using g5)
    clear g0
    clear g1
    clear g2
    clear g3
    clear g4
    clear g5
    go_enter Tryz.func19, Tryz.ntmps19
    go_wp2_with (refine wpList_box 39 _ x.vals _ rfl rfl rfl rfl ?_)
    intro w1 hb hbel
    have c0 := hb.cell 0 _ rfl
    have c1 := hb.cell 1 _ rfl
    have c2 := hb.cell 2 _ rfl
    have c3 := hb.cell 3 _ rfl
    have c4 := hb.cell 4 _ rfl
    have c5 := hb.cell 5 _ rfl
    have c6 := hb.cell 6 _ rfl
    clear hb
    go_wp2_with fail
    refine (fits1_ok x.c.kind true _ H0.out).mono ?_
    rintro e w2 ⟨rfl, rfl⟩
    go_wp2_with fail
    refine (fits1_ok x.c.a true _ H1.out).mono ?_
    rintro e w3 ⟨rfl, rfl⟩
    go_wp2_with fail
    refine (fits4_ok x.c.n true _ H2.out).mono ?_
    rintro e w4 ⟨rfl, rfl⟩
    go_wp2_with fail
    refine (fits4_ok x.c.m true _ H3.out).mono ?_
    rintro e w5 ⟨rfl, rfl⟩
    go_wp2_with fail
    refine (fits1_ok (x.c.key.length : Int) true _ H4.out).mono ?_
    rintro e w6 ⟨rfl, rfl⟩
    go_wp2_with fail
    refine (fits2_ok (x.c.b.length : Int) false _ H5.out).mono ?_
    rintro e w7 ⟨rfl, rfl⟩
    go_wp2
    go_ret
    exact ⟨by rw [HERR.out]; rfl, hbel⟩
  have H5 := Lib.hid (show true = decide (0 ≤ (x.c.b.length : Int) ∧ (x.c.b.length : Int) < 65536) by simpa using g5)
  by_cases g6 : 0 ≤ ((str x.c.name).size : Int) ∧ ((str x.c.name).size : Int) < 65536
  case neg =>
    have HERR := Lib.hid (show x.c.err = 6 by unfold Cmd.err; rw [if_pos (by omega), if_neg (by omega)])
    have H6 := Lib.hid (show false = decide (0 ≤ ((str x.c.name).size : Int) ∧ ((str x.c.name).size : Int) < 65536) by simpa using g6)
    clear g0
    clear g1
    clear g2
    clear g3
    clear g4
    clear g5
    clear g6
    go_enter Tryz.func19, Tryz.ntmps19
    go_wp2_with (refine wpList_box 39 _ x.vals _ rfl rfl rfl rfl ?_)
    intro w1 hb hbel
    have c0 := hb.cell 0 _ rfl
    have c1 := hb.cell 1 _ rfl
    have c2 := hb.cell 2 _ rfl
    have c3 := hb.cell 3 _ rfl
    have c4 := hb.cell 4 _ rfl
    have c5 := hb.cell 5 _ rfl
    have c6 := hb.cell 6 _ rfl
    clear hb
    go_wp2_with fail
    refine (fits1_ok x.c.kind true _ H0.out).mono ?_
    rintro e w2 ⟨rfl, rfl⟩
    go_wp2_with fail
    refine (fits1_ok x.c.a true _ H1.out).mono ?_
    rintro e w3 ⟨rfl, rfl⟩
    go_wp2_with fail
    refine (fits4_ok x.c.n true _ H2.out).mono ?_
    rintro e w4 ⟨rfl, rfl⟩
    go_wp2_with fail
    refine (fits4_ok x.c.m true _ H3.out).mono ?_
    rintro e w5 ⟨rfl, rfl⟩
    go_wp2_with fail
    refine (fits1_ok (x.c.key.length : Int) true _ H4.out).mono ?_
    rintro e w6 ⟨rfl, rfl⟩
    go_wp2_with fail
    refine (fits2_ok (x.c.b.length : Int) true _ H5.out).mono ?_
    rintro e w7 ⟨rfl, rfl⟩
    go_wp2_with fail
    refine (fits2_ok ((str x.c.name).size : Int) false _ H6.out).mono ?_
    rintro e w8 ⟨rfl, rfl⟩
    go_wp2
    go_ret
    exact ⟨by rw [HERR.out]; rfl, hbel⟩
  have H6 := Lib.hid (show true = decide (0 ≤ ((str x.c.name).size : Int) ∧ ((str x.c.name).size : Int) < 65536) by simpa using g6)
  have HERR := Lib.hid (show x.c.err = 0 by unfold Cmd.err; rw [if_pos (by omega), if_pos (by omega)])
  clear g0
  clear g1
  clear g2
  clear g3
  clear g4
  clear g5
  clear g6
  go_enter Tryz.func19, Tryz.ntmps19
  go_wp2_with (refine wpList_box 39 _ x.vals _ rfl rfl rfl rfl ?_)
  intro w1 hb hbel
  have c0 := hb.cell 0 _ rfl
  have c1 := hb.cell 1 _ rfl
  have c2 := hb.cell 2 _ rfl
  have c3 := hb.cell 3 _ rfl
  have c4 := hb.cell 4 _ rfl
  have c5 := hb.cell 5 _ rfl
  have c6 := hb.cell 6 _ rfl
  clear hb
  go_wp2_with fail
  refine (fits1_ok x.c.kind true _ H0.out).mono ?_
  rintro e w2 ⟨rfl, rfl⟩
  go_wp2_with fail
  refine (fits1_ok x.c.a true _ H1.out).mono ?_
  rintro e w3 ⟨rfl, rfl⟩
  go_wp2_with fail
  refine (fits4_ok x.c.n true _ H2.out).mono ?_
  rintro e w4 ⟨rfl, rfl⟩
  go_wp2_with fail
  refine (fits4_ok x.c.m true _ H3.out).mono ?_
  rintro e w5 ⟨rfl, rfl⟩
  go_wp2_with fail
  refine (fits1_ok (x.c.key.length : Int) true _ H4.out).mono ?_
  rintro e w6 ⟨rfl, rfl⟩
  go_wp2_with fail
  refine (fits2_ok (x.c.b.length : Int) true _ H5.out).mono ?_
  rintro e w7 ⟨rfl, rfl⟩
  go_wp2_with fail
  refine (fits2_ok ((str x.c.name).size : Int) true _ H6.out).mono ?_
  rintro e w8 ⟨rfl, rfl⟩
  go_wp2
  go_ret
  exact ⟨by rw [HERR.out]; rfl, hbel⟩

end Go.Proofs.YtmpgcilppjkhoaaGreatDoor
