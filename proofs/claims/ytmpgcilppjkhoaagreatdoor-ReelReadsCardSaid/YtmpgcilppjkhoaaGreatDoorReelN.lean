/-
  The walks of the laws' own helpers: commands of the program, and whether commands are few and short.
-/
import Derived.Test.YtmpgcilppjkhoaaGreatDoorReelL
import Derived.Test.YtmpgcilppjkhoaaGreatDoorReelI
namespace Go.Proofs.YtmpgcilppjkhoaaGreatDoor
open Go.RowKit Go.Mem Go.Ops Go.Cells Go.Oct Go.Reel Go.Trn
set_option linter.unusedSimpArgs false
set_option linter.unusedVariables false
set_option maxRecDepth 100000

/-- Is a command short? -/
def shortB (c : Cmd) : Bool := decide (c.key.length ≤ 300) && decide (c.b.length ≤ 300) && decide (c.name.length ≤ 300)
def smallB (xs : List Opr) : Bool := xs.all (fun x => shortB x.c) && decide (xs.length ≤ 20)

theorem shortB_yes {c : Cmd} (h : shortB c = true) : c.key.length ≤ 300 ∧ c.b.length ≤ 300 ∧ c.name.length ≤ 300 := by
  unfold shortB at h
  simp only [Bool.and_eq_true, decide_eq_true_eq] at h
  exact ⟨h.1.1, h.1.2, h.2⟩
theorem smallB_yes {xs : List Opr} (h : smallB xs = true) : xs.length ≤ 20 ∧ ∀ x ∈ xs, x.c.key.length ≤ 300 ∧ x.c.b.length ≤ 300 ∧ x.c.name.length ≤ 300 := by
  unfold smallB at h
  simp only [Bool.and_eq_true, decide_eq_true_eq, List.all_eq_true] at h
  exact ⟨h.2, fun x hx => shortB_yes (h.1 x hx)⟩
theorem all_take_succ {xs : List Opr} {j : Nat} {x : Opr} (h : (xs.take j).all (fun x => shortB x.c) = true) (hj : xs[j]? = some x) (hx : shortB x.c = true) : (xs.take (j + 1)).all (fun x => shortB x.c) = true := by
  rw [List.take_add_one, hj, List.all_append, h]
  simp [hx]

set_option maxHeartbeats 4000000 in
theorem small_ok (ao : Option Addr) (n cap : Nat) (xs : List Opr) (w : World) (hn : xs.length = n) (hx : OpsIn w ao xs) (hcm : n ≤ maxLen) :
    Calls Tryz.prog 9 #[.slice ao n cap] w fun e w' => e = .returned (.bool (smallB xs)) ∧ w = w' := by
  have HN := Lib.hid hn
  have HX := Lib.hid hx
  have hmax : n ≤ 9223372036854775807 := by unfold maxLen at hcm; omega
  clear hn hx hcm
  go_enter Tryz.func9, Tryz.ntmps9
  go_wp2
  go_loopw [3] (fun c wr => ∃ j : Nat, j ≤ n ∧ c = .int .i64 j ∧ Hid ((xs.take j).all (fun x => shortB x.c) = true) ∧ w = wr) (fun c _ => n - (intOf c).toNat)
  case atStart => exact ⟨0, by omega, rfl, by rfl, rfl⟩
  case round =>
    obtain ⟨j, hj, rfl, HA, rfl⟩ := hrel
    by_cases hlt : j < n
    · obtain ⟨x, hget⟩ : ∃ x, xs[j]? = some x := ⟨xs[j]'(by rw [HN.out]; exact hlt), by simp⟩
      obtain ⟨hin, xb, xoff, rfl, hxb, hr⟩ := HX.out.at hget
      have HGET := Lib.hid hget
      have hsz := str_size x.c.name
      have c4 := hr 4 _ rfl
      have c5 := hr 5 _ rfl
      have c6 := hr 6 _ rfl
      have hjn : (j : Int) < (n : Int) := by omega
      clear hr hget hin
      by_cases g1 : x.c.key.length ≤ 300
      · have d1 : decide ((x.c.key.length : Int) > 300) = false := by simp; omega
        by_cases g2 : x.c.b.length ≤ 300
        · have d2 : decide ((x.c.b.length : Int) > 300) = false := by simp; omega
          by_cases g3 : x.c.name.length ≤ 300
          · have d3 : decide ((x.c.name.length : Int) > 300) = false := by simp; omega
            have HS := Lib.hid (show shortB x.c = true by simp [shortB, g1, g2, g3])
            have HA2 := Lib.hid (all_take_succ HA.out HGET.out HS.out)
            go_wp2
            go_roundw
            case rel => exact ⟨j + 1, by omega, by go_num, HA2, trivial⟩
            case measure => simp [intOf]; omega
          · have d3 : decide ((x.c.name.length : Int) > 300) = true := by simp; omega
            have HS := Lib.hid (show smallB xs = false by
              have : shortB x.c = false := by simp [shortB, g3]
              unfold smallB
              rw [show xs.all (fun x => shortB x.c) = false from List.all_eq_false.2 ⟨x, List.mem_of_getElem? HGET.out, by simp [this]⟩]
              rfl)
            go_wp2
            go_ret
            exact ⟨by rw [HS.out]; rfl, rfl⟩
        · have d2 : decide ((x.c.b.length : Int) > 300) = true := by simp; omega
          have HS := Lib.hid (show smallB xs = false by
            have : shortB x.c = false := by simp [shortB, g2]
            unfold smallB
            rw [show xs.all (fun x => shortB x.c) = false from List.all_eq_false.2 ⟨x, List.mem_of_getElem? HGET.out, by simp [this]⟩]
            rfl)
          go_wp2
          go_ret
          exact ⟨by rw [HS.out]; rfl, rfl⟩
      · have d1 : decide ((x.c.key.length : Int) > 300) = true := by simp; omega
        have HS := Lib.hid (show smallB xs = false by
          have : shortB x.c = false := by simp [shortB, g1]
          unfold smallB
          rw [show xs.all (fun x => shortB x.c) = false from List.all_eq_false.2 ⟨x, List.mem_of_getElem? HGET.out, by simp [this]⟩]
          rfl)
        go_wp2
        go_ret
        exact ⟨by rw [HS.out]; rfl, rfl⟩
    · obtain rfl : j = n := by omega
      rw [List.take_of_length_le (Nat.le_of_eq HN.out)] at HA
      have HS := Lib.hid (show smallB xs = decide ((j : Int) ≤ 20) by
        unfold smallB
        rw [HA.out, HN.out, Bool.true_and]
        exact decide_eq_decide.2 (by omega))
      go_wp2
      go_ret
      exact ⟨by rw [HS.out]; rfl, rfl⟩

set_option maxHeartbeats 4000000 in
theorem ops_ok (ao : Option Addr) (n cap : Nat) (xs : List Opr) (w : World) (hn : xs.length = n) (hx : OpsIn w ao xs) (hn2 : n ≤ 100000) :
    Calls Tryz.prog 11 #[.slice ao n cap] w fun e w' => ∃ v, e = .returned v ∧ w'.ownsRow w.heap.size 39 7 v n (opsV xs) ∧ Below w.heap.size w w' := by
  obtain ⟨i0, hi0, hz0, hz1, hz2⟩ := info_parts Tryz.infoOp
  have HI0 := Lib.hid (And.intro hi0 (And.intro hz0 (And.intro hz1 hz2)))
  have HN := Lib.hid hn
  have HX := Lib.hid hx
  clear hn hx hi0 hz0 hz1 hz2
  go_enter Tryz.func11, Tryz.ntmps11
  go_wp2
  go_loopw [3, 4] (fun v c wr => ∃ j : Nat, j ≤ n ∧ c = .int .i64 j ∧ Hid (wr.ownsRow w.heap.size 39 7 v j (opsV (xs.take j))) ∧ Hid (Below w.heap.size w wr)) (fun _ c _ => n - (intOf c).toNat)
  case atStart => exact ⟨0, by omega, rfl, nil_owns _ _ _ _, Below.refl _ _⟩
  case round =>
    obtain ⟨j, hj, rfl, HO, HB⟩ := hrel
    by_cases hlt : j < n
    · obtain ⟨x, hget⟩ : ∃ x, xs[j]? = some x := ⟨xs[j]'(by rw [HN.out]; exact hlt), by simp⟩
      have HSN := Lib.hid (show opsV (xs.take (j + 1)) = opsV (xs.take j) ++ x.vals by rw [List.take_add_one, hget]; exact opsV_snoc _ _)
      obtain ⟨hin, xb, xoff, rfl, hxb, hr⟩ := (HX.out.below HB.out).at hget
      have HR := Lib.hid hr
      have HL7 := Lib.hid x.vals_length
      clear hget hin hr
      go_wp2_with (first | (refine wpList_load_mid rfl 40 (.tmp 14) rfl xb (xoff + j * 7) rfl _ _ HR.out Tryz.underlying40 rfl (by rw [HL7.out]; exact Tryz.rowROp.2) ?_) | (refine wpList_var 40 zeroOp _ rfl rfl Tryz.zeroROp rfl ?_))
      intro w2 hb2 hbel2
      have HO := Lib.hid (own_below HO.out hbel2)
      have htx := HB.out.size
      have HB := Lib.hid (HB.out.trans (hbel2.mono HB.out.size))
      generalize htxe : wr.heap.size = tx at *
      clear hbel2
      go_wp2_with (refine hb2.wstore rfl rfl rfl rfl Tryz.rowROp rfl HL7.out x.vals_one ?_)
      intro w3 hb3 ho3
      have HO := Lib.hid (row_only HO.out ho3 hb2 (by decide))
      have HB := Lib.hid (below_only HB.out ho3 htx)
      have c0 := hb3.cell 0 _ rfl
      have c1 := hb3.cell 1 _ rfl
      have c2 := hb3.cell 2 _ rfl
      have c3 := hb3.cell 3 _ rfl
      have c4 := hb3.cell 4 _ rfl
      have c5 := hb3.cell 5 _ rfl
      have c6 := hb3.cell 6 _ rfl
      clear hb2 hb3 ho3 HR
      go_wp2_with (refine wpList_rows 28 39 7 1 _ [x.vals] rfl rfl rfl Tryz.underlying28 Tryz.zsOp rfl (by omega) rfl (by omega) (by omega) (by simp [x.vals_length]) ?_)
      intro w4 hb4 hbel4
      have HB4 := Lib.hid (show Lies w4 (some ⟨w3.heap.size, 0, none⟩) x.vals by have := hb4.lies; simpa using this)
      have HO := Lib.hid (own_below HO.out hbel4)
      have HB := Lib.hid (HB.out.trans (hbel4.mono HB.out.size))
      clear hb4 hbel4 c0 c1 c2 c3 c4 c5 c6
      go_wp2_with (at_builtin; refine wpList_append_own _ rfl (.tmp 16) (.tmp 32) 28 rfl w.heap.size 39 i0 (.agg (Go.Proofs.YtmpgcilppjkhoaaGreatDoor.zeroOp).toArray) 7 96 Tryz.underlying28 HI0.out.1 HI0.out.2.1 HI0.out.2.2.1 HI0.out.2.2.2 rfl (by decide) _ _ _ rfl HO.out ⟨w3.heap.size, 0, none⟩ 1 1 x.vals rfl rfl HB4.out.news x.vals_one (by unfold maxLen; omega) (by omega) HB.out.size ?_)
      intro v5 w5 hown5 hg5 _
      rw [← HSN.out] at hown5
      have HB5 := Lib.hid (below_append HB.out HO.out hg5 (Nat.le_refl _) HB.out.size)
      have HO5 := Lib.hid hown5
      clear hown5 hg5 HB4
      go_wp2
      go_roundw
      case rel => exact ⟨j + 1, by omega, by go_num, HO5, HB5⟩
      case measure => simp [intOf]; omega
    · obtain rfl : j = n := by omega
      rw [List.take_of_length_le (Nat.le_of_eq HN.out)] at HO
      go_wp2
      go_ret
      exact ⟨_, rfl, HO.out, HB.out⟩

end Go.Proofs.YtmpgcilppjkhoaaGreatDoor
