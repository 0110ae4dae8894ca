/-
  The walk of the law that the half bytes of two cuts side by side are those of the cut of both.
-/
import Derived.Test.YtkgckhmfhpnoaaaCutR
import Derived.Test.YtkgckhmfhpnoaaaCutV
import Derived.Test.YtkgckhmfhpnoaaaKind0
import Derived.Test.YtkgckhmfhpnoaaaRegionB
import Derived.Test.YtkgckhmfhpnoaaaAppend
import Derived.ProofKit
import Derived.IntWalk
import Derived.WalkSmall
namespace Go.Proofs.Ytkgckhmfhpnoaaa
open Go.RowKit Go.Fl Go.Mem Go.Ops Go.CutP Go.BigFrame
set_option linter.unusedSimpArgs false
attribute [local irreducible] walkB

theorem two_drawn (w : World) (o : Obj) (m : Nat) : Below w.heap.size w ((w.alloc o).drewN m) := below_drewN ((Below.refl _ _).alloc (Nat.le_refl _) _) _

set_option maxRecDepth 100000 in
set_option maxHeartbeats 2000000 in
theorem sides_law (ao : Option Addr) (len cap p q r : Nat) (bs : List UInt8) (w : World) (hlen : bs.length = len) (hmax : cap ≤ maxLen) (hlc : len ≤ cap) (hl : Lies w ao (bs.map B)) (hp : p ≤ 255) (hq : q ≤ 255) (hr : r ≤ 255) :
    Calls Try.prog 8 #[.agg #[.slice ao len cap, .int .u8 p, .int .u8 q, .int .u8 r]] w fun e w' => e = .returned (.bool true) ∧ Below w.heap.size w w' := by
  have hm : len ≤ 9223372036854775807 := by unfold maxLen at hmax; omega
  by_cases h100 : 100 < len
  · go_enter Try.func8, Try.ntmps8
    go_wp2
    go_quiet (fail)
    go_wp2
    go_ret
    exact ⟨rfl, below_drewN ((Below.refl _ _).alloc (Nat.le_refl _) _) _⟩
  generalize hx : p % (2 * len + 1) = x
  generalize hy : q % (2 * len + 1) = y
  generalize hz : r % (2 * len + 1) = z
  have hwr : IntKind.i64.wrap (2 * (len : Int)) = 2 * (len : Int) := IntWalk.i64_in _ (by omega)
  have hwr1 : IntKind.i64.wrap (2 * (len : Int) + 1) = 2 * (len : Int) + 1 := IntWalk.i64_in _ (by omega)
  have ex : (p : Int).tmod (2 * (len : Int) + 1) = x := by rw [Int.tmod_eq_emod_of_nonneg (by omega), ← hx]; simp
  have ey : (q : Int).tmod (2 * (len : Int) + 1) = y := by rw [Int.tmod_eq_emod_of_nonneg (by omega), ← hy]; simp
  have ez : (r : Int).tmod (2 * (len : Int) + 1) = z := by rw [Int.tmod_eq_emod_of_nonneg (by omega), ← hz]; simp
  have hxl : x ≤ 2 * len := by have := Nat.mod_lt p (show 0 < 2 * len + 1 by omega); omega
  have hyl : y ≤ 2 * len := by have := Nat.mod_lt q (show 0 < 2 * len + 1 by omega); omega
  have hzl : z ≤ 2 * len := by have := Nat.mod_lt r (show 0 < 2 * len + 1 by omega); omega
  clear hx hy hz
  have HL := Lib.hid hl
  have HLEN := Lib.hid hlen
  have HNB := Lib.hid (show (nibs bs).length = 2 * len by rw [nibs_length, hlen])
  clear hl hlen hmax hlc
  by_cases hbig : 2 * len < x + y + z
  · go_enter Try.func8, Try.ntmps8
    go_wp2
    go_quiet (fail)
    go_wp2
    go_quiet (fail)
    go_wp2
    go_ret
    exact ⟨rfl, two_drawn _ _ _⟩
  have c1 : cutOf (floatOfInt .f64 (x : Int)) (floatOfInt .f64 (y : Int)) (2 * len) = some (x, y) := cutOf_fl x y (2 * len) (by omega) (by omega)
  have c2 : cutOf (floatOfInt .f64 ((x : Int) + y)) (floatOfInt .f64 (z : Int)) (2 * len) = some (x + y, z) := cutOf_fl (x + y) z (2 * len) (by omega) (by omega)
  have c3 : cutOf (floatOfInt .f64 (x : Int)) (floatOfInt .f64 ((y : Int) + z)) (2 * len) = some (x, y + z) := cutOf_fl x (y + z) (2 * len) (by omega) (by omega)
  have HC1 := Lib.hid c1
  have HC2 := Lib.hid c2
  have HC3 := Lib.hid c3
  clear c1 c2 c3
  obtain ⟨i0, hi, hz0, hz1, hz2⟩ := info_parts Try.infoByte
  have HI := Lib.hid hi
  have HZ0 := Lib.hid hz0
  have HZ1 := Lib.hid hz1
  have HZ2 := Lib.hid hz2
  clear hi hz0 hz1 hz2
  have hwa : IntKind.i64.wrap ((x : Int) + y) = (x : Int) + y := IntWalk.i64_in _ (by omega)
  have hwb : IntKind.i64.wrap ((y : Int) + z) = (y : Int) + z := IntWalk.i64_in _ (by omega)
  go_enter Try.func8, Try.ntmps8
  go_wp2
  go_quiet (fail)
  go_wp2
  go_quiet (fail)
  go_wp2_with fail
  refine (halves_ok _ _ _ bs _ _ _ _ _ HLEN.out (by omega) (HL.out.below (two_drawn _ _ _)) HC1.out).mono ?_
  rintro e w1 ⟨v1, rfl, hown1, hbel1⟩
  have HB1 := Lib.hid (show Below w.heap.size w w1 from (two_drawn _ _ _).trans (hbel1.mono (two_drawn _ _ _).size))
  obtain ⟨ao1, cap1, rfl, _, _, hl1⟩ := own_form hown1
  have HL1 := Lib.hid hl1
  clear hown1 hbel1 hl1
  go_wp2_with fail
  refine (halves_ok _ _ _ bs _ _ _ _ _ HLEN.out (by omega) (HL.out.below HB1.out) HC2.out).mono ?_
  rintro e w2 ⟨v2, rfl, hown2, hbel2⟩
  have HB2 := Lib.hid (show Below w.heap.size w w2 from HB1.out.trans (hbel2.mono HB1.out.size))
  have HL1' := Lib.hid (HL1.out.below hbel2)
  obtain ⟨ao2, cap2, rfl, _, _, hl2⟩ := own_form hown2
  have HL2 := Lib.hid hl2
  clear hown2 hbel2 hl2 HL1
  go_wp2_with fail
  refine (halves_ok _ _ _ bs _ _ _ _ _ HLEN.out (by omega) (HL.out.below HB2.out) HC3.out).mono ?_
  rintro e w3 ⟨v3, rfl, hown3, hbel3⟩
  have HB3 := Lib.hid (show Below w.heap.size w w3 from HB2.out.trans (hbel3.mono HB2.out.size))
  have HL1'' := Lib.hid (HL1'.out.below hbel3)
  have HL2' := Lib.hid (HL2.out.below hbel3)
  obtain ⟨ao3, cap3, rfl, _, _, hl3⟩ := own_form hown3
  have HL3 := Lib.hid hl3
  clear hown3 hbel3 hl3 HL2 HL1'
  have f1 := fun (u : AfterB w3.heap.size w3.drew) => run_string (P := Try.prog) u.val 39 9 5 Try.underlying39 Try.underlying5 Try.underlying9 ao3 (y + z) cap3 (((nibs bs).drop x).take (y + z)) (by rw [List.length_take, List.length_drop, HNB.out]; omega) (HL3.out.below ((Below.refl w3.heap.size w3).drew.trans u.below))
  go_wp2_with fail
  refine wp_region_B w3.heap.size [(0, true), (1, true), (2, true), (3, true), (4, true), (5, true), (6, true), (7, true), (9, true), (11, true), (14, true), (15, true), (8, false), (10, false), (12, false), (13, false), (16, false), (17, false), (18, false), (19, false), (20, false), (21, false)] (by kernel_rfl) (by kernel_rfl) ?_
  rintro w4 rfl
  repeat ((first | refine walkB_one rfl rfl (fun K hK => ?_) | refine walkB_alone rfl rfl (fun K hK => ?_)); go_big_quiet_step (fail); refine wpQuiet_nil (hK _ ?_); clear hK K)
  refine walkB_free rfl (by rfl) (fun K hK => ?_)
  go_simp
  have B4 : Below w3.heap.size w3 (w3.alloc (.cells #[] 5)).drew := ((Below.refl _ _).alloc (Nat.le_refl _) _).drew
  refine hK _ _ (show Below w3.heap.size w3.drew (w3.drew.alloc (.cells #[] 5)) from (Below.refl w3.heap.size w3.drew).alloc (show w3.heap.size ≤ w3.drew.heap.size from Nat.le_refl _) _) ?_
  clear hK K
  have own0 : (w3.alloc (.cells #[] 5)).drew.ownsRow w3.heap.size 5 1 (.slice (some ⟨w3.heap.size, 0, none⟩) 0 0) 0 [] := (World.ownsRow_lit w3 #[] 0 (Nat.le_refl _) (by decide) rfl).drew
  refine walkB_free rfl (by rfl) (fun K hK => ?_)
  refine wp_append_any (.tmp 95) (.tmp 96) 39 rfl w3.heap.size 5 i0 (.int .u8 0) 1 Try.underlying39 HI.out HZ0.out HZ1.out HZ2.out rfl _ _ _ rfl own0 ao1 y cap1 _ rfl (by rw [List.length_map, List.length_take, List.length_drop, HNB.out]; omega) (HL1''.out.below B4) (B_one _) (by unfold maxLen; omega) (by omega) B4.size ?_
  intro v5 w5 hown5 hgr5
  have B5 := below_append B4 own0 hgr5 (Nat.le_refl _) B4.size
  simp only [Nat.zero_add, List.nil_append] at hown5
  obtain ⟨ao5, cap5, rfl, _, _, _⟩ := own_form hown5
  go_simp
  refine hK _ _ (below_append (Below.refl _ _) own0 hgr5 (Nat.le_refl _) B4.size) ?_
  clear hK K
  refine walkB_free rfl (by rfl) (fun K hK => ?_)
  refine wp_append_any (.tmp 97) (.tmp 98) 39 rfl w3.heap.size 5 i0 (.int .u8 0) 1 Try.underlying39 HI.out HZ0.out HZ1.out HZ2.out rfl _ _ _ rfl hown5 ao2 z cap2 _ rfl (by rw [List.length_map, List.length_take, List.length_drop, HNB.out]; omega) (HL2'.out.below B5) (B_one _) (by unfold maxLen; omega) (by omega) B5.size ?_
  intro v6 w6 hown6 hgr6
  have B6 := below_append B5 hown5 hgr6 (Nat.le_refl _) B5.size
  have B6w := Lib.hid (show Below w.heap.size w w6 from HB3.out.trans (B6.mono HB3.out.size))
  rw [← List.map_append, show (((nibs bs).drop x).take y) ++ (((nibs bs).drop (x + y)).take z) = ((nibs bs).drop x).take (y + z) by rw [List.take_add, List.drop_drop]] at hown6
  obtain ⟨ao6, cap6, rfl, _, _, hl6⟩ := own_form hown6
  have HL6 := Lib.hid hl6
  have B56 := below_append (Below.refl w3.heap.size w5) hown5 hgr6 (Nat.le_refl _) B5.size
  clear hown6 hgr6 hl6 hown5 hgr5 own0 B4 B5
  have f6 := fun (u : After w6) => run_string (P := Try.prog) u.val 39 9 5 Try.underlying39 Try.underlying5 Try.underlying9 ao6 (y + z) cap6 (((nibs bs).drop x).take (y + z)) (by rw [List.length_take, List.length_drop, HNB.out]; omega) (HL6.out.below u.later)
  go_simp
  refine hK _ _ B56 ?_
  clear hK K B56
  repeat ((first | refine walkB_one rfl rfl (fun K hK => ?_) | refine walkB_alone rfl rfl (fun K hK => ?_)); go_big_quiet_step (fail); refine wpQuiet_nil (hK _ ?_); clear hK K)
  refine walkB_free rfl (by rfl) (fun K hK => ?_)
  go_simp
  refine (awake_any _).mono ?_
  rintro e w7 ⟨rfl, hbel7⟩
  go_simp
  refine hK _ _ (hbel7.mono B6.size) ?_
  clear hK K
  repeat ((first | refine walkB_one rfl rfl (fun K hK => ?_) | refine walkB_alone rfl rfl (fun K hK => ?_)); go_big_quiet_step (fail); refine wpQuiet_nil (hK _ ?_); clear hK K)
  refine walkB_nil ?_
  go_wp2
  go_ret
  exact ⟨rfl, B6w.out.trans (hbel7.mono B6w.out.size)⟩

end Go.Proofs.Ytkgckhmfhpnoaaa
