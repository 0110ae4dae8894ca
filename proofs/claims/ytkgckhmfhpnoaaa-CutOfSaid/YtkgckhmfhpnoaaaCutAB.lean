/-
  The walk of the law on the bytes and the half bytes of any cut.
-/
import Derived.Test.YtkgckhmfhpnoaaaCutR
import Derived.Test.YtkgckhmfhpnoaaaCutS
import Derived.Test.YtkgckhmfhpnoaaaCutV
import Derived.Test.YtkgckhmfhpnoaaaKind0
import Derived.ProofKit
import Derived.IntWalk
namespace Go.Proofs.Ytkgckhmfhpnoaaa
open Go.RowKit Go.Fl Go.Mem Go.Ops Go.CutP Go.BigFrame
set_option linter.unusedSimpArgs false
attribute [local irreducible] walkR

theorem cutpost_some {re im many a n : Nat} {w : World} {e : Ending} {w' : World} (h : cutOf re im many = some (a, n)) (hp : CutPost re im many w e w') : e = .returned (.tuple #[.int .i64 a, .int .i64 n, .bool true]) ∧ w = w' := by
  unfold CutPost at hp; rw [h] at hp; exact hp
theorem cutpost_none {re im many : Nat} {w : World} {e : Ending} {w' : World} (h : cutOf re im many = none) (hp : CutPost re im many w e w') : e = .returned (.tuple #[.int .i64 0, .int .i64 0, .bool false]) ∧ w = w' := by
  unfold CutPost at hp; rw [h] at hp; exact hp

theorem of_long (ao : Option Addr) (len cap re im : Nat) (w : World) (hm : len ≤ 9223372036854775807) (h : 100 < len) :
    Calls Try.prog 7 #[.slice ao len cap, .float .f64 re, .float .f64 im] w fun e w' => e = .returned (.bool true) ∧ Below w.heap.size w w' := by
  go_enter Try.func7, Try.ntmps7
  go_wp2
  go_ret
  exact ⟨rfl, Below.refl _ _⟩

set_option maxRecDepth 100000 in
set_option maxHeartbeats 2000000 in
theorem of_some_some (ao : Option Addr) (len cap re im : Nat) (bs : List UInt8) (w : World) (hlen : bs.length = len) (hlc : len ≤ cap) (hl : Lies w ao (bs.map B)) (h100 : len ≤ 100) (a n : Nat) (h1 : cutOf re im len = some (a, n)) (c m : Nat) (h2 : cutOf re im (2 * len) = some (c, m)) :
    Calls Try.prog 7 #[.slice ao len cap, .float .f64 re, .float .f64 im] w fun e w' => e = .returned (.bool true) ∧ Below w.heap.size w w' := by
  have hwr : IntKind.i64.wrap (2 * (len : Int)) = 2 * (len : Int) := IntWalk.i64_in _ (by omega)
  obtain ⟨i0, hi, hz0, hz1, hz2⟩ := info_parts Try.infoByte
  have han := (cutOf_some h1).2.2
  have hs1 := fun (w : World) => run_cut (P := Try.prog) w 39 5 Try.underlying39 (run_size _ i0 1 hi hz1) ao len cap a (a + n) (a : Int) ((a : Int) + n) rfl (by omega) (by omega) (by omega)
  rw [show a + n - a = n by omega] at hs1
  have hw1 : IntKind.i64.wrap ((a : Int) + n) = (a : Int) + n := IntWalk.i64_in _ (by omega)
  have hcm := (cutOf_some h2).2.2
  have hs2 := fun (w : World) (ad : Option Addr) (cp : Nat) (hcp : 2 * len ≤ cp) => run_cut (P := Try.prog) w 39 5 Try.underlying39 (run_size _ i0 1 hi hz1) ad (2 * len) cp c (c + m) (c : Int) ((c : Int) + m) rfl (by omega) (by omega) (by omega)
  rw [show c + m - c = m by omega] at hs2
  have hw2 : IntKind.i64.wrap ((c : Int) + m) = (c : Int) + m := IntWalk.i64_in _ (by omega)
  have HS2 := Lib.hid hs2
  clear hs2
  have H1 := Lib.hid h1
  have H2 := Lib.hid h2
  have HL := Lib.hid hl
  have HLEN := Lib.hid hlen
  have HNB := Lib.hid (nibs_length bs)
  clear h1 h2 hl hlen hi hz0 hz1 hz2
  go_enter Try.func7, Try.ntmps7
  go_wp2_with fail
  refine (of_ok _ _ _ bs _ _ _ _ _ HLEN.out hlc (by omega) HL.out H1.out).mono ?_
  rintro e w1 ⟨v1, rfl, hown1, hbel1⟩
  obtain ⟨ao1, cap1, rfl, _, _, hl1⟩ := own_form hown1
  clear hown1
  have HL1 := Lib.hid hl1
  have HB1 := Lib.hid hbel1
  clear hbel1
  try clear hl1
  go_wp2_with fail
  refine (halves_ok _ _ _ bs _ _ _ _ _ HLEN.out (by omega) (HL.out.below HB1.out) H2.out).mono ?_
  rintro e w2 ⟨v2, rfl, hown2, hbel2⟩
  obtain ⟨ao2, cap2, rfl, _, _, hl2⟩ := own_form hown2
  clear hown2
  have HL2 := Lib.hid hl2
  have HB2 := Lib.hid (show Below w.heap.size w w2 from HB1.out.trans (hbel2.mono HB1.out.size))
  have HB12 := Lib.hid hbel2
  clear hbel2
  try clear hl2
  go_wp2_with fail
  refine (refcut_ok re im len _ (by omega)).mono ?_
  intro e w' hp
  obtain ⟨rfl, rfl⟩ := cutpost_some H1.out hp
  have f1 := fun (x : After w2.drew) => run_string (P := Try.prog) x.val 39 9 5 Try.underlying39 Try.underlying5 Try.underlying9 ao1 n cap1 ((bs.drop a).take n) (by rw [List.length_take, List.length_drop, HLEN.out]; omega) ((HL1.out.below HB12.out).below (Below.laterD (Below.refl _ _) (Nat.le_refl _) x.later))
  have f2 := fun (x : After w2.drew) => run_string (P := Try.prog) x.val 39 9 5 Try.underlying39 Try.underlying5 Try.underlying9 (cutAddr ao cap a) n (cap - a) ((bs.drop a).take n) (by rw [List.length_take, List.length_drop, HLEN.out]; omega) (by
    have := (HL.out.below (HB2.out.laterD (Nat.le_refl _) x.later)).cutA (cap := cap) (by rw [List.length_map, HLEN.out]; exact hlc) a n
    rwa [← List.map_drop, ← List.map_take] at this)
  go_wp2_with fail
  refine wp_region_R [0, 1, 2, 3, 4, 5, 6, 7, 8, 9, 10, 11, 12, 13, 14, 15, 16, 17, 18, 19, 20, 21, 22, 23, 24, 25, 26] (by kernel_rfl) (by kernel_rfl) ?_
  rintro w3 rfl
  repeat (refine walkR_one rfl rfl (fun K hK => ?_); go_big_quiet_step (fail); refine wpQuiet_nil (hK _ ?_); clear hK K)
  refine walkR_nil ?_
  clear f1 f2
  go_wp2_with fail
  refine (refcut_ok re im (2 * len) _ (by omega)).mono ?_
  intro e w' hp
  obtain ⟨rfl, rfl⟩ := cutpost_some H2.out hp
  have f3 := fun (x : After w2.drew.drew) => run_string (P := Try.prog) x.val 39 9 5 Try.underlying39 Try.underlying5 Try.underlying9 ao2 m cap2 (((nibs bs).drop c).take m) (by rw [List.length_take, List.length_drop, HNB.out, HLEN.out]; omega) (HL2.out.below (Below.laterD (Below.drew (Below.refl _ _)) (Nat.le_refl _) x.later))
  go_wp2_with fail
  refine wp_region_R [0, 1, 2, 3, 4, 5, 6, 7, 8, 10, 11, 12, 13, 9, 14, 15, 16, 17, 18, 19, 20, 21, 22, 23, 24, 25, 26, 27] (by kernel_rfl) (by kernel_rfl) ?_
  rintro w3 rfl
  repeat (refine walkR_one rfl rfl (fun K hK => ?_); go_big_quiet_step (fail); refine wpQuiet_nil (hK _ ?_); clear hK K)
  refine walkR_call rfl rfl (by rfl) (fun K hK => ?_)
  go_simp
  refine (refhalves_ok _ _ _ bs _ HLEN.out (by omega) (HL.out.below HB2.out.drew.drew)).mono ?_
  rintro e w4 ⟨v4, rfl, hown4, hbel4⟩
  obtain ⟨ao4, cap4, rfl, hlc4, _, hl4⟩ := own_form hown4
  have HB4 := Lib.hid (show Below w.heap.size w w4 from HB2.out.drew.drew.trans (hbel4.mono HB2.out.size))
  have HL4 := Lib.hid hl4
  have f4 := fun (w' : World) => HS2.out w' ao4 cap4 hlc4
  have f5 := fun (x : After w4) => run_string (P := Try.prog) x.val 39 9 5 Try.underlying39 Try.underlying5 Try.underlying9 (cutAddr ao4 cap4 c) m (cap4 - c) (((nibs bs).drop c).take m) (by rw [List.length_take, List.length_drop, HNB.out, HLEN.out]; omega) (by
    have := (HL4.out.below x.later).cutA (cap := cap4) (by rw [List.length_map, HNB.out, HLEN.out]; exact hlc4) c m
    rwa [← List.map_drop, ← List.map_take] at this)
  clear hown4 hl4
  go_simp
  refine hK _ _ hbel4 ?_
  clear hK K hbel4
  repeat (refine walkR_one rfl rfl (fun K hK => ?_); go_big_quiet_step (fail); refine wpQuiet_nil (hK _ ?_); clear hK K)
  refine walkR_nil ?_
  go_wp2_with fail
  refine (awake_any _).mono ?_
  rintro e w5 ⟨rfl, hbel5⟩
  go_wp2
  go_ret
  exact ⟨rfl, HB4.out.trans (hbel5.mono HB4.out.size)⟩

set_option maxRecDepth 100000 in
set_option maxHeartbeats 2000000 in
theorem of_some_none (ao : Option Addr) (len cap re im : Nat) (bs : List UInt8) (w : World) (hlen : bs.length = len) (hlc : len ≤ cap) (hl : Lies w ao (bs.map B)) (h100 : len ≤ 100) (a n : Nat) (h1 : cutOf re im len = some (a, n)) (h2 : cutOf re im (2 * len) = none) :
    Calls Try.prog 7 #[.slice ao len cap, .float .f64 re, .float .f64 im] w fun e w' => e = .returned (.bool true) ∧ Below w.heap.size w w' := by
  have hwr : IntKind.i64.wrap (2 * (len : Int)) = 2 * (len : Int) := IntWalk.i64_in _ (by omega)
  obtain ⟨i0, hi, hz0, hz1, hz2⟩ := info_parts Try.infoByte
  have han := (cutOf_some h1).2.2
  have hs1 := fun (w : World) => run_cut (P := Try.prog) w 39 5 Try.underlying39 (run_size _ i0 1 hi hz1) ao len cap a (a + n) (a : Int) ((a : Int) + n) rfl (by omega) (by omega) (by omega)
  rw [show a + n - a = n by omega] at hs1
  have hw1 : IntKind.i64.wrap ((a : Int) + n) = (a : Int) + n := IntWalk.i64_in _ (by omega)
  have H1 := Lib.hid h1
  have H2 := Lib.hid h2
  have HL := Lib.hid hl
  have HLEN := Lib.hid hlen
  have HNB := Lib.hid (nibs_length bs)
  clear h1 h2 hl hlen hi hz0 hz1 hz2
  go_enter Try.func7, Try.ntmps7
  go_wp2_with fail
  refine (of_ok _ _ _ bs _ _ _ _ _ HLEN.out hlc (by omega) HL.out H1.out).mono ?_
  rintro e w1 ⟨v1, rfl, hown1, hbel1⟩
  obtain ⟨ao1, cap1, rfl, _, _, hl1⟩ := own_form hown1
  clear hown1
  have HL1 := Lib.hid hl1
  have HB1 := Lib.hid hbel1
  clear hbel1
  try clear hl1
  go_wp2_with fail
  refine (halves_bad _ _ _ _ _ _ (by omega) H2.out).mono ?_
  rintro e w2 ⟨rfl, hbel2⟩
  have HB2 := Lib.hid (show Below w.heap.size w w2 from HB1.out.trans (hbel2.mono HB1.out.size))
  have HB12 := Lib.hid hbel2
  clear hbel2
  try clear hl2
  go_wp2_with fail
  refine (refcut_ok re im len _ (by omega)).mono ?_
  intro e w' hp
  obtain ⟨rfl, rfl⟩ := cutpost_some H1.out hp
  have f1 := fun (x : After w2.drew) => run_string (P := Try.prog) x.val 39 9 5 Try.underlying39 Try.underlying5 Try.underlying9 ao1 n cap1 ((bs.drop a).take n) (by rw [List.length_take, List.length_drop, HLEN.out]; omega) ((HL1.out.below HB12.out).below (Below.laterD (Below.refl _ _) (Nat.le_refl _) x.later))
  have f2 := fun (x : After w2.drew) => run_string (P := Try.prog) x.val 39 9 5 Try.underlying39 Try.underlying5 Try.underlying9 (cutAddr ao cap a) n (cap - a) ((bs.drop a).take n) (by rw [List.length_take, List.length_drop, HLEN.out]; omega) (by
    have := (HL.out.below (HB2.out.laterD (Nat.le_refl _) x.later)).cutA (cap := cap) (by rw [List.length_map, HLEN.out]; exact hlc) a n
    rwa [← List.map_drop, ← List.map_take] at this)
  go_wp2_with fail
  refine wp_region_R [0, 1, 2, 3, 4, 5, 6, 7, 8, 9, 10, 11, 12, 13, 14, 15, 16, 17, 18, 19, 20, 21, 22, 23, 24, 25, 26] (by kernel_rfl) (by kernel_rfl) ?_
  rintro w3 rfl
  repeat (refine walkR_one rfl rfl (fun K hK => ?_); go_big_quiet_step (fail); refine wpQuiet_nil (hK _ ?_); clear hK K)
  refine walkR_nil ?_
  clear f1 f2
  go_wp2_with fail
  refine (refcut_ok re im (2 * len) _ (by omega)).mono ?_
  intro e w' hp
  obtain ⟨rfl, rfl⟩ := cutpost_none H2.out hp
  go_wp2_with fail
  refine wp_region_R [0, 1, 2, 3, 4, 5, 6, 7, 8, 10, 11, 12, 13, 9, 14, 15, 16, 17, 18, 19, 20, 21, 22, 23, 24, 25, 26, 27] (by kernel_rfl) (by kernel_rfl) ?_
  rintro w3 rfl
  repeat (refine walkR_one rfl rfl (fun K hK => ?_); go_big_quiet_step (fail); refine wpQuiet_nil (hK _ ?_); clear hK K)
  refine walkR_no rfl (by rfl) (fun K hK => ?_)
  go_simp
  refine hK _ ?_
  clear hK K
  repeat (refine walkR_one rfl rfl (fun K hK => ?_); go_big_quiet_step (fail); refine wpQuiet_nil (hK _ ?_); clear hK K)
  refine walkR_nil ?_
  go_wp2_with fail
  refine (awake_any _).mono ?_
  rintro e w5 ⟨rfl, hbel5⟩
  go_wp2
  go_ret
  exact ⟨rfl, HB2.out.drew.drew.trans (hbel5.mono HB2.out.size)⟩

set_option maxRecDepth 100000 in
set_option maxHeartbeats 2000000 in
theorem of_none_some (ao : Option Addr) (len cap re im : Nat) (bs : List UInt8) (w : World) (hlen : bs.length = len) (_ : len ≤ cap) (hl : Lies w ao (bs.map B)) (h100 : len ≤ 100) (h1 : cutOf re im len = none) (c m : Nat) (h2 : cutOf re im (2 * len) = some (c, m)) :
    Calls Try.prog 7 #[.slice ao len cap, .float .f64 re, .float .f64 im] w fun e w' => e = .returned (.bool true) ∧ Below w.heap.size w w' := by
  have hwr : IntKind.i64.wrap (2 * (len : Int)) = 2 * (len : Int) := IntWalk.i64_in _ (by omega)
  obtain ⟨i0, hi, hz0, hz1, hz2⟩ := info_parts Try.infoByte
  have hcm := (cutOf_some h2).2.2
  have hs2 := fun (w : World) (ad : Option Addr) (cp : Nat) (hcp : 2 * len ≤ cp) => run_cut (P := Try.prog) w 39 5 Try.underlying39 (run_size _ i0 1 hi hz1) ad (2 * len) cp c (c + m) (c : Int) ((c : Int) + m) rfl (by omega) (by omega) (by omega)
  rw [show c + m - c = m by omega] at hs2
  have hw2 : IntKind.i64.wrap ((c : Int) + m) = (c : Int) + m := IntWalk.i64_in _ (by omega)
  have HS2 := Lib.hid hs2
  clear hs2
  have H1 := Lib.hid h1
  have H2 := Lib.hid h2
  have HL := Lib.hid hl
  have HLEN := Lib.hid hlen
  have HNB := Lib.hid (nibs_length bs)
  clear h1 h2 hl hlen hi hz0 hz1 hz2
  go_enter Try.func7, Try.ntmps7
  go_wp2_with fail
  refine (of_bad _ _ _ _ _ _ (by omega) H1.out).mono ?_
  rintro e w1 ⟨rfl, hbel1⟩
  have HB1 := Lib.hid hbel1
  clear hbel1
  try clear hl1
  go_wp2_with fail
  refine (halves_ok _ _ _ bs _ _ _ _ _ HLEN.out (by omega) (HL.out.below HB1.out) H2.out).mono ?_
  rintro e w2 ⟨v2, rfl, hown2, hbel2⟩
  obtain ⟨ao2, cap2, rfl, _, _, hl2⟩ := own_form hown2
  clear hown2
  have HL2 := Lib.hid hl2
  have HB2 := Lib.hid (show Below w.heap.size w w2 from HB1.out.trans (hbel2.mono HB1.out.size))
  have HB12 := Lib.hid hbel2
  clear hbel2
  try clear hl2
  go_wp2_with fail
  refine (refcut_ok re im len _ (by omega)).mono ?_
  intro e w' hp
  obtain ⟨rfl, rfl⟩ := cutpost_none H1.out hp
  go_wp2_with fail
  refine wp_region_R [0, 1, 2, 3, 4, 5, 6, 7, 8, 9, 10, 11, 12, 13, 14, 15, 16, 17, 18, 19, 20, 21, 22, 23, 24, 25, 26] (by kernel_rfl) (by kernel_rfl) ?_
  rintro w3 rfl
  repeat (refine walkR_one rfl rfl (fun K hK => ?_); go_big_quiet_step (fail); refine wpQuiet_nil (hK _ ?_); clear hK K)
  refine walkR_nil ?_
  go_wp2_with fail
  refine (refcut_ok re im (2 * len) _ (by omega)).mono ?_
  intro e w' hp
  obtain ⟨rfl, rfl⟩ := cutpost_some H2.out hp
  have f3 := fun (x : After w2.drew.drew) => run_string (P := Try.prog) x.val 39 9 5 Try.underlying39 Try.underlying5 Try.underlying9 ao2 m cap2 (((nibs bs).drop c).take m) (by rw [List.length_take, List.length_drop, HNB.out, HLEN.out]; omega) (HL2.out.below (Below.laterD (Below.drew (Below.refl _ _)) (Nat.le_refl _) x.later))
  go_wp2_with fail
  refine wp_region_R [0, 1, 2, 3, 4, 5, 6, 7, 8, 10, 11, 12, 13, 9, 14, 15, 16, 17, 18, 19, 20, 21, 22, 23, 24, 25, 26, 27] (by kernel_rfl) (by kernel_rfl) ?_
  rintro w3 rfl
  repeat (refine walkR_one rfl rfl (fun K hK => ?_); go_big_quiet_step (fail); refine wpQuiet_nil (hK _ ?_); clear hK K)
  refine walkR_call rfl rfl (by rfl) (fun K hK => ?_)
  go_simp
  refine (refhalves_ok _ _ _ bs _ HLEN.out (by omega) (HL.out.below HB2.out.drew.drew)).mono ?_
  rintro e w4 ⟨v4, rfl, hown4, hbel4⟩
  obtain ⟨ao4, cap4, rfl, hlc4, _, hl4⟩ := own_form hown4
  have HB4 := Lib.hid (show Below w.heap.size w w4 from HB2.out.drew.drew.trans (hbel4.mono HB2.out.size))
  have HL4 := Lib.hid hl4
  have f4 := fun (w' : World) => HS2.out w' ao4 cap4 hlc4
  have f5 := fun (x : After w4) => run_string (P := Try.prog) x.val 39 9 5 Try.underlying39 Try.underlying5 Try.underlying9 (cutAddr ao4 cap4 c) m (cap4 - c) (((nibs bs).drop c).take m) (by rw [List.length_take, List.length_drop, HNB.out, HLEN.out]; omega) (by
    have := (HL4.out.below x.later).cutA (cap := cap4) (by rw [List.length_map, HNB.out, HLEN.out]; exact hlc4) c m
    rwa [← List.map_drop, ← List.map_take] at this)
  clear hown4 hl4
  go_simp
  refine hK _ _ hbel4 ?_
  clear hK K hbel4
  repeat (refine walkR_one rfl rfl (fun K hK => ?_); go_big_quiet_step (fail); refine wpQuiet_nil (hK _ ?_); clear hK K)
  refine walkR_nil ?_
  go_wp2_with fail
  refine (awake_any _).mono ?_
  rintro e w5 ⟨rfl, hbel5⟩
  go_wp2
  go_ret
  exact ⟨rfl, HB4.out.trans (hbel5.mono HB4.out.size)⟩

set_option maxRecDepth 100000 in
set_option maxHeartbeats 2000000 in
theorem of_none_none (ao : Option Addr) (len cap re im : Nat) (bs : List UInt8) (w : World) (hlen : bs.length = len) (_ : len ≤ cap) (hl : Lies w ao (bs.map B)) (h100 : len ≤ 100) (h1 : cutOf re im len = none) (h2 : cutOf re im (2 * len) = none) :
    Calls Try.prog 7 #[.slice ao len cap, .float .f64 re, .float .f64 im] w fun e w' => e = .returned (.bool true) ∧ Below w.heap.size w w' := by
  have hwr : IntKind.i64.wrap (2 * (len : Int)) = 2 * (len : Int) := IntWalk.i64_in _ (by omega)
  obtain ⟨i0, hi, hz0, hz1, hz2⟩ := info_parts Try.infoByte
  have H1 := Lib.hid h1
  have H2 := Lib.hid h2
  have HL := Lib.hid hl
  have HLEN := Lib.hid hlen
  have HNB := Lib.hid (nibs_length bs)
  clear h1 h2 hl hlen hi hz0 hz1 hz2
  go_enter Try.func7, Try.ntmps7
  go_wp2_with fail
  refine (of_bad _ _ _ _ _ _ (by omega) H1.out).mono ?_
  rintro e w1 ⟨rfl, hbel1⟩
  have HB1 := Lib.hid hbel1
  clear hbel1
  try clear hl1
  go_wp2_with fail
  refine (halves_bad _ _ _ _ _ _ (by omega) H2.out).mono ?_
  rintro e w2 ⟨rfl, hbel2⟩
  have HB2 := Lib.hid (show Below w.heap.size w w2 from HB1.out.trans (hbel2.mono HB1.out.size))
  have HB12 := Lib.hid hbel2
  clear hbel2
  try clear hl2
  go_wp2_with fail
  refine (refcut_ok re im len _ (by omega)).mono ?_
  intro e w' hp
  obtain ⟨rfl, rfl⟩ := cutpost_none H1.out hp
  go_wp2_with fail
  refine wp_region_R [0, 1, 2, 3, 4, 5, 6, 7, 8, 9, 10, 11, 12, 13, 14, 15, 16, 17, 18, 19, 20, 21, 22, 23, 24, 25, 26] (by kernel_rfl) (by kernel_rfl) ?_
  rintro w3 rfl
  repeat (refine walkR_one rfl rfl (fun K hK => ?_); go_big_quiet_step (fail); refine wpQuiet_nil (hK _ ?_); clear hK K)
  refine walkR_nil ?_
  go_wp2_with fail
  refine (refcut_ok re im (2 * len) _ (by omega)).mono ?_
  intro e w' hp
  obtain ⟨rfl, rfl⟩ := cutpost_none H2.out hp
  go_wp2_with fail
  refine wp_region_R [0, 1, 2, 3, 4, 5, 6, 7, 8, 10, 11, 12, 13, 9, 14, 15, 16, 17, 18, 19, 20, 21, 22, 23, 24, 25, 26, 27] (by kernel_rfl) (by kernel_rfl) ?_
  rintro w3 rfl
  repeat (refine walkR_one rfl rfl (fun K hK => ?_); go_big_quiet_step (fail); refine wpQuiet_nil (hK _ ?_); clear hK K)
  refine walkR_no rfl (by rfl) (fun K hK => ?_)
  go_simp
  refine hK _ ?_
  clear hK K
  repeat (refine walkR_one rfl rfl (fun K hK => ?_); go_big_quiet_step (fail); refine wpQuiet_nil (hK _ ?_); clear hK K)
  refine walkR_nil ?_
  go_wp2_with fail
  refine (awake_any _).mono ?_
  rintro e w5 ⟨rfl, hbel5⟩
  go_wp2
  go_ret
  exact ⟨rfl, HB2.out.drew.drew.trans (hbel5.mono HB2.out.size)⟩

end Go.Proofs.Ytkgckhmfhpnoaaa
