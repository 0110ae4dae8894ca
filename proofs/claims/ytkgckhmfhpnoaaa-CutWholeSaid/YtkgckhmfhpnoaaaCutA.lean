/-
  The walks of cut: spans, and which numbers fit.
-/
import Derived.Test.YtkgckhmfhpnoaaaRows
import Derived.Test.YtkgckhmfhpnoaaaFl
import Derived.WalkKit
import Derived.WalkSpells
import Derived.WalkLawsBesides
import Derived.Lib.Hide
namespace Go.Proofs.Ytkgckhmfhpnoaaa
open Go.RowKit Go.Fl

theorem span_any (a b : Int) (w : World) :
    Calls Try.prog 21 #[.int .i64 a, .int .i64 b] w fun e w' => e = .returned (.complex .f64 (FloatKind.f64.nearest a) (FloatKind.f64.nearest b)) ∧ w = w' := by
  go_enter Try.func21, Try.ntmps21
  go_wp2
  go_ret
  exact ⟨rfl, rfl⟩

theorem behind_any (re im r : Nat) (b : Int) (w : World) (hf : floatBits .add .f64 re im = some r) :
    Calls Try.prog 27 #[.complex .f64 re im, .int .i64 b] w fun e w' => e = .returned (.complex .f64 r (FloatKind.f64.nearest b)) ∧ w = w' := by
  have hr := fun (w : World) (t : TypeId) => run_float_arith (P := Try.prog) w .add t .f64 re im r hf
  go_enter Try.func27, Try.ntmps27
  go_wp2
  go_ret
  exact ⟨rfl, rfl⟩

theorem fits_yes (x many i : Nat) (b : Nat) (w : World) (hm : many < 2 ^ 53) (hc : w.cell? ⟨b, 0, none⟩ = some (.int .i64 many)) (h : wholeOf x many = some i) :
    Calls Try.prog 28 #[.float .f64 x, .pointer (some ⟨b, 0, none⟩)] w fun e w' => e = .returned (.bool true) ∧ w = w' := by
  obtain ⟨h1, h2, h3, h4, h5⟩ := whole_yes x many i hm h
  have hr := fun (w : World) => run_convert_float_int (P := Try.prog) w 34 3 .f64 .i64 x i (by rw [Try.underlying34]; rfl) Try.underlying3 h4
  have h2' : (FloatKind.f64.format.order x 0 == some Ordering.gt || FloatKind.f64.format.order x 0 == some Ordering.eq) = true := h2
  have h3' : (FloatKind.f64.format.order x (floatOfInt FloatKind.f64 ↑many) == some Ordering.lt || FloatKind.f64.format.order x (floatOfInt FloatKind.f64 ↑many) == some Ordering.eq) = true := h3
  have h5' : (FloatKind.f64.format.order (floatOfInt FloatKind.f64 ↑i) x == some Ordering.eq) = true := h5
  clear h2 h3 h5 h4 h1 h hm
  go_enter Try.func28, Try.ntmps28
  go_wp2
  go_ret
  exact ⟨rfl, rfl⟩

theorem fits_no (x many : Nat) (b : Nat) (w : World) (hm : many < 2 ^ 53) (hc : w.cell? ⟨b, 0, none⟩ = some (.int .i64 many)) (h : wholeOf x many = none) :
    Calls Try.prog 28 #[.float .f64 x, .pointer (some ⟨b, 0, none⟩)] w fun e w' => e = .returned (.bool false) ∧ w = w' := by
  rcases whole_no x many hm h with h1 | h1 | ⟨h1, h2, i, h3, h4, h5⟩
  · have h1' : (FloatKind.f64.format.order x 0 == some Ordering.gt || FloatKind.f64.format.order x 0 == some Ordering.eq) = false := h1
    clear h1 h hm
    go_enter Try.func28, Try.ntmps28
    go_wp2
    go_ret
    exact ⟨rfl, rfl⟩
  · have h1' : (FloatKind.f64.format.order x (floatOfInt FloatKind.f64 ↑many) == some Ordering.lt || FloatKind.f64.format.order x (floatOfInt FloatKind.f64 ↑many) == some Ordering.eq) = false := h1
    clear h1 h hm
    by_cases h0 : (FloatKind.f64.format.order x 0 == some Ordering.gt || FloatKind.f64.format.order x 0 == some Ordering.eq) = true
    · go_enter Try.func28, Try.ntmps28
      go_wp2
      go_ret
      exact ⟨rfl, rfl⟩
    · have h0' : (FloatKind.f64.format.order x 0 == some Ordering.gt || FloatKind.f64.format.order x 0 == some Ordering.eq) = false := by simpa using h0
      clear h0
      go_enter Try.func28, Try.ntmps28
      go_wp2
      go_ret
      exact ⟨rfl, rfl⟩
  · have hr := fun (w : World) => run_convert_float_int (P := Try.prog) w 34 3 .f64 .i64 x i (by rw [Try.underlying34]; rfl) Try.underlying3 h4
    have h1' : (FloatKind.f64.format.order x 0 == some Ordering.gt || FloatKind.f64.format.order x 0 == some Ordering.eq) = true := h1
    have h2' : (FloatKind.f64.format.order x (floatOfInt FloatKind.f64 ↑many) == some Ordering.lt || FloatKind.f64.format.order x (floatOfInt FloatKind.f64 ↑many) == some Ordering.eq) = true := h2
    have h5' : (FloatKind.f64.format.order (floatOfInt FloatKind.f64 ↑i) x == some Ordering.eq) = false := h5
    clear h1 h2 h5 h h4 hm h3
    go_enter Try.func28, Try.ntmps28
    go_wp2
    go_ret
    exact ⟨rfl, rfl⟩

theorem fits_any (x many : Nat) (b : Nat) (w : World) (hm : many < 2 ^ 53) (hc : w.cell? ⟨b, 0, none⟩ = some (.int .i64 many)) :
    Calls Try.prog 28 #[.float .f64 x, .pointer (some ⟨b, 0, none⟩)] w fun e w' => e = .returned (.bool (wholeOf x many).isSome) ∧ w = w' := by
  cases h : wholeOf x many with
  | some i => exact fits_yes x many i b w hm hc h
  | none => exact fits_no x many b w hm hc h

theorem whole_ok (re im many a n : Nat) (w : World) (hm : many < 2 ^ 53) (hcut : cutOf re im many = some (a, n)) :
    Calls Try.prog 23 #[.complex .f64 re im, .int .i64 many] w fun e w' => e = .returned (.tuple #[.int .i64 a, .int .i64 n, .bool true]) ∧ w' = w.alloc (.cells #[.int .i64 many] 3) := by
  obtain ⟨h1, h2, h⟩ := cutOf_some hcut
  have k1 := (whole_yes re many a hm h1).2.2.2.1
  have k2 := (whole_yes im many n hm h2).2.2.2.1
  have l1 := (whole_yes re many a hm h1).1
  have l2 := (whole_yes im many n hm h2).1
  have hr := fun (w : World) => run_convert_float_int (P := Try.prog) w 34 3 .f64 .i64 re a (by rw [Try.underlying34]; rfl) Try.underlying3 k1
  have hi := fun (w : World) => run_convert_float_int (P := Try.prog) w 34 3 .f64 .i64 im n (by rw [Try.underlying34]; rfl) Try.underlying3 k2
  have hm' : (many : Int) ≤ 9007199254740992 := by have : (2 : Nat) ^ 53 = 9007199254740992 := by decide
                                                   omega
  have HM := Lib.hid hm
  have H1 := Lib.hid h1
  have H2 := Lib.hid h2
  clear k1 k2 h1 h2 hm hcut
  go_enter Try.func23, Try.ntmps23
  go_wp2_with fail
  refine (fits_yes re many a _ _ HM.out (by simp) H1.out).mono ?_
  rintro e w' ⟨rfl, rfl⟩
  go_wp2_with fail
  refine (fits_yes im many n _ _ HM.out (by simp) H2.out).mono ?_
  rintro e w' ⟨rfl, rfl⟩
  go_wp2_with fail
  go_ret3
  exact ⟨rfl, rfl⟩

theorem whole_bad (re im many : Nat) (w : World) (hm : many < 2 ^ 53) (hcut : cutOf re im many = none) :
    Calls Try.prog 23 #[.complex .f64 re im, .int .i64 many] w fun e w' => e = .returned (.tuple #[.int .i64 0, .int .i64 0, .bool false]) ∧ w' = w.alloc (.cells #[.int .i64 many] 3) := by
  have HM := Lib.hid hm
  rcases cutOf_none hcut with h1 | ⟨a, h1, h2⟩ | ⟨a, n, h1, h2, h⟩
  · have H1 := Lib.hid h1
    clear h1 hm hcut
    go_enter Try.func23, Try.ntmps23
    go_wp2_with fail
    refine (fits_no re many _ _ HM.out (by simp) H1.out).mono ?_
    rintro e w' ⟨rfl, rfl⟩
    go_wp2_with fail
    go_ret3
    exact ⟨rfl, rfl⟩
  · have H1 := Lib.hid h1
    have H2 := Lib.hid h2
    clear h1 h2 hm hcut
    go_enter Try.func23, Try.ntmps23
    go_wp2_with fail
    refine (fits_yes re many a _ _ HM.out (by simp) H1.out).mono ?_
    rintro e w' ⟨rfl, rfl⟩
    go_wp2_with fail
    refine (fits_no im many _ _ HM.out (by simp) H2.out).mono ?_
    rintro e w' ⟨rfl, rfl⟩
    go_wp2_with fail
    go_ret3
    exact ⟨rfl, rfl⟩
  · have k1 := (whole_yes re many a hm h1).2.2.2.1
    have k2 := (whole_yes im many n hm h2).2.2.2.1
    have l1 := (whole_yes re many a hm h1).1
    have l2 := (whole_yes im many n hm h2).1
    have hr := fun (w : World) => run_convert_float_int (P := Try.prog) w 34 3 .f64 .i64 re a (by rw [Try.underlying34]; rfl) Try.underlying3 k1
    have hi := fun (w : World) => run_convert_float_int (P := Try.prog) w 34 3 .f64 .i64 im n (by rw [Try.underlying34]; rfl) Try.underlying3 k2
    have hm' : (many : Int) ≤ 9007199254740992 := by have : (2 : Nat) ^ 53 = 9007199254740992 := by decide
                                                     omega
    have H1 := Lib.hid h1
    have H2 := Lib.hid h2
    clear k1 k2 h1 h2 hm hcut
    go_enter Try.func23, Try.ntmps23
    go_wp2_with fail
    refine (fits_yes re many a _ _ HM.out (by simp) H1.out).mono ?_
    rintro e w' ⟨rfl, rfl⟩
    go_wp2_with fail
    refine (fits_yes im many n _ _ HM.out (by simp) H2.out).mono ?_
    rintro e w' ⟨rfl, rfl⟩
    go_wp2_with fail
    go_ret3
    exact ⟨rfl, rfl⟩
end Go.Proofs.Ytkgckhmfhpnoaaa
