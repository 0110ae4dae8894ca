/-
  The walk of the laws' awake.
-/
import Derived.Test.YtkgckhmfhpnoaaaCutB
import Derived.Test.YtkgckhmfhpnoaaaCutQ
import Derived.Lib.SlBytesConst
namespace Go.Proofs.Ytkgckhmfhpnoaaa
open Go.RowKit Go.Fl Go.Mem Go.CutP
set_option linter.unusedSimpArgs false

set_option maxRecDepth 100000 in
theorem awake_any (w : World) : Calls Try.prog 13 #[] w fun e w' => e = .returned (.bool true) ∧ Below w.heap.size w w' := by
  have e85 : partsL 3 85 = ([(4, 0, 16), (5, 16, 16), (6, 32, 16), (7, 48, 5), (8, 53, 16), (9, 69, 16)], 0) := by decide +kernel
  have hp := parts_any 3 85 w (by omega) (by omega)
  rw [e85] at hp
  clear e85
  have HP := Lib.hid hp
  have hcut : cutOf 4611686018427387904 4613937818241073152 6 = some (2, 3) := by decide +kernel
  have HCUT := Lib.hid hcut
  clear hp hcut
  have hqc := fun (w : World) (d a b x y : Nat) => run_equalIn_complex (P := Try.prog) w d 29 .f64 a b x y Try.underlying29
  have ho1 : (FloatKind.f64.format.order (fl 48) 4631952216750555136 == some Ordering.eq) = true := by decide +kernel
  have ho2 : (FloatKind.f64.format.order (fl 5) 4617315517961601024 == some Ordering.eq) = true := by decide +kernel
  have kc := fun (w : World) (C : Array Value) (n c : Nat) => Lib.run_convert_bytes_const (P := Try.prog) w 39 5 C n c Try.underlying39 Try.underlying5
  go_enter Try.func13, Try.ntmps13
  go_wp2_with fail
  refine HP.out.mono ?_
  rintro e w1 ⟨v, rfl, hown, hbel⟩
  obtain ⟨g, cap, rfl, hg1, hg2⟩ := hown.form (by decide)
  have HOWN := Lib.hid hown
  clear hown
  go_wp2_with fail
  have hbl : Below w1.heap.size w1 (w1.alloc (.cells #[B 97, B 98, B 99, B 100, B 101, B 102] 5 (6, 7))) := (Below.refl _ _).alloc (Nat.le_refl _) _
  refine (of_ok (some ⟨w1.heap.size, 0, none⟩) 6 6 [97, 98, 99, 100, 101, 102] _ _ 2 3 _ rfl (by omega) (by omega) (Lies.of_block (heap_alloc_new w1 _)) HCUT.out).mono ?_
  rintro e w2 ⟨v2, rfl, hown2, hbel2⟩
  obtain ⟨ao, cap2, rfl, _, _, hl2⟩ := own_form hown2
  have hsz := hbel.size
  have hbel3 : Below w1.heap.size w1 w2 := hbl.trans (hbel2.mono (by simp))
  have hc6 : w2.cell? ⟨g, 6, none⟩ = some (.int .i64 7) := (hbel3.cell (p := ⟨g, 6, none⟩) hg2).trans (by rw [HOWN.out.cellAt _ (by decide)]; rfl)
  have hc7 : w2.cell? ⟨g, 7, none⟩ = some (.complex .f64 (fl 48) (fl 5)) := (hbel3.cell (p := ⟨g, 7, none⟩) hg2).trans (by rw [HOWN.out.cellAt _ (by decide)]; rfl)
  have hst := run_string (P := Try.prog) w2 39 9 5 Try.underlying39 Try.underlying5 Try.underlying9 ao 3 cap2 [99, 100, 101] rfl hl2
  have hbelF : Below w.heap.size w w2 := hbel.trans (hbel3.mono hsz)
  have HBF := Lib.hid hbelF
  clear hbl hbel2 hown2 hl2 hbel3 hbel hbelF
  go_wp2
  go_ret
  refine ⟨?_, HBF.out⟩
  have e : ((str [99, 100, 101]).toList == [99, 100, 101]) = true := by simp [str]
  show Ending.returned (.bool ((str [99, 100, 101]).toList == [99, 100, 101])) = _
  rw [e]

end Go.Proofs.Ytkgckhmfhpnoaaa
