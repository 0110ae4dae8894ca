/-
  The walk of the law that half bytes, joined, are the bytes.
-/
import Derived.Test.YtkgckhmfhpnoaaaCutR
import Derived.Test.YtkgckhmfhpnoaaaCutV
import Derived.Test.YtkgckhmfhpnoaaaRegionR
import Derived.ProofKit
import Derived.IntWalk
namespace Go.Proofs.Ytkgckhmfhpnoaaa
open Go.RowKit Go.Fl Go.Mem Go.Ops Go.CutP
set_option linter.unusedSimpArgs false

set_option maxHeartbeats 1000000 in
theorem back_law (ao : Option Addr) (len cap : Nat) (bs : List UInt8) (w : World) (hlen : bs.length = len) (hmax : cap ≤ maxLen) (hlc : len ≤ cap) (hl : Lies w ao (bs.map B)) :
    Calls Try.prog 10 #[.slice ao len cap] w fun e w' => e = .returned (.bool true) ∧ Below w.heap.size w w' := by
  have hm : len ≤ 9223372036854775807 := by unfold maxLen at hmax; omega
  by_cases h200 : 200 < len
  · clear hlen hl hmax hlc
    go_enter Try.func10, Try.ntmps10
    go_wp2
    go_ret
    exact ⟨rfl, Below.refl _ _⟩
  · have hcut : cutOf 0 (floatOfInt .f64 (2 * (len : Int))) (2 * len) = some (0, 2 * len) := by
      have := cutOf_fl 0 (2 * len) (2 * len) (by omega) (by omega)
      rw [fl_zero] at this
      have e : fl (2 * len) = floatOfInt .f64 (2 * (len : Int)) := by unfold fl; congr 1
      rw [e] at this
      exact this
    have HL := Lib.hid hl
    have HLEN := Lib.hid hlen
    have HCUT := Lib.hid hcut
    have hwr : IntKind.i64.wrap (2 * (len : Int)) = 2 * (len : Int) := IntWalk.i64_in _ (by omega)
    have HJ := Lib.hid (joinL_length (nibs bs))
    have HN := Lib.hid (nibs_length bs)
    clear hl hlen hmax hlc hcut
    go_enter Try.func10, Try.ntmps10
    go_wp2_with fail
    refine (halves_ok _ _ _ bs _ _ _ _ _ HLEN.out (by omega) HL.out HCUT.out).mono ?_
    rintro e w1 ⟨v1, rfl, hown1, hbel1⟩
    rw [List.drop_zero, List.take_of_length_le (by rw [HN.out, HLEN.out]; omega)] at hown1
    obtain ⟨ao1, cap1, rfl, _, _, hl1⟩ := own_form hown1
    clear hown1
    have hst0 := fun (w' : World) (hb : Later w1.drew w') => run_string (P := Try.prog) w' 39 9 5 Try.underlying39 Try.underlying5 Try.underlying9 ao len cap bs HLEN.out (HL.out.below (hbel1.laterD (Nat.le_refl _) hb))
    have HL1 := Lib.hid hl1
    have HB1 := Lib.hid hbel1
    clear hl1 hbel1
    go_wp2_with fail
    refine wp_region_R [0, 1, 2, 3, 4, 5, 6, 7, 8, 9, 10, 11, 14, 15, 12, 13, 16, 17] (by kernel_rfl) (by kernel_rfl) ?_
    rintro w2 rfl
    repeat (first
      | (refine walkR_yes (v := ?_) rfl rfl (by rfl) ?_ (fun K hK => ?_)
         rotate_left
         · intro w' hw'
           go_simp
           with_reducible rfl
         go_simp
         refine hK _ ?_
         clear hK K)
      | (refine walkR_no rfl (by rfl) (fun K hK => ?_)
         go_simp
         refine hK _ ?_
         clear hK K))
    refine walkR_call rfl rfl (by rfl) (fun K hK => ?_)
    go_simp
    refine (join_ok _ (2 * len) _ (nibs bs) _ (by rw [HN.out, HLEN.out]) (by omega) (HL1.out.below (Below.refl _ _).drew)).mono ?_
    rintro e w2 ⟨v2, rfl, hown2, hbel2⟩
    obtain ⟨ao2, cap2, rfl, _, _, hl2⟩ := own_form hown2
    rw [join_nibs] at hl2
    have hst2 := fun (w' : World) (hb : Later w2 w') => run_string (P := Try.prog) w' 39 9 5 Try.underlying39 Try.underlying5 Try.underlying9 ao2 ((2 * len + 1) / 2) cap2 bs (by rw [HLEN.out]; omega) (hl2.below hb)
    clear hown2
    go_simp
    refine hK _ _ hbel2 ?_
    clear hK K
    repeat (first
      | (refine walkR_yes (v := ?_) rfl rfl (by rfl) ?_ (fun K hK => ?_)
         rotate_left
         · intro w' hw'
           go_simp
           with_reducible rfl
         go_simp
         refine hK _ ?_
         clear hK K)
      | (refine walkR_no rfl (by rfl) (fun K hK => ?_)
         go_simp
         refine hK _ ?_
         clear hK K))
    refine walkR_nil ?_
    have HB2 := Lib.hid (show Below w.heap.size w w2 from HB1.out.laterD (Nat.le_refl _) hbel2)
    have HL2 := Lib.hid (show Lies w2 ao1 ((nibs bs).map B) from HL1.out.below (Below.drew (Below.refl _ _) |>.trans (Below.mono hbel2 (Nat.le_refl _))))
    clear hst0 hst2 hbel2 hl2
    go_wp2
    go_loop [6] (fun i => ∃ k : Nat, k ≤ 2 * len ∧ i = .int .i64 k) (fun i => 2 * len - (intOf i).toNat)
    case atStart => exact ⟨0, Nat.zero_le _, rfl⟩
    case round =>
      obtain ⟨k, hk, rfl⟩ := hrel
      by_cases hlt : k < 2 * len
      · have hne : (nibs bs).map B ≠ [] := by intro h; have := congrArg List.length h; simp [HN.out, HLEN.out] at this; omega
        obtain ⟨b, off, rfl, hbw, hcell⟩ := HL2.out.at hne
        obtain ⟨x, hx⟩ : ∃ x, (nibs bs)[k]? = some x := ⟨(nibs bs)[k]'(by rw [HN.out, HLEN.out]; exact hlt), by simp⟩
        have hc := hcell k (B x) (by simp [hx])
        have hx15 : (x.toNat : Int) ≤ 15 := by have := nibs_low bs x (List.mem_of_getElem? hx); omega
        clear hne hcell hx
        go_wp2
        go_round
        case rel => exact ⟨k + 1, by omega, by go_num⟩
        case measure => simp [intOf]; omega
      · obtain rfl : k = 2 * len := by omega
        go_wp2_with fail
        refine (awake_any _).mono ?_
        rintro e w3 ⟨rfl, hbel3⟩
        go_wp2
        go_ret
        exact ⟨rfl, HB2.out.trans (hbel3.mono HB2.out.size)⟩

end Go.Proofs.Ytkgckhmfhpnoaaa
