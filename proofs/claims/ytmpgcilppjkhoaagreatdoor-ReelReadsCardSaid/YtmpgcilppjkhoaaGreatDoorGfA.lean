/-
  The walks of gf: products.
-/
import Derived.Test.YtmpgcilppjkhoaaGreatDoorOctC
import Derived.Test.YtmpgcilppjkhoaaGreatDoorGfPlain
import Derived.Test.YtmpgcilppjkhoaaGreatDoorScope
namespace Go.Proofs.YtmpgcilppjkhoaaGreatDoor
open Go.RowKit Go.Mem Go.Ops Go.Cells Go.Oct Go.Gf
set_option linter.unusedSimpArgs false
set_option linter.unusedVariables false
set_option maxRecDepth 100000
attribute [local irreducible] walkR walkP walk0

theorem double_ok (a : UInt8) (w : World) : Calls Tryz.prog 43 #[B a] w fun e w' => e = .returned (B (dbl a)) ∧ w = w' := by
  go_enter Tryz.func43, Tryz.ntmps43
  go_wp2
  go_ret
  exact ⟨rfl, rfl⟩

def TimesAt (a b : UInt8) (w : World) (x : Act) (w' : World) : Prop :=
  ∃ (n : Nat) (a' b' s : UInt8), ∃ u2 u3 u4 u6 u7 u8 u9 u10 u11 u12 u13 u14 u15 u16 u17 u18 : Value, x = { tmps := #[B a', B b', u2, u3, u4, B s, u6, u7, u8, u9, u10, u11, u12, u13, u14, u15, u16, u17, u18], defers := [] } ∧ Hid (timesGo n a' b' s = times a b) ∧ b'.toNat < 2 ^ n ∧ w = w'

theorem times_ok (a b : UInt8) (w : World) : Calls Tryz.prog 53 #[B a, B b] w fun e w' => e = .returned (B (times a b)) ∧ w = w' := by
  go_enter Tryz.func53, Tryz.ntmps53
  go_wp2
  refine wp_scope_label 0 (TimesAt a b w) (fun a' _ => (intOf (a'.tmps.getD 1 undef)).toNat) rfl ?_ ?_
  · simp only [wpPre]
    go_wp2
    exact ⟨8, a, b, 0, _, _, _, _, _, _, _, _, _, _, _, _, _, _, _, _, rfl, rfl, lt8 b, rfl⟩
  · rintro x w' ⟨n, a', b', s, u2, u3, u4, u6, u7, u8, u9, u10, u11, u12, u13, u14, u15, u16, u17, u18, rfl, HT, hb, rfl⟩
    by_cases h0 : b' = 0
    · subst h0
      have HT := Lib.hid ((timesGo_zero n a' s).symm.trans HT.out)
      go_wp2
      go_ret
      exact ⟨by rw [← HT.out]; rfl, rfl⟩
    · have h0' : b'.toNat ≠ 0 := fun h => h0 (zero_of_toNat h)
      have hd : ((b'.toNat : Int) == 0) = false := beq_eq_false_iff_ne.2 (by omega)
      obtain ⟨n, rfl⟩ : ∃ m, n = m + 1 := ⟨n - 1, by cases n with | zero => simp at hb; omega | succ n => rfl⟩
      have hs := shr8_lt b' n hb
      have hs2 : (shr8 b' 1).toNat < b'.toNat := by unfold shr8; rw [UInt8.toNat_ofNat_of_lt' (by have := lt8 b'; show _ < 256; omega)]; omega
      have HT := Lib.hid (show timesGo n (dbl a') (shr8 b' 1) (xor8 s (mul8 a' (and8 b' 1))) = times a b by have := HT.out; simpa [timesGo, h0] using this)
      go_wp2_with fail
      refine (double_ok a' _).mono ?_
      rintro e w1 ⟨rfl, rfl⟩
      go_wp2
      refine wp_goto ⟨rfl, ⟨n, _, _, _, _, _, _, _, _, _, _, _, _, _, _, _, _, _, _, _, rfl, HT, hs, rfl⟩, ?_⟩
      simpa [intOf] using hs2

end Go.Proofs.YtmpgcilppjkhoaaGreatDoor
