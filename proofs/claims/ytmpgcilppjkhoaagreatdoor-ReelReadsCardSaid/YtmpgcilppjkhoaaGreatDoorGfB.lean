/-
  The walks of gf: AES's boxes.
-/
import Derived.Test.YtmpgcilppjkhoaaGreatDoorGfA
import Derived.Test.YtmpgcilppjkhoaaGreatDoorRegionB
namespace Go.Proofs.YtmpgcilppjkhoaaGreatDoor
open Go.RowKit Go.Mem Go.Ops Go.Cells Go.Oct Go.Gf
set_option linter.unusedSimpArgs false
set_option linter.unusedVariables false
set_option maxRecDepth 100000
attribute [local irreducible] walkR walkP walk0 walkB

theorem and7 : ∀ k : Fin 8, bits .and .u64 ((k.val : Nat) : Int) 7 = ((k.val : Nat) : Int) := by decide

theorem rot8_ok (x : UInt8) (k : Nat) (hk : k < 8) (w : World) : Calls Tryz.prog 54 #[B x, .int .i64 k] w fun e w' => e = .returned (B (rot8 x k)) ∧ w = w' := by
  have h7 := and7 ⟨k, hk⟩
  simp only at h7
  go_enter Tryz.func54, Tryz.ntmps54
  go_wp2
  go_ret
  exact ⟨rfl, rfl⟩

theorem box_ok (i : UInt8) (w : World) : Calls Tryz.prog 45 #[B i] w fun e w' => e = .returned (B (box i)) ∧ w = w' := by
  go_enter Tryz.func45, Tryz.ntmps45
  go_wp2
  go_loopw [3, 5] (fun s c wr => ∃ k : Nat, k ≤ 5 ∧ c = .int .i64 k ∧ s = B (boxGo i k) ∧ w = wr) (fun _ c _ => 5 - (intOf c).toNat)
  case atStart => exact ⟨0, by omega, rfl, rfl, rfl⟩
  case round =>
    obtain ⟨k, hk, rfl, rfl, rfl⟩ := hrel
    by_cases hlt : k < 5
    · go_wp2_with fail
      refine (rot8_ok i k (by omega) _).mono ?_
      rintro e w1 ⟨rfl, rfl⟩
      go_wp2
      go_roundw
      case rel => exact ⟨k + 1, by omega, rfl, rfl, by trivial⟩
      case measure => simp [intOf]; omega
    · obtain rfl : k = 5 := by omega
      go_wp2
      go_ret
      exact ⟨rfl, by trivial⟩

theorem Tryz.rowBoxes : Row Tryz.prog 101 512 := ⟨by kernel_rfl, by kernel_rfl⟩

theorem put_ok (p : Nat) (l : List UInt8) (a b : UInt8) (w : World) (hl : l.length = 512) (hb : Blk w p (l.map B) 101) :
    Calls Tryz.prog 44 #[.pointer (some ⟨p, 0, none⟩), B a, B b] w fun e w' => e = .returned (.tuple #[]) ∧ Blk w' p ((putL l a b).map B) 101 ∧ Only p w w' := by
  have ha8 := lt8 a
  have hb8 := lt8 b
  have HB := Lib.hid hb
  have HL := Lib.hid hl
  clear hb hl
  go_enter Tryz.func44, Tryz.ntmps44
  go_wp2_with fail
  refine wp_region_B p [(0, true), (1, true), (2, true), (3, true), (4, true), (5, true), (6, true), (7, true), (8, true), (10, true), (11, true), (9, false), (12, false), (13, false)] (by kernel_rfl) (by kernel_rfl) ?_
  rintro w1 rfl
  repeat ((first | refine walkB_one rfl rfl (fun K hK => ?_) | refine walkB_alone rfl rfl (fun K hK => ?_)); go_big_quiet_step (fail); refine wpQuiet_nil (hK _ ?_); clear hK K)
  refine walkB_free rfl (by rfl) (fun K hK => ?_)
  refine HB.out.drew.opset (v := B b) rfl rfl rfl Tryz.sizeByte rfl rfl (by rw [List.length_map, HL.out]; omega) (fun w3 hb3 ho3 => hK _ _ (below_only (Below.refl _ _) ho3 (Nat.le_refl _)) ?_)
  clear hK K
  rw [mapB_set] at hb3
  have HB3 := Lib.hid hb3
  have HO3 := Lib.hid ho3
  clear hb3 ho3
  go_simp
  repeat ((first | refine walkB_one rfl rfl (fun K hK => ?_) | refine walkB_alone rfl rfl (fun K hK => ?_)); go_big_quiet_step (fail); refine wpQuiet_nil (hK _ ?_); clear hK K)
  refine walkB_free rfl (by rfl) (fun K hK => ?_)
  refine HB3.out.opset (v := B a) rfl rfl rfl Tryz.sizeByte rfl rfl (by rw [List.length_map, List.length_set, HL.out]; omega) (fun w4 hb4 ho4 => hK _ _ (below_only (Below.refl _ _) ho4 (Nat.le_refl _)) ?_)
  clear hK K
  rw [mapB_set] at hb4
  refine walkB_nil ?_
  go_wp2
  go_end0
  exact ⟨rfl, hb4, (show Only p w w3 from ⟨HO3.out.os, HO3.out.tape, HO3.out.output, HO3.out.size, HO3.out.block⟩).trans ho4⟩

theorem to_ok (p : Nat) (l : List UInt8) (a : UInt8) (w : World) (hl : l.length = 512) (hb : Blk w p (l.map B) 101) :
    Calls Tryz.prog 42 #[.pointer (some ⟨p, 0, none⟩), B a] w fun e w' => e = .returned (B (at8 l a.toNat)) ∧ w = w' := by
  have ha8 := lt8 a
  have hc := hb.cell a.toNat _ (mapB_at (at8_get (b := l) (i := a.toNat) (by omega)))
  clear hb hl
  go_enter Tryz.func42, Tryz.ntmps42
  go_wp2
  go_ret
  exact ⟨rfl, by trivial⟩

theorem back_ok (p : Nat) (l : List UInt8) (a : UInt8) (w : World) (hl : l.length = 512) (hb : Blk w p (l.map B) 101) :
    Calls Tryz.prog 229 #[.pointer (some ⟨p, 0, none⟩), B a] w fun e w' => e = .returned (B (at8 l (256 + a.toNat))) ∧ w = w' := by
  have ha8 := lt8 a
  have hc := hb.cell (256 + a.toNat) _ (mapB_at (at8_get (b := l) (i := 256 + a.toNat) (by omega)))
  clear hb hl
  go_enter Tryz.func229, Tryz.ntmps229
  go_wp2
  go_ret
  exact ⟨rfl, by trivial⟩

end Go.Proofs.YtmpgcilppjkhoaaGreatDoor
