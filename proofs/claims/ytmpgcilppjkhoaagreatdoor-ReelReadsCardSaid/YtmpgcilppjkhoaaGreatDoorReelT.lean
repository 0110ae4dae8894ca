/-
  The walk of reel.Tell.
-/
import Derived.Test.YtmpgcilppjkhoaaGreatDoorReelA
namespace Go.Proofs.YtmpgcilppjkhoaaGreatDoor
open Go.RowKit Go.Mem Go.Ops Go.Cells Go.Oct Go.Reel
set_option linter.unusedSimpArgs false
set_option linter.unusedVariables false
set_option maxRecDepth 100000
attribute [local irreducible] walkK

def zeroOut : List Value := [.int .i64 0, .int .i64 0, .slice none 0 0]
theorem Tryz.zeroOut : (Tryz.prog.info? 48).map (·.zero) = some (some (.agg zeroOut.toArray)) := by kernel_rfl
theorem Tryz.rowOut : Row Tryz.prog 48 3 := ⟨by kernel_rfl, by kernel_rfl⟩

/-- What is told of all. -/
def tellsB (l : List Oute) : List UInt8 := l.flatMap Oute.bytes
theorem _root_.Go.Reel.Oute.bytes_put (x : Oute) (bs : List UInt8) (h : x.b.length ≤ 1000000000) : bs ++ putN x.e 1 ++ putN x.n 4 ++ putN x.b.length 4 ++ x.b = bs ++ x.bytes := by
  unfold Oute.bytes tellB
  rw [putN_eq _ 1 (by omega), putN_eq _ 4 (by omega), putN_eq _ 4 (by omega), u64_nat _ (by omega)]
  simp [List.append_assoc]
theorem _root_.Go.Reel.Oute.bytes_length (x : Oute) : x.bytes.length = 9 + x.b.length := by simp [Oute.bytes, tellB, bytesOf_length]; omega
theorem tellsB_length : ∀ l : List Oute, (∀ x ∈ l, x.b.length ≤ 100000) → (tellsB l).length ≤ l.length * 100009
  | [], _ => by simp [tellsB]
  | x :: r, h => by
    have h1 := tellsB_length r (fun d hd => h d (List.mem_cons_of_mem _ hd))
    have h2 := h x (by simp)
    have : tellsB (x :: r) = x.bytes ++ tellsB r := by simp [tellsB]
    rw [this, List.length_append, x.bytes_length, List.length_cons, Nat.add_mul]
    omega
theorem tellsB_take {l : List Oute} {j : Nat} {c : Oute} (hj : l[j]? = some c) : tellsB (l.take (j + 1)) = tellsB (l.take j) ++ c.bytes := by
  rw [List.take_add_one, hj]
  simp [tellsB]

set_option maxHeartbeats 4000000 in
theorem tell_ok (ao : Option Addr) (n cap : Nat) (xs : List Oute) (w : World) (hn : xs.length = n) (hx : OutsIn w ao xs) (hn2 : n ≤ 1000) (hm : ∀ x ∈ xs, x.b.length ≤ 100000) :
    Calls Tryz.prog 17 #[.slice ao n cap] w fun e w' => ∃ v, e = .returned v ∧ OwnB 5 w' w.heap.size v (tellsB xs) ∧ Below w.heap.size w w' := by
  have HN := Lib.hid hn
  have HX := Lib.hid hx
  have HM := Lib.hid hm
  clear hn hx hm
  go_enter Tryz.func17, Tryz.ntmps17
  go_wp2
  go_loopw [3, 8] (fun v c wr => ∃ j : Nat, j ≤ n ∧ c = .int .i64 j ∧ Hid (OwnB 5 wr w.heap.size v (tellsB (xs.take j))) ∧ Hid (Below w.heap.size w wr)) (fun _ c _ => n - (intOf c).toNat)
  case atStart => exact ⟨0, by omega, rfl, OwnB.nil _ _ _, Below.refl _ _⟩
  case round =>
    obtain ⟨j, hj, rfl, HO, HB⟩ := hrel
    by_cases hlt : j < n
    · obtain ⟨x, hget⟩ : ∃ x, xs[j]? = some x := ⟨xs[j]'(by rw [HN.out]; exact hlt), by simp⟩
      have HOT := Lib.hid (tellsB_take hget)
      have HLEN := Lib.hid (show (tellsB (xs.take j)).length ≤ 200000000 by
        have := tellsB_length (xs.take j) (fun c hc => HM.out c (List.mem_of_mem_take hc))
        rw [List.length_take] at this
        omega)
      have hmb := HM.out x (List.mem_of_getElem? hget)
      have HXI := Lib.hid (HX.out.each x (List.mem_of_getElem? hget))
      have HPUT := Lib.hid (x.bytes_put (tellsB (xs.take j)) (by omega))
      obtain ⟨hin, xb, xoff, rfl, hxb, hr⟩ := (HX.out.below HB.out).at hget
      have HR := Lib.hid hr
      clear hget hin hr
      have HL7 := Lib.hid x.vals_length
      generalize tellsB (xs.take j) = bs at *
      go_wp2_with (first | (refine wpList_load_mid rfl 48 (.tmp 10) rfl xb (xoff + j * 3) rfl _ _ HR.out Tryz.underlying48 rfl (by rw [HL7.out]; exact Tryz.rowOut.2) ?_) | (refine wpList_var 48 zeroOut _ rfl rfl Tryz.zeroOut rfl ?_))
      intro w2 hb2 hbel2
      have HO := Lib.hid (HO.out.later hbel2)
      have htx := HB.out.size
      have HB := Lib.hid (HB.out.trans (hbel2.mono HB.out.size))
      generalize htxe : wr.heap.size = tx at *
      clear hbel2
      go_wp2_with (refine hb2.wstore rfl rfl rfl rfl Tryz.rowOut rfl HL7.out x.vals_one ?_)
      intro w4 hb3 ho3
      have HA := Lib.hid (show App 5 48 w tx x.vals w4 _ bs from ⟨HO.out.only ho3 hb2 (by decide), hb3, below_only HB.out ho3 htx⟩)
      clear HO HB hb2 hb3 ho3 HR
      go_wp2_with fail
      have k0 := fun (x' : AfterK (Keeps w.heap.size tx) (World.drew w4)) => (x'.rel.block HA.out.drew.blk).cell 0 _ rfl
      have k1 := fun (x' : AfterK (Keeps w.heap.size tx) (World.drew w4)) => (x'.rel.block HA.out.drew.blk).cell 1 _ rfl
      refine wp_region_K (Keeps w.heap.size tx) [] [(0, true), (1, true), (2, true), (4, true), (5, true), (3, false), (6, false), (7, false)] (Keeps.refl _ _) (fun _ _ _ => Keeps.trans) (by kernel_rfl) (by kernel_rfl) ?_
      rintro wA rfl
      have HA := Lib.hid HA.out.drew
      repeat ((first | refine walkK_one rfl rfl (fun K hK => ?_) | refine walkK_alone (Keeps.refl _ _) rfl rfl (fun K hK => ?_) | refine walkK_alone (Same2.refl _ _) rfl rfl (fun K hK => ?_)); go_big_quiet_step (fail); refine wpQuiet_nil (hK _ ?_); clear hK K)
      clear k0
      clear k1
      refine walkK_free rfl (by rfl) (fun K hK => ?_)
      go_simp
      refine (rputerr_ok _ _ _ 1 x.e _ (by omega) HA.out.own HA.out.bel.size (by have := HLEN.out; simp [putN_length]; omega)).mono ?_
      rintro e w5 ⟨v5, rfl, hown, hg⟩
      have hk := HA.out.keeps (by decide) hg
      have HA := Lib.hid (HA.out.step (by decide) hown hg)
      go_simp
      refine hK _ _ (fun _ => hk) ?_
      clear hK K hown hg hk
      refine walkK_free rfl (by rfl) (fun K hK => ?_)
      go_simp
      refine (rput_ok _ _ _ 4 x.n _ (by omega) HA.out.own HA.out.bel.size (by have := HLEN.out; simp [putN_length]; omega)).mono ?_
      rintro e w6 ⟨v6, rfl, hown, hg⟩
      have hk := HA.out.keeps (by decide) hg
      have HA := Lib.hid (HA.out.step (by decide) hown hg)
      go_simp
      refine hK _ _ (fun _ => hk) ?_
      clear hK K hown hg hk
      repeat ((first | refine walkK_one rfl rfl (fun K hK => ?_) | refine walkK_alone (Keeps.refl _ _) rfl rfl (fun K hK => ?_) | refine walkK_alone (Same2.refl _ _) rfl rfl (fun K hK => ?_)); go_big_quiet_step (fail); refine wpQuiet_nil (hK _ ?_); clear hK K)
      refine walkK_nil ?_
      go_wp2_with fail
      have k2 := fun (x' : AfterK (Keeps w.heap.size tx) (World.drew w6)) => (x'.rel.block HA.out.drew.blk).cell 2 _ rfl
      refine wp_region_K (Keeps w.heap.size tx) [] [(0, true), (1, true), (2, true), (3, true), (5, true), (6, true), (4, false), (7, false), (8, false)] (Keeps.refl _ _) (fun _ _ _ => Keeps.trans) (by kernel_rfl) (by kernel_rfl) ?_
      rintro wA rfl
      have HA := Lib.hid HA.out.drew
      repeat ((first | refine walkK_one rfl rfl (fun K hK => ?_) | refine walkK_alone (Keeps.refl _ _) rfl rfl (fun K hK => ?_) | refine walkK_alone (Same2.refl _ _) rfl rfl (fun K hK => ?_)); go_big_quiet_step (fail); refine wpQuiet_nil (hK _ ?_); clear hK K)
      clear k2
      refine walkK_free rfl (by rfl) (fun K hK => ?_)
      go_simp
      refine (rput_ok _ _ _ 4 x.b.length _ (by omega) HA.out.own HA.out.bel.size (by have := HLEN.out; simp [putN_length]; omega)).mono ?_
      rintro e w7 ⟨v7, rfl, hown, hg⟩
      have hk := HA.out.keeps (by decide) hg
      have HA := Lib.hid (HA.out.step (by decide) hown hg)
      go_simp
      refine hK _ _ (fun _ => hk) ?_
      clear hK K hown hg hk
      refine walkK_free rfl (by rfl) (fun K hK => ?_)
      refine op_append_bytes 24 (.tmp 23) (.tmp 25) rfl Tryz.underlying24 Tryz.infoByteR rfl HA.out.own x.bo _ x.bc x.b rfl rfl ((HXI.out.below HA.out.bel).b) (by have := HLEN.out; simp [putN_length]; omega) HA.out.bel.size (fun v8 w8 hown hg => ?_)
      have hk := HA.out.keeps (by decide) hg
      have HA := Lib.hid (HA.out.step (by decide) hown hg)
      go_simp
      refine hK _ _ (fun _ => hk) ?_
      clear hK K hown hg hk
      repeat ((first | refine walkK_one rfl rfl (fun K hK => ?_) | refine walkK_alone (Keeps.refl _ _) rfl rfl (fun K hK => ?_) | refine walkK_alone (Same2.refl _ _) rfl rfl (fun K hK => ?_)); go_big_quiet_step (fail); refine wpQuiet_nil (hK _ ?_); clear hK K)
      refine walkK_nil ?_
      go_wp2
      go_roundw
      case rel => exact ⟨j + 1, by omega, by go_num, by rw [HOT.out, ← HPUT.out]; exact HA.out.own, HA.out.bel⟩
      case measure => simp [intOf]; omega
    · obtain rfl : j = n := by omega
      rw [List.take_of_length_le (Nat.le_of_eq HN.out)] at HO
      go_wp2
      go_ret
      exact ⟨_, rfl, HO.out, HB.out⟩

end Go.Proofs.YtmpgcilppjkhoaaGreatDoor
