/-
  Texts of this claim, one behind the other: TurnD TurnE AesA AesB.
-/
import Derived.Test.YtnkaodjfjllkfaaGreatDoorM4
import Derived.Test.YtnkaodjfjllkfaaGreatDoorM2
/-
  The walks of turn: the last round, and the way back.
-/
namespace Go.Proofs.YtnkaodjfjllkfaaGreatDoor
open Go.RowKit Go.Mem Go.Ops Go.Cells Go.Oct Go.Gf Go.Trn
set_option linter.unusedSimpArgs false
set_option linter.unusedVariables false
set_option maxRecDepth 100000
attribute [local irreducible] walkR walkP walk0 walkB

theorem Tab.cellBox {w : World} {q p : Nat} (h : Tab w q p) : w.cell? ⟨q, 0, none⟩ = some (.pointer (some ⟨p, 0, none⟩)) := h.tab.cell 0 _ rfl

theorem last_ok (q p : Nat) (b key : List UInt8) (w : World) (ht : Tab w q p) (hlb : b.length = 16) (hlk : key.length = 16) :
    Calls Tryz.prog 141 #[.pointer (some ⟨q, 0, none⟩), .agg (b.map B).toArray, .agg (key.map B).toArray] w fun e w' => e = .returned (.agg ((last b key).map B).toArray) ∧ Below w.heap.size w w' := by
  have HLB := Lib.hid hlb
  have HLK := Lib.hid hlk
  have HS := Lib.hid (((St.start w).add ht.tab).add ht.boxes)
  have hlq := ht.tab.lt
  have hlp := ht.boxes.lt
  clear ht hlb hlk
  go_enter Tryz.func141, Tryz.ntmps141
  go_wp2_with (refine wpList_box 88 _ (b.map B) _ rfl rfl rfl rfl ?_)
  intro w1 hb hbel; have HS := Lib.hid (HS.out.push hb hbel); have hlt1 := hb.lt; clear hb hbel
  go_wp2_with (refine wpList_box 88 _ (key.map B) _ rfl rfl rfl rfl ?_)
  intro w2 hb hbel; have HS := Lib.hid (HS.out.push hb hbel); have hlt2 := hb.lt; clear hb hbel
  go_wp2_with (refine wpList_var 88 ((zeros 16).map B) _ rfl rfl Tryz.zero16 rfl ?_)
  intro w3 hb hbel; have HS := Lib.hid (HS.out.push hb hbel); have hlt3 := hb.lt; clear hb hbel
  go_wp2_with (refine wpList_var 88 ((zeros 16).map B) _ rfl rfl Tryz.zero16 rfl ?_)
  intro w4 hb hbel; have HS := Lib.hid (HS.out.push hb hbel); have hlt4 := hb.lt; clear hb hbel
  generalize hbb : w.heap.size = bb at *
  generalize w1.heap.size = bk at *
  generalize w2.heap.size = br at *
  generalize w3.heap.size = bo at *
  have HBB := Lib.hid hbb
  clear hbb
  go_wp2
  go_loopw [13] (fun c wr => ∃ (k : Nat) (l : List UInt8), k ≤ 4 ∧ c = .int .i64 k ∧ Filled (lastAt b) 16 (4 * k) l ∧ St w bb wr [(bo, l.map B, 88), (br, (zeros 16).map B, 88), (bk, key.map B, 88), (bb, b.map B, 88), (p, Gf.boxes.map B, 111), (q, .pointer (some ⟨p, 0, none⟩) :: (entries Gf.boxes).map W, 105)]) (fun c _ => 4 - (intOf c).toNat)
  case atStart => exact ⟨0, zeros 16, by omega, rfl, Filled.zero (zeros_length _), HS.out⟩
  case round =>
    clear HS
    obtain ⟨k, l, hk, rfl, hF, hs⟩ := hrel
    by_cases hlt : k < 4
    · have hd : decide ((k : Int) < 4) = true := by simp; omega
      have HF := Lib.hid hF
      have HS := Lib.hid hs
      clear hF hs
      go_wp2
      go_loopw [16] (fun c ws => ∃ (r : Nat) (l : List UInt8), r ≤ 4 ∧ c = .int .i64 r ∧ Filled (lastAt b) 16 (4 * k + r) l ∧ St w bb ws [(bo, l.map B, 88), (br, (zeros 16).map B, 88), (bk, key.map B, 88), (bb, b.map B, 88), (p, Gf.boxes.map B, 111), (q, .pointer (some ⟨p, 0, none⟩) :: (entries Gf.boxes).map W, 105)]) (fun c _ => 4 - (intOf c).toNat)
      case atStart => exact ⟨0, l, by omega, rfl, HF.out, HS.out⟩
      case round =>
        obtain ⟨r, l2, hr, rfl, hF2, hs2⟩ := hrel
        by_cases hlt2 : r < 4
        · have hs16 : shifted r k < 16 := by unfold shifted; omega
          have h8 := lt8 (at8 b (shifted r k))
          have hc1 := fun (x : After wr.drew) => ((hs2.drew.later x.later).get 3 rfl).cell _ _ (mapB_at (at8_get (b := b) (i := shifted r k) (by rw [HLB.out]; exact hs16)))
          have hc2 := fun (x : After wr.drew) => ((hs2.drew.later x.later).get 5 rfl).cell 0 _ rfl
          have hat : lastAt b (4 * k + r) = at8 Gf.boxes (at8 b (shifted r k)).toNat := by
            unfold lastAt
            rw [show (4 * k + r) % 4 = r by omega, show (4 * k + r) / 4 = k by omega]
          have HAT := Lib.hid hat
          have HF2 := Lib.hid hF2
          have HS2 := Lib.hid hs2
          clear hat hF2 hs2
          go_wp2_with fail
          refine wp_region_R [0, 1, 2, 3, 4, 5, 6, 7, 8, 9, 10, 11, 12, 13, 14, 15] (by kernel_rfl) (by kernel_rfl) ?_
          rintro w6 rfl
          repeat (refine walkR_one rfl rfl (fun K hK => ?_); go_big_quiet_step (fail); refine wpQuiet_nil (hK _ ?_); clear hK K)
          refine walkR_call rfl rfl (by rfl) (fun K hK => ?_)
          go_simp
          refine (shifted_ok r k _ hlt2 hlt).mono ?_
          rintro e w7 ⟨rfl, rfl⟩
          go_simp
          refine hK _ _ (Later.refl _) ?_
          clear hK K
          repeat (refine walkR_one rfl rfl (fun K hK => ?_); go_big_quiet_step (fail); refine wpQuiet_nil (hK _ ?_); clear hK K)
          refine walkR_call rfl rfl (by rfl) (fun K hK => ?_)
          go_simp
          refine (to_ok p Gf.boxes (at8 b (shifted r k)) _ boxes_length (HS2.out.drew.get 4 rfl)).mono ?_
          rintro e w7 ⟨rfl, rfl⟩
          go_simp
          rw [← HAT.out]
          refine hK _ _ (Later.refl _) ?_
          clear hK K hc1 hc2
          repeat (refine walkR_one rfl rfl (fun K hK => ?_); go_big_quiet_step (fail); refine wpQuiet_nil (hK _ ?_); clear hK K)
          refine walkR_free rfl rfl (by rfl) (fun K hK => ?_)
          refine (HS2.out.drew.get 0 rfl).opset (v := B (lastAt b (4 * k + r))) rfl rfl rfl Tryz.sizeByte rfl rfl (by rw [List.length_map, HF2.out.1]; omega) (fun w8 hb8 ho8 => hK _ _ ?_)
          clear hK K
          rw [show r + 4 * k = 4 * k + r by omega, mapB_set] at hb8
          have HS3 := Lib.hid (HS2.out.drew.change 0 hb8 ho8 (by omega) (by simp; omega))
          have HF3 := Lib.hid (HF2.out.step (by omega))
          clear hb8 ho8 HS2 HF2
          go_simp
          refine walkR_nil ?_
          go_wp2
          go_roundw
          case rel => exact ⟨r + 1, _, by omega, rfl, HF3.out, HS3.out⟩
          case measure => simp [intOf]; omega
        · obtain rfl : r = 4 := by omega
          have HF2 := Lib.hid (show Filled (lastAt b) 16 (4 * (k + 1)) l2 from hF2)
          have HS2 := Lib.hid hs2
          clear hF2 hs2
          go_wp2
          go_roundw
          case rel => exact ⟨k + 1, _, by omega, rfl, HF2.out, HS2.out⟩
          case measure => simp [intOf]; omega
    · obtain rfl : k = 4 := by omega
      have HE := Lib.hid (show l = (List.range 16).map (lastAt b) from hF.all)
      have HL16 := Lib.hid (show (l.map B).length = 16 by rw [List.length_map]; exact hF.1)
      have HLK16 := Lib.hid (show (key.map B).length = 16 by rw [List.length_map]; exact HLK.out)
      have hl16 := hF.1
      have HS2 := Lib.hid hs
      clear hF hs
      go_wp2_with (first | (refine (HS2.out.get 0 rfl).wload rfl rfl rfl Tryz.row16 HL16.out ?_) | (refine (HS2.out.get 2 rfl).wload rfl rfl rfl Tryz.row16 HLK16.out ?_))
      refine (both_ok l key _ hl16 HLK.out).mono ?_
      rintro e w8 ⟨rfl, hbel8⟩
      have HS3 := Lib.hid (HS2.out.later hbel8)
      clear hbel8
      go_wp2_with (refine (HS3.out.get 1 rfl).wstore rfl rfl rfl rfl Tryz.row16 (by rw [List.length_map]; exact zeros_length 16) (by rw [List.length_map]; exact both_length _ _) (oneCell_B _) ?_)
      intro w9 hb9 ho9
      have hbel9 := below_only HS3.out.bel ho9 (by omega)
      go_wp2
      refine hb9.result rfl rfl rfl Tryz.row16 (by rw [List.length_map]; exact both_length _ _) ⟨by rw [HE.out]; rfl, ?_⟩
      rw [HBB.out]
      exact hbel9

theorem unboxed_ok (q p : Nat) (b : List UInt8) (w : World) (ht : Tab w q p) (hlb : b.length = 16) :
    Calls Tryz.prog 309 #[.pointer (some ⟨q, 0, none⟩), .agg (b.map B).toArray] w fun e w' => e = .returned (.agg ((unboxed b).map B).toArray) ∧ Below w.heap.size w w' := by
  have HLB := Lib.hid hlb
  have HS := Lib.hid (((St.start w).add ht.tab).add ht.boxes)
  have hlq := ht.tab.lt
  have hlp := ht.boxes.lt
  clear ht hlb
  go_enter Tryz.func309, Tryz.ntmps309
  go_wp2_with (refine wpList_box 88 _ (b.map B) _ rfl rfl rfl rfl ?_)
  intro w1 hb hbel; have HS := Lib.hid (HS.out.push hb hbel); have hlt1 := hb.lt; clear hb hbel
  go_wp2_with (refine wpList_var 88 ((zeros 16).map B) _ rfl rfl Tryz.zero16 rfl ?_)
  intro w3 hb hbel; have HS := Lib.hid (HS.out.push hb hbel); have hlt3 := hb.lt; clear hb hbel
  go_wp2_with (refine wpList_var 88 ((zeros 16).map B) _ rfl rfl Tryz.zero16 rfl ?_)
  intro w4 hb hbel; have HS := Lib.hid (HS.out.push hb hbel); have hlt4 := hb.lt; clear hb hbel
  generalize hbb : w.heap.size = bb at *
  generalize w1.heap.size = br at *
  generalize w3.heap.size = bo at *
  have HBB := Lib.hid hbb
  clear hbb
  go_wp2
  go_loopw [8] (fun c wr => ∃ (k : Nat) (l : List UInt8), k ≤ 4 ∧ c = .int .i64 k ∧ l.length = 16 ∧ (∀ r j, r < 4 → j < k → l[shifted r j]? = some (unboxedAt b (shifted r j))) ∧ St w bb wr [(bo, l.map B, 88), (br, (zeros 16).map B, 88), (bb, b.map B, 88), (p, Gf.boxes.map B, 111), (q, .pointer (some ⟨p, 0, none⟩) :: (entries Gf.boxes).map W, 105)]) (fun c _ => 4 - (intOf c).toNat)
  case atStart => exact ⟨0, zeros 16, by omega, rfl, zeros_length _, fun _ j _ h => absurd h (by omega), HS.out⟩
  case round =>
    clear HS
    obtain ⟨k, l, hk, rfl, hl16, hF, hs⟩ := hrel
    by_cases hlt : k < 4
    · have hd : decide ((k : Int) < 4) = true := by simp; omega
      have HF := Lib.hid hF
      have HS := Lib.hid hs
      have HL16 := Lib.hid hl16
      clear hF hs hl16
      go_wp2
      go_loopw [11] (fun c ws => ∃ (r : Nat) (l : List UInt8), r ≤ 4 ∧ c = .int .i64 r ∧ l.length = 16 ∧ (∀ r j, r < 4 → j < k → l[shifted r j]? = some (unboxedAt b (shifted r j))) ∧ (∀ s, s < r → l[shifted s k]? = some (unboxedAt b (shifted s k))) ∧ St w bb ws [(bo, l.map B, 88), (br, (zeros 16).map B, 88), (bb, b.map B, 88), (p, Gf.boxes.map B, 111), (q, .pointer (some ⟨p, 0, none⟩) :: (entries Gf.boxes).map W, 105)]) (fun c _ => 4 - (intOf c).toNat)
      case atStart => exact ⟨0, l, by omega, rfl, HL16.out, HF.out, fun s h => absurd h (by omega), HS.out⟩
      case round =>
        obtain ⟨r, l2, hr, rfl, hl2, hF2, hG2, hs2⟩ := hrel
        by_cases hlt2 : r < 4
        · have hs16 : shifted r k < 16 := by unfold shifted; omega
          have h8 := lt8 (at8 b (r + 4 * k))
          have hc1 := fun (x : After wr.drew) => ((hs2.drew.later x.later).get 2 rfl).cell _ _ (mapB_at (at8_get (b := b) (i := r + 4 * k) (by rw [HLB.out]; omega)))
          have hc2 := fun (x : After wr.drew) => ((hs2.drew.later x.later).get 4 rfl).cell 0 _ rfl
          have hat : unboxedAt b (shifted r k) = at8 Gf.boxes (256 + (at8 b (r + 4 * k)).toNat) := by
            unfold unboxedAt shifted
            rw [show (r + 4 * ((k + r) % 4)) % 4 = r by omega, show (r + 4 * ((k + r) % 4)) / 4 = (k + r) % 4 by omega, show ((k + r) % 4 + 4 - r) % 4 = k by omega]
          have HAT := Lib.hid hat
          have HF2 := Lib.hid hF2
          have HG2 := Lib.hid hG2
          have HL2 := Lib.hid hl2
          have HS2 := Lib.hid hs2
          clear hat hF2 hs2 hG2 hl2
          go_wp2_with fail
          refine wp_region_R [0, 1, 3, 4, 5, 6, 7, 8, 9, 10, 11, 12, 2, 13, 14, 15] (by kernel_rfl) (by kernel_rfl) ?_
          rintro w6 rfl
          repeat (refine walkR_one rfl rfl (fun K hK => ?_); go_big_quiet_step (fail); refine wpQuiet_nil (hK _ ?_); clear hK K)
          refine walkR_call rfl rfl (by rfl) (fun K hK => ?_)
          go_simp
          refine (shifted_ok r k _ hlt2 hlt).mono ?_
          rintro e w7 ⟨rfl, rfl⟩
          go_simp
          refine hK _ _ (Later.refl _) ?_
          clear hK K
          repeat (refine walkR_one rfl rfl (fun K hK => ?_); go_big_quiet_step (fail); refine wpQuiet_nil (hK _ ?_); clear hK K)
          refine walkR_call rfl rfl (by rfl) (fun K hK => ?_)
          go_simp
          refine (back_ok p Gf.boxes (at8 b (r + 4 * k)) _ boxes_length (HS2.out.drew.get 3 rfl)).mono ?_
          rintro e w7 ⟨rfl, rfl⟩
          go_simp
          rw [← HAT.out]
          refine hK _ _ (Later.refl _) ?_
          clear hK K hc1 hc2
          repeat (refine walkR_one rfl rfl (fun K hK => ?_); go_big_quiet_step (fail); refine wpQuiet_nil (hK _ ?_); clear hK K)
          refine walkR_free rfl rfl (by rfl) (fun K hK => ?_)
          refine (HS2.out.drew.get 0 rfl).opset (v := B (unboxedAt b (shifted r k))) rfl rfl rfl Tryz.sizeByte rfl rfl (by rw [List.length_map, HL2.out]; omega) (fun w8 hb8 ho8 => hK _ _ ?_)
          clear hK K
          rw [mapB_set] at hb8
          have HS3 := Lib.hid (HS2.out.drew.change 0 hb8 ho8 (by omega) (by simp; omega))
          clear hb8 ho8 HS2
          go_simp
          refine walkR_nil ?_
          go_wp2
          go_roundw
          case rel =>
            refine ⟨r + 1, _, by omega, rfl, by rw [List.length_set]; exact HL2.out, fun s j h1 h2 => ?_, fun s h1 => ?_, HS3.out⟩
            · rw [List.getElem?_set_ne (by unfold shifted; omega)]
              exact HF2.out s j h1 h2
            · by_cases e : s = r
              · subst e
                rw [List.getElem?_set_self (by rw [HL2.out]; exact hs16)]
              · rw [List.getElem?_set_ne (by unfold shifted; omega)]
                exact HG2.out s (by omega)
          case measure => simp [intOf]; omega
        · obtain rfl : r = 4 := by omega
          have HL2 := Lib.hid hl2
          have HF3 := Lib.hid (show ∀ r j, r < 4 → j < k + 1 → l2[shifted r j]? = some (unboxedAt b (shifted r j)) from fun s j h1 h2 => by
            by_cases e : j = k
            · subst e; exact hG2 s h1
            · exact hF2 s j h1 (by omega))
          have HS2 := Lib.hid hs2
          clear hF2 hs2 hG2 hl2
          go_wp2
          go_roundw
          case rel => exact ⟨k + 1, _, by omega, rfl, HL2.out, HF3.out, HS2.out⟩
          case measure => simp [intOf]; omega
    · obtain rfl : k = 4 := by omega
      have he : l = unboxed b := by
        apply List.ext_getElem?
        intro i
        by_cases hi : i < 16
        · have := hF (i % 4) ((i / 4 + 4 - i % 4) % 4) (by omega) (by omega)
          rw [show shifted (i % 4) ((i / 4 + 4 - i % 4) % 4) = i by unfold shifted; omega] at this
          rw [this]; simp [unboxed, hi]
        · rw [List.getElem?_eq_none (by omega), List.getElem?_eq_none (by rw [unboxed_length]; omega)]
      have HE := Lib.hid he
      have HL16 := Lib.hid (show (l.map B).length = 16 by rw [List.length_map]; exact hl16)
      have HS2 := Lib.hid hs
      clear hF hs he hl16
      go_wp2_with (first | (refine (HS2.out.get 0 rfl).wload rfl rfl rfl Tryz.row16 HL16.out ?_) | (refine (HS2.out.get 1 rfl).wstore rfl rfl rfl rfl Tryz.row16 (by rw [List.length_map]; exact zeros_length 16) HL16.out (oneCell_B _) ?_))
      intro w9 hb9 ho9
      have hbel9 := below_only HS2.out.bel ho9 (by omega)
      go_wp2
      refine hb9.result rfl rfl rfl Tryz.row16 HL16.out ⟨by rw [HE.out], ?_⟩
      rw [HBB.out]
      exact hbel9

end Go.Proofs.YtnkaodjfjllkfaaGreatDoor
/-
  The walks of turn: the round back, and rows of rounds.
-/
namespace Go.Proofs.YtnkaodjfjllkfaaGreatDoor
open Go.RowKit Go.Mem Go.Ops Go.Cells Go.Oct Go.Gf Go.Trn
set_option linter.unusedSimpArgs false
set_option linter.unusedVariables false
set_option maxRecDepth 100000
attribute [local irreducible] walkR walkP walk0 walkB

theorem _root_.Go.Cells.St.tab {w0 w : World} {base : Nat} {L : List (Nat × List Value × TypeId)} {q p : Nat} (h : St w0 base w L) (i j : Nat) (hi : L[i]? = some (p, Gf.boxes.map B, 111)) (hj : L[j]? = some (q, .pointer (some ⟨p, 0, none⟩) :: (entries Gf.boxes).map W, 105)) : Tab w q p := ⟨h.get i hi, h.get j hj⟩

theorem unround_ok (q p : Nat) (b key : List UInt8) (w : World) (ht : Tab w q p) (hlb : b.length = 16) (hlk : key.length = 16) :
    Calls Tryz.prog 301 #[.pointer (some ⟨q, 0, none⟩), .agg (b.map B).toArray, .agg (key.map B).toArray] w fun e w' => e = .returned (.agg ((unround b key).map B).toArray) ∧ Below w.heap.size w w' := by
  have HLB := Lib.hid hlb
  have HLK := Lib.hid hlk
  have HS := Lib.hid (((St.start w).add ht.tab).add ht.boxes)
  have hlq := ht.tab.lt
  have hlp := ht.boxes.lt
  have hb16 := both_length b key
  have HDEF := Lib.hid (show unround b key = unboxed ((List.range 16).map (unroundAt (both b key))) from rfl)
  clear ht hlb hlk
  go_enter Tryz.func301, Tryz.ntmps301
  go_wp2_with (refine wpList_box 88 _ (b.map B) _ rfl rfl rfl rfl ?_)
  intro w1 hb hbel; have HS := Lib.hid (HS.out.push hb hbel); have hlt1 := hb.lt; clear hb hbel
  go_wp2_with (refine wpList_box 88 _ (key.map B) _ rfl rfl rfl rfl ?_)
  intro w2 hb hbel; have HS := Lib.hid (HS.out.push hb hbel); have hlt2 := hb.lt; clear hb hbel
  go_wp2_with (refine wpList_var 88 ((zeros 16).map B) _ rfl rfl Tryz.zero16 rfl ?_)
  intro w3 hb hbel; have HS := Lib.hid (HS.out.push hb hbel); have hlt3 := hb.lt; clear hb hbel
  go_wp2_with (refine wpList_var 88 ((zeros 16).map B) _ rfl rfl Tryz.zero16 rfl ?_)
  intro w4 hb hbel; have HS := Lib.hid (HS.out.push hb hbel); have hlt4 := hb.lt; clear hb hbel
  generalize hbb : w.heap.size = bb at *
  generalize w1.heap.size = bk at *
  generalize w2.heap.size = br at *
  generalize w3.heap.size = bo at *
  have HBB := Lib.hid hbb
  clear hbb
  go_wp2_with (first | (refine (HS.out.get 3 rfl).wload rfl rfl rfl Tryz.row16 (by rw [List.length_map]; exact HLB.out) ?_) | (refine (HS.out.get 2 rfl).wload rfl rfl rfl Tryz.row16 (by rw [List.length_map]; exact HLK.out) ?_))
  refine (both_ok b key _ HLB.out HLK.out).mono ?_
  rintro e w5 ⟨rfl, hbel⟩
  have HS := Lib.hid (HS.out.later hbel)
  clear hbel
  go_wp2_with (refine (HS.out.get 3 rfl).wstore rfl rfl rfl rfl Tryz.row16 (by rw [List.length_map]; exact HLB.out) (by rw [List.length_map]; exact hb16) (oneCell_B _) ?_)
  intro w6 hb ho
  have HS := Lib.hid (HS.out.change 3 hb ho (by omega) (by simp; omega))
  clear hb ho
  go_wp2
  generalize hbx : both b key = bx at *
  have HBX := Lib.hid hbx
  clear hbx
  go_loopw [18] (fun c wr => ∃ (k : Nat) (l : List UInt8), k ≤ 4 ∧ c = .int .i64 k ∧ Filled (unroundAt bx) 16 (4 * k) l ∧ St w bb wr [(bo, l.map B, 88), (br, (zeros 16).map B, 88), (bk, key.map B, 88), (bb, bx.map B, 88), (p, Gf.boxes.map B, 111), (q, .pointer (some ⟨p, 0, none⟩) :: (entries Gf.boxes).map W, 105)]) (fun c _ => 4 - (intOf c).toNat)
  case atStart => exact ⟨0, zeros 16, by omega, rfl, Filled.zero (zeros_length _), HS.out⟩
  case round =>
    clear HS
    obtain ⟨k, l, hk, rfl, hF, hs⟩ := hrel
    have HF := Lib.hid hF
    have HS := Lib.hid hs
    clear hF hs
    by_cases hlt : k < 4
    · have hd : decide ((k : Int) < 4) = true := by simp; omega
      go_wp2
      go_loopw [9, 21] (fun n c ws => ∃ r : Nat, r ≤ 4 ∧ c = .int .i64 r ∧ n = W (unroundGo bx k r) ∧ St w bb ws [(bo, l.map B, 88), (br, (zeros 16).map B, 88), (bk, key.map B, 88), (bb, bx.map B, 88), (p, Gf.boxes.map B, 111), (q, .pointer (some ⟨p, 0, none⟩) :: (entries Gf.boxes).map W, 105)]) (fun _ c _ => 4 - (intOf c).toNat)
      case atStart => exact ⟨0, by omega, rfl, rfl, HS.out⟩
      case round =>
        obtain ⟨r, hr, rfl, rfl, hs2⟩ := hrel
        by_cases hlt2 : r < 4
        · have hc1 := fun (x : After wr.drew) => ((hs2.drew.later x.later).get 3 rfl).cell _ _ (mapB_at (at8_get (b := bx) (i := r + 4 * k) (by rw [hb16]; omega)))
          have hc2 := fun (x : After wr.drew) => ((hs2.drew.later x.later).tab 4 5 rfl rfl).unmix r (at8 bx (r + 4 * k)) hlt2
          have h8 := lt8 (at8 bx (r + 4 * k))
          have HS2 := Lib.hid hs2
          clear hs2
          go_wp2_with fail
          refine wp_region_R [0, 1, 2, 3, 4, 5, 6, 7, 8, 9, 10, 11, 12, 13, 14, 15] (by kernel_rfl) (by kernel_rfl) ?_
          rintro w6 rfl
          repeat (refine walkR_one rfl rfl (fun K hK => ?_); go_big_quiet_step (fail); refine wpQuiet_nil (hK _ ?_); clear hK K)
          clear hc1 hc2 h8
          refine walkR_nil ?_
          go_wp2
          go_roundw
          case rel => exact ⟨r + 1, by omega, rfl, rfl, HS2.out.drew⟩
          case measure => simp [intOf]; omega
        · obtain rfl : r = 4 := by omega
          have HS := Lib.hid hs2
          clear hs2
          go_wp2_with fail
          refine (putword_ok _ _).mono ?_
          rintro e w8 ⟨rfl, hbel8⟩
          have HS := Lib.hid (HS.out.later hbel8)
          clear hbel8
          go_wp2_with (refine wpList_var 107 ((zeros 4).map B) _ rfl rfl Tryz.zero4 rfl ?_)
          intro w9 hb9 hbel9
          have hol := HS.out.ne _ (List.mem_of_getElem? (i := 0) rfl)
          have hkl := HS.out.ne _ (List.mem_of_getElem? (i := 2) rfl)
          simp only at hol hkl
          have HS := Lib.hid (HS.out.push hb9 hbel9)
          clear hb9 hbel9
          generalize w8.heap.size = bw at *
          go_wp2_with (refine (HS.out.get 0 rfl).wstore rfl rfl rfl (cs := (putWord (unroundGo bx k 4)).map B) rfl Tryz.row4 (by simp [zeros_length]) (by simp [putWord_length]) (oneCell_B _) ?_)
          intro w10 hb10 ho10
          have HS := Lib.hid (HS.out.change 0 hb10 ho10 (by omega) (by simp; omega))
          clear hb10 ho10
          have hsl := fun (w' : World) => run_sliceAt_low (P := Tryz.prog) w' 88 5 16 Tryz.underlying88 Tryz.sizeByte bo 0 (4 * k) (4 * (k : Int)) rfl (by omega)
          rw [Nat.zero_add] at hsl
          go_wp2_with fail
          refine wp_region_R [0, 1, 2, 3, 4] (by kernel_rfl) (by kernel_rfl) ?_
          rintro w11 rfl
          repeat (refine walkR_one rfl rfl (fun K hK => ?_); go_big_quiet_step (fail); refine wpQuiet_nil (hK _ ?_); clear hK K)
          refine walkR_free rfl rfl (by rfl) (fun K hK => ?_)
          refine (HS.out.drew.get 1 rfl).opcopy (4 * k) ((putWord (unroundGo bx k 4)).map B) rfl rfl rfl Tryz.underlying22 Tryz.sizeByte (fun _ => rfl) (HS.out.drew.get 0 rfl).lies (by rw [List.length_map, putWord_length]; exact (Nat.min_eq_left (by omega)).symm) (by rw [List.length_map, List.length_map, putWord_length, HF.out.1]; omega) (oneCell_B _) (fun w12 hb12 ho12 => hK _ _ ?_)
          clear hK K hsl
          rw [splice_map] at hb12
          have hF12 := HF.out.splice (m := 4) (cs := putWord (unroundGo bx k 4)) (by omega) (putWord_length _) (fun j hj => unroundAt_at bx k j hj)
          have HF := Lib.hid (show Filled (unroundAt bx) 16 (4 * (k + 1)) (splice l (4 * k) (putWord (unroundGo bx k 4))) from hF12)
          have hs12 := HS.out.drew.change 1 hb12 ho12 (by omega) (by simp; omega)
          have HS := Lib.hid (show St w bb w12 [(bo, (splice l (4 * k) (putWord (unroundGo bx k 4))).map B, 88), (br, (zeros 16).map B, 88), (bk, key.map B, 88), (bb, bx.map B, 88), (p, Gf.boxes.map B, 111), (q, .pointer (some ⟨p, 0, none⟩) :: (entries Gf.boxes).map W, 105)] from ⟨hs12.base_le, hs12.bel, fun e he => hs12.all e (List.mem_cons_of_mem _ he)⟩)
          clear hb12 ho12 hF12 hs12
          go_simp
          refine walkR_nil ?_
          go_wp2
          go_roundw
          case rel => exact ⟨k + 1, _, by omega, rfl, HF.out, HS.out⟩
          case measure => simp [intOf]; omega
    · obtain rfl : k = 4 := by omega
      have HE := Lib.hid (show l = (List.range 16).map (unroundAt bx) from HF.out.all)
      have hl16 := HF.out.1
      have HL16 := Lib.hid (show (l.map B).length = 16 by rw [List.length_map]; exact hl16)
      go_wp2_with (refine (HS.out.get 0 rfl).wload rfl rfl rfl Tryz.row16 HL16.out ?_)
      refine (unboxed_ok q p l _ (HS.out.tab 4 5 rfl rfl) hl16).mono ?_
      rintro e w6 ⟨rfl, hbel6⟩
      have HS := Lib.hid (HS.out.later hbel6)
      clear hbel6
      go_wp2_with (refine (HS.out.get 1 rfl).wstore rfl rfl rfl rfl Tryz.row16 (by rw [List.length_map]; exact zeros_length 16) (by rw [List.length_map]; exact unboxed_length _) (oneCell_B _) ?_)
      intro w9 hb9 ho9
      have hbel9 := below_only HS.out.bel ho9 (by omega)
      go_wp2
      refine hb9.result rfl rfl rfl Tryz.row16 (by rw [List.length_map]; exact unboxed_length _) ⟨by rw [HE.out, HDEF.out], ?_⟩
      rw [HBB.out]
      exact hbel9

theorem unlast_ok (q p : Nat) (b key : List UInt8) (w : World) (ht : Tab w q p) (hlb : b.length = 16) (hlk : key.length = 16) :
    Calls Tryz.prog 300 #[.pointer (some ⟨q, 0, none⟩), .agg (b.map B).toArray, .agg (key.map B).toArray] w fun e w' => e = .returned (.agg ((unlast b key).map B).toArray) ∧ Below w.heap.size w w' := by
  have HLB := Lib.hid (show (b.map B).length = 16 by rw [List.length_map]; exact hlb)
  have HLK := Lib.hid (show (key.map B).length = 16 by rw [List.length_map]; exact hlk)
  have HLB2 := Lib.hid hlb
  have HLK2 := Lib.hid hlk
  have HS := Lib.hid (((St.start w).add ht.tab).add ht.boxes)
  have hlq := ht.tab.lt
  have hlp := ht.boxes.lt
  clear ht hlb hlk
  go_enter Tryz.func300, Tryz.ntmps300
  go_wp2_with (refine wpList_box 88 _ (b.map B) _ rfl rfl rfl rfl ?_)
  intro w1 hb hbel; have HS := Lib.hid (HS.out.push hb hbel); have hlt1 := hb.lt; clear hb hbel
  go_wp2_with (refine wpList_box 88 _ (key.map B) _ rfl rfl rfl rfl ?_)
  intro w2 hb hbel; have HS := Lib.hid (HS.out.push hb hbel); have hlt2 := hb.lt; clear hb hbel
  go_wp2_with (refine wpList_var 88 ((zeros 16).map B) _ rfl rfl Tryz.zero16 rfl ?_)
  intro w3 hb hbel; have HS := Lib.hid (HS.out.push hb hbel); have hlt3 := hb.lt; clear hb hbel
  generalize hbb : w.heap.size = bb at *
  generalize w1.heap.size = bk at *
  generalize w2.heap.size = br at *
  have HBB := Lib.hid hbb
  clear hbb
  go_wp2_with (first | (refine (HS.out.get 2 rfl).wload rfl rfl rfl Tryz.row16 HLB.out ?_) | (refine (HS.out.get 1 rfl).wload rfl rfl rfl Tryz.row16 HLK.out ?_))
  refine (both_ok b key _ HLB2.out HLK2.out).mono ?_
  rintro e w5 ⟨rfl, hbel⟩
  have HS := Lib.hid (HS.out.later hbel)
  clear hbel
  go_wp2_with fail
  refine (unboxed_ok q p (both b key) _ (HS.out.tab 3 4 rfl rfl) (both_length _ _)).mono ?_
  rintro e w6 ⟨rfl, hbel⟩
  have HS := Lib.hid (HS.out.later hbel)
  clear hbel
  go_wp2_with (refine (HS.out.get 0 rfl).wstore rfl rfl rfl rfl Tryz.row16 (by rw [List.length_map]; exact zeros_length 16) (by rw [List.length_map]; exact unboxed_length _) (oneCell_B _) ?_)
  intro w9 hb9 ho9
  have hbel9 := below_only HS.out.bel ho9 (by omega)
  go_wp2
  refine hb9.result rfl rfl rfl Tryz.row16 (by rw [List.length_map]; exact unboxed_length _) ⟨rfl, ?_⟩
  rw [HBB.out]
  exact hbel9

theorem tbox_ok (q p : Nat) (a : UInt8) (w : World) (ht : Tab w q p) :
    Calls Tryz.prog 186 #[.pointer (some ⟨q, 0, none⟩), B a] w fun e w' => e = .returned (B (at8 Gf.boxes a.toNat)) ∧ w = w' := by
  have hc := ht.cellBox
  have HT := Lib.hid ht
  clear ht
  go_enter Tryz.func186, Tryz.ntmps186
  go_wp2_with fail
  refine (to_ok p Gf.boxes a _ boxes_length HT.out.boxes).mono ?_
  rintro e w1 ⟨rfl, rfl⟩
  go_wp2
  go_ret
  exact ⟨rfl, by trivial⟩

/-- Blocks of 16 bytes, one behind the other. -/
structure Rows16 (w : World) (ao : Option Addr) (ks : List (List UInt8)) : Prop where
  each : ∀ k ∈ ks, k.length = 16
  lies : Lies w ao ((ks.flatten).map B)

theorem flatten_at (n : Nat) : ∀ (ks : List (List UInt8)) (i j : Nat) (k : List UInt8), (∀ k ∈ ks, k.length = n) → ks[i]? = some k → j < n → ks.flatten[n * i + j]? = k[j]?
  | [], _, _, _, _, h, _ => by simp at h
  | x :: r, 0, j, k, he, h, hj => by
    simp at h; subst h
    rw [List.flatten_cons, Nat.mul_zero, Nat.zero_add, List.getElem?_append_left (by rw [he x (by simp)]; exact hj)]
  | x :: r, i + 1, j, k, he, h, hj => by
    rw [List.getElem?_cons_succ] at h
    rw [List.flatten_cons, List.getElem?_append_right (by rw [he x (by simp), Nat.mul_add]; omega), he x (by simp), show n * (i + 1) + j - n = n * i + j by rw [Nat.mul_add]; omega]
    exact flatten_at n r i j k (fun k hk => he k (List.mem_cons_of_mem _ hk)) h hj

theorem Rows16.range {w : World} {ao : Option Addr} {ks : List (List UInt8)} (h : Rows16 w ao ks) {i : Nat} {k : List UInt8} (hi : ks[i]? = some k) : ∃ b off, ao = some ⟨b, off, none⟩ ∧ b < w.heap.size ∧ w.rangeAt b (off + i * 16) (k.map B) := by
  have hk := h.each k (List.mem_of_getElem? hi)
  have hat : ∀ j v, (k.map B)[j]? = some v → ((ks.flatten).map B)[16 * i + j]? = some v := fun j v hv => by
    rw [List.getElem?_map] at hv ⊢
    have hj : j < 16 := by
      rcases Nat.lt_or_ge j 16 with h | h
      · exact h
      · rw [List.getElem?_eq_none (by omega)] at hv; cases hv
    rw [flatten_at 16 ks i j k h.each hi hj]
    exact hv
  have h0 : (k.map B)[0]? = some (B (at8 k 0)) := mapB_at (at8_get (by omega))
  obtain ⟨b, off, rfl, hc⟩ := h.lies _ _ (hat 0 _ h0)
  refine ⟨b, off, rfl, block_lt_of_cell hc, fun j v hv => ?_⟩
  obtain ⟨b', off', e, hc'⟩ := h.lies _ _ (hat j v hv)
  cases e
  rw [show off + i * 16 + j = off + (16 * i + j) by omega]
  exact hc'
theorem Rows16.below {w w' : World} {ao : Option Addr} {ks : List (List UInt8)} (h : Rows16 w ao ks) (hb : Below w.heap.size w w') : Rows16 w' ao ks := ⟨h.each, h.lies.below hb⟩

theorem rounds_ok (q p : Nat) (b : List UInt8) (ao : Option Addr) (n cap : Nat) (ks : List (List UInt8)) (w : World) (ht : Tab w q p) (hlb : b.length = 16) (hn : ks.length = n) (hnb : n ≤ 1099511627776) (hk : Rows16 w ao ks) :
    Calls Tryz.prog 139 #[.pointer (some ⟨q, 0, none⟩), .agg (b.map B).toArray, .slice ao n cap] w fun e w' => e = .returned (.agg ((rounds b ks).map B).toArray) ∧ Below w.heap.size w w' := by
  have HLB := Lib.hid (show (b.map B).length = 16 by rw [List.length_map]; exact hlb)
  have HLB2 := Lib.hid hlb
  have HN := Lib.hid hn
  have HK := Lib.hid hk
  have HS := Lib.hid (((St.start w).add ht.tab).add ht.boxes)
  have hlq := ht.tab.lt
  have hlp := ht.boxes.lt
  clear ht hlb hn hk
  go_enter Tryz.func139, Tryz.ntmps139
  go_wp2_with (refine wpList_box 88 _ (b.map B) _ rfl rfl rfl rfl ?_)
  intro w1 hb hbel; have HS := Lib.hid (HS.out.push hb hbel); have hlt1 := hb.lt; clear hb hbel
  go_wp2_with (refine wpList_var 88 ((zeros 16).map B) _ rfl rfl Tryz.zero16 rfl ?_)
  intro w2 hb hbel; have HS := Lib.hid (HS.out.push hb hbel); have hlt2 := hb.lt; clear hb hbel
  generalize hbb : w.heap.size = bb at *
  generalize w1.heap.size = br at *
  have HBB := Lib.hid hbb
  clear hbb
  go_wp2
  go_loopw [14] (fun c wr => ∃ (i : Nat) (x : List UInt8), i ≤ n ∧ c = .int .i64 i ∧ x.length = 16 ∧ rounds x (ks.drop i) = rounds b ks ∧ St w bb wr [(br, (zeros 16).map B, 88), (bb, x.map B, 88), (p, Gf.boxes.map B, 111), (q, .pointer (some ⟨p, 0, none⟩) :: (entries Gf.boxes).map W, 105)]) (fun c _ => n - (intOf c).toNat)
  case atStart => exact ⟨0, b, by omega, rfl, HLB2.out, rfl, HS.out⟩
  case round =>
    clear HS
    obtain ⟨i, x, hi, rfl, hx, he, hs⟩ := hrel
    have HX := Lib.hid hx
    have HX2 := Lib.hid (show (x.map B).length = 16 by rw [List.length_map]; exact hx)
    have HE := Lib.hid he
    have HS := Lib.hid hs
    clear hx he hs
    by_cases hlt : i < n
    · obtain ⟨k, hki⟩ : ∃ k, ks[i]? = some k := ⟨ks[i]'(by rw [HN.out]; exact hlt), by simp [HN.out, hlt]⟩
      have hk16 := HK.out.each k (List.mem_of_getElem? hki)
      have HKL := Lib.hid (show (k.map B).length = 16 by rw [List.length_map]; exact hk16)
      obtain ⟨kb, koff, rfl, hkb, hrg⟩ := HK.out.range hki
      have hstep : rounds x (ks.drop i) = rounds (round x k) (ks.drop (i + 1)) := by
        rw [List.drop_eq_getElem_cons (by rw [HN.out]; exact hlt)]
        rw [show ks[i]'(by rw [HN.out]; exact hlt) = k by simpa [HN.out, hlt] using hki]
        rfl
      have HE := Lib.hid (hstep.symm.trans HE.out)
      have HRG := Lib.hid (rangeAt_below hrg HS.out.bel (by rw [← HBB.out]; exact hkb))
      clear hstep hrg hki
      go_wp2_with (first | (refine wpList_load_mid rfl 88 (.tmp 16) rfl kb (koff + i * 16) rfl _ _ HRG.out Tryz.underlying88 rfl (by rw [HKL.out]; exact Tryz.row16.2) ?_) | (refine wpList_var 88 ((zeros 16).map B) _ rfl rfl Tryz.zero16 rfl ?_))
      intro w3 hb3 hbel3
      have hbl := HS.out.ne _ (List.mem_of_getElem? (i := 0) rfl)
      simp only at hbl
      have HS := Lib.hid (HS.out.push hb3 hbel3)
      clear hb3 hbel3
      generalize wr.heap.size = bw at *
      go_wp2_with (refine (HS.out.get 0 rfl).wstore rfl rfl rfl rfl Tryz.row16 (by rw [List.length_map]; exact zeros_length 16) HKL.out (oneCell_B _) ?_)
      intro w4 hb4 ho4
      have HS := Lib.hid (HS.out.change 0 hb4 ho4 (by omega) (by simp; omega))
      clear hb4 ho4
      go_wp2_with (first | (refine (HS.out.get 2 rfl).wload rfl rfl rfl Tryz.row16 HX2.out ?_) | (refine (HS.out.get 0 rfl).wload rfl rfl rfl Tryz.row16 HKL.out ?_))
      refine (round_ok q p x k _ (HS.out.tab 3 4 rfl rfl) HX.out hk16).mono ?_
      rintro e w5 ⟨rfl, hbel5⟩
      have HS := Lib.hid (HS.out.later hbel5)
      clear hbel5
      have HRL := Lib.hid (show ((round x k).map B).length = 16 by rw [List.length_map]; exact round_length _ _)
      go_wp2_with (refine (HS.out.get 2 rfl).wstore rfl rfl rfl rfl Tryz.row16 HX2.out HRL.out (oneCell_B _) ?_)
      intro w6 hb6 ho6
      have hs6 := HS.out.change 2 hb6 ho6 (by omega) (by simp; omega)
      have HS := Lib.hid (show St w bb w6 [(br, (zeros 16).map B, 88), (bb, (round x k).map B, 88), (p, Gf.boxes.map B, 111), (q, .pointer (some ⟨p, 0, none⟩) :: (entries Gf.boxes).map W, 105)] from ⟨hs6.base_le, hs6.bel, fun e he => hs6.all e (List.mem_cons_of_mem _ he)⟩)
      clear hb6 ho6 hs6
      go_wp2
      go_roundw
      case rel => exact ⟨i + 1, _, by omega, rfl, round_length _ _, HE.out, HS.out⟩
      case measure => simp [intOf]; omega
    · obtain rfl : i = n := by omega
      have hfin : x = rounds b ks := by
        have := HE.out
        rw [List.drop_eq_nil_of_le (by rw [HN.out]; exact Nat.le_refl _)] at this
        exact this
      have HFIN := Lib.hid hfin
      clear hfin
      go_wp2_with (first | (refine (HS.out.get 1 rfl).wload rfl rfl rfl Tryz.row16 HX2.out ?_) | (refine (HS.out.get 0 rfl).wstore rfl rfl rfl rfl Tryz.row16 (by rw [List.length_map]; exact zeros_length 16) HX2.out (oneCell_B _) ?_))
      intro w9 hb9 ho9
      have hbel9 := below_only HS.out.bel ho9 (by omega)
      go_wp2
      refine hb9.result rfl rfl rfl Tryz.row16 HX2.out ⟨by rw [HFIN.out], ?_⟩
      rw [HBB.out]
      exact hbel9

end Go.Proofs.YtnkaodjfjllkfaaGreatDoor
/-
  The walks of aes: words.
-/
namespace Go.Proofs.YtnkaodjfjllkfaaGreatDoor
open Go.RowKit Go.Mem Go.Ops Go.Cells Go.Oct Go.Gf Go.Trn Go.Aes
set_option linter.unusedSimpArgs false
set_option linter.unusedVariables false
set_option maxRecDepth 100000
attribute [local irreducible] walkR walkP walk0 walkB

theorem Tryz.rowWord : Row Tryz.prog 212 4 := ⟨by kernel_rfl, by kernel_rfl⟩
theorem Tryz.zeroWord : (Tryz.prog.info? 212).map (·.zero) = some (some (.agg ((zeros 4).map B).toArray)) := by kernel_rfl

theorem Tryz.plainByte : (Tryz.prog.underlying 5).map (·.isRow) = some false := by kernel_rfl

theorem shape_no (n : Int) (w : World) (h : n ≠ 32 ∧ n ≠ 16 ∧ n ≠ 24) : Calls Tryz.prog 132 #[.int .i64 n] w fun e w' => e = .returned (.tuple #[.int .i64 0, .bool false, .int .i64 2]) ∧ w = w' := by
  have h1 : (n == 32) = false := beq_eq_false_iff_ne.2 h.1
  have h2 : (n == 16) = false := beq_eq_false_iff_ne.2 h.2.1
  have h3 : (n == 24) = false := beq_eq_false_iff_ne.2 h.2.2
  go_enter Tryz.func132, Tryz.ntmps132
  go_wp2
  go_ret3
  exact ⟨rfl, rfl⟩
theorem shape_32 (w : World) : Calls Tryz.prog 132 #[.int .i64 32] w fun e w' => e = .returned (.tuple #[.int .i64 8, .bool true, .int .i64 0]) ∧ w = w' := by
  go_enter Tryz.func132, Tryz.ntmps132
  go_wp2
  go_ret3
  exact ⟨rfl, rfl⟩
theorem shape_16 (w : World) : Calls Tryz.prog 132 #[.int .i64 16] w fun e w' => e = .returned (.tuple #[.int .i64 4, .bool false, .int .i64 0]) ∧ w = w' := by
  go_enter Tryz.func132, Tryz.ntmps132
  go_wp2
  go_ret3
  exact ⟨rfl, rfl⟩
theorem shape_24 (w : World) : Calls Tryz.prog 132 #[.int .i64 24] w fun e w' => e = .returned (.tuple #[.int .i64 6, .bool false, .int .i64 0]) ∧ w = w' := by
  go_enter Tryz.func132, Tryz.ntmps132
  go_wp2
  go_ret3
  exact ⟨rfl, rfl⟩

theorem boxed_ok (q p : Nat) (x : List UInt8) (w : World) (ht : Tab w q p) (hx : x.length = 4) :
    Calls Tryz.prog 135 #[.pointer (some ⟨q, 0, none⟩), .agg (x.map B).toArray] w fun e w' => e = .returned (.agg ((subW x).map B).toArray) ∧ Below w.heap.size w w' := by
  have HX := Lib.hid hx
  have HXL := Lib.hid (show (x.map B).length = 4 by rw [List.length_map]; exact hx)
  have HS := Lib.hid (((St.start w).add ht.tab).add ht.boxes)
  have hlq := ht.tab.lt
  have hlp := ht.boxes.lt
  clear ht hx
  go_enter Tryz.func135, Tryz.ntmps135
  go_wp2_with (refine wpList_box 212 _ (x.map B) _ rfl rfl rfl rfl ?_)
  intro w1 hb hbel; have HS := Lib.hid (HS.out.push hb hbel); have hlt1 := hb.lt; clear hb hbel
  go_wp2_with (refine wpList_var 212 ((zeros 4).map B) _ rfl rfl Tryz.zeroWord rfl ?_)
  intro w2 hb hbel; have HS := Lib.hid (HS.out.push hb hbel); have hlt2 := hb.lt; clear hb hbel
  generalize hbb : w.heap.size = bb at *
  generalize w1.heap.size = br at *
  have HBB := Lib.hid hbb
  clear hbb
  go_wp2_with (refine (HS.out.get 1 rfl).wload rfl rfl rfl Tryz.rowWord HXL.out ?_)
  go_loopw [8] (fun c wr => ∃ (i : Nat) (l : List UInt8), i ≤ 4 ∧ c = .int .i64 i ∧ Filled (fun i => at8 Gf.boxes (at8 x i).toNat) 4 i l ∧ St w bb wr [(br, (zeros 4).map B, 212), (bb, l.map B, 212), (p, Gf.boxes.map B, 111), (q, .pointer (some ⟨p, 0, none⟩) :: (entries Gf.boxes).map W, 105)]) (fun c _ => 4 - (intOf c).toNat)
  case atStart => exact ⟨0, x, by omega, rfl, Filled.zero HX.out, HS.out⟩
  case round =>
    clear HS
    obtain ⟨i, l, hi, rfl, hF, hs⟩ := hrel
    have HF := Lib.hid hF
    have HS := Lib.hid hs
    clear hF hs
    by_cases hlt : i < 4
    · have hix := fun (w' : World) => run_index_one (P := Tryz.prog) w' 212 5 4 (x.map B).toArray .i64 i (B (at8 x i)) Tryz.underlying212 Tryz.plainByte Tryz.sizeByte (by rw [List.getElem?_toArray]; exact mapB_at (at8_get (by rw [HX.out]; exact hlt))) hlt
      obtain ⟨y, hy⟩ := HF.out.at hlt
      clear hy
      go_wp2_with fail
      refine (tbox_ok q p (at8 x i) _ (HS.out.tab 2 3 rfl rfl)).mono ?_
      rintro e w5 ⟨rfl, rfl⟩
      obtain ⟨y, hy⟩ := HF.out.at hlt
      have hc := (HS.out.get 1 rfl).cell i _ (mapB_at hy)
      have hf := (HS.out.get 1 rfl).free i
      clear hy hix
      go_wp2
      have hb5 := (HS.out.get 1 rfl).set i (B (at8 Gf.boxes (at8 x i).toNat))
      rw [mapB_set] at hb5
      have hs5 := HS.out.change 1 hb5 (Only.setCell _ ⟨bb, i, none⟩ _) (by omega) (by simp; omega)
      go_roundw
      case rel => exact ⟨i + 1, _, by omega, rfl, HF.out.step hlt, hs5⟩
      case measure => simp [intOf]; omega
    · obtain rfl : i = 4 := by omega
      have HE := Lib.hid (show l = subW x from HF.out.all)
      have HL := Lib.hid (show (l.map B).length = 4 by rw [List.length_map]; exact HF.out.1)
      go_wp2_with (first | (refine (HS.out.get 1 rfl).wload rfl rfl rfl Tryz.rowWord HL.out ?_) | (refine (HS.out.get 0 rfl).wstore rfl rfl rfl rfl Tryz.rowWord (by rw [List.length_map]; exact zeros_length 4) HL.out (oneCell_B _) ?_))
      intro w9 hb9 ho9
      have hbel9 := below_only HS.out.bel ho9 (by omega)
      go_wp2
      refine hb9.result rfl rfl rfl Tryz.rowWord HL.out ⟨by rw [HE.out], ?_⟩
      rw [HBB.out]
      exact hbel9

theorem plus4_ok (a b : List UInt8) (w : World) (ha : a.length = 4) (hb : b.length = 4) : Calls Tryz.prog 136 #[.agg (a.map B).toArray, .agg (b.map B).toArray] w fun e w' => e = .returned (.agg ((plusW a b).map B).toArray) ∧ Below w.heap.size w w' := by
  have HLA := Lib.hid ha
  have HLB := Lib.hid hb
  have HS := Lib.hid (St.start w)
  clear ha hb
  go_enter Tryz.func136, Tryz.ntmps136
  go_wp2_with (refine wpList_box 212 _ (a.map B) _ rfl rfl rfl rfl ?_)
  intro w1 hb hbel; have HS := Lib.hid (HS.out.push hb hbel); have hlt1 := hb.lt; clear hb hbel
  go_wp2_with (refine wpList_box 212 _ (b.map B) _ rfl rfl rfl rfl ?_)
  intro w2 hb hbel; have HS := Lib.hid (HS.out.push hb hbel); have hlt2 := hb.lt; clear hb hbel
  go_wp2_with (refine wpList_var 212 ((zeros 4).map B) _ rfl rfl Tryz.zeroWord rfl ?_)
  intro w3 hb hbel; have HS := Lib.hid (HS.out.push hb hbel); have hlt3 := hb.lt; clear hb hbel
  generalize hbb : w.heap.size = bb at *
  generalize w1.heap.size = bk at *
  generalize w2.heap.size = br at *
  have HBB := Lib.hid hbb
  clear hbb
  go_wp2
  go_loopw [6] (fun c wr => ∃ (j : Nat) (l : List UInt8), j ≤ 4 ∧ c = .int .i64 j ∧ l.length = 4 ∧ (∀ i, i < j → l[i]? = some (xor8 (at8 a i) (at8 b i))) ∧ (∀ i, j ≤ i → l[i]? = a[i]?) ∧ St w bb wr [(br, (zeros 4).map B, 212), (bk, b.map B, 212), (bb, l.map B, 212)]) (fun c _ => 4 - (intOf c).toNat)
  case atStart => exact ⟨0, a, by omega, rfl, HLA.out, fun i hi => absurd hi (by omega), fun i _ => rfl, HS.out⟩
  case round =>
    clear HS
    obtain ⟨j, l, hj, rfl, hll, hl1, hl2, hs⟩ := hrel
    have HLL := Lib.hid hll
    have HL1 := Lib.hid hl1
    have HS := Lib.hid hs
    by_cases hlt : j < 4
    · have hx : l[j]? = some (at8 a j) := by rw [hl2 j (Nat.le_refl _)]; exact at8_get (by rw [HLA.out]; omega)
      have hc1 := fun (x : After wr.drew) => ((hs.drew.later x.later).get 2 rfl).cell j _ (mapB_at hx)
      have hc2 := fun (x : After wr.drew) => ((hs.drew.later x.later).get 1 rfl).cell j _ (mapB_at (at8_get (b := b) (i := j) (by rw [HLB.out]; omega)))
      have HL2 := Lib.hid hl2
      clear hll hl1 hl2 hs hx
      go_wp2_with fail
      refine wp_region_R [0, 1, 2, 3, 4, 5, 6, 7, 8] (by kernel_rfl) (by kernel_rfl) ?_
      rintro w4 rfl
      repeat (refine walkR_one rfl rfl (fun K hK => ?_); go_big_quiet_step (fail); refine wpQuiet_nil (hK _ ?_); clear hK K)
      clear hc1 hc2
      refine walkR_free rfl rfl (by rfl) (fun K hK => ?_)
      refine (HS.out.drew.get 2 rfl).opset (v := B (xor8 (at8 a j) (at8 b j))) rfl rfl rfl Tryz.sizeByte rfl rfl (by rw [List.length_map, HLL.out]; omega) (fun w5 hb5 ho5 => hK _ _ ?_)
      clear hK K
      rw [mapB_set] at hb5
      have HS5 := Lib.hid (HS.out.drew.change 2 hb5 ho5 (by omega) (by simp; omega))
      clear ho5 hb5
      go_simp
      refine walkR_nil ?_
      go_wp2
      go_roundw
      case rel =>
        refine ⟨j + 1, _, by omega, rfl, by simpa using HLL.out, fun i hi => ?_, fun i hi => ?_, HS5.out⟩
        · rw [List.getElem?_set]
          by_cases e : j = i
          · subst e; simp [HLL.out, hlt]
          · rw [if_neg e]; exact HL1.out i (by omega)
        · rw [List.getElem?_set_ne (by omega)]
          exact HL2.out i (by omega)
      case measure => simp [intOf]; omega
    · obtain rfl : j = 4 := by omega
      have HE := Lib.hid (show l = plusW a b from Filled.all (f := fun i => xor8 (at8 a i) (at8 b i)) ⟨hll, hl1⟩)
      have HL := Lib.hid (show (l.map B).length = 4 by rw [List.length_map]; exact hll)
      clear hll hl1 hl2 hs
      go_wp2_with (first | (refine (HS.out.get 2 rfl).wload rfl rfl rfl Tryz.rowWord HL.out ?_) | (refine (HS.out.get 0 rfl).wstore rfl rfl rfl rfl Tryz.rowWord (by rw [List.length_map]; exact zeros_length 4) HL.out (oneCell_B _) ?_))
      intro w6 hb6 ho6
      have hbel6 := below_only HS.out.bel ho6 (by omega)
      go_wp2
      refine hb6.result rfl rfl rfl Tryz.rowWord HL.out ⟨by rw [HE.out], ?_⟩
      rw [HBB.out]
      exact hbel6

end Go.Proofs.YtnkaodjfjllkfaaGreatDoor
/-
  The walks of aes: blocks put together.
-/
namespace Go.Proofs.YtnkaodjfjllkfaaGreatDoor
open Go.RowKit Go.Mem Go.Ops Go.Cells Go.Oct Go.Gf Go.Trn Go.Aes
set_option linter.unusedSimpArgs false
set_option linter.unusedVariables false
set_option maxRecDepth 100000
attribute [local irreducible] walkR walkP walk0 walkB

theorem aboth_ok (a b : List UInt8) (w : World) (ha : a.length = 16) (hb : b.length = 16) : Calls Tryz.prog 140 #[.agg (a.map B).toArray, .agg (b.map B).toArray] w fun e w' => e = .returned (.agg ((both a b).map B).toArray) ∧ Below w.heap.size w w' := by
  have HLA := Lib.hid ha
  have HLB := Lib.hid hb
  have HS := Lib.hid (St.start w)
  have HBX := Lib.hid (block_xor a b ha hb)
  clear ha hb
  go_enter Tryz.func140, Tryz.ntmps140
  go_wp2_with (refine wpList_box 88 _ (a.map B) _ rfl rfl rfl rfl ?_)
  intro w1 hb hbel; have HS := Lib.hid (HS.out.push hb hbel); have hlt1 := hb.lt; clear hb hbel
  go_wp2_with (refine wpList_box 88 _ (b.map B) _ rfl rfl rfl rfl ?_)
  intro w2 hb hbel; have HS := Lib.hid (HS.out.push hb hbel); have hlt2 := hb.lt; clear hb hbel
  go_wp2_with (refine wpList_var 88 ((zeros 16).map B) _ rfl rfl Tryz.zero16 rfl ?_)
  intro w3 hb hbel; have HS := Lib.hid (HS.out.push hb hbel); have hlt3 := hb.lt; clear hb hbel
  generalize hbb : w.heap.size = bb at *
  generalize w1.heap.size = bk at *
  generalize w2.heap.size = br at *
  have HBB := Lib.hid hbb
  clear hbb
  go_wp2_with fail
  refine wp_region_R [0, 1, 2, 3, 4] (by kernel_rfl) (by kernel_rfl) ?_
  rintro w4 rfl
  repeat (refine walkR_one rfl rfl (fun K hK => ?_); go_big_quiet_step (fail); refine wpQuiet_nil (hK _ ?_); clear hK K)
  refine walkR_call rfl rfl (by rfl) (fun K hK => ?_)
  go_simp
  refine (xor_ok _ _ 16 16 16 16 a b _ HLA.out HLB.out (by omega) (by omega) (HS.out.drew.get 2 rfl).lies (HS.out.drew.get 1 rfl).lies).mono ?_
  rintro e w5 ⟨v5, rfl, hown5, hbel5⟩
  obtain ⟨ao5, cap5, rfl, _, _, hl5⟩ := own_form hown5
  have HS := Lib.hid (HS.out.drew.later hbel5)
  have HL5 := Lib.hid hl5
  clear hown5 hl5
  simp only [id]
  go_simp
  refine hK _ _ hbel5 ?_
  clear hK K hbel5
  refine walkR_call rfl rfl (by rfl) (fun K hK => ?_)
  go_simp
  refine (block_ok ao5 (min 16 16) cap5 (xorL a b) _ (by rw [xorL_length, HLA.out, HLB.out]) HL5.out).mono ?_
  rintro e w6 ⟨rfl, hbel6⟩
  have HS := Lib.hid (HS.out.later hbel6)
  rw [HBX.out]
  go_simp
  refine hK _ _ hbel6 ?_
  clear hK K hbel6
  refine walkR_free rfl rfl (by rfl) (fun K hK => ?_)
  refine (HS.out.get 0 rfl).opstore rfl rfl rfl Tryz.row16 (by rw [List.length_map]; exact zeros_length 16) (by rw [List.length_map]; exact both_length _ _) (oneCell_B _) (fun w7 hb7 ho7 => hK _ _ ?_)
  clear hK K
  have hbel7 := below_only HS.out.bel ho7 (by omega)
  go_simp
  refine walkR_nil ?_
  go_wp2
  refine hb7.result rfl rfl rfl Tryz.row16 (by rw [List.length_map]; exact both_length _ _) ⟨rfl, ?_⟩
  rw [HBB.out]
  exact hbel7

/-- Rows of so many bytes, one behind the other. -/
structure RowsN (n : Nat) (w : World) (ao : Option Addr) (ks : List (List UInt8)) : Prop where
  each : ∀ k ∈ ks, k.length = n
  lies : Lies w ao ((ks.flatten).map B)
theorem RowsN.below {n : Nat} {w w' : World} {ao : Option Addr} {ks : List (List UInt8)} (h : RowsN n w ao ks) (hb : Below w.heap.size w w') : RowsN n w' ao ks := ⟨h.each, h.lies.below hb⟩
theorem RowsN.range {n : Nat} {w : World} {ao : Option Addr} {ks : List (List UInt8)} (h : RowsN n w ao ks) (hn : 0 < n) {i : Nat} {k : List UInt8} (hi : ks[i]? = some k) : ∃ b off, ao = some ⟨b, off, none⟩ ∧ b < w.heap.size ∧ w.rangeAt b (off + i * n) (k.map B) := by
  have hk := h.each k (List.mem_of_getElem? hi)
  have hat : ∀ j v, (k.map B)[j]? = some v → ((ks.flatten).map B)[n * i + j]? = some v := fun j v hv => by
    rw [List.getElem?_map] at hv ⊢
    have hj : j < n := by
      rcases Nat.lt_or_ge j n with h | h
      · exact h
      · rw [List.getElem?_eq_none (by omega)] at hv; cases hv
    rw [flatten_at n ks i j k h.each hi hj]
    exact hv
  have h0 : (k.map B)[0]? = some (B (at8 k 0)) := mapB_at (at8_get (by omega))
  obtain ⟨b, off, rfl, hc⟩ := h.lies _ _ (hat 0 _ h0)
  refine ⟨b, off, rfl, block_lt_of_cell hc, fun j v hv => ?_⟩
  obtain ⟨b', off', e, hc'⟩ := h.lies _ _ (hat j v hv)
  cases e
  rw [show off + i * n + j = off + (n * i + j) by rw [Nat.mul_comm i n]; omega]
  exact hc'

theorem joined_ok (ao : Option Addr) (cap : Nat) (ks : List (List UInt8)) (w : World) (hn : ks.length = 4) (hk : RowsN 4 w ao ks) :
    Calls Tryz.prog 137 #[.slice ao 4 cap] w fun e w' => e = .returned (.agg ((ks.flatten).map B).toArray) ∧ Below w.heap.size w w' := by
  have hfl : ks.flatten.length = 16 := by
    match ks, hn with
    | [a, b, c, d], _ => simp [hk.each a (by simp), hk.each b (by simp), hk.each c (by simp), hk.each d (by simp)]
  have HFL := Lib.hid hfl
  have HN := Lib.hid hn
  have HK := Lib.hid hk
  have HS := Lib.hid (St.start w)
  clear hn hk hfl
  go_enter Tryz.func137, Tryz.ntmps137
  go_wp2_with (refine wpList_var 88 ((zeros 16).map B) _ rfl rfl Tryz.zero16 rfl ?_)
  intro w1 hb hbel; have HS := Lib.hid (HS.out.push hb hbel); have hlt1 := hb.lt; clear hb hbel
  go_wp2_with (refine wpList_var 88 ((zeros 16).map B) _ rfl rfl Tryz.zero16 rfl ?_)
  intro w2 hb hbel; have HS := Lib.hid (HS.out.push hb hbel); have hlt2 := hb.lt; clear hb hbel
  generalize hbb : w.heap.size = br at *
  generalize w1.heap.size = bo at *
  have HBB := Lib.hid hbb
  clear hbb
  go_wp2
  go_loopw [8] (fun c wr => ∃ (i : Nat) (l : List UInt8), i ≤ 4 ∧ c = .int .i64 i ∧ Filled (fun j => at8 ks.flatten j) 16 (4 * i) l ∧ St w br wr [(bo, l.map B, 88), (br, (zeros 16).map B, 88)]) (fun c _ => 4 - (intOf c).toNat)
  case atStart => exact ⟨0, zeros 16, by omega, rfl, Filled.zero (zeros_length _), HS.out⟩
  case round =>
    clear HS
    obtain ⟨i, l, hi, rfl, hF, hs⟩ := hrel
    have HF := Lib.hid hF
    have HS := Lib.hid hs
    clear hF hs
    by_cases hlt : i < 4
    · obtain ⟨k, hki⟩ : ∃ k, ks[i]? = some k := ⟨ks[i]'(by rw [HN.out]; exact hlt), by simp [HN.out, hlt]⟩
      have hk4 := HK.out.each k (List.mem_of_getElem? hki)
      have HKL := Lib.hid (show (k.map B).length = 4 by rw [List.length_map]; exact hk4)
      obtain ⟨kb, koff, rfl, hkb, hrg⟩ := HK.out.range (by omega) hki
      have HRG := Lib.hid (rangeAt_below hrg HS.out.bel (by rw [← HBB.out]; exact hkb))
      have HCS := Lib.hid (show ∀ j, j < 4 → k[j]? = some (at8 ks.flatten (4 * i + j)) from fun j hj => by
        rw [← flatten_at 4 ks i j k HK.out.each hki hj]
        exact at8_get (by rw [HFL.out]; omega))
      clear hrg hki
      go_wp2_with (first | (refine wpList_load_mid rfl 212 (.tmp 11) rfl kb (koff + i * 4) rfl _ _ HRG.out Tryz.underlying212 rfl (by rw [HKL.out]; exact Tryz.rowWord.2) ?_) | (refine wpList_var 212 ((zeros 4).map B) _ rfl rfl Tryz.zeroWord rfl ?_))
      intro w3 hb3 hbel3
      have hbl := HS.out.ne _ (List.mem_of_getElem? (i := 0) rfl)
      simp only at hbl
      have HS := Lib.hid (HS.out.push hb3 hbel3)
      clear hb3 hbel3
      generalize wr.heap.size = bw at *
      go_wp2_with (refine (HS.out.get 0 rfl).wstore rfl rfl rfl rfl Tryz.rowWord (by rw [List.length_map]; exact zeros_length 4) HKL.out (oneCell_B _) ?_)
      intro w4 hb4 ho4
      have HS := Lib.hid (HS.out.change 0 hb4 ho4 (by omega) (by simp; omega))
      clear hb4 ho4
      have hsl := fun (w' : World) => run_sliceAt_low (P := Tryz.prog) w' 88 5 16 Tryz.underlying88 Tryz.sizeByte bo 0 (4 * i) (4 * (i : Int)) rfl (by omega)
      rw [Nat.zero_add] at hsl
      go_wp2_with fail
      refine wp_region_R [0, 1, 2, 3, 4] (by kernel_rfl) (by kernel_rfl) ?_
      rintro w11 rfl
      repeat (refine walkR_one rfl rfl (fun K hK => ?_); go_big_quiet_step (fail); refine wpQuiet_nil (hK _ ?_); clear hK K)
      refine walkR_free rfl rfl (by rfl) (fun K hK => ?_)
      refine (HS.out.drew.get 1 rfl).opcopy (4 * i) (k.map B) rfl rfl rfl Tryz.underlying22 Tryz.sizeByte (fun _ => rfl) (HS.out.drew.get 0 rfl).lies (by rw [HKL.out]; exact (Nat.min_eq_left (by omega)).symm) (by rw [List.length_map, List.length_map, hk4, HF.out.1]; omega) (oneCell_B _) (fun w12 hb12 ho12 => hK _ _ ?_)
      clear hK K hsl
      rw [splice_map] at hb12
      have hF12 := HF.out.splice (m := 4) (cs := k) (by omega) hk4 HCS.out
      have HF := Lib.hid (show Filled (fun j => at8 ks.flatten j) 16 (4 * (i + 1)) (splice l (4 * i) k) from hF12)
      have hs12 := HS.out.drew.change 1 hb12 ho12 (by omega) (by simp; omega)
      have HS := Lib.hid (show St w br w12 [(bo, (splice l (4 * i) k).map B, 88), (br, (zeros 16).map B, 88)] from ⟨hs12.base_le, hs12.bel, fun e he => hs12.all e (List.mem_cons_of_mem _ he)⟩)
      clear hb12 ho12 hF12 hs12
      go_simp
      refine walkR_nil ?_
      go_wp2
      go_roundw
      case rel => exact ⟨i + 1, _, by omega, rfl, HF.out, HS.out⟩
      case measure => simp [intOf]; omega
    · obtain rfl : i = 4 := by omega
      have he : l = ks.flatten := by
        have hl := HF.out.1
        apply List.ext_getElem?
        intro j
        by_cases hj : j < 16
        · rw [HF.out.2 j hj]; exact (at8_get (by rw [HFL.out]; exact hj)).symm
        · rw [List.getElem?_eq_none (by omega), List.getElem?_eq_none (by rw [HFL.out]; omega)]
      have HE := Lib.hid he
      have HL := Lib.hid (show (l.map B).length = 16 by rw [List.length_map]; exact HF.out.1)
      clear he
      go_wp2_with (first | (refine (HS.out.get 0 rfl).wload rfl rfl rfl Tryz.row16 HL.out ?_) | (refine (HS.out.get 1 rfl).wstore rfl rfl rfl rfl Tryz.row16 (by rw [List.length_map]; exact zeros_length 16) HL.out (oneCell_B _) ?_))
      intro w9 hb9 ho9
      have hbel9 := below_only HS.out.bel ho9 (by omega)
      go_wp2
      refine hb9.result rfl rfl rfl Tryz.row16 HL.out ⟨by rw [HE.out], ?_⟩
      rw [HBB.out]
      exact hbel9

end Go.Proofs.YtnkaodjfjllkfaaGreatDoor
