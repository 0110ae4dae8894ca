/-
  Texts of this claim, one behind the other: AesA AesB AesC Append Build.
-/
import Derived.Test.YtbpghohkhngdfaaGreatDoorM6
import Derived.Test.YtbpghohkhngdfaaGreatDoorM2
import Derived.Test.YtbpghohkhngdfaaGreatDoorM1
import Derived.Deep.AppendLies
import Derived.Laws.OwnMore
/-
  The walks of aes: words.
-/
namespace Go.Proofs.YtbpghohkhngdfaaGreatDoor
open Go.RowKit Go.Mem Go.Ops Go.Cells Go.Oct Go.Gf Go.Trn Go.Aes
set_option linter.unusedSimpArgs false
set_option linter.unusedVariables false
set_option maxRecDepth 100000
attribute [local irreducible] walkR walkP walk0 walkB

theorem Tryz.rowWord : Row Tryz.prog 231 4 := ⟨by kernel_rfl, by kernel_rfl⟩
theorem Tryz.zeroWord : (Tryz.prog.info? 231).map (·.zero) = some (some (.agg ((zeros 4).map B).toArray)) := by kernel_rfl

theorem Tryz.plainByte : (Tryz.prog.underlying 5).map (·.isRow) = some false := by kernel_rfl

theorem shape_no (n : Int) (w : World) (h : n ≠ 32 ∧ n ≠ 16 ∧ n ≠ 24) : Calls Tryz.prog 175 #[.int .i64 n] w fun e w' => e = .returned (.tuple #[.int .i64 0, .bool false, .int .i64 2]) ∧ w = w' := by
  have h1 : (n == 32) = false := beq_eq_false_iff_ne.2 h.1
  have h2 : (n == 16) = false := beq_eq_false_iff_ne.2 h.2.1
  have h3 : (n == 24) = false := beq_eq_false_iff_ne.2 h.2.2
  go_enter Tryz.func175, Tryz.ntmps175
  go_wp2
  go_ret3
  exact ⟨rfl, rfl⟩
theorem shape_32 (w : World) : Calls Tryz.prog 175 #[.int .i64 32] w fun e w' => e = .returned (.tuple #[.int .i64 8, .bool true, .int .i64 0]) ∧ w = w' := by
  go_enter Tryz.func175, Tryz.ntmps175
  go_wp2
  go_ret3
  exact ⟨rfl, rfl⟩
theorem shape_16 (w : World) : Calls Tryz.prog 175 #[.int .i64 16] w fun e w' => e = .returned (.tuple #[.int .i64 4, .bool false, .int .i64 0]) ∧ w = w' := by
  go_enter Tryz.func175, Tryz.ntmps175
  go_wp2
  go_ret3
  exact ⟨rfl, rfl⟩
theorem shape_24 (w : World) : Calls Tryz.prog 175 #[.int .i64 24] w fun e w' => e = .returned (.tuple #[.int .i64 6, .bool false, .int .i64 0]) ∧ w = w' := by
  go_enter Tryz.func175, Tryz.ntmps175
  go_wp2
  go_ret3
  exact ⟨rfl, rfl⟩

theorem boxed_ok (q p : Nat) (x : List UInt8) (w : World) (ht : Tab w q p) (hx : x.length = 4) :
    Calls Tryz.prog 178 #[.pointer (some ⟨q, 0, none⟩), .agg (x.map B).toArray] w fun e w' => e = .returned (.agg ((subW x).map B).toArray) ∧ Below w.heap.size w w' := by
  have HX := Lib.hid hx
  have HXL := Lib.hid (show (x.map B).length = 4 by rw [List.length_map]; exact hx)
  have HS := Lib.hid (((St.start w).add ht.tab).add ht.boxes)
  have hlq := ht.tab.lt
  have hlp := ht.boxes.lt
  clear ht hx
  go_enter Tryz.func178, Tryz.ntmps178
  go_wp2_with (refine wpList_box 231 _ (x.map B) _ rfl rfl rfl rfl ?_)
  intro w1 hb hbel; have HS := Lib.hid (HS.out.push hb hbel); have hlt1 := hb.lt; clear hb hbel
  go_wp2_with (refine wpList_var 231 ((zeros 4).map B) _ rfl rfl Tryz.zeroWord rfl ?_)
  intro w2 hb hbel; have HS := Lib.hid (HS.out.push hb hbel); have hlt2 := hb.lt; clear hb hbel
  generalize hbb : w.heap.size = bb at *
  generalize w1.heap.size = br at *
  have HBB := Lib.hid hbb
  clear hbb
  go_wp2_with (refine (HS.out.get 1 rfl).wload rfl rfl rfl Tryz.rowWord HXL.out ?_)
  go_loopw [8] (fun c wr => ∃ (i : Nat) (l : List UInt8), i ≤ 4 ∧ c = .int .i64 i ∧ Filled (fun i => at8 Gf.boxes (at8 x i).toNat) 4 i l ∧ St w bb wr [(br, (zeros 4).map B, 231), (bb, l.map B, 231), (p, Gf.boxes.map B, 124), (q, .pointer (some ⟨p, 0, none⟩) :: (entries Gf.boxes).map W, 118)]) (fun c _ => 4 - (intOf c).toNat)
  case atStart => exact ⟨0, x, by omega, rfl, Filled.zero HX.out, HS.out⟩
  case round =>
    clear HS
    obtain ⟨i, l, hi, rfl, hF, hs⟩ := hrel
    have HF := Lib.hid hF
    have HS := Lib.hid hs
    clear hF hs
    by_cases hlt : i < 4
    · have hix := fun (w' : World) => run_index_one (P := Tryz.prog) w' 231 5 4 (x.map B).toArray .i64 i (B (at8 x i)) Tryz.underlying231 Tryz.plainByte Tryz.sizeByte (by rw [List.getElem?_toArray]; exact mapB_at (at8_get (by rw [HX.out]; exact hlt))) hlt
      obtain ⟨y, hy⟩ := HF.out.at hlt
      clear hy
      go_wp2_with fail
      refine (tbox_ok q p (at8 x i) _ (HS.out.tab 2 3 rfl rfl)).mono ?_
      rintro e w5 ⟨rfl, rfl⟩
      obtain ⟨y, hy⟩ := HF.out.at hlt
      have hc := (HS.out.get 1 rfl).cell i _ (mapB_at hy)
      have hf := (HS.out.get 1 rfl).free i
      clear hy hix
      go_wp2
      have hb5 := (HS.out.get 1 rfl).set i (B (at8 Gf.boxes (at8 x i).toNat))
      rw [mapB_set] at hb5
      have hs5 := HS.out.change 1 hb5 (Only.setCell _ ⟨bb, i, none⟩ _) (by omega) (by simp; omega)
      go_roundw
      case rel => exact ⟨i + 1, _, by omega, rfl, HF.out.step hlt, hs5⟩
      case measure => simp [intOf]; omega
    · obtain rfl : i = 4 := by omega
      have HE := Lib.hid (show l = subW x from HF.out.all)
      have HL := Lib.hid (show (l.map B).length = 4 by rw [List.length_map]; exact HF.out.1)
      go_wp2_with (first | (refine (HS.out.get 1 rfl).wload rfl rfl rfl Tryz.rowWord HL.out ?_) | (refine (HS.out.get 0 rfl).wstore rfl rfl rfl rfl Tryz.rowWord (by rw [List.length_map]; exact zeros_length 4) HL.out (oneCell_B _) ?_))
      intro w9 hb9 ho9
      have hbel9 := below_only HS.out.bel ho9 (by omega)
      go_wp2
      refine hb9.result rfl rfl rfl Tryz.rowWord HL.out ⟨by rw [HE.out], ?_⟩
      rw [HBB.out]
      exact hbel9

theorem plus4_ok (a b : List UInt8) (w : World) (ha : a.length = 4) (hb : b.length = 4) : Calls Tryz.prog 179 #[.agg (a.map B).toArray, .agg (b.map B).toArray] w fun e w' => e = .returned (.agg ((plusW a b).map B).toArray) ∧ Below w.heap.size w w' := by
  have HLA := Lib.hid ha
  have HLB := Lib.hid hb
  have HS := Lib.hid (St.start w)
  clear ha hb
  go_enter Tryz.func179, Tryz.ntmps179
  go_wp2_with (refine wpList_box 231 _ (a.map B) _ rfl rfl rfl rfl ?_)
  intro w1 hb hbel; have HS := Lib.hid (HS.out.push hb hbel); have hlt1 := hb.lt; clear hb hbel
  go_wp2_with (refine wpList_box 231 _ (b.map B) _ rfl rfl rfl rfl ?_)
  intro w2 hb hbel; have HS := Lib.hid (HS.out.push hb hbel); have hlt2 := hb.lt; clear hb hbel
  go_wp2_with (refine wpList_var 231 ((zeros 4).map B) _ rfl rfl Tryz.zeroWord rfl ?_)
  intro w3 hb hbel; have HS := Lib.hid (HS.out.push hb hbel); have hlt3 := hb.lt; clear hb hbel
  generalize hbb : w.heap.size = bb at *
  generalize w1.heap.size = bk at *
  generalize w2.heap.size = br at *
  have HBB := Lib.hid hbb
  clear hbb
  go_wp2
  go_loopw [6] (fun c wr => ∃ (j : Nat) (l : List UInt8), j ≤ 4 ∧ c = .int .i64 j ∧ l.length = 4 ∧ (∀ i, i < j → l[i]? = some (xor8 (at8 a i) (at8 b i))) ∧ (∀ i, j ≤ i → l[i]? = a[i]?) ∧ St w bb wr [(br, (zeros 4).map B, 231), (bk, b.map B, 231), (bb, l.map B, 231)]) (fun c _ => 4 - (intOf c).toNat)
  case atStart => exact ⟨0, a, by omega, rfl, HLA.out, fun i hi => absurd hi (by omega), fun i _ => rfl, HS.out⟩
  case round =>
    clear HS
    obtain ⟨j, l, hj, rfl, hll, hl1, hl2, hs⟩ := hrel
    have HLL := Lib.hid hll
    have HL1 := Lib.hid hl1
    have HS := Lib.hid hs
    by_cases hlt : j < 4
    · have hx : l[j]? = some (at8 a j) := by rw [hl2 j (Nat.le_refl _)]; exact at8_get (by rw [HLA.out]; omega)
      have hc1 := fun (x : After wr.drew) => ((hs.drew.later x.later).get 2 rfl).cell j _ (mapB_at hx)
      have hc2 := fun (x : After wr.drew) => ((hs.drew.later x.later).get 1 rfl).cell j _ (mapB_at (at8_get (b := b) (i := j) (by rw [HLB.out]; omega)))
      have HL2 := Lib.hid hl2
      clear hll hl1 hl2 hs hx
      go_wp2_with fail
      refine wp_region_R [0, 1, 2, 3, 4, 5, 6, 7, 8] (by kernel_rfl) (by kernel_rfl) ?_
      rintro w4 rfl
      repeat (refine walkR_one rfl rfl (fun K hK => ?_); go_big_quiet_step (fail); refine wpQuiet_nil (hK _ ?_); clear hK K)
      clear hc1 hc2
      refine walkR_free rfl rfl (by rfl) (fun K hK => ?_)
      refine (HS.out.drew.get 2 rfl).opset (v := B (xor8 (at8 a j) (at8 b j))) rfl rfl rfl Tryz.sizeByte rfl rfl (by rw [List.length_map, HLL.out]; omega) (fun w5 hb5 ho5 => hK _ _ ?_)
      clear hK K
      rw [mapB_set] at hb5
      have HS5 := Lib.hid (HS.out.drew.change 2 hb5 ho5 (by omega) (by simp; omega))
      clear ho5 hb5
      go_simp
      refine walkR_nil ?_
      go_wp2
      go_roundw
      case rel =>
        refine ⟨j + 1, _, by omega, rfl, by simpa using HLL.out, fun i hi => ?_, fun i hi => ?_, HS5.out⟩
        · rw [List.getElem?_set]
          by_cases e : j = i
          · subst e; simp [HLL.out, hlt]
          · rw [if_neg e]; exact HL1.out i (by omega)
        · rw [List.getElem?_set_ne (by omega)]
          exact HL2.out i (by omega)
      case measure => simp [intOf]; omega
    · obtain rfl : j = 4 := by omega
      have HE := Lib.hid (show l = plusW a b from Filled.all (f := fun i => xor8 (at8 a i) (at8 b i)) ⟨hll, hl1⟩)
      have HL := Lib.hid (show (l.map B).length = 4 by rw [List.length_map]; exact hll)
      clear hll hl1 hl2 hs
      go_wp2_with (first | (refine (HS.out.get 2 rfl).wload rfl rfl rfl Tryz.rowWord HL.out ?_) | (refine (HS.out.get 0 rfl).wstore rfl rfl rfl rfl Tryz.rowWord (by rw [List.length_map]; exact zeros_length 4) HL.out (oneCell_B _) ?_))
      intro w6 hb6 ho6
      have hbel6 := below_only HS.out.bel ho6 (by omega)
      go_wp2
      refine hb6.result rfl rfl rfl Tryz.rowWord HL.out ⟨by rw [HE.out], ?_⟩
      rw [HBB.out]
      exact hbel6

end Go.Proofs.YtbpghohkhngdfaaGreatDoor
/-
  The walks of aes: blocks put together.
-/
namespace Go.Proofs.YtbpghohkhngdfaaGreatDoor
open Go.RowKit Go.Mem Go.Ops Go.Cells Go.Oct Go.Gf Go.Trn Go.Aes
set_option linter.unusedSimpArgs false
set_option linter.unusedVariables false
set_option maxRecDepth 100000
attribute [local irreducible] walkR walkP walk0 walkB

theorem aboth_ok (a b : List UInt8) (w : World) (ha : a.length = 16) (hb : b.length = 16) : Calls Tryz.prog 182 #[.agg (a.map B).toArray, .agg (b.map B).toArray] w fun e w' => e = .returned (.agg ((both a b).map B).toArray) ∧ Below w.heap.size w w' := by
  have HLA := Lib.hid ha
  have HLB := Lib.hid hb
  have HS := Lib.hid (St.start w)
  have HBX := Lib.hid (block_xor a b ha hb)
  clear ha hb
  go_enter Tryz.func182, Tryz.ntmps182
  go_wp2_with (refine wpList_box 52 _ (a.map B) _ rfl rfl rfl rfl ?_)
  intro w1 hb hbel; have HS := Lib.hid (HS.out.push hb hbel); have hlt1 := hb.lt; clear hb hbel
  go_wp2_with (refine wpList_box 52 _ (b.map B) _ rfl rfl rfl rfl ?_)
  intro w2 hb hbel; have HS := Lib.hid (HS.out.push hb hbel); have hlt2 := hb.lt; clear hb hbel
  go_wp2_with (refine wpList_var 52 ((zeros 16).map B) _ rfl rfl Tryz.zero16 rfl ?_)
  intro w3 hb hbel; have HS := Lib.hid (HS.out.push hb hbel); have hlt3 := hb.lt; clear hb hbel
  generalize hbb : w.heap.size = bb at *
  generalize w1.heap.size = bk at *
  generalize w2.heap.size = br at *
  have HBB := Lib.hid hbb
  clear hbb
  go_wp2_with fail
  refine wp_region_R [0, 1, 2, 3, 4] (by kernel_rfl) (by kernel_rfl) ?_
  rintro w4 rfl
  repeat (refine walkR_one rfl rfl (fun K hK => ?_); go_big_quiet_step (fail); refine wpQuiet_nil (hK _ ?_); clear hK K)
  refine walkR_call rfl rfl (by rfl) (fun K hK => ?_)
  go_simp
  refine (xor_ok _ _ 16 16 16 16 a b _ HLA.out HLB.out (by omega) (by omega) (HS.out.drew.get 2 rfl).lies (HS.out.drew.get 1 rfl).lies).mono ?_
  rintro e w5 ⟨v5, rfl, hown5, hbel5⟩
  obtain ⟨ao5, cap5, rfl, _, _, hl5⟩ := own_form hown5
  have HS := Lib.hid (HS.out.drew.later hbel5)
  have HL5 := Lib.hid hl5
  clear hown5 hl5
  simp only [id]
  go_simp
  refine hK _ _ hbel5 ?_
  clear hK K hbel5
  refine walkR_call rfl rfl (by rfl) (fun K hK => ?_)
  go_simp
  refine (block_ok ao5 (min 16 16) cap5 (xorL a b) _ (by rw [xorL_length, HLA.out, HLB.out]) HL5.out).mono ?_
  rintro e w6 ⟨rfl, hbel6⟩
  have HS := Lib.hid (HS.out.later hbel6)
  rw [HBX.out]
  go_simp
  refine hK _ _ hbel6 ?_
  clear hK K hbel6
  refine walkR_free rfl rfl (by rfl) (fun K hK => ?_)
  refine (HS.out.get 0 rfl).opstore rfl rfl rfl Tryz.row16 (by rw [List.length_map]; exact zeros_length 16) (by rw [List.length_map]; exact both_length _ _) (oneCell_B _) (fun w7 hb7 ho7 => hK _ _ ?_)
  clear hK K
  have hbel7 := below_only HS.out.bel ho7 (by omega)
  go_simp
  refine walkR_nil ?_
  go_wp2
  refine hb7.result rfl rfl rfl Tryz.row16 (by rw [List.length_map]; exact both_length _ _) ⟨rfl, ?_⟩
  rw [HBB.out]
  exact hbel7

/-- Rows of so many bytes, one behind the other. -/
structure RowsN (n : Nat) (w : World) (ao : Option Addr) (ks : List (List UInt8)) : Prop where
  each : ∀ k ∈ ks, k.length = n
  lies : Lies w ao ((ks.flatten).map B)
theorem RowsN.below {n : Nat} {w w' : World} {ao : Option Addr} {ks : List (List UInt8)} (h : RowsN n w ao ks) (hb : Below w.heap.size w w') : RowsN n w' ao ks := ⟨h.each, h.lies.below hb⟩
theorem RowsN.range {n : Nat} {w : World} {ao : Option Addr} {ks : List (List UInt8)} (h : RowsN n w ao ks) (hn : 0 < n) {i : Nat} {k : List UInt8} (hi : ks[i]? = some k) : ∃ b off, ao = some ⟨b, off, none⟩ ∧ b < w.heap.size ∧ w.rangeAt b (off + i * n) (k.map B) := by
  have hk := h.each k (List.mem_of_getElem? hi)
  have hat : ∀ j v, (k.map B)[j]? = some v → ((ks.flatten).map B)[n * i + j]? = some v := fun j v hv => by
    rw [List.getElem?_map] at hv ⊢
    have hj : j < n := by
      rcases Nat.lt_or_ge j n with h | h
      · exact h
      · rw [List.getElem?_eq_none (by omega)] at hv; cases hv
    rw [flatten_at n ks i j k h.each hi hj]
    exact hv
  have h0 : (k.map B)[0]? = some (B (at8 k 0)) := mapB_at (at8_get (by omega))
  obtain ⟨b, off, rfl, hc⟩ := h.lies _ _ (hat 0 _ h0)
  refine ⟨b, off, rfl, block_lt_of_cell hc, fun j v hv => ?_⟩
  obtain ⟨b', off', e, hc'⟩ := h.lies _ _ (hat j v hv)
  cases e
  rw [show off + i * n + j = off + (n * i + j) by rw [Nat.mul_comm i n]; omega]
  exact hc'

theorem joined_ok (ao : Option Addr) (cap : Nat) (ks : List (List UInt8)) (w : World) (hn : ks.length = 4) (hk : RowsN 4 w ao ks) :
    Calls Tryz.prog 180 #[.slice ao 4 cap] w fun e w' => e = .returned (.agg ((ks.flatten).map B).toArray) ∧ Below w.heap.size w w' := by
  have hfl : ks.flatten.length = 16 := by
    match ks, hn with
    | [a, b, c, d], _ => simp [hk.each a (by simp), hk.each b (by simp), hk.each c (by simp), hk.each d (by simp)]
  have HFL := Lib.hid hfl
  have HN := Lib.hid hn
  have HK := Lib.hid hk
  have HS := Lib.hid (St.start w)
  clear hn hk hfl
  go_enter Tryz.func180, Tryz.ntmps180
  go_wp2_with (refine wpList_var 52 ((zeros 16).map B) _ rfl rfl Tryz.zero16 rfl ?_)
  intro w1 hb hbel; have HS := Lib.hid (HS.out.push hb hbel); have hlt1 := hb.lt; clear hb hbel
  go_wp2_with (refine wpList_var 52 ((zeros 16).map B) _ rfl rfl Tryz.zero16 rfl ?_)
  intro w2 hb hbel; have HS := Lib.hid (HS.out.push hb hbel); have hlt2 := hb.lt; clear hb hbel
  generalize hbb : w.heap.size = br at *
  generalize w1.heap.size = bo at *
  have HBB := Lib.hid hbb
  clear hbb
  go_wp2
  go_loopw [8] (fun c wr => ∃ (i : Nat) (l : List UInt8), i ≤ 4 ∧ c = .int .i64 i ∧ Filled (fun j => at8 ks.flatten j) 16 (4 * i) l ∧ St w br wr [(bo, l.map B, 52), (br, (zeros 16).map B, 52)]) (fun c _ => 4 - (intOf c).toNat)
  case atStart => exact ⟨0, zeros 16, by omega, rfl, Filled.zero (zeros_length _), HS.out⟩
  case round =>
    clear HS
    obtain ⟨i, l, hi, rfl, hF, hs⟩ := hrel
    have HF := Lib.hid hF
    have HS := Lib.hid hs
    clear hF hs
    by_cases hlt : i < 4
    · obtain ⟨k, hki⟩ : ∃ k, ks[i]? = some k := ⟨ks[i]'(by rw [HN.out]; exact hlt), by simp [HN.out, hlt]⟩
      have hk4 := HK.out.each k (List.mem_of_getElem? hki)
      have HKL := Lib.hid (show (k.map B).length = 4 by rw [List.length_map]; exact hk4)
      obtain ⟨kb, koff, rfl, hkb, hrg⟩ := HK.out.range (by omega) hki
      have HRG := Lib.hid (rangeAt_below hrg HS.out.bel (by rw [← HBB.out]; exact hkb))
      have HCS := Lib.hid (show ∀ j, j < 4 → k[j]? = some (at8 ks.flatten (4 * i + j)) from fun j hj => by
        rw [← flatten_at 4 ks i j k HK.out.each hki hj]
        exact at8_get (by rw [HFL.out]; omega))
      clear hrg hki
      go_wp2_with (first | (refine wpList_load_mid rfl 231 (.tmp 11) rfl kb (koff + i * 4) rfl _ _ HRG.out Tryz.underlying231 rfl (by rw [HKL.out]; exact Tryz.rowWord.2) ?_) | (refine wpList_var 231 ((zeros 4).map B) _ rfl rfl Tryz.zeroWord rfl ?_))
      intro w3 hb3 hbel3
      have hbl := HS.out.ne _ (List.mem_of_getElem? (i := 0) rfl)
      simp only at hbl
      have HS := Lib.hid (HS.out.push hb3 hbel3)
      clear hb3 hbel3
      generalize wr.heap.size = bw at *
      go_wp2_with (refine (HS.out.get 0 rfl).wstore rfl rfl rfl rfl Tryz.rowWord (by rw [List.length_map]; exact zeros_length 4) HKL.out (oneCell_B _) ?_)
      intro w4 hb4 ho4
      have HS := Lib.hid (HS.out.change 0 hb4 ho4 (by omega) (by simp; omega))
      clear hb4 ho4
      have hsl := fun (w' : World) => run_sliceAt_low (P := Tryz.prog) w' 52 5 16 Tryz.underlying52 Tryz.sizeByte bo 0 (4 * i) (4 * (i : Int)) rfl (by omega)
      rw [Nat.zero_add] at hsl
      go_wp2_with fail
      refine wp_region_R [0, 1, 2, 3, 4] (by kernel_rfl) (by kernel_rfl) ?_
      rintro w11 rfl
      repeat (refine walkR_one rfl rfl (fun K hK => ?_); go_big_quiet_step (fail); refine wpQuiet_nil (hK _ ?_); clear hK K)
      refine walkR_free rfl rfl (by rfl) (fun K hK => ?_)
      refine (HS.out.drew.get 1 rfl).opcopy (4 * i) (k.map B) rfl rfl rfl Tryz.underlying22 Tryz.sizeByte (fun _ => rfl) (HS.out.drew.get 0 rfl).lies (by rw [HKL.out]; exact (Nat.min_eq_left (by omega)).symm) (by rw [List.length_map, List.length_map, hk4, HF.out.1]; omega) (oneCell_B _) (fun w12 hb12 ho12 => hK _ _ ?_)
      clear hK K hsl
      rw [splice_map] at hb12
      have hF12 := HF.out.splice (m := 4) (cs := k) (by omega) hk4 HCS.out
      have HF := Lib.hid (show Filled (fun j => at8 ks.flatten j) 16 (4 * (i + 1)) (splice l (4 * i) k) from hF12)
      have hs12 := HS.out.drew.change 1 hb12 ho12 (by omega) (by simp; omega)
      have HS := Lib.hid (show St w br w12 [(bo, (splice l (4 * i) k).map B, 52), (br, (zeros 16).map B, 52)] from ⟨hs12.base_le, hs12.bel, fun e he => hs12.all e (List.mem_cons_of_mem _ he)⟩)
      clear hb12 ho12 hF12 hs12
      go_simp
      refine walkR_nil ?_
      go_wp2
      go_roundw
      case rel => exact ⟨i + 1, _, by omega, rfl, HF.out, HS.out⟩
      case measure => simp [intOf]; omega
    · obtain rfl : i = 4 := by omega
      have he : l = ks.flatten := by
        have hl := HF.out.1
        apply List.ext_getElem?
        intro j
        by_cases hj : j < 16
        · rw [HF.out.2 j hj]; exact (at8_get (by rw [HFL.out]; exact hj)).symm
        · rw [List.getElem?_eq_none (by omega), List.getElem?_eq_none (by rw [HFL.out]; omega)]
      have HE := Lib.hid he
      have HL := Lib.hid (show (l.map B).length = 16 by rw [List.length_map]; exact HF.out.1)
      clear he
      go_wp2_with (first | (refine (HS.out.get 0 rfl).wload rfl rfl rfl Tryz.row16 HL.out ?_) | (refine (HS.out.get 1 rfl).wstore rfl rfl rfl rfl Tryz.row16 (by rw [List.length_map]; exact zeros_length 16) HL.out (oneCell_B _) ?_))
      intro w9 hb9 ho9
      have hbel9 := below_only HS.out.bel ho9 (by omega)
      go_wp2
      refine hb9.result rfl rfl rfl Tryz.row16 HL.out ⟨by rw [HE.out], ?_⟩
      rw [HBB.out]
      exact hbel9

end Go.Proofs.YtbpghohkhngdfaaGreatDoor
/-
  The walks of aes: a block enciphered, and deciphered.
-/
namespace Go.Proofs.YtbpghohkhngdfaaGreatDoor
open Go.RowKit Go.Mem Go.Ops Go.Cells Go.Oct Go.Gf Go.Trn Go.Aes
set_option linter.unusedSimpArgs false
set_option linter.unusedVariables false
set_option maxRecDepth 100000
attribute [local irreducible] walkR walkP walk0 walkB

/-- A slice expression's address, of elements of more than one cell. -/
def cutAddrN (ao : Option Addr) (cap lo size : Nat) : Option Addr := if cap = lo then ao else ao.map (·.add (lo * size))

theorem run_cutN {P : Program} (w : World) (t e : TypeId) (size : Nat) (ht : P.underlying t = some (.slice e)) (hs : (P.info? e).map (·.size) = some size) (ao : Option Addr) (len cap lo hi : Nat) (i j : Int) (hi' : i = lo) (hj : j = hi) (h1 : lo ≤ hi) (h2 : hi ≤ cap) :
    (Instr.slice t (.slice ao len cap) (some (.int .i64 i)) (some (.int .i64 j)) none).run P w = .ok (.slice (cutAddrN ao cap lo size) (hi - lo) (cap - lo)) w := by
  subst hi'; subst hj
  cases hq : P.info? e with
  | none => rw [hq] at hs; cases hs
  | some x =>
    have hx : x.size = size := by rw [hq] at hs; simpa using hs
    simp [Instr.slice, Instr.sliceBounds, Instr.sliceBound, run_underlying ht, sizeOf, typeInfo, hq, hx, asIntOf, h1, h2, cutAddrN]

theorem flatten_drop (n : Nat) : ∀ (ks : List (List UInt8)) (lo : Nat), (∀ k ∈ ks, k.length = n) → (ks.drop lo).flatten = ks.flatten.drop (lo * n)
  | [], lo, _ => by simp
  | x :: r, 0, _ => by simp
  | x :: r, lo + 1, h => by
    have hx := h x (by simp)
    rw [List.drop_succ_cons, flatten_drop n r lo (fun k hk => h k (List.mem_cons_of_mem _ hk)), List.flatten_cons, List.drop_append, hx, show x.drop ((lo + 1) * n) = [] from List.drop_eq_nil_of_le (by rw [hx, Nat.add_mul]; omega), List.nil_append, Nat.add_mul, Nat.one_mul, Nat.add_sub_cancel]
theorem flatten_take (n : Nat) : ∀ (ks : List (List UInt8)) (m : Nat), (∀ k ∈ ks, k.length = n) → (ks.take m).flatten = ks.flatten.take (m * n)
  | [], m, _ => by simp
  | x :: r, 0, _ => by simp
  | x :: r, m + 1, h => by
    rw [List.take_succ_cons, List.flatten_cons, flatten_take n r m (fun k hk => h k (List.mem_cons_of_mem _ hk)), List.flatten_cons, List.take_append, h x (by simp), show x.take ((m + 1) * n) = x from List.take_of_length_le (by rw [h x (by simp), Nat.add_mul]; omega), Nat.add_mul, Nat.one_mul, Nat.add_sub_cancel]

theorem flatten_length (n : Nat) : ∀ (ks : List (List UInt8)), (∀ k ∈ ks, k.length = n) → ks.flatten.length = ks.length * n
  | [], _ => by simp
  | x :: r, h => by
    rw [List.flatten_cons, List.length_append, h x (by simp), flatten_length n r (fun k hk => h k (List.mem_cons_of_mem _ hk)), List.length_cons, Nat.add_mul, Nat.one_mul, Nat.add_comm]

theorem RowsN.cut {n : Nat} {w : World} {ao : Option Addr} {ks : List (List UInt8)} (h : RowsN n w ao ks) {cap : Nat} (hc : ks.length ≤ cap) (lo m : Nat) : RowsN n w (cutAddrN ao cap lo n) ((ks.drop lo).take m) := by
  have hd : ∀ k ∈ ks.drop lo, k.length = n := fun k hk => h.each k (List.mem_of_mem_drop hk)
  refine ⟨fun k hk => hd k (List.mem_of_mem_take hk), ?_⟩
  rw [flatten_take n _ m hd, flatten_drop n _ lo h.each]
  unfold cutAddrN
  by_cases e : cap = lo
  · rw [if_pos e, show ks.flatten.drop (lo * n) = [] from List.drop_eq_nil_of_le (by rw [flatten_length n ks h.each]; exact Nat.mul_le_mul_right n (by omega))]
    simp only [List.take_nil, List.map_nil]
    exact Lies.nil _ _
  · rw [if_neg e]
    have := (h.lies.drop (lo * n)).take (m * n)
    rwa [← List.map_drop, ← List.map_take] at this

theorem Tryz.size16 : (Tryz.prog.info? 52).map (·.size) = some 16 := by kernel_rfl

/-- A key's round keys lie behind the address. -/
structure AKey (w : World) (kp q p : Nat) (ks : List (List UInt8)) (kb koff n cap : Nat) : Prop where
  tab : Tab w q p
  len : ks.length = n
  two : 2 ≤ n
  capLe : n ≤ cap
  most : n ≤ 1000
  rows : RowsN 16 w (some ⟨kb, koff, none⟩) ks
  blk : Blk w kp [.pointer (some ⟨q, 0, none⟩), .slice (some ⟨kb, koff, none⟩) n cap] 237

theorem AKey.later {w w' : World} {kp q p : Nat} {ks : List (List UInt8)} {kb koff n cap : Nat} (h : AKey w kp q p ks kb koff n cap) (hb : Below w.heap.size w w') : AKey w' kp q p ks kb koff n cap :=
  ⟨h.tab.below hb (Nat.le_refl _), h.len, h.two, h.capLe, h.most, h.rows.below hb, h.blk.below hb h.blk.lt⟩
theorem AKey.only {w w' : World} {kp q p : Nat} {ks : List (List UInt8)} {kb koff n cap c : Nat} (h : AKey w kp q p ks kb koff n cap) (ho : Only c w w') (h1 : kp ≠ c) (h2 : q ≠ c) (h3 : p ≠ c) (h4 : kb ≠ c) : AKey w' kp q p ks kb koff n cap := by
  refine ⟨h.tab.only ho h3 h2, h.len, h.two, h.capLe, h.most, ⟨h.rows.each, fun j u hu => ?_⟩, h.blk.only ho h1⟩
  obtain ⟨b, off, e, hc⟩ := h.rows.lies j u hu
  cases e
  refine ⟨kb, koff, rfl, ?_⟩
  have hb := ho.block kb h4
  simp only [World.cell?] at hc ⊢
  rw [hb]
  exact hc
theorem AKey.drew {w : World} {kp q p : Nat} {ks : List (List UInt8)} {kb koff n cap : Nat} (h : AKey w kp q p ks kb koff n cap) : AKey w.drew kp q p ks kb koff n cap := h.later (Below.refl _ _).drew
theorem AKey.key16 {w : World} {kp q p : Nat} {ks : List (List UInt8)} {kb koff n cap : Nat} (h : AKey w kp q p ks kb koff n cap) (i : Nat) (hi : i < n) : (key ks i).length = 16 := h.rows.each _ (List.mem_of_getElem? (key_get (by rw [h.len]; exact hi)))
theorem AKey.range {w : World} {kp q p : Nat} {ks : List (List UInt8)} {kb koff n cap : Nat} (h : AKey w kp q p ks kb koff n cap) (i : Nat) (hi : i < n) : w.rangeAt kb (koff + i * 16) ((key ks i).map B) ∧ kb < w.heap.size := by
  obtain ⟨b, off, e, hb, hr⟩ := h.rows.range (by omega) (key_get (i := i) (by rw [h.len]; exact hi))
  cases e
  exact ⟨hr, hb⟩

theorem enc_ok (kp q p : Nat) (ks : List (List UInt8)) (kb koff n cap : Nat) (b : List UInt8) (w : World) (hk : AKey w kp q p ks kb koff n cap) (hb : b.length = 16) :
    Calls Tryz.prog 117 #[.pointer (some ⟨kp, 0, none⟩), .agg (b.map B).toArray] w fun e w' => e = .returned (.agg ((enc ks b).map B).toArray) ∧ Below w.heap.size w w' := by
  have HLB := Lib.hid (show (b.map B).length = 16 by rw [List.length_map]; exact hb)
  have HLB2 := Lib.hid hb
  have HS := Lib.hid (St.start w)
  have hkl := hk.blk.lt
  have hkq := hk.tab.tab.lt
  have hkp := hk.tab.boxes.lt
  have hkk := (hk.range 0 (by have := hk.two; omega)).2
  have hn2 := hk.two
  have hnc := hk.capLe
  have hmo := hk.most
  have HK := Lib.hid hk
  have HE := Lib.hid (show enc ks b = last (rounds (both b (key ks 0)) ((ks.drop 1).take (n - 2))) (key ks (n - 1)) by rw [← hk.len]; rfl)
  clear hb hk
  go_enter Tryz.func117, Tryz.ntmps117
  go_wp2_with (refine wpList_box 52 _ (b.map B) _ rfl rfl rfl rfl ?_)
  intro w1 hb hbel; have HS := Lib.hid (HS.out.push hb hbel); have HK := Lib.hid (HK.out.later hbel); have hlt1 := hb.lt; clear hb hbel
  go_wp2_with (refine wpList_var 52 ((zeros 16).map B) _ rfl rfl Tryz.zero16 rfl ?_)
  intro w2 hb hbel; have HS := Lib.hid (HS.out.push hb hbel); have HK := Lib.hid (HK.out.later hbel); have hlt2 := hb.lt; clear hb hbel
  generalize hbb : w.heap.size = bb at *
  generalize w1.heap.size = br at *
  have HBB := Lib.hid hbb
  clear hbb
  have hc0 := fun (x : After w2.drew) => (HK.out.drew.later x.later).blk.cell 0 _ rfl
  have hc1 := fun (x : After w2.drew) => (HK.out.drew.later x.later).blk.cell 1 _ rfl
  have hd1 := HK.out.blk.cell 1 _ rfl
  have hsl := fun (w' : World) => run_cutN (P := Tryz.prog) w' 49 52 16 Tryz.underlying49 Tryz.size16 (some ⟨kb, koff, none⟩) n cap 1 (n - 1) 1 ((n : Int) - 1) rfl (by omega) (by omega) (by omega)
  go_wp2_with fail
  refine wp_region_R [0, 1, 2, 3, 4, 5, 6, 7, 8, 9, 10, 12, 13, 14, 15, 16, 17, 11, 18, 19] (by kernel_rfl) (by kernel_rfl) ?_
  rintro w4 rfl
  (refine walkR_one rfl rfl (fun K hK => ?_); go_big_quiet_step (fail); refine wpQuiet_nil (hK _ ?_); clear hK K); (refine walkR_one rfl rfl (fun K hK => ?_); go_big_quiet_step (fail); refine wpQuiet_nil (hK _ ?_); clear hK K); (refine walkR_one rfl rfl (fun K hK => ?_); go_big_quiet_step (fail); refine wpQuiet_nil (hK _ ?_); clear hK K); (refine walkR_one rfl rfl (fun K hK => ?_); go_big_quiet_step (fail); refine wpQuiet_nil (hK _ ?_); clear hK K)
  refine walkR_load (HS.out.drew.get 1 rfl).range (HS.out.drew.get 1 rfl).lt Tryz.row16 HLB.out rfl rfl rfl rfl (fun K hK => ?_)
  go_simp; refine hK _ ?_; clear hK K
  (refine walkR_one rfl rfl (fun K hK => ?_); go_big_quiet_step (fail); refine wpQuiet_nil (hK _ ?_); clear hK K); (refine walkR_one rfl rfl (fun K hK => ?_); go_big_quiet_step (fail); refine wpQuiet_nil (hK _ ?_); clear hK K); (refine walkR_one rfl rfl (fun K hK => ?_); go_big_quiet_step (fail); refine wpQuiet_nil (hK _ ?_); clear hK K); (refine walkR_one rfl rfl (fun K hK => ?_); go_big_quiet_step (fail); refine wpQuiet_nil (hK _ ?_); clear hK K); (refine walkR_one rfl rfl (fun K hK => ?_); go_big_quiet_step (fail); refine wpQuiet_nil (hK _ ?_); clear hK K)
  have hr0 := (HK.out.drew.range 0 (by omega)).1
  rw [Nat.zero_mul, Nat.add_zero] at hr0
  refine walkR_load hr0 (HK.out.drew.range 0 (by omega)).2 Tryz.row16 (by rw [List.length_map]; exact HK.out.key16 0 (by omega)) rfl rfl rfl rfl (fun K hK => ?_)
  go_simp; refine hK _ ?_; clear hK K
  (refine walkR_one rfl rfl (fun K hK => ?_); go_big_quiet_step (fail); refine wpQuiet_nil (hK _ ?_); clear hK K); (refine walkR_one rfl rfl (fun K hK => ?_); go_big_quiet_step (fail); refine wpQuiet_nil (hK _ ?_); clear hK K); (refine walkR_one rfl rfl (fun K hK => ?_); go_big_quiet_step (fail); refine wpQuiet_nil (hK _ ?_); clear hK K); (refine walkR_one rfl rfl (fun K hK => ?_); go_big_quiet_step (fail); refine wpQuiet_nil (hK _ ?_); clear hK K); (refine walkR_one rfl rfl (fun K hK => ?_); go_big_quiet_step (fail); refine wpQuiet_nil (hK _ ?_); clear hK K); (refine walkR_one rfl rfl (fun K hK => ?_); go_big_quiet_step (fail); refine wpQuiet_nil (hK _ ?_); clear hK K)
  refine walkR_call rfl rfl (by rfl) (fun K hK => ?_)
  go_simp
  refine (aboth_ok b (key ks 0) _ HLB2.out (HK.out.key16 0 (by omega))).mono ?_
  rintro e w5 ⟨rfl, hbel⟩
  have HS := Lib.hid (HS.out.drew.later hbel)
  have HK := Lib.hid (HK.out.drew.later hbel)
  go_simp
  refine hK _ _ hbel ?_
  clear hK K hbel hc0 hc1 hsl hr0 hd1
  refine walkR_call rfl rfl (by rfl) (fun K hK => ?_)
  go_simp
  have hcut := HK.out.rows.cut (cap := cap) (by rw [HK.out.len]; exact hnc) 1 (n - 2)
  refine (rounds_ok q p (both b (key ks 0)) (cutAddrN (some ⟨kb, koff, none⟩) cap 1 16) (n - 1 - 1) (cap - 1) ((ks.drop 1).take (n - 2)) _ HK.out.tab (both_length _ _) (by rw [List.length_take, List.length_drop, HK.out.len]; omega) (by omega) ⟨hcut.each, hcut.lies⟩).mono ?_
  clear hcut
  have hrl := rounds_length ((ks.drop 1).take (n - 2)) (both b (key ks 0)) (both_length _ _)
  have HRL := Lib.hid (show ((rounds (both b (key ks 0)) ((ks.drop 1).take (n - 2))).map B).length = 16 by rw [List.length_map]; exact hrl)
  rintro e w6 ⟨rfl, hbel⟩
  generalize rounds (both b (key ks 0)) ((ks.drop 1).take (n - 2)) = x at *
  have HS := Lib.hid (HS.out.later hbel)
  have HK := Lib.hid (HK.out.later hbel)
  go_simp
  refine hK _ _ hbel ?_
  clear hK K hbel
  refine walkR_free rfl rfl (by rfl) (fun K hK => ?_)
  refine (HS.out.get 1 rfl).opstore rfl rfl rfl Tryz.row16 HLB.out HRL.out (oneCell_B _) (fun w7 hb7 ho7 => hK _ _ ?_)
  clear hK K
  have HK := Lib.hid (HK.out.only ho7 (by omega) (by omega) (by omega) (by omega))
  have HS := Lib.hid (HS.out.change 1 hb7 ho7 (by omega) (by simp; omega))
  clear hb7 ho7
  go_simp
  refine walkR_nil ?_
  have hc0 := fun (x : After w7.drew) => (HK.out.drew.later x.later).blk.cell 0 _ rfl
  have hc1 := fun (x : After w7.drew) => (HK.out.drew.later x.later).blk.cell 1 _ rfl
  go_wp2_with fail
  refine wp_region_R [0, 1, 2, 3, 4, 5, 6, 7, 8, 9, 10, 11, 12, 13] (by kernel_rfl) (by kernel_rfl) ?_
  rintro w8 rfl
  (refine walkR_one rfl rfl (fun K hK => ?_); go_big_quiet_step (fail); refine wpQuiet_nil (hK _ ?_); clear hK K); (refine walkR_one rfl rfl (fun K hK => ?_); go_big_quiet_step (fail); refine wpQuiet_nil (hK _ ?_); clear hK K); (refine walkR_one rfl rfl (fun K hK => ?_); go_big_quiet_step (fail); refine wpQuiet_nil (hK _ ?_); clear hK K); (refine walkR_one rfl rfl (fun K hK => ?_); go_big_quiet_step (fail); refine wpQuiet_nil (hK _ ?_); clear hK K)
  refine walkR_load (HS.out.drew.get 1 rfl).range (HS.out.drew.get 1 rfl).lt Tryz.row16 HRL.out rfl rfl rfl rfl (fun K hK => ?_)
  go_simp; refine hK _ ?_; clear hK K
  (refine walkR_one rfl rfl (fun K hK => ?_); go_big_quiet_step (fail); refine wpQuiet_nil (hK _ ?_); clear hK K); (refine walkR_one rfl rfl (fun K hK => ?_); go_big_quiet_step (fail); refine wpQuiet_nil (hK _ ?_); clear hK K); (refine walkR_one rfl rfl (fun K hK => ?_); go_big_quiet_step (fail); refine wpQuiet_nil (hK _ ?_); clear hK K); (refine walkR_one rfl rfl (fun K hK => ?_); go_big_quiet_step (fail); refine wpQuiet_nil (hK _ ?_); clear hK K); (refine walkR_one rfl rfl (fun K hK => ?_); go_big_quiet_step (fail); refine wpQuiet_nil (hK _ ?_); clear hK K); (refine walkR_one rfl rfl (fun K hK => ?_); go_big_quiet_step (fail); refine wpQuiet_nil (hK _ ?_); clear hK K)
  refine walkR_load (HK.out.drew.range (n - 1) (by omega)).1 (HK.out.drew.range (n - 1) (by omega)).2 Tryz.row16 (by rw [List.length_map]; exact HK.out.key16 (n - 1) (by omega)) rfl rfl rfl rfl (fun K hK => ?_)
  go_simp; refine hK _ ?_; clear hK K
  refine walkR_call rfl rfl (by rfl) (fun K hK => ?_)
  go_simp
  refine (last_ok q p x (key ks (n - 1)) _ HK.out.tab.drew hrl (HK.out.key16 (n - 1) (by omega))).mono ?_
  rintro e w9 ⟨rfl, hbel⟩
  rw [← HE.out]
  have HS := Lib.hid (HS.out.drew.later hbel)
  go_simp
  refine hK _ _ hbel ?_
  clear hK K hbel hc0 hc1
  refine walkR_free rfl rfl (by rfl) (fun K hK => ?_)
  refine (HS.out.get 0 rfl).opstore rfl rfl rfl Tryz.row16 (by rw [List.length_map]; exact zeros_length 16) (by rw [List.length_map]; exact enc_length _ _) (oneCell_B _) (fun w10 hb10 ho10 => hK _ _ ?_)
  clear hK K
  have hbel10 := below_only HS.out.bel ho10 (by omega)
  go_simp
  refine walkR_nil ?_
  go_wp2
  refine hb10.result rfl rfl rfl Tryz.row16 (by rw [List.length_map]; exact enc_length _ _) ⟨rfl, ?_⟩
  rw [HBB.out]
  exact hbel10

theorem dec_ok (kp q p : Nat) (ks : List (List UInt8)) (kb koff n cap : Nat) (b : List UInt8) (w : World) (hk : AKey w kp q p ks kb koff n cap) (hb : b.length = 16) :
    Calls Tryz.prog 288 #[.pointer (some ⟨kp, 0, none⟩), .agg (b.map B).toArray] w fun e w' => e = .returned (.agg ((dec ks b).map B).toArray) ∧ Below w.heap.size w w' := by
  have HLB := Lib.hid (show (b.map B).length = 16 by rw [List.length_map]; exact hb)
  have HLB2 := Lib.hid hb
  have HS := Lib.hid (St.start w)
  have hkl := hk.blk.lt
  have hkq := hk.tab.tab.lt
  have hkp := hk.tab.boxes.lt
  have hkk := (hk.range 0 (by have := hk.two; omega)).2
  have hn2 := hk.two
  have hnc := hk.capLe
  have hmo := hk.most
  have HK := Lib.hid hk
  have HE := Lib.hid (show dec ks b = both (decGo ks (n - 1) (unlast b (key ks (n - 1)))) (key ks 0) by rw [← hk.len]; rfl)
  clear hb hk
  go_enter Tryz.func288, Tryz.ntmps288
  go_wp2_with (refine wpList_box 52 _ (b.map B) _ rfl rfl rfl rfl ?_)
  intro w1 hb hbel; have HS := Lib.hid (HS.out.push hb hbel); have HK := Lib.hid (HK.out.later hbel); have hlt1 := hb.lt; clear hb hbel
  go_wp2_with (refine wpList_var 52 ((zeros 16).map B) _ rfl rfl Tryz.zero16 rfl ?_)
  intro w2 hb hbel; have HS := Lib.hid (HS.out.push hb hbel); have HK := Lib.hid (HK.out.later hbel); have hlt2 := hb.lt; clear hb hbel
  generalize hbb : w.heap.size = bb at *
  generalize w1.heap.size = br at *
  have HBB := Lib.hid hbb
  clear hbb
  have hc0 := fun (x : After w2.drew) => (HK.out.drew.later x.later).blk.cell 0 _ rfl
  have hc1 := fun (x : After w2.drew) => (HK.out.drew.later x.later).blk.cell 1 _ rfl
  have hd1 := HK.out.blk.cell 1 _ rfl
  have hnn : (n : Int) - 1 = ((n - 1 : Nat) : Int) := by omega
  go_wp2_with fail
  refine wp_region_R [0, 1, 2, 3, 4, 5, 6, 7, 8, 9, 10, 11, 12, 13] (by kernel_rfl) (by kernel_rfl) ?_
  rintro w4 rfl
  (refine walkR_one rfl rfl (fun K hK => ?_); go_big_quiet_step (fail); refine wpQuiet_nil (hK _ ?_); clear hK K); (refine walkR_one rfl rfl (fun K hK => ?_); go_big_quiet_step (fail); refine wpQuiet_nil (hK _ ?_); clear hK K); (refine walkR_one rfl rfl (fun K hK => ?_); go_big_quiet_step (fail); refine wpQuiet_nil (hK _ ?_); clear hK K); (refine walkR_one rfl rfl (fun K hK => ?_); go_big_quiet_step (fail); refine wpQuiet_nil (hK _ ?_); clear hK K)
  refine walkR_load (HS.out.drew.get 1 rfl).range (HS.out.drew.get 1 rfl).lt Tryz.row16 HLB.out rfl rfl rfl rfl (fun K hK => ?_)
  go_simp; refine hK _ ?_; clear hK K
  (refine walkR_one rfl rfl (fun K hK => ?_); go_big_quiet_step (fail); refine wpQuiet_nil (hK _ ?_); clear hK K); (refine walkR_one rfl rfl (fun K hK => ?_); go_big_quiet_step (fail); refine wpQuiet_nil (hK _ ?_); clear hK K); (refine walkR_one rfl rfl (fun K hK => ?_); go_big_quiet_step (fail); refine wpQuiet_nil (hK _ ?_); clear hK K); (refine walkR_one rfl rfl (fun K hK => ?_); go_big_quiet_step (fail); refine wpQuiet_nil (hK _ ?_); clear hK K); (refine walkR_one rfl rfl (fun K hK => ?_); go_big_quiet_step (fail); refine wpQuiet_nil (hK _ ?_); clear hK K); (refine walkR_one rfl rfl (fun K hK => ?_); go_big_quiet_step (fail); refine wpQuiet_nil (hK _ ?_); clear hK K)
  refine walkR_load (HK.out.drew.range (n - 1) (by omega)).1 (HK.out.drew.range (n - 1) (by omega)).2 Tryz.row16 (by rw [List.length_map]; exact HK.out.key16 (n - 1) (by omega)) rfl rfl rfl rfl (fun K hK => ?_)
  go_simp; refine hK _ ?_; clear hK K
  refine walkR_call rfl rfl (by rfl) (fun K hK => ?_)
  go_simp
  refine (unlast_ok q p b (key ks (n - 1)) _ HK.out.tab.drew HLB2.out (HK.out.key16 (n - 1) (by omega))).mono ?_
  rintro e w9 ⟨rfl, hbel⟩
  have HS := Lib.hid (HS.out.drew.later hbel)
  have HK := Lib.hid (HK.out.drew.later hbel)
  go_simp
  refine hK _ _ hbel ?_
  clear hK K hbel hc0 hc1 hd1
  refine walkR_free rfl rfl (by rfl) (fun K hK => ?_)
  refine (HS.out.get 1 rfl).opstore rfl rfl rfl Tryz.row16 HLB.out (by rw [List.length_map]; exact unlast_length _ _) (oneCell_B _) (fun w7 hb7 ho7 => hK _ _ ?_)
  clear hK K
  have HK := Lib.hid (HK.out.only ho7 (by omega) (by omega) (by omega) (by omega))
  have HS := Lib.hid (HS.out.change 1 hb7 ho7 (by omega) (by simp; omega))
  clear hb7 ho7
  go_simp
  refine walkR_nil ?_
  go_wp2_with fail
  go_loopw [5] (fun c wr => ∃ (i : Nat) (x : List UInt8), 1 ≤ i ∧ i ≤ n - 1 ∧ c = .int .i64 i ∧ x.length = 16 ∧ decGo ks i x = decGo ks (n - 1) (unlast b (key ks (n - 1))) ∧ AKey wr kp q p ks kb koff n cap ∧ St w bb wr [(br, (zeros 16).map B, 52), (bb, x.map B, 52)]) (fun c _ => (intOf c).toNat)
  case atStart => exact ⟨n - 1, unlast b (key ks (n - 1)), by omega, by omega, by rw [← hnn], unlast_length _ _, rfl, HK.out, HS.out⟩
  case round =>
    clear HS HK
    obtain ⟨i, x, hi1, hi2, rfl, hx, he, hk, hs⟩ := hrel
    have HX := Lib.hid hx
    have HXL := Lib.hid (show (x.map B).length = 16 by rw [List.length_map]; exact hx)
    have HD := Lib.hid he
    have HK := Lib.hid hk
    have HS := Lib.hid hs
    clear hx he hk hs
    by_cases hlt : 1 < i
    · have hm : (i : Int) - 1 = ((i - 1 : Nat) : Int) := by omega
      have HD := Lib.hid ((decGo_step ks i x hlt).symm.trans HD.out)
      have hc0 := fun (x : After wr.drew) => (HK.out.drew.later x.later).blk.cell 0 _ rfl
      have hc1 := fun (x : After wr.drew) => (HK.out.drew.later x.later).blk.cell 1 _ rfl
      go_wp2_with fail
      refine wp_region_R [0, 1, 2, 3, 4, 5, 6, 7, 8, 9, 10, 11, 12, 13] (by kernel_rfl) (by kernel_rfl) ?_
      rintro w4 rfl
      (refine walkR_one rfl rfl (fun K hK => ?_); go_big_quiet_step (fail); refine wpQuiet_nil (hK _ ?_); clear hK K); (refine walkR_one rfl rfl (fun K hK => ?_); go_big_quiet_step (fail); refine wpQuiet_nil (hK _ ?_); clear hK K); (refine walkR_one rfl rfl (fun K hK => ?_); go_big_quiet_step (fail); refine wpQuiet_nil (hK _ ?_); clear hK K); (refine walkR_one rfl rfl (fun K hK => ?_); go_big_quiet_step (fail); refine wpQuiet_nil (hK _ ?_); clear hK K)
      refine walkR_load (HS.out.drew.get 1 rfl).range (HS.out.drew.get 1 rfl).lt Tryz.row16 HXL.out rfl rfl rfl rfl (fun K hK => ?_)
      go_simp; refine hK _ ?_; clear hK K
      (refine walkR_one rfl rfl (fun K hK => ?_); go_big_quiet_step (fail); refine wpQuiet_nil (hK _ ?_); clear hK K); (refine walkR_one rfl rfl (fun K hK => ?_); go_big_quiet_step (fail); refine wpQuiet_nil (hK _ ?_); clear hK K); (refine walkR_one rfl rfl (fun K hK => ?_); go_big_quiet_step (fail); refine wpQuiet_nil (hK _ ?_); clear hK K); (refine walkR_one rfl rfl (fun K hK => ?_); go_big_quiet_step (fail); refine wpQuiet_nil (hK _ ?_); clear hK K); (refine walkR_one rfl rfl (fun K hK => ?_); go_big_quiet_step (fail); refine wpQuiet_nil (hK _ ?_); clear hK K); (refine walkR_one rfl rfl (fun K hK => ?_); go_big_quiet_step (fail); refine wpQuiet_nil (hK _ ?_); clear hK K)
      refine walkR_load (HK.out.drew.range (i - 1) (by omega)).1 (HK.out.drew.range (i - 1) (by omega)).2 Tryz.row16 (by rw [List.length_map]; exact HK.out.key16 (i - 1) (by omega)) rfl rfl rfl rfl (fun K hK => ?_)
      go_simp; refine hK _ ?_; clear hK K
      refine walkR_call rfl rfl (by rfl) (fun K hK => ?_)
      go_simp
      refine (unround_ok q p x (key ks (i - 1)) _ HK.out.tab.drew HX.out (HK.out.key16 (i - 1) (by omega))).mono ?_
      rintro e w9 ⟨rfl, hbel⟩
      have HS := Lib.hid (HS.out.drew.later hbel)
      have HK := Lib.hid (HK.out.drew.later hbel)
      go_simp
      refine hK _ _ hbel ?_
      clear hK K hbel hc0 hc1
      refine walkR_free rfl rfl (by rfl) (fun K hK => ?_)
      refine (HS.out.get 1 rfl).opstore rfl rfl rfl Tryz.row16 HXL.out (by rw [List.length_map]; exact unround_length _ _) (oneCell_B _) (fun w7 hb7 ho7 => hK _ _ ?_)
      clear hK K
      have HK := Lib.hid (HK.out.only ho7 (by omega) (by omega) (by omega) (by omega))
      have HS := Lib.hid (HS.out.change 1 hb7 ho7 (by omega) (by simp; omega))
      clear hb7 ho7
      go_simp
      refine walkR_nil ?_
      go_wp2
      go_roundw
      case rel => exact ⟨i - 1, _, by omega, by omega, rfl, unround_length _ _, HD.out, HK.out, HS.out⟩
      case measure => simp [intOf]; omega
    · obtain rfl : i = 1 := by omega
      have HE := Lib.hid (show dec ks b = both x (key ks 0) by rw [HE.out, ← HD.out]; rfl)
      have hc1 := fun (x : After wr.drew) => (HK.out.drew.later x.later).blk.cell 1 _ rfl
      go_wp2_with fail
      refine wp_region_R [0, 1, 2, 3, 4, 5, 6, 7, 8] (by kernel_rfl) (by kernel_rfl) ?_
      rintro w4 rfl
      refine walkR_load (HS.out.drew.get 1 rfl).range (HS.out.drew.get 1 rfl).lt Tryz.row16 HXL.out rfl rfl rfl rfl (fun K hK => ?_)
      go_simp; refine hK _ ?_; clear hK K
      (refine walkR_one rfl rfl (fun K hK => ?_); go_big_quiet_step (fail); refine wpQuiet_nil (hK _ ?_); clear hK K); (refine walkR_one rfl rfl (fun K hK => ?_); go_big_quiet_step (fail); refine wpQuiet_nil (hK _ ?_); clear hK K); (refine walkR_one rfl rfl (fun K hK => ?_); go_big_quiet_step (fail); refine wpQuiet_nil (hK _ ?_); clear hK K); (refine walkR_one rfl rfl (fun K hK => ?_); go_big_quiet_step (fail); refine wpQuiet_nil (hK _ ?_); clear hK K); (refine walkR_one rfl rfl (fun K hK => ?_); go_big_quiet_step (fail); refine wpQuiet_nil (hK _ ?_); clear hK K)
      have hr0 := (HK.out.drew.range 0 (by omega)).1
      rw [Nat.zero_mul, Nat.add_zero] at hr0
      refine walkR_load hr0 (HK.out.drew.range 0 (by omega)).2 Tryz.row16 (by rw [List.length_map]; exact HK.out.key16 0 (by omega)) rfl rfl rfl rfl (fun K hK => ?_)
      go_simp; refine hK _ ?_; clear hK K
      refine walkR_call rfl rfl (by rfl) (fun K hK => ?_)
      go_simp
      refine (aboth_ok x (key ks 0) _ HX.out (HK.out.key16 0 (by omega))).mono ?_
      rintro e w9 ⟨rfl, hbel⟩
      rw [← HE.out]
      have HS := Lib.hid (HS.out.drew.later hbel)
      go_simp
      refine hK _ _ hbel ?_
      clear hK K hbel hc1 hr0
      refine walkR_free rfl rfl (by rfl) (fun K hK => ?_)
      refine (HS.out.get 0 rfl).opstore rfl rfl rfl Tryz.row16 (by rw [List.length_map]; exact zeros_length 16) (by rw [List.length_map]; exact dec_length _ _) (oneCell_B _) (fun w10 hb10 ho10 => hK _ _ ?_)
      clear hK K
      have hbel10 := below_only HS.out.bel ho10 (by omega)
      go_simp
      refine walkR_nil ?_
      go_wp2
      refine hb10.result rfl rfl rfl Tryz.row16 (by rw [List.length_map]; exact dec_length _ _) ⟨rfl, ?_⟩
      rw [HBB.out]
      exact hbel10

end Go.Proofs.YtbpghohkhngdfaaGreatDoor
/-
  append of any slice (empty or not) onto a row that the call owns: the new value owns both. No program.
-/
namespace Go.Mem
open Go.RowKit

section
variable {P : Program} {w : World}

theorem run_append_empty (base : Nat) (t ty e : TypeId) (i : TypeInfo) (size : Nat) (ht : P.underlying t = some (.slice e)) (hi : P.info? e = some i)
    (v : Value) (n : Nat) (xs : List Value) (hown : w.ownsRow base e size v n xs) (ao : Option Addr) (c : Nat) :
    (Builtin.append_ #[t, t] ty #[v, .slice ao 0 c]).run P w = .ok v w := by
  rcases hown.2 with ⟨rfl, rfl⟩ | ⟨g, cap, cur, rfl, _, _, hnc, _⟩
  · cases ao <;> simp [Builtin.append_, run_underlying ht, sizeOf, typeInfo, hi, Builtin.lenOf, Builtin.firstCells, loadCells, loadCellsFrom]
  · cases ao <;> simp [Builtin.append_, run_underlying ht, sizeOf, typeInfo, hi, Builtin.lenOf, Builtin.firstCells, hnc, storeCells, loadCells, loadCellsFrom]

theorem run_append_any (t ty : TypeId) (base : Nat) (e : TypeId) (i : TypeInfo) (z : Value) (bytes : Nat) (ht : P.underlying t = some (.slice e)) (hi : P.info? e = some i) (hz : i.zero = some z)
    (hsize : i.size = 1) (hby : i.bytes = bytes) (hzs : z.cells.size = 1)
    (v : Value) (n : Nat) (xs : List Value) (hown : w.ownsRow base e 1 v n xs)
    (ao : Option Addr) (m c : Nat) (news : List Value) (hl : news.length = m) (hlies : Lies w ao news) (h1 : ∀ u ∈ news, u.oneCell' = true)
    (h63 : n + m ≤ maxLen) (hbytes : (n + m) * bytes ≤ 140737488355328) (hbase : base ≤ w.heap.size) :
    ∃ v' w', (Builtin.append_ #[t, t] ty #[v, .slice ao m c]).run P w = .ok v' w' ∧ w'.ownsRow base e 1 v' (n + m) (xs ++ news) ∧ w.grownBy w' v.ownBlock := by
  by_cases hm : m = 0
  · subst hm
    obtain rfl : news = [] := List.eq_nil_of_length_eq_zero hl
    exact ⟨v, w, run_append_empty base t ty e i 1 ht hi v n xs hown ao c, by simpa using hown, World.grownBy.refl _ _⟩
  · have hne : news ≠ [] := by rintro rfl; simp at hl; omega
    obtain ⟨b, off, rfl, _, hc⟩ := hlies.at hne
    obtain ⟨g, cap, w', hr, ho, hg, _, _⟩ := run_append_lies w t ty base e i z 1 bytes ht hi hz hsize hby hzs (by decide) v n xs hown ⟨b, off, none⟩ m c news (by omega) hlies.news h1 (by omega) h63 hbytes hbase _ rfl
    exact ⟨_, w', hr, ho, hg⟩

theorem wp_append_any {o : Oper} {a : Act} {K : Act → World → Prop} {Q : Exit → Act → World → Prop} (s x : Operand) (t : TypeId)
    (ho : o.op = .call { callee := .builtin .append, args := #[s, x], argTypes := #[t, t] })
    (base : Nat) (e : TypeId) (i : TypeInfo) (z : Value) (bytes : Nat) (ht : P.underlying t = some (.slice e)) (hi : P.info? e = some i) (hz : i.zero = some z)
    (hsize : i.size = 1) (hby : i.bytes = bytes) (hzs : z.cells.size = 1)
    (v : Value) (n : Nat) (xs : List Value) (hs : a.eval s = v) (hown : w.ownsRow base e 1 v n xs)
    (ao : Option Addr) (m c : Nat) (news : List Value) (hx : a.eval x = .slice ao m c) (hl : news.length = m) (hlies : Lies w ao news) (h1 : ∀ u ∈ news, u.oneCell' = true)
    (h63 : n + m ≤ maxLen) (hbytes : (n + m) * bytes ≤ 140737488355328) (hbase : base ≤ w.heap.size)
    (h : ∀ v' w', w'.ownsRow base e 1 v' (n + m) (xs ++ news) → w.grownBy w' v.ownBlock → K (a.put o.dst v') w') : o.wp P a w K Q := by
  obtain ⟨v', w', hrun, h2, h3⟩ := run_append_any (P := P) t o.type base e i z bytes ht hi hz hsize hby hzs v n xs hown ao m c news hl hlies h1 h63 hbytes hbase
  unfold Oper.wp
  simp [execOp, ho, resolve, invoke, builtin, hs, hx, hrun, Result.andThen]
  exact h _ _ h2 h3

theorem wpList_append_any {ops : Array Oper} {rest : List Oper} {o : Oper} {a : Act} {Q : Exit → Act → World → Prop} (hgd : o.guard = none) (s x : Operand) (t : TypeId)
    (ho : o.op = .call { callee := .builtin .append, args := #[s, x], argTypes := #[t, t] })
    (base : Nat) (e : TypeId) (i : TypeInfo) (z : Value) (bytes : Nat) (ht : P.underlying t = some (.slice e)) (hi : P.info? e = some i) (hz : i.zero = some z)
    (hsize : i.size = 1) (hby : i.bytes = bytes) (hzs : z.cells.size = 1)
    (v : Value) (n : Nat) (xs : List Value) (hs : a.eval s = v) (hown : w.ownsRow base e 1 v n xs)
    (ao : Option Addr) (m c : Nat) (news : List Value) (hx : a.eval x = .slice ao m c) (hl : news.length = m) (hlies : Lies w ao news) (h1 : ∀ u ∈ news, u.oneCell' = true)
    (h63 : n + m ≤ maxLen) (hbytes : (n + m) * bytes ≤ 140737488355328) (hbase : base ≤ w.heap.size)
    (h : ∀ v' w', w'.ownsRow base e 1 v' (n + m) (xs ++ news) → w.grownBy w' v.ownBlock → wpList P ops Q rest (a.put o.dst v') w') : wpList P ops Q (o :: rest) a w :=
  wpList_plain hgd fun _ hK => wp_append_any s x t ho base e i z bytes ht hi hz hsize hby hzs v n xs hs hown ao m c news hx hl hlies h1 h63 hbytes hbase fun v' w' h2 h3 => hK _ _ (h v' w' h2 h3)

theorem below_append {B : Nat} {a w' : World} {base : Nat} {e : TypeId} {size : Nat} {v : Value} {n : Nat} {xs : List Value} (h : Below B a w) (hown : w.ownsRow base e size v n xs) (hg : w.grownBy w' v.ownBlock) (hb : B ≤ base) (hB : B ≤ w.heap.size) : Below B a w' :=
  h.grown hg hB (fun k hk => Nat.le_trans hb (hown.lt k hk).1)

theorem own_below {w w' : World} {base : Nat} {e : TypeId} {size : Nat} {v : Value} {n : Nat} {xs : List Value} (h : w.ownsRow base e size v n xs) (hb : Below w.heap.size w w') : w'.ownsRow base e size v n xs := by
  refine ⟨h.1, h.2.imp id ?_⟩
  rintro ⟨g, cap, cur, hv, hg, hh, rest⟩
  exact ⟨g, cap, cur, hv, hg, by rw [hb.block g (Array.getElem?_eq_some_iff.1 hh).1]; exact hh, rest⟩

theorem nil_owns (w : World) (base : Nat) (e : TypeId) (size : Nat) : w.ownsRow base e size (.slice none 0 0) 0 [] := ⟨by simp, .inl ⟨rfl, rfl⟩⟩

theorem B_one (xs : List UInt8) : ∀ u ∈ xs.map B, u.oneCell' = true := by
  intro u hu
  simp only [List.mem_map] at hu
  obtain ⟨x, _, rfl⟩ := hu
  rfl
end
end Go.Mem
/-
  A slice literal whose elements are arrays by value. No program.
-/
namespace Go.Cells
set_option linter.unusedVariables false
open Go.RowKit Go.Mem Go.Ops

theorem fold_set : ∀ (cs : List Value) (k off : Nat) (A : List Value), off + k + cs.length ≤ A.length →
    (cs.zipIdx k).foldl (fun (acc : Array Value) (p : Value × Nat) => acc.setIfInBounds (off + p.2) p.1) A.toArray = (A.take (off + k) ++ cs ++ A.drop (off + k + cs.length)).toArray
  | [], k, off, A, _ => by simp
  | c :: r, k, off, A, h => by
    rw [List.length_cons] at h
    rw [List.zipIdx_cons, List.foldl_cons]
    simp only [List.setIfInBounds_toArray]
    rw [fold_set r (k + 1) off (A.set (off + k) c) (by rw [List.length_set]; omega)]
    congr 1
    rw [List.drop_set_of_lt (by omega), List.length_cons, show off + (k + 1) + r.length = off + k + (r.length + 1) by omega]
    congr 1
    rw [show off + (k + 1) = (off + k) + 1 by omega, List.take_add_one, List.take_set_of_le (by omega)]
    simp [show off + k < A.length by omega]

theorem fill_rows (n : Nat) : ∀ (vs : List (List Value)) (k : Nat) (A : List Value), (∀ v ∈ vs, v.length = n) → (k + vs.length) * n ≤ A.length →
    Instr.fill (fun i => some (i * n, n)) A.toArray ((vs.zipIdx k).map fun p => (p.2, Value.agg p.1.toArray)) = some (A.take (k * n) ++ vs.flatten ++ A.drop ((k + vs.length) * n)).toArray
  | [], k, A, _, _ => by simp [Instr.fill]
  | v :: r, k, A, hv, h => by
    have hn := hv v (by simp)
    have hle : k * n + n ≤ A.length := by
      have : (k + (v :: r).length) * n = k * n + n + r.length * n := by rw [List.length_cons, Nat.add_mul, Nat.add_mul, Nat.one_mul]; omega
      omega
    rw [List.zipIdx_cons, List.map_cons]
    unfold Instr.fill
    have e : (Value.agg v.toArray).cells = v.toArray := rfl
    simp only [e, List.size_toArray, hn]
    rw [if_neg (by simp; omega)]
    have hf := fold_set v 0 (k * n) A (by omega)
    simp only [Nat.add_zero] at hf
    have hz : v.toArray.zipIdx.foldl (fun (cs : Array Value) (p : Value × Nat) => cs.setIfInBounds (k * n + p.2) p.1) A.toArray = (A.take (k * n) ++ v ++ A.drop (k * n + v.length)).toArray := by
      rw [← hf]
      simp
    rw [hz, fill_rows n r (k + 1) _ (fun u hu => hv u (List.mem_cons_of_mem _ hu)) (by
      rw [List.length_append, List.length_append, List.length_take, List.length_drop, hn, Nat.min_eq_left (by omega)]
      have : (k + (v :: r).length) * n = (k + 1 + r.length) * n := by rw [List.length_cons]; congr 1; omega
      omega)]
    congr 2
    have h1 : (k + 1) * n = k * n + n := by rw [Nat.add_mul, Nat.one_mul]
    have h2 : (k + (v :: r).length) * n = k * n + n + r.length * n := by rw [List.length_cons, Nat.add_mul, Nat.add_mul, Nat.one_mul]; omega
    have h3 : (k + 1 + r.length) * n = k * n + n + r.length * n := by rw [Nat.add_mul, h1]
    have hl : (A.take (k * n) ++ v).length = k * n + n := by rw [List.length_append, List.length_take, hn, Nat.min_eq_left (by omega)]
    rw [h1, h2, h3, List.take_append, List.drop_append, hl, List.take_of_length_le (by omega), Nat.sub_self, List.take_zero, List.append_nil, List.drop_eq_nil_of_le (by omega), List.nil_append, List.drop_drop, hn, List.flatten_cons]
    simp only [List.append_assoc]
    congr 3
    congr 1
    omega

theorem run_buildRows {P : Program} (w : World) (t e : TypeId) (n m : Nat) (z : Value) (vs : List (List Value)) (parts : Array (Nat × Value)) (ht : P.underlying t = some (.slice e)) (hs : (P.info? e).map (fun i => (i.zero, i.size)) = some (some z, n)) (hz : z.cells.size = n)
    (hn : 0 < n) (hm : vs.length = m) (hm0 : 0 < m) (hb : m * n ≤ 16777216) (hv : ∀ v ∈ vs, v.length = n) (hp : parts = ((vs.zipIdx 0).map fun p => (p.2, Value.agg p.1.toArray)).toArray) :
    (Instr.buildSlice t m parts).run P w = .ok (.slice (some ⟨w.heap.size, 0, none⟩) m m) (w.alloc (.cells vs.flatten.toArray e)) := by
  cases hq : P.info? e with
  | none => rw [hq] at hs; cases hs
  | some x =>
    rw [hq] at hs
    simp only [Option.map_some, Option.some.injEq, Prod.mk.injEq] at hs
    obtain ⟨h1, h2⟩ := hs
    have h0 : m * n ≠ 0 := Nat.mul_ne_zero (by omega) (by omega)
    have hf := fill_rows n vs 0 ((List.range (m * n)).map (z.cells[· % z.cells.size]!)) hv (by simp [hm])
    have hA : ((Array.range (m * n)).map (z.cells[· % z.cells.size]!)) = ((List.range (m * n)).map (z.cells[· % z.cells.size]!)).toArray := by
      rw [← List.toArray_range, List.map_toArray]
    have hlen : ((List.range (m * n)).map (z.cells[· % z.cells.size]!)).length = m * n := by simp
    rw [Nat.zero_mul, List.take_zero, List.nil_append, Nat.zero_add, hm, List.drop_eq_nil_of_le (by omega), List.append_nil] at hf
    subst hp
    simp [Instr.buildSlice, run_underlying ht, sizeOf, typeInfo, hq, h2, h0, show ¬ (16777216 < m * n) by omega, zeroValue, h1, newRow]
    rw [hA, hf]
    rfl

/-- At a plain region's operation. -/
theorem wpList_rows {P : Program} {w : World} {ops : Array Oper} {rest : List Oper} {o : Oper} {a : Act} {Q : Exit → Act → World → Prop} (t e : TypeId) (n m : Nat) (z : Value) (vs : List (List Value)) {parts : Array (Nat × Operand)}
    (hgd : o.guard = none) (ho : o.op = .buildSlice t m parts) (hp' : (parts.toList.map fun p => (p.1, a.eval p.2)) = (vs.zipIdx 0).map fun p => (p.2, Value.agg p.1.toArray)) (ht : P.underlying t = some (.slice e)) (hs : (P.info? e).map (fun i => (i.zero, i.size)) = some (some z, n)) (hz : z.cells.size = n)
    (hn : 0 < n) (hm : vs.length = m) (hm0 : 0 < m) (hb : m * n ≤ 16777216) (hv : ∀ v ∈ vs, v.length = n)
    (k : ∀ w', Blk w' w.heap.size vs.flatten e → Below w.heap.size w w' → wpList P ops Q rest (a.put o.dst (.slice (some ⟨w.heap.size, 0, none⟩) m m)) w') : wpList P ops Q (o :: rest) a w := by
  refine wpList_plain hgd fun K hK => ?_
  have hp : (parts.map fun (i, x) => (i, a.eval x)) = ((vs.zipIdx 0).map fun p => (p.2, Value.agg p.1.toArray)).toArray := by
    apply Array.toList_inj.1
    rw [Array.toList_map]
    exact hp'
  have hk := k _ (Blk.new w vs.flatten e) (later_alloc w _)
  have hrun := run_buildRows (P := P) w t e n m z vs _ ht hs hz hn hm hm0 hb hv hp
  unfold Oper.wp execOp
  simp only [ho, Sem.run_bind, hrun, Result.andThen_ok, Sem.run_pure]
  exact hK _ _ hk

theorem oprows {P : Program} {w : World} {o : Oper} {a : Act} {K : Act → World → Prop} {Q : Exit → Act → World → Prop} (t e : TypeId) (n m : Nat) (z : Value) (vs : List (List Value)) {parts : Array (Nat × Operand)}
    (ho : o.op = .buildSlice t m parts) (hp' : (parts.toList.map fun p => (p.1, a.eval p.2)) = (vs.zipIdx 0).map fun p => (p.2, Value.agg p.1.toArray)) (ht : P.underlying t = some (.slice e)) (hs : (P.info? e).map (fun i => (i.zero, i.size)) = some (some z, n)) (hz : z.cells.size = n)
    (hn : 0 < n) (hm : vs.length = m) (hm0 : 0 < m) (hb : m * n ≤ 16777216) (hv : ∀ v ∈ vs, v.length = n)
    (k : ∀ w', Blk w' w.heap.size vs.flatten e → Below w.heap.size w w' → K (a.put o.dst (.slice (some ⟨w.heap.size, 0, none⟩) m m)) w') : o.wp P a w K Q := by
  have hp : (parts.map fun (i, x) => (i, a.eval x)) = ((vs.zipIdx 0).map fun p => (p.2, Value.agg p.1.toArray)).toArray := by
    apply Array.toList_inj.1
    rw [Array.toList_map]
    exact hp'
  have hk := k _ (Blk.new w vs.flatten e) (later_alloc w _)
  have hrun := run_buildRows (P := P) w t e n m z vs _ ht hs hz hn hm hm0 hb hv hp
  unfold Oper.wp execOp
  simp only [ho, Sem.run_bind, hrun, Result.andThen_ok, Sem.run_pure]
  exact hk

end Go.Cells
