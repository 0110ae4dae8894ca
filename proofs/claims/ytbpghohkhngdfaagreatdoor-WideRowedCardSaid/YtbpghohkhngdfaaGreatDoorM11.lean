/-
  Texts of this claim, one behind the other: BlakeB BlakeC ScopeM.
-/
import Derived.Test.YtbpghohkhngdfaaGreatDoorM10
import Derived.Test.YtbpghohkhngdfaaGreatDoorM8
import Derived.Test.YtbpghohkhngdfaaGreatDoorM9
import Derived.Test.YtbpghohkhngdfaaGreatDoorM5
import Derived.Laws.Externs
import GoSem.Extern.MathBitsCarry
/-
  The walk of blake: a block compressed.
-/
namespace Go.Proofs.YtbpghohkhngdfaaGreatDoor
open Go.RowKit Go.Mem Go.Ops Go.Cells Go.Oct Go.Blake
set_option linter.unusedSimpArgs false
set_option linter.unusedVariables false
set_option maxRecDepth 100000
attribute [local irreducible] walkR walkP walk0 walkB walkK
instance (b : Nat) (w : World) : Nonempty (AfterK (Only b) w) := ⟨⟨w, Only.refl b w⟩⟩

/-- blake's variables. -/
structure BGlob (w : World) : Prop where
  first : Blk w 2 (firstB.map L) (tyAt w 2)
  rows : Blk w 3 (rowsB.map B) (tyAt w 3)
theorem BGlob.below {w w' : World} (h : BGlob w) (hb : Below w.heap.size w w') : BGlob w' := by
  have e1 : tyAt w' 2 = tyAt w 2 := by unfold tyAt; rw [hb.block _ h.first.lt]
  have e2 : tyAt w' 3 = tyAt w 3 := by unfold tyAt; rw [hb.block _ h.rows.lt]
  exact ⟨by rw [e1]; exact h.first.below hb h.first.lt, by rw [e2]; exact h.rows.below hb h.rows.lt⟩

theorem Tryz.row8L : Row Tryz.prog 207 8 := ⟨by kernel_rfl, by kernel_rfl⟩
theorem Tryz.row16L : Row Tryz.prog 263 16 := ⟨by kernel_rfl, by kernel_rfl⟩
theorem Tryz.row128 : Row Tryz.prog 302 128 := ⟨by kernel_rfl, by kernel_rfl⟩
def zerosL (n : Nat) : List UInt64 := List.replicate n 0
theorem zerosL_length (n : Nat) : (zerosL n).length = n := by simp [zerosL]
theorem Tryz.zero8L : (Tryz.prog.info? 207).map (·.zero) = some (some (.agg ((zerosL 8).map L).toArray)) := by kernel_rfl
theorem Tryz.zero16L : (Tryz.prog.info? 263).map (·.zero) = some (some (.agg ((zerosL 16).map L).toArray)) := by kernel_rfl
theorem not64_eq (x : UInt64) : xor64 (UInt64.ofNat 18446744073709551615) x = not64 x := by
  unfold xor64 not64
  rw [show UInt64.ofNat 18446744073709551615 = -1 from rfl, UInt64.neg_one_xor]
theorem oneCell_L (l : List UInt64) : ∀ v ∈ l.map L, v.oneCell' = true := by
  intro v hv
  obtain ⟨x, _, rfl⟩ := List.mem_map.1 hv
  rfl

/-- The sixteen numbers at the start, of which i pairs are laid. -/
def startTo (h : List UInt64) (i : Nat) : List UInt64 := (List.range 16).map fun k => if k % 8 < i then startAt h k else 0
theorem startTo_length (h : List UInt64) (i : Nat) : (startTo h i).length = 16 := by simp [startTo]
theorem startTo_zero (h : List UInt64) : startTo h 0 = zerosL 16 := by
  apply List.ext_getElem?; intro k
  by_cases hk : k < 16
  · unfold startTo zerosL
    rw [List.getElem?_map, List.getElem?_range hk, List.getElem?_replicate, if_pos hk]
    rfl
  · rw [List.getElem?_eq_none (by rw [startTo_length]; omega), List.getElem?_eq_none (by rw [zerosL_length]; omega)]
theorem startTo_full (h : List UInt64) : startTo h 8 = start0 h := by
  unfold startTo start0
  apply List.map_congr_left
  intro k _
  rw [if_pos (Nat.mod_lt _ (by omega))]
theorem startTo_step (h : List UInt64) {i : Nat} (hi : i < 8) : ((startTo h i).set i (at64 h i)).set (i + 8) (at64 firstB i) = startTo h (i + 1) := by
  apply List.ext_getElem?; intro k
  by_cases hk : k < 16
  · rw [List.getElem?_set, List.getElem?_set]
    have e : ∀ j, (startTo h j)[k]? = some (if k % 8 < j then startAt h k else 0) := fun j => by simp [startTo, hk]
    rw [e, e, List.length_set, startTo_length]
    by_cases h1 : i + 8 = k
    · subst h1
      rw [if_pos rfl, if_pos hk, if_pos (by omega)]
      unfold startAt
      rw [if_neg (by omega), Nat.add_sub_cancel]
    · rw [if_neg h1]
      by_cases h2 : i = k
      · subst h2
        rw [if_pos rfl, if_pos hk, if_pos (by omega)]
        unfold startAt
        rw [if_pos hi]
      · rw [if_neg h2]
        by_cases h3 : k % 8 < i
        · rw [if_pos h3, if_pos (by omega)]
        · rw [if_neg h3, if_neg (by omega)]
  · rw [List.getElem?_eq_none (by simp [startTo_length]; omega), List.getElem?_eq_none (by rw [startTo_length]; omega)]
/-- The eight numbers, of which i are made. -/
def outTo (h v : List UInt64) (i : Nat) : List UInt64 := (List.range 8).map fun k => if k < i then outAt h v k else at64 h k
theorem outTo_length (h v : List UInt64) (i : Nat) : (outTo h v i).length = 8 := by simp [outTo]
theorem outTo_zero {h : List UInt64} (v : List UInt64) (hh : h.length = 8) : outTo h v 0 = h := by
  apply List.ext_getElem?; intro k
  by_cases hk : k < 8
  · rw [at64_get (l := h) (by omega)]
    simp [outTo, hk]
  · rw [List.getElem?_eq_none (by rw [outTo_length]; omega), List.getElem?_eq_none (by omega)]
theorem outTo_full (h v : List UInt64) : outTo h v 8 = (List.range 8).map (outAt h v) := by
  unfold outTo
  apply List.map_congr_left
  intro k hk
  rw [if_pos (by simpa using hk)]
theorem outTo_at (h v : List UInt64) {i : Nat} (hi : i < 8) : (outTo h v i)[i]? = some (at64 h i) := by simp [outTo, hi]
theorem outTo_step (h v : List UInt64) {i : Nat} (hi : i < 8) : (outTo h v i).set i (outAt h v i) = outTo h v (i + 1) := by
  apply List.ext_getElem?; intro k
  by_cases hk : k < 8
  · rw [List.getElem?_set]
    have e : ∀ j, (outTo h v j)[k]? = some (if k < j then outAt h v k else at64 h k) := fun j => by simp [outTo, hk]
    rw [e, e, outTo_length]
    by_cases h2 : i = k
    · subst h2
      rw [if_pos rfl, if_pos hk, if_pos (by omega)]
    · rw [if_neg h2]
      by_cases h3 : k < i
      · rw [if_pos h3, if_pos (by omega)]
      · rw [if_neg h3, if_neg (by omega)]
  · rw [List.getElem?_eq_none (by simp [outTo_length]; omega), List.getElem?_eq_none (by rw [outTo_length]; omega)]

abbrev CompL (bb b1 b2 b3 b4 b5 : Nat) (tf tr : TypeId) (blk : List UInt8) (lo hi : UInt64) (h m v : List UInt64) : List (Nat × List Value × TypeId) :=
  [(b5, v.map L, 263), (b4, m.map L, 263), (b3, (zerosL 8).map L, 207), (b2, [L lo, L hi], 284), (b1, blk.map B, 302), (bb, h.map L, 207), (2, firstB.map L, tf), (3, rowsB.map B, tr)]
def stir8 (m : List UInt64) (row : List UInt8) (v : List UInt64) : List UInt64 := stirGo m row v 8
theorem rowB_at {r i : Nat} (hr : r < 10) (hi : i < 16) : (rowB r)[i]? = some (at8 (rowB r) i) := at8_get (by rw [rowB_length hr]; exact hi)

set_option maxHeartbeats 1000000 in
theorem compress_ok (h : List UInt64) (blk : List UInt8) (lo up : UInt64) (w : World) (hh : h.length = 8) (hk : blk.length = 128) (hg : BGlob w) :
    Calls Tryz.prog 239 #[.agg (h.map L).toArray, .agg (blk.map B).toArray, .agg #[L lo, L up], .bool true] w fun e w' => e = .returned (.agg ((compress h blk lo up true).map L).toArray) ∧ Below w.heap.size w w' := by
  have HH := Lib.hid hh
  have HHM := Lib.hid (show (h.map L).length = 8 by rw [List.length_map]; exact hh)
  have HK := Lib.hid hk
  have HG := Lib.hid hg
  have hgf := hg.first.lt
  have hgr := hg.rows.lt
  have HS := Lib.hid (((St.start w).add hg.rows).add hg.first)
  clear hh hk hg
  go_enter Tryz.func239, Tryz.ntmps239
  go_wp2_with (refine wpList_box 207 _ (h.map L) _ rfl rfl rfl rfl ?_)
  intro w1 hb hbel; have HS := Lib.hid (HS.out.push hb hbel); have hlt1 := hb.lt; clear hb hbel
  go_wp2_with (refine wpList_box 302 _ (blk.map B) _ rfl rfl rfl rfl ?_)
  intro w2 hb hbel; have HS := Lib.hid (HS.out.push hb hbel); have hlt2 := hb.lt; clear hb hbel
  go_wp2_with (refine wpList_box 284 _ ([L lo, L up]) _ rfl rfl rfl rfl ?_)
  intro w3 hb hbel; have HS := Lib.hid (HS.out.push hb hbel); have hlt3 := hb.lt; clear hb hbel
  go_wp2_with (refine wpList_var 207 ((zerosL 8).map L) _ rfl rfl Tryz.zero8L rfl ?_)
  intro w4 hb hbel; have HS := Lib.hid (HS.out.push hb hbel); have hlt4 := hb.lt; clear hb hbel
  go_wp2_with (refine wpList_var 263 ((zerosL 16).map L) _ rfl rfl Tryz.zero16L rfl ?_)
  intro w5 hb hbel; have HS := Lib.hid (HS.out.push hb hbel); have hlt5 := hb.lt; clear hb hbel
  go_wp2_with (refine wpList_var 263 ((zerosL 16).map L) _ rfl rfl Tryz.zero16L rfl ?_)
  intro w6 hb hbel; have HS := Lib.hid (HS.out.push hb hbel); have hlt6 := hb.lt; clear hb hbel
  generalize tyAt w 2 = tf at *
  generalize tyAt w 3 = tr at *
  generalize hbb : w.heap.size = bb at *
  generalize w1.heap.size = bw1 at *
  generalize w2.heap.size = bw2 at *
  generalize w3.heap.size = bw3 at *
  generalize w4.heap.size = bw4 at *
  generalize w5.heap.size = bw5 at *
  have HBB := Lib.hid hbb
  clear hbb
  have HS := Lib.hid (show St w bb w6 (CompL bb bw1 bw2 bw3 bw4 bw5 tf tr blk lo up h (zerosL 16) (zerosL 16)) from HS.out)
  go_wp2
  go_loopw [17] (fun c wr => ∃ (i : Nat) (l : List UInt64), i ≤ 16 ∧ c = .int .i64 i ∧ Hid (Filled (fun k => longL blk (8 * k)) 16 i l) ∧ Hid (St w bb wr (CompL bb bw1 bw2 bw3 bw4 bw5 tf tr blk lo up h l (zerosL 16)))) (fun c _ => 16 - (intOf c).toNat)
  case atStart => exact ⟨0, zerosL 16, by omega, rfl, Filled.zero (zerosL_length 16), HS⟩
  case round =>
    clear HS
    obtain ⟨i, l, hi, rfl, HF, HS⟩ := hrel
    by_cases hlt : i < 16
    · obtain ⟨j, hj⟩ : ∃ j, j = 8 * i := ⟨_, rfl⟩
      have e1 : (8 : Int) * (i : Int) = (j : Int) := by omega
      have hj8 : j ≤ 128 := by omega
      obtain ⟨x0, hx0⟩ := HF.out.at hlt
      have HX := Lib.hid hx0
      have HF2 := Lib.hid (HF.out.step hlt)
      have HF2 := Lib.hid (show Filled (fun k => longL blk (8 * k)) 16 (i + 1) (l.set i (longL blk j)) by rw [hj]; exact HF2.out)
      clear hj hx0
      go_wp2_with fail
      refine (long_ok (some ⟨bw1, 0, none⟩) 128 128 j blk _ HK.out (by omega) (by omega) (HS.out.get 4 rfl).lies).mono ?_
      rintro e w7 ⟨rfl, hbel7⟩
      have HS := Lib.hid (HS.out.later hbel7)
      generalize longL blk j = x at *
      clear hbel7
      go_wp2_with (refine (HS.out.get 1 rfl).wset (v := L x) (i := i) rfl rfl rfl rfl Tryz.sizeLong rfl rfl (by rw [List.length_map, HF.out.1]; exact hlt) ?_)
      intro w8 hb8 ho8
      rw [mapL_set] at hb8
      have HS := Lib.hid (show St w bb w8 (CompL bb bw1 bw2 bw3 bw4 bw5 tf tr blk lo up h (l.set i x) (zerosL 16)) from HS.out.change 1 hb8 ho8 (by omega) (by simp; omega))
      clear hb8 ho8
      go_wp2
      go_roundw
      case rel => exact ⟨i + 1, _, by omega, by go_num, HF2, HS⟩
      case measure => simp [intOf]; omega
    · obtain rfl : i = 16 := by omega
      have hm := HF.out.all
      have HS := Lib.hid (show St w bb wr (CompL bb bw1 bw2 bw3 bw4 bw5 tf tr blk lo up h (numbers blk) (startTo h 0)) by rw [startTo_zero, numbers, ← hm]; exact HS.out)
      clear hm HF
      go_wp2
      simp only [Int.cast_ofNat_Int]
      go_loopw [27] (fun c wr => ∃ i : Nat, i ≤ 8 ∧ c = .int .i64 i ∧ Hid (St w bb wr (CompL bb bw1 bw2 bw3 bw4 bw5 tf tr blk lo up h (numbers blk) (startTo h i)))) (fun c _ => 8 - (intOf c).toNat)
      case atStart => exact ⟨0, by omega, rfl, HS⟩
      case round =>
        clear HS
        obtain ⟨i, hi, rfl, HS⟩ := hrel
        by_cases hlt : i < 8
        · have hc1 := fun (x : AfterK (Only bw5) wr.drew) => ((HS.out.drew.get 5 rfl).only x.rel (by omega)).cell i _ (mapL_at (at64_get (l := h) (i := i) (by rw [HH.out]; exact hlt)))
          have hc2 := fun (x : AfterK (Only bw5) wr.drew) => ((HS.out.drew.get 6 rfl).only x.rel (by omega)).cell i _ (mapL_at (at64_get (l := firstB) (i := i) (by exact hlt)))
          have HST := Lib.hid (startTo_step h hlt)
          go_wp2_with fail
          refine wp_region_K (Only bw5) [] [(0, true), (1, true), (2, true), (3, true), (4, true), (5, true), (6, true), (7, true), (8, true), (9, true), (10, false), (11, true), (12, false)] (Only.refl _) (fun _ _ _ h k => h.trans k) (by kernel_rfl) (by kernel_rfl) ?_
          rintro w7 rfl
          (refine walkK_one rfl rfl (fun K hK => ?_); go_big_quiet_step (fail); refine wpQuiet_nil (hK _ ?_); clear hK K); (refine walkK_one rfl rfl (fun K hK => ?_); go_big_quiet_step (fail); refine wpQuiet_nil (hK _ ?_); clear hK K); (refine walkK_one rfl rfl (fun K hK => ?_); go_big_quiet_step (fail); refine wpQuiet_nil (hK _ ?_); clear hK K); (refine walkK_one rfl rfl (fun K hK => ?_); go_big_quiet_step (fail); refine wpQuiet_nil (hK _ ?_); clear hK K); (refine walkK_one rfl rfl (fun K hK => ?_); go_big_quiet_step (fail); refine wpQuiet_nil (hK _ ?_); clear hK K); (refine walkK_one rfl rfl (fun K hK => ?_); go_big_quiet_step (fail); refine wpQuiet_nil (hK _ ?_); clear hK K); (refine walkK_one rfl rfl (fun K hK => ?_); go_big_quiet_step (fail); refine wpQuiet_nil (hK _ ?_); clear hK K); (refine walkK_one rfl rfl (fun K hK => ?_); go_big_quiet_step (fail); refine wpQuiet_nil (hK _ ?_); clear hK K); (refine walkK_one rfl rfl (fun K hK => ?_); go_big_quiet_step (fail); refine wpQuiet_nil (hK _ ?_); clear hK K); (refine walkK_one rfl rfl (fun K hK => ?_); go_big_quiet_step (fail); refine wpQuiet_nil (hK _ ?_); clear hK K)
          clear hc1 hc2
          refine walkK_free rfl (by rfl) (fun K hK => ?_)
          refine (HS.out.drew.get 0 rfl).opset (v := L (at64 h i)) rfl rfl rfl Tryz.sizeLong rfl rfl (by rw [List.length_map, startTo_length]; omega) (fun w8 hb8 ho8 => hK _ _ (fun _ => ho8) ?_)
          clear hK K
          rw [mapL_set] at hb8
          have HS := Lib.hid (show St w bb w8 (CompL bb bw1 bw2 bw3 bw4 bw5 tf tr blk lo up h (numbers blk) ((startTo h i).set i (at64 h i))) from HS.out.drew.change 0 hb8 ho8 (by omega) (by simp; omega))
          clear hb8 ho8
          go_simp
          (refine walkK_one rfl rfl (fun K hK => ?_); go_big_quiet_step (fail); refine wpQuiet_nil (hK _ ?_); clear hK K)
          refine walkK_free rfl (by rfl) (fun K hK => ?_)
          refine (HS.out.get 0 rfl).opset (v := L (at64 firstB i)) rfl rfl rfl Tryz.sizeLong rfl rfl (by rw [List.length_map, List.length_set, startTo_length]; omega) (fun w9 hb9 ho9 => hK _ _ (fun _ => ho9) ?_)
          clear hK K
          rw [mapL_set, HST.out] at hb9
          have HS := Lib.hid (show St w bb w9 (CompL bb bw1 bw2 bw3 bw4 bw5 tf tr blk lo up h (numbers blk) (startTo h (i + 1))) from HS.out.change 0 hb9 ho9 (by omega) (by simp; omega))
          clear hb9 ho9
          go_simp
          refine walkK_nil ?_
          go_wp2
          go_roundw
          case rel => exact ⟨i + 1, by omega, by go_num, HS⟩
          case measure => simp [intOf]; omega
        · obtain rfl : i = 8 := by omega
          rw [startTo_full] at HS
          have hc12 := (HS.out.get 0 rfl).cell 12 _ (mapL_at (at64_get (l := start0 h) (i := 12) (by rw [start0_length]; omega)))
          have hcl := (HS.out.get 3 rfl).cell 0 _ rfl
          go_wp2_with (refine (HS.out.get 0 rfl).wset (v := L (xor64 (at64 (start0 h) 12) lo)) (i := 12) rfl rfl rfl rfl Tryz.sizeLong rfl rfl (by rw [List.length_map, start0_length]; omega) ?_)
          intro w8 hb8 ho8
          rw [mapL_set] at hb8
          obtain ⟨v1, hv1⟩ : ∃ v1, v1 = (start0 h).set 12 (xor64 (at64 (start0 h) 12) lo) := ⟨_, rfl⟩
          rw [← hv1] at hb8
          have HS := Lib.hid (show St w bb w8 (CompL bb bw1 bw2 bw3 bw4 bw5 tf tr blk lo up h (numbers blk) v1) from HS.out.change 0 hb8 ho8 (by omega) (by simp; omega))
          have HL1 := Lib.hid (show v1.length = 16 by rw [hv1, List.length_set]; exact start0_length h)
          have HV1 := Lib.hid hv1
          clear hb8 ho8 hc12 hcl hv1
          have hc13 := (HS.out.get 0 rfl).cell 13 _ (mapL_at (at64_get (l := v1) (i := 13) (by rw [HL1.out]; omega)))
          have hch := (HS.out.get 3 rfl).cell 1 _ rfl
          go_wp2_with (refine (HS.out.get 0 rfl).wset (v := L (xor64 (at64 v1 13) up)) (i := 13) rfl rfl rfl rfl Tryz.sizeLong rfl rfl (by rw [List.length_map, HL1.out]; omega) ?_)
          intro w9 hb9 ho9
          rw [mapL_set] at hb9
          have hv2 : v1.set 13 (xor64 (at64 v1 13) up) = start2 h lo up := by rw [HV1.out]; rfl
          rw [hv2] at hb9
          have HS := Lib.hid (show St w bb w9 (CompL bb bw1 bw2 bw3 bw4 bw5 tf tr blk lo up h (numbers blk) (start2 h lo up)) from HS.out.change 0 hb9 ho9 (by omega) (by simp; omega))
          clear hb9 ho9 hc13 hch hv2 HL1 HV1
          have hc14 := (HS.out.get 0 rfl).cell 14 _ (mapL_at (at64_get (l := start2 h lo up) (i := 14) (by rw [start2_length]; omega)))
          have HS14 := Lib.hid (show (start2 h lo up).set 14 (not64 (at64 (start2 h lo up) 14)) = startB h lo up true from rfl)
          have hsg : IntKind.u64.signed = false := rfl
          have hmx : IntKind.u64.max = 18446744073709551615 := by decide
          have HN14 := Lib.hid (show xor64 18446744073709551615 (at64 (start2 h lo up) 14) = not64 (at64 (start2 h lo up) 14) from not64_eq _)
          go_wp2_with (refine (HS.out.get 0 rfl).wset (v := L (xor64 (UInt64.ofNat 18446744073709551615) (at64 (start2 h lo up) 14))) (i := 14) rfl rfl rfl rfl Tryz.sizeLong rfl rfl (by rw [List.length_map, start2_length]; omega) ?_)
          intro w10 hb10 ho10
          rw [mapL_set, HN14.out, HS14.out] at hb10
          have HS := Lib.hid (show St w bb w10 (CompL bb bw1 bw2 bw3 bw4 bw5 tf tr blk lo up h (numbers blk) (startB h lo up true)) from HS.out.change 0 hb10 ho10 (by omega) (by simp; omega))
          clear hb10 ho10 hc14 HS14 hsg hmx HN14
          have HCE := Lib.hid (show compress h blk lo up true = (List.range 8).map (outAt h (roundGo (numbers blk) (startB h lo up true) 12)) ∧ True from ⟨rfl, trivial⟩)
          have HML := Lib.hid (numbers_length blk)
          have HVL := Lib.hid (startB_length h lo up true)
          generalize startB h lo up true = sv at *
          generalize numbers blk = ms at *
          go_wp2
          try simp only [Int.cast_ofNat_Int]
          go_loopw [59] (fun c wr => ∃ r : Nat, r ≤ 12 ∧ c = .int .i64 r ∧ Hid (St w bb wr (CompL bb bw1 bw2 bw3 bw4 bw5 tf tr blk lo up h ms (roundGo ms sv r)))) (fun c _ => 12 - (intOf c).toNat)
          case atStart => exact ⟨0, by omega, rfl, HS⟩
          case round =>
            clear HS
            obtain ⟨r, hr, rfl, HS⟩ := hrel
            by_cases hlt : r < 12
            · obtain ⟨q, hq⟩ : ∃ q, q = r % 10 := ⟨_, rfl⟩
              have e1 : (r : Int) % 10 = (q : Int) := by omega
              have hq10 : q < 10 := by omega
              have HQ := Lib.hid (show stir8 ms (rowB q) (roundGo ms sv r) = roundGo ms sv (r + 1) ∧ True from ⟨by rw [hq]; rfl, trivial⟩)
              have HVR := Lib.hid (show (roundGo ms sv r).length = 16 by rw [roundGo_length]; exact HVL.out)
              clear hq
              generalize roundGo ms sv r = vr at *
              have HRR := Lib.hid (Blk.rangeIn (HS.out.get 7 rfl) (q * 16) 16 ((rowB q).map B) (by rw [← List.map_drop, ← List.map_take, Nat.mul_comm]; rfl))
              have HRL := Lib.hid (show ((rowB q).map B).length = 16 by rw [List.length_map]; exact rowB_length hq10)
              go_wp2_with (first | (refine wpList_load_mid rfl 52 (.tmp 64) rfl 3 (q * 16) rfl _ _ HRR.out Tryz.underlying52 rfl (by rw [HRL.out]; exact Tryz.row16.2) ?_) | (refine wpList_var 52 ((zeros 16).map B) _ rfl rfl Tryz.zero16 rfl ?_))
              intro w11 hb hbel
              have hz5 := (HS.out.get 0 rfl).lt
              have HS := Lib.hid (HS.out.push hb hbel)
              have hlt11 := hb.lt
              clear hb hbel HRR
              generalize wr.heap.size = bk at *
              go_wp2_with (refine (HS.out.get 0 rfl).wstore rfl rfl rfl rfl Tryz.row16 (by simp [zeros_length]) HRL.out (oneCell_B _) ?_)
              intro w12 hb12 ho12
              have HS := Lib.hid (show St w bb w12 ((bk, (rowB q).map B, 52) :: CompL bb bw1 bw2 bw3 bw4 bw5 tf tr blk lo up h ms vr) from HS.out.change 0 hb12 ho12 (by omega) (by simp; omega))
              clear hb12 ho12
              go_wp2
              go_loopw [66] (fun c ws => ∃ i : Nat, i ≤ 8 ∧ c = .int .i64 i ∧ Hid (St w bb ws ((bk, (rowB q).map B, 52) :: CompL bb bw1 bw2 bw3 bw4 bw5 tf tr blk lo up h ms (stirGo ms (rowB q) vr i)))) (fun c _ => 8 - (intOf c).toNat)
              case atStart => exact ⟨0, by omega, rfl, HS⟩
              case round =>
                clear HS
                obtain ⟨i, hi, rfl, HS⟩ := hrel
                by_cases hlt2 : i < 8
                · obtain ⟨i4, hi4⟩ : ∃ q, q = i % 4 := ⟨_, rfl⟩
                  obtain ⟨iq, hiq⟩ : ∃ q, q = i / 4 := ⟨_, rfl⟩
                  obtain ⟨j, hj⟩ : ∃ q, q = 2 * i := ⟨_, rfl⟩
                  have f1 : (i : Int) % 4 = (i4 : Int) := by omega
                  have f2 : (i : Int) / 4 = (iq : Int) := by omega
                  have f3 : (2 : Int) * (i : Int) = (j : Int) := by omega
                  have hj2 : j + 1 < 16 := by omega
                  have g4 : i4 < 4 := by omega
                  have g2 : iq < 2 := by omega
                  have HST := Lib.hid (show stirB (stirGo ms (rowB q) vr i) i4 iq (at64 ms (at8 (rowB q) j).toNat) (at64 ms (at8 (rowB q) (j + 1)).toNat) = stirGo ms (rowB q) vr (i + 1) ∧ True from ⟨by rw [hi4, hiq, hj]; rfl, trivial⟩)
                  have HVI := Lib.hid (show (stirGo ms (rowB q) vr i).length = 16 by rw [stirGo_length]; exact HVR.out)
                  have hx1 := rowB_small q hq10 j (by omega)
                  have hx2 := rowB_small q hq10 (j + 1) (by omega)
                  have hc1 := fun (x : AfterK (Below wr.heap.size) wr.drew) => ((HS.out.drew.later x.rel).get 0 rfl).cell j _ (mapB_at (rowB_at hq10 (i := j) (by omega)))
                  have hc2 := fun (x : AfterK (Below wr.heap.size) wr.drew) => ((HS.out.drew.later x.rel).get 0 rfl).cell (j + 1) _ (mapB_at (rowB_at hq10 (i := j + 1) (by omega)))
                  have hc3 := fun (x : AfterK (Below wr.heap.size) wr.drew) => ((HS.out.drew.later x.rel).get 2 rfl).cell (at8 (rowB q) j).toNat _ (mapL_at (at64_get (l := ms) (i := (at8 (rowB q) j).toNat) (by rw [HML.out]; omega)))
                  have hc4 := fun (x : AfterK (Below wr.heap.size) wr.drew) => ((HS.out.drew.later x.rel).get 2 rfl).cell (at8 (rowB q) (j + 1)).toNat _ (mapL_at (at64_get (l := ms) (i := (at8 (rowB q) (j + 1)).toNat) (by rw [HML.out]; omega)))
                  generalize at8 (rowB q) j = x1 at *
                  generalize at8 (rowB q) (j + 1) = x2 at *
                  generalize stirGo ms (rowB q) vr i = vi at *
                  clear hi4 hiq hj
                  go_wp2_with fail
                  refine wp_region_K (Below wr.heap.size) [17] [(0, true), (1, true), (2, true), (3, true), (4, true), (5, true), (6, true), (7, true), (8, true), (9, true), (10, true), (11, true), (12, true), (13, true), (14, true), (15, true), (16, true), (17, false)] (Below.refl _) (fun _ _ _ h k => h.trans k) (by kernel_rfl) (by kernel_rfl) ?_
                  rintro w13 rfl
                  (refine walkK_one rfl rfl (fun K hK => ?_); go_big_quiet_step (fail); refine wpQuiet_nil (hK _ ?_); clear hK K); (refine walkK_one rfl rfl (fun K hK => ?_); go_big_quiet_step (fail); refine wpQuiet_nil (hK _ ?_); clear hK K); (refine walkK_one rfl rfl (fun K hK => ?_); go_big_quiet_step (fail); refine wpQuiet_nil (hK _ ?_); clear hK K); (refine walkK_one rfl rfl (fun K hK => ?_); go_big_quiet_step (fail); refine wpQuiet_nil (hK _ ?_); clear hK K); (refine walkK_one rfl rfl (fun K hK => ?_); go_big_quiet_step (fail); refine wpQuiet_nil (hK _ ?_); clear hK K); (refine walkK_one rfl rfl (fun K hK => ?_); go_big_quiet_step (fail); refine wpQuiet_nil (hK _ ?_); clear hK K); (refine walkK_one rfl rfl (fun K hK => ?_); go_big_quiet_step (fail); refine wpQuiet_nil (hK _ ?_); clear hK K); (refine walkK_one rfl rfl (fun K hK => ?_); go_big_quiet_step (fail); refine wpQuiet_nil (hK _ ?_); clear hK K); (refine walkK_one rfl rfl (fun K hK => ?_); go_big_quiet_step (fail); refine wpQuiet_nil (hK _ ?_); clear hK K); (refine walkK_one rfl rfl (fun K hK => ?_); go_big_quiet_step (fail); refine wpQuiet_nil (hK _ ?_); clear hK K); (refine walkK_one rfl rfl (fun K hK => ?_); go_big_quiet_step (fail); refine wpQuiet_nil (hK _ ?_); clear hK K); (refine walkK_one rfl rfl (fun K hK => ?_); go_big_quiet_step (fail); refine wpQuiet_nil (hK _ ?_); clear hK K); (refine walkK_one rfl rfl (fun K hK => ?_); go_big_quiet_step (fail); refine wpQuiet_nil (hK _ ?_); clear hK K); (refine walkK_one rfl rfl (fun K hK => ?_); go_big_quiet_step (fail); refine wpQuiet_nil (hK _ ?_); clear hK K); (refine walkK_one rfl rfl (fun K hK => ?_); go_big_quiet_step (fail); refine wpQuiet_nil (hK _ ?_); clear hK K); (refine walkK_one rfl rfl (fun K hK => ?_); go_big_quiet_step (fail); refine wpQuiet_nil (hK _ ?_); clear hK K); (refine walkK_one rfl rfl (fun K hK => ?_); go_big_quiet_step (fail); refine wpQuiet_nil (hK _ ?_); clear hK K)
                  clear hc1 hc2 hc3 hc4
                  refine walkK_free rfl (by rfl) (fun K hK => ?_)
                  go_simp
                  refine (stir_ok bw5 i4 iq (at64 ms x1.toNat) (at64 ms x2.toNat) vi _ (HS.out.drew.get 1 rfl) HVI.out g4 g2).mono ?_
                  rintro e w14 ⟨⟨v14, rfl⟩, hb14, ho14⟩
                  rw [HST.out.1] at hb14
                  have HS := Lib.hid (show St w bb w14 ((bk, (rowB q).map B, 52) :: CompL bb bw1 bw2 bw3 bw4 bw5 tf tr blk lo up h ms (stirGo ms (rowB q) vr (i + 1))) from HS.out.drew.change 1 hb14 ho14 (by omega) (by simp; omega))
                  clear hb14 ho14
                  go_simp
                  refine hK _ _ (fun hno => absurd hno (by decide)) ?_
                  clear hK K
                  refine walkK_nil ?_
                  go_wp2
                  go_roundw
                  case rel => exact ⟨i + 1, by omega, by go_num, HS⟩
                  case measure => simp [intOf]; omega
                · obtain rfl : i = 8 := by omega
                  have HS := Lib.hid HS.out.tail
                  rw [show stirGo ms (rowB q) vr 8 = roundGo ms sv (r + 1) from HQ.out.1] at HS
                  go_wp2
                  go_roundw
                  case rel => exact ⟨r + 1, by omega, by go_num, HS⟩
                  case measure => simp [intOf]; omega
            · obtain rfl : r = 12 := by omega
              have HV12 := Lib.hid (show (roundGo ms sv 12).length = 16 by rw [roundGo_length]; exact HVL.out)
              generalize roundGo ms sv 12 = v12 at *
              have HS := Lib.hid (show St w bb wr (CompL bb bw1 bw2 bw3 bw4 bw5 tf tr blk lo up (outTo h v12 0) ms v12) by rw [outTo_zero v12 HH.out]; exact HS.out)
              rw [← outTo_full] at HCE
              have HHO := Lib.hid HHM.out
              go_wp2
              try simp only [Int.cast_ofNat_Int]
              go_loopw [89] (fun c wr => ∃ i : Nat, i ≤ 8 ∧ c = .int .i64 i ∧ Hid (St w bb wr (CompL bb bw1 bw2 bw3 bw4 bw5 tf tr blk lo up (outTo h v12 i) ms v12))) (fun c _ => 8 - (intOf c).toNat)
              case atStart => exact ⟨0, by omega, rfl, HS⟩
              case round =>
                clear HS
                obtain ⟨i, hi, rfl, HS⟩ := hrel
                by_cases hlt2 : i < 8
                · have HST := Lib.hid (outTo_step h v12 hlt2)
                  have hc1 := fun (x : After wr.drew) => ((HS.out.drew.later x.later).get 5 rfl).cell i _ (mapL_at (outTo_at h v12 hlt2))
                  have hc2 := fun (x : After wr.drew) => ((HS.out.drew.later x.later).get 0 rfl).cell i _ (mapL_at (at64_get (l := v12) (i := i) (by rw [HV12.out]; omega)))
                  have hc3 := fun (x : After wr.drew) => ((HS.out.drew.later x.later).get 0 rfl).cell (i + 8) _ (mapL_at (at64_get (l := v12) (i := i + 8) (by rw [HV12.out]; omega)))
                  go_wp2_with fail
                  refine wp_region_R [0, 1, 2, 3, 4, 5, 6, 7, 8, 9, 10, 11, 12, 13] (by kernel_rfl) (by kernel_rfl) ?_
                  rintro w15 rfl
                  repeat (refine walkR_one rfl rfl (fun K hK => ?_); go_big_quiet_step (fail); refine wpQuiet_nil (hK _ ?_); clear hK K)
                  clear hc1 hc2 hc3
                  refine walkR_free rfl rfl (by rfl) (fun K hK => ?_)
                  refine (HS.out.drew.get 5 rfl).opset (v := L (outAt h v12 i)) rfl rfl rfl Tryz.sizeLong rfl rfl (by rw [List.length_map, outTo_length]; omega) (fun w16 hb16 ho16 => hK _ _ ?_)
                  clear hK K
                  rw [mapL_set, HST.out] at hb16
                  have HS := Lib.hid (show St w bb w16 (CompL bb bw1 bw2 bw3 bw4 bw5 tf tr blk lo up (outTo h v12 (i + 1)) ms v12) from HS.out.drew.change 5 hb16 ho16 (by omega) (by simp; omega))
                  clear hb16 ho16
                  go_simp
                  refine walkR_nil ?_
                  go_wp2
                  go_roundw
                  case rel => exact ⟨i + 1, by omega, by go_num, HS⟩
                  case measure => simp [intOf]; omega
                · obtain rfl : i = 8 := by omega
                  have HO8 := Lib.hid (show ((outTo h v12 8).map L).length = 8 by rw [List.length_map]; exact outTo_length _ _ _)
                  go_wp2_with (first | (refine (HS.out.get 5 rfl).wload rfl rfl rfl Tryz.row8L HO8.out ?_) | (refine (HS.out.get 2 rfl).wstore rfl rfl rfl rfl Tryz.row8L (by simp [zerosL_length]) HO8.out (oneCell_L _) ?_))
                  intro w17 hb17 ho17
                  have hbel17 := below_only HS.out.bel ho17 (by omega)
                  go_wp2
                  refine hb17.result rfl rfl rfl Tryz.row8L HO8.out ⟨by rw [HCE.out.1], ?_⟩
                  rw [HBB.out]
                  exact hbel17

end Go.Proofs.YtbpghohkhngdfaaGreatDoor
/-
  The walks of blake: the last block.
-/
namespace Go.Cells
open Go.RowKit
/-- What the block held ahead may have changed; what else there was has not. -/
structure OnlyB (b : Nat) (w w' : World) : Prop where
  os : w'.os = w.os
  tape : w'.tape = w.tape
  output : w'.output = w.output
  size : w.heap.size ≤ w'.heap.size
  block : ∀ k, k < w.heap.size → k ≠ b → w'.heap[k]? = w.heap[k]?
theorem OnlyB.refl (b : Nat) (w : World) : OnlyB b w w := ⟨rfl, rfl, rfl, Nat.le_refl _, fun _ _ _ => rfl⟩
theorem OnlyB.trans {b : Nat} {u v w : World} (h : OnlyB b u v) (k : OnlyB b v w) : OnlyB b u w :=
  ⟨k.os.trans h.os, k.tape.trans h.tape, k.output.trans h.output, Nat.le_trans h.size k.size, fun i hi hne => (k.block i (Nat.lt_of_lt_of_le hi h.size) hne).trans (h.block i hi hne)⟩
theorem OnlyB.of_below {b : Nat} {w w' : World} (h : Below w.heap.size w w') : OnlyB b w w' := ⟨h.os, h.tape, h.output, h.size, fun k hk _ => h.block k hk⟩
theorem OnlyB.of_only {b : Nat} {w w' : World} (h : Only b w w') : OnlyB b w w' := ⟨h.os, h.tape, h.output, by rw [h.size]; exact Nat.le_refl _, fun k _ hne => h.block k hne⟩
theorem OnlyB.drew {b : Nat} {w w' : World} (h : OnlyB b w w') : OnlyB b w w'.drew := ⟨h.os, h.tape, h.output, h.size, h.block⟩
theorem OnlyB.other {b c : Nat} {u v w : World} (h : OnlyB b u v) (k : Only c v w) (hc : u.heap.size ≤ c) : OnlyB b u w :=
  ⟨k.os.trans h.os, k.tape.trans h.tape, k.output.trans h.output, by rw [k.size]; exact h.size, fun i hi hne => (k.block i (by omega)).trans (h.block i hi hne)⟩
theorem Blk.onlyB {w w' : World} {b c : Nat} {vs : List Value} {ty : TypeId} (h : Blk w c vs ty) (ho : OnlyB b w w') (hne : c ≠ b) : Blk w' c vs ty := (ho.block c h.lt hne).trans h
theorem below_onlyB {B b : Nat} {u w w' : World} (h : Below B u w) (ho : OnlyB b w w') (hb : B ≤ b) (hB : B ≤ w.heap.size) : Below B u w' :=
  ⟨ho.os.trans h.os, ho.tape.trans h.tape, ho.output.trans h.output, Nat.le_trans h.size ho.size, fun k hk => (ho.block k (Nat.lt_of_lt_of_le hk hB) (by omega)).trans (h.block k hk)⟩
theorem Blk.wstoreAt {P : Program} {w : World} {b o n : Nat} {vs : List Value} {ty' : TypeId} (h : Blk w b vs ty') {ops : Array Oper} {rest : List Oper} {op : Oper} {a : Act} {Q : Exit → Act → World → Prop} {ty : TypeId} {x y : Operand} {cs : List Value}
    (hgd : op.guard = none) (ho : op.op = .store ty x y) (hx : a.eval x = .pointer (some ⟨b, o, none⟩)) (hy : a.eval y = .agg cs.toArray) (hr : Row P ty n) (hc : cs.length = n) (hfit : o + n ≤ vs.length) (h1 : ∀ v ∈ cs, v.oneCell' = true)
    (k : ∀ w', Blk w' b (vs.take o ++ cs ++ vs.drop (o + cs.length)) ty' → Only b w w' → wpList P ops Q rest (a.put op.dst undef) w') : wpList P ops Q (op :: rest) a w := by
  obtain ⟨d, hu, hd, hi⟩ := hr.open
  refine wpList_store_mid hgd ty x y ho b o cs.toArray hx hy (h.there o _ (by rw [List.size_toArray]; omega)) (by rw [hi]; simp [hc]) (all_oneCell_toArray h1) ?_
  exact k (w.setCells b o cs) (Blk.setCells cs vs o w (by omega) h) (Only.setCells b cs o w)
theorem Blk.opstoreAt {P : Program} {w : World} {b o n : Nat} {vs : List Value} {ty' : TypeId} (h : Blk w b vs ty') {op : Oper} {a : Act} {K : Act → World → Prop} {Q : Exit → Act → World → Prop} {ty : TypeId} {x y : Operand} {cs : List Value}
    (ho : op.op = .store ty x y) (hx : a.eval x = .pointer (some ⟨b, o, none⟩)) (hy : a.eval y = .agg cs.toArray) (hr : Row P ty n) (hc : cs.length = n) (hfit : o + n ≤ vs.length) (h1 : ∀ v ∈ cs, v.oneCell' = true)
    (k : ∀ w', Blk w' b (vs.take o ++ cs ++ vs.drop (o + cs.length)) ty' → Only b w w' → K (a.put op.dst undef) w') : op.wp P a w K Q := by
  obtain ⟨d, hu, hd, hi⟩ := hr.open
  refine wp_store_mid ty x y ho b o cs.toArray hx hy (h.there o _ (by rw [List.size_toArray]; omega)) (by rw [hi]; simp [hc]) (all_oneCell_toArray h1) ?_
  exact k (w.setCells b o cs) (Blk.setCells cs vs o w (by omega) h) (Only.setCells b cs o w)
end Go.Cells
namespace Go.Proofs.YtbpghohkhngdfaaGreatDoor
open Go.RowKit Go.Mem Go.Ops Go.Cells Go.Oct Go.Blake
set_option linter.unusedSimpArgs false
set_option linter.unusedVariables false
set_option maxRecDepth 100000
attribute [local irreducible] walkR walkP walk0 walkB walkK

theorem run_carry (x : Int) (hx : 0 ≤ x ∧ x ≤ 18446744073709551615) (w : World) : (callFunc 251 #[.int .u64 0, .int .u64 x, .int .u64 0]).run Tryz.prog w = .ok (.value (.tuple #[.int .u64 x, .int .u64 0])) w := by
  rw [run_callFunc_extern Tryz.func251 (by kernel_rfl) (by kernel_rfl) (by kernel_rfl) (e := add64Entry) (by kernel_rfl), run_add64 0 x 0 (by omega) hx.1 (by omega) (by omega)]
  have e1 : (0 + x + 0) % 18446744073709551616 = x := by omega
  have e2 : (0 + x + 0) / 18446744073709551616 = 0 := by omega
  rw [e1, e2]
  rfl

theorem oneCell_ints (a b : Int) : ∀ v ∈ [Value.int .u64 a, .int .u64 b], v.oneCell' = true := by
  intro v hv
  simp at hv
  rcases hv with rfl | rfl <;> rfl

theorem plus0_ok (n : Nat) (w : World) (hn : n ≤ 1024) :
    Calls Tryz.prog 238 #[.agg #[.int .u64 0, .int .u64 0], .agg #[.int .u64 n, .int .u64 0]] w fun e w' => e = .returned (.agg #[.int .u64 n, .int .u64 0]) ∧ Below w.heap.size w w' := by
  have HS := Lib.hid (St.start w)
  have hr1 := fun w => run_carry (n : Int) (by omega) w
  have hr2 := fun w => run_carry 0 (by omega) w
  go_enter Tryz.func238, Tryz.ntmps238
  go_wp2_with (refine wpList_box 284 _ ([.int .u64 0, .int .u64 0]) _ rfl rfl rfl rfl ?_)
  intro w1 hb hbel; have HS := Lib.hid (HS.out.push hb hbel); have hlt1 := hb.lt; clear hb hbel
  go_wp2_with (refine wpList_box 284 _ ([.int .u64 n, .int .u64 0]) _ rfl rfl rfl rfl ?_)
  intro w2 hb hbel; have HS := Lib.hid (HS.out.push hb hbel); have hlt2 := hb.lt; clear hb hbel
  go_wp2_with (refine wpList_var 284 [.int .u64 0, .int .u64 0] _ rfl rfl Tryz.zeroWide rfl ?_)
  intro w3 hb hbel; have HS := Lib.hid (HS.out.push hb hbel); have hlt3 := hb.lt; clear hb hbel
  generalize hbb : w.heap.size = bb at *
  generalize w1.heap.size = bw1 at *
  generalize w2.heap.size = bw2 at *
  have HBB := Lib.hid hbb
  clear hbb
  have hc1 := (HS.out.get 2 rfl).cell 0 _ rfl
  have hc2 := (HS.out.get 1 rfl).cell 0 _ rfl
  have hc3 := (HS.out.get 2 rfl).cell 1 _ rfl
  have hc4 := (HS.out.get 1 rfl).cell 1 _ rfl
  go_wp2_with (refine (HS.out.get 0 rfl).wstore rfl rfl rfl (cs := [.int .u64 n, .int .u64 0]) rfl Tryz.rowWide rfl rfl (oneCell_ints _ _) ?_)
  intro w4 hb4 ho4
  have hbel4 := below_only HS.out.bel ho4 (by omega)
  go_wp2
  refine hb4.result rfl rfl rfl Tryz.rowWide rfl ⟨rfl, ?_⟩
  rw [HBB.out]
  exact hbel4

/-- A hash in memory, of 48 bytes of sum. -/
def hashV (h : List UInt64) (n : Nat) (rest : Value) : List Value := h.map L ++ [.int .u64 n, .int .u64 0, rest, .int .i64 48]
theorem hashV_length {h : List UInt64} (hl : h.length = 8) (n : Nat) (r : Value) : (hashV h n r).length = 12 := by simp [hashV, hl]
theorem hashV_0 {h : List UInt64} (hl : h.length = 8) (n : Nat) (r : Value) : ((hashV h n r).drop 0).take 8 = h.map L := by simp [hashV, hl]
theorem hashV_8 {h : List UInt64} (hl : h.length = 8) (n : Nat) (r : Value) : ((hashV h n r).drop 8).take 2 = [.int .u64 n, .int .u64 0] := by simp [hashV, hl, List.drop_append]
theorem hashV_10 {h : List UInt64} (hl : h.length = 8) (n : Nat) (r : Value) : (hashV h n r)[10]? = some r := by simp [hashV, hl, List.getElem?_append_right]
theorem hashV_11 {h : List UInt64} (hl : h.length = 8) (n : Nat) (r : Value) : (hashV h n r)[11]? = some (.int .i64 48) := by simp [hashV, hl, List.getElem?_append_right]
theorem hashV_set0 {h h' : List UInt64} (hl : h.length = 8) (hl' : h'.length = 8) (n : Nat) (r : Value) : (hashV h n r).take 0 ++ h'.map L ++ (hashV h n r).drop (0 + (h'.map L).length) = hashV h' n r := by
  simp [hashV, hl, hl', List.drop_append]
theorem hashV_set8 {h : List UInt64} (hl : h.length = 8) (n m : Nat) (r : Value) : (hashV h n r).take 8 ++ .int .u64 m :: .int .u64 0 :: (hashV h n r).drop 10 = hashV h m r := by
  simp [hashV, hl, List.drop_append, List.take_append]
theorem hashV_set10 {h : List UInt64} (hl : h.length = 8) (n : Nat) (r s : Value) : (hashV h n r).set 10 s = hashV h n s := by
  simp [hashV, hl, List.set_append_right]

theorem Tryz.zero128 : (Tryz.prog.info? 302).map (·.zero) = some (some (.agg ((zeros 128).map B).toArray)) := by kernel_rfl
theorem splice_pad (b : List UInt8) (h : b.length ≤ 128) : splice ((zeros 128).map B) 0 (b.map B) = (padTo 128 b).map B := by
  unfold splice padTo
  rw [List.take_zero, List.nil_append, Nat.zero_add, List.length_map, List.map_append, ← List.map_drop]
  congr 2
  show List.drop _ (List.replicate 128 (0 : UInt8)) = List.replicate _ 0
  rw [List.drop_replicate]
theorem padTo_length (b : List UInt8) (h : b.length ≤ 128) : (padTo 128 b).length = 128 := by simp [padTo, zeros]; omega

theorem BGlob.only {w w' : World} {c : Nat} (h : BGlob w) (ho : Only c w w') (hc : 2 ≠ c ∧ 3 ≠ c) : BGlob w' := by
  have e1 : tyAt w' 2 = tyAt w 2 := by unfold tyAt; rw [ho.block _ hc.1]
  have e2 : tyAt w' 3 = tyAt w 3 := by unfold tyAt; rw [ho.block _ hc.2]
  exact ⟨by rw [e1]; exact h.first.only ho hc.1, by rw [e2]; exact h.rows.only ho hc.2⟩
set_option maxHeartbeats 1000000 in
theorem hblock_ok (ph : Nat) (h : List UInt64) (r : Value) (ao : Option Addr) (n cap : Nat) (b : List UInt8) (w : World) (hp : Blk w ph (hashV h 0 r) 286) (hh : h.length = 8) (hn : b.length = n) (hn1 : n ≤ 128) (hl : Lies w ao (b.map B)) (hg : BGlob w) (hpf : 2 ≠ ph ∧ 3 ≠ ph) :
    Calls Tryz.prog 224 #[.pointer (some ⟨ph, 0, none⟩), .slice ao n cap, .int .i64 n, .bool true] w fun e w' => (∃ v, e = .returned v) ∧ Blk w' ph (hashV (compress h (padTo 128 b) (UInt64.ofNat n) 0 true) n r) 286 ∧ OnlyB ph w w' := by
  have HP := Lib.hid hp
  have HH := Lib.hid hh
  have HN := Lib.hid hn
  have HLN := Lib.hid hl
  have HG := Lib.hid hg
  have HPF := Lib.hid hpf
  have HGF := Lib.hid (And.intro hg.first.lt hg.rows.lt)
  have HO := Lib.hid (OnlyB.refl ph w)
  have HSP := Lib.hid (splice_pad b (by omega))
  have HPL := Lib.hid (padTo_length b (by omega))
  have hpl := hp.lt
  have HCN := Lib.hid (show (b.map B).length = Nat.min n 128 by rw [List.length_map, hn]; exact (Nat.min_eq_left hn1).symm)
  have HCF := Lib.hid (show 0 + (b.map B).length ≤ ((zeros 128).map B).length by rw [List.length_map, List.length_map, zeros_length]; omega)
  clear hp hh hn hl hg hpf
  go_enter Tryz.func224, Tryz.ntmps224
  go_wp2_with (refine wpList_var 302 ((zeros 128).map B) _ rfl rfl Tryz.zero128 rfl ?_)
  intro w1 hb1 hbel1
  have hlt1 := hb1.lt
  have HP := Lib.hid (HP.out.below hbel1 HP.out.lt)
  have HLN := Lib.hid (HLN.out.below hbel1)
  have HG := Lib.hid (HG.out.below hbel1)
  have HO := Lib.hid (HO.out.trans (OnlyB.of_below hbel1))
  have HB := Lib.hid hb1
  clear hb1 hbel1
  generalize hbo : w.heap.size = bo at *
  have HBO := Lib.hid hbo
  clear hbo
  go_wp2_with (refine HB.out.wcopy 0 (b.map B) rfl rfl rfl rfl Tryz.underlying22 Tryz.sizeByte (fun _ => rfl) HLN.out HCN.out HCF.out (oneCell_B b) ?_)
  intro w2 hb2 ho2
  rw [HSP.out] at hb2
  have HP := Lib.hid (HP.out.only ho2 (by omega))
  have HG := Lib.hid (HG.out.only ho2 (by have := HGF.out; have := HBO.out; omega))
  have HO := Lib.hid (HO.out.other ho2 (by rw [HBO.out]; exact Nat.le_refl _))
  have HB := Lib.hid hb2
  clear hb2 ho2 HSP HCN HCF HLN
  have HR8 := Lib.hid (Blk.rangeIn HP.out 8 2 _ (hashV_8 HH.out 0 r))
  go_wp2_with (refine wpList_load_mid rfl 284 (.tmp 15) rfl ph 8 rfl _ _ HR8.out Tryz.underlying284 rfl Tryz.rowWide.2 ?_)
  go_wp2_with fail
  refine (plus0_ok n _ (by omega)).mono ?_
  rintro e w3 ⟨rfl, hbel3⟩
  have hlt3 := HB.out.lt
  have HP := Lib.hid (HP.out.below hbel3 HP.out.lt)
  have HB := Lib.hid (HB.out.below hbel3 HB.out.lt)
  have HG := Lib.hid (HG.out.below hbel3)
  have HO := Lib.hid (HO.out.trans (OnlyB.of_below hbel3))
  clear hbel3 HR8
  go_wp2_with (refine HP.out.wstoreAt (o := 8) (cs := [.int .u64 n, .int .u64 0]) rfl rfl rfl rfl Tryz.rowWide rfl (by rw [hashV_length HH.out]; omega) (oneCell_ints _ _) ?_)
  intro w4 hb4 ho4
  rw [hashV_set8 HH.out] at hb4
  have HB := Lib.hid (HB.out.only ho4 (by omega))
  have HG := Lib.hid (HG.out.only ho4 HPF.out)
  have HO := Lib.hid (HO.out.trans (OnlyB.of_only ho4))
  have HP := Lib.hid hb4
  clear hb4 ho4
  have HHM := Lib.hid (show (h.map L).length = 8 by rw [List.length_map]; exact HH.out)
  have HPM := Lib.hid (show ((padTo 128 b).map B).length = 128 by rw [List.length_map]; exact HPL.out)
  have HCM := Lib.hid (show ((compress h (padTo 128 b) (UInt64.ofNat n) 0 true).map L).length = 8 by rw [List.length_map]; exact compress_length _ _ _ _ _)
  have HLV := Lib.hid (show (Value.agg #[Value.int .u64 (n : Int), Value.int .u64 0]) = .agg #[L (UInt64.ofNat n), L 0] from by
    have : (UInt64.ofNat n).toNat = n := UInt64.toNat_ofNat_of_lt' (by show n < 18446744073709551616; omega)
    simp [L, this])
  go_wp2_with fail
  refine wp_region_R [0, 1, 2, 3, 4, 5, 6, 7, 8, 9, 10, 11, 12, 13, 14] (by kernel_rfl) (by kernel_rfl) ?_
  rintro w5 rfl
  (refine walkR_one rfl rfl (fun K hK => ?_); go_big_quiet_step (fail); refine wpQuiet_nil (hK _ ?_); clear hK K); (refine walkR_one rfl rfl (fun K hK => ?_); go_big_quiet_step (fail); refine wpQuiet_nil (hK _ ?_); clear hK K); (refine walkR_one rfl rfl (fun K hK => ?_); go_big_quiet_step (fail); refine wpQuiet_nil (hK _ ?_); clear hK K); (refine walkR_one rfl rfl (fun K hK => ?_); go_big_quiet_step (fail); refine wpQuiet_nil (hK _ ?_); clear hK K)
  refine walkR_load (Blk.rangeIn HP.out.drew 0 8 _ (hashV_0 HH.out n r)) HP.out.drew.lt Tryz.row8L HHM.out rfl rfl rfl rfl (fun K hK => ?_)
  go_simp; refine hK _ ?_; clear hK K
  refine walkR_load HB.out.drew.range HB.out.drew.lt Tryz.row128 HPM.out rfl rfl rfl rfl (fun K hK => ?_)
  go_simp; refine hK _ ?_; clear hK K
  (refine walkR_one rfl rfl (fun K hK => ?_); go_big_quiet_step (fail); refine wpQuiet_nil (hK _ ?_); clear hK K); (refine walkR_one rfl rfl (fun K hK => ?_); go_big_quiet_step (fail); refine wpQuiet_nil (hK _ ?_); clear hK K); (refine walkR_one rfl rfl (fun K hK => ?_); go_big_quiet_step (fail); refine wpQuiet_nil (hK _ ?_); clear hK K)
  refine walkR_load (Blk.rangeIn HP.out.drew 8 2 _ (hashV_8 HH.out n r)) HP.out.drew.lt Tryz.rowWide rfl rfl rfl rfl rfl (fun K hK => ?_)
  go_simp; refine hK _ ?_; clear hK K
  (refine walkR_one rfl rfl (fun K hK => ?_); go_big_quiet_step (fail); refine wpQuiet_nil (hK _ ?_); clear hK K)
  refine walkR_call rfl rfl (by rfl) (fun K hK => ?_)
  go_simp
  rw [HLV.out]
  refine (compress_ok h (padTo 128 b) (UInt64.ofNat n) 0 _ HH.out HPL.out (HG.out.below (Below.refl _ _).drew)).mono ?_
  rintro e w6 ⟨rfl, hbel6⟩
  have HP := Lib.hid (HP.out.drew.below hbel6 HP.out.lt)
  have HO := Lib.hid (HO.out.drew.trans (OnlyB.of_below hbel6))
  go_simp
  refine hK _ _ hbel6 ?_
  clear hK K hbel6
  repeat (refine walkR_one rfl rfl (fun K hK => ?_); go_big_quiet_step (fail); refine wpQuiet_nil (hK _ ?_); clear hK K)
  refine walkR_free rfl rfl (by rfl) (fun K hK => ?_)
  refine HP.out.opstoreAt (o := 0) (cs := (compress h (padTo 128 b) (UInt64.ofNat n) 0 true).map L) rfl rfl rfl Tryz.row8L HCM.out (by rw [hashV_length HH.out]; omega) (oneCell_L _) (fun w7 hb7 ho7 => hK _ _ ?_)
  clear hK K
  rw [hashV_set0 HH.out (compress_length _ _ _ _ _)] at hb7
  have HO := Lib.hid (HO.out.trans (OnlyB.of_only ho7))
  have HP := Lib.hid hb7
  clear hb7 ho7
  go_simp
  refine walkR_nil ?_
  go_wp2
  go_end0
  exact ⟨⟨_, rfl⟩, HP.out, HO.out⟩

end Go.Proofs.YtbpghohkhngdfaaGreatDoor
/-
  A scope with many labels, come to from ahead or by a jump: each stretch from a label to the next one is proved once. No program.
-/
namespace Go

/-- As Q; by a goto: J of its label. -/
def Exit.jumps (J : Nat → Act → World → Prop) (Q : Exit → Act → World → Prop) : Exit → Act → World → Prop
  | .goto l, a, w => J l a w
  | e, a, w => Q e a w

/-- The way to the next label. -/
def wpSeg (P : Program) (c : Code) (J : Nat → Act → World → Prop) (Q : Exit → Act → World → Prop) : Code → Act → World → Prop
  | .seq (.label l') y, a, w => afterLabel c l' = some y ∧ J l' a w
  | .seq x y, a, w => x.wp P (Exit.then (wpSeg P c J Q y) (Exit.jumps J Q)) a w
  | x, a, w => x.wp P (Exit.jumps J Q) a w

section
variable {P : Program} {a : Act} {w : World} {Q : Exit → Act → World → Prop}

theorem wp_scope_many {c : Code} (J : Nat → Act → World → Prop) (μ : Nat → Act → World → Nat)
    (first : c.wp P (Exit.jumps J Q) a w)
    (pass : ∀ l a w, J l a w → ∃ rest, findLabel c l = some rest ∧ rest.wp P (Exit.jumps (fun l' a' w' => J l' a' w' ∧ μ l' a' w' < μ l a w) Q) a w) : (Code.scope c).wp P Q a w := by
  intro b k cs
  have key : ∀ n l a w rest, μ l a w = n → J l a w → findLabel c l = some rest → ∃ e a' w', Q e a' w' ∧ Arrives P (lone (b.at a (.code rest :: .inScope c :: k)) cs w) b k cs e a' w' := by
    intro n
    induction n using Nat.strongRecOn with
    | _ n ih =>
      intro l a w rest hn hJ hf
      obtain ⟨rest', hf', hp⟩ := pass l a w hJ
      rw [hf] at hf'
      obtain rfl : rest = rest' := Option.some.inj hf'
      obtain ⟨e, a₁, w₁, hq, harr⟩ := hp b (.inScope c :: k) cs
      cases e with
      | normal => exact ⟨.normal, a₁, w₁, hq, Steps.trans harr (.one step_inScope)⟩
      | exit id => exact ⟨.exit id, a₁, w₁, hq, fun k' hk => harr k' (by simp [exitTo, hk])⟩
      | goto l' =>
        obtain ⟨hJ', hlt⟩ := hq
        obtain ⟨rest2, hf2, _⟩ := pass l' a₁ w₁ hJ'
        have hg : gotoIn l' (.inScope c :: k) = some (.code rest2 :: .inScope c :: k) := by simp [gotoIn, hf2]
        obtain ⟨e₂, a₂, w₂, hq₂, harr₂⟩ := ih _ (by omega) l' a₁ w₁ rest2 rfl hJ' hf2
        exact ⟨e₂, a₂, w₂, hq₂, .of_steps (harr _ hg) harr₂⟩
      | ret => exact ⟨_, a₁, w₁, hq, harr⟩
      | panic ch => exact ⟨_, a₁, w₁, hq, harr⟩
      | outgrown => exact ⟨_, a₁, w₁, hq, harr⟩
  obtain ⟨e, a₁, w₁, hq, harr⟩ := first b (.inScope c :: k) cs
  cases e with
  | normal => exact ⟨.normal, a₁, w₁, hq, .head step_scope (Steps.trans harr (.one step_inScope))⟩
  | exit id => exact ⟨.exit id, a₁, w₁, hq, fun k' hk => .head step_scope (harr k' (by simp [exitTo, hk]))⟩
  | goto l' =>
    obtain ⟨rest2, hf2, _⟩ := pass l' a₁ w₁ hq
    have hg : gotoIn l' (.inScope c :: k) = some (.code rest2 :: .inScope c :: k) := by simp [gotoIn, hf2]
    obtain ⟨e₂, a₂, w₂, hq₂, harr₂⟩ := key _ l' a₁ w₁ rest2 rfl hq hf2
    exact ⟨e₂, a₂, w₂, hq₂, .of_steps (.head step_scope (harr _ hg)) harr₂⟩
  | ret => exact ⟨_, a₁, w₁, hq, .of_steps (.one step_scope) harr⟩
  | panic ch => exact ⟨_, a₁, w₁, hq, .of_steps (.one step_scope) harr⟩
  | outgrown => exact ⟨_, a₁, w₁, hq, .of_steps (.one step_scope) harr⟩

theorem seg_to_wp {c : Code} {J : Nat → Act → World → Prop} (H : ∀ l a w y, J l a w → afterLabel c l = some y → y.wp P (Exit.jumps J Q) a w) : ∀ (z : Code) (a : Act) (w : World), wpSeg P c J Q z a w → z.wp P (Exit.jumps J Q) a w := by
  intro z
  induction z with
  | seq x y ihx ihy =>
    intro a w hp
    by_cases hl : ∃ l', x = .label l'
    · obtain ⟨l', rfl⟩ := hl
      simp only [wpSeg] at hp
      exact wp_seq (wp_label (H _ _ _ _ hp.2 hp.1))
    · have hp' : x.wp P (Exit.then (wpSeg P c J Q y) (Exit.jumps J Q)) a w := by
        cases x <;> first | exact hp | exact absurd ⟨_, rfl⟩ hl
      refine wp_seq (wp_mono hp' ?_)
      intro e a' w' hq
      cases e with
      | normal => exact ihy _ _ hq
      | _ => exact hq
  | _ => intro a w hp; exact hp

theorem wp_scope_labels {c : Code} (J : Nat → Act → World → Prop) (μ : Nat → Act → World → Nat) (first : wpSeg P c J Q c a w)
    (pass : ∀ l a w, J l a w → ∃ y, afterLabel c l = some y ∧ wpSeg P c (fun l' a' w' => J l' a' w' ∧ μ l' a' w' < μ l a w) Q y a w) : (Code.scope c).wp P Q a w := by
  have stage : ∀ n l a w y, μ l a w = n → J l a w → afterLabel c l = some y → y.wp P (Exit.jumps (fun l' a' w' => J l' a' w' ∧ μ l' a' w' < μ l a w) Q) a w := by
    intro n
    induction n using Nat.strongRecOn with
    | _ n ih =>
      intro l a w y hn hJ hy
      obtain ⟨y', hy', hs⟩ := pass l a w hJ
      rw [hy] at hy'
      obtain rfl : y = y' := Option.some.inj hy'
      refine seg_to_wp (fun l' a' w' z hJ' hz => ?_) y a w hs
      refine wp_mono (ih _ (by omega) l' a' w' z rfl hJ'.1 hz) ?_
      intro e a2 w2 hq
      cases e with
      | goto l2 => exact ⟨hq.1, Nat.lt_trans hq.2 hJ'.2⟩
      | _ => exact hq
  refine wp_scope_many J μ (seg_to_wp (fun l a w y hJ hy => ?_) c _ _ first) (fun l a w hJ => ?_)
  · refine wp_mono (stage _ l a w y rfl hJ hy) ?_
    intro e a2 w2 hq
    cases e with
    | goto l2 => exact hq.1
    | _ => exact hq
  · obtain ⟨y, hy, _⟩ := pass l a w hJ
    exact ⟨_, findLabel_after c l y hy, wp_seq (wp_skip (stage _ l a w y rfl hJ hy))⟩

@[go_sem] theorem Exit.jumps_normal (J : Nat → Act → World → Prop) (a : Act) (w : World) : Exit.jumps J Q .normal a w = Q .normal a w := rfl
@[go_sem] theorem Exit.jumps_exit (J : Nat → Act → World → Prop) (id : Nat) (a : Act) (w : World) : Exit.jumps J Q (.exit id) a w = Q (.exit id) a w := rfl
@[go_sem] theorem Exit.jumps_ret (J : Nat → Act → World → Prop) (a : Act) (w : World) : Exit.jumps J Q .ret a w = Q .ret a w := rfl
@[go_sem] theorem Exit.jumps_goto (J : Nat → Act → World → Prop) (l : Nat) (a : Act) (w : World) : Exit.jumps J Q (.goto l) a w = J l a w := rfl
@[go_sem] theorem Exit.jumps_panic (J : Nat → Act → World → Prop) (ch : List PanicEntry) (a : Act) (w : World) : Exit.jumps J Q (.panic ch) a w = Q (.panic ch) a w := rfl

end
end Go
