/-
  The walk of the law that the bytes of all parts are the message.
-/
import Derived.Test.YtkgckhmfhpnoaaaCutR
import Derived.Test.YtkgckhmfhpnoaaaCutZ
import Derived.Test.YtkgckhmfhpnoaaaRegionB
import Derived.Test.YtkgckhmfhpnoaaaAppend
import Derived.ProofKit
import Derived.IntWalk
import Derived.WalkSmall
namespace Go.Proofs.Ytkgckhmfhpnoaaa
open Go.RowKit Go.Fl Go.Mem Go.Ops Go.CutP Go.BigFrame
set_option linter.unusedSimpArgs false
attribute [local irreducible] walkB

theorem whole_facts (alg : Int) (len : Nat) (herr : (partsL alg len).2 = 0) :
    (alg = 3 ∧ len < 32 → sumL (partsL alg len).1 = 2 * len) ∧ (¬(alg = 3 ∧ len < 32) → sumL (partsL alg len).1 = len) := by
  obtain ⟨c1, c2, c3, c4⟩ := partsL_covers alg len herr
  have hf : (partsL alg len).1.any isFront = decide (alg = 3 ∧ len < 32) := by
    unfold partsL at herr ⊢
    repeat' split at herr
    all_goals first | (exfalso; simp at herr; done) | skip
    · rename_i a1 a2 a3 h1
      rw [if_neg a1, if_neg a2, if_neg a3, if_pos h1]
      have : ¬ (alg = 3 ∧ len < 32) := by omega
      simp [isFront, this]
    · rename_i a1 a2 a3 h1 h2
      rw [if_neg a1, if_neg a2, if_neg a3, if_neg h1, if_pos h2]
      have : ¬ (alg = 3 ∧ len < 32) := by omega
      simp [isFront, this]
    · rename_i a1 a2 a3 h1 h2 h3
      rw [if_neg a1, if_neg a2, if_neg a3, if_neg h1, if_neg h2, if_pos h3]
      have : alg = 3 ∧ len < 32 := by omega
      simp [isFront, this]
    · rename_i a1 a2 a3 h1 h2 h3
      rw [if_neg a1, if_neg a2, if_neg a3, if_neg h1, if_neg h2, if_neg h3]
      have : ¬ (alg = 3 ∧ len < 32) := by omega
      rw [Int.toNat_natCast, (contig_long len (by omega)).2.2]
      simp [this]
  rw [hf] at c2
  constructor
  · intro h; rw [c2, decide_eq_true h]; simp
  · intro h; rw [c2, decide_eq_false h]; simp

theorem whole_same (alg : Int) (len : Nat) (h : alg = 3 ∧ len < 32) (k : Nat) (p : Part) (hp : (partsL alg len).1[k]? = some p) : p.2.2 = len := by
  obtain ⟨rfl, h⟩ := h
  unfold partsL at hp
  repeat' split at hp
  all_goals first | (exfalso; simp at hp; done) | omega | skip
  all_goals
    match k with
    | 0 => simp at hp; subst hp; simp
    | 1 => simp at hp; subst hp; simp
    | k + 2 => simp at hp

theorem whole_far (alg : Int) (ao : Option Addr) (len cap : Nat) (w : World) (hm : len ≤ 9223372036854775807) (h : 300 < len) :
    Calls Try.prog 9 #[.int .i64 alg, .slice ao len cap] w fun e w' => e = .returned (.bool true) ∧ Below w.heap.size w w' := by
  go_enter Try.func9, Try.ntmps9
  go_wp2
  go_ret
  exact ⟨rfl, Below.refl _ _⟩

theorem whole_none (alg : Int) (ao : Option Addr) (len cap : Nat) (w : World) (h300 : len ≤ 300) (herr : (partsL alg len).2 ≠ 0) :
    Calls Try.prog 9 #[.int .i64 alg, .slice ao len cap] w fun e w' => e = .returned (.bool true) ∧ Below w.heap.size w w' := by
  have hp := parts_any alg (len : Int) w (by omega) (by omega)
  generalize (partsL alg len).1 = L at *
  generalize (partsL alg len).2 = err at *
  have HP := Lib.hid hp
  clear hp
  go_enter Try.func9, Try.ntmps9
  go_wp2_with fail
  refine HP.out.mono ?_
  rintro e w1 ⟨v1, rfl, hown1, hbel1⟩
  obtain ⟨ao1, cap1, rfl, _, _, _⟩ := own_form hown1
  go_wp2_with fail
  refine (awake_any _).mono ?_
  rintro e w3 ⟨rfl, hbel3⟩
  go_wp2
  go_ret
  exact ⟨rfl, hbel1.later (Nat.le_refl _) hbel3⟩

set_option maxRecDepth 100000 in
set_option maxHeartbeats 2000000 in
theorem whole_long (alg : Int) (ao : Option Addr) (len cap : Nat) (bs : List UInt8) (w : World) (hlen : bs.length = len) (hlc : len ≤ cap) (hl : Lies w ao (bs.map B)) (h300 : len ≤ 300) (herr : (partsL alg len).2 = 0) (hmode : ¬(alg = 3 ∧ len < 32)) :
    Calls Try.prog 9 #[.int .i64 alg, .slice ao len cap] w fun e w' => e = .returned (.bool true) ∧ Below w.heap.size w w' := by
  have hp := parts_any alg (len : Int) w (by omega) (by omega)
  obtain ⟨c1, _, _, _⟩ := partsL_covers alg len herr
  have hsum := (whole_facts alg len herr).2 hmode
  rw [herr] at hp
  clear herr
  generalize (partsL alg len).1 = L at *
  generalize hN : L.length = N at *
  have HP := Lib.hid hp
  have HC := Lib.hid c1
  have HN := Lib.hid hN
  have HSUM := Lib.hid hsum
  have HL := Lib.hid hl
  have HLEN := Lib.hid hlen
  have HNB := Lib.hid (show (nibs bs).length = 2 * len by rw [nibs_length, hlen])
  obtain ⟨i0, hi, hz0, hz1, hz2⟩ := info_parts Try.infoByte
  have HI := Lib.hid hi
  have HZ0 := Lib.hid hz0
  have HZ1 := Lib.hid hz1
  have HZ2 := Lib.hid hz2
  clear hp c1 hN hsum hl hlen hi hz0 hz1 hz2
  by_cases h3 : alg = 3
  all_goals
    first | have h32 : 32 ≤ len := by omega | skip
    first | subst h3 | skip
    clear hmode
    go_enter Try.func9, Try.ntmps9
    go_wp2_with fail
    refine HP.out.mono ?_
    rintro e w1 ⟨v1, rfl, hown1, hbel1⟩
    rw [HN.out] at hown1
    obtain ⟨ao1, cap1, rfl, hlc1, hmx1, _⟩ := own_form hown1
    have hNm : N ≤ 9223372036854775807 := by unfold maxLen at hmx1; omega
    clear hlc1 hmx1
    have HOWN1 := Lib.hid hown1
    have HB1 := Lib.hid hbel1
    clear hown1 hbel1
    go_wp2
    go_loopw [7, 8, 9] (fun va vh i wr => ∃ k : Nat, k ≤ N ∧ i = .int .i64 k ∧ vh = .slice none 0 0 ∧ Below w1.heap.size w1 wr ∧ wr.ownsRow w1.heap.size 5 1 va (sumL (L.take k)) ((bs.take (sumL (L.take k))).map B)) (fun _ _ i _ => N - (intOf i).toNat)
    case atStart => exact ⟨0, Nat.zero_le _, rfl, rfl, Below.refl _ _, nil_owns _ _ _ _⟩
    case round =>
      obtain ⟨k, hk, rfl, rfl, hbel, hown⟩ := hrel
      have HOWN := Lib.hid hown
      have HB := Lib.hid hbel
      clear hown hbel
      by_cases hlt : k < N
      · obtain ⟨p, hpk⟩ : ∃ p, L[k]? = some p := ⟨L[k]'(by rw [HN.out]; exact hlt), by simp⟩
        obtain ⟨g1, _, e1, _, hg1⟩ := HOWN1.out.form (by omega)
        cases e1
        obtain ⟨hc1, hc2⟩ := part_cells HOWN1.out HN.out k p hpk
        have ec2 : wr.cell? ⟨g1, k * 2 + 1, none⟩ = some (.complex .f64 (fl p.2.1) (fl p.2.2)) := (HB.out.cell (p := ⟨g1, k * 2 + 1, none⟩) hg1).trans hc2
        have hat := HC.out k p hpk
        have hsu := sumL_take_succ L k p hpk
        have hle : sumL (L.take (k + 1)) ≤ len := by have := sumL_take_le L (k + 1); rw [HSUM.out] at this; exact this
        have hk0 : (0 : Int) ≤ k ∧ (k : Int) < N := by omega
        rw [← hat] at hsu
        have HCUT := Lib.hid (cutOf_fl p.2.1 p.2.2 len (by omega) (by omega))
        have HAT := Lib.hid hat
        have HSU := Lib.hid hsu
        have hpn : p.2.1 + p.2.2 ≤ len := by omega
        clear hc1 hc2 hpk hat hsu hle
        go_wp2_with fail
        refine (of_ok _ _ _ bs _ _ _ _ _ HLEN.out hlc (by omega) (HL.out.below (HB1.out.trans (HB.out.mono HB1.out.size))) HCUT.out).mono ?_
        rintro e w2 ⟨v2, rfl, hown2, hbel2⟩
        obtain ⟨ao2, cap2, rfl, _, _, hl2⟩ := own_form hown2
        have HL2 := Lib.hid hl2
        have HB2 := Lib.hid (show Below w1.heap.size w1 w2 from HB.out.trans (hbel2.mono HB.out.size))
        have HOWN2 := Lib.hid (own_below HOWN.out hbel2)
        clear hown2 hl2
        go_wp2_with (first | (at_builtin; refine wpList_append_any rfl (.tmp 74) (.tmp 75) 39 rfl w1.heap.size 5 i0 (.int .u8 0) 1 Try.underlying39 HI.out HZ0.out HZ1.out HZ2.out rfl _ _ _ rfl HOWN2.out ao2 p.2.2 cap2 _ rfl ?c1 HL2.out (B_one _) ?c3 ?c4 HB2.out.size ?_))
        case c1 => rw [List.length_map, List.length_take, List.length_drop, HLEN.out]; omega
        case c3 => unfold maxLen; have := HAT.out; omega
        case c4 => have := HAT.out; omega
        intro v5 w5 hown5 hgr5
        go_wp2
        have hrow : (bs.map B).take p.2.1 ++ ((bs.map B).drop p.2.1).take p.2.2 = (bs.take (sumL (L.take (k + 1)))).map B := by rw [List.map_take, HSU.out, List.take_add]
        try simp only [List.map_take, List.map_drop] at hown5
        rw [← HAT.out, hrow, ← HSU.out] at hown5
        have hb5 := below_append HB2.out HOWN2.out hgr5 (Nat.le_refl _) HB2.out.size
        go_roundw
        case rel => exact ⟨k + 1, by omega, by go_num, rfl, hb5, hown5⟩
        case measure => simp [intOf]; omega
      · obtain rfl : k = N := by omega
        have hend : sumL (L.take k) = len := by rw [List.take_of_length_le (by rw [HN.out]; omega), HSUM.out]
        rw [hend] at HOWN
        have hown := HOWN.out
        rw [List.take_of_length_le (by rw [HLEN.out]; omega)] at hown
        obtain ⟨ao4, cap4, rfl, _, _, hl4⟩ := own_form hown
        have f0 := fun (u : AfterB w1.heap.size wr.drew) => run_string (P := Try.prog) u.val 39 9 5 Try.underlying39 Try.underlying5 Try.underlying9 ao len cap bs HLEN.out (HL.out.below (HB1.out.trans ((HB.out.drew.trans u.below).mono HB1.out.size)))
        go_wp2_with fail
        refine wp_region_B w1.heap.size [(0, true), (1, true), (5, true), (6, true), (2, false), (3, false), (4, false), (7, false), (8, false), (9, false), (10, false), (11, false)] (by kernel_rfl) (by kernel_rfl) ?_
        rintro w4 rfl
        repeat ((first | refine walkB_one rfl rfl (fun K hK => ?_) | refine walkB_alone rfl rfl (fun K hK => ?_)); go_big_quiet_step (fail); refine wpQuiet_nil (hK _ ?_); clear hK K)
        refine walkB_free rfl (by rfl) (fun K hK => ?_)
        go_simp
        refine (join_ok none 0 0 [] _ rfl (by omega) (Lies.nil _ _)).mono ?_
        rintro e w5 ⟨v5, rfl, hown5, hbel5⟩
        obtain ⟨ao5, cap5, rfl, _, _, hl5⟩ := own_form hown5
        have B5 := HB.out.drew.trans (hbel5.mono HB.out.size)
        have ownd : w5.ownsRow w1.heap.size 5 1 (.slice ao4 len cap4) len (bs.map B) := own_below hown.drew hbel5
        go_simp
        refine hK _ _ (hbel5.mono HB.out.size) ?_
        clear hK K
        refine walkB_free rfl (by rfl) (fun K hK => ?_)
        refine wp_append_any (.tmp 77) (.tmp 79) 39 rfl w1.heap.size 5 i0 (.int .u8 0) 1 Try.underlying39 HI.out HZ0.out HZ1.out HZ2.out rfl _ _ _ rfl ownd ao5 _ cap5 _ rfl (by rw [List.length_map, joinL_length]; rfl) hl5 (B_one _) (by unfold maxLen; omega) (by omega) B5.size ?_
        intro v6 w6 hown6 hgr6
        have B56 := below_append (Below.refl w1.heap.size w5) ownd hgr6 (Nat.le_refl _) B5.size
        have B6 := Lib.hid (show Below w.heap.size w w6 from HB1.out.trans ((B5.trans B56).mono HB1.out.size))
        have B6s := (B5.trans B56).size
        have hz : joinL [] = [] := rfl
        simp only [hz, List.map_nil, List.append_nil, Nat.reduceAdd, Nat.reduceDiv, Nat.add_zero] at hown6
        obtain ⟨ao6, cap6, rfl, _, _, hl6⟩ := own_form hown6
        have HL6 := Lib.hid hl6
        have f6 := fun (u : After w6) => run_string (P := Try.prog) u.val 39 9 5 Try.underlying39 Try.underlying5 Try.underlying9 ao6 len cap6 bs HLEN.out (HL6.out.below u.later)
        clear hown6 hgr6 hl6 hown5 hl5 ownd hown
        go_simp
        refine hK _ _ B56 ?_
        clear hK K B56
        repeat ((first | refine walkB_one rfl rfl (fun K hK => ?_) | refine walkB_alone rfl rfl (fun K hK => ?_)); go_big_quiet_step (fail); refine wpQuiet_nil (hK _ ?_); clear hK K)
        refine walkB_free rfl (by rfl) (fun K hK => ?_)
        go_simp
        refine (awake_any _).mono ?_
        rintro e w7 ⟨rfl, hbel7⟩
        go_simp
        refine hK _ _ (hbel7.mono B6s) ?_
        clear hK K
        repeat ((first | refine walkB_one rfl rfl (fun K hK => ?_) | refine walkB_alone rfl rfl (fun K hK => ?_)); go_big_quiet_step (fail); refine wpQuiet_nil (hK _ ?_); clear hK K)
        refine walkB_nil ?_
        go_wp2
        go_ret
        exact ⟨rfl, B6.out.trans (hbel7.mono B6.out.size)⟩

set_option maxRecDepth 100000 in
set_option maxHeartbeats 2000000 in
theorem whole_short (alg : Int) (ao : Option Addr) (len cap : Nat) (bs : List UInt8) (w : World) (hlen : bs.length = len) (_ : len ≤ cap) (hl : Lies w ao (bs.map B)) (h300 : len ≤ 300) (herr : (partsL alg len).2 = 0) (hmode : alg = 3 ∧ len < 32) :
    Calls Try.prog 9 #[.int .i64 alg, .slice ao len cap] w fun e w' => e = .returned (.bool true) ∧ Below w.heap.size w w' := by
  have hp := parts_any alg (len : Int) w (by omega) (by omega)
  obtain ⟨c1, _, _, _⟩ := partsL_covers alg len herr
  have hsum := (whole_facts alg len herr).1 hmode
  rw [herr] at hp
  clear herr
  have hsame := whole_same alg len hmode
  generalize (partsL alg len).1 = L at *
  generalize hN : L.length = N at *
  have HSAME := Lib.hid hsame
  clear hsame
  have HP := Lib.hid hp
  have HC := Lib.hid c1
  have HN := Lib.hid hN
  have HSUM := Lib.hid hsum
  have HL := Lib.hid hl
  have HLEN := Lib.hid hlen
  have HNB := Lib.hid (show (nibs bs).length = 2 * len by rw [nibs_length, hlen])
  obtain ⟨i0, hi, hz0, hz1, hz2⟩ := info_parts Try.infoByte
  have HI := Lib.hid hi
  have HZ0 := Lib.hid hz0
  have HZ1 := Lib.hid hz1
  have HZ2 := Lib.hid hz2
  clear hp c1 hN hsum hl hlen hi hz0 hz1 hz2
  obtain ⟨rfl, h32⟩ := hmode
  all_goals
    go_enter Try.func9, Try.ntmps9
    go_wp2_with fail
    refine HP.out.mono ?_
    rintro e w1 ⟨v1, rfl, hown1, hbel1⟩
    rw [HN.out] at hown1
    obtain ⟨ao1, cap1, rfl, hlc1, hmx1, _⟩ := own_form hown1
    have hNm : N ≤ 9223372036854775807 := by unfold maxLen at hmx1; omega
    clear hlc1 hmx1
    have HOWN1 := Lib.hid hown1
    have HB1 := Lib.hid hbel1
    clear hown1 hbel1
    go_wp2
    go_loopw [7, 8, 9] (fun va vh i wr => ∃ k : Nat, k ≤ N ∧ i = .int .i64 k ∧ va = .slice none 0 0 ∧ Below w1.heap.size w1 wr ∧ wr.ownsRow w1.heap.size 5 1 vh (sumL (L.take k)) (((nibs bs).take (sumL (L.take k))).map B)) (fun _ _ i _ => N - (intOf i).toNat)
    case atStart => exact ⟨0, Nat.zero_le _, rfl, rfl, Below.refl _ _, nil_owns _ _ _ _⟩
    case round =>
      obtain ⟨k, hk, rfl, rfl, hbel, hown⟩ := hrel
      have HOWN := Lib.hid hown
      have HB := Lib.hid hbel
      clear hown hbel
      by_cases hlt : k < N
      · obtain ⟨p, hpk⟩ : ∃ p, L[k]? = some p := ⟨L[k]'(by rw [HN.out]; exact hlt), by simp⟩
        obtain ⟨g1, _, e1, _, hg1⟩ := HOWN1.out.form (by omega)
        cases e1
        obtain ⟨hc1, hc2⟩ := part_cells HOWN1.out HN.out k p hpk
        have ec2 : wr.cell? ⟨g1, k * 2 + 1, none⟩ = some (.complex .f64 (fl p.2.1) (fl p.2.2)) := (HB.out.cell (p := ⟨g1, k * 2 + 1, none⟩) hg1).trans hc2
        have hat := HC.out k p hpk
        have hsu := sumL_take_succ L k p hpk
        have hle : sumL (L.take (k + 1)) ≤ 2 * len := by have := sumL_take_le L (k + 1); rw [HSUM.out] at this; exact this
        have hk0 : (0 : Int) ≤ k ∧ (k : Int) < N := by omega
        rw [← hat] at hsu
        have HCUT := Lib.hid (cutOf_fl p.2.1 p.2.2 (2 * len) (by omega) (by omega))
        have HAT := Lib.hid hat
        have HSU := Lib.hid hsu
        have hpn : p.2.1 + p.2.2 ≤ 2 * len := by omega
        have hne : ((p.2.2 : Int) != (len : Int)) = false := by rw [HSAME.out k p hpk]; simp
        clear hc1 hc2 hpk hat hsu hle
        go_wp2_with fail
        refine (halves_ok _ _ _ bs _ _ _ _ _ HLEN.out (by omega) (HL.out.below (HB1.out.trans (HB.out.mono HB1.out.size))) HCUT.out).mono ?_
        rintro e w2 ⟨v2, rfl, hown2, hbel2⟩
        obtain ⟨ao2, cap2, rfl, _, _, hl2⟩ := own_form hown2
        have HL2 := Lib.hid hl2
        have HB2 := Lib.hid (show Below w1.heap.size w1 w2 from HB.out.trans (hbel2.mono HB.out.size))
        have HOWN2 := Lib.hid (own_below HOWN.out hbel2)
        clear hown2 hl2
        go_wp2_with (first | (at_builtin; refine wpList_append_any rfl (.tmp 59) (.tmp 60) 39 rfl w1.heap.size 5 i0 (.int .u8 0) 1 Try.underlying39 HI.out HZ0.out HZ1.out HZ2.out rfl _ _ _ rfl HOWN2.out ao2 p.2.2 cap2 _ rfl ?c1 HL2.out (B_one _) ?c3 ?c4 HB2.out.size ?_))
        case c1 => rw [List.length_map, List.length_take, List.length_drop, HNB.out]; omega
        case c3 => unfold maxLen; have := HAT.out; omega
        case c4 => have := HAT.out; omega
        intro v5 w5 hown5 hgr5
        go_wp2
        have hrow : ((nibs bs).map B).take p.2.1 ++ (((nibs bs).map B).drop p.2.1).take p.2.2 = ((nibs bs).take (sumL (L.take (k + 1)))).map B := by rw [List.map_take, HSU.out, List.take_add]
        try simp only [List.map_take, List.map_drop] at hown5
        rw [← HAT.out, hrow, ← HSU.out] at hown5
        have hb5 := below_append HB2.out HOWN2.out hgr5 (Nat.le_refl _) HB2.out.size
        go_roundw
        case rel => exact ⟨k + 1, by omega, by go_num, rfl, hb5, hown5⟩
        case measure => simp [intOf]; omega
      · obtain rfl : k = N := by omega
        have hend : sumL (L.take k) = 2 * len := by rw [List.take_of_length_le (by rw [HN.out]; omega), HSUM.out]
        rw [hend] at HOWN
        have hown := HOWN.out
        rw [List.take_of_length_le (by rw [HNB.out]; omega)] at hown
        obtain ⟨ao4, cap4, rfl, _, _, hl4⟩ := own_form hown
        have f0 := fun (u : AfterB w1.heap.size wr.drew) => run_string (P := Try.prog) u.val 39 9 5 Try.underlying39 Try.underlying5 Try.underlying9 ao len cap bs HLEN.out (HL.out.below (HB1.out.trans ((HB.out.drew.trans u.below).mono HB1.out.size)))
        go_wp2_with fail
        refine wp_region_B w1.heap.size [(0, true), (1, true), (5, true), (6, true), (2, false), (3, false), (4, false), (7, false), (8, false), (9, false), (10, false), (11, false)] (by kernel_rfl) (by kernel_rfl) ?_
        rintro w4 rfl
        repeat ((first | refine walkB_one rfl rfl (fun K hK => ?_) | refine walkB_alone rfl rfl (fun K hK => ?_)); go_big_quiet_step (fail); refine wpQuiet_nil (hK _ ?_); clear hK K)
        refine walkB_free rfl (by rfl) (fun K hK => ?_)
        go_simp
        refine (join_ok ao4 (2 * len) cap4 (nibs bs) _ HNB.out (by omega) (hl4.below ((Below.refl _ _).drew))).mono ?_
        rintro e w5 ⟨v5, rfl, hown5, hbel5⟩
        obtain ⟨ao5, cap5, rfl, _, _, hl5⟩ := own_form hown5
        have B5 := HB.out.drew.trans (hbel5.mono HB.out.size)
        have ownd : w5.ownsRow w1.heap.size 5 1 (.slice none 0 0) 0 [] := nil_owns _ _ _ _
        go_simp
        refine hK _ _ (hbel5.mono HB.out.size) ?_
        clear hK K
        refine walkB_free rfl (by rfl) (fun K hK => ?_)
        refine wp_append_any (.tmp 77) (.tmp 79) 39 rfl w1.heap.size 5 i0 (.int .u8 0) 1 Try.underlying39 HI.out HZ0.out HZ1.out HZ2.out rfl _ _ _ rfl ownd ao5 _ cap5 _ rfl (by rw [List.length_map, joinL_length]; rw [HNB.out]) hl5 (B_one _) (by unfold maxLen; omega) (by omega) B5.size ?_
        intro v6 w6 hown6 hgr6
        have B56 := below_append (Below.refl w1.heap.size w5) ownd hgr6 (Nat.le_refl _) B5.size
        have B6 := Lib.hid (show Below w.heap.size w w6 from HB1.out.trans ((B5.trans B56).mono HB1.out.size))
        have B6s := (B5.trans B56).size
        rw [List.nil_append, join_nibs, Nat.zero_add, show (2 * len + 1) / 2 = len by omega] at hown6
        obtain ⟨ao6, cap6, rfl, _, _, hl6⟩ := own_form hown6
        have HL6 := Lib.hid hl6
        have f6 := fun (u : After w6) => run_string (P := Try.prog) u.val 39 9 5 Try.underlying39 Try.underlying5 Try.underlying9 ao6 len cap6 bs HLEN.out (HL6.out.below u.later)
        clear hown6 hgr6 hl6 hown5 hl5 ownd hown
        go_simp
        refine hK _ _ B56 ?_
        clear hK K B56
        repeat ((first | refine walkB_one rfl rfl (fun K hK => ?_) | refine walkB_alone rfl rfl (fun K hK => ?_)); go_big_quiet_step (fail); refine wpQuiet_nil (hK _ ?_); clear hK K)
        refine walkB_free rfl (by rfl) (fun K hK => ?_)
        go_simp
        refine (awake_any _).mono ?_
        rintro e w7 ⟨rfl, hbel7⟩
        go_simp
        refine hK _ _ (hbel7.mono B6s) ?_
        clear hK K
        repeat ((first | refine walkB_one rfl rfl (fun K hK => ?_) | refine walkB_alone rfl rfl (fun K hK => ?_)); go_big_quiet_step (fail); refine wpQuiet_nil (hK _ ?_); clear hK K)
        refine walkB_nil ?_
        go_wp2
        go_ret
        exact ⟨rfl, B6.out.trans (hbel7.mono B6.out.size)⟩

end Go.Proofs.Ytkgckhmfhpnoaaa
