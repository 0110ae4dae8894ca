/-
  The walks of cut: the half bytes of a cut.
-/
import Derived.Test.YtkgckhmfhpnoaaaCutB
import Derived.Test.YtkgckhmfhpnoaaaCutPlain
namespace Go.Proofs.Ytkgckhmfhpnoaaa
open Go.RowKit Go.Fl Go.Mem Go.Ops Go.CutP

theorem zeros_B (n : Nat) : (madeCells #[.int .u8 0] n).toList = (List.replicate n (0 : UInt8)).map B := by
  rw [toList_madeCells_one, List.map_replicate]
  rfl

set_option maxHeartbeats 400000 in
theorem halves_ok (ao : Option Addr) (len cap : Nat) (bs : List UInt8) (re im a n : Nat) (w : World) (hlen : bs.length = len) (hb : len ≤ 1099511627776) (hl : Lies w ao (bs.map B)) (hcut : cutOf re im (2 * len) = some (a, n)) :
    Calls Try.prog 17 #[.slice ao len cap, .complex .f64 re im] w (Fresh w 5 1 n ((((nibs bs).drop a).take n).map B) fun v => .tuple #[v, .bool true]) := by
  obtain ⟨_, _, han⟩ := cutOf_some hcut
  obtain ⟨i0, hi, hz0, hz1, hz2⟩ := info_parts Try.infoByte
  have HC := Lib.hid hcut
  have HLEN := Lib.hid hlen
  have HL := Lib.hid hl
  have HI := Lib.hid (And.intro hi (And.intro hz0 (And.intro hz1 hz2)))
  clear hlen hl hcut hi hz0 hz1 hz2
  go_enter Try.func17, Try.ntmps17
  go_wp2_with fail
  refine (whole_ok re im (2 * len) a n _ (by omega) HC.out).mono ?_
  rintro e w' ⟨rfl, rfl⟩
  go_wp2_with (at_make; refine wpList_make_full _ rfl _ _ 39 rfl w.heap.size 5 i0 (.int .u8 0) 1 Try.underlying39 HI.out.1 HI.out.2.1 HI.out.2.2.1 _ _ _ _ n rfl rfl rfl rfl ?b2 ?b3 ?b4 ?_)
  case b2 => rw [HI.out.2.2.2]; omega
  case b3 => unfold maxLen; omega
  case b4 => simp
  intro w0 hown0 hgrow0
  have hb0 : Below w.heap.size w w0 := ((Below.refl w.heap.size w).alloc (Nat.le_refl _) _).grown hgrow0 (by simp) (fun k h => by cases h)
  have HOWN := Lib.hid hown0
  have HB := Lib.hid hb0
  clear hown0 hgrow0 hb0
  go_wp2
  generalize hg : w.heap.size + 1 = g at *
  have HG := Lib.hid hg
  clear hg
  go_loopw [27] (fun i wr => ∃ k : Nat, k ≤ n ∧ i = .int .i64 k ∧ wr.ownsRow w.heap.size 5 1 (.slice (some ⟨g, 0, none⟩) n n) n ((fillTo (((nibs bs).drop a).take n) n k).map B) ∧ Below w.heap.size w wr)
    (fun i _ => n - (intOf i).toNat)
  case atStart => 
    refine ⟨0, Nat.zero_le _, rfl, ?_, HB.out⟩
    have := HOWN.out
    rw [zeros_B] at this
    rw [fill_zero]
    simpa using this
  case round =>
    obtain ⟨k, hk, rfl, hown, hbel⟩ := hrel
    have hlenF : (((nibs bs).drop a).take n).length = n := by rw [List.length_take, List.length_drop, nibs_length, HLEN.out]; omega
    by_cases hlt : k < n
    · have hread := (HL.out.below HB.out)
      have hne : bs.map B ≠ [] := by intro h; have := congrArg List.length h; simp [HLEN.out] at this; omega
      obtain ⟨b, off, rfl, hbw, hcell⟩ := HL.out.at hne
      have hbs : (bs.map B)[(a + k) / 2]? = some (B (bs.getD ((a + k) / 2) 0)) := by
        have : (a + k) / 2 < bs.length := by rw [HLEN.out]; omega
        simp [this]
      have hc := (hbel.cell (p := ⟨b, off + (a + k) / 2, none⟩) hbw).trans (hcell _ _ hbs)
      have hf := hown.frozenAt k
      have hcl : wr.cell? ⟨g, k, none⟩ = some (B (((fillTo (((nibs bs).drop a).take n) n k)).getD k 0)) := by
        rw [hown.cellAt k (by omega)]
        have : k < (fillTo (((nibs bs).drop a).take n) n k).length := by rw [fill_length _ _ _ hlenF (by omega)]; omega
        simp [this]
      clear hread hne hcell hbs
      go_wp2
      go_roundw
      case rel =>
        refine ⟨k + 1, by omega, by go_num, ?_, hbel.setCell (by simp; have := HG.out; omega) _⟩
        have hnx := nibs_at bs (a + k) (by rw [HLEN.out]; omega)
        have hset := fill_set (((nibs bs).drop a).take n) n k _ hlenF (by rw [List.getElem?_take, if_pos hlt, List.getElem?_drop]; exact hnx)
        have hst := (hown.stored k (B (nib (bs.getD ((a + k) / 2) 0) ((a + k) % 2)))).1
        rw [← List.map_set, hset] at hst
        simpa [nib] using hst
      case measure => simp [intOf]; omega
    · obtain rfl : k = n := by omega
      rw [fill_full _ _ hlenF] at hown
      go_wp2
      go_ret2
      exact ⟨_, rfl, hown, hbel⟩

theorem halves_bad (ao : Option Addr) (len cap : Nat) (re im : Nat) (w : World) (hb : len ≤ 1099511627776) (hcut : cutOf re im (2 * len) = none) :
    Calls Try.prog 17 #[.slice ao len cap, .complex .f64 re im] w fun e w' => e = .returned (.tuple #[.slice none 0 0, .bool false]) ∧ Below w.heap.size w w' := by
  have HC := Lib.hid hcut
  clear hcut
  go_enter Try.func17, Try.ntmps17
  go_wp2_with fail
  refine (whole_bad re im (2 * len) _ (by omega) HC.out).mono ?_
  rintro e w' ⟨rfl, rfl⟩
  go_wp2_with fail
  go_ret2
  exact ⟨rfl, (Below.refl w.heap.size w).alloc (Nat.le_refl _) _⟩

set_option maxHeartbeats 400000 in
theorem join_ok (ao : Option Addr) (len cap : Nat) (h : List UInt8) (w : World) (hlen : h.length = len) (hb : len ≤ 1099511627776) (hl : Lies w ao (h.map B)) :
    Calls Try.prog 14 #[.slice ao len cap] w (Fresh w 5 1 ((len + 1) / 2) ((joinL h).map B) id) := by
  obtain ⟨i0, hi, hz0, hz1, hz2⟩ := info_parts Try.infoByte
  have HLEN := Lib.hid hlen
  have HL := Lib.hid hl
  have HI := Lib.hid (And.intro hi (And.intro hz0 (And.intro hz1 hz2)))
  clear hlen hl hi hz0 hz1 hz2
  go_enter Try.func14, Try.ntmps14
  go_wp2_with (at_make; refine wpList_make_full _ rfl _ _ 39 rfl w.heap.size 5 i0 (.int .u8 0) 1 Try.underlying39 HI.out.1 HI.out.2.1 HI.out.2.2.1 _ _ _ _ ((len + 1) / 2) rfl rfl (by omega) (by omega) ?b2 ?b3 ?b4 ?_)
  case b2 => rw [HI.out.2.2.2]; omega
  case b3 => unfold maxLen; omega
  case b4 => simp
  intro w0 hown0 hgrow0
  have hb0 : Below w.heap.size w w0 := (Below.refl w.heap.size w).grown hgrow0 (by simp) (fun k h => by cases h)
  have HOWN := Lib.hid hown0
  have HB := Lib.hid hb0
  clear hown0 hgrow0 hb0
  go_wp2
  generalize hg : w.heap.size = g at *
  have HG := Lib.hid hg
  clear hg
  generalize hm : (len + 1) / 2 = m at *
  have HM := Lib.hid hm
  clear hm
  go_loopw [13] (fun i wr => ∃ k : Nat, k ≤ len ∧ i = .int .i64 k ∧ wr.ownsRow g 5 1 (.slice (some ⟨g, 0, none⟩) m m) m ((joinTo h k).map B) ∧ Below g w wr)
    (fun i _ => len - (intOf i).toNat)
  case atStart =>
    refine ⟨0, Nat.zero_le _, rfl, ?_, HB.out⟩
    have := HOWN.out
    rw [joinTo_zero, HLEN.out, HM.out, ← zeros_B]
    simpa using this
  case round =>
    obtain ⟨k, hk, rfl, hown, hbel⟩ := hrel
    by_cases hlt : k < len
    · have hne : h.map B ≠ [] := by intro h; have := congrArg List.length h; simp [HLEN.out] at this; omega
      obtain ⟨b, off, rfl, hbw, hcell⟩ := HL.out.at hne
      rw [HG.out] at hbw
      have hks : k < h.length := by rw [HLEN.out]; omega
      obtain ⟨u, hu⟩ : ∃ u, h[k]? = some u := ⟨h[k], by simp [hks]⟩
      have hc := (hbel.cell (p := ⟨b, off + k, none⟩) hbw).trans (hcell k (B u) (by simp [hu]))
      have hf := hown.frozenAt (k / 2)
      have hcl : wr.cell? ⟨g, k / 2, none⟩ = some (B ((joinTo h k).getD (k / 2) 0)) := by
        have hm := HM.out
        rw [hown.cellAt _ (by omega)]
        have : k / 2 < (joinTo h k).length := by rw [joinTo_length _ _ (by omega), HLEN.out]; omega
        simp [this]
      have HU := Lib.hid hu
      have hmk : k / 2 < m := by have := HM.out; omega
      clear hne hcell hu hks
      go_wp2
      go_region
      all_goals
        go_wp2
        go_roundw
        case rel =>
          refine ⟨k + 1, by omega, by go_num, ?_, (hbel.setCell (by simp) _).drew⟩
          have hset := joinTo_set h k u HU.out
          have hst := (hown.stored (k / 2) (B (or8 ((joinTo h k).getD (k / 2) 0) (half u (k % 2))))).1.drew
          rw [← List.map_set, hset] at hst
          simpa [half] using hst
        case measure => simp [intOf]; omega
    · obtain rfl : k = len := by omega
      rw [← HLEN.out, joinTo_full] at hown
      have hg := HG.out
      clear HG
      subst hg
      go_wp2
      go_ret
      exact ⟨.slice (some ⟨w.heap.size, 0, none⟩) m m, rfl, hown, hbel⟩

end Go.Proofs.Ytkgckhmfhpnoaaa
