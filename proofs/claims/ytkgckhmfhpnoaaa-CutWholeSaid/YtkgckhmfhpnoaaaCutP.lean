/-
  The walks of cut: a message's parts.
-/
import Derived.Test.YtkgckhmfhpnoaaaCutA
import Derived.Test.YtkgckhmfhpnoaaaMem
import Derived.Test.YtkgckhmfhpnoaaaPartsPlain
import Derived.Test.YtkgckhmfhpnoaaaScope
namespace Go.Proofs.Ytkgckhmfhpnoaaa
open Go.RowKit Go.Fl Go.Mem Go.CutP
set_option linter.unusedSimpArgs false

theorem Try.infoPart : (Try.prog.info? 31).map (fun i => (i.zero, i.size, i.bytes)) = some (some (.agg #[.int .i64 0, .complex .f64 0 0]), 2, 24) := by kernel_rfl

/-- What 'add' does: the slice in the captured cell has one part more. -/
def AddPost (bo base : Nat) (L : List Part) (w : World) : Ending → World → Prop := fun e w' =>
  ∃ v', e = .returned (.tuple #[]) ∧ w'.heap[bo]? = some (.cells #[v'] 22 (0, 0)) ∧ w'.ownsRow base 31 2 v' L.length (cells fl L) ∧ Below bo w w'

set_option maxHeartbeats 400000 in
theorem add_first (kind many bo base : Nat) (v : Value) (w : World) (hbo : w.heap[bo]? = some (.cells #[v] 22 (0, 0))) (hown : w.ownsRow base 31 2 v 0 []) (hbb : bo < base) (hbs : base ≤ w.heap.size) :
    Calls Try.prog 26 #[.int .i64 kind, .int .i64 many, .pointer (some ⟨bo, 0, none⟩)] w (AddPost bo base (add [] kind many) w) := by
  obtain ⟨i0, hi, hz0, hz1, hz2⟩ := info_parts Try.infoPart
  have hc := cell_of_one hbo
  have hf := free_of_one hbo
  have hlt : bo < w.heap.size := by omega
  obtain ⟨ao, cap, rfl, _, _, _⟩ := own_form hown
  have HBO := Lib.hid hbo
  clear hbo
  go_enter Try.func26, Try.ntmps26
  go_wp2_with (first
    | (go_at_call 21; refine (span_any _ _ _).mono ?_; rintro e w' ⟨rfl, rfl⟩)
    | (at_builtin; refine wpList_append_own _ rfl (.tmp 20) (.tmp 24) 22 rfl base 31 i0 (.agg #[.int .i64 0, .complex .f64 0 0]) 2 24 Try.underlying22 hi hz0 hz1 hz2 rfl (by decide) _ _ _ rfl (hown.alloc _) ⟨w.heap.size, 0, none⟩ 1 1 [.int .i64 kind, .complex .f64 (FloatKind.f64.nearest 0) (FloatKind.f64.nearest many)] rfl rfl ?c1 ?c2 ?c3 ?c4 ?c5 ?_))
  case c1 => exact World.news_of_block (heap_alloc_new w _)
  case c2 => intro u hu; simp at hu; rcases hu with rfl | rfl <;> rfl
  case c3 => unfold maxLen; omega
  case c4 => omega
  case c5 => simp; omega
  intro v' w1 hown1 hgrow1 _
  have hb1 : w1.heap[bo]? = some (.cells #[.slice ao 0 cap] 22 (0, 0)) :=
    (hgrow1.block bo (by simp; omega) (by intro e; have := (hown.lt _ e.symm).1; omega)).trans ((heap_alloc_old w _ hlt).trans HBO.out)
  have hbel1 : Below bo w w1 := ((Below.refl bo w).alloc (by omega) _).grown hgrow1 (by simp; omega) (by intro k hk; have := (hown.lt _ hk).1; omega)
  obtain ⟨ao', cap', rfl, _, _, _⟩ := own_form hown1
  have hc1 := cell_of_one hb1
  have hf1 := free_of_one hb1
  have HB1 := Lib.hid hb1
  clear hb1
  go_wp2
  go_end0
  exact ⟨_, rfl, one_setCell HB1.out, ownsRow_setCell_below hown1 hbb _, hbel1.setCell (Nat.le_refl _) _⟩

set_option maxHeartbeats 400000 in
theorem add_more (kind many bo base m : Nat) (v : Value) (L : List Part) (w : World) (hbo : w.heap[bo]? = some (.cells #[v] 22 (0, 0))) (hL : L.length = m) (hown : w.ownsRow base 31 2 v m (cells fl L)) (hbb : bo < base) (hbs : base ≤ w.heap.size)
    (hm0 : 0 < m) (hm1 : m ≤ 1000000) (ht : tot L ≤ 1000000) :
    Calls Try.prog 26 #[.int .i64 kind, .int .i64 many, .pointer (some ⟨bo, 0, none⟩)] w (AddPost bo base (add L kind many) w) := by
  obtain ⟨i0, hi, hz0, hz1, hz2⟩ := info_parts Try.infoPart
  have hc := cell_of_one hbo
  have hf := free_of_one hbo
  have hlt : bo < w.heap.size := by omega
  obtain ⟨g, cap, rfl, hbg, hgl⟩ := hown.form hm0
  have hp : L[m - 1]? = some (L[m - 1]'(by omega)) := by simp
  generalize L[m - 1]'(by omega) = p at hp
  have hlast : L.getLast? = some p := by rw [List.getLast?_eq_getElem?, hL]; exact hp
  have htot : tot L = p.2.1 + p.2.2 := by unfold tot; rw [hlast]; rfl
  have hcp : w.cell? ⟨g, (m - 1) * 2 + 1, none⟩ = some (.complex .f64 (fl p.2.1) (fl p.2.2)) := by
    rw [hown.cellAt _ (by omega)]
    exact (cells_at fl L (m - 1) p hp).2
  have hadd := add_fl p.2.1 p.2.2 (by omega) (by omega) (by omega)
  rw [← htot] at hadd
  have HADD := Lib.hid hadd
  have HBO := Lib.hid hbo
  have HOWN := Lib.hid hown
  have HLEN := Lib.hid hL
  clear hbo hp hlast htot ht hadd hown hL
  go_enter Try.func26, Try.ntmps26
  go_wp2_with (first
    | (go_at_call 21; refine (span_any _ _ _).mono ?_; rintro e w' ⟨rfl, rfl⟩)
    | (go_at_call 27; refine (behind_any _ _ _ _ _ HADD.out).mono ?_; rintro e w' ⟨rfl, rfl⟩)
    | (at_builtin; refine wpList_append_own _ rfl (.tmp 20) (.tmp 24) 22 rfl base 31 i0 (.agg #[.int .i64 0, .complex .f64 0 0]) 2 24 Try.underlying22 hi hz0 hz1 hz2 rfl (by decide) _ _ _ rfl (HOWN.out.alloc _) ⟨w.heap.size, 0, none⟩ 1 1 [.int .i64 kind, .complex .f64 (fl (tot L)) (FloatKind.f64.nearest many)] rfl rfl ?c1 ?c2 ?c3 ?c4 ?c5 ?_))
  case c1 => exact World.news_of_block (heap_alloc_new w _)
  case c2 => intro u hu; simp at hu; rcases hu with rfl | rfl <;> rfl
  case c3 => unfold maxLen; omega
  case c4 => omega
  case c5 => simp; omega
  intro v' w1 hown1 hgrow1 _
  have hb1 : w1.heap[bo]? = some (.cells #[.slice (some ⟨g, 0, none⟩) m cap] 22 (0, 0)) :=
    (hgrow1.block bo (by simp; omega) (by intro e; have := (HOWN.out.lt _ e.symm).1; omega)).trans ((heap_alloc_old w _ hlt).trans HBO.out)
  have hbel1 : Below bo w w1 := ((Below.refl bo w).alloc (by omega) _).grown hgrow1 (by simp; omega) (by intro k hk; have := (HOWN.out.lt _ hk).1; omega)
  obtain ⟨ao', cap', rfl, _, _, _⟩ := own_form hown1
  have hc1 := cell_of_one hb1
  have hf1 := free_of_one hb1
  have HB1 := Lib.hid hb1
  clear hb1
  go_wp2
  go_end0
  refine ⟨.slice ao' (m + 1) cap', rfl, one_setCell HB1.out, ?_, hbel1.setCell (Nat.le_refl _) _⟩
  have e : (add L kind many).length = m + 1 := by rw [add_length, HLEN.out]
  rw [e, cells_add]
  exact ownsRow_setCell_below hown1 hbb _

theorem add_any (kind many bo base : Nat) (v : Value) (L : List Part) (w : World) (hbo : w.heap[bo]? = some (.cells #[v] 22 (0, 0))) (hown : w.ownsRow base 31 2 v L.length (cells fl L)) (hbb : bo < base) (hbs : base ≤ w.heap.size)
    (hm1 : L.length ≤ 1000000) (ht : tot L ≤ 1000000) :
    Calls Try.prog 26 #[.int .i64 kind, .int .i64 many, .pointer (some ⟨bo, 0, none⟩)] w (AddPost bo base (add L kind many) w) := by
  cases L with
  | nil => exact add_first kind many bo base v w hbo hown hbb hbs
  | cons p L => exact add_more kind many bo base (p :: L).length v (p :: L) w hbo rfl hown hbb hbs (by simp) hm1 ht

/-- What holds at the label: so many pairs have been laid. -/
def LongAt (n : Nat) (bo : Nat) (w : World) (a' : Act) (w' : World) : Prop :=
  ∃ (p : Nat) (v : Value) (l : Int), ∃ u0 u1 u2 u6 u7 u8 u9 u10 u11 u12 u13 u14 u15 u16 u17 u18 u19 u20 u21 u22 u23 u24 u25 u26 u27 u28 u29 u30 u31 u32 u33 : Value, a' = { tmps := #[u0, u1, u2, .pointer (some ⟨bo, 0, none⟩), .func (.func 26) #[] #[.pointer (some ⟨bo, 0, none⟩)], .int .i64 l, u6, u7, u8, u9, u10, u11, u12, u13, u14, u15, u16, u17, u18, u19, u20, u21, u22, u23, u24, u25, u26, u27, u28, u29, u30, u31, u32, u33], defers := [] } ∧
    Hid (l = (n : Int) - 32 - 32 * p) ∧ 0 ≤ l ∧ w'.heap[bo]? = some (.cells #[v] 22 (0, 0)) ∧ w'.ownsRow (bo + 1) 31 2 v (pairs p []).length (cells fl (pairs p [])) ∧ Below bo w w' ∧ bo < w'.heap.size

def LongPost (n : Nat) (w : World) : Ending → World → Prop := Fresh w 31 2 (longL n).length (cells fl (longL n)) id

set_option maxHeartbeats 800000 in
theorem long_any (n : Nat) (w : World) (h1 : 32 ≤ n) (h2 : n ≤ 65536) : Calls Try.prog 22 #[.int .i64 n] w (LongPost n w) := by
  have hmf : ∀ (fn : Fn) (first cap : Array Value) (w : World), (Instr.makeFunc fn first cap).run Try.prog w = .ok (.func fn first cap) w := fun _ _ _ _ => rfl
  go_enter Try.func22, Try.ntmps22
  go_wp2
  refine wp_scope_label 0 (LongAt n w.heap.size w) (fun a' _ => (intOf (a'.tmps.getD 5 undef)).toNat) rfl ?_ ?_
  · simp only [wpPre]
    go_wp2
    refine ⟨0, .slice none 0 0, _, _, _, _, _, _, _, _, _, _, _, _, _, _, _, _, _, _, _, _, _, _, _, _, _, _, _, _, _, _, _, _, rfl, ?_, by omega, ?_, World.ownsRow_nil _ _ _ _, (Below.refl _ _).alloc (Nat.le_refl _) _, by simp⟩
    · show (n : Int) - 32 = _
      omega
    · exact heap_alloc_new w _
  · rintro a' wr ⟨p, v, l, u0, u1, u2, u6, u7, u8, u9, u10, u11, u12, u13, u14, u15, u16, u17, u18, u19, u20, u21, u22, u23, u24, u25, u26, u27, u28, u29, u30, u31, u32, u33, rfl, HLL, hl0, hbo, hown, hbel, hlt⟩
    have hlen := pairs_length p []
    have htot := tot_pairs p []
    have hlp : p ≤ 2048 := by have := HLL.out; omega
    have hln : l ≤ 65536 := by have := HLL.out; omega
    rw [List.length_nil] at hlen
    rw [show tot [] = 0 from rfl] at htot
    have HLEN := Lib.hid hlen
    have HTOT := Lib.hid htot
    have HBO := Lib.hid hbo
    have HOWN := Lib.hid hown
    clear hlen htot hbo hown
    by_cases hl : 32 ≤ l
    · go_wp2_with fail
      refine (add_any 4 16 w.heap.size (w.heap.size + 1) v (pairs p []) _ HBO.out HOWN.out (by omega) (by omega) (by rw [HLEN.out]; omega) (by rw [HTOT.out]; omega)).mono ?_
      rintro e w1 ⟨v1, rfl, hb1, ho1, hbel1⟩
      have HB1 := Lib.hid hb1
      have HO1 := Lib.hid ho1
      have hsz1 := hbel1.size
      clear hb1 ho1
      go_wp2_with fail
      refine (add_any 5 16 w.heap.size (w.heap.size + 1) v1 _ _ HB1.out HO1.out (by omega) (by omega) (by rw [add_length, HLEN.out]; omega) (by rw [tot_add, HTOT.out]; omega)).mono ?_
      rintro e w2 ⟨v2, rfl, hb2, ho2, hbel2⟩
      rw [← pairs_snoc] at ho2
      have HB2 := Lib.hid hb2
      have HO2 := Lib.hid ho2
      have hsz2 := hbel2.size
      clear hb2 ho2
      go_wp2_with fail
      go_step3
      refine ⟨rfl, ⟨p + 1, v2, l - 32, _, _, _, _, _, _, _, _, _, _, _, _, _, _, _, _, _, _, _, _, _, _, _, _, _, _, _, _, _, _, _, rfl, ?_, by omega, HB2.out, HO2.out, (hbel.trans hbel1).trans hbel2, by omega⟩, ?_⟩
      · have := HLL.out
        show l - 32 = _
        omega
      · simp [intOf]; omega
    · have hq : (n - 32) / 32 = p := by have := HLL.out; omega
      obtain ⟨d, rfl⟩ := Int.eq_ofNat_of_zero_le hl0
      have hd : (n - 32) % 32 = d := by have := HLL.out; omega
      have hfin : longL n = add (add (rest d (pairs p [])) 8 16) 9 16 := by unfold longL; rw [hd, hq]
      have HFIN := Lib.hid hfin
      clear hfin hq hd
      rcases (show d = 0 ∨ (0 < d ∧ d < 16) ∨ d = 16 ∨ 16 < d by omega) with rfl | ⟨hd1, hd2⟩ | rfl | hd1
      · have hr : rest 0 (pairs p []) = pairs p [] := rfl
        rw [hr] at HFIN
        clear hr
        go_wp2_with fail
        refine (add_any 8 16 w.heap.size (w.heap.size + 1) v _ _ HBO.out HOWN.out (by omega) (by omega) (by have := HLEN.out; simp [add_length]; omega) (by have := HTOT.out; simp [tot_add]; omega)).mono ?_
        rintro e w1 ⟨v1, rfl, hb1, ho1, hbel1⟩
        have HB1 := Lib.hid hb1
        have HO1 := Lib.hid ho1
        have hsz1 := hbel1.size
        clear hb1 ho1
        go_wp2_with fail
        refine (add_any 9 16 w.heap.size (w.heap.size + 1) v1 _ _ HB1.out HO1.out (by omega) (by omega) (by have := HLEN.out; simp [add_length]; omega) (by have := HTOT.out; simp [tot_add]; omega)).mono ?_
        rintro e w2 ⟨v2, rfl, hb2, ho2, hbel2⟩
        have HB2 := Lib.hid hb2
        have HO2 := Lib.hid ho2
        have hsz2 := hbel2.size
        clear hb2 ho2
        have hc2 := cell_of_one HB2.out
        obtain ⟨aoF, capF, rfl, _, _, _⟩ := own_form HO2.out
        go_wp2
        go_ret
        refine ⟨.slice aoF _ capF, rfl, ?_, ((hbel.trans hbel1).trans hbel2)⟩
        rw [HFIN.out]
        exact HO2.out.mono (Nat.le_succ _)
      · have hr : rest d (pairs p []) = add (pairs p []) 6 d := by unfold rest; rw [if_neg (by omega), if_pos (by omega)]
        rw [hr] at HFIN
        clear hr
        go_wp2_with fail
        refine (add_any 6 d w.heap.size (w.heap.size + 1) v _ _ HBO.out HOWN.out (by omega) (by omega) (by have := HLEN.out; simp [add_length]; omega) (by have := HTOT.out; simp [tot_add]; omega)).mono ?_
        rintro e w1 ⟨v1, rfl, hb1, ho1, hbel1⟩
        have HB1 := Lib.hid hb1
        have HO1 := Lib.hid ho1
        have hsz1 := hbel1.size
        clear hb1 ho1
        go_wp2_with fail
        refine (add_any 8 16 w.heap.size (w.heap.size + 1) v1 _ _ HB1.out HO1.out (by omega) (by omega) (by have := HLEN.out; simp [add_length]; omega) (by have := HTOT.out; simp [tot_add]; omega)).mono ?_
        rintro e w2 ⟨v2, rfl, hb2, ho2, hbel2⟩
        have HB2 := Lib.hid hb2
        have HO2 := Lib.hid ho2
        have hsz2 := hbel2.size
        clear hb2 ho2
        go_wp2_with fail
        refine (add_any 9 16 w.heap.size (w.heap.size + 1) v2 _ _ HB2.out HO2.out (by omega) (by omega) (by have := HLEN.out; simp [add_length]; omega) (by have := HTOT.out; simp [tot_add]; omega)).mono ?_
        rintro e w3 ⟨v3, rfl, hb3, ho3, hbel3⟩
        have HB3 := Lib.hid hb3
        have HO3 := Lib.hid ho3
        have hsz3 := hbel3.size
        clear hb3 ho3
        have hc3 := cell_of_one HB3.out
        obtain ⟨aoF, capF, rfl, _, _, _⟩ := own_form HO3.out
        go_wp2
        go_ret
        refine ⟨.slice aoF _ capF, rfl, ?_, (((hbel.trans hbel1).trans hbel2).trans hbel3)⟩
        rw [HFIN.out]
        exact HO3.out.mono (Nat.le_succ _)
      · have hr : rest 16 (pairs p []) = add (add (pairs p []) 6 16) 7 0 := by unfold rest; rw [if_neg (by omega), if_neg (by omega)]
        rw [hr] at HFIN
        clear hr
        go_wp2_with fail
        refine (add_any 6 16 w.heap.size (w.heap.size + 1) v _ _ HBO.out HOWN.out (by omega) (by omega) (by have := HLEN.out; simp [add_length]; omega) (by have := HTOT.out; simp [tot_add]; omega)).mono ?_
        rintro e w1 ⟨v1, rfl, hb1, ho1, hbel1⟩
        have HB1 := Lib.hid hb1
        have HO1 := Lib.hid ho1
        have hsz1 := hbel1.size
        clear hb1 ho1
        go_wp2_with fail
        refine (add_any 7 0 w.heap.size (w.heap.size + 1) v1 _ _ HB1.out HO1.out (by omega) (by omega) (by have := HLEN.out; simp [add_length]; omega) (by have := HTOT.out; simp [tot_add]; omega)).mono ?_
        rintro e w2 ⟨v2, rfl, hb2, ho2, hbel2⟩
        have HB2 := Lib.hid hb2
        have HO2 := Lib.hid ho2
        have hsz2 := hbel2.size
        clear hb2 ho2
        go_wp2_with fail
        refine (add_any 8 16 w.heap.size (w.heap.size + 1) v2 _ _ HB2.out HO2.out (by omega) (by omega) (by have := HLEN.out; simp [add_length]; omega) (by have := HTOT.out; simp [tot_add]; omega)).mono ?_
        rintro e w3 ⟨v3, rfl, hb3, ho3, hbel3⟩
        have HB3 := Lib.hid hb3
        have HO3 := Lib.hid ho3
        have hsz3 := hbel3.size
        clear hb3 ho3
        go_wp2_with fail
        refine (add_any 9 16 w.heap.size (w.heap.size + 1) v3 _ _ HB3.out HO3.out (by omega) (by omega) (by have := HLEN.out; simp [add_length]; omega) (by have := HTOT.out; simp [tot_add]; omega)).mono ?_
        rintro e w4 ⟨v4, rfl, hb4, ho4, hbel4⟩
        have HB4 := Lib.hid hb4
        have HO4 := Lib.hid ho4
        have hsz4 := hbel4.size
        clear hb4 ho4
        have hc4 := cell_of_one HB4.out
        obtain ⟨aoF, capF, rfl, _, _, _⟩ := own_form HO4.out
        go_wp2
        go_ret
        refine ⟨.slice aoF _ capF, rfl, ?_, ((((hbel.trans hbel1).trans hbel2).trans hbel3).trans hbel4)⟩
        rw [HFIN.out]
        exact HO4.out.mono (Nat.le_succ _)
      · have hr : rest d (pairs p []) = add (add (pairs p []) 6 16) 7 (d - 16) := by unfold rest; rw [if_neg (by omega), if_neg (by omega)]
        rw [hr] at HFIN
        clear hr
        go_wp2_with fail
        refine (add_any 6 16 w.heap.size (w.heap.size + 1) v _ _ HBO.out HOWN.out (by omega) (by omega) (by have := HLEN.out; simp [add_length]; omega) (by have := HTOT.out; simp [tot_add]; omega)).mono ?_
        rintro e w1 ⟨v1, rfl, hb1, ho1, hbel1⟩
        have HB1 := Lib.hid hb1
        have HO1 := Lib.hid ho1
        have hsz1 := hbel1.size
        clear hb1 ho1
        go_wp2_with fail
        rw [show ((d : Int) - 16) = ((d - 16 : Nat) : Int) by omega]
        refine (add_any 7 (d - 16) w.heap.size (w.heap.size + 1) v1 _ _ HB1.out HO1.out (by omega) (by omega) (by have := HLEN.out; simp [add_length]; omega) (by have := HTOT.out; simp [tot_add]; omega)).mono ?_
        rintro e w2 ⟨v2, rfl, hb2, ho2, hbel2⟩
        have HB2 := Lib.hid hb2
        have HO2 := Lib.hid ho2
        have hsz2 := hbel2.size
        clear hb2 ho2
        go_wp2_with fail
        refine (add_any 8 16 w.heap.size (w.heap.size + 1) v2 _ _ HB2.out HO2.out (by omega) (by omega) (by have := HLEN.out; simp [add_length]; omega) (by have := HTOT.out; simp [tot_add]; omega)).mono ?_
        rintro e w3 ⟨v3, rfl, hb3, ho3, hbel3⟩
        have HB3 := Lib.hid hb3
        have HO3 := Lib.hid ho3
        have hsz3 := hbel3.size
        clear hb3 ho3
        go_wp2_with fail
        refine (add_any 9 16 w.heap.size (w.heap.size + 1) v3 _ _ HB3.out HO3.out (by omega) (by omega) (by have := HLEN.out; simp [add_length]; omega) (by have := HTOT.out; simp [tot_add]; omega)).mono ?_
        rintro e w4 ⟨v4, rfl, hb4, ho4, hbel4⟩
        have HB4 := Lib.hid hb4
        have HO4 := Lib.hid ho4
        have hsz4 := hbel4.size
        clear hb4 ho4
        have hc4 := cell_of_one HB4.out
        obtain ⟨aoF, capF, rfl, _, _, _⟩ := own_form HO4.out
        go_wp2
        go_ret
        refine ⟨.slice aoF _ capF, rfl, ?_, ((((hbel.trans hbel1).trans hbel2).trans hbel3).trans hbel4)⟩
        rw [HFIN.out]
        exact HO4.out.mono (Nat.le_succ _)

end Go.Proofs.Ytkgckhmfhpnoaaa
