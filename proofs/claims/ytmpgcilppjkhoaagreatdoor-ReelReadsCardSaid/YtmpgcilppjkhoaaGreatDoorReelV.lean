/-
  The walks of the document's answers: a number of bytes, and a piece.
-/
import Derived.Test.YtmpgcilppjkhoaaGreatDoorReelI
namespace Go.Proofs.YtmpgcilppjkhoaaGreatDoor
open Go.RowKit Go.Mem Go.Ops Go.Cells Go.Oct Go.Reel
set_option linter.unusedSimpArgs false
set_option linter.unusedVariables false
set_option maxRecDepth 100000

theorem at_in (ao : Option Addr) (len cap at' k : Nat) (bs : List UInt8) (w : World) (hlen : bs.length = len) (hk : at' + k < len) (hb : len ≤ 1099511627776) (hl : Lies w ao (bs.map B)) :
    Calls Tryz.prog 38 #[.slice ao len cap, .int .i64 at', .int .i64 k] w fun e w' => e = .returned (B (at8 bs (at' + k))) ∧ w = w' := by
  have hx : bs[at' + k]? = some (at8 bs (at' + k)) := at8_get (by omega)
  generalize at8 bs (at' + k) = x at *
  obtain ⟨b, off, rfl, hcell⟩ := hl _ _ (mapB_at hx)
  clear hl hlen hx
  have h1 : decide ((at' : Int) < -(k : Int)) = false := decide_eq_false (by omega)
  have h2 : decide ((at' : Int) ≥ (len : Int)) = false := decide_eq_false (by omega)
  have h3 : decide ((at' : Int) + (k : Int) ≥ (len : Int)) = false := decide_eq_false (by omega)
  have h4 : (at' : Int) + (k : Int) < (len : Int) := by omega
  go_enter Tryz.func38, Tryz.ntmps38
  go_wp2
  go_ret
  exact ⟨rfl, rfl⟩

theorem numOf_drop {s : List UInt8} {i : Nat} {x : UInt8} (h : s[i]? = some x) : numOf (s.drop i) = x.toNat + 256 * numOf (s.drop (i + 1)) := by
  have hi : i < s.length := (List.getElem?_eq_some_iff.1 h).1
  have he : s[i] = x := (List.getElem?_eq_some_iff.1 h).2
  rw [List.drop_eq_getElem_cons hi, he]
  rfl

set_option maxHeartbeats 1000000 in
theorem refnum_ok (ao : Option Addr) (len cap at' many : Nat) (bs : List UInt8) (w : World) (hlen : bs.length = len) (hk : at' + many ≤ len) (hm : many ≤ 4) (hb : len ≤ 1099511627776) (hl : Lies w ao (bs.map B)) :
    Calls Tryz.prog 27 #[.slice ao len cap, .int .i64 at', .int .i64 many] w fun e w' => ∃ z : UInt64, e = .returned (L z) ∧ z.toNat = numOf ((bs.drop at').take many) ∧ w = w' := by
  have HLEN := Lib.hid hlen
  have HL := Lib.hid hl
  clear hlen hl
  go_enter Tryz.func27, Tryz.ntmps27
  go_wp2
  go_loopw [7, 8] (fun n c wr => ∃ (j : Nat) (q : UInt64), j ≤ many ∧ c = .int .i64 ((j : Int) - 1) ∧ n = L q ∧ Hid (q.toNat = numOf (((bs.drop at').take many).drop j)) ∧ w = wr) (fun _ c _ => (intOf c + 1).toNat)
  case atStart =>
    refine ⟨many, 0, by omega, by go_num, rfl, ?_, rfl⟩
    show (0 : UInt64).toNat = numOf _
    rw [List.drop_eq_nil_of_le (by rw [List.length_take]; omega)]
    rfl
  case round =>
    obtain ⟨j, q, hj, rfl, rfl, HQ, rfl⟩ := hrel
    by_cases h0 : j = 0
    · subst h0
      have ht : decide (((0 : Nat) : Int) - 1 ≥ 0) = false := by rfl
      go_wp2
      go_ret
      exact ⟨q, rfl, by have := HQ.out; simpa using this, rfl⟩
    · obtain ⟨i, rfl⟩ : ∃ i, j = i + 1 := ⟨j - 1, by omega⟩
      have hi : (((i + 1 : Nat) : Int) - 1) = (i : Int) := by omega
      rw [hi]
      have hget : ((bs.drop at').take many)[i]? = some (at8 bs (at' + i)) := by
        rw [List.getElem?_take_of_lt (by omega), List.getElem?_drop]
        exact at8_get (by rw [HLEN.out]; omega)
      have HN := Lib.hid (numOf_drop hget)
      have hqs : q.toNat < 16777216 := by
        rw [HQ.out]
        have h1 := numOf_lt (((bs.drop at').take many).drop (i + 1))
        have h2 : 256 ^ (((bs.drop at').take many).drop (i + 1)).length ≤ 256 ^ 3 := Nat.pow_le_pow_right (by omega) (by rw [List.length_drop, List.length_take]; omega)
        omega
      clear hi hget h0
      go_wp2_with fail
      refine (at_in ao len cap at' i bs _ HLEN.out (by omega) hb HL.out).mono ?_
      rintro e w1 ⟨rfl, rfl⟩
      generalize at8 bs (at' + i) = x at *
      have hxl := x.toNat_lt
      obtain ⟨q2, hq2⟩ : ∃ q2 : UInt64, q2 = add64 (mul64 q 256) (up8_64 x) := ⟨_, rfl⟩
      have HQ2 := Lib.hid (show q2.toNat = numOf (((bs.drop at').take many).drop i) by
        rw [HN.out, ← HQ.out, hq2]
        unfold add64 mul64 up8_64
        rw [UInt64.toNat_add, UInt64.toNat_mul, UInt64.toNat_ofNat', show UInt64.toNat 256 = 256 from rfl]
        omega)
      have HQE := Lib.hid hq2
      clear hq2 HN
      go_wp2_with fail
      refine ⟨⟨i, q2, by omega, rfl, ?_, HQ2, ?_⟩, ?_⟩
      · rw [HQE.out]
      · trivial
      · simp [intOf]

theorem piece_neg (ao : Option Addr) (len cap many : Nat) (w : World) :
    Calls Tryz.prog 28 #[.slice ao len cap, .int .i64 (-1), .int .i64 many] w fun e w' => e = .returned (.tuple #[.slice none 0 0, .int .i64 (-1)]) ∧ w = w' := by
  go_enter Tryz.func28, Tryz.ntmps28
  go_wp2
  go_ret2
  exact ⟨rfl, rfl⟩

theorem bytesP_none {many : Nat} {bs : List UInt8} (h : bytesP many bs = none) : bs.length < many ∨ (many ≤ bs.length ∧ bs.length - many < numOf (bs.take many)) := by
  unfold bytesP numP at h
  split at h
  · rename_i h1
    split at h1
    · exact .inl (by assumption)
    · cases h1
  · rename_i n r h1
    split at h1
    · cases h1
    · simp only [Option.some.injEq, Prod.mk.injEq] at h1
      obtain ⟨rfl, rfl⟩ := h1
      split at h
      · rename_i h2
        rw [List.length_drop] at h2
        exact .inr ⟨by omega, h2⟩
      · cases h

set_option maxHeartbeats 1000000 in
theorem piece_none (ao : Option Addr) (len cap at' many : Nat) (bs : List UInt8) (w : World) (hlen : bs.length = len) (ha : at' ≤ len) (hm : many ≤ 4) (hb : len ≤ 100000) (hl : Lies w ao (bs.map B)) (h : bytesP many (bs.drop at') = none) :
    Calls Tryz.prog 28 #[.slice ao len cap, .int .i64 at', .int .i64 many] w fun e w' => e = .returned (.tuple #[.slice none 0 0, .int .i64 (-1)]) ∧ w = w' := by
  have HL := Lib.hid hl
  have HLEN := Lib.hid hlen
  have h0 : decide ((at' : Int) < 0) = false := by simp
  rcases bytesP_none h with h1 | ⟨h1, h2⟩
  · rw [List.length_drop, hlen] at h1
    have h3 : decide ((at' : Int) > (len : Int) - (many : Int)) = true := by simp; omega
    clear hl hlen h
    go_enter Tryz.func28, Tryz.ntmps28
    go_wp2
    go_ret2
    exact ⟨rfl, rfl⟩
  · rw [List.length_drop, hlen] at h1 h2
    have h3 : decide ((at' : Int) > (len : Int) - (many : Int)) = false := by simp; omega
    have hz : numOf ((bs.drop at').take many) < 4294967296 := by
      have := numOf_lt ((bs.drop at').take many)
      have h2 : 256 ^ ((bs.drop at').take many).length ≤ 256 ^ 4 := Nat.pow_le_pow_right (by omega) (by rw [List.length_take]; omega)
      omega
    clear hl hlen h
    go_enter Tryz.func28, Tryz.ntmps28
    go_wp2_with fail
    refine (refnum_ok ao len cap at' many bs _ HLEN.out (by omega) hm (by omega) HL.out).mono ?_
    rintro e w1 ⟨z, rfl, hze, rfl⟩
    have hw : IntKind.i64.wrap (z.toNat : Int) = (z.toNat : Int) := IntWalk.i64_in _ (by omega)
    have h4 : decide ((z.toNat : Int) > (len : Int) - (at' : Int) - (many : Int)) = true := by simp; omega
    clear hz hze
    go_wp2
    go_ret2
    exact ⟨rfl, rfl⟩

set_option maxHeartbeats 1000000 in
theorem piece_some (ao : Option Addr) (len cap at' many : Nat) (bs xs r : List UInt8) (w : World) (hlen : bs.length = len) (hc : len ≤ cap) (ha : at' ≤ len) (hm : many ≤ 4) (hb : len ≤ 100000) (hl : Lies w ao (bs.map B)) (h : bytesP many (bs.drop at') = some (xs, r)) :
    Calls Tryz.prog 28 #[.slice ao len cap, .int .i64 at', .int .i64 many] w fun e w' => ∃ v, e = .returned (.tuple #[v, .int .i64 ((at' + many + xs.length : Nat) : Int)]) ∧ OwnB 5 w' w.heap.size v xs ∧ at' + many + xs.length ≤ len ∧ bs.drop (at' + many + xs.length) = r ∧ Below w.heap.size w w' := by
  have HL := Lib.hid hl
  have HLEN := Lib.hid hlen
  have h0 : decide ((at' : Int) < 0) = false := by simp
  obtain ⟨h1, h2⟩ := bytesP_some h
  have hl1 : len - at' = many + (xs.length + r.length) := by
    have := congrArg List.length h1
    rw [List.length_drop, List.length_append, List.length_append, bytesOf_length, hlen] at this
    exact this
  have hnum : numOf ((bs.drop at').take many) = xs.length := by
    rw [h1, List.take_append_of_le_length (by rw [bytesOf_length]; omega), List.take_of_length_le (by rw [bytesOf_length]; omega), numOf_bytesOf _ _ h2]
  have hxs : (bs.drop (at' + many)).take xs.length = xs := by
    rw [← List.drop_drop, h1, List.drop_left' (bytesOf_length _ _), List.take_left' rfl]
  have hr : bs.drop (at' + many + xs.length) = r := by
    rw [← List.drop_drop, ← List.drop_drop, h1, List.drop_left' (bytesOf_length _ _), List.drop_left' rfl]
  have h3 : decide ((at' : Int) > (len : Int) - (many : Int)) = false := by simp; omega
  have HXS := Lib.hid hxs
  have HR := Lib.hid hr
  have HNUM := Lib.hid hnum
  clear hl hlen h h1 hxs hr hnum h2
  go_enter Tryz.func28, Tryz.ntmps28
  go_wp2_with fail
  refine (refnum_ok ao len cap at' many bs _ HLEN.out (by omega) hm (by omega) HL.out).mono ?_
  rintro e w1 ⟨z, rfl, hze, rfl⟩
  have hz : (z.toNat : Int) = (xs.length : Int) := by rw [hze, HNUM.out]
  have hw : IntKind.i64.wrap (xs.length : Int) = (xs.length : Int) := IntWalk.i64_in _ (by omega)
  have h4 : decide ((xs.length : Int) > (len : Int) - (at' : Int) - (many : Int)) = false := by simp; omega
  have hcut := fun (w' : World) => (run_cut (P := Tryz.prog) w' 24 5 Tryz.underlying24 (fun w => by kernel_rfl) ao len cap (at' + many) (at' + many + xs.length) ((at' : Int) + many) ((at' : Int) + many + xs.length) (by omega) (by omega) (by omega) (by omega)).trans (by rw [Nat.add_sub_cancel_left])
  clear hze
  go_wp2_with (refine wpList_build0 rfl 24 rfl Tryz.underlying24 Tryz.infoByteR ?_)
  intro w2 v2 hown2 hbel2
  have HO := Lib.hid hown2
  have HB := Lib.hid hbel2
  have HC := Lib.hid (show Lies w2 (cutAddr ao cap (at' + many)) (xs.map B) by
    have := (HL.out.below hbel2).cutA (cap := cap) (by rw [List.length_map, HLEN.out]; exact hc) (at' + many) xs.length
    rw [← List.map_drop, ← List.map_take, HXS.out] at this
    exact this)
  clear hown2 hbel2
  go_wp2_with (at_builtin; refine wpList_append_bytes rfl 24 (.tmp 32) (.tmp 42) rfl Tryz.underlying24 Tryz.infoByteR rfl HO.out (cutAddr ao cap (at' + many)) xs.length (cap - (at' + many)) xs rfl rfl HC.out (by simp; omega) HB.out.size ?_)
  intro v3 w3 hown3 hg3
  have HB3 := Lib.hid (HO.out.belowGrown HB.out hg3 (Nat.le_refl _) HB.out.size)
  have HO3 := Lib.hid hown3
  clear hown3 hg3 hcut
  go_wp2
  go_ret2
  exact ⟨_, by push_cast; rfl, HO3.out, by omega, HR.out, HB3.out⟩

theorem piece_none_i (ao : Option Addr) (len cap at' many : Nat) (i : Int) (bs : List UInt8) (w : World) (hi : i = (at' : Int)) (hlen : bs.length = len) (ha : at' ≤ len) (hm : many ≤ 4) (hb : len ≤ 100000) (hl : Lies w ao (bs.map B)) (h : bytesP many (bs.drop at') = none) :
    Calls Tryz.prog 28 #[.slice ao len cap, .int .i64 i, .int .i64 many] w fun e w' => e = .returned (.tuple #[.slice none 0 0, .int .i64 (-1)]) ∧ w = w' := by
  subst hi
  exact piece_none ao len cap at' many bs w hlen ha hm hb hl h

theorem piece_some_i (ao : Option Addr) (len cap at' many : Nat) (i : Int) (bs xs r : List UInt8) (w : World) (hi : i = (at' : Int)) (hlen : bs.length = len) (hc : len ≤ cap) (ha : at' ≤ len) (hm : many ≤ 4) (hb : len ≤ 100000) (hl : Lies w ao (bs.map B)) (h : bytesP many (bs.drop at') = some (xs, r)) :
    Calls Tryz.prog 28 #[.slice ao len cap, .int .i64 i, .int .i64 many] w fun e w' => ∃ v a5, e = .returned (.tuple #[v, .int .i64 ((a5 : Nat) : Int)]) ∧ a5 = at' + many + xs.length ∧ OwnB 5 w' w.heap.size v xs ∧ a5 ≤ len ∧ bs.drop a5 = r ∧ Below w.heap.size w w' := by
  subst hi
  refine (piece_some ao len cap at' many bs xs r w hlen hc ha hm hb hl h).mono ?_
  rintro e w' ⟨v, rfl, h1, h2, h3, h4⟩
  exact ⟨v, _, rfl, rfl, h1, h2, h3, h4⟩

end Go.Proofs.YtmpgcilppjkhoaaGreatDoor
