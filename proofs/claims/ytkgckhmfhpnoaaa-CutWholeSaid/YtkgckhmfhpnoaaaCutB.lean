/-
  The walks of cut: the bytes of a cut.
-/
import Derived.Test.YtkgckhmfhpnoaaaCutA
import Derived.Test.YtkgckhmfhpnoaaaMem
namespace Go.Proofs.Ytkgckhmfhpnoaaa
open Go.RowKit Go.Fl Go.Mem

theorem Try.infoByte : (Try.prog.info? 5).map (fun i => (i.zero, i.size, i.bytes)) = some (some (.int .u8 0), 1, 1) := by kernel_rfl

theorem clone_any (ao : Option Addr) (len cap : Nat) (xs : List Value) (w : World) (hlen : xs.length = len) (hb : len ≤ 1099511627776) (hl : Lies w ao xs) (h1 : ∀ u ∈ xs, u.oneCell' = true) :
    Calls Try.prog 24 #[.slice ao len cap] w (Fresh w 5 1 len xs id) := by
  obtain ⟨i0, hi, hz0, hz1, hz2⟩ := info_parts Try.infoByte
  have hq := fun (w : World) => eql_slice_nil (P := Try.prog) w 39 5 ao len cap Try.underlying39
  cases ao with
  | none =>
    have hx : xs = [] := by
      cases xs with
      | nil => rfl
      | cons x xs => obtain ⟨_, _, e, _⟩ := hl 0 x rfl; cases e
    subst hx
    obtain rfl : len = 0 := by simpa using hlen.symm
    clear h1 hl hlen hi hz0 hz1 hz2
    go_enter Try.func24, Try.ntmps24
    go_wp2
    go_ret
    exact ⟨_, rfl, World.ownsRow_nil _ _ _ _, Below.refl _ _⟩
  | some ad =>
    have hown := World.ownsRow_made (size := 1) (e := 5) (base := w.heap.size) w #[] 0 (Nat.le_refl _) (by simp [maxLen]) (by simp)
    have hl2 := (hl.below ((Below.refl w.heap.size w).alloc (Nat.le_refl _) (.cells #[] 5))).news
    have HL := Lib.hid hl2
    have H1 := Lib.hid h1
    have HLEN := Lib.hid hlen
    clear h1 hl hl2 hlen
    go_enter Try.func24, Try.ntmps24
    go_wp2_with (first | (at_builtin; refine wpList_append_own _ rfl _ _ 39 rfl w.heap.size 5 i0 (.int .u8 0) 1 1 Try.underlying39 hi hz0 hz1 hz2 rfl (by decide) _ _ _ rfl hown ad len cap xs rfl ?c1 HL.out H1.out ?c3 ?c4 ?c5 ?_))
    case c1 => rw [HLEN.out]; omega
    case c3 => simp [maxLen]; omega
    case c4 => omega
    case c5 => simp
    intro v' w1 hown' hgrow _
    go_wp2
    go_ret
    refine ⟨v', rfl, ?_, ?_⟩
    · simpa using hown'
    · exact ((Below.refl w.heap.size w).alloc (Nat.le_refl _) _).grown hgrow (by simp) (by intro k hk; simp [Value.ownBlock] at hk; omega)

/-- The bytes of a cut. -/
theorem of_ok (ao : Option Addr) (len cap : Nat) (bs : List UInt8) (re im a n : Nat) (w : World) (hlen : bs.length = len) (hcap : len ≤ cap) (hb : len ≤ 1099511627776) (hl : Lies w ao (bs.map B)) (hcut : cutOf re im len = some (a, n)) :
    Calls Try.prog 16 #[.slice ao len cap, .complex .f64 re im] w (Fresh w 5 1 n (((bs.drop a).take n).map B) fun v => .tuple #[v, .bool true]) := by
  obtain ⟨_, _, han⟩ := cutOf_some hcut
  obtain ⟨i0, hi, hz0, hz1, hz2⟩ := info_parts Try.infoByte
  have hlen2 : (((bs.drop a).take n).map B).length = n := by simp; omega
  have hs := fun (w : World) => run_cut (P := Try.prog) w 39 5 Try.underlying39 (run_size _ i0 1 hi hz1) ao len cap a (a + n) (a : Int) ((a : Int) + n) rfl (by omega) (by omega) (by omega)
  rw [show a + n - a = n by omega] at hs
  have HC := Lib.hid hcut
  have HLEN := Lib.hid hlen2
  have HL := Lib.hid ((Lies.cutA (cap := cap) (hl.below ((Below.refl w.heap.size w).alloc (Nat.le_refl _) (.cells #[.int .i64 len] 3))) (by simp; omega) a n))
  rw [← List.map_drop, ← List.map_take] at HL
  have H1 := Lib.hid (oneCell_B ((bs.drop a).take n))
  clear hlen2 hlen hl hcut hi hz0 hz1 hz2
  go_enter Try.func16, Try.ntmps16
  go_wp2_with fail
  refine (whole_ok re im len a n _ (by omega) HC.out).mono ?_
  rintro e w' ⟨rfl, rfl⟩
  go_wp2_with fail
  refine (clone_any _ n _ _ _ HLEN.out (by omega) HL.out H1.out).mono ?_
  rintro e w' ⟨v, rfl, hown, hbel⟩
  go_wp2_with fail
  go_ret2
  exact ⟨v, rfl, hown.mono (by simp), ((Below.refl w.heap.size w).alloc (Nat.le_refl _) _).trans (hbel.mono (by simp))⟩

theorem of_bad (ao : Option Addr) (len cap : Nat) (re im : Nat) (w : World) (hb : len ≤ 1099511627776) (hcut : cutOf re im len = none) :
    Calls Try.prog 16 #[.slice ao len cap, .complex .f64 re im] w fun e w' => e = .returned (.tuple #[.slice none 0 0, .bool false]) ∧ Below w.heap.size w w' := by
  have HC := Lib.hid hcut
  clear hcut
  go_enter Try.func16, Try.ntmps16
  go_wp2_with fail
  refine (whole_bad re im len _ (by omega) HC.out).mono ?_
  rintro e w' ⟨rfl, rfl⟩
  go_wp2_with fail
  go_ret2
  exact ⟨rfl, (Below.refl w.heap.size w).alloc (Nat.le_refl _) _⟩

end Go.Proofs.Ytkgckhmfhpnoaaa
