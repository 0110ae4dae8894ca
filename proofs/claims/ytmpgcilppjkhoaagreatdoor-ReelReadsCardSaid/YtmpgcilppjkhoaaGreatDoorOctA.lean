/-
  The walks of octet: numbers of bytes.
-/
import Derived.Test.YtmpgcilppjkhoaaGreatDoorRows
import Derived.Test.YtmpgcilppjkhoaaGreatDoorOctPlain
namespace Go.Proofs.YtmpgcilppjkhoaaGreatDoor
open Go.RowKit Go.Mem Go.Ops Go.Cells Go.Oct
set_option linter.unusedSimpArgs false

theorem Tryz.row4 : Row Tryz.prog 96 4 := ⟨by kernel_rfl, by kernel_rfl⟩
theorem Tryz.row8 : Row Tryz.prog 71 8 := ⟨by kernel_rfl, by kernel_rfl⟩
theorem Tryz.row16 : Row Tryz.prog 172 16 := ⟨by kernel_rfl, by kernel_rfl⟩

theorem Tryz.zero16 : (Tryz.prog.info? 172).map (·.zero) = some (some (.agg ((zeros 16).map B).toArray)) := by kernel_rfl
theorem Tryz.zero8 : (Tryz.prog.info? 71).map (·.zero) = some (some (.agg ((zeros 8).map B).toArray)) := by kernel_rfl
theorem Tryz.zero4 : (Tryz.prog.info? 96).map (·.zero) = some (some (.agg ((zeros 4).map B).toArray)) := by kernel_rfl
theorem Tryz.sizeByte : (Tryz.prog.info? 5).map (·.size) = some 1 := by kernel_rfl
theorem putword_ok (n : UInt32) (w : World) :
    Calls Tryz.prog 141 #[W n] w fun e w' => e = .returned (.agg ((putWord n).map B).toArray) ∧ Below w.heap.size w w' := by
  go_enter Tryz.func141, Tryz.ntmps141
  go_wp2
  go_loopw [5] (fun i wr => ∃ (j : Nat) (l : List UInt8), j ≤ 4 ∧ i = .int .i64 j ∧ Filled (fun k => lo32_8 (shr32 n (8 * k))) 4 j l ∧ Blk wr w.heap.size ([0,0,0,0].map B) 96 ∧ Blk wr (w.heap.size + 1) (l.map B) 96 ∧ Below w.heap.size w wr)
    (fun i _ => 4 - (intOf i).toNat)
  case atStart =>
    have h0 := Blk.new (w.alloc (.cells #[.int .u8 0, .int .u8 0, .int .u8 0, .int .u8 0] 96)) ([0,0,0,0].map B) 96
    simp at h0
    exact ⟨0, [0,0,0,0], by omega, rfl, Filled.zero rfl, (Blk.new w ([0,0,0,0].map B) 96).alloc _, h0, ((Below.refl _ _).alloc (Nat.le_refl _) _).alloc (by simp) _⟩
  case round =>
    obtain ⟨j, l, hj, rfl, hL, hbr, hb, hbel⟩ := hrel
    by_cases hlt : j < 4
    · obtain ⟨x, hx⟩ := hL.at hlt
      have hc := hb.cell j _ (mapB_at hx)
      have hf := hb.free j
      have HB := Lib.hid hb
      have HR := Lib.hid hbr
      clear hb hbr hx
      go_wp2
      go_roundw
      case rel => exact ⟨j + 1, _, by omega, rfl, hL.step hlt, HR.out.setOther (by simp) _, mapB_set _ _ _ ▸ HB.out.set j _, hbel.setCell (by simp) _⟩
      case measure => simp [intOf]; omega
    · obtain rfl : j = 4 := by omega
      have HB := Lib.hid hb
      have HR := Lib.hid hbr
      have HL := Lib.hid hL
      clear hb hbr hL
      go_wp2_with (first | (refine HB.out.wload rfl rfl rfl Tryz.row4 (by simp [HL.out.1]) ?_) | (refine HR.out.wstore rfl rfl rfl rfl Tryz.row4 rfl (by simp [HL.out.1]) (oneCell_B _) ?_))
      intro w' hb ho
      go_wp2
      refine hb.result rfl rfl rfl Tryz.row4 (by simp [HL.out.1]) ?_
      rw [HL.out.all]
      exact ⟨rfl, below_only hbel ho (Nat.le_refl _)⟩

theorem putlong_ok (n : UInt64) (w : World) :
    Calls Tryz.prog 31 #[L n] w fun e w' => e = .returned (.agg ((putLong n).map B).toArray) ∧ Below w.heap.size w w' := by
  go_enter Tryz.func31, Tryz.ntmps31
  go_wp2
  go_loopw [5] (fun i wr => ∃ (j : Nat) (l : List UInt8), j ≤ 8 ∧ i = .int .i64 j ∧ Filled (fun k => lo64_8 (shr64 n (8 * k))) 8 j l ∧ Blk wr w.heap.size ([0,0,0,0,0,0,0,0].map B) 71 ∧ Blk wr (w.heap.size + 1) (l.map B) 71 ∧ Below w.heap.size w wr)
    (fun i _ => 8 - (intOf i).toNat)
  case atStart =>
    have h0 := Blk.new (w.alloc (.cells ([0,0,0,0,0,0,0,0].map B).toArray 71)) ([0,0,0,0,0,0,0,0].map B) 71
    simp at h0
    exact ⟨0, [0,0,0,0,0,0,0,0], by omega, rfl, Filled.zero rfl, (Blk.new w ([0,0,0,0,0,0,0,0].map B) 71).alloc _, h0, ((Below.refl _ _).alloc (Nat.le_refl _) _).alloc (by simp) _⟩
  case round =>
    obtain ⟨j, l, hj, rfl, hL, hbr, hb, hbel⟩ := hrel
    by_cases hlt : j < 8
    · obtain ⟨x, hx⟩ := hL.at hlt
      have hc := hb.cell j _ (mapB_at hx)
      have hf := hb.free j
      have HB := Lib.hid hb
      have HR := Lib.hid hbr
      clear hb hbr hx
      go_wp2
      go_roundw
      case rel => exact ⟨j + 1, _, by omega, rfl, hL.step hlt, HR.out.setOther (by simp) _, mapB_set _ _ _ ▸ HB.out.set j _, hbel.setCell (by simp) _⟩
      case measure => simp [intOf]; omega
    · obtain rfl : j = 8 := by omega
      have HB := Lib.hid hb
      have HR := Lib.hid hbr
      have HL := Lib.hid hL
      clear hb hbr hL
      go_wp2_with (first | (refine HB.out.wload rfl rfl rfl Tryz.row8 (by simp [HL.out.1]) ?_) | (refine HR.out.wstore rfl rfl rfl rfl Tryz.row8 rfl (by simp [HL.out.1]) (oneCell_B _) ?_))
      intro w' hb ho
      go_wp2
      refine hb.result rfl rfl rfl Tryz.row8 (by simp [HL.out.1]) ?_
      rw [HL.out.all]
      exact ⟨rfl, below_only hbel ho (Nat.le_refl _)⟩

/-- What 'from' hands back: a closure over two cells. -/
def Tells (w : World) (c1 c2 : Nat) (at' : Nat) (ao : Option Addr) (len cap : Nat) : Prop :=
  w.cell? ⟨c1, 0, none⟩ = some (.int .i64 at') ∧ w.cell? ⟨c2, 0, none⟩ = some (.slice ao len cap)

theorem from_in (c1 c2 : Nat) (ao : Option Addr) (len cap at' k : Nat) (bs : List UInt8) (w : World) (hlen : bs.length = len) (hb : at' ≤ 1099511627776) (hk : k ≤ 1099511627776) (hc : len ≤ 1099511627776) (hl : Lies w ao (bs.map B))
    (ht : Tells w c1 c2 at' ao len cap) :
    Calls Tryz.prog 77 #[.int .i64 k, .pointer (some ⟨c1, 0, none⟩), .pointer (some ⟨c2, 0, none⟩)] w fun e w' => e = .returned (B (at8 bs (at' + k))) ∧ w = w' := by
  obtain ⟨h1, h2⟩ := ht
  by_cases hlt : at' + k < len
  · have hx : bs[at' + k]? = some (at8 bs (at' + k)) := at8_get (by omega)
    generalize at8 bs (at' + k) = x at *
    obtain ⟨b, off, rfl, hcell⟩ := hl _ _ (mapB_at hx)
    clear hl hlen hx
    have ht1 : decide ((at' : Int) > (len : Int) - 1 - k) = false := by simp; omega
    go_enter Tryz.func77, Tryz.ntmps77
    go_wp2
    go_ret
    exact ⟨rfl, rfl⟩
  · have hx : at8 bs (at' + k) = 0 := at8_none (by omega)
    rw [hx]
    clear hl hx hlen
    go_enter Tryz.func77, Tryz.ntmps77
    go_wp2
    go_ret
    exact ⟨rfl, rfl⟩

theorem gather_ok (many : Nat) (c1 c2 : Nat) (ao : Option Addr) (len cap at' : Nat) (bs : List UInt8) (w : World) (hm : many ≤ 8) (hlen : bs.length = len) (hb : at' ≤ 1099511627776) (hc : len ≤ 1099511627776) (hl : Lies w ao (bs.map B))
    (ht : Tells w c1 c2 at' ao len cap) :
    Calls Tryz.prog 55 #[.int .i64 many, .func (.func 77) #[] #[.pointer (some ⟨c1, 0, none⟩), .pointer (some ⟨c2, 0, none⟩)]] w fun e w' => e = .returned (L (gather (fun k => at8 bs (at' + k)) many)) ∧ w = w' := by
  have HLEN := Lib.hid hlen
  have HL := Lib.hid hl
  have HT := Lib.hid ht
  clear hlen hl ht
  go_enter Tryz.func55, Tryz.ntmps55
  go_wp2
  go_loopw [5, 8] (fun n i wr => ∃ j : Nat, j ≤ many ∧ i = .int .i64 j ∧ n = L (gather (fun k => at8 bs (at' + k)) j) ∧ w = wr) (fun _ i _ => many - (intOf i).toNat)
  case atStart => exact ⟨0, Nat.zero_le _, rfl, rfl, rfl⟩
  case round =>
    obtain ⟨j, hj, rfl, rfl, rfl⟩ := hrel
    by_cases hlt : j < many
    · go_wp2_with fail
      refine (from_in c1 c2 ao len cap at' j bs _ HLEN.out hb (by omega) hc HL.out HT.out).mono ?_
      rintro e w1 ⟨rfl, rfl⟩
      go_wp2
      go_roundw
      case rel => exact ⟨j + 1, by omega, rfl, rfl, by trivial⟩
      case measure => simp [intOf]; omega
    · obtain rfl : j = many := by omega
      go_wp2
      go_ret
      exact ⟨rfl, by trivial⟩

/-- 'from' hands back a closure over two new cells. -/
theorem fromfn_ok (ao : Option Addr) (len cap at' : Nat) (w : World) :
    Calls Tryz.prog 56 #[.slice ao len cap, .int .i64 at'] w fun e w' => ∃ c1 c2, e = .returned (.func (.func 77) #[] #[.pointer (some ⟨c1, 0, none⟩), .pointer (some ⟨c2, 0, none⟩)]) ∧ Tells w' c1 c2 at' ao len cap ∧ Below w.heap.size w w' := by
  go_enter Tryz.func56, Tryz.ntmps56
  go_wp2
  go_ret
  exact ⟨_, _, rfl, ⟨by simp, by simp⟩, ((Below.refl _ _).alloc (Nat.le_refl _) _).alloc (by simp) _⟩

theorem word_ok (ao : Option Addr) (len cap at' : Nat) (bs : List UInt8) (w : World) (hlen : bs.length = len) (hb : at' ≤ 1099511627776) (hc : len ≤ 1099511627776) (hl : Lies w ao (bs.map B)) :
    Calls Tryz.prog 142 #[.slice ao len cap, .int .i64 at'] w fun e w' => e = .returned (W (wordL bs at')) ∧ Below w.heap.size w w' := by
  have HLEN := Lib.hid hlen
  have HL := Lib.hid hl
  clear hlen hl
  go_enter Tryz.func142, Tryz.ntmps142
  go_wp2_with fail
  refine (fromfn_ok _ _ _ _ _).mono ?_
  rintro e w1 ⟨c1, c2, rfl, ht, hbel⟩
  have HT := Lib.hid ht
  clear ht
  go_wp2_with fail
  refine (gather_ok 4 c1 c2 ao len cap at' bs _ (by omega) HLEN.out hb hc (HL.out.below hbel) HT.out).mono ?_
  rintro e w2 ⟨rfl, rfl⟩
  go_wp2
  go_ret
  exact ⟨rfl, hbel⟩

theorem long_ok (ao : Option Addr) (len cap at' : Nat) (bs : List UInt8) (w : World) (hlen : bs.length = len) (hb : at' ≤ 1099511627776) (hc : len ≤ 1099511627776) (hl : Lies w ao (bs.map B)) :
    Calls Tryz.prog 46 #[.slice ao len cap, .int .i64 at'] w fun e w' => e = .returned (L (longL bs at')) ∧ Below w.heap.size w w' := by
  have HLEN := Lib.hid hlen
  have HL := Lib.hid hl
  clear hlen hl
  go_enter Tryz.func46, Tryz.ntmps46
  go_wp2_with fail
  refine (fromfn_ok _ _ _ _ _).mono ?_
  rintro e w1 ⟨c1, c2, rfl, ht, hbel⟩
  have HT := Lib.hid ht
  clear ht
  go_wp2_with fail
  refine (gather_ok 8 c1 c2 ao len cap at' bs _ (by omega) HLEN.out hb hc (HL.out.below hbel) HT.out).mono ?_
  rintro e w2 ⟨rfl, rfl⟩
  go_wp2
  go_ret
  exact ⟨rfl, hbel⟩

end Go.Proofs.YtmpgcilppjkhoaaGreatDoor
