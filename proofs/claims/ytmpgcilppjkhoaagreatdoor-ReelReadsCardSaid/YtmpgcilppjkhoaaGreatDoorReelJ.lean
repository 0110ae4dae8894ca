/-
  The walks of a bench that is new: a sector that is read, where no volume is.
-/
import Derived.Test.YtmpgcilppjkhoaaGreatDoorReelZ
import Derived.Test.YtmpgcilppjkhoaaGreatDoorScope
import Derived.Test.YtmpgcilppjkhoaaGreatDoorRegionK
import Derived.Test.YtmpgcilppjkhoaaGreatDoorBuild
namespace Go.Proofs.YtmpgcilppjkhoaaGreatDoor
open Go.RowKit Go.Mem Go.Ops Go.Cells Go.Oct Go.Reel
set_option linter.unusedSimpArgs false
set_option linter.unusedVariables false
set_option maxRecDepth 100000
attribute [local irreducible] walkK

/-- Two blocks are as they were. -/
structure Same2 (a b : Nat) (w w' : World) : Prop where
  one : w'.heap[a]? = w.heap[a]?
  two : w'.heap[b]? = w.heap[b]?
theorem Same2.refl (a b : Nat) (w : World) : Same2 a b w w := ⟨rfl, rfl⟩
theorem Same2.trans {a b : Nat} {u v w : World} (h : Same2 a b u v) (k : Same2 a b v w) : Same2 a b u w := ⟨k.one.trans h.one, k.two.trans h.two⟩
instance (a b : Nat) (w : World) : Nonempty (AfterK (Same2 a b) w) := ⟨⟨w, Same2.refl _ _ w⟩⟩

def zeroOut' : List Value := [.int .i64 0, .int .i64 0, .slice none 0 0]
theorem Tryz.zeroOutJ : (Tryz.prog.info? 48).map (·.zero) = some (some (.agg zeroOut'.toArray)) := by kernel_rfl
theorem Tryz.rowOutJ : Row Tryz.prog 48 3 := ⟨by kernel_rfl, by kernel_rfl⟩
theorem Tryz.sizeErrnoJ : (Tryz.prog.info? 25).map (·.size) = some 1 := by kernel_rfl
theorem Tryz.sizeBytesJ : (Tryz.prog.info? 24).map (·.size) = some 1 := by kernel_rfl

theorem slotsnew_ok (q : Nat) (w : World) : Calls Tryz.prog 39 #[.pointer (some ⟨q, 0, none⟩)] w fun e w' => ∃ hp, e = .returned (.pointer (some ⟨hp, 0, none⟩)) ∧ Below w.heap.size w w' := by
  go_enter Tryz.func39, Tryz.ntmps39
  go_wp2
  go_ret
  exact ⟨_, rfl, later_alloc _ _⟩

/-- A new bench's fields. -/
def benchV (hp q : Nat) : List Value := [.pointer (some ⟨hp, 0, none⟩), .pointer (some ⟨q, 0, none⟩), .pointer none, .pointer none, .pointer none]

theorem benchnew_ok (q : Nat) (w : World) : Calls Tryz.prog 32 #[.pointer (some ⟨q, 0, none⟩)] w fun e w' => ∃ bp hp, e = .returned (.pointer (some ⟨bp, 0, none⟩)) ∧ Blk w' bp (benchV hp q) 88 ∧ Below w.heap.size w w' := by
  go_enter Tryz.func32, Tryz.ntmps32
  go_wp2_with fail
  refine (slotsnew_ok q _).mono ?_
  rintro e w1 ⟨hp, rfl, hbel1⟩
  go_wp2_with (refine wpList_box 88 _ (benchV hp q) _ rfl rfl rfl rfl ?_)
  intro w2 hb2 hbel2
  have HB := Lib.hid hb2
  clear hb2
  go_wp2
  go_ret
  exact ⟨_, hp, rfl, HB.out, hbel1.trans (hbel2.mono hbel1.size)⟩

theorem with_none (n : Int) (f : Value) (w : World) : Calls Tryz.prog 80 #[.pointer none, .int .i64 n, f] w fun e w' => e = .returned (.int .i64 2) ∧ w = w' := by
  go_enter Tryz.func80, Tryz.ntmps80
  go_wp2
  go_ret
  exact ⟨rfl, rfl⟩

theorem volread_none (n : Int) (w : World) : Calls Tryz.prog 59 #[.pointer none, .int .i64 n] w fun e w' => e = .returned (.tuple #[.slice none 0 0, .int .i64 2]) ∧ Below w.heap.size w w' := by
  have hmf : ∀ (fn : Fn) (first cap : Array Value) (w : World), (Instr.makeFunc fn first cap).run Tryz.prog w = .ok (.func fn first cap) w := fun _ _ _ _ => rfl
  go_enter Tryz.func59, Tryz.ntmps59
  go_wp2_with fail
  refine (with_none n _ _).mono ?_
  rintro e w1 ⟨rfl, rfl⟩
  go_wp2
  go_ret2
  exact ⟨rfl, (((Below.refl _ _).alloc (Nat.le_refl _) _).alloc (by simp) _).alloc (by simp; omega) _⟩

set_option maxHeartbeats 4000000 in
theorem volumes_read (bp hp q : Nat) (x : Opr) (w : World) (hb : Blk w bp (benchV hp q) 88) (hk : x.c.kind = 3) :
    Calls Tryz.prog 49 #[.pointer (some ⟨bp, 0, none⟩), .agg x.vals.toArray] w fun e w' => e = .returned (.agg #[.int .i64 2, .int .i64 0, .slice none 0 0]) ∧ Below w.heap.size w w' := by
  have HK := Lib.hid hk
  have HB := Lib.hid hb
  have hbl := hb.lt
  have HS := Lib.hid (St.start w)
  clear hk hb
  go_enter Tryz.func49, Tryz.ntmps49
  go_wp2_with (refine wpList_box 39 _ x.vals _ rfl rfl rfl rfl ?_)
  intro w1 hb hbel; have HS := Lib.hid (HS.out.push hb hbel); have HB := Lib.hid (HB.out.below hbel hbl); have hlt1 := hb.lt; clear hb hbel
  go_wp2_with (refine wpList_var 48 zeroOut' _ rfl rfl Tryz.zeroOutJ rfl ?_)
  intro w2 hb hbel; have HS := Lib.hid (HS.out.push hb hbel); have HB := Lib.hid (HB.out.below hbel HB.out.lt); have hlt2 := hb.lt; clear hb hbel
  generalize hbb : w.heap.size = bb at *
  generalize w1.heap.size = br at *
  have HBB := Lib.hid hbb
  clear hbb
  have c0 := (HS.out.get 1 rfl).cell 0 (.int .i64 3) (by rw [← HK.out]; rfl)
  have b2 := fun (x' : AfterK (Same2 bp bb) w2.drew) => (show Blk x'.val bp (benchV hp q) 88 from x'.rel.one.trans HB.out).cell 2 _ rfl
  have x2 := fun (x' : AfterK (Same2 bp bb) w2.drew) => (show Blk x'.val bb x.vals 39 from x'.rel.two.trans (HS.out.get 1 rfl)).cell 2 _ rfl
  go_wp2_with fail
  refine wp_region_K (Same2 bp bb) [] [(0, true), (1, true), (2, true), (3, true), (4, true), (5, true), (6, false), (7, true), (8, true), (9, true), (10, true), (11, false), (12, true), (13, false)] (Same2.refl _ _) (fun _ _ _ => Same2.trans) (by kernel_rfl) (by kernel_rfl) ?_
  rintro w4 rfl
  repeat ((first | refine walkK_one rfl rfl (fun K hK => ?_) | refine walkK_alone (Keeps.refl _ _) rfl rfl (fun K hK => ?_) | refine walkK_alone (Same2.refl _ _) rfl rfl (fun K hK => ?_)); go_big_quiet_step (fail); refine wpQuiet_nil (hK _ ?_); clear hK K)
  clear b2 x2 c0
  refine walkK_free rfl (by rfl) (fun K hK => ?_)
  go_simp
  refine (volread_none x.c.n _).mono ?_
  rintro e w5 ⟨rfl, hbel5⟩
  have HS := Lib.hid (HS.out.drew.later hbel5)
  have hs2 : Same2 bp bb w2.drew w5 := ⟨hbel5.block bp HB.out.lt, hbel5.block bb (Nat.lt_trans hlt1 hlt2)⟩
  go_simp
  refine hK _ _ (fun _ => hs2) ?_
  clear hK K hbel5 hs2
  repeat ((first | refine walkK_one rfl rfl (fun K hK => ?_) | refine walkK_alone (Keeps.refl _ _) rfl rfl (fun K hK => ?_) | refine walkK_alone (Same2.refl _ _) rfl rfl (fun K hK => ?_)); go_big_quiet_step (fail); refine wpQuiet_nil (hK _ ?_); clear hK K)
  refine walkK_free rfl (by rfl) (fun K hK => ?_)
  refine (HS.out.get 0 rfl).opset (i := 2) (v := .slice none 0 0) rfl rfl rfl Tryz.sizeBytesJ rfl rfl (by simp [zeroOut']) (fun w6 hb6 ho6 => hK _ _ (fun _ => ⟨ho6.block bp (by omega), ho6.block bb (by omega)⟩) ?_)
  clear hK K
  have HS := Lib.hid (HS.out.change 0 hb6 ho6 (by omega) (by simp; omega))
  clear hb6 ho6
  go_simp
  repeat ((first | refine walkK_one rfl rfl (fun K hK => ?_) | refine walkK_alone (Keeps.refl _ _) rfl rfl (fun K hK => ?_) | refine walkK_alone (Same2.refl _ _) rfl rfl (fun K hK => ?_)); go_big_quiet_step (fail); refine wpQuiet_nil (hK _ ?_); clear hK K)
  refine walkK_free rfl (by rfl) (fun K hK => ?_)
  refine (HS.out.get 0 rfl).opset (i := 0) (v := .int .i64 2) rfl rfl rfl Tryz.sizeErrnoJ rfl rfl (by simp [zeroOut']) (fun w7 hb7 ho7 => hK _ _ (fun _ => ⟨ho7.block bp (by omega), ho7.block bb (by omega)⟩) ?_)
  clear hK K
  have HB7 := Lib.hid hb7
  have HEL := Lib.hid (below_only HS.out.bel ho7 (by omega))
  clear hb7 ho7
  go_simp
  refine walkK_nil ?_
  go_wp2_with (first | (refine HB7.out.wload rfl rfl rfl Tryz.rowOutJ rfl ?_) | (refine HB7.out.wstore rfl rfl rfl (cs := [.int .i64 2, .int .i64 0, .slice none 0 0]) rfl Tryz.rowOutJ rfl rfl (by intro v hv; simp at hv; rcases hv with rfl | rfl | rfl <;> rfl) ?_))
  intro w8 hb8 ho8
  have HB8 := Lib.hid hb8
  have HEL := Lib.hid (below_only HEL.out ho8 (by omega))
  clear hb8 ho8
  go_wp2
  refine HB8.out.result rfl rfl rfl Tryz.rowOutJ rfl ⟨rfl, ?_⟩
  rw [HBB.out]
  exact HEL.out

set_option maxHeartbeats 4000000 in
theorem do_read (bp hp q : Nat) (x : Opr) (w : World) (hb : Blk w bp (benchV hp q) 88) (hk : x.c.kind = 3) :
    Calls Tryz.prog 40 #[.pointer (some ⟨bp, 0, none⟩), .agg x.vals.toArray] w fun e w' => e = .returned (.agg #[.int .i64 2, .int .i64 0, .slice none 0 0]) ∧ Below w.heap.size w w' := by
  have HK := Lib.hid hk
  have HB := Lib.hid hb
  have hbl := hb.lt
  have HS := Lib.hid (St.start w)
  clear hk hb
  go_enter Tryz.func40, Tryz.ntmps40
  go_wp2_with (refine wpList_box 39 _ x.vals _ rfl rfl rfl rfl ?_)
  intro w1 hb hbel; have HS := Lib.hid (HS.out.push hb hbel); have HB := Lib.hid (HB.out.below hbel hbl); have hlt1 := hb.lt; clear hb hbel
  go_wp2_with (refine wpList_var 48 zeroOut' _ rfl rfl Tryz.zeroOutJ rfl ?_)
  intro w2 hb hbel; have HS := Lib.hid (HS.out.push hb hbel); have HB := Lib.hid (HB.out.below hbel HB.out.lt); have hlt2 := hb.lt; clear hb hbel
  generalize hbb : w.heap.size = bb at *
  generalize w1.heap.size = br at *
  have HBB := Lib.hid hbb
  clear hbb
  have c0 := (HS.out.get 1 rfl).cell 0 (.int .i64 3) (by rw [← HK.out]; rfl)
  have HX := Lib.hid (HS.out.get 1 rfl)
  go_wp2_with (refine HX.out.wload rfl rfl rfl Tryz.rowOp rfl ?_)
  clear c0
  go_wp2_with fail
  refine (volumes_read bp hp q x _ HB.out HK.out).mono ?_
  rintro e w5 ⟨rfl, hbel5⟩
  have HS := Lib.hid (HS.out.later hbel5)
  clear hbel5
  go_wp2_with (refine (HS.out.get 0 rfl).wstore rfl rfl rfl (cs := [.int .i64 2, .int .i64 0, .slice none 0 0]) rfl Tryz.rowOutJ rfl rfl (by intro v hv; simp at hv; rcases hv with rfl | rfl | rfl <;> rfl) ?_)
  intro w7 hb7 ho7
  have HB7 := Lib.hid hb7
  have HEL := Lib.hid (below_only HS.out.bel ho7 (by omega))
  clear hb7 ho7
  go_wp2
  refine HB7.out.result rfl rfl rfl Tryz.rowOutJ rfl ⟨rfl, ?_⟩
  rw [HBB.out]
  exact HEL.out

end Go.Proofs.YtmpgcilppjkhoaaGreatDoor
