/-
  Texts of this claim, one behind the other: EzkD RegionT EzhB EztA.
-/
import Derived.Test.YtbpghohkhngdfaaGreatDoorM12
import Derived.Test.YtbpghohkhngdfaaGreatDoorM9
import Derived.Test.YtbpghohkhngdfaaGreatDoorM3
import Derived.Test.YtbpghohkhngdfaaGreatDoorM10
import Derived.Laws.Tables
import Derived.RangeFuncNested
import Derived.OrdersIn
import Derived.RangeFuncCalls
import Derived.RangeFuncLeaves
import Derived.RangeFuncFrom
import Derived.RangeFuncBound
import Derived.Shelf.Abstract
import Derived.OwnWalkIn
import Derived.TacticsInMore
import Derived.LoopNIn
import Derived.LoopIn
/-
  The walks of blake's sum of bytes, and of a key's parts.
-/
namespace Go.Proofs.YtbpghohkhngdfaaGreatDoor
open Go.RowKit Go.Mem Go.Ops Go.Cells Go.Oct Go.Gf Go.Trn Go.Aes Go.Ring Go.Ezk Go.Blake Go.Aez
set_option linter.unusedSimpArgs false
set_option linter.unusedVariables false
set_option maxRecDepth 100000
attribute [local irreducible] walkR walkP walk0 walkB walkK

theorem bsum_ok (ao : Option Addr) (n cap : Nat) (b : List UInt8) (w : World) (hn : b.length = n) (hn1 : n ≤ 128) (hc : n ≤ cap) (hl : Lies w ao (b.map B)) (hg : BGlob w) :
    Calls Tryz.prog 118 #[.int .i64 48, .slice none 0 0, .slice ao n cap] w fun e w' => ∃ a c, e = .returned (.tuple #[.slice a 48 c, .int .i64 0]) ∧ 48 ≤ c ∧ Lies w' a ((sum48 b).map B) ∧ Below w.heap.size w w' := by
  have HN := Lib.hid hn
  have HL := Lib.hid hl
  have HG := Lib.hid hg
  clear hn hl hg
  go_enter Tryz.func118, Tryz.ntmps118
  go_wp2_with fail
  refine (hnew_ok _ HG.out).mono ?_
  rintro e w1 ⟨ph, rfl, hph, hb1, hbel1⟩
  have HP := Lib.hid hb1
  have HB := Lib.hid hbel1
  clear hb1 hbel1
  go_wp2_with fail
  refine (hwrite_ok ph headB ao n cap b _ HP.out rfl HN.out hn1 (HL.out.below HB.out)).mono ?_
  rintro e w2 ⟨⟨v2, rfl⟩, ao2, cap2, hc2, hb2, hl2, ho2⟩
  have HG := Lib.hid (HG.out.below (below_onlyB HB.out ho2 hph HB.out.size))
  have HB := Lib.hid (below_onlyB HB.out ho2 hph HB.out.size)
  have HP := Lib.hid hb2
  have HL := Lib.hid hl2
  clear hb2 hl2 ho2
  go_wp2_with fail
  refine (hsum_ok ph ao2 n cap2 b _ HP.out HN.out hn1 hc2 HL.out HG.out).mono ?_
  rintro e w3 ⟨a3, c3, rfl, hc3, hl3, hbel3⟩
  have HL := Lib.hid hl3
  have HB := Lib.hid (HB.out.trans (hbel3.mono HB.out.size))
  clear hl3 hbel3
  go_wp2
  go_ret2
  exact ⟨a3, c3, rfl, hc3, HL.out, HB.out⟩

theorem list16 {l : List UInt8} (h : l.length = 16) : ∃ a0 a1 a2 a3 a4 a5 a6 a7 a8 a9 a10 a11 a12 a13 a14 a15, l = [a0, a1, a2, a3, a4, a5, a6, a7, a8, a9, a10, a11, a12, a13, a14, a15] := by
  match l, h with
  | [a0, a1, a2, a3, a4, a5, a6, a7, a8, a9, a10, a11, a12, a13, a14, a15], _ => exact ⟨_, _, _, _, _, _, _, _, _, _, _, _, _, _, _, _, rfl⟩
theorem built_keys (q : Nat) (i j l : List UInt8) (hi : i.length = 16) (hj : j.length = 16) (hl : l.length = 16) :
    Tryz.prog.built 180 [(0, .pointer (some ⟨q, 0, none⟩)), (1, .agg (i.map B).toArray), (2, .agg (j.map B).toArray), (3, .agg (l.map B).toArray)] = some (.pointer (some ⟨q, 0, none⟩) :: (i ++ j ++ l).map B).toArray := by
  obtain ⟨a0, a1, a2, a3, a4, a5, a6, a7, a8, a9, a10, a11, a12, a13, a14, a15, rfl⟩ := list16 hi
  obtain ⟨b0, b1, b2, b3, b4, b5, b6, b7, b8, b9, b10, b11, b12, b13, b14, b15, rfl⟩ := list16 hj
  obtain ⟨c0, c1, c2, c3, c4, c5, c6, c7, c8, c9, c10, c11, c12, c13, c14, c15, rfl⟩ := list16 hl
  kernel_rfl

theorem extract_bad (q : Nat) (ao : Option Addr) (n cap : Nat) (w : World) (hn : n = 0 ∨ 128 < n) : Calls Tryz.prog 72 #[.pointer (some ⟨q, 0, none⟩), .slice ao n cap] w fun e w' => e = .returned (.tuple #[.pointer none, .int .i64 2]) ∧ w = w' := by
  rcases hn with rfl | hn
  · go_enter Tryz.func72, Tryz.ntmps72
    go_wp2
    go_ret2
    exact ⟨rfl, rfl⟩
  · have h0 : ((n : Int) == 0) = false := by simp; omega
    go_enter Tryz.func72, Tryz.ntmps72
    go_wp2
    go_ret2
    exact ⟨rfl, rfl⟩

theorem walkR_build {P : Program} {ops : Array Oper} {Q : Exit → Act → World → Prop} {i : Nat} {r : List Nat} {o : Oper} {a : Act} {w : World} (ho : ops[i]? = some o) (hk : o.kindR = 0) (hw : Region.wanted o (yielded ops a.tmps) = true)
    (t : TypeId) (parts : Array (Nat × Operand)) (vs : List (Nat × Value)) (cells : Array Value) (hop : o.op = .build t parts) (hp' : (parts.toList.map fun p => (p.1, a.eval p.2)) = vs) (hb : P.built t vs = some cells)
    (h : ∀ K : Act → Prop, (∀ a', walkR P ops Q r a' w → K a') → K (a.put o.dst (.agg cells))) : walkR P ops Q (i :: r) a w := by
  have hp : (parts.map fun (i, x) => (i, a.eval x)) = vs.toArray := by
    apply Array.toList_inj.1
    rw [Array.toList_map]
    exact hp'
  refine walkR_yes ho hk hw (fun w' _ => ?_) h
  have hrun := run_build (P := P) w' t vs.toArray cells (by simpa using hb)
  unfold execOp
  simp only [hop, hp, Sem.run_bind, hrun, Result.andThen_ok, Sem.run_pure]
theorem opbox {P : Program} {w : World} {o : Oper} {a : Act} {K : Act → World → Prop} {Q : Exit → Act → World → Prop} (t : TypeId) (x : Operand) (vs : List Value) (v : Value)
    (ho : o.op = .box t x) (hx : a.eval x = v) (hv : v.cells = vs.toArray)
    (k : ∀ w', Blk w' w.heap.size vs t → Below w.heap.size w w' → K (a.put o.dst (.pointer (some ⟨w.heap.size, 0, none⟩))) w') : o.wp P a w K Q := by
  have hk := k (w.alloc (.cells vs.toArray t)) (Blk.new w vs t) (later_alloc w _)
  unfold Oper.wp
  simp [execOp, ho, Instr.box, hx, newVar, newRow, hv]
  exact hk

set_option maxHeartbeats 1000000 in
theorem extract_ok (q p : Nat) (ao : Option Addr) (n cap : Nat) (b : List UInt8) (w : World) (hb : b.length = n) (hn0 : 0 < n) (hn1 : n ≤ 128) (hc : n ≤ cap) (hl : Lies w ao (b.map B)) (ht : Tab w q p) (hg : BGlob w) :
    Calls Tryz.prog 72 #[.pointer (some ⟨q, 0, none⟩), .slice ao n cap] w fun e w' => ∃ kp, e = .returned (.tuple #[.pointer (some ⟨kp, 0, none⟩), .int .i64 0]) ∧ EKey w' kp q p (keyParts b) ∧ w.heap.size ≤ kp ∧ Below w.heap.size w w' := by
  have HBN := Lib.hid hb
  have HL := Lib.hid hl
  have HT := Lib.hid ht
  have HG := Lib.hid hg
  have HBE := Lib.hid (Below.refl w.heap.size w)
  by_cases h48 : n = 48
  · subst h48
    obtain ⟨key, hkey⟩ : ∃ key, key = b := ⟨_, rfl⟩
    have HKP := Lib.hid (show keyParts b = ⟨block key, block (key.drop 16), block (key.drop 32)⟩ ∧ True from ⟨by unfold keyParts key48; rw [if_pos hb, hkey], trivial⟩)
    obtain ⟨ki, hki⟩ : ∃ ki, ki = block key := ⟨_, rfl⟩
    obtain ⟨kj, hkj⟩ : ∃ ki, ki = block (key.drop 16) := ⟨_, rfl⟩
    obtain ⟨kl, hkl⟩ : ∃ ki, ki = block (key.drop 32) := ⟨_, rfl⟩
    rw [HKP.out.1, ← hki, ← hkj, ← hkl]
    have HKI := Lib.hid (show block key = ki ∧ block (key.drop 16) = kj ∧ block (key.drop 32) = kl from ⟨hki.symm, hkj.symm, hkl.symm⟩)
    have HI := Lib.hid (show ki.length = 16 by rw [hki]; exact block_length _)
    have HJ := Lib.hid (show kj.length = 16 by rw [hkj]; exact block_length _)
    have HK := Lib.hid (show kl.length = 16 by rw [hkl]; exact block_length _)
    clear hki hkj hkl
    have HN := Lib.hid (show key.length = 48 by rw [hkey]; exact hb)
    have HL := Lib.hid (show Lies w ao (key.map B) by rw [hkey]; exact hl)
    clear hb hl ht hg hkey HBN HKP
    go_enter Tryz.func72, Tryz.ntmps72
    have hs1 := fun w => run_cut_low (P := Tryz.prog) w 22 5 1 Tryz.underlying22 Tryz.sizeByte ao 48 cap 16 16 rfl (by omega)
    have hs2 := fun w => run_cut_low (P := Tryz.prog) w 22 5 1 Tryz.underlying22 Tryz.sizeByte ao 48 cap 32 32 rfl (by omega)
    go_wp2_with fail
    refine wp_region_R [0, 1, 3, 4, 6, 7, 2, 5, 8, 9, 10, 11, 12] (by kernel_rfl) (by kernel_rfl) ?_
    rintro w1 rfl
    have HL := Lib.hid (HL.out.below (Below.refl _ _).drew)
    have HT := Lib.hid (HT.out.below (Below.refl _ _).drew (Nat.le_refl _))
    have HBE := Lib.hid HBE.out.drew
    repeat (refine walkR_one rfl rfl (fun K hK => ?_); go_big_quiet_step (fail); refine wpQuiet_nil (hK _ ?_); clear hK K)
    refine walkR_call rfl rfl (by rfl) (fun K hK => ?_)
    go_simp
    refine (block_ok ao 48 cap key _ HN.out HL.out).mono ?_
    rintro e w2 ⟨rfl, hbel2⟩
    rw [HKI.out.1]
    have HL := Lib.hid (HL.out.below hbel2)
    have HT := Lib.hid (HT.out.below hbel2 (Nat.le_refl _))
    have HBE := Lib.hid (HBE.out.trans (hbel2.mono HBE.out.size))
    go_simp
    refine hK _ _ hbel2 ?_
    clear hK K hbel2
    have HCP := Lib.hid hc
    refine walkR_call rfl rfl (by rfl) (fun K hK => ?_)
    go_simp
    refine (block_ok (cutAddr ao cap 16) 32 (cap - 16) (key.drop 16) _ (by rw [List.length_drop, HN.out]) (Lies.dropA HL.out (by rw [HN.out]; exact HCP.out) 16)).mono ?_
    rintro e w3 ⟨rfl, hbel3⟩
    rw [HKI.out.2.1]
    have HL := Lib.hid (HL.out.below hbel3)
    have HT := Lib.hid (HT.out.below hbel3 (Nat.le_refl _))
    have HBE := Lib.hid (HBE.out.trans (hbel3.mono HBE.out.size))
    go_simp
    refine hK _ _ hbel3 ?_
    clear hK K hbel3
    refine walkR_call rfl rfl (by rfl) (fun K hK => ?_)
    go_simp
    refine (block_ok (cutAddr ao cap 32) 16 (cap - 32) (key.drop 32) _ (by rw [List.length_drop, HN.out]) (Lies.dropA HL.out (by rw [HN.out]; exact HCP.out) 32)).mono ?_
    rintro e w4 ⟨rfl, hbel4⟩
    rw [HKI.out.2.2]
    have HT := Lib.hid (HT.out.below hbel4 (Nat.le_refl _))
    have HBE := Lib.hid (HBE.out.trans (hbel4.mono HBE.out.size))
    go_simp
    refine hK _ _ hbel4 ?_
    clear hK K hbel4
    refine walkR_build rfl rfl (by rfl) 180 _ _ _ rfl rfl (built_keys q ki kj kl HI.out HJ.out HK.out) (fun K hK => ?_)
    refine hK _ ?_
    clear hK K
    go_simp
    refine walkR_call rfl rfl (by rfl) (fun K hK => ?_)
    refine opbox 180 _ (.pointer (some ⟨q, 0, none⟩) :: (ki.map B ++ (kj.map B ++ kl.map B))) _ rfl rfl rfl ?_
    intro w5 hb5 hbel5
    have HT := Lib.hid (HT.out.below hbel5 (Nat.le_refl _))
    have hsz := HBE.out.size
    have HBE := Lib.hid (HBE.out.trans (hbel5.mono HBE.out.size))
    rw [show (Value.pointer (some ⟨q, 0, none⟩) :: (ki.map B ++ (kj.map B ++ kl.map B))) = .pointer (some ⟨q, 0, none⟩) :: (ki ++ kj ++ kl).map B by simp only [List.map_append, List.append_assoc]] at hb5
    have HB5 := Lib.hid hb5
    refine hK _ _ hbel5 ?_
    clear hK K hbel5 hb5
    go_simp
    repeat (refine walkR_one rfl rfl (fun K hK => ?_); go_big_quiet_step (fail); refine wpQuiet_nil (hK _ ?_); clear hK K)
    refine walkR_nil ?_
    go_wp2
    go_ret2
    exact ⟨_, rfl, ⟨HT.out, ⟨HI.out, HJ.out, HK.out⟩, HB5.out⟩, hsz, HBE.out⟩
  · obtain ⟨key, hkey⟩ : ∃ key, key = sum48 b := ⟨_, rfl⟩
    have HKP := Lib.hid (show keyParts b = ⟨block key, block (key.drop 16), block (key.drop 32)⟩ ∧ True from ⟨by unfold keyParts key48; rw [if_neg (by rw [hb]; exact h48), hkey], trivial⟩)
    obtain ⟨ki, hki⟩ : ∃ ki, ki = block key := ⟨_, rfl⟩
    obtain ⟨kj, hkj⟩ : ∃ ki, ki = block (key.drop 16) := ⟨_, rfl⟩
    obtain ⟨kl, hkl⟩ : ∃ ki, ki = block (key.drop 32) := ⟨_, rfl⟩
    rw [HKP.out.1, ← hki, ← hkj, ← hkl]
    have HKI := Lib.hid (show block key = ki ∧ block (key.drop 16) = kj ∧ block (key.drop 32) = kl from ⟨hki.symm, hkj.symm, hkl.symm⟩)
    have HI := Lib.hid (show ki.length = 16 by rw [hki]; exact block_length _)
    have HJ := Lib.hid (show kj.length = 16 by rw [hkj]; exact block_length _)
    have HK := Lib.hid (show kl.length = 16 by rw [hkl]; exact block_length _)
    clear hki hkj hkl
    have HN := Lib.hid (show key.length = 48 by rw [hkey]; exact sum48_length b)
    have HKE := Lib.hid (show key = sum48 b ∧ True from ⟨hkey, trivial⟩)
    have h0 : ((n : Int) == 0) = false := by simp; omega
    have h1 : ((n : Int) == 48) = false := by simp; omega
    clear hb hl ht hg hkey HKP
    go_enter Tryz.func72, Tryz.ntmps72
    go_wp2_with fail
    refine (bsum_ok ao n cap b _ HBN.out hn1 hc HL.out HG.out).mono ?_
    rintro e w0 ⟨a0, c0, rfl, hc0, hl0, hbel0⟩
    rw [← HKE.out.1] at hl0
    have HL := Lib.hid hl0
    have HT := Lib.hid (HT.out.below hbel0 (Nat.le_refl _))
    have HBE := Lib.hid hbel0
    have hc : 48 ≤ c0 := hc0
    clear hl0 hbel0 h0 h1 HKE
    have hs1 := fun w => run_cut_low (P := Tryz.prog) w 22 5 1 Tryz.underlying22 Tryz.sizeByte a0 48 c0 16 16 rfl (by omega)
    have hs2 := fun w => run_cut_low (P := Tryz.prog) w 22 5 1 Tryz.underlying22 Tryz.sizeByte a0 48 c0 32 32 rfl (by omega)
    go_wp2_with fail
    refine wp_region_R [0, 1, 3, 4, 6, 7, 2, 5, 8, 9, 10, 11, 12] (by kernel_rfl) (by kernel_rfl) ?_
    rintro w1 rfl
    have HL := Lib.hid (HL.out.below (Below.refl _ _).drew)
    have HT := Lib.hid (HT.out.below (Below.refl _ _).drew (Nat.le_refl _))
    have HBE := Lib.hid HBE.out.drew
    repeat (refine walkR_one rfl rfl (fun K hK => ?_); go_big_quiet_step (fail); refine wpQuiet_nil (hK _ ?_); clear hK K)
    refine walkR_call rfl rfl (by rfl) (fun K hK => ?_)
    go_simp
    refine (block_ok a0 48 c0 key _ HN.out HL.out).mono ?_
    rintro e w2 ⟨rfl, hbel2⟩
    rw [HKI.out.1]
    have HL := Lib.hid (HL.out.below hbel2)
    have HT := Lib.hid (HT.out.below hbel2 (Nat.le_refl _))
    have HBE := Lib.hid (HBE.out.trans (hbel2.mono HBE.out.size))
    go_simp
    refine hK _ _ hbel2 ?_
    clear hK K hbel2
    have HCP := Lib.hid hc
    refine walkR_call rfl rfl (by rfl) (fun K hK => ?_)
    go_simp
    refine (block_ok (cutAddr a0 c0 16) 32 (c0 - 16) (key.drop 16) _ (by rw [List.length_drop, HN.out]) (Lies.dropA HL.out (by rw [HN.out]; exact HCP.out) 16)).mono ?_
    rintro e w3 ⟨rfl, hbel3⟩
    rw [HKI.out.2.1]
    have HL := Lib.hid (HL.out.below hbel3)
    have HT := Lib.hid (HT.out.below hbel3 (Nat.le_refl _))
    have HBE := Lib.hid (HBE.out.trans (hbel3.mono HBE.out.size))
    go_simp
    refine hK _ _ hbel3 ?_
    clear hK K hbel3
    refine walkR_call rfl rfl (by rfl) (fun K hK => ?_)
    go_simp
    refine (block_ok (cutAddr a0 c0 32) 16 (c0 - 32) (key.drop 32) _ (by rw [List.length_drop, HN.out]) (Lies.dropA HL.out (by rw [HN.out]; exact HCP.out) 32)).mono ?_
    rintro e w4 ⟨rfl, hbel4⟩
    rw [HKI.out.2.2]
    have HT := Lib.hid (HT.out.below hbel4 (Nat.le_refl _))
    have HBE := Lib.hid (HBE.out.trans (hbel4.mono HBE.out.size))
    go_simp
    refine hK _ _ hbel4 ?_
    clear hK K hbel4
    refine walkR_build rfl rfl (by rfl) 180 _ _ _ rfl rfl (built_keys q ki kj kl HI.out HJ.out HK.out) (fun K hK => ?_)
    refine hK _ ?_
    clear hK K
    go_simp
    refine walkR_call rfl rfl (by rfl) (fun K hK => ?_)
    refine opbox 180 _ (.pointer (some ⟨q, 0, none⟩) :: (ki.map B ++ (kj.map B ++ kl.map B))) _ rfl rfl rfl ?_
    intro w5 hb5 hbel5
    have HT := Lib.hid (HT.out.below hbel5 (Nat.le_refl _))
    have hsz := HBE.out.size
    have HBE := Lib.hid (HBE.out.trans (hbel5.mono HBE.out.size))
    rw [show (Value.pointer (some ⟨q, 0, none⟩) :: (ki.map B ++ (kj.map B ++ kl.map B))) = .pointer (some ⟨q, 0, none⟩) :: (ki ++ kj ++ kl).map B by simp only [List.map_append, List.append_assoc]] at hb5
    have HB5 := Lib.hid hb5
    refine hK _ _ hbel5 ?_
    clear hK K hbel5 hb5
    go_simp
    repeat (refine walkR_one rfl rfl (fun K hK => ?_); go_big_quiet_step (fail); refine wpQuiet_nil (hK _ ?_); clear hK K)
    refine walkR_nil ?_
    go_wp2
    go_ret2
    exact ⟨_, rfl, ⟨HT.out, ⟨HI.out, HJ.out, HK.out⟩, HB5.out⟩, hsz, HBE.out⟩

end Go.Proofs.YtbpghohkhngdfaaGreatDoor
/-
  A region that draws its order, in a round of a range over a function: by the walk in the order that is given. No program.
-/
namespace Go
open Go.RowKit

/-- Only a normal end. -/
def Norm (R : Act → World → Prop) : Exit → Act → World → Prop
  | .normal, a, w => R a w
  | _, _, _ => False
def Oper.noDefer (o : Oper) : Bool := match o.op with
  | .defer _ => false
  | _ => true
theorem Oper.noDefer_spec {o : Oper} (h : o.noDefer = true) : ∀ c, o.op ≠ .defer c := by
  intro c hc
  unfold Oper.noDefer at h
  rw [hc] at h
  cases h

section
variable {P : Program} {ops : Array Oper} {md : Region.Mode} {l n : Nat}
theorem oper_in_round {o : Oper} {a : Act} {w : World} {K K' : Act → World → Prop} {R : Act → World → Prop} {Q : Exit → Act → World → Prop} (hd : o.noDefer = true) (hk : ∀ a w, K a w → K' a w)
    (h : o.wp P a w K (NoPanic (Norm R))) : o.wpIn (Fence.wide.inRound l) n P a w K' Q := by
  refine ⟨fun _ _ => trivial, ?_⟩
  rw [Oper.semAt_eq _ _ _ (Oper.noDefer_spec hd)]
  unfold Oper.wp at h
  generalize (execOp a.eval o).run P w = r at h
  match r, h with
  | .ok (.value v) w', h => exact hk _ _ h
  | .ok .skip w', h => exact hk _ _ h
  | .ok (.defer d) w', h => exact hk _ _ h
  | .ok (.enter f args) w', h =>
    refine ⟨fun hh => (by cases hh), ?_⟩
    refine CallsIn.inRound l (callsIn_wide.2 (Calls.mono h ?_))
    intro e w2 he
    cases e with
    | returned v => exact hk _ _ he
    | panicked c => exact (he : False).elim
    | outgrown => obtain ⟨_, _, hf⟩ := he; exact (hf : False).elim
  | .ok (.row row args) w', h =>
    refine ⟨fun hh => (by cases hh), ?_⟩
    intro c cs _
    obtain ⟨v, w2, hr, hs⟩ := h c cs
    exact ⟨v, w2, hk _ _ hr, stepsIn_wide.2 hs⟩
  | .halt (.panic v) w', h => exact (h : False).elim

theorem oper_wide {o : Oper} {a : Act} {w : World} {K K' : Act → World → Prop} {R : Act → World → Prop} {Q : Exit → Act → World → Prop} (hk : ∀ a w, K a w → K' a w) (h : o.wp P a w K (Norm R)) : o.wpIn Fence.wide n P a w K' Q := by
  refine ⟨fun _ _ => trivial, ?_⟩
  show o.uponIn Fence.wide n P a K' Q ((execOp a.eval o).run P w)
  unfold Oper.wp at h
  generalize (execOp a.eval o).run P w = r at h
  match r, h with
  | .ok (.value v) w', h => exact hk _ _ h
  | .ok .skip w', h => exact hk _ _ h
  | .ok (.defer d) w', h => exact hk _ _ h
  | .ok (.enter f args) w', h =>
    refine ⟨fun hh => (by cases hh), ?_⟩
    refine callsIn_wide.2 (Calls.mono h ?_)
    intro e w2 he
    cases e with
    | returned v => exact hk _ _ he
    | panicked c => exact (he : False).elim
    | outgrown => obtain ⟨_, _, hf⟩ := he; exact (hf : False).elim
  | .ok (.row row args) w', h =>
    refine ⟨fun hh => (by cases hh), ?_⟩
    intro c cs _
    obtain ⟨v, w2, hr, hs⟩ := h c cs
    exact ⟨v, w2, hk _ _ hr, stepsIn_wide.2 hs⟩
  | .halt (.panic v) w', h => exact (h : False).elim
theorem list_wide {Q : Exit → Act → World → Prop} : ∀ (r : List Oper) (a : Act) (w : World), wpList P ops (Norm (Q .normal)) r a w → wpListIn Fence.wide n P ops Q r a w
  | [], _, _, h => h
  | o :: r, a, w, h => by
    unfold wpList at h
    unfold wpListIn
    by_cases hw : Region.wanted o (yielded ops a.tmps) = true
    · rw [if_pos hw] at h ⊢
      rcases h with h | ⟨_, _, _, hf⟩
      · exact oper_wide (fun a' w' h' => list_wide r a' w' h') h
      · exact (hf : False).elim
    · rw [if_neg hw] at h ⊢
      exact ⟨fun _ _ => trivial, list_wide r _ _ h⟩

theorem list_wide_nil {R : Act → World → Prop} {a : Act} {w : World} (h : R a w) : wpList P ops (Norm R) [] a w := h

theorem any_in_round {R : Act → World → Prop} {Q : Exit → Act → World → Prop} (hQ : ∀ a w, R a w → Q .normal a w) (hd : ∀ (i : Nat) (o : Oper), ops[i]? = some o → o.noDefer = true) : ∀ (fuel : Nat) (listed : Array Bool) (a : Act) (w : World),
    wpAny P md ops (NoPanic (Norm R)) fuel listed a w → wpAnyIn (Fence.wide.inRound l) n P md ops Q fuel listed a w
  | 0, _, _, _, h => ⟨h.1, hQ _ _ h.2⟩
  | fuel + 1, listed, a, w, h => by
    refine ⟨fun hr => hQ _ _ (h.1 hr), fun i hi => ?_⟩
    have h2 := h.2 i hi
    unfold wpOp at h2
    unfold wpOpIn
    cases ho : ops[i]? with
    | none =>
      simp only [ho] at h2
      exact any_in_round hQ hd fuel _ _ _ h2
    | some o =>
      simp only [ho] at h2 ⊢
      by_cases hw : Region.wanted o (yielded ops a.tmps) = true
      · rw [if_pos hw] at h2 ⊢
        rcases h2 with h2 | ⟨_, _, _, hf⟩
        · exact oper_in_round (hd i o ho) (fun a' w' h' => any_in_round hQ hd fuel _ a' w' h') h2
        · exact (hf : False).elim
      · rw [if_neg hw] at h2 ⊢
        exact ⟨fun _ _ => trivial, any_in_round hQ hd fuel _ _ _ h2⟩

theorem wpIn_region_R {id : Nat} {r : List Oper} {a : Act} {w : World} {Q : Exit → Act → World → Prop} (order : List Nat) (hm : P.follows .mixedOrders = true)
    (hB : (Region.noSelect r.toArray && (order.length == r.length) && Region.checkR .any r.toArray order (Array.replicate r.length false)) = true) (hd : r.all Oper.noDefer = true)
    (h : ∀ w', w' = w.drew → walkR P r.toArray (NoPanic (Norm (Q .normal))) order a w') : (Code.region id r.toArray true).wpIn (Fence.wide.inRound l) n P Q a w := by
  simp only [Bool.and_eq_true, beq_iff_eq] at hB
  obtain ⟨⟨hs, hl⟩, hB⟩ := hB
  have := wpAnyR_of_walk (P := P) (Q := NoPanic (Norm (Q .normal))) hs (fun c a w hq => hq) order _ a w.drew hB (h _ rfl)
  rw [hl] at this
  refine wpIn_region_any hm (any_in_round (R := Q .normal) (fun _ _ h => h) (fun i o ho => ?_) _ _ _ _ (wpAny_of_R _ _ _ _ this))
  rw [List.all_eq_true] at hd
  exact hd o (List.mem_of_getElem? (by simpa using ho))
end
end Go
/-
  The walk of ezhash.Hash: a range over a function.
-/
namespace Go.Mem
open Go.RowKit Go.Ops
/-- A row of bytes, as a value, and what it holds. -/
structure Str where
  a : Option Addr
  cap : Nat
  bs : List UInt8
def Str.val (s : Str) : Value := .slice s.a s.bs.length s.cap
structure Str.In (w : World) (s : Str) : Prop where
  le : s.bs.length ≤ s.cap
  lies : Lies w s.a (s.bs.map B)
theorem Str.In.below {w w' : World} {s : Str} (h : s.In w) (hb : Below w.heap.size w w') : s.In w' := ⟨h.le, h.lies.below hb⟩
/-- A row of rows of bytes. -/
structure StrsIn (w : World) (ao : Option Addr) (ss : List Str) : Prop where
  lies : Lies w ao (ss.map Str.val)
  each : ∀ s ∈ ss, s.In w
theorem StrsIn.below {w w' : World} {ao : Option Addr} {ss : List Str} (h : StrsIn w ao ss) (hb : Below w.heap.size w w') : StrsIn w' ao ss := ⟨h.lies.below hb, fun s hs => (h.each s hs).below hb⟩
def rowOf (ss : List Str) : List (List UInt8) := ss.map (·.bs)
end Go.Mem
namespace Go.Proofs.YtbpghohkhngdfaaGreatDoor
open Go.RowKit Go.Shelf Go.Mem Go.Ops Go.Cells Go.Oct Go.Gf Go.Trn Go.Aes Go.Ring Go.Ezk Go.Ezh
set_option linter.unusedSimpArgs false
set_option linter.unusedVariables false
set_option maxRecDepth 100000
attribute [local irreducible] walkR walkP walk0 walkB walkK
attribute [local go_sem] Oper.semAt_some

/-- What a round is handed: a string's number, and the string. -/
abbrev Elt (w0 : World) := { x : Nat × Str // x.1 ≤ 1000 ∧ x.2.bs.length ≤ 10000 ∧ x.2.In w0 }
abbrev encE {w0 : World} (x : Elt w0) : Array Value := #[.int .i64 (x.1.1 : Int), x.1.2.val]

set_option maxHeartbeats 2000000 in
theorem numbered1_in (n : Nat) (l Bs n₀ len cap : Nat) (ao : Option Addr) (w0 : World) (xs : List (Elt w0)) (hlen : xs.length = len) (hlb : len ≤ 500) (hnum : ∀ k x, xs[k]? = some x → x.1.1 = 3 + k) (J Jx : List (Elt w0) → World → Prop)
    (hY : ∀ pre (x : Elt w0) W, J pre W → pre.length < len → YieldAt Fence.wide (n - 1) Tryz.prog l (encE x) W fun e W' =>
      (e = .returned (.bool true) ∧ J (pre ++ [x]) W' ∧ Below n₀ W W') ∨ (e = .returned (.bool false) ∧ Jx (pre ++ [x]) W'))
    (W : World) (hBs : W.cell? ⟨Bs, 0, none⟩ = some (.slice ao len cap)) (hc : Lies W ao (xs.map fun x => x.1.2.val)) (hb : 0 < len → ∀ b off, ao = some ⟨b, off, none⟩ → b < n₀) (h0 : J [] W) :
    CallsIn Fence.wide n Tryz.prog 193 #[.func (.yield l) #[] #[], .pointer (some ⟨Bs, 0, none⟩)] W fun e W' => (∃ v, e = .returned v) ∧
      ((∃ ys, ys = xs ∧ J ys W') ∨ (∃ pre, True ∧ Jx pre W')) := by
  have HL := Lib.hid hlen
  have HC := Lib.hid hc
  have HB := Lib.hid hb
  clear hlen hc hb
  refine callsIn_of_wp Tryz.func193 rfl trivial ?_ rfl
  simp only [Tryz.ntmps193, List.size_toArray, List.length_cons, List.length_nil, Nat.reduceAdd, Nat.reduceSub, Array.replicate_succ, Array.replicate_zero, List.push_toArray, List.append_toArray, List.nil_append, List.cons_append]
  gi_wp2
  gi_loopw [7] (fun i wr => ∃ k : Nat, k ≤ len ∧ i = .int .i64 k ∧ J (xs.take k) wr ∧ Below n₀ W wr) (fun i _ => len - (intOf i).toNat)
  case atStart => exact ⟨0, Nat.zero_le _, rfl, h0, Below.refl _ _⟩
  case round =>
    obtain ⟨k, hk, rfl, hJs, hnx⟩ := hrel
    by_cases hlt : k < len
    · obtain ⟨x, hx⟩ : ∃ x, xs[k]? = some x := ⟨xs[k]'(by rw [HL.out]; exact hlt), by simp⟩
      obtain ⟨b, off, rfl, hcx0⟩ := HC.out k x.1.2.val (by rw [List.getElem?_map, hx]; rfl)
      have hcx := (hnx.cell (p := ⟨b, off + k, none⟩) (HB.out (by omega) b off rfl)).trans hcx0
      have hx3 : (3 : Int) + (k : Int) = (x.1.1 : Int) := by rw [hnum k x hx]; omega
      have HX := Lib.hid hx
      obtain ⟨fn, tmps, assign, body, hy, hR⟩ := hY (xs.take k) x wr hJs (by rw [List.length_take, HL.out]; omega)
      have hle1 : x.1.1 ≤ 1000 := x.2.1
      have HSN := Lib.hid (show xs.take (k + 1) = xs.take k ++ [x] ∧ True from ⟨by rw [List.take_add_one, hx]; rfl, trivial⟩)
      clear hx
      gi_wp2
      refine ⟨fun hh => (by cases hh), hR.mono ?_⟩
      rintro e W3 (⟨rfl, hJ3, hk3⟩ | ⟨rfl, hJx3⟩)
      · gi_wp2
        go_roundw
        case rel => exact ⟨k + 1, by omega, by simp, by rw [HSN.out.1]; exact hJ3, hnx.trans hk3⟩
        case measure => simp [intOf]; omega
      · gi_wp2
        refine bodyPost_ret (results_none rfl _ _ _) rfl ?_
        exact ⟨⟨_, rfl⟩, .inr ⟨_, trivial, hJx3⟩⟩
    · obtain rfl : k = len := by omega
      rw [List.take_of_length_le (by rw [HL.out]; exact Nat.le_refl _)] at hJs
      gi_wp2
      go_end0
      exact ⟨⟨_, rfl⟩, .inl ⟨_, rfl, hJs⟩⟩

theorem numbered_stops (n : Nat) (Bs n₀ len cap : Nat) (ao : Option Addr) (w0 w : World) (xs : List (Elt w0)) (hlen : xs.length = len) (hlb : len ≤ 500) (hnum : ∀ k x, xs[k]? = some x → x.1.1 = 3 + k)
    (hBs : Bs < w.heap.size) (hc0 : w.cell? ⟨Bs, 0, none⟩ = some (.slice ao len cap)) (hc : Lies w ao (xs.map fun x => x.1.2.val)) (hb : 0 < len → ∀ b off, ao = some ⟨b, off, none⟩ → b < n₀) :
    SeqStopsK Fence.wide n Tryz.prog 193 #[.pointer (some ⟨Bs, 0, none⟩)] (fun x : Elt w0 => encE x) (Below n₀) (fun ys => ys = xs) (fun _ => True) len w := fun l J Jx W hW _ _ hY h0 =>
  numbered1_in n l Bs n₀ len cap ao w0 xs hlen hlb hnum J Jx hY W ((hW.cell (p := ⟨Bs, 0, none⟩) hBs).trans hc0) (hc.below hW) hb h0

theorem numbered_in (n : Nat) (ao : Option Addr) (len cap : Nat) (w : World) :
    CallsIn Fence.wide n Tryz.prog 134 #[.slice ao len cap] w fun e w' => e = .returned (.func (.func 193) #[] #[.pointer (some ⟨w.heap.size, 0, none⟩)]) ∧ w' = w.alloc (.cells #[.slice ao len cap] 44) := by
  refine callsIn_of_wp Tryz.func134 rfl trivial ?_ rfl
  simp only [Tryz.ntmps134, List.size_toArray, List.length_cons, List.length_nil, Nat.reduceAdd, Nat.reduceSub, Array.replicate_succ, Array.replicate_zero, List.push_toArray, List.append_toArray, List.nil_append, List.cons_append]
  gi_wp2
  go_ret
  exact ⟨rfl, rfl⟩

theorem keeps_of_below {W W' : World} (h : Below W.heap.size W W') : KeepsOthers W W' := ⟨h.size, fun k o hk _ => (h.block k (Array.getElem?_eq_some_iff.1 hk).1).trans hk⟩
theorem keeps_of_only {W W' : World} {b : Nat} {vs : List Value} {ty : TypeId} (hb : Blk W b vs ty) (h : Only b W W') : KeepsOthers W W' := ⟨by rw [h.size]; exact Nat.le_refl _, fun k o hk ho => by
  by_cases e : k = b
  · subst e
    rw [show W.heap[k]? = _ from hb] at hk
    cases hk
    cases ho
  · exact (h.block k e).trans hk⟩
theorem blk_own {β : Type} (b : Nat) (ty : TypeId) (f : β → List Value) : Own (fun s W => Blk W b (f s) ty) := fun s X Y row hs hg hrow =>
  (hg.block b hs.lt (fun e' => by
    obtain ⟨o, ho, hc⟩ := hrow b e'.symm
    rw [show X.heap[b]? = _ from hs] at ho
    cases ho
    cases hc)).trans hs

theorem elts_exist (w0 : World) : ∀ (ss : List Str) (j : Nat), (∀ s ∈ ss, s.bs.length ≤ 10000 ∧ s.In w0) → j + ss.length ≤ 1000 → ∃ xs : List (Elt w0), xs.length = ss.length ∧ (∀ k x, xs[k]? = some x → x.1.1 = j + k) ∧ xs.map (fun x => x.1.2) = ss
  | [], _, _, _ => ⟨[], rfl, fun _ _ h => by simp at h, rfl⟩
  | s :: r, j, h, hj => by
    obtain ⟨xs, h1, h2, h3⟩ := elts_exist w0 r (j + 1) (fun t ht => h t (List.mem_cons_of_mem _ ht)) (by simp at hj; omega)
    refine ⟨⟨(j, s), by simp at hj; omega, (h s (by simp)).1, (h s (by simp)).2⟩ :: xs, by simp [h1], ?_, by simp [h3]⟩
    intro k x hx
    cases k with
    | zero => simp at hx; subst hx; rfl
    | succ k => rw [List.getElem?_cons_succ] at hx; rw [h2 k x hx]; omega
/-- What the rounds add up. -/
def sumE {w0 : World} (k : Parts) (pre : List (Elt w0)) : List UInt8 := pre.foldl (fun s x => both s (partH k x.1.1 x.1.2.bs)) (zeros 16)
theorem sumE_snoc {w0 : World} (k : Parts) (pre : List (Elt w0)) (x : Elt w0) : sumE k (pre ++ [x]) = both (sumE k pre) (partH k x.1.1 x.1.2.bs) := by simp [sumE]
theorem sumE_length {w0 : World} (k : Parts) (pre : List (Elt w0)) : (sumE k pre).length = 16 := by
  rcases List.eq_nil_or_concat pre with rfl | ⟨p, x, rfl⟩
  · exact zeros_length 16
  · rw [List.concat_eq_append, sumE_snoc]; exact both_length _ _
theorem sumE_go {w0 : World} (k : Parts) : ∀ (xs : List (Elt w0)) (j : Nat) (s : List UInt8), (∀ i x, xs[i]? = some x → x.1.1 = j + i) → xs.foldl (fun s x => both s (partH k x.1.1 x.1.2.bs)) s = hashGo k j s (xs.map fun x => x.1.2.bs)
  | [], _, _, _ => rfl
  | x :: r, j, s, h => by
    have h0 := h 0 x rfl
    simp only [List.foldl_cons, List.map_cons, hashGo]
    rw [sumE_go k r (j + 1) _ (fun i y hy => by rw [h (i + 1) y (by simpa using hy)]; omega), h0]
    rfl

set_option maxHeartbeats 2000000 in
theorem hash_ok (kp q p : Nat) (k : Parts) (ao : Option Addr) (n cap : Nat) (ss : List Str) (w : World) (hk : EKey w kp q p k) (hn : ss.length = n) (hn1 : n ≤ 500) (hs : StrsIn w ao ss) (hlen : ∀ s ∈ ss, s.bs.length ≤ 10000) :
    Calls Tryz.prog 80 #[.pointer (some ⟨kp, 0, none⟩), .slice ao n cap] w fun e w' => e = .returned (.agg ((hashH k (rowOf ss)).map B).toArray) ∧ Below w.heap.size w w' := by
  have HK := Lib.hid hk
  have HN := Lib.hid hn
  have HS := Lib.hid hs
  have HLEN := Lib.hid hlen
  clear hk hn hs hlen
  refine (callsIn_wide (n := 6)).1 ?_
  refine callsIn_of_wp_marks Tryz.func80 rfl trivial ?_ rfl
  simp only [Tryz.ntmps80, List.size_toArray, List.length_cons, List.length_nil, Nat.reduceAdd, Nat.reduceSub, Array.replicate_succ, Array.replicate_zero, List.push_toArray, List.append_toArray, List.nil_append, List.cons_append]
  have HST := Lib.hid (St.start w)
  refine wpIn_seq (wpIn_wide.2 ?_)
  go_wp2_with (refine wpList_box 85 _ [.pointer (some ⟨kp, 0, none⟩)] _ rfl rfl rfl rfl ?_)
  intro w1 hb hbel; have HST := Lib.hid (HST.out.push hb hbel); have hlt1 := hb.lt; clear hb hbel
  go_wp2_with (refine wpList_var 52 ((zeros 16).map B) _ rfl rfl Tryz.zero16 rfl ?_)
  intro w2 hb hbel; have HST := Lib.hid (HST.out.push hb hbel); have hlt2 := hb.lt; clear hb hbel
  go_wp2
  refine wpIn_seq (wpIn_wide.2 ?_)
  go_wp2_with (refine wpList_var 52 ((zeros 16).map B) _ rfl rfl Tryz.zero16 rfl ?_)
  intro w3 hb hbel; have HST := Lib.hid (HST.out.push hb hbel); have hlt3 := hb.lt; clear hb hbel
  go_wp2
  refine wpIn_seq (wpIn_wide.2 ?_)
  go_wp2_with fail
  refine (callsIn_wide.1 (numbered_in 1 ao n cap _)).mono ?_
  rintro e w4 ⟨rfl, hw4⟩
  have HST := Lib.hid (show St w w.heap.size w4 _ by rw [hw4]; exact HST.out.push (Blk.new w3 [.slice ao n cap] 44) (later_alloc w3 _))
  have hlt4 : w3.heap.size < w4.heap.size := by rw [hw4]; simp
  clear hw4
  generalize hbb : w.heap.size = bb at *
  generalize w1.heap.size = bw1 at *
  generalize w2.heap.size = bw2 at *
  generalize w3.heap.size = bw3 at *
  have HBB := Lib.hid hbb
  clear hbb
  go_wp2
  obtain ⟨xs, hx1, hx2, hx3⟩ := elts_exist w ss 3 (fun s hs => ⟨HLEN.out s hs, HS.out.each s hs⟩) (by rw [HN.out]; omega)
  have HSUM := Lib.hid (show sumE k xs = hashH k (rowOf ss) ∧ True from ⟨by
    unfold sumE
    rw [sumE_go k xs 3 _ hx2]
    unfold hashH rowOf
    rw [← hx3, List.map_map]
    rfl, trivial⟩)
  have hcl : Lies w4 ao (xs.map fun x => x.1.2.val) := by
    have := HS.out.lies.below (show Below w.heap.size w w4 by rw [HBB.out]; exact HST.out.bel)
    rw [← hx3, List.map_map] at this
    exact this
  have hbl : 0 < n → ∀ b off, ao = some ⟨b, off, none⟩ → b < bb := by
    intro h0 b off hao
    obtain ⟨b', off', e, hlt, _⟩ := HS.out.lies.at (by intro h; have := congrArg List.length h; simp [HN.out] at this; omega)
    rw [hao] at e
    cases e
    rw [← HBB.out]
    exact hlt
  have HST := HST.out
  refine (wpIn_wide (n := 5)).1 ?_
  refine wpIn_rangeFunc_ownF rfl (by omega) (gf := 193) (lb := #[.pointer (some ⟨bw3, 0, none⟩)]) rfl trivial (enters_of Tryz.func193 (by kernel_rfl) rfl)
    (numbered_stops 4 bw3 bb n cap ao w w4 xs (hx1.trans HN.out) hn1 hx2 (by omega) ((HST.get 0 rfl).cell 0 _ rfl) hcl hbl) belowK_t (belowK_b (by omega)) (Below.refl _ _) (fun _ => rfl)
    (fun pre W => (Blk W bw2 ((sumE k pre).map B) 52 ∧ Blk W bw1 ((zeros 16).map B) 52 ∧ Blk W bb [.pointer (some ⟨kp, 0, none⟩)] 85) ∧ Below bb w W)
    (fun _ _ _ => False)
    (OwnFrom.and (Own.from (fun s A B' row hs hg hr => ⟨blk_own bw2 _ (fun pre => (sumE k pre).map B) s A B' row hs.1 hg hr, blk_own bw1 _ (fun _ => (zeros 16).map B) s A B' row hs.2.1 hg hr, blk_own bb _ (fun _ => [.pointer (some ⟨kp, 0, none⟩)]) s A B' row hs.2.2 hg hr⟩) _) (ownFrom_below (by rw [HBB.out]; exact Nat.le_refl _) (by omega)))
    (fun _ _ _ _ _ hs _ _ => hs)
    ⟨⟨HST.get 1 rfl, HST.get 2 rfl, HST.get 3 rfl⟩, HST.bel⟩
    (fun x => { tmps := #[.pointer (some ⟨kp, 0, none⟩), .slice ao n cap, .pointer (some ⟨bb, 0, none⟩), undef, .pointer (some ⟨bw1, 0, none⟩), .pointer (some ⟨bw2, 0, none⟩), .int .i64 (x.1.1 : Int), x.1.2.val, .slice ao n cap, .func (.func 193) #[] #[.pointer (some ⟨bw3, 0, none⟩)], .int .i64 (x.1.1 : Int), x.1.2.val, undef, undef, undef, undef, undef, undef, undef], defers := [] }) ?assign ?body ?done ?stop
  case assign =>
    intro l x W K hK
    gi_wp2
    exact hK
  case body =>
    rintro l pre x W ⟨⟨hb2, hb1, hb0⟩, hB⟩ _
    have HB2 := Lib.hid hb2
    have HB1 := Lib.hid hb1
    have HB0 := Lib.hid hb0
    have HB := Lib.hid hB
    have HXL := Lib.hid (sumE_length k pre)
    have HXM := Lib.hid (show ((sumE k pre).map B).length = 16 by rw [List.length_map]; exact sumE_length k pre)
    have HSN := Lib.hid (show sumE k (pre ++ [x]) = both (sumE k pre) (partH k x.1.1 x.1.2.bs) ∧ True from ⟨sumE_snoc k pre x, trivial⟩)
    have HXI := Lib.hid (show x.1.2.In W from x.2.2.2.below (by rw [HBB.out]; exact hB))
    have HKW := Lib.hid (HK.out.later (show Below w.heap.size w W by rw [HBB.out]; exact hB))
    have hx1000 := x.2.1
    have hx10000 := x.2.2.1
    clear hb2 hb1 hb0 hB
    have hbW : bb ≤ W.drew.heap.size := Nat.le_of_lt HB0.out.lt
    have hc := fun (y : After W.drew) => (HB0.out.drew.below y.later HB0.out.drew.lt).cell 0 _ rfl
    refine wpIn_block ?_
    refine wpIn_region_R [0, 1, 2, 3, 4, 5, 6] (by kernel_rfl) (by kernel_rfl) (by kernel_rfl) ?_
    rintro w5 rfl
    refine walkR_load HB2.out.drew.range HB2.out.drew.lt Tryz.row16 HXM.out rfl rfl rfl rfl (fun K hK => ?_)
    go_simp; refine hK _ ?_; clear hK K
    repeat (refine walkR_one rfl rfl (fun K hK => ?_); go_big_quiet_step (fail); refine wpQuiet_nil (hK _ ?_); clear hK K)
    clear hc
    refine walkR_call rfl rfl (by rfl) (fun K hK => ?_)
    go_simp
    refine (partH_ok kp q p x.1.1 k x.1.2.a x.1.2.bs.length x.1.2.cap x.1.2.bs _ HKW.out.drew hx1000 rfl HXI.out.le hx10000 (HXI.out.lies.below (Below.refl _ _).drew)).mono ?_
    rintro e w6 ⟨rfl, hbel6⟩
    have HKE := Lib.hid ((KeepsOthers.drew W).trans (keeps_of_below hbel6))
    have HB2 := Lib.hid (HB2.out.drew.below hbel6 HB2.out.lt)
    have HB1 := Lib.hid (HB1.out.drew.below hbel6 HB1.out.lt)
    have HB0 := Lib.hid (HB0.out.drew.below hbel6 HB0.out.lt)
    have HBW := Lib.hid ((Below.refl bb W).drew.trans (hbel6.mono hbW))
    have HPL := Lib.hid (partH_length k x.1.1 x.1.2.bs)
    go_simp
    refine hK _ _ hbel6 ?_
    clear hK K hbel6
    refine walkR_call rfl rfl (by rfl) (fun K hK => ?_)
    go_simp
    refine (hplus_ok (sumE k pre) (partH k x.1.1 x.1.2.bs) _ HXL.out HPL.out).mono ?_
    rintro e w7 ⟨rfl, hbel7⟩
    rw [← HSN.out.1]
    have HKE := Lib.hid (HKE.out.trans (keeps_of_below hbel7))
    have HBW := Lib.hid (HBW.out.trans (hbel7.mono (Nat.le_of_lt HB0.out.lt)))
    have HB2 := Lib.hid (HB2.out.below hbel7 HB2.out.lt)
    have HB1 := Lib.hid (HB1.out.below hbel7 HB1.out.lt)
    have HB0 := Lib.hid (HB0.out.below hbel7 HB0.out.lt)
    have HSL := Lib.hid (show ((sumE k (pre ++ [x])).map B).length = 16 by rw [List.length_map]; exact sumE_length k _)
    go_simp
    refine hK _ _ hbel7 ?_
    clear hK K hbel7
    refine walkR_free rfl rfl (by rfl) (fun K hK => ?_)
    refine HB2.out.opstore rfl rfl rfl Tryz.row16 HXM.out HSL.out (oneCell_B _) (fun w8 hb8 ho8 => hK _ _ ?_)
    clear hK K
    have HKE := Lib.hid (HKE.out.trans (keeps_of_only HB2.out ho8))
    have HBW := Lib.hid (below_only HBW.out ho8 (by omega))
    have HB1 := Lib.hid (HB1.out.only ho8 (by omega))
    have HB0 := Lib.hid (HB0.out.only ho8 (by omega))
    go_simp
    refine walkR_nil ?_
    exact ⟨HKE.out, HBW.out, ⟨hb8, HB1.out, HB0.out⟩, HB.out.trans HBW.out⟩
  case done =>
    rintro D ys W hD rfl ⟨⟨hb2, hb1, hb0⟩, hB⟩ hK
    have HB2 := Lib.hid hb2
    have HB1 := Lib.hid hb1
    have HB := Lib.hid hB
    have HXM := Lib.hid (show ((sumE k ys).map B).length = 16 by rw [List.length_map]; exact sumE_length k ys)
    clear hb2 hb1 hb0 hB
    gi_wp2_with (refine list_wide _ _ _ ?_)
    refine HB2.out.wload rfl rfl rfl Tryz.row16 HXM.out ?_
    refine HB1.out.wstore rfl rfl rfl rfl Tryz.row16 (by rw [List.length_map]; exact zeros_length 16) HXM.out (oneCell_B _) ?_
    intro w8 hb8 ho8
    have hK' := (ho8.block D (by omega)).trans hK
    refine list_wide_nil ?_
    go_simp
    gi_wp2
    refine ⟨by simp, .inl ⟨_, _, rfl, run_takeDeferred hK', ?_⟩⟩
    have hbD : Blk (w8.putObj D (.deferred none)) bw1 ((sumE k ys).map B) 52 := (World.putObj_heap_other (by omega)).trans hb8
    obtain ⟨d, hu, hd', hi⟩ := Tryz.row16.open
    refine ⟨.agg ((sumE k ys).map B).toArray, results_cell_row rfl _ _ _ _ _ _ _ rfl hbD hu (by cases d <;> simp_all [TypeDesc.isRow]) (by rw [hi]; simp [HXM.out]), by rw [HSUM.out.1], ?_⟩
    rw [HBB.out]
    exact (below_only HB.out ho8 (by omega)).trans (belowK_b (w := w4) (by omega) _ D _ _ (by omega) hK' rfl rfl)
  case stop =>
    rintro D c pre W _ _ h _
    exact h.elim

end Go.Proofs.YtbpghohkhngdfaaGreatDoor
/-
  The walks of eztiny: the sum of blocks, a number as a block, how many rounds.
-/
namespace Go.Proofs.YtbpghohkhngdfaaGreatDoor
open Go.RowKit Go.Mem Go.Ops Go.Cells Go.Oct Go.Gf Go.Trn Go.Aes Go.Ring Go.Ezk Go.Ezh Go.Ezt Go.CutP
set_option linter.unusedSimpArgs false
set_option linter.unusedVariables false
set_option maxRecDepth 100000
attribute [local irreducible] walkR walkP walk0 walkB walkK

theorem tplus_ok (ao : Option Addr) (n cap : Nat) (ks : List (List UInt8)) (w : World) (hn : ks.length = n) (hnb : n ≤ 1099511627776) (hk : RowsN 16 w ao ks) :
    Calls Tryz.prog 187 #[.slice ao n cap] w fun e w' => e = .returned (.agg ((plusB ks).map B).toArray) ∧ Below w.heap.size w w' := by
  have HN := Lib.hid hn
  have HK := Lib.hid hk
  have HS := Lib.hid (St.start w)
  have HZ := Lib.hid (zeros_length 16)
  clear hn hk
  go_enter Tryz.func187, Tryz.ntmps187
  go_wp2_with (refine wpList_var 52 ((zeros 16).map B) _ rfl rfl Tryz.zero16 rfl ?_)
  intro w1 hb hbel; have HS := Lib.hid (HS.out.push hb hbel); have hlt1 := hb.lt; clear hb hbel
  go_wp2_with (refine wpList_var 52 ((zeros 16).map B) _ rfl rfl Tryz.zero16 rfl ?_)
  intro w2 hb hbel; have HS := Lib.hid (HS.out.push hb hbel); have hlt2 := hb.lt; clear hb hbel
  generalize hbb : w.heap.size = bb at *
  generalize w1.heap.size = br at *
  have HBB := Lib.hid hbb
  clear hbb
  go_wp2
  go_loopw [9] (fun c wr => ∃ (i : Nat) (y : List UInt8), i ≤ n ∧ c = .int .i64 i ∧ Hid (y.length = 16) ∧ Hid ((ks.drop i).foldl both y = plusB ks ∧ True) ∧ Hid (St w bb wr [(br, y.map B, 52), (bb, (zeros 16).map B, 52)])) (fun c _ => n - (intOf c).toNat)
  case atStart => exact ⟨0, zeros 16, by omega, rfl, HZ, ⟨rfl, trivial⟩, HS⟩
  case round =>
    clear HS
    obtain ⟨i, y, hi, rfl, HY, HE, HS⟩ := hrel
    have HYM := Lib.hid (show (y.map B).length = 16 by rw [List.length_map]; exact HY.out)
    by_cases hlt : i < n
    · have hget : ks[i]? = some (key ks i) := key_get (by rw [HN.out]; exact hlt)
      obtain ⟨kb, koff, rfl, hkb, hr⟩ := (HK.out.below (by rw [HBB.out]; exact HS.out.bel)).range (by omega) hget
      have HKL := Lib.hid (show (key ks i).length = 16 from HK.out.each _ (List.mem_of_getElem? hget))
      have HKLM := Lib.hid (show ((key ks i).map B).length = 16 by rw [List.length_map]; exact HKL.out)
      have HE := Lib.hid (show (ks.drop (i + 1)).foldl both (both y (key ks i)) = plusB ks ∧ True from ⟨by
        rw [← HE.out.1, List.drop_eq_getElem_cons (l := ks) (i := i) (by rw [HN.out]; exact hlt), List.foldl_cons]
        congr 2
        have := List.getElem?_eq_getElem (l := ks) (i := i) (by rw [HN.out]; exact hlt)
        rw [hget] at this
        exact Option.some.inj this, trivial⟩)
      have HR := Lib.hid hr
      generalize key ks i = k at *
      clear hget hr
      go_wp2_with (first | (refine wpList_load_mid rfl 52 (.tmp 11) rfl kb (koff + i * 16) rfl _ _ HR.out Tryz.underlying52 rfl (by rw [HKLM.out]; exact Tryz.row16.2) ?_) | (refine wpList_var 52 ((zeros 16).map B) _ rfl rfl Tryz.zero16 rfl ?_))
      intro w3 hb hbel; have hz1 := (HS.out.get 0 rfl).lt; have hz0 := (HS.out.get 1 rfl).lt; have HS := Lib.hid (HS.out.push hb hbel); have hlt3 := hb.lt; clear hb hbel
      generalize wr.heap.size = bk at *
      go_wp2_with (refine (HS.out.get 0 rfl).wstore rfl rfl rfl rfl Tryz.row16 (by simp [zeros_length]) HKLM.out (oneCell_B _) ?_)
      intro w4 hb4 ho4
      have HS := Lib.hid (HS.out.change 0 hb4 ho4 (by omega) (by simp; omega))
      clear hb4 ho4
      go_wp2
      go_loopw [13] (fun c wr => ∃ (j : Nat) (l : List UInt8), j ≤ 16 ∧ c = .int .i64 j ∧ Hid (l.length = 16) ∧ Hid (∀ i, i < j → l[i]? = some (xor8 (at8 y i) (at8 k i))) ∧ Hid (∀ i, j ≤ i → l[i]? = y[i]?) ∧ Hid (St w bb wr [(bk, k.map B, 52), (br, l.map B, 52), (bb, (zeros 16).map B, 52)])) (fun c _ => 16 - (intOf c).toNat)
      case atStart => exact ⟨0, y, by omega, rfl, HY, fun i hi => absurd hi (by omega), fun i _ => rfl, HS⟩
      case round =>
        clear HS
        obtain ⟨j, l, hj, rfl, HLL, HL1, HL2, HS⟩ := hrel
        by_cases hlt2 : j < 16
        · have hd : decide ((j : Int) < 16) = true := by simp; omega
          have hx : l[j]? = some (at8 y j) := by rw [HL2.out j (Nat.le_refl _)]; exact at8_get (by rw [HY.out]; omega)
          have hc1 := fun (x : After wr.drew) => ((HS.out.drew.later x.later).get 1 rfl).cell j _ (mapB_at hx)
          have hc2 := fun (x : After wr.drew) => ((HS.out.drew.later x.later).get 0 rfl).cell j _ (mapB_at (at8_get (b := k) (i := j) (by rw [HKL.out]; omega)))
          clear hx
          go_wp2_with fail
          refine wp_region_R [0, 1, 2, 3, 4, 5, 6, 7, 8] (by kernel_rfl) (by kernel_rfl) ?_
          rintro w5 rfl
          repeat (refine walkR_one rfl rfl (fun K hK => ?_); go_big_quiet_step (fail); refine wpQuiet_nil (hK _ ?_); clear hK K)
          clear hc1 hc2
          refine walkR_free rfl rfl (by rfl) (fun K hK => ?_)
          refine (HS.out.drew.get 1 rfl).opset (v := B (xor8 (at8 y j) (at8 k j))) rfl rfl rfl Tryz.sizeByte rfl rfl (by rw [List.length_map, HLL.out]; omega) (fun w6 hb6 ho6 => hK _ _ ?_)
          clear hK K
          rw [mapB_set] at hb6
          have HS := Lib.hid (HS.out.drew.change 1 hb6 ho6 (by omega) (by simp; omega))
          clear ho6 hb6
          go_simp
          refine walkR_nil ?_
          go_wp2
          go_roundw
          case rel => exact ⟨j + 1, _, by omega, rfl, (by rw [List.length_set]; exact HLL.out), (both_step hlt2 HLL.out HL1.out HL2.out).1, (both_step hlt2 HLL.out HL1.out HL2.out).2, HS⟩
          case measure => simp [intOf]; omega
        · obtain rfl : j = 16 := by omega
          have hle := both_done HLL.out HL1.out
          rw [hle] at HS
          have HS := Lib.hid HS.out.tail
          clear hle
          go_wp2
          go_roundw
          case rel => exact ⟨i + 1, _, by omega, by go_num, both_length _ _, HE, HS⟩
          case measure => simp [intOf]; omega
    · obtain rfl : i = n := by omega
      have HE := Lib.hid (show y = plusB ks ∧ True from ⟨by rw [← HE.out.1, List.drop_eq_nil_of_le (by rw [HN.out]; omega)]; rfl, trivial⟩)
      go_wp2_with (first | (refine (HS.out.get 0 rfl).wload rfl rfl rfl Tryz.row16 HYM.out ?_) | (refine (HS.out.get 1 rfl).wstore rfl rfl rfl rfl Tryz.row16 (by rw [List.length_map]; exact zeros_length 16) HYM.out (oneCell_B _) ?_))
      intro w6 hb6 ho6
      have hbel6 := below_only HS.out.bel ho6 (by omega)
      go_wp2
      refine hb6.result rfl rfl rfl Tryz.row16 HYM.out ⟨by rw [HE.out.1], ?_⟩
      rw [HBB.out]
      exact hbel6

/-- A number as a block, of which i bytes are laid. -/
def countedTo (n i : Nat) : List UInt8 := (List.range 16).map fun k => if 16 - i ≤ k then at8 (putLong (UInt64.ofNat n)) (15 - k) else 0
theorem countedTo_length (n i : Nat) : (countedTo n i).length = 16 := by simp [countedTo]
theorem countedTo_get (n i k : Nat) (h : k < 16) : (countedTo n i)[k]? = some (if 16 - i ≤ k then at8 (putLong (UInt64.ofNat n)) (15 - k) else 0) := by
  unfold countedTo
  rw [List.getElem?_map, List.getElem?_range h]
  rfl
theorem countedTo_zero (n : Nat) : countedTo n 0 = zeros 16 := by
  refine ext16 (countedTo_length _ _) (zeros_length 16) fun k hk => ?_
  rw [at8_some (countedTo_get n 0 k hk), if_neg (by omega), at8_zeros]
theorem countedTo_full (n : Nat) : countedTo n 8 = counted n := by
  unfold countedTo counted
  apply List.map_congr_left
  intro k hk
  have : k < 16 := by simpa using hk
  by_cases h : k < 8
  · rw [if_neg (by omega), if_pos h]
  · rw [if_pos (by omega), if_neg h]
theorem countedTo_step (n : Nat) {i : Nat} (hi : i < 8) : (countedTo n i).set (15 - i) (at8 (putLong (UInt64.ofNat n)) i) = countedTo n (i + 1) := by
  apply List.ext_getElem?
  intro k
  by_cases hk : k < 16
  · rw [List.getElem?_set, countedTo_length, countedTo_get n i k hk, countedTo_get n (i + 1) k hk]
    by_cases e : 15 - i = k
    · rw [if_pos e, if_pos (by omega), if_pos (by omega)]
      congr 2
      omega
    · rw [if_neg e]
      by_cases h : 16 - i ≤ k
      · rw [if_pos h, if_pos (by omega)]
      · rw [if_neg h, if_neg (by omega)]
  · rw [List.getElem?_eq_none (by rw [List.length_set, countedTo_length]; omega), List.getElem?_eq_none (by rw [countedTo_length]; omega)]

theorem tcounted_ok (n : Nat) (w : World) (hn : n ≤ 1000) : Calls Tryz.prog 189 #[.int .i64 n] w fun e w' => e = .returned (.agg ((counted n).map B).toArray) ∧ Below w.heap.size w w' := by
  have HS := Lib.hid (St.start w)
  have HPL := Lib.hid (putLong_length (UInt64.ofNat n))
  have HLN := Lib.hid (show Value.int .u64 (n : Int) = L (UInt64.ofNat n) from by
    have : (UInt64.ofNat n).toNat = n := UInt64.toNat_ofNat_of_lt' (by show n < 18446744073709551616; omega)
    simp [L, this])
  go_enter Tryz.func189, Tryz.ntmps189
  go_wp2_with (refine wpList_var 52 ((zeros 16).map B) _ rfl rfl Tryz.zero16 rfl ?_)
  intro w1 hb hbel; have HS := Lib.hid (HS.out.push hb hbel); have hlt1 := hb.lt; clear hb hbel
  go_wp2_with (refine wpList_var 52 ((zeros 16).map B) _ rfl rfl Tryz.zero16 rfl ?_)
  intro w2 hb hbel; have HS := Lib.hid (HS.out.push hb hbel); have hlt2 := hb.lt; clear hb hbel
  generalize hbb : w.heap.size = bb at *
  generalize w1.heap.size = br at *
  have HBB := Lib.hid hbb
  clear hbb
  go_wp2_with fail
  rw [HLN.out]
  refine (putlong_ok (UInt64.ofNat n) _).mono ?_
  rintro e w3 ⟨rfl, hbel3⟩
  have HS := Lib.hid (show St w bb w3 [(br, (countedTo n 0).map B, 52), (bb, (zeros 16).map B, 52)] by rw [countedTo_zero]; exact HS.out.later hbel3)
  clear hbel3 HLN
  go_wp2
  go_loopw [9] (fun c wr => ∃ i : Nat, i ≤ 8 ∧ c = .int .i64 i ∧ Hid (St w bb wr [(br, (countedTo n i).map B, 52), (bb, (zeros 16).map B, 52)])) (fun c _ => 8 - (intOf c).toNat)
  case atStart => exact ⟨0, by omega, rfl, HS⟩
  case round =>
    clear HS
    obtain ⟨i, hi, rfl, HS⟩ := hrel
    by_cases hlt : i < 8
    · have hix := fun w => run_index_one (P := Tryz.prog) w 201 5 8 ((putLong (UInt64.ofNat n)).map B).toArray .i64 i (B (at8 (putLong (UInt64.ofNat n)) i)) Tryz.underlying201 (by kernel_rfl) Tryz.sizeByte (by simpa using mapB_at (at8_get (b := putLong (UInt64.ofNat n)) (i := i) (by rw [HPL.out]; exact hlt))) hlt
      obtain ⟨j, hj⟩ : ∃ j, j = 15 - i := ⟨_, rfl⟩
      have e1 : (15 : Int) - (i : Int) = (j : Int) := by omega
      have hj16 : j < 16 := by omega
      have HST := Lib.hid (show (countedTo n i).set j (at8 (putLong (UInt64.ofNat n)) i) = countedTo n (i + 1) ∧ True from ⟨by rw [hj]; exact countedTo_step n hlt, trivial⟩)
      clear hj
      go_wp2_with (refine (HS.out.get 0 rfl).wset (v := B (at8 (putLong (UInt64.ofNat n)) i)) (i := j) rfl rfl rfl rfl Tryz.sizeByte rfl rfl (by rw [List.length_map, countedTo_length]; omega) ?_)
      intro w4 hb4 ho4
      rw [mapB_set, HST.out.1] at hb4
      have HS := Lib.hid (show St w bb w4 [(br, (countedTo n (i + 1)).map B, 52), (bb, (zeros 16).map B, 52)] from HS.out.change 0 hb4 ho4 (by omega) (by simp; omega))
      clear hb4 ho4 hix
      go_wp2
      go_roundw
      case rel => exact ⟨i + 1, by omega, by go_num, HS⟩
      case measure => simp [intOf]; omega
    · obtain rfl : i = 8 := by omega
      rw [countedTo_full] at HS
      have HCM := Lib.hid (show ((counted n).map B).length = 16 by rw [List.length_map]; exact counted_length n)
      go_wp2_with (first | (refine (HS.out.get 0 rfl).wload rfl rfl rfl Tryz.row16 HCM.out ?_) | (refine (HS.out.get 1 rfl).wstore rfl rfl rfl rfl Tryz.row16 (by rw [List.length_map]; exact zeros_length 16) HCM.out (oneCell_B _) ?_))
      intro w6 hb6 ho6
      have hbel6 := below_only HS.out.bel ho6 (by omega)
      go_wp2
      refine hb6.result rfl rfl rfl Tryz.row16 HCM.out ⟨rfl, ?_⟩
      rw [HBB.out]
      exact hbel6

theorem rounds_ok' (n : Nat) (w : World) (h1 : 1 ≤ n) (h2 : n ≤ 31) : Calls Tryz.prog 122 #[.int .i64 n] w fun e w' => e = .returned (.int .i64 (roundsT n)) ∧ w = w' := by
  by_cases e1 : n = 1
  · subst e1
    go_enter Tryz.func122, Tryz.ntmps122
    go_wp2
    go_ret
    exact ⟨rfl, rfl⟩
  · by_cases e2 : n = 2
    · subst e2
      go_enter Tryz.func122, Tryz.ntmps122
      go_wp2
      go_ret
      exact ⟨rfl, rfl⟩
    · have f1 : ((n : Int) == 1) = false := by simp; omega
      have f2 : ((n : Int) == 2) = false := by simp; omega
      by_cases e3 : n < 16
      · have HR := Lib.hid (show roundsT n = 10 ∧ True from ⟨by unfold roundsT; rw [if_neg (by omega), if_neg e1, if_neg e2, if_pos e3], trivial⟩)
        rw [HR.out.1]
        go_enter Tryz.func122, Tryz.ntmps122
        go_wp2
        go_ret
        exact ⟨rfl, rfl⟩
      · have HR := Lib.hid (show roundsT n = 8 ∧ True from ⟨by unfold roundsT; rw [if_neg (by omega), if_neg e1, if_neg e2, if_neg e3], trivial⟩)
        rw [HR.out.1]
        go_enter Tryz.func122, Tryz.ntmps122
        go_wp2
        go_ret
        exact ⟨rfl, rfl⟩

end Go.Proofs.YtbpghohkhngdfaaGreatDoor
