/-
  Texts of this claim, one behind the other: EztC EztD SealA.
-/
import Derived.Test.YtbpghohkhngdfaaGreatDoorM14
import Derived.Lib.AppendZerosOnto
/-
  The walk of eztiny.Step.
-/
namespace Go.Cells
open Go.RowKit
theorem St.low {w0 w w' : World} {base B : Nat} {L : List (Nat × List Value × TypeId)} (h : St w0 base w L) (hb : Below B w w') (hbase : base ≤ B) (hall : ∀ e ∈ L, e.1 < B) : St w0 base w' L := ⟨h.base_le, h.bel.trans (hb.mono hbase), fun e he => (h.all e he).below hb (hall e he)⟩
end Go.Cells
namespace Go.Proofs.YtbpghohkhngdfaaGreatDoor
open Go.RowKit Go.Mem Go.Ops Go.Cells Go.Oct Go.Gf Go.Trn Go.Aes Go.Ring Go.Ezk Go.Ezh Go.Ezt Go.CutP Go.Fl
set_option linter.unusedSimpArgs false
set_option linter.unusedVariables false
set_option maxRecDepth 100000
attribute [local irreducible] walkR walkP walk0 walkB walkK

set_option maxHeartbeats 2000000 in
theorem tstep_ok (kp q p : Nat) (k : Parts) (h : List UInt8) (i j : Nat) (ao : Option Addr) (n cap : Nat) (half : List UInt8) (w : World) (hk : EKey w kp q p k) (hh : h.length = 16) (hi : i ≤ 1000) (hj : j ≤ 1000) (hn : half.length = n) (h31 : n ≤ 31) (hl : Lies w ao (half.map B)) :
    Calls Tryz.prog 126 #[.pointer (some ⟨kp, 0, none⟩), .agg (h.map B).toArray, .int .i64 i, .int .i64 j, .slice ao n cap] w fun e w' => ∃ v, e = .returned v ∧ w'.ownsRow w.heap.size 5 1 v n ((Ezt.stepT k h i j half).map B) ∧ Below w.heap.size w w' := by
  obtain ⟨i0, hi0, hz0, hz1, hz2⟩ := info_parts Tryz.infoB
  have HI := Lib.hid (And.intro hi0 (And.intro hz0 (And.intro hz1 hz2)))
  have HK := Lib.hid hk
  have HH := Lib.hid hh
  have HHM := Lib.hid (show (h.map B).length = 16 by rw [List.length_map]; exact hh)
  have HN := Lib.hid hn
  have HL := Lib.hid hl
  have HS := Lib.hid (St.start w)
  have d1 : decide ((n : Int) > 31) = false := by simp; omega
  have d2 : decide ((i : Int) < 0) = false := by simp
  have d3 : decide ((j : Int) < 0) = false := by simp
  have HC1 := Lib.hid (show cutOf 0 (fl n) (2 * 16) = some (0, n) from by have := cutOf_fl 0 n (2 * 16) (by omega) (by omega); rwa [fl_zero] at this)
  obtain ⟨b, hb⟩ : ∃ b, b = block (joinL (half ++ [8])) := ⟨_, rfl⟩
  obtain ⟨x, hx⟩ : ∃ x, x = eBlk k 0 i (plusB [b, h, counted j]) := ⟨_, rfl⟩
  have HB := Lib.hid (show block (joinL (half ++ [8])) = b ∧ True from ⟨hb.symm, trivial⟩)
  have HX := Lib.hid (show eBlk k 0 i (plusB [b, h, counted j]) = x ∧ True from ⟨hx.symm, trivial⟩)
  have HE := Lib.hid (show ((nibs x).drop 0).take n = Ezt.stepT k h i j half ∧ True from ⟨by rw [List.drop_zero, hx, hb, ← hn]; rfl, trivial⟩)
  have HBL := Lib.hid (show b.length = 16 by rw [hb]; exact block_length _)
  have HBLM := Lib.hid (show (b.map B).length = 16 by rw [List.length_map, hb]; exact block_length _)
  have HXL := Lib.hid (show x.length = 16 by rw [hx]; exact eBlk_length _ _ _ _)
  have HXLM := Lib.hid (show (x.map B).length = 16 by rw [List.length_map]; exact HXL.out)
  clear hk hh hn hl hb hx hi0 hz0 hz1 hz2
  go_enter Tryz.func126, Tryz.ntmps126
  go_wp2_with (refine wpList_box 52 _ (h.map B) _ rfl rfl rfl rfl ?_)
  intro w1 hb hbel; have HS := Lib.hid (HS.out.push hb hbel); have hlt1 := hb.lt; clear hb hbel
  have hwb := HS.out.bel.size
  go_wp2_with fail
  refine (clone_any ao n cap (half.map B) _ (by rw [List.length_map]; exact HN.out) (by omega) (HL.out.below HS.out.bel) (B_one half)).mono ?_
  rintro e w2 ⟨v2, rfl, hown2, hbel2⟩
  have HOWN := Lib.hid hown2
  have HS := Lib.hid (HS.out.later hbel2)
  have hsz12 := hbel2.size
  clear hown2 hbel2
  simp only [id]
  go_wp2_with (at_builtin; refine wpList_append_any rfl (.tmp 31) (.tmp 32) 22 rfl w1.heap.size 5 i0 (.int .u8 0) 1 Tryz.underlying22 HI.out.1 HI.out.2.1 HI.out.2.2.1 HI.out.2.2.2 rfl _ _ _ rfl (own_below HOWN.out (later_alloc w2 (.cells #[.int .u8 8] 5))) (some ⟨w2.heap.size, 0, none⟩) 1 1 [.int .u8 8] rfl rfl (Blk.new w2 [.int .u8 8] 5).lies (by intro u hu; simp at hu; subst hu; rfl) (by unfold maxLen; omega) (by omega) (by simp; omega) ?_)
  intro v3 w3 hown3 hg3
  have hbel3 : Below w1.heap.size w2 w3 := below_append ((later_alloc w2 (.cells #[.int .u8 8] 5)).mono hsz12) (own_below HOWN.out (later_alloc w2 (.cells #[.int .u8 8] 5))) hg3 (Nat.le_refl _) (by simp; omega)
  have HS := Lib.hid (HS.out.low hbel3 hwb (by intro e he; simp at he; subst he; exact hlt1))
  obtain ⟨a3, c3, rfl, hc3, _, hl3⟩ := own_form hown3
  have HL3 := Lib.hid (show Lies w3 a3 ((half ++ [8]).map B) by rw [List.map_append]; exact hl3)
  have hsz23 := hbel3.size
  clear hown3 hg3 hl3 hbel3 HOWN
  go_wp2_with fail
  refine (join_ok a3 (n + 1) c3 (half ++ [8]) _ (by rw [List.length_append, HN.out]; rfl) (by omega) HL3.out).mono ?_
  rintro e w4 ⟨v4, rfl, hown4, hbel4⟩
  obtain ⟨a4, c4, rfl, _, _, hl4⟩ := own_form hown4
  have HS := Lib.hid (HS.out.later hbel4)
  have HL4 := Lib.hid hl4
  clear hown4 hbel4 hl4 HL3
  simp only [id]
  go_wp2_with fail
  refine (block_ok a4 ((n + 1 + 1) / 2) c4 (joinL (half ++ [8])) _ (by rw [joinL_length, List.length_append, HN.out]; rfl) HL4.out).mono ?_
  rintro e w5 ⟨rfl, hbel5⟩
  rw [HB.out.1]
  have HS := Lib.hid (HS.out.later hbel5)
  clear hbel5 HL4
  have hz := (HS.out.get 0 rfl).lt
  go_wp2_with (refine wpList_var 52 ((zeros 16).map B) _ rfl rfl Tryz.zero16 rfl ?_)
  intro w6 hb hbel; have HS := Lib.hid (HS.out.push hb hbel); have hlt6 := hb.lt; clear hb hbel
  generalize hbb : w.heap.size = bb at *
  generalize w5.heap.size = b5 at *
  have HBB := Lib.hid hbb
  clear hbb
  go_wp2_with (refine (HS.out.get 0 rfl).wstore rfl rfl rfl (cs := b.map B) rfl Tryz.row16 (by simp [zeros_length]) HBLM.out (oneCell_B _) ?_)
  intro w7 hb7 ho7
  have HS := Lib.hid (HS.out.change 0 hb7 ho7 (by omega) (by simp; omega))
  clear hb7 ho7
  have hsz7 : bb ≤ w7.heap.size := HS.out.size
  go_wp2_with fail
  refine wp_region_P [0, 1, 2, 3, 4] [5, 6, 7, 8] [10] [Floater.var 9 12 52 ((zeros 16).map B)] (by kernel_rfl) (by kernel_rfl) ?_
  rintro w8 rfl
  (refine walk0_one rfl rfl rfl (fun K hK => ?_); go_big_quiet_step (fail); refine wpQuiet_nil (hK _ ?_); clear hK K); (refine walk0_one rfl rfl rfl (fun K hK => ?_); go_big_quiet_step (fail); refine wpQuiet_nil (hK _ ?_); clear hK K)
  refine walk0_load (HS.out.drew.get 0 rfl).range (HS.out.drew.get 0 rfl).lt Tryz.row16 HBLM.out rfl rfl rfl (fun K hK => ?_)
  go_simp; refine hK _ ?_; clear hK K
  refine walk0_load (HS.out.drew.get 1 rfl).range (HS.out.drew.get 1 rfl).lt Tryz.row16 HHM.out rfl rfl rfl (fun K hK => ?_)
  go_simp; refine hK _ ?_; clear hK K
  repeat (refine walk0_one rfl rfl rfl (fun K hK => ?_); go_big_quiet_step (fail); refine wpQuiet_nil (hK _ ?_); clear hK K)
  refine walk0_nil ⟨?_, ?_, Nat.le_refl _⟩
  · intro f hf
    simp only [List.mem_singleton] at hf
    subst hf
    exact fits_var _ _ _ _ _ _ rfl rfl rfl rfl (by simp) Tryz.zero16 rfl
  refine walkP_call1 rfl rfl (fun u w9 hl9 K hK => ?_)
  go_simp
  have HS := Lib.hid (HS.out.drew.later hl9)
  refine (tcounted_ok j _ hj).mono ?_
  rintro e w10 ⟨rfl, hbel10⟩
  have HS := Lib.hid (HS.out.later hbel10)
  have HCL := Lib.hid (counted_length j)
  go_simp
  refine hK _ _ hbel10 ?_
  clear hK K hbel10 hl9
  refine walkP_call1 rfl rfl (fun u w11 hl11 K hK => ?_)
  refine oprows 49 52 16 3 _ [b.map B, h.map B, (counted j).map B] rfl rfl Tryz.underlying49 Tryz.zsBlock rfl (by omega) rfl (by omega) (by omega) (by simp [HBL.out, HH.out, HCL.out]) ?_
  intro w12 hb12 hbel12
  have HS := Lib.hid (HS.out.later (hl11.trans hbel12))
  refine hK _ _ hbel12 ?_
  clear hK K hbel12 hl11
  have HR := Lib.hid (show RowsN 16 w12 (some ⟨w11.heap.size, 0, none⟩) [b, h, counted j] from ⟨by simp [HBL.out, HH.out, HCL.out], by have := hb12.lies; simpa using this⟩)
  clear hb12
  go_simp
  refine walkP_call1 rfl rfl (fun u w13 hl13 K hK => ?_)
  go_simp
  refine (tplus_ok (some ⟨w11.heap.size, 0, none⟩) 3 3 [b, h, counted j] _ rfl (by omega) (HR.out.below hl13)).mono ?_
  rintro e w14 ⟨rfl, hbel14⟩
  have HS := Lib.hid (HS.out.later (hl13.trans hbel14))
  go_simp
  refine hK _ _ hbel14 ?_
  clear hK K hbel14 hl13 HR
  refine walkP_call1 rfl rfl (fun u w15 hl15 K hK => ?_)
  go_simp
  have HS := Lib.hid (HS.out.later hl15)
  refine (e_ok kp q p 0 i k (plusB [b, h, counted j]) _ (HK.out.later (HS.out.old HBB.out)) (by omega) hi (plusB_length' _)).mono ?_
  rintro e w16 ⟨rfl, hbel16⟩
  rw [HX.out.1]
  have HS := Lib.hid (HS.out.later hbel16)
  go_simp
  refine hK _ _ hbel16 ?_
  clear hK K hbel16 hl15
  refine walkP_nil1 (fun bx w17 hl17 hbx hbn => ?_)
  go_simp
  have HS := Lib.hid (HS.out.later hl17)
  have HN7 := Lib.hid (show Blk w17 bx ((zeros 16).map B) 52 from hbn)
  clear hl17 hbn
  refine walkR_free rfl rfl (by rfl) (fun K hK => ?_)
  refine HN7.out.opstore rfl rfl rfl Tryz.row16 (by simp [zeros_length]) HXLM.out (oneCell_B _) (fun w18 hb18 ho18 => hK _ _ ?_)
  clear hK K
  have HBE := Lib.hid (below_only HS.out.bel ho18 (by omega))
  have HX18 := Lib.hid hb18
  clear hb18 ho18
  go_simp
  refine walkR_nil ?_
  go_wp2_with fail
  refine (halves_ok (some ⟨bx, 0, none⟩) 16 16 x 0 (fl n) 0 n _ HXL.out (by omega) HX18.out.lies HC1.out).mono ?_
  rintro e w19 ⟨v19, rfl, hown19, hbel19⟩
  rw [HE.out.1] at hown19
  have hle : bb ≤ w18.heap.size := by rw [← HBB.out]; exact HBE.out.size
  have HOWN := Lib.hid (own_le hown19 hle)
  have HBE := Lib.hid (HBE.out.trans (hbel19.mono hle))
  clear hown19 hbel19
  simp only []
  go_wp2
  go_ret
  exact ⟨_, rfl, by rw [HBB.out]; exact HOWN.out, by rw [HBB.out]; exact HBE.out⟩

end Go.Proofs.YtbpghohkhngdfaaGreatDoor
/-
  The walk of eztiny.Turn: both ways.
-/
namespace Go.Proofs.YtbpghohkhngdfaaGreatDoor
open Go.RowKit Go.Mem Go.Ops Go.Cells Go.Oct Go.Gf Go.Trn Go.Aes Go.Ring Go.Ezk Go.Ezh Go.Ezt Go.CutP Go.Fl
set_option linter.unusedSimpArgs false
set_option linter.unusedVariables false
set_option maxRecDepth 100000
attribute [local irreducible] walkR walkP walk0 walkB walkK

/-- An append to a row of bytes leaves a block of another type. -/
theorem _root_.Go.Cells.Blk.grownTy {w w' : World} {base : Nat} {e ty : TypeId} {size : Nat} {v : Value} {n c : Nat} {xs vs : List Value} (h : Blk w c vs ty) (hne : e ≠ ty) (hown : w.ownsRow base e size v n xs) (hg : w.grownBy w' v.ownBlock) : Blk w' c vs ty := by
  refine (hg.block c h.lt (fun e' => ?_)).trans h
  rcases hown.2 with ⟨rfl, _⟩ | ⟨g, cap, cur, rfl, _, hh, _⟩
  · simp [Value.ownBlock] at e'
  · simp [Value.ownBlock] at e'
    subst e'
    rw [show w.heap[c]? = _ from h] at hh
    cases hh
    exact hne rfl
theorem numT_cases (n : Nat) : numT n = if 16 ≤ n then 6 else 7 := rfl
theorem numT_le (n : Nat) : numT n ≤ 1000 := by unfold numT; split <;> omega
theorem roundsT_le (n : Nat) : roundsT n ≤ 24 := by unfold roundsT; repeat (first | omega | split)
theorem roundsT_pos {n : Nat} (h1 : 1 ≤ n) (h2 : n ≤ 31) : 1 ≤ roundsT n := by unfold roundsT; rw [if_neg (by omega)]; repeat (first | omega | split)

abbrev TurnFramef (kp bh bt : Nat) (am : Option Addr) (n cm i j : Nat) (us : Nat → Value) : Act := { tmps := #[.pointer (some ⟨kp, 0, none⟩), us 1, .slice am n cm, .bool false, us 4, us 5, us 6, us 7, us 8, us 9, .pointer (some ⟨bh, 0, none⟩), .int .i64 i, .int .i64 j, .int .i64 (1), .pointer (some ⟨bt, 0, none⟩), us 15, us 16, us 17, us 18, us 19, us 20, us 21, us 22, us 23, us 24, us 25, us 26, us 27, us 28, us 29, us 30, us 31, us 32, us 33, us 34, us 35, us 36, us 37, us 38, us 39, us 40, us 41, us 42, us 43, us 44, us 45, us 46, us 47, us 48, us 49, us 50, us 51, us 52, us 53, us 54, us 55, us 56, us 57, us 58, us 59, us 60, us 61, us 62, us 63, us 64, us 65, us 66, us 67, us 68, us 69, us 70, us 71, us 72, us 73, us 74, us 75, us 76, us 77, us 78, us 79, us 80, us 81, us 82], defers := [] }
/-- The state at the label. -/
def TurnAtf (kp n bb : Nat) (k : Parts) (h : List UInt8) (st : List UInt8 × List UInt8) (w : World) (x : Act) (wr : World) : Prop :=
  ∃ (us : Nat → Value) (bh bt : Nat) (am : Option Addr) (cm j : Nat) (a0 a1 : Option Addr) (c0 c1 : Nat) (p : List UInt8 × List UInt8), x = TurnFramef kp bh bt am n cm (numT n) j us ∧ j < roundsT n ∧ bb ≤ bh ∧ bb ≤ bt ∧ bh ≠ bt ∧
    Hid (Two n p) ∧ Hid (p = upT k h (numT n) j st ∧ True) ∧ Hid (St w bb wr [(bt, [.slice a0 n c0, .slice a1 n c1], 184), (bh, h.map B, 52)]) ∧
    Hid (wr.ownsRow bb 5 1 (.slice a0 n c0) n (p.1.map B)) ∧ Hid (wr.ownsRow bb 5 1 (.slice a1 n c1) n (p.2.map B))
theorem TurnAtf.intro {kp n bb : Nat} {k : Parts} {h : List UInt8} {st : List UInt8 × List UInt8} {w : World} {x : Act} {wr : World} (bh bt : Nat) (am : Option Addr) (cm j : Nat) (a0 a1 : Option Addr) (c0 c1 : Nat) (p : List UInt8 × List UInt8)
    (hx : x = TurnFramef kp bh bt am n cm (numT n) j (fun i => x.tmps.getD i undef)) (hj : j < roundsT n) (h1 : bb ≤ bh) (h2 : bb ≤ bt) (h3 : bh ≠ bt) (h4 : Two n p) (h5 : p = upT k h (numT n) j st) (h6 : St w bb wr [(bt, [.slice a0 n c0, .slice a1 n c1], 184), (bh, h.map B, 52)])
    (h7 : wr.ownsRow bb 5 1 (.slice a0 n c0) n (p.1.map B)) (h8 : wr.ownsRow bb 5 1 (.slice a1 n c1) n (p.2.map B)) : TurnAtf kp n bb k h st w x wr :=
  ⟨_, bh, bt, am, cm, j, a0, a1, c0, c1, p, hx, hj, h1, h2, h3, h4, ⟨h5, trivial⟩, h6, h7, h8⟩

set_option maxHeartbeats 4000000 in
theorem tturn_f (kp q tb : Nat) (k : Parts) (ao : Option Addr) (N cap : Nat) (ss : List Str) (bo : Option Addr) (n cb : Nat) (m : List UInt8) (w : World) (hk : EKey w kp q tb k) (hN : ss.length = N) (hN1 : N ≤ 500) (hs : StrsIn w ao ss) (hlen : ∀ s ∈ ss, s.bs.length ≤ 10000)
    (hn : m.length = n) (h1 : 1 ≤ n) (h31 : n ≤ 31) (hl : Lies w bo (m.map B)) :
    Calls Tryz.prog 78 #[.pointer (some ⟨kp, 0, none⟩), .slice ao N cap, .slice bo n cb, .bool false] w fun e w' => ∃ v, e = .returned (.tuple #[v, .int .i64 0]) ∧ w'.ownsRow w.heap.size 5 1 v n ((turnT k (rowOf ss) m false).map B) ∧ Below w.heap.size w w' := by
  obtain ⟨i0, hi0, hz0, hz1, hz2⟩ := info_parts Tryz.infoB
  have HI := Lib.hid (And.intro hi0 (And.intro hz0 (And.intro hz1 hz2)))
  obtain ⟨h, hh⟩ : ∃ h, h = hashH k (rowOf ss) := ⟨_, rfl⟩
  obtain ⟨fm, hfm⟩ : ∃ fm, fm = m := ⟨_, rfl⟩
  have HH := Lib.hid (show hashH k (rowOf ss) = h ∧ True from ⟨hh.symm, trivial⟩)
  have HHL := Lib.hid (show h.length = 16 by rw [hh]; exact hashH_length _ _)
  have HHM := Lib.hid (show (h.map B).length = 16 by rw [List.length_map]; exact HHL.out)
  have HFM := Lib.hid (show m = fm ∧ True from ⟨hfm.symm, trivial⟩)
  have HFL := Lib.hid (show fm.length = n by rw [hfm]; exact hn)
  have HTT := Lib.hid (show turnT k (rowOf ss) m false = flipT k h (outT (upT k h (numT n) (roundsT n) (leftT fm, rightT fm))) ∧ True from ⟨by unfold turnT; rw [if_neg (by simp)]; rw [hn, ← hh, hfm], trivial⟩)
  have HST := Lib.hid (show Two n (leftT fm, rightT fm) by have := Two.start fm; rwa [HFL.out] at this)
  rw [HTT.out.1]
  have HK := Lib.hid hk
  have HNN := Lib.hid hN
  have HSS := Lib.hid hs
  have HLEN := Lib.hid hlen
  have HN := Lib.hid hn
  have HL := Lib.hid hl
  obtain ⟨bb, hbb⟩ : ∃ bb, bb = w.heap.size := ⟨_, rfl⟩
  have HBB := Lib.hid (show w.heap.size = bb from hbb.symm)
  have HS := Lib.hid (show St w bb w [] by rw [hbb]; exact St.start w)
  have f0 : ((n : Int) == 0) = false := by simp; omega
  have f1 : decide ((n : Int) > 31) = false := by simp; omega
  have hR1 := roundsT_pos h1 h31
  have hR24 := roundsT_le n
  have HTB := Lib.hid (show (5 : TypeId) ≠ 52 by decide)
  have HTY := Lib.hid (show (5 : TypeId) ≠ 184 by decide)
  clear hk hN hs hlen hn hl hi0 hz0 hz1 hz2 hh hfm HTT hbb
  go_enter Tryz.func78, Tryz.ntmps78
  go_wp2_with fail
  refine wp_scope_label 0 (TurnAtf kp n bb k h (leftT fm, rightT fm) w) (fun x _ => 100 - (intOf (x.tmps.getD 12 undef)).toNat) rfl ?_ ?_
  · simp only [wpPre]
    go_wp2_with fail
    refine (hash_ok kp q tb k ao N cap ss _ HK.out HNN.out hN1 HSS.out HLEN.out).mono ?_
    rintro e w1 ⟨rfl, hbel1⟩
    rw [HH.out.1]
    have HS := Lib.hid (HS.out.later hbel1)
    clear hbel1
    go_wp2_with (refine wpList_var 52 ((zeros 16).map B) _ rfl rfl Tryz.zero16 rfl ?_)
    intro w2 hb hbel; have hs1 := HS.out.size; have HS := Lib.hid (HS.out.push hb hbel); have hlt2 := hb.lt; clear hb hbel
    generalize w1.heap.size = bh at *
    go_wp2_with (refine (HS.out.get 0 rfl).wstore rfl rfl rfl (cs := h.map B) rfl Tryz.row16 (by simp [zeros_length]) HHM.out (oneCell_B _) ?_)
    intro w3 hb3 ho3
    have HS := Lib.hid (HS.out.change 0 hb3 ho3 (by omega) (by simp))
    clear hb3 ho3
    by_cases h16 : 16 ≤ n
    · have hd : decide ((n : Int) ≥ 16) = true := by simp; omega
      have HNUM := Lib.hid (show (6 : Int) = ((numT n : Nat) : Int) by rw [numT_cases, if_pos h16]; rfl)
      go_wp2_with fail
      refine (thalves_ok bo n cb fm _ HFL.out h31 (by rw [← HFM.out.1]; exact HL.out.below (HS.out.old HBB.out))).mono ?_
      rintro e w6 ⟨v0, v1, rfl, hown0, hown1, hbel6⟩
      have hsz3 := HS.out.size
      have HO0 := Lib.hid (own_le hown0 hsz3)
      have HO1 := Lib.hid (own_le hown1 hsz3)
      have hz := (HS.out.get 0 rfl).lt
      have hz6 := hbel6.size
      have HS := Lib.hid (HS.out.later hbel6)
      clear hown0 hown1 hbel6
      obtain ⟨a0, c0, rfl, _, _, _⟩ := own_form HO0.out
      obtain ⟨a1, c1, rfl, _, _, _⟩ := own_form HO1.out
      go_wp2_with (refine wpList_var 184 [.slice none 0 0, .slice none 0 0] _ rfl rfl Tryz.zeroTwo rfl ?_)
      intro w7 hb hbel; have HO0 := Lib.hid (own_below HO0.out hbel); have HO1 := Lib.hid (own_below HO1.out hbel); have HS := Lib.hid (HS.out.push hb hbel); have hlt7 := hb.lt; clear hb hbel
      generalize w6.heap.size = bt at *
      go_wp2_with (refine (HS.out.get 0 rfl).wstore rfl rfl rfl (cs := [.slice a0 n c0, .slice a1 n c1]) rfl Tryz.rowTwo rfl rfl (by intro v hv; simp at hv; rcases hv with rfl | rfl <;> rfl) ?_)
      intro w8 hb8 ho8
      have HO0 := Lib.hid (own_only_ty HO0.out (HS.out.get 0 rfl) HTY.out ho8)
      have HO1 := Lib.hid (own_only_ty HO1.out (HS.out.get 0 rfl) HTY.out ho8)
      have HS := Lib.hid (HS.out.change 0 hb8 ho8 (by omega) (by simp; omega))
      clear hb8 ho8
      go_wp2
      rw [HNUM.out]
      exact TurnAtf.intro bh bt bo cb 0 a0 a1 c0 c1 (leftT fm, rightT fm) rfl (by omega) (by omega) (by omega) (by omega) HST.out rfl HS.out HO0.out HO1.out
    · have hd : decide ((n : Int) ≥ 16) = false := by simp; omega
      have HNUM := Lib.hid (show (7 : Int) = ((numT n : Nat) : Int) by rw [numT_cases, if_neg h16]; rfl)
      go_wp2_with fail
      refine (thalves_ok bo n cb fm _ HFL.out h31 (by rw [← HFM.out.1]; exact HL.out.below (HS.out.old HBB.out))).mono ?_
      rintro e w6 ⟨v0, v1, rfl, hown0, hown1, hbel6⟩
      have hsz3 := HS.out.size
      have HO0 := Lib.hid (own_le hown0 hsz3)
      have HO1 := Lib.hid (own_le hown1 hsz3)
      have hz := (HS.out.get 0 rfl).lt
      have hz6 := hbel6.size
      have HS := Lib.hid (HS.out.later hbel6)
      clear hown0 hown1 hbel6
      obtain ⟨a0, c0, rfl, _, _, _⟩ := own_form HO0.out
      obtain ⟨a1, c1, rfl, _, _, _⟩ := own_form HO1.out
      go_wp2_with (refine wpList_var 184 [.slice none 0 0, .slice none 0 0] _ rfl rfl Tryz.zeroTwo rfl ?_)
      intro w7 hb hbel; have HO0 := Lib.hid (own_below HO0.out hbel); have HO1 := Lib.hid (own_below HO1.out hbel); have HS := Lib.hid (HS.out.push hb hbel); have hlt7 := hb.lt; clear hb hbel
      generalize w6.heap.size = bt at *
      go_wp2_with (refine (HS.out.get 0 rfl).wstore rfl rfl rfl (cs := [.slice a0 n c0, .slice a1 n c1]) rfl Tryz.rowTwo rfl rfl (by intro v hv; simp at hv; rcases hv with rfl | rfl <;> rfl) ?_)
      intro w8 hb8 ho8
      have HO0 := Lib.hid (own_only_ty HO0.out (HS.out.get 0 rfl) HTY.out ho8)
      have HO1 := Lib.hid (own_only_ty HO1.out (HS.out.get 0 rfl) HTY.out ho8)
      have HS := Lib.hid (HS.out.change 0 hb8 ho8 (by omega) (by simp; omega))
      clear hb8 ho8
      go_wp2
      rw [HNUM.out]
      exact TurnAtf.intro bh bt bo cb 0 a0 a1 c0 c1 (leftT fm, rightT fm) rfl (by omega) (by omega) (by omega) (by omega) HST.out rfl HS.out HO0.out HO1.out
  · clear HS HL HSS
    rintro x wr ⟨us, bh, bt, am, cm, j, a0, a1, c0, c1, p, rfl, hjR, hbh, hbt, hne, HTW, HG, HS, HO0, HO1⟩
    have hc0 := fun (y : After wr.drew) => ((HS.out.drew.later y.later).get 0 rfl).cell 0 _ rfl
    have hc1 := fun (y : After wr.drew) => ((HS.out.drew.later y.later).get 0 rfl).cell 1 _ rfl
    have hn5 := numT_le n
    have hj24 : j ≤ 23 := by omega
    have HL0 := Lib.hid (Lies.of_own HO0.out)
    have HL1 := Lib.hid (Lies.of_own HO1.out)
    have HT1 := Lib.hid HTW.out.1
    have HT2 := Lib.hid HTW.out.2
    obtain ⟨s, hs⟩ : ∃ s, s = Ezt.stepT k h (numT n) j p.2 := ⟨_, rfl⟩
    have HSE := Lib.hid (show Ezt.stepT k h (numT n) j p.2 = s ∧ True from ⟨hs.symm, trivial⟩)
    have HSL := Lib.hid (show s.length = n by rw [hs, stepT_length _ _ _ _ _ (by rw [HTW.out.2]; exact h31)]; exact HTW.out.2)
    have HSW := Lib.hid (show swapT k h (numT n) j p = (p.2, xorL p.1 s) ∧ True from ⟨by rw [hs]; rfl, trivial⟩)
    clear hs
    simp only [TurnFramef]
    go_wp2_with fail
    refine wp_region_R [0, 1, 2, 3, 4, 5, 6, 7, 8, 9, 12, 10, 11, 13, 14, 15] (by kernel_rfl) (by kernel_rfl) ?_
    rintro w1 rfl
    (refine walkR_one rfl rfl (fun K hK => ?_); go_big_quiet_step (fail); refine wpQuiet_nil (hK _ ?_); clear hK K); (refine walkR_one rfl rfl (fun K hK => ?_); go_big_quiet_step (fail); refine wpQuiet_nil (hK _ ?_); clear hK K); (refine walkR_one rfl rfl (fun K hK => ?_); go_big_quiet_step (fail); refine wpQuiet_nil (hK _ ?_); clear hK K); (refine walkR_one rfl rfl (fun K hK => ?_); go_big_quiet_step (fail); refine wpQuiet_nil (hK _ ?_); clear hK K); (refine walkR_one rfl rfl (fun K hK => ?_); go_big_quiet_step (fail); refine wpQuiet_nil (hK _ ?_); clear hK K)
    refine walkR_load (HS.out.drew.get 1 rfl).range (HS.out.drew.get 1 rfl).lt Tryz.row16 HHM.out rfl rfl rfl rfl (fun K hK => ?_)
    go_simp; refine hK _ ?_; clear hK K
    (refine walkR_one rfl rfl (fun K hK => ?_); go_big_quiet_step (fail); refine wpQuiet_nil (hK _ ?_); clear hK K); (refine walkR_one rfl rfl (fun K hK => ?_); go_big_quiet_step (fail); refine wpQuiet_nil (hK _ ?_); clear hK K); (refine walkR_one rfl rfl (fun K hK => ?_); go_big_quiet_step (fail); refine wpQuiet_nil (hK _ ?_); clear hK K); (refine walkR_one rfl rfl (fun K hK => ?_); go_big_quiet_step (fail); refine wpQuiet_nil (hK _ ?_); clear hK K); (refine walkR_one rfl rfl (fun K hK => ?_); go_big_quiet_step (fail); refine wpQuiet_nil (hK _ ?_); clear hK K)
    clear hc0 hc1
    have hw1 : bb ≤ wr.drew.heap.size := HS.out.drew.size
    refine walkR_call rfl rfl (by rfl) (fun K hK => ?_)
    go_simp
    refine (tstep_ok kp q tb k h (numT n) j a1 n c1 p.2 _ (HK.out.later (HS.out.drew.old HBB.out)) HHL.out hn5 (by omega) HT2.out h31 (HL1.out.below (Below.refl _ _).drew)).mono ?_
    rintro e w2 ⟨v2, rfl, hown2, hbel2⟩
    rw [HSE.out.1] at hown2
    obtain ⟨a2, c2, rfl, _, _, hl2⟩ := own_form hown2
    have HL2 := Lib.hid hl2
    have hbel2' := (Below.refl _ wr).drew.trans hbel2
    have HS := Lib.hid (HS.out.drew.later hbel2)
    have HO0 := Lib.hid (own_below HO0.out hbel2')
    have HO1 := Lib.hid (own_below HO1.out hbel2')
    have HL0 := Lib.hid (HL0.out.below hbel2')
    clear hown2 hl2 hbel2'
    go_simp
    refine hK _ _ hbel2 ?_
    clear hK K hbel2
    refine walkR_call rfl rfl (by rfl) (fun K hK => ?_)
    go_simp
    refine (xor_ok a0 a2 n n c0 c2 p.1 s _ HT1.out HSL.out (by omega) (by omega) HL0.out HL2.out).mono ?_
    rintro e w3 ⟨v3, rfl, hown3, hbel3⟩
    rw [Nat.min_self] at hown3
    obtain ⟨a3, c3, rfl, _, _, _⟩ := own_form hown3
    have hw2 := HS.out.size
    have HO3 := Lib.hid (own_le hown3 hw2)
    have HS := Lib.hid (HS.out.later hbel3)
    have HO1 := Lib.hid (own_below HO1.out hbel3)
    clear hown3 HL0 HL1 HL2 HO0
    simp only [id]
    go_simp
    refine hK _ _ hbel3 ?_
    clear hK K hbel3
    refine walkR_free rfl rfl (by rfl) (fun K hK => ?_)
    refine (HS.out.get 0 rfl).opset (v := .slice a1 n c1) rfl rfl rfl Tryz.size22 rfl rfl (by simp) (fun w4 hb4 ho4 => hK _ _ ?_)
    clear hK K
    have HO1 := Lib.hid (own_only_ty HO1.out (HS.out.get 0 rfl) HTY.out ho4)
    have HO3 := Lib.hid (own_only_ty HO3.out (HS.out.get 0 rfl) HTY.out ho4)
    have HS := Lib.hid (show St w bb w4 [(bt, [.slice a1 n c1, .slice a1 n c1], 184), (bh, h.map B, 52)] from HS.out.change 0 hb4 ho4 (by omega) (by simp; omega))
    clear hb4 ho4
    go_simp
    (refine walkR_one rfl rfl (fun K hK => ?_); go_big_quiet_step (fail); refine wpQuiet_nil (hK _ ?_); clear hK K)
    refine walkR_free rfl rfl (by rfl) (fun K hK => ?_)
    refine (HS.out.get 0 rfl).opset (v := .slice a3 n c3) rfl rfl rfl Tryz.size22 rfl rfl (by simp) (fun w5 hb5 ho5 => hK _ _ ?_)
    clear hK K
    have HO1 := Lib.hid (own_only_ty HO1.out (HS.out.get 0 rfl) HTY.out ho5)
    have HO3 := Lib.hid (own_only_ty HO3.out (HS.out.get 0 rfl) HTY.out ho5)
    have HS := Lib.hid (show St w bb w5 [(bt, [.slice a1 n c1, .slice a3 n c3], 184), (bh, h.map B, 52)] from HS.out.change 0 hb5 ho5 (by omega) (by simp; omega))
    clear hb5 ho5
    go_simp
    refine walkR_nil ?_
    obtain ⟨x1, hx1⟩ : ∃ x1, x1 = xorL p.1 s := ⟨_, rfl⟩
    have HXE := Lib.hid (show xorL p.1 s = x1 ∧ True from ⟨hx1.symm, trivial⟩)
    rw [HXE.out.1] at HO3 HSW
    have HT3 := Lib.hid (show Two n (p.2, x1) from by
      have := HTW.out.swap (k := k) (h := h) (i := numT n) (j := j) h31
      rwa [HSW.out.1] at this)
    clear hx1
    have dd : decide ((j : Int) + 1 ≥ 0) = true := by simp; omega
    have dd2 : decide (0 ≤ (j : Int) + 1) = true := by simp; omega
    go_wp2_with fail
    refine (rounds_ok' n _ h1 h31).mono ?_
    rintro e w6 ⟨rfl, rfl⟩
    by_cases hlast : j + 1 < roundsT n
    · have hd : decide ((j : Int) + 1 < (roundsT n : Int)) = true := by simp; omega
      have HG' := Lib.hid (show (p.2, x1) = upT k h (numT n) (j + 1) (leftT fm, rightT fm) ∧ True from ⟨by rw [← HSW.out.1, HG.out.1]; rfl, trivial⟩)
      go_wp2_with fail
      refine wp_goto ?_
      exact ⟨rfl, TurnAtf.intro bh bt am cm (j + 1) a1 a3 c1 c3 (p.2, x1) (by rfl) hlast hbh hbt hne HT3.out HG'.out.1 HS.out HO1.out HO3.out, by simp [intOf]; omega⟩
    · have hd : decide ((j : Int) + 1 < (roundsT n : Int)) = false := by simp; omega
      have HG' := Lib.hid (show (p.2, x1) = upT k h (numT n) (roundsT n) (leftT fm, rightT fm) ∧ True from ⟨by rw [← HSW.out.1, HG.out.1, show roundsT n = j + 1 by omega]; rfl, trivial⟩)
      have hc0 := (HS.out.get 0 rfl).cell 0 _ rfl
      have hc1 := (HS.out.get 0 rfl).cell 1 _ rfl
      have HL1 := Lib.hid (Lies.of_own HO1.out)
      have hsz := HS.out.size
      go_wp2_with (at_builtin; refine wpList_append_any rfl (.tmp 71) (.tmp 73) 22 rfl bb 5 i0 (.int .u8 0) 1 Tryz.underlying22 HI.out.1 HI.out.2.1 HI.out.2.2.1 HI.out.2.2.2 rfl _ _ _ rfl HO3.out a1 n c1 (p.2.map B) rfl (by rw [List.length_map]; exact HT2.out) HL1.out (B_one _) (by unfold maxLen; omega) (by omega) hsz ?_)
      intro v7 w7 hown7 hg7
      have hbel7 := below_append HS.out.bel HO3.out hg7 (Nat.le_refl _) hsz
      obtain ⟨a7, c7, rfl, _, _, hl7⟩ := own_form hown7
      have HL7 := Lib.hid (show Lies w7 a7 ((x1 ++ p.2).map B) by rw [List.map_append]; exact hl7)
      have HBE := Lib.hid hbel7
      have HX1 := Lib.hid HT3.out.2
      have HBH := Lib.hid ((HS.out.get 1 rfl).grownTy HTB.out HO3.out hg7)
      clear hown7 hg7 hl7 hbel7 hc0 hc1
      go_wp2_with fail
      refine (join_ok a7 (n + n) c7 (x1 ++ p.2) _ (by rw [List.length_append, HX1.out, HT2.out]) (by omega) HL7.out).mono ?_
      rintro e w8 ⟨v8, rfl, hown8, hbel8⟩
      rw [show (n + n + 1) / 2 = n by omega] at hown8
      have hown8 : w8.ownsRow w7.heap.size 5 1 v8 n ((outT (p.2, x1)).map B) := hown8
      rw [HG'.out.1] at hown8
      have hle7 : bb ≤ w7.heap.size := by rw [← HBB.out]; exact HBE.out.size
      have HOWN := Lib.hid (own_le hown8 hle7)
      have HBE := Lib.hid (HBE.out.trans (hbel8.mono hle7))
      simp only [id]
      have HBH := Lib.hid (HBH.out.below hbel8 HBH.out.lt)
      clear hown8 hbel8
      obtain ⟨a8, c8, rfl, hc8, _, hl8⟩ := own_form HOWN.out
      have HL8 := Lib.hid hl8
      have HOL := Lib.hid (show (outT (upT k h (numT n) (roundsT n) (leftT fm, rightT fm))).length = n by rw [← HG'.out.1]; exact HT3.out.out)
      clear hl8
      go_wp2_with (refine HBH.out.wload rfl rfl rfl Tryz.row16 HHM.out ?_)
      go_wp2_with fail
      refine (tflip_ok kp q tb k h a8 n c8 _ _ (HK.out.later (show Below w.heap.size w _ by rw [HBB.out]; exact HBE.out)) HHL.out HOL.out h1 h31 HL8.out).mono ?_
      rintro e w9 ⟨v9, rfl, hown9, hbel9⟩
      have hle8 : bb ≤ w8.heap.size := by rw [← HBB.out]; exact HBE.out.size
      have HOWN := Lib.hid (own_le hown9 hle8)
      have HBE := Lib.hid (HBE.out.trans (hbel9.mono hle8))
      clear hown9 hbel9
      go_wp2
      rw [Exit.jump_ret]
      go_ret2
      exact ⟨_, rfl, by rw [HBB.out]; exact HOWN.out, by rw [HBB.out]; exact HBE.out⟩

abbrev TurnFrameb (kp bh bt : Nat) (am : Option Addr) (n cm i j : Nat) (us : Nat → Value) : Act := { tmps := #[.pointer (some ⟨kp, 0, none⟩), us 1, .slice am n cm, .bool true, us 4, us 5, us 6, us 7, us 8, us 9, .pointer (some ⟨bh, 0, none⟩), .int .i64 i, .int .i64 j, .int .i64 (-1), .pointer (some ⟨bt, 0, none⟩), us 15, us 16, us 17, us 18, us 19, us 20, us 21, us 22, us 23, us 24, us 25, us 26, us 27, us 28, us 29, us 30, us 31, us 32, us 33, us 34, us 35, us 36, us 37, us 38, us 39, us 40, us 41, us 42, us 43, us 44, us 45, us 46, us 47, us 48, us 49, us 50, us 51, us 52, us 53, us 54, us 55, us 56, us 57, us 58, us 59, us 60, us 61, us 62, us 63, us 64, us 65, us 66, us 67, us 68, us 69, us 70, us 71, us 72, us 73, us 74, us 75, us 76, us 77, us 78, us 79, us 80, us 81, us 82], defers := [] }
/-- The state at the label. -/
def TurnAtb (kp n bb : Nat) (k : Parts) (h : List UInt8) (st : List UInt8 × List UInt8) (w : World) (x : Act) (wr : World) : Prop :=
  ∃ (us : Nat → Value) (bh bt : Nat) (am : Option Addr) (cm j : Nat) (a0 a1 : Option Addr) (c0 c1 : Nat) (p : List UInt8 × List UInt8), x = TurnFrameb kp bh bt am n cm (numT n) j us ∧ j < roundsT n ∧ bb ≤ bh ∧ bb ≤ bt ∧ bh ≠ bt ∧
    Hid (Two n p) ∧ Hid (downT k h (numT n) (j + 1) p = downT k h (numT n) (roundsT n) st ∧ True) ∧ Hid (St w bb wr [(bt, [.slice a0 n c0, .slice a1 n c1], 184), (bh, h.map B, 52)]) ∧
    Hid (wr.ownsRow bb 5 1 (.slice a0 n c0) n (p.1.map B)) ∧ Hid (wr.ownsRow bb 5 1 (.slice a1 n c1) n (p.2.map B))
theorem TurnAtb.intro {kp n bb : Nat} {k : Parts} {h : List UInt8} {st : List UInt8 × List UInt8} {w : World} {x : Act} {wr : World} (bh bt : Nat) (am : Option Addr) (cm j : Nat) (a0 a1 : Option Addr) (c0 c1 : Nat) (p : List UInt8 × List UInt8)
    (hx : x = TurnFrameb kp bh bt am n cm (numT n) j (fun i => x.tmps.getD i undef)) (hj : j < roundsT n) (h1 : bb ≤ bh) (h2 : bb ≤ bt) (h3 : bh ≠ bt) (h4 : Two n p) (h5 : downT k h (numT n) (j + 1) p = downT k h (numT n) (roundsT n) st) (h6 : St w bb wr [(bt, [.slice a0 n c0, .slice a1 n c1], 184), (bh, h.map B, 52)])
    (h7 : wr.ownsRow bb 5 1 (.slice a0 n c0) n (p.1.map B)) (h8 : wr.ownsRow bb 5 1 (.slice a1 n c1) n (p.2.map B)) : TurnAtb kp n bb k h st w x wr :=
  ⟨_, bh, bt, am, cm, j, a0, a1, c0, c1, p, hx, hj, h1, h2, h3, h4, ⟨h5, trivial⟩, h6, h7, h8⟩

set_option maxHeartbeats 4000000 in
theorem tturn_b (kp q tb : Nat) (k : Parts) (ao : Option Addr) (N cap : Nat) (ss : List Str) (bo : Option Addr) (n cb : Nat) (m : List UInt8) (w : World) (hk : EKey w kp q tb k) (hN : ss.length = N) (hN1 : N ≤ 500) (hs : StrsIn w ao ss) (hlen : ∀ s ∈ ss, s.bs.length ≤ 10000)
    (hn : m.length = n) (h1 : 1 ≤ n) (h31 : n ≤ 31) (hl : Lies w bo (m.map B)) :
    Calls Tryz.prog 78 #[.pointer (some ⟨kp, 0, none⟩), .slice ao N cap, .slice bo n cb, .bool true] w fun e w' => ∃ v, e = .returned (.tuple #[v, .int .i64 0]) ∧ w'.ownsRow w.heap.size 5 1 v n ((turnT k (rowOf ss) m true).map B) ∧ Below w.heap.size w w' := by
  obtain ⟨i0, hi0, hz0, hz1, hz2⟩ := info_parts Tryz.infoB
  have HI := Lib.hid (And.intro hi0 (And.intro hz0 (And.intro hz1 hz2)))
  obtain ⟨h, hh⟩ : ∃ h, h = hashH k (rowOf ss) := ⟨_, rfl⟩
  obtain ⟨fm, hfm⟩ : ∃ fm, fm = flipT k h m := ⟨_, rfl⟩
  have HH := Lib.hid (show hashH k (rowOf ss) = h ∧ True from ⟨hh.symm, trivial⟩)
  have HHL := Lib.hid (show h.length = 16 by rw [hh]; exact hashH_length _ _)
  have HHM := Lib.hid (show (h.map B).length = 16 by rw [List.length_map]; exact HHL.out)
  have HFM := Lib.hid (show flipT k h m = fm ∧ True from ⟨hfm.symm, trivial⟩)
  have HFL := Lib.hid (show fm.length = n by rw [hfm]; exact (flipT_length k h m).trans hn)
  have HTT := Lib.hid (show turnT k (rowOf ss) m true = outT (downT k h (numT n) (roundsT n) (leftT fm, rightT fm)) ∧ True from ⟨by unfold turnT; rw [if_pos rfl]; rw [hn, ← hh, hfm], trivial⟩)
  have HST := Lib.hid (show Two n (leftT fm, rightT fm) by have := Two.start fm; rwa [HFL.out] at this)
  rw [HTT.out.1]
  have HK := Lib.hid hk
  have HNN := Lib.hid hN
  have HSS := Lib.hid hs
  have HLEN := Lib.hid hlen
  have HN := Lib.hid hn
  have HL := Lib.hid hl
  obtain ⟨bb, hbb⟩ : ∃ bb, bb = w.heap.size := ⟨_, rfl⟩
  have HBB := Lib.hid (show w.heap.size = bb from hbb.symm)
  have HS := Lib.hid (show St w bb w [] by rw [hbb]; exact St.start w)
  have f0 : ((n : Int) == 0) = false := by simp; omega
  have f1 : decide ((n : Int) > 31) = false := by simp; omega
  have hR1 := roundsT_pos h1 h31
  have hR24 := roundsT_le n
  have HTB := Lib.hid (show (5 : TypeId) ≠ 52 by decide)
  have HTY := Lib.hid (show (5 : TypeId) ≠ 184 by decide)
  clear hk hN hs hlen hn hl hi0 hz0 hz1 hz2 hh hfm HTT hbb
  go_enter Tryz.func78, Tryz.ntmps78
  go_wp2_with fail
  refine wp_scope_label 0 (TurnAtb kp n bb k h (leftT fm, rightT fm) w) (fun x _ => (intOf (x.tmps.getD 12 undef)).toNat + 1) rfl ?_ ?_
  · simp only [wpPre]
    go_wp2_with fail
    refine (hash_ok kp q tb k ao N cap ss _ HK.out HNN.out hN1 HSS.out HLEN.out).mono ?_
    rintro e w1 ⟨rfl, hbel1⟩
    rw [HH.out.1]
    have HS := Lib.hid (HS.out.later hbel1)
    clear hbel1
    go_wp2_with (refine wpList_var 52 ((zeros 16).map B) _ rfl rfl Tryz.zero16 rfl ?_)
    intro w2 hb hbel; have hs1 := HS.out.size; have HS := Lib.hid (HS.out.push hb hbel); have hlt2 := hb.lt; clear hb hbel
    generalize w1.heap.size = bh at *
    go_wp2_with (refine (HS.out.get 0 rfl).wstore rfl rfl rfl (cs := h.map B) rfl Tryz.row16 (by simp [zeros_length]) HHM.out (oneCell_B _) ?_)
    intro w3 hb3 ho3
    have HS := Lib.hid (HS.out.change 0 hb3 ho3 (by omega) (by simp))
    clear hb3 ho3
    by_cases h16 : 16 ≤ n
    · have hd : decide ((n : Int) ≥ 16) = true := by simp; omega
      have HNUM := Lib.hid (show (6 : Int) = ((numT n : Nat) : Int) by rw [numT_cases, if_pos h16]; rfl)
      go_wp2_with fail
      refine (rounds_ok' n _ h1 h31).mono ?_
      rintro e w4 ⟨rfl, rfl⟩
      go_wp2_with (refine (HS.out.get 0 rfl).wload rfl rfl rfl Tryz.row16 HHM.out ?_)
      go_wp2_with fail
      refine (tflip_ok kp q tb k h bo n cb m _ (HK.out.later (HS.out.old HBB.out)) HHL.out HN.out h1 h31 (HL.out.below (HS.out.old HBB.out))).mono ?_
      rintro e w5 ⟨v5, rfl, hown5, hbel5⟩
      rw [HFM.out.1] at hown5
      obtain ⟨am, cm, rfl, hcm, _, hl5⟩ := own_form hown5
      have HM := Lib.hid hl5
      have HS := Lib.hid (HS.out.later hbel5)
      clear hown5 hbel5 hl5
      go_wp2_with fail
      refine (thalves_ok am n cm fm _ HFL.out h31 HM.out).mono ?_
      rintro e w6 ⟨v0, v1, rfl, hown0, hown1, hbel6⟩
      have hsz3 := HS.out.size
      have HO0 := Lib.hid (own_le hown0 hsz3)
      have HO1 := Lib.hid (own_le hown1 hsz3)
      have hz := (HS.out.get 0 rfl).lt
      have hz6 := hbel6.size
      have HS := Lib.hid (HS.out.later hbel6)
      clear hown0 hown1 hbel6
      obtain ⟨a0, c0, rfl, _, _, _⟩ := own_form HO0.out
      obtain ⟨a1, c1, rfl, _, _, _⟩ := own_form HO1.out
      go_wp2_with (refine wpList_var 184 [.slice none 0 0, .slice none 0 0] _ rfl rfl Tryz.zeroTwo rfl ?_)
      intro w7 hb hbel; have HO0 := Lib.hid (own_below HO0.out hbel); have HO1 := Lib.hid (own_below HO1.out hbel); have HS := Lib.hid (HS.out.push hb hbel); have hlt7 := hb.lt; clear hb hbel
      generalize w6.heap.size = bt at *
      go_wp2_with (refine (HS.out.get 0 rfl).wstore rfl rfl rfl (cs := [.slice a0 n c0, .slice a1 n c1]) rfl Tryz.rowTwo rfl rfl (by intro v hv; simp at hv; rcases hv with rfl | rfl <;> rfl) ?_)
      intro w8 hb8 ho8
      have HO0 := Lib.hid (own_only_ty HO0.out (HS.out.get 0 rfl) HTY.out ho8)
      have HO1 := Lib.hid (own_only_ty HO1.out (HS.out.get 0 rfl) HTY.out ho8)
      have HS := Lib.hid (HS.out.change 0 hb8 ho8 (by omega) (by simp; omega))
      clear hb8 ho8
      go_wp2
      rw [HNUM.out]
      rw [show ((roundsT n : Nat) : Int) - 1 = ((roundsT n - 1 : Nat) : Int) by omega]
      exact TurnAtb.intro bh bt am cm (roundsT n - 1) a0 a1 c0 c1 (leftT fm, rightT fm) rfl (by omega) (by omega) (by omega) (by omega) HST.out (by rw [Nat.sub_add_cancel hR1]) HS.out HO0.out HO1.out
    · have hd : decide ((n : Int) ≥ 16) = false := by simp; omega
      have HNUM := Lib.hid (show (7 : Int) = ((numT n : Nat) : Int) by rw [numT_cases, if_neg h16]; rfl)
      go_wp2_with fail
      refine (rounds_ok' n _ h1 h31).mono ?_
      rintro e w4 ⟨rfl, rfl⟩
      go_wp2_with (refine (HS.out.get 0 rfl).wload rfl rfl rfl Tryz.row16 HHM.out ?_)
      go_wp2_with fail
      refine (tflip_ok kp q tb k h bo n cb m _ (HK.out.later (HS.out.old HBB.out)) HHL.out HN.out h1 h31 (HL.out.below (HS.out.old HBB.out))).mono ?_
      rintro e w5 ⟨v5, rfl, hown5, hbel5⟩
      rw [HFM.out.1] at hown5
      obtain ⟨am, cm, rfl, hcm, _, hl5⟩ := own_form hown5
      have HM := Lib.hid hl5
      have HS := Lib.hid (HS.out.later hbel5)
      clear hown5 hbel5 hl5
      go_wp2_with fail
      refine (thalves_ok am n cm fm _ HFL.out h31 HM.out).mono ?_
      rintro e w6 ⟨v0, v1, rfl, hown0, hown1, hbel6⟩
      have hsz3 := HS.out.size
      have HO0 := Lib.hid (own_le hown0 hsz3)
      have HO1 := Lib.hid (own_le hown1 hsz3)
      have hz := (HS.out.get 0 rfl).lt
      have hz6 := hbel6.size
      have HS := Lib.hid (HS.out.later hbel6)
      clear hown0 hown1 hbel6
      obtain ⟨a0, c0, rfl, _, _, _⟩ := own_form HO0.out
      obtain ⟨a1, c1, rfl, _, _, _⟩ := own_form HO1.out
      go_wp2_with (refine wpList_var 184 [.slice none 0 0, .slice none 0 0] _ rfl rfl Tryz.zeroTwo rfl ?_)
      intro w7 hb hbel; have HO0 := Lib.hid (own_below HO0.out hbel); have HO1 := Lib.hid (own_below HO1.out hbel); have HS := Lib.hid (HS.out.push hb hbel); have hlt7 := hb.lt; clear hb hbel
      generalize w6.heap.size = bt at *
      go_wp2_with (refine (HS.out.get 0 rfl).wstore rfl rfl rfl (cs := [.slice a0 n c0, .slice a1 n c1]) rfl Tryz.rowTwo rfl rfl (by intro v hv; simp at hv; rcases hv with rfl | rfl <;> rfl) ?_)
      intro w8 hb8 ho8
      have HO0 := Lib.hid (own_only_ty HO0.out (HS.out.get 0 rfl) HTY.out ho8)
      have HO1 := Lib.hid (own_only_ty HO1.out (HS.out.get 0 rfl) HTY.out ho8)
      have HS := Lib.hid (HS.out.change 0 hb8 ho8 (by omega) (by simp; omega))
      clear hb8 ho8
      go_wp2
      rw [HNUM.out]
      rw [show ((roundsT n : Nat) : Int) - 1 = ((roundsT n - 1 : Nat) : Int) by omega]
      exact TurnAtb.intro bh bt am cm (roundsT n - 1) a0 a1 c0 c1 (leftT fm, rightT fm) rfl (by omega) (by omega) (by omega) (by omega) HST.out (by rw [Nat.sub_add_cancel hR1]) HS.out HO0.out HO1.out
  · clear HS HL HSS
    rintro x wr ⟨us, bh, bt, am, cm, j, a0, a1, c0, c1, p, rfl, hjR, hbh, hbt, hne, HTW, HG, HS, HO0, HO1⟩
    have hc0 := fun (y : After wr.drew) => ((HS.out.drew.later y.later).get 0 rfl).cell 0 _ rfl
    have hc1 := fun (y : After wr.drew) => ((HS.out.drew.later y.later).get 0 rfl).cell 1 _ rfl
    have hn5 := numT_le n
    have hj24 : j ≤ 23 := by omega
    have HL0 := Lib.hid (Lies.of_own HO0.out)
    have HL1 := Lib.hid (Lies.of_own HO1.out)
    have HT1 := Lib.hid HTW.out.1
    have HT2 := Lib.hid HTW.out.2
    obtain ⟨s, hs⟩ : ∃ s, s = Ezt.stepT k h (numT n) j p.2 := ⟨_, rfl⟩
    have HSE := Lib.hid (show Ezt.stepT k h (numT n) j p.2 = s ∧ True from ⟨hs.symm, trivial⟩)
    have HSL := Lib.hid (show s.length = n by rw [hs, stepT_length _ _ _ _ _ (by rw [HTW.out.2]; exact h31)]; exact HTW.out.2)
    have HSW := Lib.hid (show swapT k h (numT n) j p = (p.2, xorL p.1 s) ∧ True from ⟨by rw [hs]; rfl, trivial⟩)
    clear hs
    simp only [TurnFrameb]
    go_wp2_with fail
    refine wp_region_R [0, 1, 2, 3, 4, 5, 6, 7, 8, 9, 12, 10, 11, 13, 14, 15] (by kernel_rfl) (by kernel_rfl) ?_
    rintro w1 rfl
    (refine walkR_one rfl rfl (fun K hK => ?_); go_big_quiet_step (fail); refine wpQuiet_nil (hK _ ?_); clear hK K); (refine walkR_one rfl rfl (fun K hK => ?_); go_big_quiet_step (fail); refine wpQuiet_nil (hK _ ?_); clear hK K); (refine walkR_one rfl rfl (fun K hK => ?_); go_big_quiet_step (fail); refine wpQuiet_nil (hK _ ?_); clear hK K); (refine walkR_one rfl rfl (fun K hK => ?_); go_big_quiet_step (fail); refine wpQuiet_nil (hK _ ?_); clear hK K); (refine walkR_one rfl rfl (fun K hK => ?_); go_big_quiet_step (fail); refine wpQuiet_nil (hK _ ?_); clear hK K)
    refine walkR_load (HS.out.drew.get 1 rfl).range (HS.out.drew.get 1 rfl).lt Tryz.row16 HHM.out rfl rfl rfl rfl (fun K hK => ?_)
    go_simp; refine hK _ ?_; clear hK K
    (refine walkR_one rfl rfl (fun K hK => ?_); go_big_quiet_step (fail); refine wpQuiet_nil (hK _ ?_); clear hK K); (refine walkR_one rfl rfl (fun K hK => ?_); go_big_quiet_step (fail); refine wpQuiet_nil (hK _ ?_); clear hK K); (refine walkR_one rfl rfl (fun K hK => ?_); go_big_quiet_step (fail); refine wpQuiet_nil (hK _ ?_); clear hK K); (refine walkR_one rfl rfl (fun K hK => ?_); go_big_quiet_step (fail); refine wpQuiet_nil (hK _ ?_); clear hK K); (refine walkR_one rfl rfl (fun K hK => ?_); go_big_quiet_step (fail); refine wpQuiet_nil (hK _ ?_); clear hK K)
    clear hc0 hc1
    have hw1 : bb ≤ wr.drew.heap.size := HS.out.drew.size
    refine walkR_call rfl rfl (by rfl) (fun K hK => ?_)
    go_simp
    refine (tstep_ok kp q tb k h (numT n) j a1 n c1 p.2 _ (HK.out.later (HS.out.drew.old HBB.out)) HHL.out hn5 (by omega) HT2.out h31 (HL1.out.below (Below.refl _ _).drew)).mono ?_
    rintro e w2 ⟨v2, rfl, hown2, hbel2⟩
    rw [HSE.out.1] at hown2
    obtain ⟨a2, c2, rfl, _, _, hl2⟩ := own_form hown2
    have HL2 := Lib.hid hl2
    have hbel2' := (Below.refl _ wr).drew.trans hbel2
    have HS := Lib.hid (HS.out.drew.later hbel2)
    have HO0 := Lib.hid (own_below HO0.out hbel2')
    have HO1 := Lib.hid (own_below HO1.out hbel2')
    have HL0 := Lib.hid (HL0.out.below hbel2')
    clear hown2 hl2 hbel2'
    go_simp
    refine hK _ _ hbel2 ?_
    clear hK K hbel2
    refine walkR_call rfl rfl (by rfl) (fun K hK => ?_)
    go_simp
    refine (xor_ok a0 a2 n n c0 c2 p.1 s _ HT1.out HSL.out (by omega) (by omega) HL0.out HL2.out).mono ?_
    rintro e w3 ⟨v3, rfl, hown3, hbel3⟩
    rw [Nat.min_self] at hown3
    obtain ⟨a3, c3, rfl, _, _, _⟩ := own_form hown3
    have hw2 := HS.out.size
    have HO3 := Lib.hid (own_le hown3 hw2)
    have HS := Lib.hid (HS.out.later hbel3)
    have HO1 := Lib.hid (own_below HO1.out hbel3)
    clear hown3 HL0 HL1 HL2 HO0
    simp only [id]
    go_simp
    refine hK _ _ hbel3 ?_
    clear hK K hbel3
    refine walkR_free rfl rfl (by rfl) (fun K hK => ?_)
    refine (HS.out.get 0 rfl).opset (v := .slice a1 n c1) rfl rfl rfl Tryz.size22 rfl rfl (by simp) (fun w4 hb4 ho4 => hK _ _ ?_)
    clear hK K
    have HO1 := Lib.hid (own_only_ty HO1.out (HS.out.get 0 rfl) HTY.out ho4)
    have HO3 := Lib.hid (own_only_ty HO3.out (HS.out.get 0 rfl) HTY.out ho4)
    have HS := Lib.hid (show St w bb w4 [(bt, [.slice a1 n c1, .slice a1 n c1], 184), (bh, h.map B, 52)] from HS.out.change 0 hb4 ho4 (by omega) (by simp; omega))
    clear hb4 ho4
    go_simp
    (refine walkR_one rfl rfl (fun K hK => ?_); go_big_quiet_step (fail); refine wpQuiet_nil (hK _ ?_); clear hK K)
    refine walkR_free rfl rfl (by rfl) (fun K hK => ?_)
    refine (HS.out.get 0 rfl).opset (v := .slice a3 n c3) rfl rfl rfl Tryz.size22 rfl rfl (by simp) (fun w5 hb5 ho5 => hK _ _ ?_)
    clear hK K
    have HO1 := Lib.hid (own_only_ty HO1.out (HS.out.get 0 rfl) HTY.out ho5)
    have HO3 := Lib.hid (own_only_ty HO3.out (HS.out.get 0 rfl) HTY.out ho5)
    have HS := Lib.hid (show St w bb w5 [(bt, [.slice a1 n c1, .slice a3 n c3], 184), (bh, h.map B, 52)] from HS.out.change 0 hb5 ho5 (by omega) (by simp; omega))
    clear hb5 ho5
    go_simp
    refine walkR_nil ?_
    obtain ⟨x1, hx1⟩ : ∃ x1, x1 = xorL p.1 s := ⟨_, rfl⟩
    have HXE := Lib.hid (show xorL p.1 s = x1 ∧ True from ⟨hx1.symm, trivial⟩)
    rw [HXE.out.1] at HO3 HSW
    have HT3 := Lib.hid (show Two n (p.2, x1) from by
      have := HTW.out.swap (k := k) (h := h) (i := numT n) (j := j) h31
      rwa [HSW.out.1] at this)
    clear hx1
    by_cases hlast : 0 < j
    · obtain ⟨j2, hj2⟩ : ∃ j2, j = j2 + 1 := ⟨j - 1, by omega⟩
      subst hj2
      have dd0 : ((j2 + 1 : Nat) : Int) + -1 = (j2 : Int) := by omega
      have dd3 : ((j2 : Int) + 1) + -1 = (j2 : Int) := by omega
      have dd1 : decide ((j2 : Int) ≥ 0) = true := by simp
      have hd : decide ((j2 : Int) < (roundsT n : Int)) = true := by simp; omega
      have HG' := Lib.hid (show downT k h (numT n) (j2 + 1) (p.2, x1) = downT k h (numT n) (roundsT n) (leftT fm, rightT fm) ∧ True from ⟨by rw [← HSW.out.1, ← HG.out.1]; rfl, trivial⟩)
      go_wp2_with fail
      refine (rounds_ok' n _ h1 h31).mono ?_
      rintro e w6 ⟨rfl, rfl⟩
      go_wp2_with fail
      refine wp_goto ?_
      exact ⟨rfl, TurnAtb.intro bh bt am cm j2 a1 a3 c1 c3 (p.2, x1) (by rfl) (by omega) hbh hbt hne HT3.out HG'.out.1 HS.out HO1.out HO3.out, by simp [intOf]⟩
    · obtain rfl : j = 0 := by omega
      have HG' := Lib.hid (show (p.2, x1) = downT k h (numT n) (roundsT n) (leftT fm, rightT fm) ∧ True from ⟨by rw [← HSW.out.1, ← HG.out.1]; rfl, trivial⟩)
      have hc0 := (HS.out.get 0 rfl).cell 0 _ rfl
      have hc1 := (HS.out.get 0 rfl).cell 1 _ rfl
      have HL1 := Lib.hid (Lies.of_own HO1.out)
      have hsz := HS.out.size
      go_wp2_with (at_builtin; refine wpList_append_any rfl (.tmp 71) (.tmp 73) 22 rfl bb 5 i0 (.int .u8 0) 1 Tryz.underlying22 HI.out.1 HI.out.2.1 HI.out.2.2.1 HI.out.2.2.2 rfl _ _ _ rfl HO3.out a1 n c1 (p.2.map B) rfl (by rw [List.length_map]; exact HT2.out) HL1.out (B_one _) (by unfold maxLen; omega) (by omega) hsz ?_)
      intro v7 w7 hown7 hg7
      have hbel7 := below_append HS.out.bel HO3.out hg7 (Nat.le_refl _) hsz
      obtain ⟨a7, c7, rfl, _, _, hl7⟩ := own_form hown7
      have HL7 := Lib.hid (show Lies w7 a7 ((x1 ++ p.2).map B) by rw [List.map_append]; exact hl7)
      have HBE := Lib.hid hbel7
      have HX1 := Lib.hid HT3.out.2

      clear hown7 hg7 hl7 hbel7 hc0 hc1
      go_wp2_with fail
      refine (join_ok a7 (n + n) c7 (x1 ++ p.2) _ (by rw [List.length_append, HX1.out, HT2.out]) (by omega) HL7.out).mono ?_
      rintro e w8 ⟨v8, rfl, hown8, hbel8⟩
      rw [show (n + n + 1) / 2 = n by omega] at hown8
      have hown8 : w8.ownsRow w7.heap.size 5 1 v8 n ((outT (p.2, x1)).map B) := hown8
      rw [HG'.out.1] at hown8
      have hle7 : bb ≤ w7.heap.size := by rw [← HBB.out]; exact HBE.out.size
      have HOWN := Lib.hid (own_le hown8 hle7)
      have HBE := Lib.hid (HBE.out.trans (hbel8.mono hle7))
      simp only [id]
      clear hown8 hbel8
      go_wp2
      rw [Exit.jump_ret]
      go_ret2
      exact ⟨_, rfl, by rw [HBB.out]; exact HOWN.out, by rw [HBB.out]; exact HBE.out⟩

end Go.Proofs.YtbpghohkhngdfaaGreatDoor
/-
  The walks of slices.Grow, slices.Concat, octet.Same, and of a context's strings.
-/
namespace Go.Mem
/-- The bytes of rows, one behind the other. -/
def catS (l : List Str) : List UInt8 := (l.map (·.bs)).flatten
theorem catS_snoc (l : List Str) (s : Str) : catS (l ++ [s]) = catS l ++ s.bs := by simp [catS]
theorem catS_take_le (l : List Str) (i : Nat) : (catS (l.take i)).length ≤ (catS l).length := by
  conv => rhs; rw [← List.take_append_drop i l]
  unfold catS
  rw [List.map_append, List.flatten_append, List.length_append]
  omega
end Go.Mem
namespace Go.Proofs.YtbpghohkhngdfaaGreatDoor
open Go.RowKit Go.Mem Go.Ops Go.Cells Go.Oct Go.Gf Go.Trn Go.Aes Go.Ring Go.Ezk Go.Ezh Go.Ezt Go.CutP Go.Fl
set_option linter.unusedSimpArgs false
set_option linter.unusedVariables false
set_option maxRecDepth 100000
attribute [local irreducible] walkR walkP walk0 walkB walkK

theorem wpList_append_run {P : Program} {w : World} {ops : Array Oper} {rest : List Oper} {o : Oper} {a : Act} {Q : Exit → Act → World → Prop} (hgd : o.guard = none) (s x : Operand) (t tn : TypeId)
    (ho : o.op = .call { callee := .builtin .append, args := #[s, x], argTypes := #[t, tn] }) (vs vx : Value) (hs : a.eval s = vs) (hx : a.eval x = vx) (v' : Value) (w' : World) (hrun : (Builtin.append_ #[t, tn] o.type #[vs, vx]).run P w = .ok v' w')
    (h : wpList P ops Q rest (a.put o.dst v') w') : wpList P ops Q (o :: rest) a w := wpList_plain hgd fun K hK => by
  unfold Oper.wp
  simp [execOp, ho, resolve, invoke, builtin, hs, hx, hrun, Result.andThen]
  exact hK _ _ h
theorem grow_ok (n : Nat) (w : World) (hn : n ≤ 1000000) : Calls Tryz.prog 172 #[.slice none 0 0, .int .i64 n] w fun e w' => ∃ v, e = .returned v ∧ w'.ownsRow w.heap.size 5 1 v 0 [] ∧ Below w.heap.size w w' := by
  obtain ⟨i0, hi, hz0, hz1, hz2⟩ := info_parts Tryz.infoB
  by_cases h0 : n = 0
  · subst h0
    clear hi hz0 hz1 hz2
    go_enter Tryz.func172, Tryz.ntmps172
    go_wp2
    go_ret
    exact ⟨_, rfl, nil_owns _ _ _ _, Below.refl _ _⟩
  · have hrz : ∀ (w : World) ty, (Builtin.append_ #[22, 3] ty #[.slice none 0 0, .int .i64 (n : Int)]).run Tryz.prog w = .ok (.slice (some ⟨w.heap.size, 0, none⟩) (0 + n) (grownCap w (0 + n) 0 5))
        (w.drew.alloc (.cells (([] : List Value).toArray ++ Builtin.zeroCells (Value.int .u8 0).cells n ++ Builtin.zeroCells (Value.int .u8 0).cells (grownCap w (0 + n) 0 5 - (0 + n))) 5)) := fun w ty =>
      Lib.run_append_grow_zeros w 22 3 ty 5 i0 (.int .u8 0) .i64 .i64 Tryz.underlying22 Tryz.underlying3 hi hz0 none 0 0 [] (by simpa using run_firstCells_none (P := Tryz.prog) w.drew i0.size 0 0 0) n (by omega) (by omega) (by omega) (by omega) (by rw [hz2]; omega) (growslice_fits (by omega) (by rw [hz2]; omega))
    have hge := grownCap_ge w (0 + n) 0 5
    have hle := grownCap_le_maxLen w (0 + n) 0 5 (by unfold maxLen; omega)
    have hrz1 := hrz w 22
    obtain ⟨G, hG⟩ : ∃ G, G = grownCap w (0 + n) 0 5 := ⟨_, rfl⟩
    rw [← hG] at hge hle hrz1
    obtain ⟨A, hA⟩ : ∃ A : List Value, A = (([] : List Value).toArray ++ Builtin.zeroCells (Value.int .u8 0).cells n ++ Builtin.zeroCells (Value.int .u8 0).cells (G - (0 + n))).toList := ⟨_, rfl⟩
    have hAl : A.length = G := by rw [hA]; simp [Builtin.zeroCells, Value.cells]; omega
    rw [show (([] : List Value).toArray ++ Builtin.zeroCells (Value.int .u8 0).cells n ++ Builtin.zeroCells (Value.int .u8 0).cells (G - (0 + n))) = A.toArray by rw [hA], Nat.zero_add] at hrz1
    have HAL := Lib.hid hAl
    have HLE := Lib.hid hle
    clear hrz hG hA hAl hle hi hz0 hz1 hz2
    go_enter Tryz.func172, Tryz.ntmps172
    go_wp2_with (at_builtin; refine wpList_append_run rfl (.tmp 20) (.tmp 21) 22 3 rfl _ _ rfl rfl _ _ hrz1 ?_)
    go_wp2
    go_ret
    refine ⟨_, rfl, ?_, (Below.refl _ _).drew.alloc (Nat.le_refl _) _⟩
    have := own_of_cur (n := 0) (Blk.new w.drew A 5) (Nat.le_refl _) (Nat.zero_le G) HLE.out HAL.out
    rw [List.take_zero] at this
    exact this

set_option maxHeartbeats 1000000 in
theorem concat_ok (ao : Option Addr) (n cap : Nat) (ss : List Str) (w : World) (hn : ss.length = n) (hb : n ≤ 1000) (hs : StrsIn w ao ss) (ht : (catS ss).length ≤ 1000000) :
    Calls Tryz.prog 112 #[.slice ao n cap] w fun e w' => ∃ v, e = .returned v ∧ w'.ownsRow w.heap.size 5 1 v (catS ss).length ((catS ss).map B) ∧ Below w.heap.size w w' := by
  obtain ⟨i0, hi, hz0, hz1, hz2⟩ := info_parts Tryz.infoB
  have HI := Lib.hid (And.intro hi (And.intro hz0 (And.intro hz1 hz2)))
  have HN := Lib.hid hn
  have HS := Lib.hid hs
  have HT := Lib.hid ht
  clear hn hs hi hz0 hz1 hz2
  go_enter Tryz.func112, Tryz.ntmps112
  go_wp2
  go_loopw [3, 11] (fun z c wr => ∃ i : Nat, i ≤ n ∧ c = .int .i64 i ∧ z = .int .i64 ((catS (ss.take i)).length : Int) ∧ w = wr) (fun _ c _ => n - (intOf c).toNat)
  case atStart => exact ⟨0, by omega, rfl, by simp [catS], rfl⟩
  case round =>
    obtain ⟨i, hi, rfl, rfl, rfl⟩ := hrel
    by_cases hlt : i < n
    · obtain ⟨s, hsi⟩ : ∃ s, ss[i]? = some s := ⟨ss[i]'(by rw [HN.out]; exact hlt), by simp⟩
      obtain ⟨b, off, rfl, hc⟩ := HS.out.lies i s.val (by rw [List.getElem?_map, hsi]; rfl)
      unfold Str.val at hc
      have hstep : (catS (ss.take (i + 1))).length = (catS (ss.take i)).length + s.bs.length := by rw [List.take_add_one, hsi, show (some s).toList = [s] from rfl, catS_snoc, List.length_append]
      have hle := catS_take_le ss (i + 1)
      obtain ⟨z0, hz0⟩ : ∃ z0, z0 = (catS (ss.take i)).length := ⟨_, rfl⟩
      obtain ⟨z1, hz1⟩ : ∃ z1, z1 = (catS (ss.take (i + 1))).length := ⟨_, rfl⟩
      have HZ1 := Lib.hid (show z1 = (catS (ss.take (i + 1))).length ∧ True from ⟨hz1, trivial⟩)
      rw [← hz0, ← hz1] at hstep
      rw [← hz1] at hle
      have hz1b : z1 ≤ 1000000 := by omega
      have e1 : (z0 : Int) + (s.bs.length : Int) = (z1 : Int) := by omega
      rw [← hz0]
      obtain ⟨sl, hsl⟩ : ∃ sl, sl = s.bs.length := ⟨_, rfl⟩
      rw [← hsl] at hc e1
      clear hsi hstep hle hz0 hz1 hsl
      go_wp2
      go_roundw
      case rel => exact ⟨i + 1, by omega, by go_num, by rw [← HZ1.out.1], by trivial⟩
      case measure => simp [intOf]; omega
    · obtain rfl : n = i := by omega
      rw [List.take_of_length_le (by rw [HN.out]; exact Nat.le_refl _)]
      obtain ⟨z, hz⟩ : ∃ z, z = (catS ss).length := ⟨_, rfl⟩
      have HZ := Lib.hid (show (catS ss).length = z ∧ True from ⟨hz.symm, trivial⟩)
      have hzb : z ≤ 1000000 := by omega
      rw [← hz]
      clear hz
      go_wp2_with fail
      refine (grow_ok z _ hzb).mono ?_
      rintro e w2 ⟨v2, rfl, hown2, hbel2⟩
      have HOWN := Lib.hid hown2
      have HB := Lib.hid hbel2
      clear hown2 hbel2
      go_wp2
      go_loopw [6, 27] (fun v c wr => ∃ i : Nat, i ≤ n ∧ c = .int .i64 i ∧ Hid (wr.ownsRow w.heap.size 5 1 v (catS (ss.take i)).length ((catS (ss.take i)).map B)) ∧ Hid (Below w.heap.size w wr)) (fun _ c _ => n - (intOf c).toNat)
      case atStart => exact ⟨0, by omega, rfl, Lib.hid (by have := HOWN.out; simpa [catS] using this), HB⟩
      case round =>
        clear HOWN HB
        obtain ⟨i, hi, rfl, HOWN, HB⟩ := hrel
        by_cases hlt2 : i < n
        · obtain ⟨s, hsi⟩ : ∃ s, ss[i]? = some s := ⟨ss[i]'(by rw [HN.out]; exact hlt2), by simp⟩
          obtain ⟨b, off, rfl, hc⟩ := (HS.out.below HB.out).lies i s.val (by rw [List.getElem?_map, hsi]; rfl)
          unfold Str.val at hc
          have HSL := Lib.hid (((HS.out.below HB.out).each s (List.mem_of_getElem? hsi)).lies)
          have HSB := Lib.hid (show catS (ss.take (i + 1)) = catS (ss.take i) ++ s.bs ∧ True from ⟨by rw [List.take_add_one, hsi, show (some s).toList = [s] from rfl, catS_snoc], trivial⟩)
          have hle := catS_take_le ss (i + 1)
          have hle2 : (catS (ss.take i)).length + s.bs.length ≤ 1000000 := by rw [HSB.out.1, List.length_append] at hle; omega
          clear hsi hle
          go_wp2_with (at_builtin; refine wpList_append_any rfl (.tmp 31) (.tmp 32) 22 rfl w.heap.size 5 i0 (.int .u8 0) 1 Tryz.underlying22 HI.out.1 HI.out.2.1 HI.out.2.2.1 HI.out.2.2.2 rfl _ _ _ rfl HOWN.out s.a s.bs.length s.cap (s.bs.map B) rfl (by rw [List.length_map]) HSL.out (B_one _) (by unfold maxLen; omega) (by omega) HB.out.size ?_)
          intro v5 w5 hown5 hg5
          have HB5 := Lib.hid (below_append HB.out HOWN.out hg5 (Nat.le_refl _) HB.out.size)
          have HO5 := Lib.hid (show w5.ownsRow w.heap.size 5 1 v5 (catS (ss.take (i + 1))).length ((catS (ss.take (i + 1))).map B) by rw [HSB.out.1, List.length_append, List.map_append]; exact hown5)
          clear hown5 hg5
          go_wp2
          go_roundw
          case rel => exact ⟨i + 1, by omega, by go_num, HO5, HB5⟩
          case measure => simp [intOf]; omega
        · obtain rfl : i = n := by omega
          rw [List.take_of_length_le (by rw [HN.out]; exact Nat.le_refl _)] at HOWN
          go_wp2
          go_ret
          exact ⟨_, rfl, HOWN.out, HB.out⟩

end Go.Proofs.YtbpghohkhngdfaaGreatDoor
