/-
  Texts of this claim, one behind the other: BlakeD EzhA EzcPlain AezPlain.
-/
import Derived.Test.YtbpghohkhngdfaaGreatDoorM11
import Derived.Test.YtbpghohkhngdfaaGreatDoorM7
import Derived.Test.YtbpghohkhngdfaaGreatDoorM9
import Derived.Test.YtbpghohkhngdfaaGreatDoorM10
/-
  The walks of blake: bytes put behind, the sum.
-/
namespace Go.Proofs.YtbpghohkhngdfaaGreatDoor
open Go.RowKit Go.Mem Go.Ops Go.Cells Go.Oct Go.Blake
set_option linter.unusedSimpArgs false
set_option linter.unusedVariables false
set_option maxRecDepth 100000
attribute [local irreducible] walkR walkP walk0 walkB walkK

theorem own_onlyX {w w' : World} {base : Nat} {e : TypeId} {size : Nat} {v : Value} {n c : Nat} {xs : List Value} (h : w.ownsRow base e size v n xs) (ho : Only c w w') (hc : c < base) : w'.ownsRow base e size v n xs := by
  refine ⟨h.1, h.2.imp id ?_⟩
  rintro ⟨g, cap, cur, hv, hg, hh, rest⟩
  exact ⟨g, cap, cur, hv, hg, by rw [ho.block g (by omega)]; exact hh, rest⟩
theorem Tryz.infoB : (Tryz.prog.info? 5).map (fun i => (i.zero, i.size, i.bytes)) = some (some (.int .u8 0), 1, 1) := by kernel_rfl
theorem Tryz.rowHash : Row Tryz.prog 286 12 := ⟨by kernel_rfl, by kernel_rfl⟩
theorem Tryz.size22 : (Tryz.prog.info? 22).map (·.size) = some 1 := by kernel_rfl

abbrev WriteFrame (ph : Nat) (ao : Option Addr) (n cap : Nat) (us : Nat → Value) : Act := { tmps := #[.pointer (some ⟨ph, 0, none⟩), .slice ao n cap, us 2, us 3, us 4, us 5, us 6, us 7, us 8, us 9, us 10, us 11, us 12, us 13, us 14, us 15, us 16, us 17, us 18, us 19, us 20, us 21, us 22, us 23, us 24, us 25, us 26, us 27, us 28, us 29, us 30, us 31, us 32, us 33, us 34, us 35], defers := [] }
def WriteAt (ph : Nat) (h : List UInt64) (ao : Option Addr) (n cap : Nat) (b : List UInt8) (w : World) (x : Act) (wr : World) : Prop :=
  ∃ (us : Nat → Value) (ao' : Option Addr) (cap' : Nat), x = WriteFrame ph ao n cap us ∧ n ≤ cap' ∧ Hid (Blk wr ph (hashV h 0 (.slice ao' n cap')) 286) ∧ Hid (Lies wr ao' (b.map B)) ∧ Hid (OnlyB ph w wr)
theorem WriteAt.intro {ph : Nat} {h : List UInt64} {ao : Option Addr} {n cap : Nat} {b : List UInt8} {w : World} {x : Act} {wr : World} (ao' : Option Addr) (cap' : Nat) (hx : x = WriteFrame ph ao n cap (fun i => x.tmps.getD i undef)) (hn : n ≤ cap')
    (h1 : Blk wr ph (hashV h 0 (.slice ao' n cap')) 286) (h2 : Lies wr ao' (b.map B)) (h3 : OnlyB ph w wr) : WriteAt ph h ao n cap b w x wr := ⟨_, ao', cap', hx, hn, h1, h2, h3⟩

set_option maxHeartbeats 1000000 in
theorem hwrite_ok (ph : Nat) (h : List UInt64) (ao : Option Addr) (n cap : Nat) (b : List UInt8) (w : World) (hp : Blk w ph (hashV h 0 (.slice none 0 0)) 286) (hh : h.length = 8) (hn : b.length = n) (hn1 : n ≤ 128) (hl : Lies w ao (b.map B)) :
    Calls Tryz.prog 185 #[.pointer (some ⟨ph, 0, none⟩), .slice ao n cap] w fun e w' => (∃ v, e = .returned v) ∧ ∃ ao' cap', n ≤ cap' ∧ Blk w' ph (hashV h 0 (.slice ao' n cap')) 286 ∧ Lies w' ao' (b.map B) ∧ OnlyB ph w w' := by
  obtain ⟨i0, hi, hz0, hz1, hz2⟩ := info_parts Tryz.infoB
  have HI := Lib.hid (And.intro hi (And.intro hz0 (And.intro hz1 hz2)))
  have HP := Lib.hid hp
  have HH := Lib.hid hh
  have HN := Lib.hid hn
  have HL := Lib.hid hl
  have hpl := hp.lt
  clear hp hh hn hl hi hz0 hz1 hz2
  go_enter Tryz.func185, Tryz.ntmps185
  go_wp2_with fail
  refine wp_scope_label 0 (WriteAt ph h ao n cap b w) (fun _ _ => 0) rfl ?_ ?_
  · simp only [wpPre]
    have hc := HP.out.cell 10 _ (hashV_10 HH.out 0 (.slice none 0 0))
    go_wp2_with (at_builtin; refine wpList_append_any rfl (.tmp 10) (.tmp 11) 22 rfl w.heap.size 5 i0 (.int .u8 0) 1 Tryz.underlying22 HI.out.1 HI.out.2.1 HI.out.2.2.1 HI.out.2.2.2 rfl _ 0 [] rfl (nil_owns _ _ _ _) ao n cap (b.map B) rfl (by rw [List.length_map]; exact HN.out) HL.out (B_one b) (by unfold maxLen; omega) (by omega) (Nat.le_refl _) ?_)
    intro v2 w2 hown2 hg2
    obtain ⟨a2, c2, rfl, hc2, _, hl2⟩ := own_form hown2
    have hbel2 : Below w.heap.size w w2 := (Below.refl _ w).grown hg2 (Nat.le_refl _) (fun k h => by cases h)
    have HP := Lib.hid (HP.out.below hbel2 HP.out.lt)
    have HL2 := Lib.hid hl2
    have HOWN := Lib.hid hown2
    have HO := Lib.hid (OnlyB.of_below (b := ph) hbel2)
    clear hbel2 hg2 hown2 hl2 hc
    go_wp2_with (refine HP.out.wset (v := .slice a2 n c2) (i := 10) rfl rfl rfl rfl Tryz.size22 rfl rfl (by rw [hashV_length HH.out]; omega) ?_)
    intro w3 hb3 ho3
    rw [hashV_set10 HH.out] at hb3
    have HOWN := Lib.hid (own_onlyX HOWN.out ho3 hpl)
    have HO := Lib.hid (HO.out.trans (OnlyB.of_only ho3))
    have HP := Lib.hid hb3
    clear hb3 ho3
    go_wp2
    exact WriteAt.intro a2 c2 rfl hc2 HP.out (Lies.of_own HOWN.out) HO.out
  · rintro x wr ⟨us, ao', cap', rfl, hcap, HP, HL, HO⟩
    have hc := HP.out.cell 10 _ (hashV_10 HH.out 0 (.slice ao' n cap'))
    go_wp2
    rw [Exit.jump_ret]
    refine bodyPost_ret (results_none rfl _ _ _) rfl ?_
    exact ⟨⟨_, rfl⟩, ao', cap', hcap, HP.out, HL.out, HO.out⟩

set_option maxHeartbeats 1000000 in
theorem hnew_ok (w : World) (hg : BGlob w) : Calls Tryz.prog 184 #[.int .i64 48, .slice none 0 0] w fun e w' => ∃ ph, e = .returned (.tuple #[.pointer (some ⟨ph, 0, none⟩), .int .i64 0]) ∧ w.heap.size ≤ ph ∧ Blk w' ph (hashV headB 0 (.slice none 0 0)) 286 ∧ Below w.heap.size w w' := by
  have HG := Lib.hid hg
  clear hg
  have z1 : bits .xor .u64 16842752 0 = 16842752 := by decide
  have z2 : bits .xor .u64 16842752 48 = 16842800 := by decide
  have z3 : bits .xor .u64 7640891576956012808 16842800 = 7640891576939301176 := by decide
  go_enter Tryz.func184, Tryz.ntmps184
  go_wp2_with (first | (refine HG.out.first.wload rfl rfl rfl Tryz.row8L rfl ?_) | (refine wpList_box 286 _ (hashV firstB 0 (.slice none 0 0)) _ rfl rfl rfl (by kernel_rfl) ?_))
  intro w1 hb1 hbel1
  have HP := Lib.hid hb1
  have HB := Lib.hid hbel1
  clear hb1 hbel1
  generalize hph : w.heap.size = ph at *
  have HPH := Lib.hid hph
  clear hph
  have hc1 := fun (x : After w1.drew) => (HP.out.drew.below x.later HP.out.drew.lt).cell 0 (.int .u64 7640891576956012808) rfl
  go_wp2_with fail
  refine wp_region_R [0, 1, 2, 3, 4, 5, 6, 7, 8, 9, 10, 11, 12, 13, 14, 15, 16, 17] (by kernel_rfl) (by kernel_rfl) ?_
  rintro w2 rfl
  repeat (refine walkR_one rfl rfl (fun K hK => ?_); go_big_quiet_step (fail); refine wpQuiet_nil (hK _ ?_); clear hK K)
  clear hc1
  refine walkR_free rfl rfl (by rfl) (fun K hK => ?_)
  refine HP.out.drew.opset (v := .int .u64 7640891576939301176) (i := 0) rfl rfl rfl Tryz.sizeLong rfl rfl (by rw [hashV_length rfl]; omega) (fun w3 hb3 ho3 => hK _ _ ?_)
  clear hK K
  have hb3 : Blk w3 ph (hashV headB 0 (.slice none 0 0)) 286 := hb3
  have HB := Lib.hid (below_only HB.out.drew ho3 (Nat.le_refl _))
  have HP := Lib.hid hb3
  clear hb3 ho3
  go_simp
  refine walkR_nil ?_
  go_wp2
  go_ret2
  exact ⟨ph, rfl, Nat.le_of_eq HPH.out, HP.out, by rw [HPH.out]; exact HB.out⟩

def hash0 : List Value := (zerosL 8).map L ++ [.int .u64 0, .int .u64 0, .slice none 0 0, .int .i64 0]
theorem Tryz.zeroHash : (Tryz.prog.info? 286).map (·.zero) = some (some (.agg hash0.toArray)) := by kernel_rfl
theorem hashV_one (h : List UInt64) (n : Nat) (ao : Option Addr) (m c : Nat) : ∀ v ∈ hashV h n (.slice ao m c), v.oneCell' = true := by
  intro v hv
  unfold hashV at hv
  rcases List.mem_append.1 hv with hv | hv
  · exact oneCell_L _ v hv
  · simp at hv
    rcases hv with rfl | rfl | rfl | rfl <;> rfl

set_option maxHeartbeats 1000000 in
theorem hsum_ok (ph : Nat) (ao : Option Addr) (n cap : Nat) (b : List UInt8) (w : World) (hp : Blk w ph (hashV headB 0 (.slice ao n cap)) 286) (hn : b.length = n) (hn1 : n ≤ 128) (hc : n ≤ cap) (hl : Lies w ao (b.map B)) (hg : BGlob w) :
    Calls Tryz.prog 186 #[.pointer (some ⟨ph, 0, none⟩)] w fun e w' => ∃ a c, e = .returned (.slice a 48 c) ∧ 48 ≤ c ∧ Lies w' a ((sum48 b).map B) ∧ Below w.heap.size w w' := by
  obtain ⟨i0, hi, hz0, hz1, hz2⟩ := info_parts Tryz.infoB
  have HI := Lib.hid (And.intro hi (And.intro hz0 (And.intro hz1 hz2)))
  have HP := Lib.hid hp
  have HN := Lib.hid hn
  have HL := Lib.hid hl
  have HG := Lib.hid hg
  have hgf := hg.first.lt
  have hgr := hg.rows.lt
  have HS := Lib.hid (show sum48 b = (longsB (compress headB (padTo 128 b) (UInt64.ofNat n) 0 true)).take 48 ∧ True from ⟨by rw [← hn]; rfl, trivial⟩)
  clear hp hn hl hg hi hz0 hz1 hz2
  have HHL := Lib.hid (show headB.length = 8 from rfl)
  go_enter Tryz.func186, Tryz.ntmps186
  go_wp2_with (first | (refine HP.out.wload rfl rfl rfl Tryz.rowHash (hashV_length HHL.out _ _) ?_) | (refine wpList_var 286 hash0 _ rfl rfl Tryz.zeroHash rfl ?_))
  intro w1 hb1 hbel1
  have HG := Lib.hid (HG.out.below hbel1)
  have HT := Lib.hid hb1
  have HB := Lib.hid hbel1
  clear hb1 hbel1 HP
  generalize hpt : w.heap.size = pt at *
  have HPT := Lib.hid hpt
  clear hpt
  go_wp2_with (refine HT.out.wstore rfl rfl rfl (cs := hashV headB 0 (.slice ao n cap)) rfl Tryz.rowHash rfl (hashV_length HHL.out _ _) (hashV_one _ _ _ _ _) ?_)
  intro w2 hb2 ho2
  have HG := Lib.hid (HG.out.only ho2 (by omega))
  have HB := Lib.hid (below_only HB.out ho2 (Nat.le_refl _))
  have HL := Lib.hid (HL.out.below (w' := w2) (by rw [HPT.out]; exact HB.out))
  have HT := Lib.hid hb2
  clear hb2 ho2
  have hc10 := HT.out.cell 10 _ (hashV_10 HHL.out 0 (.slice ao n cap))
  go_wp2_with fail
  refine (hblock_ok pt headB (.slice ao n cap) ao n cap b _ HT.out HHL.out HN.out hn1 HL.out HG.out ⟨by omega, by omega⟩).mono ?_
  rintro e w3 ⟨⟨v3, rfl⟩, hb3, ho3⟩
  have HB := Lib.hid (below_onlyB HB.out ho3 (Nat.le_refl _) (Nat.le_of_lt HT.out.lt))
  have HT := Lib.hid hb3
  have HCL := Lib.hid (compress_length headB (padTo 128 b) (UInt64.ofNat n) 0 true)
  generalize compress headB (padTo 128 b) (UInt64.ofNat n) 0 true = hs at *
  clear hb3 ho3 hc10 HL HG
  have HR := Lib.hid (Blk.rangeIn HT.out 0 8 _ (hashV_0 HCL.out n (.slice ao n cap)))
  have HHM := Lib.hid (show (hs.map L).length = 8 by rw [List.length_map]; exact HCL.out)
  go_wp2_with (at_make; refine wpList_make_own _ rfl _ _ 22 rfl w3.heap.size 5 i0 (.int .u8 0) 1 Tryz.underlying22 HI.out.1 HI.out.2.1 HI.out.2.2.1 _ _ _ 64 rfl rfl ?m1 ?m2 ?m3 (Nat.le_refl _) ?_)
  case m1 => simp
  case m2 => rw [HI.out.2.2.2]; omega
  case m3 => unfold maxLen; omega
  intro w4 hown4 hgrow4
  have hbel4 : Below w3.heap.size w3 w4 := (Below.refl w3.heap.size w3).grown hgrow4 (Nat.le_refl _) (fun k h => by cases h)
  have HOWN := Lib.hid hown4
  have hsz3 : pt < w3.heap.size := HT.out.lt
  have HB4 := Lib.hid hbel4
  have HR := Lib.hid (Blk.rangeIn (HT.out.below hbel4 HT.out.lt) 0 8 _ (hashV_0 HCL.out n (.slice ao n cap)))
  clear hown4 hgrow4 hbel4
  go_wp2_with (refine wpList_load_mid rfl 207 (.tmp 20) rfl pt 0 rfl _ _ HR.out Tryz.underlying207 rfl (by rw [HHM.out]; exact Tryz.row8L.2) ?_)
  go_wp2
  go_loopw [4, 22] (fun v c wr => ∃ i : Nat, i ≤ 8 ∧ c = .int .i64 i ∧ Hid (wr.ownsRow w3.heap.size 5 1 v (8 * i) ((longsB (hs.take i)).map B)) ∧ Hid (Below w3.heap.size w3 wr)) (fun _ c _ => 8 - (intOf c).toNat)
  case atStart => exact ⟨0, by omega, rfl, HOWN, HB4⟩
  case round =>
    clear HOWN HB4 HR
    obtain ⟨i, hi, rfl, HOWN, HB4⟩ := hrel
    by_cases hlt : i < 8
    · have HST := Lib.hid (show (longsB (hs.take (i + 1))).map B = (longsB (hs.take i)).map B ++ (putLong (at64 hs i)).map B ∧ True from ⟨by
        rw [List.take_add_one, at64_get (l := hs) (by rw [HCL.out]; exact hlt)]
        simp only [Option.toList]
        rw [longsB_snoc, List.map_append], trivial⟩)
      have hix := fun w => run_index_one (P := Tryz.prog) w 207 147 8 (hs.map L).toArray .i64 i (L (at64 hs i)) Tryz.underlying207 (by kernel_rfl) Tryz.sizeLong (by simpa using mapL_at (at64_get (l := hs) (i := i) (by rw [HCL.out]; exact hlt))) hlt
      have HPL := Lib.hid (putLong_length (at64 hs i))
      generalize at64 hs i = x at *
      go_wp2_with fail
      refine (putlong_ok x _).mono ?_
      rintro e w5 ⟨rfl, hbel5⟩
      have HOWN := Lib.hid (own_below HOWN.out hbel5)
      have HB4 := Lib.hid (HB4.out.trans (hbel5.mono HB4.out.size))
      clear hbel5 hix
      go_wp2_with (refine wpList_var 201 ((zeros 8).map B) _ rfl rfl Tryz.zero8 rfl ?_)
      intro w6 hb6 hbel6
      have HB6 := Lib.hid hbel6
      have HN6 := Lib.hid hb6
      clear hb6 hbel6
      go_wp2_with (refine HN6.out.wstore rfl rfl rfl (cs := (putLong x).map B) rfl Tryz.row8 (by simp [zeros_length]) (by rw [List.length_map]; exact HPL.out) (oneCell_B _) ?_)
      intro w7 hb7 ho7
      have hbel7 := below_only HB6.out ho7 (Nat.le_refl _)
      have HOWN := Lib.hid (own_below HOWN.out hbel7)
      have HB4 := Lib.hid (HB4.out.trans (hbel7.mono HB4.out.size))
      have HN7 := Lib.hid hb7
      have HPM := Lib.hid (show ((putLong x).map B).length = 8 by rw [List.length_map]; exact HPL.out)
      clear hb7 ho7 HN6 HB6 hbel7
      go_wp2_with (at_builtin; refine wpList_append_any rfl (.tmp 27) (.tmp 28) 22 rfl w3.heap.size 5 i0 (.int .u8 0) 1 Tryz.underlying22 HI.out.1 HI.out.2.1 HI.out.2.2.1 HI.out.2.2.2 rfl _ _ _ rfl HOWN.out (some ⟨w5.heap.size, 0, none⟩) 8 8 ((putLong x).map B) rfl HPM.out HN7.out.lies (B_one _) (by unfold maxLen; omega) (by omega) HB4.out.size ?_)
      intro v8 w8 hown8 hg8
      rw [← HST.out.1] at hown8
      have HB8 := Lib.hid (below_append HB4.out HOWN.out hg8 (Nat.le_refl _) HB4.out.size)
      have HOWN8 := Lib.hid (show w8.ownsRow w3.heap.size 5 1 v8 (8 * (i + 1)) ((longsB (hs.take (i + 1))).map B) from hown8)
      clear hown8 hg8
      go_wp2
      go_roundw
      case rel => exact ⟨i + 1, by omega, by go_num, HOWN8, HB8⟩
      case measure => simp [intOf]; omega
    · obtain rfl : i = 8 := by omega
      rw [List.take_of_length_le (by rw [HCL.out]; exact Nat.le_refl _)] at HOWN
      obtain ⟨va, vc, rfl, hvc, _, hlv⟩ := own_form HOWN.out
      have hvc48 : 48 ≤ vc := by omega
      have HLV := Lib.hid hlv
      have hc11 := (HT.out.below HB4.out HT.out.lt).cell 11 _ (hashV_11 HCL.out n (.slice ao n cap))
      clear hlv
      go_wp2
      go_ret
      refine ⟨va, vc, rfl, hvc48, ?_, ?_⟩
      · rw [HS.out.1, List.map_take]
        exact HLV.out.take 48
      · rw [HPT.out]
        exact HB.out.trans (HB4.out.mono (Nat.le_of_lt hsz3))

end Go.Proofs.YtbpghohkhngdfaaGreatDoor
/-
  The walks of ezhash: the sum of two blocks, what a string brings.
-/
namespace Go.Cells
open Go.RowKit
theorem St.old {w0 w : World} {base : Nat} {L : List (Nat × List Value × TypeId)} (h : St w0 base w L) (e : w0.heap.size = base) : Below w0.heap.size w0 w := by rw [e]; exact h.bel
end Go.Cells
namespace Go.Mem
open Go.RowKit
set_option linter.unusedVariables false
theorem run_cut_low {P : Program} (w : World) (t e : TypeId) (size : Nat) (ht : P.underlying t = some (.slice e)) (hs : (P.info? e).map (·.size) = some 1) (ao : Option Addr) (len cap lo : Nat) (i : Int) (hi' : i = lo) (h1 : lo ≤ len) :
    (Instr.slice t (.slice ao len cap) (some (.int .i64 i)) none none).run P w = .ok (.slice (cutAddr ao cap lo) (len - lo) (cap - lo)) w := by
  subst hi'
  cases hq : P.info? e with
  | none => rw [hq] at hs; cases hs
  | some x =>
    have hx : x.size = 1 := by rw [hq] at hs; simpa using hs
    simp [Instr.slice, Instr.sliceBounds, Instr.sliceBound, run_underlying ht, sizeOf, typeInfo, hq, hx, asIntOf, h1, cutAddr]
end Go.Mem
namespace Go.Proofs.YtbpghohkhngdfaaGreatDoor
open Go.RowKit Go.Mem Go.Ops Go.Cells Go.Oct Go.Gf Go.Trn Go.Aes Go.Ring Go.Ezk Go.Ezh
set_option linter.unusedSimpArgs false
set_option linter.unusedVariables false
set_option maxRecDepth 100000
attribute [local irreducible] walkR walkP walk0 walkB walkK

theorem markL_length (b : List UInt8) (m : UInt8) (s : Nat) : (markL b m s).length = b.length + 1 + roomL (b.length + 1) s := by simp [markL, padL]; omega

theorem hplus_ok (a b : List UInt8) (w : World) (ha : a.length = 16) (hb : b.length = 16) : Calls Tryz.prog 135 #[.agg (a.map B).toArray, .agg (b.map B).toArray] w fun e w' => e = .returned (.agg ((both a b).map B).toArray) ∧ Below w.heap.size w w' := by
  have HLA := Lib.hid ha
  have HLB := Lib.hid hb
  have HS := Lib.hid (St.start w)
  have HBX := Lib.hid (block_xor a b ha hb)
  clear ha hb
  go_enter Tryz.func135, Tryz.ntmps135
  go_wp2_with (refine wpList_box 52 _ (a.map B) _ rfl rfl rfl rfl ?_)
  intro w1 hb hbel; have HS := Lib.hid (HS.out.push hb hbel); have hlt1 := hb.lt; clear hb hbel
  go_wp2_with (refine wpList_box 52 _ (b.map B) _ rfl rfl rfl rfl ?_)
  intro w2 hb hbel; have HS := Lib.hid (HS.out.push hb hbel); have hlt2 := hb.lt; clear hb hbel
  go_wp2_with (refine wpList_var 52 ((zeros 16).map B) _ rfl rfl Tryz.zero16 rfl ?_)
  intro w3 hb hbel; have HS := Lib.hid (HS.out.push hb hbel); have hlt3 := hb.lt; clear hb hbel
  generalize hbb : w.heap.size = bb at *
  generalize w1.heap.size = bk at *
  generalize w2.heap.size = br at *
  have HBB := Lib.hid hbb
  clear hbb
  go_wp2_with fail
  refine wp_region_R [0, 1, 2, 3, 4] (by kernel_rfl) (by kernel_rfl) ?_
  rintro w4 rfl
  repeat (refine walkR_one rfl rfl (fun K hK => ?_); go_big_quiet_step (fail); refine wpQuiet_nil (hK _ ?_); clear hK K)
  refine walkR_call rfl rfl (by rfl) (fun K hK => ?_)
  go_simp
  refine (xor_ok _ _ 16 16 16 16 a b _ HLA.out HLB.out (by omega) (by omega) (HS.out.drew.get 2 rfl).lies (HS.out.drew.get 1 rfl).lies).mono ?_
  rintro e w5 ⟨v5, rfl, hown5, hbel5⟩
  obtain ⟨ao5, cap5, rfl, _, _, hl5⟩ := own_form hown5
  have HS := Lib.hid (HS.out.drew.later hbel5)
  have HL5 := Lib.hid hl5
  clear hown5 hl5
  simp only [id]
  go_simp
  refine hK _ _ hbel5 ?_
  clear hK K hbel5
  refine walkR_call rfl rfl (by rfl) (fun K hK => ?_)
  go_simp
  refine (block_ok ao5 (min 16 16) cap5 (xorL a b) _ (by rw [xorL_length, HLA.out, HLB.out]) HL5.out).mono ?_
  rintro e w6 ⟨rfl, hbel6⟩
  have HS := Lib.hid (HS.out.later hbel6)
  rw [HBX.out]
  go_simp
  refine hK _ _ hbel6 ?_
  clear hK K hbel6
  refine walkR_free rfl rfl (by rfl) (fun K hK => ?_)
  refine (HS.out.get 0 rfl).opstore rfl rfl rfl Tryz.row16 (by rw [List.length_map]; exact zeros_length 16) (by rw [List.length_map]; exact both_length _ _) (oneCell_B _) (fun w7 hb7 ho7 => hK _ _ ?_)
  clear hK K
  have hbel7 := below_only HS.out.bel ho7 (by omega)
  go_simp
  refine walkR_nil ?_
  go_wp2
  refine hb7.result rfl rfl rfl Tryz.row16 (by rw [List.length_map]; exact both_length _ _) ⟨rfl, ?_⟩
  rw [HBB.out]
  exact hbel7


theorem Lies.dropA {w : World} {ao : Option Addr} {bs : List UInt8} {cap : Nat} (h : Lies w ao (bs.map B)) (hcap : bs.length ≤ cap) (a : Nat) : Lies w (cutAddr ao cap a) ((bs.drop a).map B) := by
  have := h.cutA (by rw [List.length_map]; exact hcap) a bs.length
  rwa [List.take_of_length_le (by simp), ← List.map_drop] at this

abbrev PartFrame (kp j bb bs n : Nat) (ao : Option Addr) (len cap : Nat) (us : Nat → Value) : Act := { tmps := #[.pointer (some ⟨kp, 0, none⟩), .int .i64 j, .slice ao len cap, us 3, us 4, us 5, .pointer (some ⟨bb, 0, none⟩), .pointer (some ⟨bs, 0, none⟩), .int .i64 n, us 9, us 10, us 11, us 12, us 13, us 14, us 15, us 16, us 17, us 18, us 19, us 20, us 21, us 22, us 23, us 24, us 25, us 26, us 27, us 28, us 29, us 30, us 31, us 32, us 33, us 34, us 35, us 36, us 37, us 38], defers := [] }

/-- The state at the labels. -/
def PartAt (kp j bb bs : Nat) (k : Parts) (b : List UInt8) (w : World) (l : Nat) (x : Act) (wr : World) : Prop :=
  ∃ (us : Nat → Value) (n len cap : Nat) (ao : Option Addr) (sum r : List UInt8), x = PartFrame kp j bb bs n ao len cap us ∧ len ≤ cap ∧ n * 16 + len ≤ 10000 ∧ Hid (r.length = len) ∧ Hid (sum.length = 16) ∧ Hid (Lies w ao (r.map B)) ∧
    Hid (St w bb wr [(bs, sum.map B, 52), (bb, (zeros 16).map B, 52)]) ∧ bb < bs ∧
    ((l = 1 ∧ Hid (∃ f, len < f ∧ partGo k j f n sum r = partH k j b)) ∨ (l = 0 ∧ Hid (partRest k j sum r = partH k j b)))
theorem PartAt.intro {kp j bb bs : Nat} {k : Parts} {b : List UInt8} {w : World} {l : Nat} {x : Act} {wr : World} (n len cap : Nat) (ao : Option Addr) (sum r : List UInt8) (hx : x = PartFrame kp j bb bs n ao len cap (fun i => x.tmps.getD i undef)) (h1 : len ≤ cap) (h2 : n * 16 + len ≤ 10000) (h3 : r.length = len) (h4 : sum.length = 16) (h5 : Lies w ao (r.map B))
    (h6 : St w bb wr [(bs, sum.map B, 52), (bb, (zeros 16).map B, 52)]) (h7 : bb < bs) (h8 : (l = 1 ∧ Hid (∃ f, len < f ∧ partGo k j f n sum r = partH k j b)) ∨ (l = 0 ∧ Hid (partRest k j sum r = partH k j b))) : PartAt kp j bb bs k b w l x wr :=
  ⟨_, n, len, cap, ao, sum, r, hx, h1, h2, h3, h4, h5, h6, h7, h8⟩

def lenV : Value → Nat
  | .slice _ n _ => n
  | _ => 0
set_option maxHeartbeats 1000000 in
theorem partH_ok (kp q p j : Nat) (k : Parts) (ao : Option Addr) (len cap : Nat) (b : List UInt8) (w : World) (hk : EKey w kp q p k) (hj : j ≤ 1000) (hlen : b.length = len) (hlc : len ≤ cap) (hb : len ≤ 10000) (hl : Lies w ao (b.map B)) :
    Calls Tryz.prog 136 #[.pointer (some ⟨kp, 0, none⟩), .int .i64 j, .slice ao len cap] w fun e w' => e = .returned (.agg ((partH k j b).map B).toArray) ∧ Below w.heap.size w w' := by
  have HK := Lib.hid hk
  have hkl := hk.blk.lt
  have HS := Lib.hid (St.start w)
  have HLEN := Lib.hid hlen
  have HL := Lib.hid hl
  clear hk hlen hl
  go_enter Tryz.func136, Tryz.ntmps136
  go_wp2_with (refine wpList_var 52 ((zeros 16).map B) _ rfl rfl Tryz.zero16 rfl ?_)
  intro w1 hb hbel; have HS := Lib.hid (HS.out.push hb hbel); have hlt1 := hb.lt; clear hb hbel
  generalize hbb : w.heap.size = bb at *
  have HBB := Lib.hid hbb
  clear hbb
  go_wp2_with fail
  refine wp_scope_labels (PartAt kp j bb w1.heap.size k b w) (fun l x _ => if l = 1 then lenV (x.tmps.getD 2 undef) + 1 else 0) ?first ?pass
  case first =>
    simp only [wpSeg]
    by_cases h0 : len = 0
    · subst h0
      go_wp2_with (refine wpList_var 52 ((zeros 16).map B) _ rfl rfl Tryz.zero16 rfl ?_)
      intro w2 hb hbel; have HS := Lib.hid (HS.out.push hb hbel); have hlt2 := hb.lt; clear hb hbel
      go_wp2
      refine wp_goto ?_
      exact PartAt.intro 0 0 cap ao (zeros 16) b rfl (by omega) (by omega) HLEN.out (zeros_length 16) HL.out HS.out hlt1 (.inr ⟨rfl, show partRest k j (zeros 16) b = partH k j b by unfold partH; rw [if_pos HLEN.out]⟩)
    · have hd : ((len : Int) == 0) = false := by simp; omega
      go_wp2_with (refine wpList_var 52 ((zeros 16).map B) _ rfl rfl Tryz.zero16 rfl ?_)
      intro w2 hb hbel; have HS := Lib.hid (HS.out.push hb hbel); have hlt2 := hb.lt; clear hb hbel
      go_wp2
      refine ⟨rfl, PartAt.intro 0 len cap ao (zeros 16) b rfl hlc (by omega) HLEN.out (zeros_length 16) HL.out HS.out hlt1 (.inl ⟨rfl, len + 1, by omega, ?_⟩)⟩
      unfold partH
      rw [if_neg (by rw [HLEN.out]; exact h0), HLEN.out]
  case pass =>
    clear HS HL HLEN hlt1
    generalize w1.heap.size = bs
    rintro l x wr ⟨us, n, len, cap, ao, sum, r, rfl, h1, h2, HLEN, HX, HR, HS, h7, h8⟩
    have HXM := Lib.hid (show (sum.map B).length = 16 by rw [List.length_map]; exact HX.out)
    rcases h8 with ⟨rfl, h8⟩ | ⟨rfl, h8⟩
    · refine ⟨_, rfl, ?_⟩
      simp only [wpSeg]
      obtain ⟨f, hf, he⟩ := h8.out
      obtain ⟨f, rfl⟩ : ∃ g, f = g + 1 := ⟨f - 1, by omega⟩
      have HF := Lib.hid hf
      have HE := Lib.hid he
      clear hf he h8
      by_cases h16 : 16 ≤ len
      · have hn1 := Lib.hid (show ((n : Int) + 1) = ((n + 1 : Nat) : Int) by omega)
        have hn9 : n ≤ 1000 := by omega
        have hs := fun w => run_cut_low (P := Tryz.prog) w 22 5 1 Tryz.underlying22 Tryz.sizeByte ao len cap 16 16 rfl h16
        have HE := Lib.hid (show partGo k j f (n + 1) (both sum (eBlk k j (n + 1) (block r))) (r.drop 16) = partH k j b by rw [← HE.out, partGo, if_pos (by rw [HLEN.out]; exact h16)])
        go_wp2_with fail
        refine wp_region_R [0, 1, 2, 3, 4, 5, 6, 7, 8] (by kernel_rfl) (by kernel_rfl) ?_
        rintro w2 rfl
        have HS := Lib.hid HS.out.drew
        refine walkR_load (HS.out.get 0 rfl).range (HS.out.get 0 rfl).lt Tryz.row16 HXM.out rfl rfl rfl rfl (fun K hK => ?_)
        go_simp; refine hK _ ?_; clear hK K
        (refine walkR_one rfl rfl (fun K hK => ?_); go_big_quiet_step (fail); refine wpQuiet_nil (hK _ ?_); clear hK K); (refine walkR_one rfl rfl (fun K hK => ?_); go_big_quiet_step (fail); refine wpQuiet_nil (hK _ ?_); clear hK K); (refine walkR_one rfl rfl (fun K hK => ?_); go_big_quiet_step (fail); refine wpQuiet_nil (hK _ ?_); clear hK K); (refine walkR_one rfl rfl (fun K hK => ?_); go_big_quiet_step (fail); refine wpQuiet_nil (hK _ ?_); clear hK K)
        rw [hn1.out]
        refine walkR_call rfl rfl (by rfl) (fun K hK => ?_)
        go_simp
        refine (block_ok ao len cap r _ HLEN.out (HR.out.below (HS.out.old HBB.out))).mono ?_
        rintro e w5 ⟨rfl, hbel⟩
        have HS := Lib.hid (HS.out.later hbel)
        have HB := Lib.hid (block_length r)
        generalize block r = y at *
        go_simp
        refine hK _ _ hbel ?_
        clear hK K hbel
        refine walkR_call rfl rfl (by rfl) (fun K hK => ?_)
        go_simp
        refine (e_ok kp q p j (n + 1) k y _ (HK.out.later (HS.out.old HBB.out)) hj (by omega) HB.out).mono ?_
        rintro e w6 ⟨rfl, hbel⟩
        have HS := Lib.hid (HS.out.later hbel)
        have HB2 := Lib.hid (eBlk_length k j (n + 1) y)
        generalize eBlk k j (n + 1) y = z at *
        go_simp
        refine hK _ _ hbel ?_
        clear hK K hbel
        refine walkR_call rfl rfl (by rfl) (fun K hK => ?_)
        go_simp
        refine (hplus_ok sum z _ HX.out HB2.out).mono ?_
        rintro e w7 ⟨rfl, hbel⟩
        have HS := Lib.hid (HS.out.later hbel)
        have HB3 := Lib.hid (both_length sum z)
        generalize both sum z = sum2 at *
        go_simp
        refine hK _ _ hbel ?_
        clear hK K hbel
        refine walkR_free rfl rfl (by rfl) (fun K hK => ?_)
        refine (HS.out.get 0 rfl).opstore rfl rfl rfl Tryz.row16 (by rw [List.length_map]; exact HX.out) (by rw [List.length_map]; exact HB3.out) (oneCell_B _) (fun w8 hb7 ho7 => hK _ _ ?_)
        clear hK K
        have HS := Lib.hid (HS.out.change 0 hb7 ho7 (by omega) (by simp; omega))
        clear hb7 ho7
        go_simp
        refine walkR_nil ?_
        go_wp2
        refine wp_goto ⟨PartAt.intro (n + 1) (len - 16) (cap - 16) (cutAddr ao cap 16) sum2 (r.drop 16) ?_ (by omega) (by omega) (by rw [List.length_drop, HLEN.out]) HB3.out (Lies.dropA HR.out (by rw [HLEN.out]; exact h1) 16) HS.out h7 (.inl ⟨rfl, f, by have := HF.out; omega, HE.out⟩), ?_⟩
        · rfl
        · simp [lenV]; omega
      · by_cases h0 : len = 0
        · have hd : ((len : Int) == 0) = true := by simp; omega
          have HE := Lib.hid (show sum = partH k j b by rw [← HE.out, partGo, if_neg (by rw [HLEN.out]; exact h16), if_pos (by rw [HLEN.out]; exact h0)])
          go_wp2_with (first | (refine (HS.out.get 0 rfl).wload rfl rfl rfl Tryz.row16 HXM.out ?_) | (refine (HS.out.get 1 rfl).wstore rfl rfl rfl rfl Tryz.row16 (by rw [List.length_map]; exact zeros_length 16) HXM.out (oneCell_B _) ?_))
          intro w6 hb6 ho6
          have hbel6 := below_only HS.out.bel ho6 (by omega)
          go_wp2
          rw [Exit.jumps_ret]
          refine hb6.result rfl rfl rfl Tryz.row16 HXM.out ⟨by rw [HE.out], ?_⟩
          rw [HBB.out]
          exact hbel6
        · have hd : ((len : Int) == 0) = false := by simp; omega
          have HE := Lib.hid (show partRest k j sum r = partH k j b by rw [← HE.out, partGo, if_neg (by rw [HLEN.out]; exact h16), if_neg (by rw [HLEN.out]; exact h0)])
          go_wp2
          refine ⟨rfl, PartAt.intro n len cap ao sum r rfl h1 h2 HLEN.out HX.out HR.out HS.out h7 (.inr ⟨rfl, HE⟩), ?_⟩
          simp
    · refine ⟨_, rfl, ?_⟩
      simp only [wpSeg]
      go_wp2_with fail
      refine wp_region_R [0, 1, 2, 3, 4, 5, 6, 7, 8] (by kernel_rfl) (by kernel_rfl) ?_
      rintro w2 rfl
      have HS := Lib.hid HS.out.drew
      refine walkR_load (HS.out.get 0 rfl).range (HS.out.get 0 rfl).lt Tryz.row16 HXM.out rfl rfl rfl rfl (fun K hK => ?_)
      go_simp; refine hK _ ?_; clear hK K
      (refine walkR_one rfl rfl (fun K hK => ?_); go_big_quiet_step (fail); refine wpQuiet_nil (hK _ ?_); clear hK K); (refine walkR_one rfl rfl (fun K hK => ?_); go_big_quiet_step (fail); refine wpQuiet_nil (hK _ ?_); clear hK K); (refine walkR_one rfl rfl (fun K hK => ?_); go_big_quiet_step (fail); refine wpQuiet_nil (hK _ ?_); clear hK K)
      refine walkR_call rfl rfl (by rfl) (fun K hK => ?_)
      go_simp
      refine (marked_ok ao len cap 16 128 r _ HLEN.out (by omega) (by omega) (by omega) (HR.out.below (HS.out.old HBB.out))).mono ?_
      rintro e w5 ⟨v5, rfl, hown, hbel⟩
      obtain ⟨ao5, cap5, rfl, hcl5, hcm5, hl⟩ := own_form hown
      have HS := Lib.hid (HS.out.later hbel)
      have HL5 := Lib.hid hl
      clear hown hl
      simp only [id]
      go_simp
      refine hK _ _ hbel ?_
      clear hK K hbel
      refine walkR_call rfl rfl (by rfl) (fun K hK => ?_)
      go_simp
      refine (block_ok ao5 _ cap5 (markL r 128 16) _ (by rw [markL_length, HLEN.out]) HL5.out).mono ?_
      rintro e w6 ⟨rfl, hbel⟩
      have HS := Lib.hid (HS.out.later hbel)
      have HB := Lib.hid (block_length (markL r 128 16))
      have HE := Lib.hid (show both sum (eBlk k j 0 (block (markL r 128 16))) = partH k j b from h8.out)
      generalize block (markL r 128 16) = y at *
      go_simp
      refine hK _ _ hbel ?_
      clear hK K hbel
      refine walkR_call rfl rfl (by rfl) (fun K hK => ?_)
      go_simp
      refine (e_ok kp q p j 0 k y _ (HK.out.later (HS.out.old HBB.out)) hj (by omega) HB.out).mono ?_
      rintro e w7 ⟨rfl, hbel⟩
      have HS := Lib.hid (HS.out.later hbel)
      have HB2 := Lib.hid (eBlk_length k j 0 y)
      generalize eBlk k j 0 y = z at *
      go_simp
      refine hK _ _ hbel ?_
      clear hK K hbel
      refine walkR_call rfl rfl (by rfl) (fun K hK => ?_)
      go_simp
      refine (hplus_ok sum z _ HX.out HB2.out).mono ?_
      rintro e w8 ⟨rfl, hbel⟩
      have HS := Lib.hid (HS.out.later hbel)
      have HB3 := Lib.hid (both_length sum z)
      generalize both sum z = sum2 at *
      go_simp
      refine hK _ _ hbel ?_
      clear hK K hbel
      refine walkR_free rfl rfl (by rfl) (fun K hK => ?_)
      refine (HS.out.get 1 rfl).opstore rfl rfl rfl Tryz.row16 (by rw [List.length_map]; exact zeros_length 16) (by rw [List.length_map]; exact HB3.out) (oneCell_B _) (fun w7 hb7 ho7 => hK _ _ ?_)
      clear hK K
      have hbel7 := below_only HS.out.bel ho7 (by omega)
      go_simp
      refine walkR_nil ?_
      go_wp2
      rw [Exit.jumps_ret]
      refine hb7.result rfl rfl rfl Tryz.row16 (by rw [List.length_map]; exact HB3.out) ⟨by rw [HE.out], ?_⟩
      rw [HBB.out]
      exact hbel7

end Go.Proofs.YtbpghohkhngdfaaGreatDoor
/-
  What ezcore's functions compute; and that what is enciphered is deciphered to what it was. No program.
-/
set_option linter.unusedVariables false
namespace Go.Ezc
open Go.Ops Go.Oct Go.Gf Go.Trn Go.Aes Go.Ring Go.Ezk Go.Ezh Go.Ezt

abbrev Pairs := List (List UInt8 × List UInt8)
/-- A message's parts. -/
structure Msg where
  pairs : Pairs
  u : List UInt8
  v : List UInt8
  x : List UInt8
  y : List UInt8
def pairsGo : Nat → List UInt8 → Pairs
  | 0, _ => []
  | f + 1, m => if 32 ≤ m.length then (block m, block (m.drop 16)) :: pairsGo f (m.drop 32) else []
def restGo : Nat → List UInt8 → List UInt8
  | 0, m => m
  | f + 1, m => if 32 ≤ m.length then restGo f (m.drop 32) else m
def bodyOf (m : List UInt8) : List UInt8 := m.take (m.length - 32)
def lastOf (m : List UInt8) (ahead : Nat) : List UInt8 := block ((m.drop (m.length - ahead)).take 16)
/-- A message, cut. -/
def apartC (m : List UInt8) : Msg :=
  ⟨pairsGo m.length (bodyOf m), (restGo m.length (bodyOf m)).take 16, (restGo m.length (bodyOf m)).drop 16, lastOf m 32, lastOf m 16⟩
def flatP : Pairs → List UInt8
  | [] => []
  | p :: r => p.1 ++ p.2 ++ flatP r
/-- A message's bytes. -/
def bytesC (m : Msg) : List UInt8 := flatP m.pairs ++ m.u ++ m.v ++ m.x ++ m.y
def tailC (k : Parts) (u v : List UInt8) : List UInt8 :=
  if u.length = 0 then zeros 16 else if u.length = 16 then plusB [eBlk k 0 4 (block u), eBlk k 0 5 (block (markL v 128 16))] else eBlk k 0 4 (block (markL u 128 16))
/-- The pairs' first turn: of each pair of the number n on. -/
def wOf (k : Parts) (n : Nat) (p : List UInt8 × List UInt8) : List UInt8 := plusB [p.1, eBlk k 1 (n + 1) p.2]
def xOf (k : Parts) (n : Nat) (p : List UInt8 × List UInt8) : List UInt8 := plusB [p.2, eBlk k 0 0 (wOf k n p)]
def aheadP (k : Parts) : Nat → Pairs → Pairs
  | _, [] => []
  | n, p :: r => (wOf k n p, xOf k n p) :: aheadP k (n + 1) r
def aheadS (k : Parts) : Nat → List UInt8 → Pairs → List UInt8
  | _, s, [] => s
  | n, s, p :: r => aheadS k (n + 1) (plusB [s, xOf k n p]) r
/-- The second turn. -/
def yOf (k : Parts) (z : List UInt8) (n : Nat) (p : List UInt8 × List UInt8) : List UInt8 := plusB [p.1, eBlk k 2 (n + 1) z]
def vOf (k : Parts) (z : List UInt8) (n : Nat) (p : List UInt8 × List UInt8) : List UInt8 := plusB [p.2, eBlk k 2 (n + 1) z]
def secondOf (k : Parts) (z : List UInt8) (n : Nat) (p : List UInt8 × List UInt8) : List UInt8 := plusB [yOf k z n p, eBlk k 0 0 (vOf k z n p)]
def firstOf (k : Parts) (z : List UInt8) (n : Nat) (p : List UInt8 × List UInt8) : List UInt8 := plusB [vOf k z n p, eBlk k 1 (n + 1) (secondOf k z n p)]
def behindP (k : Parts) (z : List UInt8) : Nat → Pairs → Pairs
  | _, [] => []
  | n, p :: r => (firstOf k z n p, secondOf k z n p) :: behindP k z (n + 1) r
def behindS (k : Parts) (z : List UInt8) : Nat → List UInt8 → Pairs → List UInt8
  | _, s, [] => s
  | n, s, p :: r => behindS k z (n + 1) (plusB [s, yOf k z n p]) r
/-- AEZ-core. -/
def pC (k : Parts) (m : Msg) : List UInt8 := plusB [aheadS k 0 (zeros 16) m.pairs, tailC k m.u m.v]
def sC (k : Parts) (h : List UInt8) (a : Nat) (m : Msg) : List UInt8 := plusB [m.x, h, pC k m, eBlk k 0 a m.y]
def tC (k : Parts) (a : Nat) (y s : List UInt8) : List UInt8 := plusB [y, eTen k a s]
def uC (k : Parts) (z u : List UInt8) : List UInt8 := xorL u (eTen k 4 z)
def vC (k : Parts) (z v : List UInt8) : List UInt8 := xorL v (eTen k 5 z)
def qC (k : Parts) (z : List UInt8) (m : Msg) : List UInt8 := plusB [behindS k z 0 (zeros 16) (aheadP k 0 m.pairs), tailC k (uC k z m.u) (vC k z m.v)]
def yC (k : Parts) (b : Nat) (s t : List UInt8) : List UInt8 := plusB [s, eTen k b t]
def xC (k : Parts) (h : List UInt8) (b : Nat) (t q y : List UInt8) : List UInt8 := plusB [t, h, q, eBlk k 0 b y]
def turnM (k : Parts) (h : List UInt8) (a b : Nat) (m : Msg) : Msg :=
  let s := sC k h a m
  let t := tC k a m.y s
  let z := plusB [s, t]
  let y' := yC k b s t
  ⟨behindP k z 0 (aheadP k 0 m.pairs), uC k z m.u, vC k z m.v, xC k h b t (qC k z m) y', y'⟩
def turnC (k : Parts) (row : List (List UInt8)) (m : List UInt8) (back : Bool) : List UInt8 :=
  bytesC (turnM k (hashH k row) (if back = true then 2 else 1) (if back = true then 1 else 2) (apartC m))

/-! Parts of the right lengths. -/
def PairFit (p : List UInt8 × List UInt8) : Prop := p.1.length = 16 ∧ p.2.length = 16
structure Msg.Fit (m : Msg) : Prop where
  pairs : ∀ p ∈ m.pairs, PairFit p
  x : m.x.length = 16
  y : m.y.length = 16
  u : m.u.length ≤ 16
  uv : m.u.length < 16 → m.v = []
  v : m.v.length < 16
theorem plusB_length (l : List (List UInt8)) : (plusB l).length = 16 := by
  have : ∀ (l : List (List UInt8)) (x : List UInt8), x.length = 16 → (l.foldl both x).length = 16 := by
    intro l
    induction l with
    | nil => intro x h; exact h
    | cons a r ih => intro x h; exact ih _ (both_length _ _)
  exact this l _ (zeros_length 16)
theorem plus1 (a : List UInt8) (h : a.length = 16) : plusB [a] = a := zero_both h
theorem plus2 {a : List UInt8} (b : List UInt8) (h : a.length = 16) : plusB [a, b] = both a b := by simp only [plusB, List.foldl_cons, List.foldl_nil, zero_both h]
theorem plus4 {a : List UInt8} (b c d : List UInt8) (h : a.length = 16) : plusB [a, b, c, d] = both (both (both a b) c) d := by simp only [plusB, List.foldl_cons, List.foldl_nil, zero_both h]

theorem both_cancel (a b e : List UInt8) (ha : a.length = 16) : both (both a e) e = a := both_twice ha e

/-! Each pair, there and back. -/
theorem wOf_eq (k : Parts) (n : Nat) {a b : List UInt8} (h : a.length = 16) : wOf k n (a, b) = both a (eBlk k 1 (n + 1) b) := plus2 _ h
theorem xOf_eq (k : Parts) (n : Nat) {a b : List UInt8} (h : b.length = 16) : xOf k n (a, b) = both b (eBlk k 0 0 (wOf k n (a, b))) := plus2 _ h
theorem yOf_eq (k : Parts) (z : List UInt8) (n : Nat) {a b : List UInt8} (h : a.length = 16) : yOf k z n (a, b) = both a (eBlk k 2 (n + 1) z) := plus2 _ h
theorem vOf_eq (k : Parts) (z : List UInt8) (n : Nat) {a b : List UInt8} (h : b.length = 16) : vOf k z n (a, b) = both b (eBlk k 2 (n + 1) z) := plus2 _ h
theorem secondOf_eq (k : Parts) (z : List UInt8) (n : Nat) (p : List UInt8 × List UInt8) : secondOf k z n p = both (yOf k z n p) (eBlk k 0 0 (vOf k z n p)) := plus2 _ (plusB_length _)
theorem firstOf_eq (k : Parts) (z : List UInt8) (n : Nat) (p : List UInt8 × List UInt8) : firstOf k z n p = both (vOf k z n p) (eBlk k 1 (n + 1) (secondOf k z n p)) := plus2 _ (plusB_length _)
theorem wOf_length (k : Parts) (n : Nat) (p : List UInt8 × List UInt8) : (wOf k n p).length = 16 := plusB_length _
theorem xOf_length (k : Parts) (n : Nat) (p : List UInt8 × List UInt8) : (xOf k n p).length = 16 := plusB_length _
theorem yOf_length (k : Parts) (z : List UInt8) (n : Nat) (p : List UInt8 × List UInt8) : (yOf k z n p).length = 16 := plusB_length _
theorem vOf_length (k : Parts) (z : List UInt8) (n : Nat) (p : List UInt8 × List UInt8) : (vOf k z n p).length = 16 := plusB_length _
theorem firstOf_length (k : Parts) (z : List UInt8) (n : Nat) (p : List UInt8 × List UInt8) : (firstOf k z n p).length = 16 := plusB_length _
theorem secondOf_length (k : Parts) (z : List UInt8) (n : Nat) (p : List UInt8 × List UInt8) : (secondOf k z n p).length = 16 := plusB_length _
theorem pair_w {k : Parts} {z : List UInt8} {n : Nat} {q : List UInt8 × List UInt8} : wOf k n (firstOf k z n q, secondOf k z n q) = vOf k z n q := by
  rw [wOf_eq _ _ (firstOf_length _ _ _ _), firstOf_eq, both_twice (vOf_length _ _ _ _)]
theorem pair_x {k : Parts} {z : List UInt8} {n : Nat} {q : List UInt8 × List UInt8} : xOf k n (firstOf k z n q, secondOf k z n q) = yOf k z n q := by
  rw [xOf_eq _ _ (secondOf_length _ _ _ _), pair_w, secondOf_eq, both_twice (yOf_length _ _ _ _)]
theorem wx_length (k : Parts) (n : Nat) (p : List UInt8 × List UInt8) : PairFit (wOf k n p, xOf k n p) := ⟨plusB_length _, plusB_length _⟩
theorem pair_y {k : Parts} {z : List UInt8} {n : Nat} {a b : List UInt8} (hb : b.length = 16) : yOf k z n (vOf k z n (a, b), yOf k z n (a, b)) = b := by
  rw [yOf_eq _ _ _ (vOf_length _ _ _ _), vOf_eq _ _ _ hb, both_twice hb]
theorem pair_v {k : Parts} {z : List UInt8} {n : Nat} {a b : List UInt8} (ha : a.length = 16) : vOf k z n (vOf k z n (a, b), yOf k z n (a, b)) = a := by
  rw [vOf_eq _ _ _ (yOf_length _ _ _ _), yOf_eq _ _ _ ha, both_twice ha]
theorem pair_second {k : Parts} {z : List UInt8} {n : Nat} {a b : List UInt8} (ha : a.length = 16) (hb : b.length = 16) :
    secondOf k z n (vOf k z n (wOf k n (a, b), xOf k n (a, b)), yOf k z n (wOf k n (a, b), xOf k n (a, b))) = b := by
  rw [secondOf_eq, pair_y (xOf_length _ _ _), pair_v (wOf_length _ _ _), xOf_eq _ _ hb, both_twice hb]
theorem pair_first {k : Parts} {z : List UInt8} {n : Nat} {a b : List UInt8} (ha : a.length = 16) (hb : b.length = 16) :
    firstOf k z n (vOf k z n (wOf k n (a, b), xOf k n (a, b)), yOf k z n (wOf k n (a, b), xOf k n (a, b))) = a := by
  rw [firstOf_eq, pair_second ha hb, pair_v (wOf_length _ _ _), wOf_eq _ _ ha, both_twice ha]
theorem ahead_behind {k : Parts} {z : List UInt8} : ∀ (ps : Pairs) (n : Nat), (∀ p ∈ ps, PairFit p) →
    behindP k z n (aheadP k n (behindP k z n (aheadP k n ps))) = ps
  | [], _, _ => rfl
  | p :: r, n, h => by
    have hp := h p (by simp)
    simp only [aheadP, behindP]
    rw [pair_w, pair_x, pair_first hp.1 hp.2, pair_second hp.1 hp.2, ahead_behind r (n + 1) (fun q hq => h q (by simp [hq]))]
theorem ahead_sum {k : Parts} {z : List UInt8} : ∀ (ps : Pairs) (n : Nat) (s : List UInt8), (∀ p ∈ ps, PairFit p) →
    aheadS k n s (behindP k z n (aheadP k n ps)) = behindS k z n s (aheadP k n ps)
  | [], _, _, _ => rfl
  | p :: r, n, s, h => by
    have hp := h p (by simp)
    simp only [aheadP, behindP, aheadS, behindS]
    rw [pair_x, ahead_sum r (n + 1) _ (fun q hq => h q (by simp [hq]))]
theorem behind_sum {k : Parts} {z : List UInt8} : ∀ (ps : Pairs) (n : Nat) (s : List UInt8), (∀ p ∈ ps, PairFit p) →
    behindS k z n s (aheadP k n (behindP k z n (aheadP k n ps))) = aheadS k n s ps
  | [], _, _, _ => rfl
  | p :: r, n, s, h => by
    have hp := h p (by simp)
    simp only [aheadP, behindP, aheadS, behindS]
    rw [pair_w, pair_x, pair_y (xOf_length k n p), behind_sum r (n + 1) _ (fun q hq => h q (by simp [hq]))]
theorem behindP_fit (k : Parts) (z : List UInt8) : ∀ (ps : Pairs) (n : Nat), ∀ p ∈ behindP k z n ps, PairFit p
  | [], _, _, h => by simp [behindP] at h
  | q :: r, n, p, h => by
    simp only [behindP, List.mem_cons] at h
    rcases h with rfl | h
    · exact ⟨plusB_length _, plusB_length _⟩
    · exact behindP_fit k z r _ p h
theorem behindP_length (k : Parts) (z : List UInt8) : ∀ (ps : Pairs) (n : Nat), (behindP k z n ps).length = ps.length
  | [], _ => rfl
  | q :: r, n => by simp [behindP, behindP_length k z r]
theorem aheadP_length (k : Parts) : ∀ (ps : Pairs) (n : Nat), (aheadP k n ps).length = ps.length
  | [], _ => rfl
  | q :: r, n => by simp [aheadP, aheadP_length k r]
theorem aheadP_fit (k : Parts) : ∀ (ps : Pairs) (n : Nat), ∀ p ∈ aheadP k n ps, PairFit p
  | [], _, _, h => by simp [aheadP] at h
  | q :: r, n, p, h => by
    simp only [aheadP, List.mem_cons] at h
    rcases h with rfl | h
    · exact wx_length _ _ _
    · exact aheadP_fit k r _ p h

theorem turnM_fit {k : Parts} {h : List UInt8} {a b : Nat} {m : Msg} (hm : m.Fit) : (turnM k h a b m).Fit := by
  have hu : ∀ z, (uC k z m.u).length = m.u.length := fun z => by unfold uC; rw [xorL_length, eTen_length]; have := hm.u; omega
  have hv : ∀ z, (vC k z m.v).length = m.v.length := fun z => by unfold vC; rw [xorL_length, eTen_length]; have := hm.v; omega
  exact ⟨behindP_fit _ _ _ _, plusB_length _, plusB_length _, by show (uC _ _ _).length ≤ 16; rw [hu]; exact hm.u,
    fun h => by
      have h' : (uC k _ m.u).length < 16 := h
      rw [hu] at h'
      have h0 := hm.uv h'
      apply List.eq_nil_of_length_eq_zero
      show (vC k _ m.v).length = 0
      rw [hv, h0]; rfl,
    by show (vC _ _ _).length < 16; rw [hv]; exact hm.v⟩

theorem turnM_back {k : Parts} {h : List UInt8} {a b : Nat} {m : Msg} (hm : m.Fit) : turnM k h b a (turnM k h a b m) = m := by
  obtain ⟨s, hs⟩ : ∃ s, s = sC k h a m := ⟨_, rfl⟩
  obtain ⟨t, ht⟩ : ∃ t, t = tC k a m.y s := ⟨_, rfl⟩
  obtain ⟨z, hz⟩ : ∃ z, z = plusB [s, t] := ⟨_, rfl⟩
  obtain ⟨y, hy⟩ : ∃ y, y = yC k b s t := ⟨_, rfl⟩
  obtain ⟨q, hq⟩ : ∃ q, q = qC k z m := ⟨_, rfl⟩
  obtain ⟨x, hx⟩ : ∃ x, x = xC k h b t q y := ⟨_, rfl⟩
  have sl : s.length = 16 := by rw [hs]; exact plusB_length _
  have tl : t.length = 16 := by rw [ht]; exact plusB_length _
  have yl : y.length = 16 := by rw [hy]; exact plusB_length _
  have e : turnM k h a b m = ⟨behindP k z 0 (aheadP k 0 m.pairs), uC k z m.u, vC k z m.v, x, y⟩ := by
    rw [hx, hq, hy, hz, ht, hs]; rfl
  have hu : (uC k z (uC k z m.u)) = m.u := xorL_twice (by rw [eTen_length]; exact hm.u)
  have hv : (vC k z (vC k z m.v)) = m.v := xorL_twice (by rw [eTen_length]; have := hm.v; omega)
  -- the middle of the way back
  have hp2 : pC k ⟨behindP k z 0 (aheadP k 0 m.pairs), uC k z m.u, vC k z m.v, x, y⟩ = q := by
    rw [hq]
    show plusB [aheadS k 0 (zeros 16) (behindP k z 0 (aheadP k 0 m.pairs)), _] = plusB [_, _]
    rw [ahead_sum _ _ _ hm.pairs]
  have hs2 : sC k h b ⟨behindP k z 0 (aheadP k 0 m.pairs), uC k z m.u, vC k z m.v, x, y⟩ = t := by
    unfold sC
    rw [hp2]
    show plusB [x, h, q, eBlk k 0 b y] = t
    have xl : x.length = 16 := by rw [hx]; exact plusB_length _
    rw [plus4 _ _ _ xl, hx]
    unfold xC
    rw [plus4 _ _ _ tl]
    generalize eBlk k 0 b y = e1
    rw [both_assoc (both (both (both t h) q) e1) h q, both_assoc (both (both (both t h) q) e1) (both h q) e1, both_comm (both h q) e1, ← both_assoc, both_twice (both_length _ _), both_assoc t h q, both_twice tl]
  have ht2 : tC k b y t = s := by
    unfold tC
    rw [plus2 _ yl, hy]
    unfold yC
    rw [plus2 _ sl, both_twice sl]
  have hz2 : plusB [t, s] = z := by rw [hz, plus2 _ tl, plus2 _ sl, both_comm]
  have hy2 : yC k a t s = m.y := by
    unfold yC
    rw [plus2 _ tl, ht]
    unfold tC
    rw [plus2 _ hm.y, both_twice hm.y]
  have hq2 : qC k z ⟨behindP k z 0 (aheadP k 0 m.pairs), uC k z m.u, vC k z m.v, x, y⟩ = pC k m := by
    show plusB [behindS k z 0 (zeros 16) (aheadP k 0 (behindP k z 0 (aheadP k 0 m.pairs))), tailC k (uC k z (uC k z m.u)) (vC k z (vC k z m.v))] = _
    rw [behind_sum _ _ _ hm.pairs, hu, hv]
    rfl
  have hx2 : xC k h a s (pC k m) m.y = m.x := by
    unfold xC
    rw [plus4 _ _ _ sl, hs]
    unfold sC
    rw [plus4 _ _ _ hm.x]
    generalize eBlk k 0 a m.y = e1
    generalize pC k m = q
    rw [both_assoc (both (both (both m.x h) q) e1) h q, both_assoc (both (both (both m.x h) q) e1) (both h q) e1, both_comm (both h q) e1, ← both_assoc, both_twice (both_length _ _), both_assoc m.x h q, both_twice hm.x]
  rw [e]
  unfold turnM
  rw [hs2]
  show Msg.mk _ _ _ _ _ = m
  rw [show (Msg.y ⟨behindP k z 0 (aheadP k 0 m.pairs), uC k z m.u, vC k z m.v, x, y⟩) = y from rfl, ht2, hz2, hy2, hq2, hx2]
  show Msg.mk (behindP k z 0 (aheadP k 0 (behindP k z 0 (aheadP k 0 m.pairs)))) (uC k z (uC k z m.u)) (vC k z (vC k z m.v)) m.x m.y = m
  rw [ahead_behind _ _ hm.pairs, hu, hv]

/-! Cut apart and put together. -/
theorem block_take (m : List UInt8) (h : 16 ≤ m.length) : block m = m.take 16 := by
  apply List.ext_getElem?
  intro i
  by_cases hi : i < 16
  · rw [List.getElem?_take_of_lt hi, at8_get (b := m) (by omega)]
    simp [block, hi]
  · rw [List.getElem?_eq_none (by rw [block_length]; omega), List.getElem?_eq_none (by rw [List.length_take]; omega)]
theorem block_id {m : List UInt8} (h : m.length = 16) : block m = m := by rw [block_take m (by omega), List.take_of_length_le (by omega)]
theorem pairs_rest : ∀ (f : Nat) (m : List UInt8), flatP (pairsGo f m) ++ restGo f m = m
  | 0, _ => rfl
  | f + 1, m => by
    unfold pairsGo restGo
    by_cases h : 32 ≤ m.length
    · rw [if_pos h, if_pos h]
      show block m ++ block (m.drop 16) ++ flatP _ ++ _ = m
      rw [List.append_assoc, pairs_rest f, block_take _ (by omega), block_take _ (by rw [List.length_drop]; omega), List.append_assoc]
      rw [show m.drop 32 = (m.drop 16).drop 16 by rw [List.drop_drop], List.take_append_drop, List.take_append_drop]
    · rw [if_neg h, if_neg h]; rfl
theorem rest_length : ∀ (f : Nat) (m : List UInt8), m.length < 32 * (f + 1) → (restGo f m).length = m.length % 32
  | 0, m, h => by simp only [restGo]; omega
  | f + 1, m, h => by
    unfold restGo
    split
    · rw [rest_length f _ (by rw [List.length_drop]; omega), List.length_drop]; omega
    · omega
theorem pairsGo_fit : ∀ (f : Nat) (m : List UInt8), ∀ p ∈ pairsGo f m, PairFit p
  | 0, _, _, h => by simp [pairsGo] at h
  | f + 1, m, p, h => by
    unfold pairsGo at h
    split at h
    · rw [List.mem_cons] at h
      rcases h with rfl | h
      · exact ⟨block_length _, block_length _⟩
      · exact pairsGo_fit f _ p h
    · simp at h
theorem pairsGo_length : ∀ (f : Nat) (m : List UInt8), m.length < 32 * (f + 1) → (pairsGo f m).length = m.length / 32
  | 0, m, h => by simp only [pairsGo, List.length_nil]; omega
  | f + 1, m, h => by
    unfold pairsGo
    split
    · rw [List.length_cons, pairsGo_length f _ (by rw [List.length_drop]; omega), List.length_drop]; omega
    · simp; omega
theorem flatP_length : ∀ (ps : Pairs), (∀ p ∈ ps, PairFit p) → (flatP ps).length = 32 * ps.length
  | [], _ => rfl
  | p :: r, h => by
    have hp := h p (by simp)
    simp only [flatP, List.length_append, List.length_cons, flatP_length r (fun q hq => h q (by simp [hq])), hp.1, hp.2]; omega
theorem apart_fit {m : List UInt8} (h : 32 ≤ m.length) : (apartC m).Fit := by
  have hr : (restGo m.length (bodyOf m)).length < 32 := by
    rw [rest_length _ _ (by unfold bodyOf; rw [List.length_take]; omega)]
    exact Nat.mod_lt _ (by omega)
  refine ⟨pairsGo_fit _ _, block_length _, block_length _, ?_, ?_, ?_⟩
  · show (List.take 16 _).length ≤ 16
    rw [List.length_take]; omega
  · intro h'
    have h' : (List.take 16 (restGo m.length (bodyOf m))).length < 16 := h'
    rw [List.length_take] at h'
    exact List.drop_eq_nil_of_le (by omega)
  · show (List.drop 16 _).length < 16
    rw [List.length_drop]; omega
theorem bytes_apart {m : List UInt8} (h : 32 ≤ m.length) : bytesC (apartC m) = m := by
  unfold bytesC apartC
  show flatP (pairsGo m.length (bodyOf m)) ++ List.take 16 (restGo m.length (bodyOf m)) ++ List.drop 16 (restGo m.length (bodyOf m)) ++ lastOf m 32 ++ lastOf m 16 = m
  rw [List.append_assoc (flatP _), List.take_append_drop, pairs_rest]
  unfold bodyOf lastOf
  rw [block_id (by rw [List.length_take, List.length_drop]; omega), block_id (by rw [List.length_take, List.length_drop]; omega), List.append_assoc]
  have e : List.take 16 (List.drop (m.length - 32) m) ++ List.take 16 (List.drop (m.length - 16) m) = List.drop (m.length - 32) m := by
    rw [show m.length - 16 = (m.length - 32) + 16 by omega, ← List.drop_drop]
    rw [List.take_of_length_le (l := List.drop 16 (List.drop (m.length - 32) m)) (by rw [List.length_drop, List.length_drop]; omega), List.take_append_drop]
  rw [e, List.take_append_drop]
/-- The parts of parts' bytes. -/
theorem pairs_flat : ∀ (ps : Pairs) (f : Nat) (r : List UInt8), (∀ p ∈ ps, PairFit p) → r.length < 32 → ps.length ≤ f → pairsGo f (flatP ps ++ r) = ps ∧ restGo f (flatP ps ++ r) = r
  | [], f, r, _, hr, _ => by
    cases f with
    | zero => exact ⟨rfl, rfl⟩
    | succ f =>
      have e : flatP [] ++ r = r := rfl
      rw [e]
      unfold pairsGo restGo
      rw [if_neg (by omega), if_neg (by omega)]; exact ⟨rfl, rfl⟩
  | p :: ps, f, r, hp, hr, hf => by
    obtain ⟨f, rfl⟩ : ∃ g, f = g + 1 := ⟨f - 1, by simp at hf; omega⟩
    have hpp := hp p (by simp)
    have ih := pairs_flat ps f r (fun q hq => hp q (by simp [hq])) hr (by simp at hf; omega)
    have hl : (flatP (p :: ps) ++ r) = p.1 ++ (p.2 ++ (flatP ps ++ r)) := by simp [flatP, List.append_assoc]
    have hlen : 32 ≤ (p.1 ++ (p.2 ++ (flatP ps ++ r))).length := by simp [hpp.1, hpp.2]; omega
    have d1 : (p.1 ++ (p.2 ++ (flatP ps ++ r))).drop 16 = p.2 ++ (flatP ps ++ r) := by rw [← hpp.1, List.drop_left]
    have d2 : (p.1 ++ (p.2 ++ (flatP ps ++ r))).drop 32 = flatP ps ++ r := by
      rw [show 32 = 16 + 16 from rfl, ← List.drop_drop, d1]; rw [← hpp.2, List.drop_left]
    rw [hl]
    unfold pairsGo restGo
    rw [if_pos hlen, if_pos hlen, d2, ih.1, ih.2, d1, block_take _ (by omega), block_take _ (by simp [hpp.2]), ]
    refine ⟨?_, rfl⟩
    congr 1
    rw [show (16 : Nat) = p.1.length from hpp.1.symm, List.take_left, hpp.1, ← hpp.2, List.take_left]
theorem bytes_length {m : Msg} (hm : m.Fit) : (bytesC m).length = 32 * m.pairs.length + m.u.length + m.v.length + 32 := by
  unfold bytesC
  rw [List.length_append, List.length_append, List.length_append, List.length_append, flatP_length _ hm.pairs, hm.x, hm.y]
theorem apart_bytes {m : Msg} (hm : m.Fit) : apartC (bytesC m) = m := by
  have hl := bytes_length hm
  obtain ⟨ps, u, v, x, y⟩ := m
  have hx : x.length = 16 := hm.x
  have hy : y.length = 16 := hm.y
  have hbody : bodyOf (bytesC ⟨ps, u, v, x, y⟩) = flatP ps ++ (u ++ v) := by
    unfold bodyOf
    have e : bytesC ⟨ps, u, v, x, y⟩ = (flatP ps ++ (u ++ v)) ++ (x ++ y) := by simp [bytesC, List.append_assoc]
    rw [e, show ((flatP ps ++ (u ++ v)) ++ (x ++ y)).length - 32 = (flatP ps ++ (u ++ v)).length by simp [hx, hy]; omega, List.take_left]
  have huv : (u ++ v).length < 32 := by have h1 : u.length ≤ 16 := hm.u; have h2 : v.length < 16 := hm.v; rw [List.length_append]; omega
  have hp := pairs_flat ps (bytesC ⟨ps, u, v, x, y⟩).length (u ++ v) hm.pairs huv (by rw [hl]; show ps.length ≤ 32 * ps.length + u.length + v.length + 32; omega)
  have h32 : lastOf (bytesC ⟨ps, u, v, x, y⟩) 32 = x := by
    unfold lastOf
    have e : bytesC ⟨ps, u, v, x, y⟩ = (flatP ps ++ (u ++ v)) ++ (x ++ y) := by simp [bytesC, List.append_assoc]
    rw [e, show ((flatP ps ++ (u ++ v)) ++ (x ++ y)).length - 32 = (flatP ps ++ (u ++ v)).length by simp [hx, hy]; omega, List.drop_left, ← hx, List.take_left, block_id hx]
  have h16 : lastOf (bytesC ⟨ps, u, v, x, y⟩) 16 = y := by
    unfold lastOf
    have e : bytesC ⟨ps, u, v, x, y⟩ = ((flatP ps ++ (u ++ v)) ++ x) ++ y := by simp [bytesC, List.append_assoc]
    rw [e, show (((flatP ps ++ (u ++ v)) ++ x) ++ y).length - 16 = ((flatP ps ++ (u ++ v)) ++ x).length by simp [hy]; omega, List.drop_left, ← hy, List.take_length, block_id hy]
  unfold apartC
  rw [hbody, hp.1, hp.2, h32, h16]
  have hu : u.length ≤ 16 := hm.u
  by_cases h : u.length < 16
  · have hv : v = [] := hm.uv h
    subst hv
    rw [List.append_nil, List.take_of_length_le hu, List.drop_eq_nil_of_le hu]
  · have hu16 : u.length = 16 := by omega
    rw [← hu16, List.take_left, List.drop_left]
theorem turnC_length (k : Parts) (row : List (List UInt8)) (m : List UInt8) (back : Bool) (hm : 32 ≤ m.length) : (turnC k row m back).length = m.length := by
  have hf := apart_fit hm
  unfold turnC
  rw [bytes_length (turnM_fit hf)]
  have hb := bytes_length hf
  rw [bytes_apart hm] at hb
  rw [hb]
  show 32 * (behindP k _ 0 (aheadP k 0 (apartC m).pairs)).length + (uC k _ (apartC m).u).length + (vC k _ (apartC m).v).length + 32 = _
  rw [behindP_length, aheadP_length]
  unfold uC vC
  rw [xorL_length, xorL_length, eTen_length, eTen_length]
  have h1 := hf.u
  have h2 := hf.v
  omega
/-- WHAT IS ENCIPHERED IS DECIPHERED TO WHAT IT WAS, and the other way round. -/
theorem turnC_back (k : Parts) (row : List (List UInt8)) (m : List UInt8) (back : Bool) (hm : 32 ≤ m.length) : turnC k row (turnC k row m back) (!back) = m := by
  have hf := apart_fit hm
  unfold turnC
  rw [apart_bytes (turnM_fit hf)]
  have e1 : (if (!back) = true then 2 else 1) = (if back = true then 1 else 2) := by cases back <;> rfl
  have e2 : (if (!back) = true then 1 else 2) = (if back = true then 2 else 1) := by cases back <;> rfl
  rw [e1, e2, turnM_back hf, bytes_apart hm]

end Go.Ezc
/-
  AEZ of any message and row; a key's parts; a text sealed and opened. No program.
-/
set_option linter.unusedVariables false
namespace Go.Aez
open Go.Ops Go.Oct Go.Gf Go.Trn Go.Aes Go.Ring Go.Ezk Go.Ezh Go.Ezt Go.Ezc Go.Blake

/-- A key's 48 bytes. -/
def key48 (key : List UInt8) : List UInt8 := if key.length = 48 then key else sum48 key
def keyParts (key : List UInt8) : Parts := ⟨block (key48 key), block ((key48 key).drop 16), block ((key48 key).drop 32)⟩
theorem keyParts_fit (key : List UInt8) : (keyParts key).Fit := ⟨block_length _, block_length _, block_length _⟩
theorem key48_length (key : List UInt8) : (key48 key).length = 48 := by unfold key48; split; assumption; exact sum48_length _
/-- AEZ with a row. -/
def rowA (k : Parts) (row : List (List UInt8)) (m : List UInt8) (back : Bool) : List UInt8 := if m.length < 32 then turnT k row m back else turnC k row m back
theorem rowA_lt {k : Parts} {row : List (List UInt8)} {m : List UInt8} {back : Bool} (h : m.length < 32) : rowA k row m back = turnT k row m back := by unfold rowA; rw [if_pos h]
theorem rowA_ge {k : Parts} {row : List (List UInt8)} {m : List UInt8} {back : Bool} (h : ¬ m.length < 32) : rowA k row m back = turnC k row m back := by unfold rowA; rw [if_neg h]
theorem rowA_length (k : Parts) (row : List (List UInt8)) (m : List UInt8) (back : Bool) : (rowA k row m back).length = m.length := by
  unfold rowA
  split
  · exact turnT_length _ _ _ _ (by omega)
  · exact turnC_length _ _ _ _ (by omega)
theorem rowA_back (k : Parts) (row : List (List UInt8)) (m : List UInt8) (back : Bool) : rowA k row (rowA k row m back) (!back) = m := by
  have hl := rowA_length k row m back
  by_cases h : m.length < 32
  · rw [rowA_lt (m := rowA k row m back) (by rw [hl]; exact h), rowA_lt h, turnT_back _ _ _ _ (by omega)]
  · rw [rowA_ge (m := rowA k row m back) (by rw [hl]; exact h), rowA_ge h, turnC_back _ _ _ _ (by omega)]
/-- The strings of a context. -/
def stringsV (t : Nat) (nonce : List UInt8) (ad : List (List UInt8)) : List (List UInt8) := (zeros 15 ++ [UInt8.ofNat (8 * t)]) :: nonce :: ad
/-- What a message is sealed to. -/
def sealA (k : Parts) (row : List (List UInt8)) (t : Nat) (m : List UInt8) : List UInt8 := if m = [] then prfH k row t else rowA k row (m ++ zeros t) false
/-- The message of a sealed text, or that there is none. -/
def openA (k : Parts) (row : List (List UInt8)) (t : Nat) (b : List UInt8) : Option (List UInt8) :=
  if b.length < t then none
  else if b.length = t then (if b = prfH k row t then some [] else none)
  else if (rowA k row b true).drop (b.length - t) = zeros t then some ((rowA k row b true).take (b.length - t)) else none
theorem sealA_length (k : Parts) (row : List (List UInt8)) (t : Nat) (m : List UInt8) : (sealA k row t m).length = m.length + t := by
  unfold sealA
  split
  · next h => rw [prfH_length, h]; simp
  · rw [rowA_length, List.length_append, zeros_length]
theorem open_seal (k : Parts) (row : List (List UInt8)) (t : Nat) (m : List UInt8) : openA k row t (sealA k row t m) = some m := by
  have hl := sealA_length k row t m
  unfold openA
  rw [hl, if_neg (by omega)]
  by_cases h : m = []
  · subst h
    rw [if_pos (by simp)]
    have : sealA k row t [] = prfH k row t := by unfold sealA; rw [if_pos rfl]
    rw [this, if_pos rfl]
  · have h0 : m.length ≠ 0 := fun e => h (List.eq_nil_of_length_eq_zero e)
    rw [if_neg (by omega)]
    have : sealA k row t m = rowA k row (m ++ zeros t) false := by unfold sealA; rw [if_neg h]
    have hb : rowA k row (sealA k row t m) true = m ++ zeros t := by rw [this]; exact rowA_back k row (m ++ zeros t) false
    rw [hb, show m.length + t - t = m.length by omega, List.drop_left, List.take_left, if_pos rfl]
theorem seal_open {k : Parts} {row : List (List UInt8)} {t : Nat} {b m : List UInt8} (h : openA k row t b = some m) : sealA k row t m = b ∧ m.length + t = b.length := by
  unfold openA at h
  split at h
  · cases h
  · split at h
    · split at h
      · next h1 h2 h3 =>
        cases h
        refine ⟨?_, by simp; omega⟩
        unfold sealA
        rw [if_pos rfl, ← h3]
      · cases h
    · split at h
      · next h1 h2 h3 =>
        have hm := Option.some.inj h
        have hl := rowA_length k row b true
        have hml : m.length = b.length - t := by rw [← hm, List.length_take, hl]; omega
        refine ⟨?_, by omega⟩
        unfold sealA
        rw [if_neg (by intro e; rw [e] at hml; simp at hml; omega), ← hm, ← h3, List.take_append_drop]
        exact rowA_back k row b true
      · cases h

end Go.Aez
