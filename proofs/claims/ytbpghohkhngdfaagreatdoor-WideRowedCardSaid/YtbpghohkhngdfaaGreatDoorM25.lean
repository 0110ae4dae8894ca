/-
  Texts of this claim, one behind the other: WideD WideE SlotGl OpenB TextGl.
-/
import Derived.Test.YtbpghohkhngdfaaGreatDoorM24
import Derived.Test.YtbpghohkhngdfaaGreatDoorM6
import Derived.Test.YtbpghohkhngdfaaGreatDoorM11
import Derived.Test.YtbpghohkhngdfaaGreatDoorTie
import Derived.Test.YtbpghohkhngdfaaGreatDoorM7
import Derived.Test.YtbpghohkhngdfaaGreatDoorM2
import Derived.ProofKit
import Derived.LaidMore
import Derived.OpenShut
import Derived.Stop.Joined
import Derived.Deep.Slices
import Derived.ChangeArms
import Derived.ChangeSlices
import Derived.ChangeShapes
import Derived.Lib.SmallJoins
/-
  The walks of law 21's may, cipher, turns and awake, of AEZ's ciphers.
-/
namespace Go.Wid
/-- May the scheme, the key and the message be? -/
def mayG (alg : Int) (n1 n2 n3 : Nat) : Bool := decide ((n1 ≤ 200 ∧ n2 ≤ 100 ∧ n3 ≤ 300) ∧ wrongG alg n1 = 0 ∧ leastG alg ≤ n3)
end Go.Wid
namespace Go.Proofs.YtbpghohkhngdfaaGreatDoor
open Go.RowKit Go.Mem Go.Ops Go.Cells Go.Oct Go.Gf Go.Trn Go.Aes Go.Ring Go.Ezk Go.Ezh Go.Ezt Go.Ezc Go.Aez Go.Blake Go.CutP Go.Fl Go.Wid
set_option linter.unusedSimpArgs false
set_option linter.unusedVariables false
set_option maxRecDepth 100000
attribute [local irreducible] walkR walkP walk0 walkB walkK

theorem may21_ok (alg : Int) (a1 : Option Addr) (n1 c1 : Nat) (a2 : Option Addr) (n2 c2 : Nat) (a3 : Option Addr) (n3 c3 : Nat) (back : Bool) (w : World) :
    Calls Tryz.prog 28 #[.agg (textV alg a1 n1 c1 a2 n2 c2 a3 n3 c3 back).toArray] w fun e w' => e = .returned (.bool (mayG alg n1 n2 n3)) ∧ Below w.heap.size w w' := by
  have HS := Lib.hid (St.start w)
  by_cases hs : n1 ≤ 200 ∧ n2 ≤ 100 ∧ n3 ≤ 300
  · have ds := decide_eq_true hs
    by_cases hw : wrongG alg n1 = 0
    · have HW := Lib.hid (show wrongG alg n1 = 0 ∧ True from ⟨hw, trivial⟩)
      have e1 : mayG alg n1 n2 n3 = decide (leastG alg ≤ n3) := by
        unfold mayG
        exact decide_eq_decide.2 ⟨fun h => by omega, fun h => ⟨hs, hw, by omega⟩⟩
      rw [e1]
      clear hs hw e1
      go_enter Tryz.func28, Tryz.ntmps28
      go_wp2_with (refine wpList_box 24 _ (textV alg a1 n1 c1 a2 n2 c2 a3 n3 c3 back) _ rfl rfl rfl rfl ?_)
      intro w1 hb hbel; have HS := Lib.hid (HS.out.push hb hbel); clear hb hbel
      go_wp2_with fail
      refine wp_region_R [0, 1, 2, 3, 4, 5, 6, 7, 8, 9, 10, 11, 12, 13, 14, 15, 16, 17, 18, 19] (by kernel_rfl) (by kernel_rfl) ?_
      rintro w2 rfl
      have HS := Lib.hid HS.out.drew
      refine walkR_load (HS.out.get 0 rfl).range (HS.out.get 0 rfl).lt Tryz.rowText rfl rfl rfl rfl rfl (fun K hK => ?_)
      go_simp; refine hK _ ?_; clear hK K
      refine walkR_call rfl rfl (by rfl) (fun K hK => ?_)
      go_simp
      refine (short21_ok alg a1 n1 c1 a2 n2 c2 a3 n3 c3 back _).mono ?_
      rintro e w3 ⟨rfl, hbel⟩
      have HS := Lib.hid (HS.out.later hbel)
      rw [ds]
      go_simp
      refine hK _ _ hbel ?_
      clear hK K hbel
      have hc0 := fun (x : After w3) => ((HS.out.get 0 rfl).below x.later (HS.out.get 0 rfl).lt).cell 0 _ rfl
      have hc1 := fun (x : After w3) => ((HS.out.get 0 rfl).below x.later (HS.out.get 0 rfl).lt).cell 1 _ rfl
      have hc3 := fun (x : After w3) => ((HS.out.get 0 rfl).below x.later (HS.out.get 0 rfl).lt).cell 3 _ rfl
      repeat (first | (refine walkR_one rfl rfl (fun K hK => ?_); go_big_quiet_step (fail); refine wpQuiet_nil (hK _ ?_); clear hK K) | (refine walkR_no rfl (by rfl) (fun K hK => ?_); go_simp; refine hK _ ?_; clear hK K))
      refine walkR_call rfl rfl (by rfl) (fun K hK => ?_)
      go_simp
      refine (wrong21_ok alg a1 n1 c1 _).mono ?_
      rintro e w4 ⟨rfl, rfl⟩
      rw [HW.out.1]
      go_simp
      refine hK _ _ (Later.refl _) ?_
      clear hK K
      repeat (first | (refine walkR_one rfl rfl (fun K hK => ?_); go_big_quiet_step (fail); refine wpQuiet_nil (hK _ ?_); clear hK K) | (refine walkR_no rfl (by rfl) (fun K hK => ?_); go_simp; refine hK _ ?_; clear hK K))
      refine walkR_call rfl rfl (by rfl) (fun K hK => ?_)
      go_simp
      refine (least21_ok alg _).mono ?_
      rintro e w4 ⟨rfl, rfl⟩
      go_simp
      refine hK _ _ (Later.refl _) ?_
      clear hK K
      repeat (first | (refine walkR_one rfl rfl (fun K hK => ?_); go_big_quiet_step (fail); refine wpQuiet_nil (hK _ ?_); clear hK K) | (refine walkR_no rfl (by rfl) (fun K hK => ?_); go_simp; refine hK _ ?_; clear hK K))
      refine walkR_nil ?_
      go_wp2
      go_ret
      exact ⟨rfl, HS.out.bel⟩
    · have hw0 : ((wrongG alg n1 : Int) == 0) = false := by simp; omega
      have e1 : mayG alg n1 n2 n3 = false := by unfold mayG; exact decide_eq_false (fun h => hw h.2.1)
      rw [e1]
      clear hs hw e1
      go_enter Tryz.func28, Tryz.ntmps28
      go_wp2_with (refine wpList_box 24 _ (textV alg a1 n1 c1 a2 n2 c2 a3 n3 c3 back) _ rfl rfl rfl rfl ?_)
      intro w1 hb hbel; have HS := Lib.hid (HS.out.push hb hbel); clear hb hbel
      go_wp2_with fail
      refine wp_region_R [0, 1, 2, 3, 4, 5, 6, 7, 8, 9, 10, 11, 12, 13, 14, 15, 16, 17, 18, 19] (by kernel_rfl) (by kernel_rfl) ?_
      rintro w2 rfl
      have HS := Lib.hid HS.out.drew
      refine walkR_load (HS.out.get 0 rfl).range (HS.out.get 0 rfl).lt Tryz.rowText rfl rfl rfl rfl rfl (fun K hK => ?_)
      go_simp; refine hK _ ?_; clear hK K
      refine walkR_call rfl rfl (by rfl) (fun K hK => ?_)
      go_simp
      refine (short21_ok alg a1 n1 c1 a2 n2 c2 a3 n3 c3 back _).mono ?_
      rintro e w3 ⟨rfl, hbel⟩
      have HS := Lib.hid (HS.out.later hbel)
      rw [ds]
      go_simp
      refine hK _ _ hbel ?_
      clear hK K hbel
      have hc0 := fun (x : After w3) => ((HS.out.get 0 rfl).below x.later (HS.out.get 0 rfl).lt).cell 0 _ rfl
      have hc1 := fun (x : After w3) => ((HS.out.get 0 rfl).below x.later (HS.out.get 0 rfl).lt).cell 1 _ rfl
      repeat (first | (refine walkR_one rfl rfl (fun K hK => ?_); go_big_quiet_step (fail); refine wpQuiet_nil (hK _ ?_); clear hK K) | (refine walkR_no rfl (by rfl) (fun K hK => ?_); go_simp; refine hK _ ?_; clear hK K))
      refine walkR_call rfl rfl (by rfl) (fun K hK => ?_)
      go_simp
      refine (wrong21_ok alg a1 n1 c1 _).mono ?_
      rintro e w4 ⟨rfl, rfl⟩
      go_simp
      refine hK _ _ (Later.refl _) ?_
      clear hK K
      repeat (first | (refine walkR_one rfl rfl (fun K hK => ?_); go_big_quiet_step (fail); refine wpQuiet_nil (hK _ ?_); clear hK K) | (refine walkR_no rfl (by rfl) (fun K hK => ?_); go_simp; refine hK _ ?_; clear hK K))
      refine walkR_nil ?_
      go_wp2
      go_ret
      exact ⟨rfl, HS.out.bel⟩
  · have ds := decide_eq_false hs
    have e1 : mayG alg n1 n2 n3 = false := by unfold mayG; exact decide_eq_false (fun h => hs h.1)
    rw [e1]
    clear hs e1
    go_enter Tryz.func28, Tryz.ntmps28
    go_wp2_with (refine wpList_box 24 _ (textV alg a1 n1 c1 a2 n2 c2 a3 n3 c3 back) _ rfl rfl rfl rfl ?_)
    intro w1 hb hbel; have HS := Lib.hid (HS.out.push hb hbel); clear hb hbel
    go_wp2_with fail
    refine wp_region_R [0, 1, 2, 3, 4, 5, 6, 7, 8, 9, 10, 11, 12, 13, 14, 15, 16, 17, 18, 19] (by kernel_rfl) (by kernel_rfl) ?_
    rintro w2 rfl
    have HS := Lib.hid HS.out.drew
    refine walkR_load (HS.out.get 0 rfl).range (HS.out.get 0 rfl).lt Tryz.rowText rfl rfl rfl rfl rfl (fun K hK => ?_)
    go_simp; refine hK _ ?_; clear hK K
    refine walkR_call rfl rfl (by rfl) (fun K hK => ?_)
    go_simp
    refine (short21_ok alg a1 n1 c1 a2 n2 c2 a3 n3 c3 back _).mono ?_
    rintro e w3 ⟨rfl, hbel⟩
    have HS := Lib.hid (HS.out.later hbel)
    rw [ds]
    go_simp
    refine hK _ _ hbel ?_
    clear hK K hbel
    repeat (first | (refine walkR_one rfl rfl (fun K hK => ?_); go_big_quiet_step (fail); refine wpQuiet_nil (hK _ ?_); clear hK K) | (refine walkR_no rfl (by rfl) (fun K hK => ?_); go_simp; refine hK _ ?_; clear hK K))
    refine walkR_nil ?_
    go_wp2
    go_ret
    exact ⟨rfl, HS.out.bel⟩

theorem cipher_ez (a1 : Option Addr) (n1 c1 : Nat) (b1 : List UInt8) (a2 : Option Addr) (n2 c2 : Nat) (a3 : Option Addr) (n3 c3 : Nat) (back : Bool) (w : World) (hb : b1.length = n1) (h0 : 0 < n1) (h1 : n1 ≤ 128) (hc : n1 ≤ c1) (hl : Lies w a1 (b1.map B)) (hg : Globals w) (hbg : BGlob w) :
    Calls Tryz.prog 27 #[.agg (textV 3 a1 n1 c1 a2 n2 c2 a3 n3 c3 back).toArray] w fun e w' => ∃ cp kp q p, e = .returned (.tuple #[.pointer (some ⟨cp, 0, none⟩), .bool true]) ∧ Ciph w' cp kp q p (keyParts b1) ∧ Below w.heap.size w w' := by
  have HN := Lib.hid hb
  have HL := Lib.hid hl
  have HG := Lib.hid hg
  have HBG := Lib.hid hbg
  have HS := Lib.hid (St.start w)
  clear hb hl hg hbg
  go_enter Tryz.func27, Tryz.ntmps27
  go_wp2_with (refine wpList_box 24 _ (textV 3 a1 n1 c1 a2 n2 c2 a3 n3 c3 back) _ rfl rfl rfl rfl ?_)
  intro w1 hb hbel; have HS := Lib.hid (HS.out.push hb hbel); clear hb hbel
  have hc0 := fun (x : After w1.drew) => ((HS.out.get 0 rfl).drew.below x.later (HS.out.get 0 rfl).drew.lt).cell 0 _ rfl
  have hc1 := fun (x : After w1.drew) => ((HS.out.get 0 rfl).drew.below x.later (HS.out.get 0 rfl).drew.lt).cell 1 _ rfl
  go_wp2_with fail
  refine wp_region_R [1, 2, 3, 4, 0, 5, 6, 7, 8, 9, 10] (by kernel_rfl) (by kernel_rfl) ?_
  rintro w2 rfl
  repeat (refine walkR_one rfl rfl (fun K hK => ?_); go_big_quiet_step (fail); refine wpQuiet_nil (hK _ ?_); clear hK K)
  clear hc0 hc1
  have HS := Lib.hid HS.out.drew
  refine walkR_call rfl rfl (by rfl) (fun K hK => ?_)
  go_simp
  refine (tables21_ok _ (HG.out.below HS.out.bel)).mono ?_
  rintro e w2 ⟨q, p, rfl, ht, hbel⟩
  have HT := Lib.hid ht
  have HS := Lib.hid (HS.out.later hbel)
  go_simp
  refine hK _ _ hbel ?_
  clear hK K hbel ht
  refine walkR_call rfl rfl (by rfl) (fun K hK => ?_)
  go_simp
  refine (wnew_ok q p a1 n1 c1 b1 _ HN.out h0 h1 hc (HL.out.below HS.out.bel) HT.out (HBG.out.below HS.out.bel)).mono ?_
  rintro e w3 ⟨cp, kp, rfl, hci, hbel⟩
  have HC := Lib.hid hci
  have HS := Lib.hid (HS.out.later hbel)
  go_simp
  refine hK _ _ hbel ?_
  clear hK K hbel hci
  repeat (refine walkR_one rfl rfl (fun K hK => ?_); go_big_quiet_step (fail); refine wpQuiet_nil (hK _ ?_); clear hK K)
  refine walkR_nil ?_
  go_wp2
  go_ret2
  exact ⟨cp, kp, q, p, rfl, HC.out, HS.out.bel⟩

theorem turns_ez (alg : Int) (a1 : Option Addr) (n1 c1 : Nat) (ao : Option Addr) (tn tc : Nat) (a3 : Option Addr) (n3 c3 : Nat) (bk : Bool) (cp kp q p : Nat) (k : Parts) (t : List UInt8) (bo : Option Addr) (n cb : Nat) (m : List UInt8) (back : Bool) (w : World) (hk : Ciph w cp kp q p k) (ht : t.length = tn) (ht1 : tn ≤ 10000) (htc : tn ≤ tc) (hlt : Lies w ao (t.map B))
    (hn : m.length = n) (h1 : 1 ≤ n) (h31 : n ≤ 20000) (hcb : n ≤ cb) (hl : Lies w bo (m.map B)) :
    Calls Tryz.prog 23 #[.agg (textV alg a1 n1 c1 ao tn tc a3 n3 c3 bk).toArray, .pointer (some ⟨cp, 0, none⟩), .slice bo n cb, .bool back] w fun e w' => ∃ v, e = .returned (.tuple #[v, .int .i64 0]) ∧ w'.ownsRow w.heap.size 5 1 v n ((rowA k [t] m back).map B) ∧ Below w.heap.size w w' := by
  have HK := Lib.hid hk
  have HT := Lib.hid ht
  have HLT := Lib.hid hlt
  have HN := Lib.hid hn
  have HL := Lib.hid hl
  clear hk ht hlt hn hl
  cases back
  · go_enter Tryz.func23, Tryz.ntmps23
    go_wp2_with (refine wpList_box 24 _ (textV alg a1 n1 c1 ao tn tc a3 n3 c3 bk) _ rfl rfl rfl rfl ?_)
    intro w1 hb hbel
    have hc2 := hb.cell 2 _ rfl
    have HB := Lib.hid hbel
    clear hb hbel
    go_wp2_with fail
    refine (cenc_ez cp kp q p k ao tn tc t bo n cb m _ (HK.out.later HB.out) HT.out ht1 htc (HLT.out.below HB.out) HN.out h1 h31 hcb (HL.out.below HB.out)).mono ?_
    rintro e w3 ⟨v3, rfl, hown, hbel⟩
    have HO := Lib.hid (own_le hown HB.out.size)
    have HB := Lib.hid (HB.out.trans (hbel.mono HB.out.size))
    clear hown hbel hc2
    go_wp2
    go_ret2
    exact ⟨_, rfl, HO.out, HB.out⟩
  · go_enter Tryz.func23, Tryz.ntmps23
    go_wp2_with (refine wpList_box 24 _ (textV alg a1 n1 c1 ao tn tc a3 n3 c3 bk) _ rfl rfl rfl rfl ?_)
    intro w1 hb hbel
    have hc2 := hb.cell 2 _ rfl
    have HB := Lib.hid hbel
    clear hb hbel
    go_wp2_with fail
    refine (cdec_ez cp kp q p k ao tn tc t bo n cb m _ (HK.out.later HB.out) HT.out ht1 htc (HLT.out.below HB.out) HN.out h1 h31 hcb (HL.out.below HB.out)).mono ?_
    rintro e w3 ⟨v3, rfl, hown, hbel⟩
    have HO := Lib.hid (own_le hown HB.out.size)
    have HB := Lib.hid (HB.out.trans (hbel.mono HB.out.size))
    clear hown hbel hc2
    go_wp2
    go_ret2
    exact ⟨_, rfl, HO.out, HB.out⟩

theorem awake21_ok (w : World) (hg : Globals w) (hbg : BGlob w) : Calls Tryz.prog 22 #[] w fun e w' => e = .returned (.bool true) ∧ Below w.heap.size w w' := by
  have HG := Lib.hid hg
  have HBG := Lib.hid hbg
  have HS := Lib.hid (St.start w)
  clear hg hbg
  go_enter Tryz.func22, Tryz.ntmps22
  go_wp2_with fail
  refine wp_region_P [] [0] [2, 3, 4, 5, 6, 7] [Floater.make 1 9 5 ((zeros 32).map B)] (by kernel_rfl) (by kernel_rfl) ?_
  rintro w1 rfl
  have HS := Lib.hid HS.out.drew
  refine walk0_nil ⟨?_, ?_, Nat.le_refl _⟩
  · intro f hf
    simp only [List.mem_singleton] at hf
    subst hf
    exact fits_make _ _ _ 22 _ _ rfl rfl rfl rfl (by simp) (fun w' => Tryz.make32 w')
  refine walkP_call1 rfl rfl (fun uz wa hla K hK => ?_)
  go_simp
  have HS := Lib.hid (HS.out.later hla)
  refine (tables21_ok _ (HG.out.below HS.out.bel)).mono ?_
  rintro e w2 ⟨q, p, rfl, ht, hbel⟩
  have HT := Lib.hid ht
  have HS := Lib.hid (HS.out.later hbel)
  go_simp
  refine hK _ _ hbel ?_
  clear hK K hbel hla ht
  refine walkP_nil1 (fun bx w3 hlb hbx hbn => ?_)
  go_simp
  have HS := Lib.hid (HS.out.later hlb)
  have HT := Lib.hid (HT.out.below hlb (Nat.le_refl _))
  clear hlb hbn
  refine walkR_call rfl rfl (by rfl) (fun K hK => ?_)
  go_simp
  refine (wnew_alg q 4 (some ⟨bx, 0, none⟩) 32 32 _ (by omega) (by omega) (by omega)).mono ?_
  rintro e w4 ⟨rfl, rfl⟩
  go_simp
  refine hK _ _ (Later.refl _) ?_
  clear hK K HT hbx
  repeat (refine walkR_one rfl rfl (fun K hK => ?_); go_big_quiet_step (fail); refine wpQuiet_nil (hK _ ?_); clear hK K)
  refine walkR_nil ?_
  go_wp2_with fail
  refine wp_region_P [] [0] [2, 3, 4, 5, 6, 7] [Floater.make 1 15 5 ((zeros 32).map B)] (by kernel_rfl) (by kernel_rfl) ?_
  rintro w5 rfl
  have HS := Lib.hid HS.out.drew
  refine walk0_nil ⟨?_, ?_, Nat.le_refl _⟩
  · intro f hf
    simp only [List.mem_singleton] at hf
    subst hf
    exact fits_make _ _ _ 22 _ _ rfl rfl rfl rfl (by simp) (fun w' => Tryz.make32 w')
  refine walkP_call1 rfl rfl (fun uz wa hla K hK => ?_)
  go_simp
  have HS := Lib.hid (HS.out.later hla)
  refine (tables21_ok _ (HG.out.below HS.out.bel)).mono ?_
  rintro e w6 ⟨q2, p2, rfl, ht, hbel⟩
  have HT := Lib.hid ht
  have HS := Lib.hid (HS.out.later hbel)
  go_simp
  refine hK _ _ hbel ?_
  clear hK K hbel hla ht
  refine walkP_nil1 (fun by' w7 hlb hby hbn => ?_)
  go_simp
  have HS := Lib.hid (HS.out.later hlb)
  have HT := Lib.hid (HT.out.below hlb (Nat.le_refl _))
  have HLZ := Lib.hid (show Lies w7 (some ⟨by', 0, none⟩) ((zeros 32).map B) from (show Blk w7 by' ((zeros 32).map B) 5 from hbn).lies)
  clear hlb hbn
  refine walkR_call rfl rfl (by rfl) (fun K hK => ?_)
  go_simp
  refine (wnew_ok q2 p2 (some ⟨by', 0, none⟩) 32 32 (zeros 32) _ (zeros_length 32) (by omega) (by omega) (by omega) HLZ.out HT.out (HBG.out.below HS.out.bel)).mono ?_
  rintro e w8 ⟨cp, kp, rfl, hci, hbel⟩
  have HC := Lib.hid hci
  have HS := Lib.hid (HS.out.later hbel)
  go_simp
  refine hK _ _ hbel ?_
  clear hK K hbel hci HT HLZ
  repeat (refine walkR_one rfl rfl (fun K hK => ?_); go_big_quiet_step (fail); refine wpQuiet_nil (hK _ ?_); clear hK K)
  refine walkR_nil ?_
  go_wp2_with (at_make; refine wpList_make 22 5 (.int .u8 0) 1 5 rfl rfl rfl rfl Tryz.underlying22 Tryz.infoByte rfl rfl rfl (by omega) (by unfold maxLen; omega) ?_)
  intro w9 hb hbel
  have hb : Blk w9 w8.heap.size ((zeros 5).map B) 5 := hb
  have HL5 := Lib.hid hb.lies
  have HC := Lib.hid (HC.out.later hbel)
  have HS := Lib.hid (HS.out.later hbel)
  clear hb hbel
  go_wp2_with fail
  refine (cenc_ez cp kp q2 p2 (keyParts (zeros 32)) none 0 0 [] (some ⟨w8.heap.size, 0, none⟩) 5 5 (zeros 5) _ HC.out rfl (by omega) (by omega) (Lies.nil _ _) (zeros_length 5) (by omega) (by omega) (by omega) HL5.out).mono ?_
  rintro e w10 ⟨v10, rfl, hown, hbel⟩
  obtain ⟨ao10, cap10, rfl, _, _, _⟩ := own_form hown
  have HC := Lib.hid (HC.out.later hbel)
  have HS := Lib.hid (HS.out.later hbel)
  clear hown hbel
  go_wp2_with fail
  refine (least_ez cp kp q2 p2 _ _ HC.out).mono ?_
  rintro e w11 ⟨rfl, rfl⟩
  go_wp2
  go_ret
  exact ⟨rfl, HS.out.bel⟩
end Go.Proofs.YtbpghohkhngdfaaGreatDoor
/-
  The walk of WideRowed.
-/
namespace Go.Proofs.YtbpghohkhngdfaaGreatDoor
open Go.RowKit Go.Mem Go.Ops Go.Cells Go.Oct Go.Gf Go.Trn Go.Aes Go.Ring Go.Ezk Go.Ezh Go.Ezt Go.Ezc Go.Aez Go.Blake Go.CutP Go.Fl Go.Wid
set_option linter.unusedSimpArgs false
set_option linter.unusedVariables false
set_option maxRecDepth 100000
attribute [local irreducible] walkR walkP walk0 walkB walkK

theorem strs_one {w0 w1 : World} {ao : Option Addr} {tn tc : Nat} {t : List UInt8} (ht : t.length = tn) (htc : tn ≤ tc) (hl : Lies w1 ao (t.map B)) : StrsIn (w1.alloc (.cells #[.slice ao tn tc] 22)) (some ⟨w1.heap.size, 0, none⟩) (rowOne t ao tc) := by
  refine ⟨?_, ?_⟩
  · have := (Blk.new w1 [.slice ao tn tc] 22).lies
    simpa [rowOne, Str.val, ht] using this
  · intro s hs
    simp [rowOne] at hs
    subst hs
    exact ⟨by rw [ht]; exact htc, hl.below (later_alloc _ _)⟩

set_option maxHeartbeats 8000000 in
theorem rowed_law (alg : Int) (a1 : Option Addr) (n1 c1 : Nat) (b1 : List UInt8) (a2 : Option Addr) (n2 c2 : Nat) (b2 : List UInt8) (a3 : Option Addr) (n3 c3 : Nat) (b3 : List UInt8) (back : Bool) (w : World)
    (hb1 : b1.length = n1) (hc1 : n1 ≤ c1) (hl1 : Lies w a1 (b1.map B)) (hb2 : b2.length = n2) (hc2 : n2 ≤ c2) (hl2 : Lies w a2 (b2.map B)) (hb3 : b3.length = n3) (hc3 : n3 ≤ c3) (hl3 : Lies w a3 (b3.map B)) (hg : Globals w) (hbg : BGlob w) :
    Calls Tryz.prog 9 #[.agg (textV alg a1 n1 c1 a2 n2 c2 a3 n3 c3 back).toArray] w fun e w' => e = .returned (.bool true) ∧ Below w.heap.size w w' := by
  have HS := Lib.hid (St.start w)
  by_cases hm : mayG alg n1 n2 n3 = true
  · by_cases ha : alg = 3
    · subst ha
      have hmm := of_decide_eq_true hm
      obtain ⟨⟨hs1, hs2, hs3⟩, hw, hle⟩ := hmm
      have hk : 0 < n1 ∧ n1 ≤ 128 := by
        unfold wrongG at hw
        rw [if_neg (by omega), if_neg (by omega), if_pos rfl] at hw
        by_cases h : 0 < n1 ∧ n1 ≤ 128
        · exact h
        · rw [if_neg h] at hw; omega
      have hle : 1 ≤ n3 := hle
      obtain ⟨hk1, hk2⟩ := hk
      have HM := Lib.hid (show mayG 3 n1 n2 n3 = true ∧ True from ⟨hm, trivial⟩)
      have HB1 := Lib.hid hb1
      have HL1 := Lib.hid hl1
      have HB2 := Lib.hid hb2
      have HL2 := Lib.hid hl2
      have HB3 := Lib.hid hb3
      have HL3 := Lib.hid hl3
      have HG := Lib.hid hg
      have HBG := Lib.hid hbg
      clear hm hw hb1 hl1 hb2 hl2 hb3 hl3 hg hbg
      go_enter Tryz.func9, Tryz.ntmps9
      go_wp2_with (refine wpList_box 24 _ (textV 3 a1 n1 c1 a2 n2 c2 a3 n3 c3 back) _ rfl rfl rfl rfl ?_)
      intro w1 hb hbel; have HS := Lib.hid (HS.out.push hb hbel); clear hb hbel
      go_wp2_with (refine (HS.out.get 0 rfl).wload rfl rfl rfl Tryz.rowText rfl ?_)
      refine (may21_ok 3 a1 n1 c1 a2 n2 c2 a3 n3 c3 back _).mono ?_
      rintro e w2 ⟨rfl, hbel⟩
      rw [HM.out.1]
      have HS := Lib.hid (HS.out.later hbel)
      clear hbel
      have hx0 := (HS.out.get 0 rfl).cell 0 _ rfl
      go_wp2_with (refine (HS.out.get 0 rfl).wload rfl rfl rfl Tryz.rowText rfl ?_)
      refine (cipher_ez a1 n1 c1 b1 a2 n2 c2 a3 n3 c3 back _ HB1.out hk1 hk2 hc1 (HL1.out.below HS.out.bel) (HG.out.below HS.out.bel) (HBG.out.below HS.out.bel)).mono ?_
      rintro e w3 ⟨cp, kp, q, p, rfl, hci, hbel⟩
      have HC := Lib.hid hci
      have HS := Lib.hid (HS.out.later hbel)
      clear hci hbel hx0
      have hx2 := (HS.out.get 0 rfl).cell 2 _ rfl
      have hx3 := (HS.out.get 0 rfl).cell 3 _ rfl
      have hx4 := (HS.out.get 0 rfl).cell 4 _ rfl
      go_wp2_with (refine (HS.out.get 0 rfl).wload rfl rfl rfl Tryz.rowText rfl ?_)
      refine (turns_ez 3 a1 n1 c1 a2 n2 c2 a3 n3 c3 back cp kp q p _ b2 a3 n3 c3 b3 back _ HC.out HB2.out (by omega) hc2 (HL2.out.below HS.out.bel) HB3.out hle (by omega) hc3 (HL3.out.below HS.out.bel)).mono ?_
      rintro e w4 ⟨v4, rfl, hown, hbel⟩
      obtain ⟨a4, c4, rfl, hc4, _, hl4⟩ := own_form hown
      have HL4 := Lib.hid hl4
      have HC := Lib.hid (HC.out.later hbel)
      have HS := Lib.hid (HS.out.later hbel)
      clear hown hl4 hbel hx2 hx3 hx4
      have hx2 := (HS.out.get 0 rfl).cell 2 _ rfl
      have hx3 := fun o => ((HS.out.get 0 rfl).alloc o).cell 3 _ rfl
      have hx4 := fun o => ((HS.out.get 0 rfl).alloc o).cell 4 _ rfl
      go_wp2_with fail
      have HSS := Lib.hid (strs_one (w0 := w) HB2.out hc2 (HL2.out.below HS.out.bel))
      have HS := Lib.hid (HS.out.later (later_alloc w4 (.cells #[.slice a2 n2 c2] 22)))
      have HC := Lib.hid (HC.out.later (later_alloc w4 (.cells #[.slice a2 n2 c2] 22)))
      have HL4 := Lib.hid (HL4.out.below (later_alloc w4 (.cells #[.slice a2 n2 c2] 22)))
      clear hx2 hx3 hx4
      generalize w4.alloc (.cells #[.slice a2 n2 c2] 22) = w5 at *
      refine (crow_ok cp kp q p _ (some ⟨w4.heap.size, 0, none⟩) 1 1 (rowOne b2 a2 c2) a3 n3 c3 b3 back _ HC.out rfl (by omega) HSS.out (by intro s hs; simp [rowOne] at hs; subst hs; have := HB2.out; simp; omega) HB3.out hle (by omega) hc3 (HL3.out.below HS.out.bel)).mono ?_
      rintro e w6 ⟨v6, rfl, hown, hbel⟩
      obtain ⟨a6, c6, rfl, hc6, _, hl6⟩ := own_form hown
      have HL6 := Lib.hid hl6
      have HL4 := Lib.hid (HL4.out.below hbel)
      have HC := Lib.hid (HC.out.later hbel)
      have HS := Lib.hid (HS.out.later hbel)
      clear hown hl6 hbel HSS
      have hx2 := (HS.out.get 0 rfl).cell 2 _ rfl
      have hx4 := fun o => ((HS.out.get 0 rfl).alloc o).cell 4 _ rfl
      go_wp2_with fail
      have HSS := Lib.hid (strs_one (w0 := w) HB2.out hc2 (HL2.out.below HS.out.bel))
      have HS := Lib.hid (HS.out.later (later_alloc w6 (.cells #[.slice a2 n2 c2] 22)))
      have HC := Lib.hid (HC.out.later (later_alloc w6 (.cells #[.slice a2 n2 c2] 22)))
      have HL4 := Lib.hid (HL4.out.below (later_alloc w6 (.cells #[.slice a2 n2 c2] 22)))
      have HL6 := Lib.hid (HL6.out.below (later_alloc w6 (.cells #[.slice a2 n2 c2] 22)))
      clear hx2 hx4
      generalize w6.alloc (.cells #[.slice a2 n2 c2] 22) = w7 at *
      refine (crow_ok cp kp q p _ (some ⟨w6.heap.size, 0, none⟩) 1 1 (rowOne b2 a2 c2) a6 n3 c6 (rowA (keyParts b1) (rowOf (rowOne b2 a2 c2)) b3 back) (!back) _ HC.out rfl (by omega) HSS.out (by intro s hs; simp [rowOne] at hs; subst hs; have := HB2.out; simp; omega) (by rw [rowA_length]; exact HB3.out) hle (by omega) hc6 HL6.out).mono ?_
      rintro e w8 ⟨v8, rfl, hown, hbel⟩
      rw [rowA_back] at hown
      obtain ⟨a8, c8, rfl, hc8, _, hl8⟩ := own_form hown
      have HL8 := Lib.hid hl8
      have HL4 := Lib.hid (HL4.out.below hbel)
      have HL6 := Lib.hid (HL6.out.below hbel)
      have HS := Lib.hid (HS.out.later hbel)
      clear hown hl8 hbel HSS
      have hx3 := (HS.out.get 0 rfl).cell 3 _ rfl
      have F1 := string_ok w8 a4 n3 c4 (rowA (keyParts b1) [b2] b3 back) (by rw [rowA_length]; exact HB3.out) HL4.out
      have F2 := string_ok w8 a6 n3 c6 (rowA (keyParts b1) [b2] b3 back) (by rw [rowA_length]; exact HB3.out) HL6.out
      have F3 := string_ok w8 a8 n3 c8 b3 HB3.out HL8.out
      have F4 := string_ok w8 a3 n3 c3 b3 HB3.out (HL3.out.below HS.out.bel)
      generalize str (rowA (keyParts b1) [b2] b3 back) = s1 at *
      generalize str b3 = s2 at *
      go_wp2_with fail
      refine (awake21_ok _ (HG.out.below HS.out.bel) (HBG.out.below HS.out.bel)).mono ?_
      rintro e w9 ⟨rfl, hbel⟩
      have HS := Lib.hid (HS.out.later hbel)
      clear hbel F1 F2 F3 F4 hx3
      go_wp2
      go_ret
      exact ⟨rfl, HS.out.bel⟩
    · have hd : (alg != 3) = true := by simp; omega
      have HM := Lib.hid (show mayG alg n1 n2 n3 = true ∧ True from ⟨hm, trivial⟩)
      clear hm
      go_enter Tryz.func9, Tryz.ntmps9
      go_wp2_with (refine wpList_box 24 _ (textV alg a1 n1 c1 a2 n2 c2 a3 n3 c3 back) _ rfl rfl rfl rfl ?_)
      intro w1 hb hbel; have HS := Lib.hid (HS.out.push hb hbel); clear hb hbel
      go_wp2_with (refine (HS.out.get 0 rfl).wload rfl rfl rfl Tryz.rowText rfl ?_)
      refine (may21_ok alg a1 n1 c1 a2 n2 c2 a3 n3 c3 back _).mono ?_
      rintro e w2 ⟨rfl, hbel⟩
      rw [HM.out.1]
      have HS := Lib.hid (HS.out.later hbel)
      clear hbel
      have hx0 := (HS.out.get 0 rfl).cell 0 _ rfl
      go_wp2
      go_ret
      exact ⟨rfl, HS.out.bel⟩
  · have HM := Lib.hid (show mayG alg n1 n2 n3 = false ∧ True from ⟨by simpa using hm, trivial⟩)
    clear hm
    go_enter Tryz.func9, Tryz.ntmps9
    go_wp2_with (refine wpList_box 24 _ (textV alg a1 n1 c1 a2 n2 c2 a3 n3 c3 back) _ rfl rfl rfl rfl ?_)
    intro w1 hb hbel; have HS := Lib.hid (HS.out.push hb hbel); clear hb hbel
    go_wp2_with (refine (HS.out.get 0 rfl).wload rfl rfl rfl Tryz.rowText rfl ?_)
    refine (may21_ok alg a1 n1 c1 a2 n2 c2 a3 n3 c3 back _).mono ?_
    rintro e w2 ⟨rfl, hbel⟩
    rw [HM.out.1]
    have HS := Lib.hid (HS.out.later hbel)
    clear hbel
    go_wp2
    go_ret
    exact ⟨rfl, HS.out.bel⟩
end Go.Proofs.YtbpghohkhngdfaaGreatDoor
/-
  What the row's hypothesis on listed variables says of memory: turn's and blake's variables; a world that meets it.
-/
namespace Go.Proofs.YtbpghohkhngdfaaGreatDoor
open Go.RowKit Go.Mem Go.Ops Go.Cells Go.Trn Go.Blake Go.ChangeShapes Go.WideShapes
set_option linter.unusedSimpArgs false
set_option linter.unusedVariables false
set_option maxRecDepth 100000

/-- The list of the rows. -/
def laid4 : List (String × DataW Unit) := [("wringer/blake.first", Rows.laid_wringer_blake_first), ("wringer/blake.rows", Rows.laid_wringer_blake_rows), ("wringer/turn.mixes", Rows.laid_wringer_turn_mixes), ("wringer/turn.unmixes", Rows.laid_wringer_turn_unmixes)]

theorem gMixes : Tryz.prog.globalNamed "wringer/turn.mixes" = some 0 := by kernel_rfl
theorem gUnmixes : Tryz.prog.globalNamed "wringer/turn.unmixes" = some 1 := by kernel_rfl
theorem gFirst : Tryz.prog.globalNamed "wringer/blake.first" = some 2 := by kernel_rfl
theorem gRows : Tryz.prog.globalNamed "wringer/blake.rows" = some 3 := by kernel_rfl
theorem tMixes : (Tryz.prog.globals[0]?).map (·.type) = some 120 := by kernel_rfl
theorem tUnmixes : (Tryz.prog.globals[1]?).map (·.type) = some 120 := by kernel_rfl
theorem tFirst : (Tryz.prog.globals[2]?).map (·.type) = some 207 := by kernel_rfl
theorem tRows : (Tryz.prog.globals[3]?).map (·.type) = some 317 := by kernel_rfl

section
variable {H : Type} {enc : TypeId × Value → H} {P : Program} {w : World} {base : Nat} {spare : Nat → Bool} {held : Bool}
/-- A row of numbers that reads as given numbers holds these numbers. -/
theorem ints_of_trod {t e : TypeId} {fuel n : Nat} {k : IntKind} {cs : List Value} {l : List Int} {p : List MemPlace}
    (ht : P.underlying t = some (.array n e)) (he : P.underlying e = some (.int k)) (hce : P.cellsOf e = 1) (hct : P.cellsOf t = n)
    (h : DataW.trod enc P w base spare held fuel t cs = some (.agg (l.map fun i => .lit (.int k i)), p)) : cs = l.map (.int k ·) := by
  obtain ⟨xs, m, _, hx, hlen, hn, hel⟩ := DataW.trod_array ht h
  rw [hct] at hlen
  simp only [Prod.mk.injEq, DataW.agg.injEq] at hx
  have hll : l.length = n := by have := congrArg List.length hx.1; simpa [hn] using this
  apply List.ext_getElem?
  intro i
  by_cases hi : i < n
  · have h1 := hel i hi
    have hxi : ∃ x, xs[i]? = some x := ⟨xs[i]'(by omega), by simp⟩
    obtain ⟨x, hxi⟩ := hxi
    rw [hxi, hce, Nat.mul_one] at h1
    obtain ⟨n0, e0, r0, _⟩ := DataW.trod_int he h1
    have h2 := congrArg (fun (q : List (DataW H)) => q[i]?) hx.1
    simp only [List.getElem?_map, hxi, Option.map_some, r0] at h2
    have hc : cs[i]? = some (.int k n0) := by
      have := congrArg (fun q : List Value => q[0]?) e0
      simpa [List.getElem?_take, List.getElem?_drop] using this
    rw [hc, List.getElem?_map]
    cases hli : l[i]? with
    | none => rw [hli] at h2; simp at h2
    | some y => rw [hli] at h2; simp at h2; simp [h2]
  · rw [List.getElem?_eq_none (by omega), List.getElem?_eq_none (by simp; omega)]
theorem pieces {n : Nat} {g : List Int → List Value} : ∀ (ll : List (List Int)) (cs : List Value), cs.length = ll.length * n → (∀ i l, ll[i]? = some l → (cs.drop (i * n)).take n = g l) → cs = (ll.map g).flatten
  | [], cs, h, _ => by
    have : cs = [] := List.eq_nil_of_length_eq_zero (by simpa using h)
    simp [this]
  | l :: ll, cs, h, hg => by
    have h0 := hg 0 l rfl
    simp only [Nat.zero_mul, List.drop_zero] at h0
    have hr := pieces (n := n) ll (cs.drop n) (by rw [List.length_drop, h, List.length_cons, Nat.add_mul]; omega) (fun i l' hl => by
      have := hg (i + 1) l' (by simpa using hl)
      rw [List.drop_drop]
      rw [Nat.add_mul, Nat.one_mul, Nat.add_comm] at this
      exact this)
    rw [List.map_cons, List.flatten_cons, ← hr, ← h0, List.take_append_drop]
/-- A row of rows of numbers. -/
theorem rows_of_trod {t t1 e : TypeId} {fuel m n : Nat} {k : IntKind} {cs : List Value} {ll : List (List Int)} {p : List MemPlace}
    (ht : P.underlying t = some (.array m t1)) (ht1 : P.underlying t1 = some (.array n e)) (he : P.underlying e = some (.int k)) (hce : P.cellsOf e = 1) (hct1 : P.cellsOf t1 = n) (hct : P.cellsOf t = m * n)
    (h : DataW.trod enc P w base spare held fuel t cs = some (.agg (ll.map fun l => .agg (l.map fun i => .lit (.int k i))), p)) : cs = (ll.map fun l => l.map (.int k ·)).flatten := by
  obtain ⟨xs, f, _, hx, hlen, hn, hel⟩ := DataW.trod_array ht h
  rw [hct] at hlen
  simp only [Prod.mk.injEq, DataW.agg.injEq] at hx
  have hll : ll.length = m := by have := congrArg List.length hx.1; simpa [hn] using this
  refine pieces (n := n) ll cs (by rw [hlen, hll]) fun i l hl => ?_
  have hi : i < m := by rw [← hll]; exact (List.getElem?_eq_some_iff.1 hl).1
  have h1 := hel i hi
  obtain ⟨x, hxi⟩ : ∃ x, xs[i]? = some x := ⟨xs[i]'(by omega), by simp⟩
  rw [hxi, hct1] at h1
  have h2 := congrArg (fun (q : List (DataW H)) => q[i]?) hx.1
  simp only [List.getElem?_map, hxi, Option.map_some, hl] at h2
  obtain ⟨x1, x2⟩ := x
  simp only [Option.some.injEq] at h2
  subst h2
  exact ints_of_trod ht1 he hce hct1 h1
end

theorem blk_of_var {P : Program} {w : World} {n : String} {g : Nat} {cs : Array Value} {vs : List Value} (hg : P.globalNamed n = some g) (hv : w.var? P n = some cs) (hcs : cs.toList = vs)
    (hz : ∃ c t, w.heap[g]? = some (.cells c t (0, 0))) : Blk w g vs (tyAt w g) := by
  obtain ⟨c, t, hb⟩ := hz
  have h1 : cs = c := by
    simp only [World.var?, hg, Option.bind_some, hb] at hv
    exact (Option.some.inj hv).symm
  subst h1
  unfold Blk tyAt
  rw [hb, ← hcs]

theorem globals_of_laid {W : World} (h : laidMetH Tryz.prog laid4 W) : Globals W ∧ BGlob W := by
  rw [MakeChecks.laidMetH_plain _ _ _ (by kernel_rfl)] at h
  obtain ⟨ps, ⟨g0, t0, cs0, f0, p0, q0, hg0, ht0, hv0, hd0, ⟨g1, t1, cs1, f1, p1, q1, hg1, ht1, hv1, hd1, ⟨g2, t2, cs2, f2, p2, q2, hg2, ht2, hv2, hd2, ⟨g3, t3, cs3, f3, p3, q3, hg3, ht3, hv3, hd3, _, e3⟩, e2⟩, e1⟩, e0⟩, _, hz⟩ := h
  obtain rfl := Option.some.inj (gFirst.symm.trans hg0)
  obtain rfl := Option.some.inj (gRows.symm.trans hg1)
  obtain rfl := Option.some.inj (gMixes.symm.trans hg2)
  obtain rfl := Option.some.inj (gUnmixes.symm.trans hg3)
  obtain rfl := Option.some.inj (tFirst.symm.trans ht0)
  obtain rfl := Option.some.inj (tRows.symm.trans ht1)
  obtain rfl := Option.some.inj (tMixes.symm.trans ht2)
  obtain rfl := Option.some.inj (tUnmixes.symm.trans ht3)
  have c0 : cs0.toList = firstB.map L := (ints_of_trod (n := 8) (e := 147) (k := .u64) (l := firstB.map fun x => (x.toNat : Int)) (by kernel_rfl) (by kernel_rfl) (by kernel_rfl) (by kernel_rfl) hd0).trans (by kernel_rfl)
  have c1 : cs1.toList = rowsB.map B := (rows_of_trod (m := 10) (n := 16) (t1 := 52) (e := 5) (k := .u8) (ll := (List.range 10).map fun i => ((rowsB.drop (16 * i)).take 16).map fun x => (x.toNat : Int)) (by kernel_rfl) (by kernel_rfl) (by kernel_rfl) (by kernel_rfl) (by kernel_rfl) (by kernel_rfl) hd1).trans (by kernel_rfl)
  have c2 : cs2.toList = _ := ints_of_trod (n := 4) (k := .u8) (l := [2, 3, 1, 1]) Tryz.underlying120 Tryz.underlying5 (by kernel_rfl) (by kernel_rfl) hd2
  have c3 : cs3.toList = _ := ints_of_trod (n := 4) (k := .u8) (l := [14, 11, 13, 9]) Tryz.underlying120 Tryz.underlying5 (by kernel_rfl) (by kernel_rfl) hd3
  have s0 : cs0.size = 8 := by rw [← Array.length_toList, c0]; rfl
  have s1 : cs1.size = 160 := by rw [← Array.length_toList, c1]; rfl
  have s2 : cs2.size = 4 := by rw [← Array.length_toList, c2]; rfl
  have s3 : cs3.size = 4 := by rw [← Array.length_toList, c3]; rfl
  refine ⟨⟨blk_of_var hg2 hv2 c2 (hz 0 0 ?_).1, blk_of_var hg3 hv3 c3 (hz 1 0 ?_).1⟩, ⟨blk_of_var hg0 hv0 c0 (hz 2 0 ?_).1, blk_of_var hg1 hv1 c1 (hz 3 0 ?_).1⟩⟩
  · rw [e0, e1, e2, s2]
    exact List.mem_append_right _ (List.mem_append_right _ (List.mem_append_left _ (List.mem_append_left _ (MemPlace.mem_row.2 ⟨0, by omega, rfl⟩))))
  · rw [e0, e1, e2, e3, s3]
    exact List.mem_append_right _ (List.mem_append_right _ (List.mem_append_right _ (List.mem_append_left _ (List.mem_append_left _ (MemPlace.mem_row.2 ⟨0, by omega, rfl⟩)))))
  · rw [e0, s0]
    exact List.mem_append_left _ (List.mem_append_left _ (MemPlace.mem_row.2 ⟨0, by omega, rfl⟩))
  · rw [e0, e1, s1]
    exact List.mem_append_right _ (List.mem_append_left _ (List.mem_append_left _ (MemPlace.mem_row.2 ⟨0, by omega, rfl⟩)))

/-- The door's own heap meets the condition. -/
theorem door_met (os : Os) (args : Array Value) : laidMetH Tryz.prog laid4 ((World.doorLaid Tryz.prog 39 os).forCall (fun _ _ => 0) ⟨#[], args, []⟩).memory :=
  laidMetH_of_parts3 (fuel := 8) (laidMet_of_run' 8 (by kernel_rfl) (by kernel_rfl)) (by kernel_rfl) (by kernel_rfl)

end Go.Proofs.YtbpghohkhngdfaaGreatDoor
/-
  Plain facts on memory: bytes and acts of a header that came in. No program.
-/
namespace Go.Open
open Go.RowKit Go.Mem Go.Ops Go.Cells Go.Oct Go.ChangeShapes Go.WideShapes
set_option linter.unusedSimpArgs false
set_option linter.unusedVariables false

/-- Rows of n values behind an address. -/
structure VRows (n : Nat) (w : World) (ao : Option Addr) (vs : List (List Value)) : Prop where
  each : ∀ v ∈ vs, v.length = n
  lies : Lies w ao vs.flatten

theorem vflat_at (n : Nat) : ∀ (vs : List (List Value)) (i j : Nat) (v : List Value), (∀ v ∈ vs, v.length = n) → vs[i]? = some v → j < n → vs.flatten[n * i + j]? = v[j]?
  | [], i, j, v, _, hi, _ => by cases hi
  | x :: vs, 0, j, v, hv, hi, hj => by
    simp at hi; subst hi
    have := hv x (by simp)
    rw [List.flatten_cons, Nat.mul_zero, Nat.zero_add, List.getElem?_append_left (by omega)]
  | x :: vs, i + 1, j, v, hv, hi, hj => by
    have := hv x (by simp)
    rw [List.getElem?_cons_succ] at hi
    rw [List.flatten_cons, List.getElem?_append_right (by rw [Nat.mul_succ]; omega), this, show n * (i + 1) + j - n = n * i + j by rw [Nat.mul_succ]; omega]
    exact vflat_at n vs i j v (fun u hu => hv u (List.mem_cons_of_mem _ hu)) hi hj

theorem vflat_length (n : Nat) : ∀ vs : List (List Value), (∀ v ∈ vs, v.length = n) → vs.flatten.length = vs.length * n
  | [], _ => by simp
  | x :: vs, hv => by
    rw [List.flatten_cons, List.length_append, hv x (by simp), vflat_length n vs (fun u hu => hv u (List.mem_cons_of_mem _ hu)), List.length_cons, Nat.add_mul]
    omega

theorem VRows.below {n : Nat} {w w' : World} {ao : Option Addr} {vs : List (List Value)} (h : VRows n w ao vs) (hb : Below w.heap.size w w') : VRows n w' ao vs := ⟨h.each, h.lies.below hb⟩
theorem VRows.nil (n : Nat) (w : World) (ao : Option Addr) : VRows n w ao [] := ⟨by simp, Lies.nil _ _⟩
theorem VRows.range {n : Nat} {w : World} {ao : Option Addr} {vs : List (List Value)} (h : VRows n w ao vs) (hn : 0 < n) {i : Nat} {v : List Value} (hi : vs[i]? = some v) :
    ∃ b off, ao = some ⟨b, off, none⟩ ∧ b < w.heap.size ∧ w.rangeAt b (off + i * n) v := by
  have hk := h.each v (List.mem_of_getElem? hi)
  have hat : ∀ j u, v[j]? = some u → vs.flatten[n * i + j]? = some u := fun j u hu => by
    have hj : j < n := by
      rcases Nat.lt_or_ge j n with h | h
      · exact h
      · rw [List.getElem?_eq_none (by omega)] at hu; cases hu
    rw [vflat_at n vs i j v h.each hi hj]
    exact hu
  obtain ⟨b, off, rfl, hc⟩ := h.lies _ _ (hat 0 (v[0]'(by omega)) (by simp))
  refine ⟨b, off, rfl, block_lt_of_cell hc, fun j u hu => ?_⟩
  obtain ⟨b', off', e, hc'⟩ := h.lies _ _ (hat j u hu)
  cases e
  rw [show off + i * n + j = off + (n * i + j) by rw [Nat.mul_comm i n]; omega]
  exact hc'

/-- A slice of structs whose fields are one cell each, opened. -/
theorem open_rows {H : Type} {enc : TypeId × Value → H} {P : Program} {w : World} {base : Nat} {spare : Nat → Bool} {held : Bool} {t e : TypeId} {fs : Array Field} {fuel C : Nat} {cs : List Value} {x : DataW H × List MemPlace}
    (ht : P.underlying t = some (.slice e)) (he : P.underlying e = some (.struct fs)) (hC : P.cellsOf e = C) (hC0 : 0 < C) (h : DataW.trod enc P w base spare held fuel t cs = some x) :
    ∃ (ao : Option Addr) (len cap : Nat) (vs : List (List Value)), cs = [.slice ao len cap] ∧ vs.length = len ∧ len ≤ cap ∧ cap ≤ maxLen ∧ VRows C w ao vs ∧
      ∀ v ∈ vs, ∃ n, ∀ (i : Nat) (f : Field), fs[i]? = some f → ∃ y, DataW.trod enc P w base spare held n f.type ((v.drop f.offset).take (P.cellsOf f.type)) = some y := by
  rcases Go.Deep.open_slice ht h with ⟨rfl, _⟩ | ⟨a, len, cap, m, n, D, Pl, rfl, hb, hl, hm, hmm, rfl, hx⟩
  · exact ⟨none, 0, 0, [], rfl, rfl, Nat.le_refl _, by simp [maxLen], VRows.nil _ _ _, by simp⟩
  have hlm : len ≤ m := by rw [hmm]; split <;> omega
  have each : ∀ i, i < len → ∃ v : List Value, v.length = C ∧ (∀ j u, v[j]? = some u → w.cell? (a.add (i * C + j)) = some u) ∧
      ∃ n, ∀ (i : Nat) (f : Field), fs[i]? = some f → ∃ y, DataW.trod enc P w base spare held n f.type ((v.drop f.offset).take (P.cellsOf f.type)) = some y := by
    intro i hi
    obtain ⟨cs', h1, h2⟩ := hx i (by omega)
    rw [hC] at h1
    obtain ⟨_, hlen, hcell⟩ := World.cells?_some h1
    obtain ⟨xs, k, hk, hxy, _, hxl, hf⟩ := DataW.trod_struct he h2
    refine ⟨cs', hlen, fun j u hu => ?_, k, fun i f hfi => ?_⟩
    · have hj : j < C := by
        rcases Nat.lt_or_ge j C with h | h
        · exact h
        · rw [List.getElem?_eq_none (by omega)] at hu; cases hu
      have := hcell j hj
      rw [Go.Deep.add_add] at this
      rw [this, hu]
    · have hi' : i < xs.length := by
        rw [hxl]
        exact (Array.getElem?_eq_some_iff.1 hfi).1
      refine ⟨xs[i], ?_⟩
      rw [hf i f hfi]
      simp [hi']
  obtain ⟨V, hV⟩ := Go.Deep.choose_lt each
  refine ⟨some a, len, cap, (List.range len).map V, rfl, by simp, hl, hm, ⟨?_, ?_⟩, ?_⟩
  · intro v hv
    obtain ⟨i, hi, rfl⟩ := List.mem_map.1 hv
    exact (hV i (List.mem_range.1 hi)).1
  · intro j u hu
    have hev : ∀ v ∈ (List.range len).map V, v.length = C := by
      intro v hv
      obtain ⟨i, hi, rfl⟩ := List.mem_map.1 hv
      exact (hV i (List.mem_range.1 hi)).1
    have hfl : ((List.range len).map V).flatten.length = len * C := by
      rw [vflat_length C _ hev]
      simp
    have hj : j < len * C := by
      rcases Nat.lt_or_ge j (len * C) with h | h
      · exact h
      · rw [List.getElem?_eq_none (by omega)] at hu; cases hu
    have hi : j / C < len := Nat.div_lt_of_lt_mul (by rw [Nat.mul_comm]; exact hj)
    have hm' : j % C < C := Nat.mod_lt _ hC0
    have hat := vflat_at C _ (j / C) (j % C) (V (j / C)) hev (by simp [hi]) hm'
    rw [Nat.div_add_mod] at hat
    rw [hat] at hu
    have h2 := (hV _ hi).2.1 _ _ hu
    rw [show j / C * C + j % C = j by rw [Nat.mul_comm]; exact Nat.div_add_mod j C] at h2
    have hlen0 : 0 < len := Nat.lt_of_le_of_lt (Nat.zero_le _) hi
    have hl0 := (hV 0 hlen0).1
    have h0 := (hV 0 hlen0).2.1 0 ((V 0)[0]'(by rw [hl0]; exact hC0)) (by simp)
    rw [Nat.zero_mul] at h0
    have hs := World.cell?_spot h0
    obtain ⟨b, off, sp⟩ := a
    have hs' : sp = none := by simpa [Addr.add] using hs
    subst hs'
    exact ⟨b, off, rfl, by rw [add_eq] at h2; exact h2⟩
  · intro v hv
    obtain ⟨i, hi, rfl⟩ := List.mem_map.1 hv
    exact (hV i (List.mem_range.1 hi)).2.2

def Fit (n : Int) : Prop := -9223372036854775808 ≤ n ∧ n ≤ 9223372036854775807

theorem fit_of_wf {n : Int} (h : (Lit.int .i64 n).wf = true) : Fit n := by
  have : -9223372036854775808 ≤ n ∧ n ≤ 9223372036854775807 := by simpa [Lit.wf, IntKind.min, IntKind.max, IntKind.signed, IntKind.bits] using h
  exact this

/-- Bytes of a slice that can be read. -/
theorem open_bytes {H : Type} {enc : TypeId × Value → H} {P : Program} {w : World} {base : Nat} {spare : Nat → Bool} {held : Bool} {t e : TypeId} {fuel : Nat} {cs : List Value} {x : DataW H × List MemPlace}
    (ht : P.underlying t = some (.slice e)) (he : P.underlying e = some (.int .u8)) (hc : P.cellsOf e = 1) (h : DataW.trod enc P w base spare held fuel t cs = some x) :
    ∃ (ao : Option Addr) (cap : Nat) (bs : List UInt8), cs = [.slice ao bs.length cap] ∧ bs.length ≤ cap ∧ cap ≤ maxLen ∧ Lies w ao (bs.map B) := by
  rcases open_ints ht he hc h with ⟨rfl, _⟩ | ⟨x, l, c, zs, rfl, _, hl, hm, hz, _, hcell, hwz⟩
  · exact ⟨none, 0, [], rfl, Nat.le_refl _, by simp [maxLen], Lies.nil _ _⟩
  · have hz' : l ≤ zs.length := by rw [hz]; split <;> omega
    obtain ⟨bs, h1, h2, h3, h4⟩ := Go.Mem.bytes_of_row (w := w) (a := some x) (len := l) (cap := zs.length) (zs := zs)
      (.inr ⟨x, rfl, hz', by rw [hz]; split <;> omega, rfl, hcell, hwz⟩)
    exact ⟨some x, c, bs, by rw [h1], by omega, hm, h4⟩


/-- An act in memory: what it does, the number, the password, the secret. -/
structure Acte where
  d : Int
  n : Int
  po : Option Addr
  pc : Nat
  p : List UInt8
  so : Option Addr
  sc : Nat
  s : List UInt8

def Acte.vals (x : Acte) : List Value := [.int .i64 x.d, .int .i64 x.n, .slice x.po x.p.length x.pc, .slice x.so x.s.length x.sc]

structure Acte.In (w : World) (x : Acte) : Prop where
  d : Fit x.d
  n : Fit x.n
  p : Lies w x.po (x.p.map B)
  s : Lies w x.so (x.s.map B)
  pc : x.p.length ≤ x.pc ∧ x.pc ≤ maxLen
  sc : x.s.length ≤ x.sc ∧ x.sc ≤ maxLen

theorem Acte.In.below {w w' : World} {x : Acte} (h : x.In w) (hb : Below w.heap.size w w') : x.In w' :=
  ⟨h.d, h.n, h.p.below hb, h.s.below hb, h.pc, h.sc⟩
theorem Acte.vals_length (x : Acte) : x.vals.length = 4 := rfl
theorem Acte.vals_one (x : Acte) : ∀ v ∈ x.vals, v.oneCell' = true := by
  intro v hv
  simp only [Acte.vals, List.mem_cons, List.not_mem_nil, or_false] at hv
  rcases hv with rfl | rfl | rfl | rfl <;> rfl

structure ActsIn (w : World) (ao : Option Addr) (xs : List Acte) : Prop where
  rows : VRows 4 w ao (xs.map Acte.vals)
  each : ∀ x ∈ xs, x.In w
theorem ActsIn.below {w w' : World} {ao : Option Addr} {xs : List Acte} (h : ActsIn w ao xs) (hb : Below w.heap.size w w') : ActsIn w' ao xs :=
  ⟨h.rows.below hb, fun x hx => (h.each x hx).below hb⟩
theorem ActsIn.at {w : World} {ao : Option Addr} {xs : List Acte} (h : ActsIn w ao xs) {i : Nat} {x : Acte} (hi : xs[i]? = some x) :
    x.In w ∧ ∃ b off, ao = some ⟨b, off, none⟩ ∧ b < w.heap.size ∧ w.rangeAt b (off + i * 4) x.vals :=
  ⟨h.each x (List.mem_of_getElem? hi), h.rows.range (by omega) (by simp [hi])⟩

theorem open_acts {H : Type} {enc : TypeId × Value → H} {P : Program} {w : World} {base : Nat} {spare : Nat → Bool} {held : Bool} {t e ti ts ty : TypeId} {fs : Array Field} {fuel : Nat} {cs : List Value} {x : DataW H × List MemPlace}
    (ht : P.underlying t = some (.slice e)) (he : P.underlying e = some (.struct fs)) (hC : P.cellsOf e = 4) (hfs : fs.toList.map (fun f => (f.type, f.offset)) = [(ti, 0), (ti, 1), (ts, 2), (ts, 3)])
    (hi : P.underlying ti = some (.int .i64)) (hs : P.underlying ts = some (.slice ty)) (hy : P.underlying ty = some (.int .u8))
    (ci : P.cellsOf ti = 1) (cs' : P.cellsOf ts = 1) (cy : P.cellsOf ty = 1)
    (h : DataW.trod enc P w base spare held fuel t cs = some x) :
    ∃ (ao : Option Addr) (cap : Nat) (xs : List Acte), cs = [.slice ao xs.length cap] ∧ xs.length ≤ cap ∧ cap ≤ maxLen ∧ ActsIn w ao xs := by
  obtain ⟨ao, len, cap, vs, rfl, hl, hlc, hcm, hrows, hv⟩ := open_rows ht he hC (by omega) h
  have each : ∀ v ∈ vs, ∃ x : Acte, v = x.vals ∧ x.In w := by
    intro v hvm
    have hlen := hrows.each v hvm
    obtain ⟨n, hf⟩ := hv v hvm
    obtain ⟨l⟩ := fs
    simp only at hfs
    have hln : l.length = 4 := by have := congrArg List.length hfs; simpa using this
    match l, hln, hfs with
    | [f0, f1, f2, f3], _, hfs =>
      simp only [List.map_cons, List.map_nil, List.cons.injEq, Prod.mk.injEq, and_true] at hfs
      obtain ⟨⟨t0, o0⟩, ⟨t1, o1⟩, ⟨t2, o2⟩, ⟨t3, o3⟩⟩ := hfs
      match v, hlen with
      | [v0, v1, v2, v3], _ =>
        obtain ⟨y0, g0⟩ := hf 0 f0 rfl
        obtain ⟨y1, g1⟩ := hf 1 f1 rfl
        obtain ⟨y2, g2⟩ := hf 2 f2 rfl
        obtain ⟨y3, g3⟩ := hf 3 f3 rfl
        simp only [t0, t1, t2, t3, o0, o1, o2, o3, ci, cs', List.drop_succ_cons, List.drop_zero, List.take_succ_cons, List.take_zero] at g0 g1 g2 g3
        obtain ⟨n0, e0, _, w0⟩ := DataW.trod_int hi g0
        obtain ⟨n1, e1, _, w1⟩ := DataW.trod_int hi g1
        obtain ⟨po, pc, p, e2, l2, m2, q2⟩ := open_bytes hs hy cy g2
        obtain ⟨so, sc, s, e3, l3, m3, q3⟩ := open_bytes hs hy cy g3
        simp only [List.cons.injEq, and_true] at e0 e1 e2 e3
        refine ⟨⟨n0, n1, po, pc, p, so, sc, s⟩, ?_, ⟨fit_of_wf w0, fit_of_wf w1, q2, q3, ⟨l2, m2⟩, ⟨l3, m3⟩⟩⟩
        simp only [Acte.vals, e0, e1, e2, e3]
  have : ∃ xs : List Acte, vs = xs.map Acte.vals ∧ ∀ x ∈ xs, x.In w := by
    clear hrows hv hl h
    induction vs with
    | nil => exact ⟨[], rfl, by simp⟩
    | cons v vs ih =>
      obtain ⟨x, rfl, hx⟩ := each v (by simp)
      obtain ⟨xs, rfl, hxs⟩ := ih (fun u hu => each u (List.mem_cons_of_mem _ hu))
      refine ⟨x :: xs, rfl, fun y hy => ?_⟩
      rcases List.mem_cons.1 hy with rfl | hy
      · exact hx
      · exact hxs y hy
  obtain ⟨xs, rfl, hxs⟩ := this
  rw [List.length_map] at hl
  subst hl
  exact ⟨ao, cap, xs, rfl, hlc, hcm, hrows, hxs⟩
end Go.Open
/-
  A struct of five one-cell fields by value, opened. No program.
-/
namespace Go.Joins
open Go.ChangeShapes Go.WideShapes Go.RowKit Go.Deep Go.WideElems Go.Maps
variable {H : Type} {enc : TypeId × Value → H} {P : Program} {w : World} {base : Nat} {spare : Nat → Bool} {held : Bool}
theorem array5 {α : Type} {cs : Array α} (h : cs.size = 5) : ∃ c0 c1 c2 c3 c4, cs = #[c0, c1, c2, c3, c4] := by
  obtain ⟨l⟩ := cs
  match l, h with
  | [c0, c1, c2, c3, c4], _ => exact ⟨c0, c1, c2, c3, c4, rfl⟩
theorem open_agg5 {r : Reach} {b0 : Nat} {t : TypeId} {f0 f1 f2 f3 f4 : Field} {v : Value} {d : DataW H} {p : List MemPlace} (hs : P.underlying t = some (.struct #[f0, f1, f2, f3, f4])) (hone : oneCellFields P #[f0, f1, f2, f3, f4] = true) (hC : P.cellsOf t = 5)
    (hv : Value.okWide P w r b0 t v) (h : DataW.Trod enc P w base spare held t v d p) :
    ∃ (v0 v1 v2 v3 v4 : Value) (y0 y1 y2 y3 y4 : DataW H × List MemPlace) (n : Nat), v = .agg #[v0, v1, v2, v3, v4] ∧ d = .agg [y0.1, y1.1, y2.1, y3.1, y4.1] ∧ p = y0.2 ++ (y1.2 ++ (y2.2 ++ (y3.2 ++ y4.2))) ∧
      DataW.trod enc P w base spare held n f0.type [v0] = some y0 ∧ DataW.trod enc P w base spare held n f1.type [v1] = some y1 ∧ DataW.trod enc P w base spare held n f2.type [v2] = some y2 ∧ DataW.trod enc P w base spare held n f3.type [v3] = some y3 ∧ DataW.trod enc P w base spare held n f4.type [v4] = some y4 := by
  obtain ⟨cs, rfl, hsz⟩ := okWide_struct hs hv
  obtain ⟨c0, c1, c2, c3, c4, rfl⟩ := array5 (hsz.trans hC)
  obtain ⟨fuel, hf⟩ := h
  obtain ⟨xs, n, _, hx, hl, hlen, hfs⟩ := DataW.trod_struct hs hf
  match xs, hlen, hx, hfs with
  | [y0, y1, y2, y3, y4], _, hx, hfs =>
    obtain ⟨o0, k0⟩ := hone_of hone 0 f0 rfl
    obtain ⟨o1, k1⟩ := hone_of hone 1 f1 rfl
    obtain ⟨o2, k2⟩ := hone_of hone 2 f2 rfl
    obtain ⟨o3, k3⟩ := hone_of hone 3 f3 rfl
    obtain ⟨o4, k4⟩ := hone_of hone 4 f4 rfl
    simp only [Prod.mk.injEq] at hx
    have h0 := hfs 0 f0 rfl
    have h1 := hfs 1 f1 rfl
    have h2 := hfs 2 f2 rfl
    have h3 := hfs 3 f3 rfl
    have h4 := hfs 4 f4 rfl
    exact ⟨c0, c1, c2, c3, c4, y0, y1, y2, y3, y4, n, rfl, by simpa using hx.1, by simpa using hx.2, by simpa [Value.cells, o0, k0] using h0, by simpa [Value.cells, o1, k1] using h1, by simpa [Value.cells, o2, k2] using h2, by simpa [Value.cells, o3, k3] using h3, by simpa [Value.cells, o4, k4] using h4⟩
end Go.Joins
