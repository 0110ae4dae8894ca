/-
  Texts of this claim, one behind the other: SlotI SlotJ SlotK SlotL.
-/
import Derived.Test.YtnkaodjfjllkfaaGreatDoorM21
import Derived.Deep.QuietTactic
import Derived.BigQuiet
import Derived.WalkSmall
/-
  The walk of SlotsBack.
-/
set_option linter.unusedSimpArgs false
set_option linter.unusedVariables false
namespace Go.Proofs.YtnkaodjfjllkfaaGreatDoor
open Go.RowKit Go.Mem Go.Ops Go.Cells Go.Oct Go.Gf Go.Trn Go.Aes Go.Ring Go.Ezk Go.Ezh Go.Ezt Go.Aez Go.Blake Go.CutP Go.Fl Go.Slot Go.Open
set_option maxRecDepth 100000
attribute [local irreducible] walkR walkP walk0 walkB walkK

/-- What Find tells of any password, as values. -/
def findT (b : List UInt8) (s : Hdr) : List UInt8 × Int × Int :=
  if b.length = 0 ∨ 128 < b.length then ([], 0, 2) else match findH b s with
    | some (m, n) => (m, (n : Int), 0)
    | none => ([], 0, 17)
theorem find_t (hp q p : Nat) (ss : List Str) (ao : Option Addr) (np cp : Nat) (b : List UInt8) (m : List UInt8) (n f : Int) (w : World) (hh : Head w hp q p ss) (hg : BGlob w) (hk : Okay (rowOf ss))
    (hb : b.length = np) (h1 : np ≤ 1000) (hc : np ≤ cp) (hl : Lies w ao (b.map B)) (ht : findT b (rowOf ss) = (m, n, f)) :
    Calls Tryz.prog 15 #[.pointer (some ⟨hp, 0, none⟩), .slice ao np cp] w fun e w' => (∃ ao, e = .returned (.tuple #[.slice ao m.length m.length, .int .i64 n, .int .i64 f]) ∧ Lies w' ao (m.map B)) ∧ Below w.heap.size w w' := by
  refine (find_any hp q p ss ao np cp b w hh hg hk hb h1 hc hl).mono ?_
  rintro e w' ⟨h2, h3⟩
  refine ⟨?_, h3⟩
  unfold FindsE at h2
  unfold findT at ht
  split at h2
  · rename_i hbad
    rw [if_pos hbad] at ht
    cases ht
    exact ⟨none, h2, Lies.nil _ _⟩
  · rename_i hbad
    rw [if_neg hbad] at ht
    cases hf : findH b (rowOf ss) with
    | none =>
      rw [hf] at h2 ht
      cases ht
      exact ⟨none, h2, Lies.nil _ _⟩
    | some x =>
      obtain ⟨m', n'⟩ := x
      rw [hf] at h2 ht
      cases ht
      exact h2

set_option maxHeartbeats 8000000 in
theorem back_law (ao : Option Addr) (n cap : Nat) (xs : List Acte) (bo : Option Addr) (m cb : Nat) (bs : List UInt8) (w : World) (hn : xs.length = n) (hc : n ≤ cap) (hcm : cap ≤ maxLen) (hx : ActsIn w ao xs) (hm : bs.length = m) (hd : m ≤ cb) (hdm : cb ≤ maxLen) (hk : Lies w bo (bs.map B)) (hg : Globals w) (hbg : BGlob w) :
    Calls Tryz.prog 9 #[.slice ao n cap, .slice bo m cb] w fun e w' => e = .returned (.bool true) ∧ Below w.heap.size w w' := by
  have HN := Lib.hid hn
  have HM := Lib.hid hm
  have HX := Lib.hid hx
  have HK := Lib.hid hk
  have HG := Lib.hid hg
  have HBG := Lib.hid hbg
  have HS := Lib.hid (St.start w)
  have hnb : n ≤ 9223372036854775807 := by unfold maxLen at hcm; omega
  clear hn hm hx hk hg hbg hcm hdm
  by_cases hla : lightA xs = true
  · have HLA := Lib.hid (show lightA xs = true ∧ True from ⟨hla, trivial⟩)
    obtain ⟨hn12, hsz⟩ := lightA_spec hla
    rw [HN.out] at hn12
    have HSZ := Lib.hid hsz
    clear hla hsz
    by_cases hbig : 140 < m
    · have d0 : decide ((m : Int) > 140) = true := by simp; omega
      go_enter Tryz.func9, Tryz.ntmps9
      go_wp2_with fail
      refine (light_ok ao n cap xs _ HN.out hnb HX.out).mono ?_
      rintro e w1 ⟨rfl, rfl⟩
      rw [HLA.out.1]
      go_wp2
      go_ret
      exact ⟨rfl, HS.out.bel⟩
    · have d0 : decide ((m : Int) > 140) = false := by simp; omega
      go_enter Tryz.func9, Tryz.ntmps9
      go_wp2_with fail
      refine (light_ok ao n cap xs _ HN.out hnb HX.out).mono ?_
      rintro e w1 ⟨rfl, rfl⟩
      rw [HLA.out.1]
      go_wp2_with fail
      refine (led_ok ao n cap xs _ HN.out (by omega) HX.out HSZ.out HG.out HBG.out).mono ?_
      rintro e w1 ⟨hp, q, p, ss, rfl, hh, hro, hle, hbel⟩
      have HH := Lib.hid hh
      obtain ⟨s, hs⟩ : ∃ s, s = ledH xs := ⟨_, rfl⟩
      rw [← hs] at hro
      have HRO := Lib.hid (show rowOf ss = s ∧ True from ⟨hro, trivial⟩)
      have HOK := Lib.hid (show Okay s from by rw [hs]; exact Okay.led xs)
      have HLEN := Lib.hid (show s.length = 8 ∧ True from ⟨by rw [hs]; exact led_length xs, trivial⟩)
      have HS := Lib.hid (HS.out.later hbel)
      clear hh hro hle hbel hs
      go_wp2_with fail
      refine (tables_ok _ (HG.out.below HS.out.bel)).mono ?_
      rintro e w2 ⟨q2, p2, rfl, ht, hbel⟩
      have HT := Lib.hid ht
      have HH := Lib.hid (HH.out.later hbel)
      have HS := Lib.hid (HS.out.later hbel)
      clear ht hbel
      obtain ⟨rs, hrs⟩ : ∃ rs, rs = bytesH s := ⟨_, rfl⟩
      obtain ⟨k, hk⟩ : ∃ k, k = rs.length := ⟨_, rfl⟩
      have HRS := Lib.hid (show bytesH s = rs ∧ True from ⟨hrs.symm, trivial⟩)
      have HKL := Lib.hid (show rs.length = k ∧ True from ⟨hk.symm, trivial⟩)
      have hkb : k ≤ 700 := by
        rw [hk, hrs]
        exact Nat.le_trans (bytesH_le _ HOK.out) (by rw [HLEN.out.1]; omega)
      have HRD := Lib.hid (show readH rs = some s ∧ True from ⟨by rw [hrs]; exact readH_bytes HOK.out HLEN.out.1, trivial⟩)
      have HUL := Lib.hid (show (usedH s).length ≤ 8 from by
        refine Nat.le_trans (usedGo_le _ 0) ?_
        rw [HLEN.out.1]; omega)
      clear hrs hk
      go_wp2_with fail
      refine (hbytes_ok hp q p ss _ HH.out (by rw [HRO.out.1]; exact HOK.out)).mono ?_
      rintro e w3 ⟨v3, rfl, hown3, hbel⟩
      rw [HRO.out.1, HRS.out.1, HKL.out.1] at hown3
      obtain ⟨a3, c3, rfl, hc3, _, hl3⟩ := own_form hown3
      have HL3 := Lib.hid hl3
      have HT := Lib.hid (HT.out.below hbel (Nat.le_refl _))
      have HH := Lib.hid (HH.out.later hbel)
      have HS := Lib.hid (HS.out.later hbel)
      clear hown3 hl3 hbel
      go_wp2_with fail
      refine (read_ok q2 p2 a3 k c3 rs _ HT.out HKL.out.1 hc3 hkb HL3.out).mono ?_
      rintro e w4 ⟨hr, hbel⟩
      rw [HRD.out.1] at hr
      obtain ⟨gp, gs, rfl, hh, hro⟩ := hr
      have HGH := Lib.hid hh
      have HGO := Lib.hid (show rowOf gs = s ∧ True from ⟨hro, trivial⟩)
      have HH := Lib.hid (HH.out.later hbel)
      have HS := Lib.hid (HS.out.later hbel)
      clear hh hro hbel HL3 HT
      obtain ⟨fm, fn, ff, hft⟩ : ∃ fm fn ff, findT bs s = (fm, fn, ff) := ⟨_, _, _, rfl⟩
      obtain ⟨fl, hfl⟩ : ∃ l, l = fm.length := ⟨_, rfl⟩
      have HFT := Lib.hid (show findT bs s = (fm, fn, ff) ∧ True from ⟨hft, trivial⟩)
      have HFL := Lib.hid (show fm.length = fl ∧ True from ⟨hfl.symm, trivial⟩)
      clear hft hfl
      go_wp2_with fail
      refine (find_t hp q p ss bo m cb bs fm fn ff _ HH.out (HBG.out.below HS.out.bel) (by rw [HRO.out.1]; exact HOK.out) HM.out (by omega) hd (HK.out.below HS.out.bel) (by rw [HRO.out.1]; exact HFT.out.1)).mono ?_
      rintro e w5 ⟨⟨a5, rfl, hl5⟩, hbel⟩
      have HL5 := Lib.hid hl5
      have HGH := Lib.hid (HGH.out.later hbel)
      have HH := Lib.hid (HH.out.later hbel)
      have HS := Lib.hid (HS.out.later hbel)
      clear hl5 hbel
      rw [HFL.out.1]
      go_wp2_with fail
      refine (find_t gp q2 p2 gs bo m cb bs fm fn ff _ HGH.out (HBG.out.below HS.out.bel) (by rw [HGO.out.1]; exact HOK.out) HM.out (by omega) hd (HK.out.below HS.out.bel) (by rw [HGO.out.1]; exact HFT.out.1)).mono ?_
      rintro e w6 ⟨⟨a6, rfl, hl6⟩, hbel⟩
      have HL6 := Lib.hid hl6
      have HL5 := Lib.hid (HL5.out.below hbel)
      have HGH := Lib.hid (HGH.out.later hbel)
      have HH := Lib.hid (HH.out.later hbel)
      have HS := Lib.hid (HS.out.later hbel)
      clear hl6 hbel
      rw [HFL.out.1]
      obtain ⟨S, hS⟩ : ∃ S, S = str fm := ⟨_, rfl⟩
      obtain ⟨R, hR⟩ : ∃ R, R = str rs := ⟨_, rfl⟩
      have HR := Lib.hid (show str rs = R ∧ True from ⟨hR.symm, trivial⟩)
      have HSF := Lib.hid (show str fm = S ∧ True from ⟨hS.symm, trivial⟩)
      clear hS hR
      go_wp2_with fail
      refine wp_region_R [0, 3, 1, 2, 4, 5, 6, 7, 8, 10, 9, 11, 12, 13, 14, 15, 16, 17, 18, 19, 20, 21, 22, 23, 24, 25, 26, 27, 28, 29, 30, 31, 32, 33, 34] (by kernel_rfl) (by kernel_rfl) ?_
      rintro w7 rfl
      repeat (refine walkR_one rfl rfl (fun K hK => ?_); go_big_quiet_step (fail); refine wpQuiet_nil (hK _ ?_); clear hK K)
      have HS := Lib.hid HS.out.drew
      have HH := Lib.hid HH.out.drew
      have HGH := Lib.hid HGH.out.drew
      have HL5 := Lib.hid (HL5.out.below (Below.refl _ w6).drew)
      have HL6 := Lib.hid (HL6.out.below (Below.refl _ w6).drew)
      refine walkR_call rfl rfl (by rfl) (fun K hK => ?_)
      go_simp
      refine (hbytes_ok gp q2 p2 gs _ HGH.out (by rw [HGO.out.1]; exact HOK.out)).mono ?_
      rintro e w8 ⟨v8, rfl, hown8, hbel⟩
      rw [HGO.out.1, HRS.out.1, HKL.out.1] at hown8
      obtain ⟨a8, c8, rfl, _, _, hl8⟩ := own_form hown8
      have hsC := fun (y : After w8) => string_ok y.val a8 k c8 rs HKL.out.1 (hl8.below y.later)
      rw [HR.out.1] at hsC
      have HS := Lib.hid (HS.out.later hbel)
      have HH := Lib.hid (HH.out.later hbel)
      have HGH := Lib.hid (HGH.out.later hbel)
      have HL5 := Lib.hid (HL5.out.below hbel)
      have HL6 := Lib.hid (HL6.out.below hbel)
      clear hown8 hl8
      simp only [id]
      go_simp
      refine hK _ _ hbel ?_
      clear hK K hbel
      repeat (refine walkR_one rfl rfl (fun K hK => ?_); go_big_quiet_step (fail); refine wpQuiet_nil (hK _ ?_); clear hK K)
      refine walkR_call rfl rfl (by rfl) (fun K hK => ?_)
      go_simp
      refine (hbytes_ok hp q p ss _ HH.out (by rw [HRO.out.1]; exact HOK.out)).mono ?_
      rintro e w9 ⟨v9, rfl, hown9, hbel⟩
      rw [HRO.out.1, HRS.out.1, HKL.out.1] at hown9
      obtain ⟨a9, c9, rfl, _, _, hl9⟩ := own_form hown9
      have hsC := fun (y : After w9) => string_ok y.val a9 k c9 rs HKL.out.1 (hl9.below y.later)
      rw [HR.out.1] at hsC
      have HS := Lib.hid (HS.out.later hbel)
      have HH := Lib.hid (HH.out.later hbel)
      have HGH := Lib.hid (HGH.out.later hbel)
      have HL5 := Lib.hid (HL5.out.below hbel)
      have HL6 := Lib.hid (HL6.out.below hbel)
      clear hown9 hl9
      simp only [id]
      go_simp
      refine hK _ _ hbel ?_
      clear hK K hbel
      repeat (refine walkR_one rfl rfl (fun K hK => ?_); go_big_quiet_step (fail); refine wpQuiet_nil (hK _ ?_); clear hK K)
      clear hsC
      refine walkR_call rfl rfl (by rfl) (fun K hK => ?_)
      go_simp
      refine (hused_ok gp q2 p2 gs _ HGH.out).mono ?_
      rintro e w10 ⟨v10, rfl, hown10, hbel⟩
      rw [HGO.out.1] at hown10
      obtain ⟨u, hu⟩ : ∃ u, u = (usedH s).length := ⟨_, rfl⟩
      have HU := Lib.hid (show (usedH s).length = u from hu.symm)
      rw [← hu] at hown10
      obtain ⟨a10, c10, rfl, _, _, hl10⟩ := own_form hown10
      have HL10 := Lib.hid (show IntsIn w10 a10 (usedH s) from hl10)
      have HS := Lib.hid (HS.out.later hbel)
      have HH := Lib.hid (HH.out.later hbel)
      have HL5 := Lib.hid (HL5.out.below hbel)
      have HL6 := Lib.hid (HL6.out.below hbel)
      clear hown10 hl10 hu
      simp only [id]
      go_simp
      refine hK _ _ hbel ?_
      clear hK K hbel
      refine walkR_call rfl rfl (by rfl) (fun K hK => ?_)
      go_simp
      refine (hused_ok hp q p ss _ HH.out).mono ?_
      rintro e w11 ⟨v11, rfl, hown11, hbel⟩
      rw [HRO.out.1, HU.out] at hown11
      obtain ⟨a11, c11, rfl, _, _, hl11⟩ := own_form hown11
      have HL11 := Lib.hid (show IntsIn w11 a11 (usedH s) from hl11)
      have HL10 := Lib.hid (show IntsIn w11 a10 (usedH s) from Lies.below HL10.out hbel)
      have HS := Lib.hid (HS.out.later hbel)
      have HL5 := Lib.hid (HL5.out.below hbel)
      have HL6 := Lib.hid (HL6.out.below hbel)
      clear hown11 hl11
      simp only [id]
      go_simp
      refine hK _ _ hbel ?_
      clear hK K hbel
      refine walkR_call rfl rfl (by rfl) (fun K hK => ?_)
      go_simp
      refine (same_ints a10 a11 u c10 c11 (usedH s) _ HU.out (by have := HUL.out; rw [HU.out] at this; omega) HL10.out HL11.out).mono ?_
      rintro e w12 ⟨rfl, hbel⟩
      have HS := Lib.hid (HS.out.later hbel)
      have HL5 := Lib.hid (HL5.out.below hbel)
      have HL6 := Lib.hid (HL6.out.below hbel)
      have hsA := fun (y : After w12) => string_ok y.val a5 fl fl fm HFL.out.1 (HL5.out.below y.later)
      have hsB := fun (y : After w12) => string_ok y.val a6 fl fl fm HFL.out.1 (HL6.out.below y.later)
      rw [HSF.out.1] at hsA hsB
      go_simp
      refine hK _ _ hbel ?_
      clear hK K hbel
      repeat (refine walkR_one rfl rfl (fun K hK => ?_); go_big_quiet_step (fail); refine wpQuiet_nil (hK _ ?_); clear hK K)
      refine walkR_call rfl rfl (by rfl) (fun K hK => ?_)
      go_simp
      refine (awake_ok _ (HG.out.below HS.out.bel) (HBG.out.below HS.out.bel)).mono ?_
      rintro e w13 ⟨rfl, hbel⟩
      have HS := Lib.hid (HS.out.later hbel)
      go_simp
      refine hK _ _ hbel ?_
      clear hK K hbel
      repeat (refine walkR_one rfl rfl (fun K hK => ?_); go_big_quiet_step (fail); refine wpQuiet_nil (hK _ ?_); clear hK K)
      refine walkR_nil ?_
      go_wp2
      go_ret
      exact ⟨rfl, HS.out.bel⟩
  · have HLA := Lib.hid (show lightA xs = false ∧ True from ⟨by simpa using hla, trivial⟩)
    clear hla
    go_enter Tryz.func9, Tryz.ntmps9
    go_wp2_with fail
    refine (light_ok ao n cap xs _ HN.out hnb HX.out).mono ?_
    rintro e w1 ⟨rfl, rfl⟩
    rw [HLA.out.1]
    go_wp2
    go_ret
    exact ⟨rfl, HS.out.bel⟩

end Go.Proofs.YtnkaodjfjllkfaaGreatDoor
/-
  The walk of SlotsFound.
-/
set_option linter.unusedSimpArgs false
set_option linter.unusedVariables false
namespace Go.Slot
theorem Okay.clearTo {s : Hdr} (h : Okay s) : ∀ i, Okay (clearTo s i)
  | 0 => h
  | i + 1 => (Okay.clearTo h i).set i (.inl rfl)
theorem Okay.clearBut {s : Hdr} (h : Okay s) (k : Nat) : ∀ i, Okay (clearBut s k i)
  | 0 => h
  | i + 1 => by
    rw [Slot.clearBut]
    split
    · exact Okay.clearBut h k i
    · exact (Okay.clearBut h k i).set i (.inl rfl)
end Go.Slot
namespace Go.Proofs.YtnkaodjfjllkfaaGreatDoor
open Go.RowKit Go.Mem Go.Ops Go.Cells Go.Oct Go.Gf Go.Trn Go.Aes Go.Ring Go.Ezk Go.Ezh Go.Ezt Go.Aez Go.Blake Go.CutP Go.Fl Go.Slot Go.Open
set_option maxRecDepth 100000
attribute [local irreducible] walkR walkP walk0 walkB walkK

theorem findT_hit {s : Hdr} {k : Nat} {pass secret : List UInt8} (h0 : 0 < pass.length) (h1 : pass.length ≤ 128) (h : s[k]? = some (sealS k pass secret)) : ∃ m at', findT pass s = (m, ((at' : Nat) : Int), 0) ∧ at' ≤ k ∧ (at' = k → m = secret) := by
  obtain ⟨m, a, h2, h3, h4⟩ := findH_hit h
  refine ⟨m, a, ?_, h3, h4⟩
  unfold findT
  rw [if_neg (by omega), h2]
theorem findT_first {s : Hdr} {k : Nat} {pass secret : List UInt8} (h0 : 0 < pass.length) (h1 : pass.length ≤ 128) (h : s[k]? = some (sealS k pass secret)) (he : ∀ i, i < k → s[i]? = some []) : findT pass s = (secret, (k : Int), 0) := by
  unfold findT
  rw [if_neg (by omega), findH_first h he]

set_option maxHeartbeats 8000000 in
theorem found_law (ao : Option Addr) (n cap : Nat) (xs : List Acte) (nn : Nat) (bo : Option Addr) (m cb : Nat) (bs : List UInt8) (co : Option Addr) (l cc : Nat) (cs : List UInt8) (w : World) (hn : xs.length = n) (hc : n ≤ cap) (hcm : cap ≤ maxLen) (hx : ActsIn w ao xs) (hnn : nn ≤ 255) (hm : bs.length = m) (hd : m ≤ cb) (hdm : cb ≤ maxLen) (hk : Lies w bo (bs.map B))
    (hl : cs.length = l) (he : l ≤ cc) (hem : cc ≤ maxLen) (hj : Lies w co (cs.map B)) (hg : Globals w) (hbg : BGlob w) :
    Calls Tryz.prog 4 #[.agg #[.slice ao n cap, .int .u8 nn, .slice bo m cb, .slice co l cc]] w fun e w' => e = .returned (.bool true) ∧ Below w.heap.size w w' := by
  have HN := Lib.hid hn
  have HM := Lib.hid hm
  have HL := Lib.hid hl
  have HX := Lib.hid hx
  have HK := Lib.hid hk
  have HJ := Lib.hid hj
  have HG := Lib.hid hg
  have HBG := Lib.hid hbg
  have hnb : n ≤ 9223372036854775807 := by unfold maxLen at hcm; omega
  clear hn hm hx hk hg hbg hcm hdm hl hem hj
  by_cases hla : lightA xs = true
  · have HLA := Lib.hid (show lightA xs = true ∧ True from ⟨hla, trivial⟩)
    obtain ⟨hn12, hsz⟩ := lightA_spec hla
    rw [HN.out] at hn12
    have HSZ := Lib.hid hsz
    clear hla hsz
    by_cases hr : 0 < m ∧ m ≤ 128
    · have dr : decide (0 < m ∧ m ≤ 128) = true := by simp; omega
      by_cases hs : l = 0 ∨ 64 < l
      · by_cases h0 : l = 0
        · have d0 : ((l : Int) == 0) = true := by simp; omega
          go_enter Tryz.func4, Tryz.ntmps4
          go_wp2
          go_quiet (fail)
          go_wp2_with fail
          refine (light_ok ao n cap xs _ HN.out hnb (HX.out.below (below_drewN ((Below.refl _ _).alloc (Nat.le_refl _) _) _))).mono ?_
          rintro e w1 ⟨rfl, hw1⟩
          have HB := Lib.hid (show Below w.heap.size w w1 from hw1 ▸ below_drewN ((Below.refl _ _).alloc (Nat.le_refl _) _) _)
          clear hw1
          rw [HLA.out.1]
          go_wp2_with fail
          refine (right15_ok bo m cb _).mono ?_
          rintro e w1 ⟨rfl, rfl⟩
          rw [dr]
          go_wp2
          go_ret
          exact ⟨rfl, HB.out⟩
        · have d0 : ((l : Int) == 0) = false := by simp; omega
          have d1 : decide ((l : Int) > 64) = true := by simp; omega
          go_enter Tryz.func4, Tryz.ntmps4
          go_wp2
          go_quiet (fail)
          go_wp2_with fail
          refine (light_ok ao n cap xs _ HN.out hnb (HX.out.below (below_drewN ((Below.refl _ _).alloc (Nat.le_refl _) _) _))).mono ?_
          rintro e w1 ⟨rfl, hw1⟩
          have HB := Lib.hid (show Below w.heap.size w w1 from hw1 ▸ below_drewN ((Below.refl _ _).alloc (Nat.le_refl _) _) _)
          clear hw1
          rw [HLA.out.1]
          go_wp2_with fail
          refine (right15_ok bo m cb _).mono ?_
          rintro e w1 ⟨rfl, rfl⟩
          rw [dr]
          go_wp2
          go_ret
          exact ⟨rfl, HB.out⟩
      · have d0 : ((l : Int) == 0) = false := by simp; omega
        have d1 : decide ((l : Int) > 64) = false := by simp; omega
        obtain ⟨k, hk⟩ : ∃ k, k = nn % 8 := ⟨_, rfl⟩
        have hk8 : k < 8 := by omega
        have ek : (nn : Int).tmod 8 = k := by rw [Int.tmod_eq_emod_of_nonneg (by omega), hk]; simp
        clear hk
        go_enter Tryz.func4, Tryz.ntmps4
        go_wp2
        go_quiet (fail)
        go_wp2_with fail
        refine (light_ok ao n cap xs _ HN.out hnb (HX.out.below (below_drewN ((Below.refl _ _).alloc (Nat.le_refl _) _) _))).mono ?_
        rintro e w1 ⟨rfl, hw1⟩
        have HB := Lib.hid (show Below w.heap.size w w1 from hw1 ▸ below_drewN ((Below.refl _ _).alloc (Nat.le_refl _) _) _)
        clear hw1
        rw [HLA.out.1]
        go_wp2_with fail
        refine (right15_ok bo m cb _).mono ?_
        rintro e w1 ⟨rfl, rfl⟩
        rw [dr]
        go_wp2_with fail
        refine (led_ok ao n cap xs _ HN.out (by omega) (HX.out.below HB.out) HSZ.out (HG.out.below HB.out) (HBG.out.below HB.out)).mono ?_
        rintro e w2 ⟨hp, q, p, ss, rfl, hh, hro, hle, hbel⟩
        have HH := Lib.hid hh
        have hle' : w.heap.size ≤ hp := Nat.le_trans HB.out.size hle
        have HB := Lib.hid (HB.out.trans (hbel.mono HB.out.size))
        have HRO := Lib.hid (show rowOf ss = ledH xs ∧ True from ⟨hro, trivial⟩)
        clear hh hro hle hbel
        go_wp2_with fail
        refine (lay_any hp q p ss (k : Int) bo m cb bs co l cc cs _ HH.out (HBG.out.below HB.out) HM.out (by omega) hd (HK.out.below HB.out) HL.out (by omega) he (HJ.out.below HB.out)).mono ?_
        rintro e w3 ⟨rfl, ⟨ss1, hh, hro⟩, hwr⟩
        rw [HRO.out.1, layH_fit hk8 (by rw [HM.out]; omega) (by rw [HM.out]; omega) (by rw [HL.out]; omega) (by rw [HL.out]; omega)] at hro
        rw [layE_fit hk8 (by rw [HM.out]; omega) (by rw [HM.out]; omega) (by rw [HL.out]; omega) (by rw [HL.out]; omega)]
        obtain ⟨s1, hs1⟩ : ∃ s, s = (ledH xs).set k (sealS k bs cs) := ⟨_, rfl⟩
        rw [← hs1] at hro
        have HRO := Lib.hid (show rowOf ss1 = s1 ∧ True from ⟨hro, trivial⟩)
        have HAT := Lib.hid (show s1[k]? = some (sealS k bs cs) ∧ True from ⟨by rw [hs1, List.getElem?_set, if_pos rfl, if_pos (by rw [led_length]; exact hk8)], trivial⟩)
        have HLEN := Lib.hid (show s1.length = 8 ∧ True from ⟨by rw [hs1, List.length_set, led_length], trivial⟩)
        have HOK := Lib.hid (show Okay s1 from by rw [hs1]; exact (Okay.led xs).set k (.inr (by rw [sealS_length, HL.out]; omega)))
        have HH := Lib.hid hh
        have HB := Lib.hid (hwr.below HB.out hle' HB.out.size)
        clear hh hro hwr hs1
        obtain ⟨fm, at', hft, hak, hfm⟩ := findT_hit (by rw [HM.out]; omega) (by rw [HM.out]; omega) HAT.out.1
        have HFT := Lib.hid (show findT bs s1 = (fm, (at' : Int), 0) ∧ True from ⟨hft, trivial⟩)
        obtain ⟨fl, hfl⟩ : ∃ l, l = fm.length := ⟨_, rfl⟩
        have HFL := Lib.hid (show fm.length = fl ∧ True from ⟨hfl.symm, trivial⟩)
        have HFM := Lib.hid hfm
        have d5 : decide ((at' : Int) > k) = false := by simp; omega
        clear hft hfl hfm
        go_wp2_with fail
        refine (find_t hp q p ss1 bo m cb bs fm at' 0 _ HH.out (HBG.out.below HB.out) (by rw [HRO.out.1]; exact HOK.out) HM.out (by omega) hd (HK.out.below HB.out) (by rw [HRO.out.1]; exact HFT.out.1)).mono ?_
        rintro e w4 ⟨⟨a4, rfl, hl4⟩, hbel⟩
        have HL4 := Lib.hid hl4
        have HH := Lib.hid (HH.out.later hbel)
        have HB := Lib.hid (HB.out.trans (hbel.mono HB.out.size))
        clear hl4 hbel
        rw [HFL.out.1]
        have hsB := string_ok w4 co l cc cs HL.out (HJ.out.below HB.out)
        by_cases hak' : at' = k
        · obtain rfl : cs = fm := (HFM.out hak').symm
          obtain rfl : k = at' := hak'.symm
          obtain rfl : l = fl := by rw [← HFL.out.1, HL.out]
          have hsA := string_ok w4 a4 l l cs HFL.out.1 HL4.out
          generalize hsc : str cs = sc at hsA hsB
          clear hsc
          go_wp2
          go_loopw [12] (fun c wr => ∃ (i : Nat) (ss : List Str), i ≤ k ∧ c = .int .i64 i ∧ Hid (rowOf ss = clearTo s1 i ∧ True) ∧ Hid (Head wr hp q p ss) ∧ Hid (Below w.heap.size w wr)) (fun c _ => k - (intOf c).toNat)
          case atStart => exact ⟨0, _, by omega, rfl, HRO, HH, HB⟩
          case round =>
            clear HH HB HRO
            obtain ⟨i, ss, hi, rfl, HRO, HH, HB⟩ := hrel
            by_cases hlt : i < k
            · go_wp2_with fail
              refine (clear_any hp q p ss (i : Int) _ HH.out).mono ?_
              rintro e w5 ⟨rfl, ⟨ss', hh, hro⟩, hwr⟩
              rw [HRO.out.1, clearH_fit (by omega)] at hro
              have HH := Lib.hid hh
              have HRO := Lib.hid (show rowOf ss' = clearTo s1 (i + 1) ∧ True from ⟨hro, trivial⟩)
              have HB := Lib.hid (hwr.below HB.out hle' HB.out.size)
              clear hh hro hwr
              go_wp2
              go_roundw
              case rel => exact ⟨i + 1, ss', by omega, by go_num, HRO, HH, HB⟩
              case measure => simp [intOf]; omega
            · obtain rfl : k = i := by omega
              have HFT := Lib.hid (show findT bs (clearTo s1 k) = (cs, (k : Int), 0) ∧ True from ⟨findT_first (by rw [HM.out]; omega) (by rw [HM.out]; omega) (by rw [clearTo_ge _ _ _ (Nat.le_refl _)]; exact HAT.out.1) (fun j hj => clearTo_lt _ _ _ hj (by rw [HLEN.out.1]; omega)), trivial⟩)
              have HOK := Lib.hid (show Okay (clearTo s1 k) from HOK.out.clearTo k)
              go_wp2_with fail
              refine (find_t hp q p ss bo m cb bs cs k 0 _ HH.out (HBG.out.below HB.out) (by rw [HRO.out.1]; exact HOK.out) HM.out (by omega) hd (HK.out.below HB.out) (by rw [HRO.out.1]; exact HFT.out.1)).mono ?_
              rintro e w6 ⟨⟨a6, rfl, hl6⟩, hbel⟩
              have HL6 := Lib.hid hl6
              have HB := Lib.hid (HB.out.trans (hbel.mono HB.out.size))
              clear hl6 hbel
              rw [HL.out]
              have hsA := string_ok w6 a6 l l cs HL.out HL6.out
              have hsB := string_ok w6 co l cc cs HL.out (HJ.out.below HB.out)
              generalize str cs = sc at *
              go_wp2_with fail
              refine (awake_ok _ (HG.out.below HB.out) (HBG.out.below HB.out)).mono ?_
              rintro e w7 ⟨rfl, hbel⟩
              have HB := Lib.hid (HB.out.trans (hbel.mono HB.out.size))
              clear hbel
              go_wp2
              go_ret
              exact ⟨rfl, HB.out⟩
        · have d6 : ((at' : Int) == (k : Int)) = false := by simp; omega
          have d7 : decide (k < at') = false := by simp; omega
          have hsA := string_ok w4 a4 fl fl fm HFL.out.1 HL4.out
          go_wp2
          go_loopw [12] (fun c wr => ∃ (i : Nat) (ss : List Str), i ≤ k ∧ c = .int .i64 i ∧ Hid (rowOf ss = clearTo s1 i ∧ True) ∧ Hid (Head wr hp q p ss) ∧ Hid (Below w.heap.size w wr)) (fun c _ => k - (intOf c).toNat)
          case atStart => exact ⟨0, _, by omega, rfl, HRO, HH, HB⟩
          case round =>
            clear HH HB HRO
            obtain ⟨i, ss, hi, rfl, HRO, HH, HB⟩ := hrel
            by_cases hlt : i < k
            · go_wp2_with fail
              refine (clear_any hp q p ss (i : Int) _ HH.out).mono ?_
              rintro e w5 ⟨rfl, ⟨ss', hh, hro⟩, hwr⟩
              rw [HRO.out.1, clearH_fit (by omega)] at hro
              have HH := Lib.hid hh
              have HRO := Lib.hid (show rowOf ss' = clearTo s1 (i + 1) ∧ True from ⟨hro, trivial⟩)
              have HB := Lib.hid (hwr.below HB.out hle' HB.out.size)
              clear hh hro hwr
              go_wp2
              go_roundw
              case rel => exact ⟨i + 1, ss', by omega, by go_num, HRO, HH, HB⟩
              case measure => simp [intOf]; omega
            · obtain rfl : k = i := by omega
              have HFT := Lib.hid (show findT bs (clearTo s1 k) = (cs, (k : Int), 0) ∧ True from ⟨findT_first (by rw [HM.out]; omega) (by rw [HM.out]; omega) (by rw [clearTo_ge _ _ _ (Nat.le_refl _)]; exact HAT.out.1) (fun j hj => clearTo_lt _ _ _ hj (by rw [HLEN.out.1]; omega)), trivial⟩)
              have HOK := Lib.hid (show Okay (clearTo s1 k) from HOK.out.clearTo k)
              go_wp2_with fail
              refine (find_t hp q p ss bo m cb bs cs k 0 _ HH.out (HBG.out.below HB.out) (by rw [HRO.out.1]; exact HOK.out) HM.out (by omega) hd (HK.out.below HB.out) (by rw [HRO.out.1]; exact HFT.out.1)).mono ?_
              rintro e w6 ⟨⟨a6, rfl, hl6⟩, hbel⟩
              have HL6 := Lib.hid hl6
              have HB := Lib.hid (HB.out.trans (hbel.mono HB.out.size))
              clear hl6 hbel
              rw [HL.out]
              have hsA := string_ok w6 a6 l l cs HL.out HL6.out
              have hsB := string_ok w6 co l cc cs HL.out (HJ.out.below HB.out)
              generalize str cs = sc at *
              go_wp2_with fail
              refine (awake_ok _ (HG.out.below HB.out) (HBG.out.below HB.out)).mono ?_
              rintro e w7 ⟨rfl, hbel⟩
              have HB := Lib.hid (HB.out.trans (hbel.mono HB.out.size))
              clear hbel
              go_wp2
              go_ret
              exact ⟨rfl, HB.out⟩
    · have dr : decide (0 < m ∧ m ≤ 128) = false := by simp; omega
      go_enter Tryz.func4, Tryz.ntmps4
      go_wp2
      go_quiet (fail)
      go_wp2_with fail
      refine (light_ok ao n cap xs _ HN.out hnb (HX.out.below (below_drewN ((Below.refl _ _).alloc (Nat.le_refl _) _) _))).mono ?_
      rintro e w1 ⟨rfl, hw1⟩
      have HB := Lib.hid (show Below w.heap.size w w1 from hw1 ▸ below_drewN ((Below.refl _ _).alloc (Nat.le_refl _) _) _)
      clear hw1
      rw [HLA.out.1]
      go_wp2_with fail
      refine (right15_ok bo m cb _).mono ?_
      rintro e w1 ⟨rfl, rfl⟩
      rw [dr]
      go_wp2
      go_ret
      exact ⟨rfl, HB.out⟩
  · have HLA := Lib.hid (show lightA xs = false ∧ True from ⟨by simpa using hla, trivial⟩)
    clear hla
    go_enter Tryz.func4, Tryz.ntmps4
    go_wp2
    go_quiet (fail)
    go_wp2_with fail
    refine (light_ok ao n cap xs _ HN.out hnb (HX.out.below (below_drewN ((Below.refl _ _).alloc (Nat.le_refl _) _) _))).mono ?_
    rintro e w1 ⟨rfl, hw1⟩
    have HB := Lib.hid (show Below w.heap.size w w1 from hw1 ▸ below_drewN ((Below.refl _ _).alloc (Nat.le_refl _) _) _)
    clear hw1
    rw [HLA.out.1]
    go_wp2
    go_ret
    exact ⟨rfl, HB.out⟩

end Go.Proofs.YtnkaodjfjllkfaaGreatDoor
/-
  The walk of SlotsCleared.
-/
set_option linter.unusedSimpArgs false
set_option linter.unusedVariables false
namespace Go.Slot
theorem clearE_fit {n : Nat} (hn : n < 8) : clearE (n : Int) = 0 := by
  unfold clearE
  rw [if_neg (by omega)]
end Go.Slot
namespace Go.Proofs.YtnkaodjfjllkfaaGreatDoor
open Go.RowKit Go.Mem Go.Ops Go.Cells Go.Oct Go.Gf Go.Trn Go.Aes Go.Ring Go.Ezk Go.Ezh Go.Ezt Go.Aez Go.Blake Go.CutP Go.Fl Go.Slot Go.Open
set_option maxRecDepth 100000
attribute [local irreducible] walkR walkP walk0 walkB walkK

/-- One header is written: another one stays. -/
theorem Head.keep {w w' : World} {hp q p gp q2 p2 : Nat} {ss gs : List Str} (hg : Head w gp q2 p2 gs) (hh : Head w hp q p ss) (hw : Wrote hp w w') (hne : gp ≠ hp) : Head w' gp q2 p2 gs := by
  obtain ⟨w1, hb, ho⟩ := hw
  have h1 := hh.later hb
  have g1 := hg.later hb
  have hB : ∀ x : UInt8, B x ∉ headV q ss := by
    intro x hx
    simp [headV] at hx
    obtain ⟨t, _, ht⟩ := hx
    exact val_ne_B t x ht.symm
  exact ⟨g1.tab.only ho (g1.tab.boxes.ne h1.blk (by decide)) (g1.tab.tab.ne h1.blk (by decide)), g1.blk.only ho hne, g1.len, fun s hs => (g1.each s hs).only h1.blk hB ho, g1.nil⟩
theorem findT_empty_bad {pass : List UInt8} (h : ¬(0 < pass.length ∧ pass.length ≤ 128)) : findT pass emptyH = ([], 0, 2) := by
  unfold findT
  rw [if_pos (by omega)]
theorem findT_empty {pass : List UInt8} (h : 0 < pass.length ∧ pass.length ≤ 128) : findT pass emptyH = ([], 0, 17) := by
  unfold findT
  rw [if_neg (by omega), findH_empty]

set_option maxHeartbeats 8000000 in
theorem cleared_law (ao : Option Addr) (n cap : Nat) (xs : List Acte) (nn : Nat) (bo : Option Addr) (m cb : Nat) (bs : List UInt8) (co : Option Addr) (l cc : Nat) (cs : List UInt8) (w : World) (hn : xs.length = n) (hc : n ≤ cap) (hcm : cap ≤ maxLen) (hx : ActsIn w ao xs) (hnn : nn ≤ 255) (hm : bs.length = m) (hd : m ≤ cb) (hdm : cb ≤ maxLen) (hk : Lies w bo (bs.map B))
    (hl : cs.length = l) (he : l ≤ cc) (hem : cc ≤ maxLen) (hj : Lies w co (cs.map B)) (hg : Globals w) (hbg : BGlob w) :
    Calls Tryz.prog 7 #[.agg #[.slice ao n cap, .int .u8 nn, .slice bo m cb, .slice co l cc]] w fun e w' => e = .returned (.bool true) ∧ Below w.heap.size w w' := by
  have HN := Lib.hid hn
  have HM := Lib.hid hm
  have HL := Lib.hid hl
  have HX := Lib.hid hx
  have HK := Lib.hid hk
  have HJ := Lib.hid hj
  have HG := Lib.hid hg
  have HBG := Lib.hid hbg
  have hnb : n ≤ 9223372036854775807 := by unfold maxLen at hcm; omega
  clear hn hm hx hk hg hbg hcm hdm hl hem hj
  by_cases hla : lightA xs = true
  · have HLA := Lib.hid (show lightA xs = true ∧ True from ⟨hla, trivial⟩)
    obtain ⟨hn12, hsz⟩ := lightA_spec hla
    rw [HN.out] at hn12
    have HSZ := Lib.hid hsz
    clear hla hsz
    by_cases hr : 140 < m
    · have d0 : decide ((m : Int) > 140) = true := by simp; omega
      go_enter Tryz.func7, Tryz.ntmps7
      go_wp2
      go_quiet (fail)
      go_wp2_with fail
      refine (light_ok ao n cap xs _ HN.out hnb (HX.out.below (below_drewN ((Below.refl _ _).alloc (Nat.le_refl _) _) _))).mono ?_
      rintro e w1 ⟨rfl, hw1⟩
      have HB := Lib.hid (show Below w.heap.size w w1 from hw1 ▸ below_drewN ((Below.refl _ _).alloc (Nat.le_refl _) _) _)
      clear hw1
      rw [HLA.out.1]
      go_wp2
      go_ret
      exact ⟨rfl, HB.out⟩
    · have d0 : decide ((m : Int) > 140) = false := by simp; omega
      by_cases hs : 80 < l
      · have d1 : decide ((l : Int) > 80) = true := by simp; omega
        go_enter Tryz.func7, Tryz.ntmps7
        go_wp2
        go_quiet (fail)
        go_wp2_with fail
        refine (light_ok ao n cap xs _ HN.out hnb (HX.out.below (below_drewN ((Below.refl _ _).alloc (Nat.le_refl _) _) _))).mono ?_
        rintro e w1 ⟨rfl, hw1⟩
        have HB := Lib.hid (show Below w.heap.size w w1 from hw1 ▸ below_drewN ((Below.refl _ _).alloc (Nat.le_refl _) _) _)
        clear hw1
        rw [HLA.out.1]
        go_wp2
        go_ret
        exact ⟨rfl, HB.out⟩
      · have d1 : decide ((l : Int) > 80) = false := by simp; omega
        obtain ⟨k, hk⟩ : ∃ k, k = nn % 8 := ⟨_, rfl⟩
        have hk8 : k < 8 := by omega
        have ek : (nn : Int).tmod 8 = k := by rw [Int.tmod_eq_emod_of_nonneg (by omega), hk]; simp
        clear hk
        go_enter Tryz.func7, Tryz.ntmps7
        go_wp2
        go_quiet (fail)
        go_wp2_with fail
        refine (light_ok ao n cap xs _ HN.out hnb (HX.out.below (below_drewN ((Below.refl _ _).alloc (Nat.le_refl _) _) _))).mono ?_
        rintro e w1 ⟨rfl, hw1⟩
        have HB := Lib.hid (show Below w.heap.size w w1 from hw1 ▸ below_drewN ((Below.refl _ _).alloc (Nat.le_refl _) _) _)
        clear hw1
        rw [HLA.out.1]
        go_wp2_with fail
        refine (led_ok ao n cap xs _ HN.out (by omega) (HX.out.below HB.out) HSZ.out (HG.out.below HB.out) (HBG.out.below HB.out)).mono ?_
        rintro e w2 ⟨hp, q, p, ss, rfl, hh, hro, hle, hbel⟩
        have HH := Lib.hid hh
        have hlt2 : hp < w2.heap.size := hh.blk.lt
        have hle' : w.heap.size ≤ hp := Nat.le_trans HB.out.size hle
        have HB := Lib.hid (HB.out.trans (hbel.mono HB.out.size))
        have HRO := Lib.hid (show rowOf ss = ledH xs ∧ True from ⟨hro, trivial⟩)
        clear hh hro hle hbel
        go_wp2_with fail
        refine (led_ok ao n cap xs _ HN.out (by omega) (HX.out.below HB.out) HSZ.out (HG.out.below HB.out) (HBG.out.below HB.out)).mono ?_
        rintro e w3 ⟨gp, q2, p2, gs, rfl, hh, hro, hle, hbel⟩
        have HGH := Lib.hid hh
        have HH := Lib.hid (HH.out.later hbel)
        have hge' : w.heap.size ≤ gp := Nat.le_trans HB.out.size hle
        have hne : gp ≠ hp := by omega
        have HB := Lib.hid (HB.out.trans (hbel.mono HB.out.size))
        have HGO := Lib.hid (show rowOf gs = ledH xs ∧ True from ⟨hro, trivial⟩)
        clear hh hro hle hbel hlt2
        go_wp2_with fail
        refine (lay_any hp q p ss (k : Int) bo m cb bs co l cc cs _ HH.out (HBG.out.below HB.out) HM.out (by omega) hd (HK.out.below HB.out) HL.out (by omega) he (HJ.out.below HB.out)).mono ?_
        rintro e w4 ⟨rfl, ⟨ss1, hh, hro⟩, hwr⟩
        rw [HRO.out.1] at hro
        have HRO := Lib.hid (show rowOf ss1 = layH (ledH xs) (k : Int) bs cs ∧ True from ⟨hro, trivial⟩)
        have HGH := Lib.hid (HGH.out.keep HH.out hwr hne)
        have HH := Lib.hid hh
        have HB := Lib.hid (hwr.below HB.out hle' HB.out.size)
        clear hh hro hwr
        obtain ⟨s2, hs2⟩ : ∃ s, s = (ledH xs).set k [] := ⟨_, rfl⟩
        have HS2 := Lib.hid (show (ledH xs).set k [] = s2 ∧ True from ⟨hs2.symm, trivial⟩)
        have HOK := Lib.hid (show Okay s2 from by rw [hs2]; exact (Okay.led xs).set k (.inl rfl))
        have HLEN := Lib.hid (show s2.length = 8 ∧ True from ⟨by rw [hs2, List.length_set, led_length], trivial⟩)
        obtain ⟨rs, hrs⟩ : ∃ rs, rs = bytesH s2 := ⟨_, rfl⟩
        obtain ⟨k3, hk3⟩ : ∃ k, k = rs.length := ⟨_, rfl⟩
        have HRS := Lib.hid (show bytesH s2 = rs ∧ True from ⟨hrs.symm, trivial⟩)
        have HKL := Lib.hid (show rs.length = k3 ∧ True from ⟨hk3.symm, trivial⟩)
        obtain ⟨R, hR⟩ : ∃ R, R = str rs := ⟨_, rfl⟩
        have HR := Lib.hid (show str rs = R ∧ True from ⟨hR.symm, trivial⟩)
        clear hs2 hrs hk3 hR
        go_wp2_with fail
        refine wp_region_K (fun u v => Below u.heap.size u v) [2, 7] [(0, true), (1, true), (2, false), (3, true), (4, true), (5, true), (6, true), (7, false), (8, true), (9, true), (10, true), (11, true), (14, true), (12, false), (13, true), (15, false), (16, true), (17, true), (18, true)] (fun a => Below.refl _ a) (fun _ _ _ h1 h2 => h1.trans (h2.mono h1.size)) (by kernel_rfl) (by kernel_rfl) ?_
        rintro w5 rfl
        have HB := Lib.hid HB.out.drew
        have HH := Lib.hid HH.out.drew
        have HGH := Lib.hid HGH.out.drew
        repeat ((first | refine walkK_one rfl rfl (fun K hK => ?_) | refine walkK_alone Below.refl rfl rfl (fun K hK => ?_)); go_big_quiet_step (fail); refine wpQuiet_nil (hK _ ?_); clear hK K)
        refine walkK_free rfl (by rfl) (fun K hK => ?_)
        go_simp
        refine (clear_any hp q p ss1 (k : Int) _ HH.out).mono ?_
        rintro e w6 ⟨rfl, ⟨ss2, hh, hro⟩, hwr⟩
        rw [HRO.out.1, clearH_fit hk8, layH_clear hk8, HS2.out.1] at hro
        rw [clearE_fit hk8]
        have HRO := Lib.hid (show rowOf ss2 = s2 ∧ True from ⟨hro, trivial⟩)
        have HGH := Lib.hid (HGH.out.keep HH.out hwr hne)
        have HH := Lib.hid hh
        have HB := Lib.hid (hwr.below HB.out hle' HB.out.size)
        go_simp
        refine hK _ _ (fun h => by cases h) ?_
        clear hK K hh hro hwr
        repeat ((first | refine walkK_one rfl rfl (fun K hK => ?_) | refine walkK_alone Below.refl rfl rfl (fun K hK => ?_)); go_big_quiet_step (fail); refine wpQuiet_nil (hK _ ?_); clear hK K)
        refine walkK_free rfl (by rfl) (fun K hK => ?_)
        go_simp
        refine (clear_any gp q2 p2 gs (k : Int) _ HGH.out).mono ?_
        rintro e w7 ⟨rfl, ⟨gs2, hh, hro⟩, hwr⟩
        rw [HGO.out.1, clearH_fit hk8, HS2.out.1] at hro
        rw [clearE_fit hk8]
        have HGO := Lib.hid (show rowOf gs2 = s2 ∧ True from ⟨hro, trivial⟩)
        have HH := Lib.hid (HH.out.keep HGH.out hwr hne.symm)
        have HGH := Lib.hid hh
        have HB := Lib.hid (hwr.below HB.out hge' HB.out.size)
        go_simp
        refine hK _ _ (fun h => by cases h) ?_
        clear hK K hh hro hwr
        repeat ((first | refine walkK_one rfl rfl (fun K hK => ?_) | refine walkK_alone Below.refl rfl rfl (fun K hK => ?_)); go_big_quiet_step (fail); refine wpQuiet_nil (hK _ ?_); clear hK K)
        refine walkK_free rfl (by rfl) (fun K hK => ?_)
        go_simp
        refine (hbytes_ok hp q p ss2 _ HH.out (by rw [HRO.out.1]; exact HOK.out)).mono ?_
        rintro e w8 ⟨v8, rfl, hown8, hbel⟩
        rw [HRO.out.1, HRS.out.1, HKL.out.1] at hown8
        obtain ⟨a8, c8, rfl, _, _, hl8⟩ := own_form hown8
        have hsC := fun (y : AfterK (fun u v => Below u.heap.size u v) w8) => string_ok y.val a8 k3 c8 rs HKL.out.1 (hl8.below y.rel)
        rw [HR.out.1] at hsC
        have HH := Lib.hid (HH.out.later hbel)
        have HGH := Lib.hid (HGH.out.later hbel)
        have HB := Lib.hid (HB.out.trans (hbel.mono HB.out.size))
        clear hown8 hl8
        simp only [id]
        go_simp
        refine hK _ _ (fun _ => hbel) ?_
        clear hK K hbel
        repeat ((first | refine walkK_one rfl rfl (fun K hK => ?_) | refine walkK_alone Below.refl rfl rfl (fun K hK => ?_)); go_big_quiet_step (fail); refine wpQuiet_nil (hK _ ?_); clear hK K)
        clear hsC
        refine walkK_free rfl (by rfl) (fun K hK => ?_)
        go_simp
        refine (hbytes_ok gp q2 p2 gs2 _ HGH.out (by rw [HGO.out.1]; exact HOK.out)).mono ?_
        rintro e w9 ⟨v9, rfl, hown9, hbel⟩
        rw [HGO.out.1, HRS.out.1, HKL.out.1] at hown9
        obtain ⟨a9, c9, rfl, _, _, hl9⟩ := own_form hown9
        have hsC := fun (y : AfterK (fun u v => Below u.heap.size u v) w9) => string_ok y.val a9 k3 c9 rs HKL.out.1 (hl9.below y.rel)
        rw [HR.out.1] at hsC
        have HH := Lib.hid (HH.out.later hbel)
        have HB := Lib.hid (HB.out.trans (hbel.mono HB.out.size))
        clear hown9 hl9 HGH
        simp only [id]
        go_simp
        refine hK _ _ (fun _ => hbel) ?_
        clear hK K hbel
        repeat ((first | refine walkK_one rfl rfl (fun K hK => ?_) | refine walkK_alone Below.refl rfl rfl (fun K hK => ?_)); go_big_quiet_step (fail); refine wpQuiet_nil (hK _ ?_); clear hK K)
        clear hsC
        refine walkK_nil ?_
        go_wp2
        go_loopw [10] (fun c wr => ∃ (i : Nat) (ss : List Str), i ≤ 8 ∧ c = .int .i64 i ∧ Hid (rowOf ss = clearTo s2 i ∧ True) ∧ Hid (Head wr hp q p ss) ∧ Hid (Below w.heap.size w wr)) (fun c _ => 8 - (intOf c).toNat)
        case atStart => exact ⟨0, _, by omega, rfl, HRO, HH, HB⟩
        case round =>
          clear HH HB HRO
          obtain ⟨i, ss, hi, rfl, HRO, HH, HB⟩ := hrel
          by_cases hlt : i < 8
          · go_wp2_with fail
            refine (clear_any hp q p ss (i : Int) _ HH.out).mono ?_
            rintro e w10 ⟨rfl, ⟨ss', hh, hro⟩, hwr⟩
            rw [HRO.out.1, clearH_fit (by omega)] at hro
            have HH := Lib.hid hh
            have HRO := Lib.hid (show rowOf ss' = clearTo s2 (i + 1) ∧ True from ⟨hro, trivial⟩)
            have HB := Lib.hid (hwr.below HB.out hle' HB.out.size)
            clear hh hro hwr
            go_wp2
            go_roundw
            case rel => exact ⟨i + 1, ss', by omega, by go_num, HRO, HH, HB⟩
            case measure => simp [intOf]; omega
          · obtain rfl : i = 8 := by omega
            have HRO := Lib.hid (show rowOf ss = emptyH ∧ True from ⟨by rw [HRO.out.1, clearTo_all HLEN.out.1], trivial⟩)
            clear hlt hi
            by_cases hri : 0 < m ∧ m ≤ 128
            · have dr : decide (0 < m ∧ m ≤ 128) = true := by simp; omega
              go_wp2_with fail
              refine (find_t hp q p ss bo m cb bs [] 0 17 _ HH.out (HBG.out.below HB.out) (by rw [HRO.out.1]; exact Okay.empty) HM.out (by omega) hd (HK.out.below HB.out) (by rw [HRO.out.1]; exact findT_empty (by rw [HM.out]; exact hri))).mono ?_
              rintro e w11 ⟨⟨a6, rfl, hl6⟩, hbel⟩
              have HH := Lib.hid (HH.out.later hbel)
              have HB := Lib.hid (HB.out.trans (hbel.mono HB.out.size))
              clear hl6 hbel
              go_wp2_with fail
              refine (right15_ok bo m cb _).mono ?_
              rintro e w12 ⟨rfl, rfl⟩
              rw [dr]
              go_wp2_with fail
              refine (hused_ok hp q p ss _ HH.out).mono ?_
              rintro e w13 ⟨v13, rfl, hown13, hbel⟩
              rw [HRO.out.1, usedH_empty] at hown13
              obtain ⟨a13, c13, rfl, _, _, _⟩ := own_form hown13
              have HH := Lib.hid (HH.out.later hbel)
              have HB := Lib.hid (HB.out.trans (hbel.mono HB.out.size))
              clear hown13 hbel
              go_wp2_with fail
              refine (hbytes_ok hp q p ss _ HH.out (by rw [HRO.out.1]; exact Okay.empty)).mono ?_
              rintro e w14 ⟨v14, rfl, hown14, hbel⟩
              rw [HRO.out.1, bytesH_empty] at hown14
              obtain ⟨a14, c14, rfl, _, _, _⟩ := own_form hown14
              have HB := Lib.hid (HB.out.trans (hbel.mono HB.out.size))
              clear hown14 hbel
              go_wp2_with fail
              refine (awake_ok _ (HG.out.below HB.out) (HBG.out.below HB.out)).mono ?_
              rintro e w15 ⟨rfl, hbel⟩
              have HB := Lib.hid (HB.out.trans (hbel.mono HB.out.size))
              clear hbel
              go_wp2
              go_ret
              exact ⟨rfl, HB.out⟩
            · have dr : decide (0 < m ∧ m ≤ 128) = false := by simp; omega
              go_wp2_with fail
              refine (find_t hp q p ss bo m cb bs [] 0 2 _ HH.out (HBG.out.below HB.out) (by rw [HRO.out.1]; exact Okay.empty) HM.out (by omega) hd (HK.out.below HB.out) (by rw [HRO.out.1]; exact findT_empty_bad (by rw [HM.out]; exact hri))).mono ?_
              rintro e w11 ⟨⟨a6, rfl, hl6⟩, hbel⟩
              have HB := Lib.hid (HB.out.trans (hbel.mono HB.out.size))
              clear hl6 hbel
              go_wp2_with fail
              refine (right15_ok bo m cb _).mono ?_
              rintro e w12 ⟨rfl, rfl⟩
              rw [dr]
              go_wp2_with fail
              refine (awake_ok _ (HG.out.below HB.out) (HBG.out.below HB.out)).mono ?_
              rintro e w15 ⟨rfl, hbel⟩
              have HB := Lib.hid (HB.out.trans (hbel.mono HB.out.size))
              clear hbel
              go_wp2
              go_ret
              exact ⟨rfl, HB.out⟩
  · have HLA := Lib.hid (show lightA xs = false ∧ True from ⟨by simpa using hla, trivial⟩)
    clear hla
    go_enter Tryz.func7, Tryz.ntmps7
    go_wp2
    go_quiet (fail)
    go_wp2_with fail
    refine (light_ok ao n cap xs _ HN.out hnb (HX.out.below (below_drewN ((Below.refl _ _).alloc (Nat.le_refl _) _) _))).mono ?_
    rintro e w1 ⟨rfl, hw1⟩
    have HB := Lib.hid (show Below w.heap.size w w1 from hw1 ▸ below_drewN ((Below.refl _ _).alloc (Nat.le_refl _) _) _)
    clear hw1
    rw [HLA.out.1]
    go_wp2
    go_ret
    exact ⟨rfl, HB.out⟩

end Go.Proofs.YtnkaodjfjllkfaaGreatDoor
/-
  The walk of SlotsOthers.
-/
set_option linter.unusedSimpArgs false
set_option linter.unusedVariables false
namespace Go.Proofs.YtnkaodjfjllkfaaGreatDoor
open Go.RowKit Go.Mem Go.Ops Go.Cells Go.Oct Go.Gf Go.Trn Go.Aes Go.Ring Go.Ezk Go.Ezh Go.Ezt Go.Aez Go.Blake Go.CutP Go.Fl Go.Slot Go.Open
set_option maxRecDepth 100000
attribute [local irreducible] walkR walkP walk0 walkB walkK

set_option maxHeartbeats 8000000 in
theorem others_law (ao : Option Addr) (n cap : Nat) (xs : List Acte) (nn : Nat) (bo : Option Addr) (m cb : Nat) (bs : List UInt8) (co : Option Addr) (l cc : Nat) (cs : List UInt8) (w : World) (hn : xs.length = n) (hc : n ≤ cap) (hcm : cap ≤ maxLen) (hx : ActsIn w ao xs) (hnn : nn ≤ 255) (hm : bs.length = m) (hd : m ≤ cb) (hdm : cb ≤ maxLen) (hk : Lies w bo (bs.map B))
    (hl : cs.length = l) (he : l ≤ cc) (hem : cc ≤ maxLen) (hj : Lies w co (cs.map B)) (hg : Globals w) (hbg : BGlob w) :
    Calls Tryz.prog 5 #[.agg #[.slice ao n cap, .int .u8 nn, .slice bo m cb, .slice co l cc]] w fun e w' => e = .returned (.bool true) ∧ Below w.heap.size w w' := by
  have HN := Lib.hid hn
  have HM := Lib.hid hm
  have HL := Lib.hid hl
  have HX := Lib.hid hx
  have HK := Lib.hid hk
  have HJ := Lib.hid hj
  have HG := Lib.hid hg
  have HBG := Lib.hid hbg
  have hnb : n ≤ 9223372036854775807 := by unfold maxLen at hcm; omega
  clear hn hm hx hk hg hbg hcm hdm hl hem hj
  by_cases hla : lightA xs = true
  · have HLA := Lib.hid (show lightA xs = true ∧ True from ⟨hla, trivial⟩)
    obtain ⟨hn12, hsz⟩ := lightA_spec hla
    rw [HN.out] at hn12
    have HSZ := Lib.hid hsz
    clear hla hsz
    by_cases hr : 140 < m
    · have d0 : decide ((m : Int) > 140) = true := by simp; omega
      go_enter Tryz.func5, Tryz.ntmps5
      go_wp2
      go_quiet (fail)
      go_wp2_with fail
      refine (light_ok ao n cap xs _ HN.out hnb (HX.out.below (below_drewN ((Below.refl _ _).alloc (Nat.le_refl _) _) _))).mono ?_
      rintro e w1 ⟨rfl, hw1⟩
      have HB := Lib.hid (show Below w.heap.size w w1 from hw1 ▸ below_drewN ((Below.refl _ _).alloc (Nat.le_refl _) _) _)
      clear hw1
      rw [HLA.out.1]
      go_wp2
      go_ret
      exact ⟨rfl, HB.out⟩
    · have d0 : decide ((m : Int) > 140) = false := by simp; omega
      by_cases hs : 80 < l
      · have d1 : decide ((l : Int) > 80) = true := by simp; omega
        go_enter Tryz.func5, Tryz.ntmps5
        go_wp2
        go_quiet (fail)
        go_wp2_with fail
        refine (light_ok ao n cap xs _ HN.out hnb (HX.out.below (below_drewN ((Below.refl _ _).alloc (Nat.le_refl _) _) _))).mono ?_
        rintro e w1 ⟨rfl, hw1⟩
        have HB := Lib.hid (show Below w.heap.size w w1 from hw1 ▸ below_drewN ((Below.refl _ _).alloc (Nat.le_refl _) _) _)
        clear hw1
        rw [HLA.out.1]
        go_wp2
        go_ret
        exact ⟨rfl, HB.out⟩
      · have d1 : decide ((l : Int) > 80) = false := by simp; omega
        obtain ⟨k, hk⟩ : ∃ k, k = nn % 8 := ⟨_, rfl⟩
        have hk8 : k < 8 := by omega
        have ek : (nn : Int).tmod 8 = k := by rw [Int.tmod_eq_emod_of_nonneg (by omega), hk]; simp
        clear hk
        go_enter Tryz.func5, Tryz.ntmps5
        go_wp2
        go_quiet (fail)
        go_wp2_with fail
        refine (light_ok ao n cap xs _ HN.out hnb (HX.out.below (below_drewN ((Below.refl _ _).alloc (Nat.le_refl _) _) _))).mono ?_
        rintro e w1 ⟨rfl, hw1⟩
        have HB := Lib.hid (show Below w.heap.size w w1 from hw1 ▸ below_drewN ((Below.refl _ _).alloc (Nat.le_refl _) _) _)
        clear hw1
        rw [HLA.out.1]
        go_wp2
        go_loopw [8] (fun c wr => ∃ (i : Nat), i ≤ 8 ∧ c = .int .i64 i ∧ Hid (Below w.heap.size w wr)) (fun c _ => 8 - (intOf c).toNat)
        case atStart => exact ⟨0, by omega, rfl, HB⟩
        case round =>
          clear HB
          obtain ⟨i, hi, rfl, HB⟩ := hrel
          by_cases hlt : i < 8
          · go_wp2_with fail
            refine (led_ok ao n cap xs _ HN.out (by omega) (HX.out.below HB.out) HSZ.out (HG.out.below HB.out) (HBG.out.below HB.out)).mono ?_
            rintro e w2 ⟨hp, q, p, ss, rfl, hh, hro, hle, hbel⟩
            have HH := Lib.hid hh
            have hlt2 : hp < w2.heap.size := hh.blk.lt
            have hle' : w.heap.size ≤ hp := Nat.le_trans HB.out.size hle
            have HB := Lib.hid (HB.out.trans (hbel.mono HB.out.size))
            have HRO := Lib.hid (show rowOf ss = ledH xs ∧ True from ⟨hro, trivial⟩)
            clear hh hro hle hbel
            go_wp2_with fail
            refine (led_ok ao n cap xs _ HN.out (by omega) (HX.out.below HB.out) HSZ.out (HG.out.below HB.out) (HBG.out.below HB.out)).mono ?_
            rintro e w3 ⟨gp, q2, p2, gs, rfl, hh, hro, hle, hbel⟩
            have HGH := Lib.hid hh
            have HH := Lib.hid (HH.out.later hbel)
            have hge' : w.heap.size ≤ gp := Nat.le_trans HB.out.size hle
            have hne : gp ≠ hp := by omega
            have HB := Lib.hid (HB.out.trans (hbel.mono HB.out.size))
            have HGO := Lib.hid (show rowOf gs = ledH xs ∧ True from ⟨hro, trivial⟩)
            clear hh hro hle hbel hlt2
            go_wp2_with fail
            refine (lay_any hp q p ss (k : Int) bo m cb bs co l cc cs _ HH.out (HBG.out.below HB.out) HM.out (by omega) hd (HK.out.below HB.out) HL.out (by omega) he (HJ.out.below HB.out)).mono ?_
            rintro e w4 ⟨rfl, ⟨ss1, hh, hro⟩, hwr⟩
            rw [HRO.out.1] at hro
            have HRO := Lib.hid (show rowOf ss1 = layH (ledH xs) (k : Int) bs cs ∧ True from ⟨hro, trivial⟩)
            have HGH := Lib.hid (HGH.out.keep HH.out hwr hne)
            have HH := Lib.hid hh
            have HB := Lib.hid (hwr.below HB.out hle' HB.out.size)
            clear hh hro hwr
            go_wp2
            go_loopw [11] (fun c wr => ∃ (j : Nat) (ss gs : List Str), j ≤ 8 ∧ c = .int .i64 j ∧ Hid (rowOf ss = clearBut (layH (ledH xs) (k : Int) bs cs) i j ∧ True) ∧ Hid (rowOf gs = clearBut (ledH xs) i j ∧ True) ∧ Hid (Head wr hp q p ss) ∧ Hid (Head wr gp q2 p2 gs) ∧ Hid (Below w.heap.size w wr)) (fun c _ => 8 - (intOf c).toNat)
            case atStart => exact ⟨0, _, _, by omega, rfl, HRO, HGO, HH, HGH, HB⟩
            case round =>
              clear HH HB HRO HGO HGH
              obtain ⟨j, ss, gs, hj, rfl, HRO, HGO, HH, HGH, HB⟩ := hrel
              by_cases hlj : j < 8
              · by_cases hji : j = i
                · have d5 : ((j : Int) == (i : Int)) = true := by simp; omega
                  have d6 : ((j : Int) != (i : Int)) = false := by simp; omega
                  go_wp2
                  go_roundw
                  case rel => exact ⟨j + 1, ss, gs, by omega, by go_num, ⟨by rw [HRO.out.1, clearBut, if_pos hji], trivial⟩, ⟨by rw [HGO.out.1, clearBut, if_pos hji], trivial⟩, HH, HGH, HB⟩
                  case measure => simp [intOf]; omega
                · have d5 : ((j : Int) == (i : Int)) = false := by simp; omega
                  have d6 : ((j : Int) != (i : Int)) = true := by simp; omega
                  go_wp2_with fail
                  refine (clear_any hp q p ss (j : Int) _ HH.out).mono ?_
                  rintro e w6 ⟨rfl, ⟨ss2, hh, hro⟩, hwr⟩
                  rw [HRO.out.1, clearH_fit hlj] at hro
                  have HRO := Lib.hid (show rowOf ss2 = clearBut (layH (ledH xs) (k : Int) bs cs) i (j + 1) ∧ True from ⟨by rw [hro, clearBut, if_neg hji], trivial⟩)
                  have HGH := Lib.hid (HGH.out.keep HH.out hwr hne)
                  have HH := Lib.hid hh
                  have HB := Lib.hid (hwr.below HB.out hle' HB.out.size)
                  clear hh hro hwr
                  go_wp2_with fail
                  refine (clear_any gp q2 p2 gs (j : Int) _ HGH.out).mono ?_
                  rintro e w7 ⟨rfl, ⟨gs2, hh, hro⟩, hwr⟩
                  rw [HGO.out.1, clearH_fit hlj] at hro
                  have HGO := Lib.hid (show rowOf gs2 = clearBut (ledH xs) i (j + 1) ∧ True from ⟨by rw [hro, clearBut, if_neg hji], trivial⟩)
                  have HH := Lib.hid (HH.out.keep HGH.out hwr hne.symm)
                  have HGH := Lib.hid hh
                  have HB := Lib.hid (hwr.below HB.out hge' HB.out.size)
                  clear hh hro hwr
                  go_wp2
                  go_roundw
                  case rel => exact ⟨j + 1, ss2, gs2, by omega, by go_num, HRO, HGO, HH, HGH, HB⟩
                  case measure => simp [intOf]; omega
              · obtain rfl : j = 8 := by omega
                clear hlj hj
                by_cases hik : i = k
                · have d5 : ((i : Int) != (k : Int)) = false := by simp; omega
                  have d6 : ((i : Int) == (k : Int)) = true := by simp; omega
                  go_wp2_with fail
                  refine wp_region_R [0, 1, 2, 3, 4, 5, 6, 7, 10, 8, 9, 11, 12, 13, 14, 15] (by kernel_rfl) (by kernel_rfl) ?_
                  rintro w8 rfl
                  have HB := Lib.hid HB.out.drew
                  repeat (refine walkR_one rfl rfl (fun K hK => ?_); go_big_quiet_step (fail); refine wpQuiet_nil (hK _ ?_); clear hK K)
                  refine walkR_no rfl (by rfl) (fun K hK => ?_)
                  go_simp
                  refine hK _ ?_
                  clear hK K
                  repeat (refine walkR_one rfl rfl (fun K hK => ?_); go_big_quiet_step (fail); refine wpQuiet_nil (hK _ ?_); clear hK K)
                  refine walkR_no rfl (by rfl) (fun K hK => ?_)
                  go_simp
                  refine hK _ ?_
                  clear hK K
                  repeat (refine walkR_one rfl rfl (fun K hK => ?_); go_big_quiet_step (fail); refine wpQuiet_nil (hK _ ?_); clear hK K)
                  refine walkR_nil ?_
                  go_wp2
                  go_roundw
                  case rel => exact ⟨i + 1, by omega, by go_num, HB⟩
                  case measure => simp [intOf]; omega
                · have d5 : ((i : Int) != (k : Int)) = true := by simp; omega
                  have d6 : ((i : Int) == (k : Int)) = false := by simp; omega
                  obtain ⟨s2, hs2⟩ : ∃ s, s = clearBut (ledH xs) i 8 := ⟨_, rfl⟩
                  have HGO := Lib.hid (show rowOf gs = s2 ∧ True from ⟨by rw [HGO.out.1, hs2], trivial⟩)
                  have HRO := Lib.hid (show rowOf ss = s2 ∧ True from ⟨by rw [HRO.out.1, hs2]; exact clearBut_same (i := 0) (by rw [layH_length, led_length]) (led_length xs) (layH_get hik), trivial⟩)
                  have HOK := Lib.hid (show Okay s2 from by rw [hs2]; exact (Okay.led xs).clearBut i 8)
                  obtain ⟨rs, hrs⟩ : ∃ rs, rs = bytesH s2 := ⟨_, rfl⟩
                  obtain ⟨k3, hk3⟩ : ∃ k, k = rs.length := ⟨_, rfl⟩
                  have HRS := Lib.hid (show bytesH s2 = rs ∧ True from ⟨hrs.symm, trivial⟩)
                  have HKL := Lib.hid (show rs.length = k3 ∧ True from ⟨hk3.symm, trivial⟩)
                  obtain ⟨R, hR⟩ : ∃ R, R = str rs := ⟨_, rfl⟩
                  have HR := Lib.hid (show str rs = R ∧ True from ⟨hR.symm, trivial⟩)
                  clear hs2 hrs hk3 hR
                  go_wp2_with fail
                  refine wp_region_R [0, 1, 2, 3, 4, 5, 6, 7, 10, 8, 9, 11, 12, 13, 14, 15] (by kernel_rfl) (by kernel_rfl) ?_
                  rintro w8 rfl
                  have HB := Lib.hid HB.out.drew
                  have HH := Lib.hid HH.out.drew
                  have HGH := Lib.hid HGH.out.drew
                  repeat (refine walkR_one rfl rfl (fun K hK => ?_); go_big_quiet_step (fail); refine wpQuiet_nil (hK _ ?_); clear hK K)
                  refine walkR_call rfl rfl (by rfl) (fun K hK => ?_)
                  go_simp
                  refine (hbytes_ok hp q p ss _ HH.out (by rw [HRO.out.1]; exact HOK.out)).mono ?_
                  rintro e w9 ⟨v9, rfl, hown9, hbel⟩
                  rw [HRO.out.1, HRS.out.1, HKL.out.1] at hown9
                  obtain ⟨a9, c9, rfl, _, _, hl9⟩ := own_form hown9
                  have hsC := fun (y : After w9) => string_ok y.val a9 k3 c9 rs HKL.out.1 (hl9.below y.later)
                  rw [HR.out.1] at hsC
                  have HGH := Lib.hid (HGH.out.later hbel)
                  have HB := Lib.hid (HB.out.trans (hbel.mono HB.out.size))
                  clear hown9 hl9
                  simp only [id]
                  go_simp
                  refine hK _ _ hbel ?_
                  clear hK K hbel
                  repeat (refine walkR_one rfl rfl (fun K hK => ?_); go_big_quiet_step (fail); refine wpQuiet_nil (hK _ ?_); clear hK K)
                  clear hsC
                  refine walkR_call rfl rfl (by rfl) (fun K hK => ?_)
                  go_simp
                  refine (hbytes_ok gp q2 p2 gs _ HGH.out (by rw [HGO.out.1]; exact HOK.out)).mono ?_
                  rintro e w10 ⟨v10, rfl, hown10, hbel⟩
                  rw [HGO.out.1, HRS.out.1, HKL.out.1] at hown10
                  obtain ⟨a10, c10, rfl, _, _, hl10⟩ := own_form hown10
                  have hsC := fun (y : After w10) => string_ok y.val a10 k3 c10 rs HKL.out.1 (hl10.below y.later)
                  rw [HR.out.1] at hsC
                  have HB := Lib.hid (HB.out.trans (hbel.mono HB.out.size))
                  clear hown10 hl10
                  simp only [id]
                  go_simp
                  refine hK _ _ hbel ?_
                  clear hK K hbel
                  repeat (refine walkR_one rfl rfl (fun K hK => ?_); go_big_quiet_step (fail); refine wpQuiet_nil (hK _ ?_); clear hK K)
                  clear hsC
                  refine walkR_nil ?_
                  go_wp2
                  go_roundw
                  case rel => exact ⟨i + 1, by omega, by go_num, HB⟩
                  case measure => simp [intOf]; omega
          · obtain rfl : i = 8 := by omega
            go_wp2_with fail
            refine (awake_ok _ (HG.out.below HB.out) (HBG.out.below HB.out)).mono ?_
            rintro e w15 ⟨rfl, hbel⟩
            have HB := Lib.hid (HB.out.trans (hbel.mono HB.out.size))
            clear hbel
            go_wp2
            go_ret
            exact ⟨rfl, HB.out⟩
  · have HLA := Lib.hid (show lightA xs = false ∧ True from ⟨by simpa using hla, trivial⟩)
    clear hla
    go_enter Tryz.func5, Tryz.ntmps5
    go_wp2
    go_quiet (fail)
    go_wp2_with fail
    refine (light_ok ao n cap xs _ HN.out hnb (HX.out.below (below_drewN ((Below.refl _ _).alloc (Nat.le_refl _) _) _))).mono ?_
    rintro e w1 ⟨rfl, hw1⟩
    have HB := Lib.hid (show Below w.heap.size w w1 from hw1 ▸ below_drewN ((Below.refl _ _).alloc (Nat.le_refl _) _) _)
    clear hw1
    rw [HLA.out.1]
    go_wp2
    go_ret
    exact ⟨rfl, HB.out⟩

end Go.Proofs.YtnkaodjfjllkfaaGreatDoor
