/-
  Texts of this claim, one behind the other.
-/
import Derived.Test.YtjaioajjfiaheaaGreatDoorR1
import Derived.Test.YtjaioajjfiaheaaGreatDoorR31
import Derived.Lib.Hide
set_option linter.unusedVariables false
set_option linter.unusedSimpArgs false
set_option maxHeartbeats 16000000
set_option maxRecDepth 100000
namespace Go.Proofs.YtjaioajjfiaheaaGreatDoor
open Go.RowKit Go.Mem Go.Ops Go.Cells Go.Oct Go.Gf Go.Trn Go.Aes Go.Ring Go.Ezk Go.Ezh Go.Ezt Go.Ezc Go.Aez Go.Blake Go.CutP Go.Fl Go.Adi Go.Hct Go.Wid
attribute [local irreducible] zE zN zO zM yu
def yf (y : List UInt8) (n i : Nat) : Bool := (List.range (i - n)).all fun j => y[n + j]?.getD 0 == 0
theorem Y2 (y : List UInt8) (n : Nat) : yf y n n = true := by simp [yf]
theorem XQ (y : List UInt8) {n i : Nat} (h : n ≤ i) (x : UInt8) (hx : y[i]? = some x) : yf y n (i + 1) = (yf y n i && (x == 0)) := by
  unfold yf
  rw [show i + 1 - n = (i - n) + 1 by omega, List.range_succ, List.all_append]
  simp only [List.all_cons, List.all_nil, Bool.and_true]
  rw [show n + (i - n) = i by omega, hx]
  rfl
theorem J1 {y : List UInt8} {n t : Nat} (h : y.length = n + t) : yf y n (n + t) = decide (y.drop n = zf t) := by
  rw [Bool.eq_iff_iff, decide_eq_true_iff]
  unfold yf
  rw [List.all_eq_true]
  constructor
  · intro ha
    apply List.ext_getElem?
    intro j
    rw [List.getElem?_drop]
    by_cases hj : j < t
    · have h1 := ha j (List.mem_range.2 (by omega))
      have h2 : n + j < y.length := by omega
      rw [List.getElem?_eq_getElem h2] at h1 ⊢
      simp only [Option.getD_some, beq_iff_eq] at h1
      rw [h1]
      simp [zf, hj]
    · rw [List.getElem?_eq_none (by omega), List.getElem?_eq_none (by rw [zd]; omega)]
  · intro he j hj
    have hj := List.mem_range.1 hj
    have h1 : (y.drop n)[j]? = (zf t)[j]? := by rw [he]
    rw [List.getElem?_drop] at h1
    rw [h1]
    simp [zf, show j < t by omega]
theorem zdw (alg : Int) (a1 : Option Addr) (n1 c1 : Nat) (b1 : List UInt8) (a2 : Option Addr) (n2 c2 : Nat) (b2 : List UInt8) (t : Int) (a4 : Option Addr) (N c4 : Nat) (ss : List Str) (a5 : Option Addr) (n5 c5 : Nat) (b5 : List UInt8) (w : World)
    (hb1 : b1.length = n1) (hc1 : n1 ≤ c1) (hl1 : zr w a1 (b1.map B)) (hb2 : b2.length = n2) (hc2 : n2 ≤ c2) (hl2 : zr w a2 (b2.map B)) (hN : ss.length = N) (hNm : N ≤ maxLen) (hs : xY w a4 ss) (hb5 : b5.length = n5) (hc5 : n5 ≤ c5) (hm5 : c5 ≤ maxLen) (hl5 : zr w a5 (b5.map B)) (hg : Globals w) (hbg : qD w) :
    Calls Tryz.prog 7 #[.agg (znt alg a1 n1 c1 a2 n2 c2 t a4 N c4 a5 n5 c5).toArray] w fun e w' => e = .returned (.bool true) ∧ Below w.heap.size w w' := by
  have HS := znq (St.start w)
  have HNN := znq hN
  have HSS := znq hs
  have HSL := znq hs.lies
  have HNM := znq hNm
  clear hN hs hNm
  by_cases hr : zn0 alg n1 n2 N n5 ss = true
  rotate_left
  · have HR := znq (show zn0 alg n1 n2 N n5 ss = false ∧ True from ⟨by simpa using hr, trivial⟩)
    clear hr
    go_enter Tryz.func7, Tryz.ntmps7
    go_wp2_with (refine zh 25 _ (znt alg a1 n1 c1 a2 n2 c2 t a4 N c4 a5 n5 c5) _ rfl rfl rfl rfl ?_)
    intro w1 hb hbel; have HS := znq (HS.znr.push hb hbel); clear hb hbel
    go_wp2_with (refine (HS.znr.get 0 rfl).wload rfl rfl rfl yb rfl ?_)
    refine (znu alg a1 n1 c1 a2 n2 c2 t a4 N c4 a5 n5 c5 ss _ HNN.znr HNM.znr (HSL.znr.below HS.znr.bel)).mono ?_
    rintro e w2 ⟨rfl, hbel⟩
    rw [HR.znr.1]
    have HS := znq (HS.znr.later hbel)
    clear hbel
    go_wp2
    go_ret
    exact ⟨rfl, HS.znr.bel⟩
  have HR := znq (show zn0 alg n1 n2 N n5 ss = true ∧ True from ⟨hr, trivial⟩)
  obtain ⟨_, hn1, hw, hn2, hn6, hn5⟩ := of_decide_eq_true hr
  clear hr
  by_cases ht : 0 ≤ t ∧ t ≤ 16
  rotate_left
  · have HT := znq (show decide (0 ≤ t ∧ t ≤ 16) = false ∧ True from ⟨decide_eq_false ht, trivial⟩)
    clear ht hw
    go_enter Tryz.func7, Tryz.ntmps7
    go_wp2_with (refine zh 25 _ (znt alg a1 n1 c1 a2 n2 c2 t a4 N c4 a5 n5 c5) _ rfl rfl rfl rfl ?_)
    intro w1 hb hbel; have HS := znq (HS.znr.push hb hbel); clear hb hbel
    go_wp2_with (refine (HS.znr.get 0 rfl).wload rfl rfl rfl yb rfl ?_)
    refine (znu alg a1 n1 c1 a2 n2 c2 t a4 N c4 a5 n5 c5 ss _ HNN.znr HNM.znr (HSL.znr.below HS.znr.bel)).mono ?_
    rintro e w2 ⟨rfl, hbel⟩
    rw [HR.znr.1]
    have HS := znq (HS.znr.later hbel)
    clear hbel
    have hx3 := (HS.znr.get 0 rfl).cell 3 _ rfl
    go_wp2_with fail
    refine (znx t _).mono ?_
    rintro e w3 ⟨rfl, rfl⟩
    rw [HT.znr.1]
    go_wp2
    go_ret
    exact ⟨rfl, HS.znr.bel⟩
  have HT := znq (show decide (0 ≤ t ∧ t ≤ 16) = true ∧ True from ⟨decide_eq_true ht, trivial⟩)
  obtain ⟨tn, rfl⟩ : ∃ tn : Nat, t = (tn : Int) := ⟨t.toNat, by omega⟩
  have htn : tn ≤ 16 := by omega
  clear ht
  by_cases h3s : n5 ≤ tn ∧ alg = 3
  · have d1 : decide (n5 ≤ tn) = true := by simp; omega
    have d2 : (alg == 3) = true := by simp; omega
    clear hw h3s
    go_enter Tryz.func7, Tryz.ntmps7
    go_wp2_with (refine zh 25 _ (znt alg a1 n1 c1 a2 n2 c2 tn a4 N c4 a5 n5 c5) _ rfl rfl rfl rfl ?_)
    intro w1 hb hbel; have HS := znq (HS.znr.push hb hbel); clear hb hbel
    go_wp2_with (refine (HS.znr.get 0 rfl).wload rfl rfl rfl yb rfl ?_)
    refine (znu alg a1 n1 c1 a2 n2 c2 tn a4 N c4 a5 n5 c5 ss _ HNN.znr HNM.znr (HSL.znr.below HS.znr.bel)).mono ?_
    rintro e w2 ⟨rfl, hbel⟩
    rw [HR.znr.1]
    have HS := znq (HS.znr.later hbel)
    clear hbel
    have hx0 := (HS.znr.get 0 rfl).cell 0 _ rfl
    have hx3 := (HS.znr.get 0 rfl).cell 3 _ rfl
    have hx5 := (HS.znr.get 0 rfl).cell 5 _ rfl
    go_wp2_with fail
    refine (znx tn _).mono ?_
    rintro e w3 ⟨rfl, rfl⟩
    rw [HT.znr.1]
    go_wp2
    go_ret
    exact ⟨rfl, HS.znr.bel⟩
  have HW := znq hw
  have HB1 := znq hb1
  have HL1 := znq hl1
  have HB2 := znq hb2
  have HL2 := znq hl2
  have HB5 := znq hb5
  have HL5 := znq hl5
  have HG := znq hg
  have HBG := znq hbg
  obtain ⟨k, hk⟩ : ∃ k, k = jy alg b1 := ⟨_, rfl⟩
  have HKA := znq (show (k.alg : Int) = alg ∧ k.least = wg alg from ⟨by rw [hk]; exact zdt (by rw [hb1]; exact hw), by rw [hk]; exact jz (by rw [hb1]; exact hw)⟩)
  have HK := znq (show jy alg b1 = k ∧ k.Fit from ⟨hk.symm, by rw [hk]; exact we _ _⟩)
  clear hb1 hl1 hb2 hl2 hl5 hg hbg hk hw
  by_cases hsh : alg ≠ 3 ∧ n5 < 16
  · have hd : (decide (n5 ≤ tn) = true ∧ (alg == 3) = false) ∨ decide (n5 ≤ tn) = false := by
      by_cases h : n5 ≤ tn
      · exact .inl ⟨by simp; omega, by simp; omega⟩
      · exact .inr (by simp; omega)
    have d3 : (alg == 3) = false := by simp; omega
    have d4 : (alg != 3) = true := by simp; omega
    have d5 : decide ((n5 : Int) < 16) = true := by simp; omega
    have HLE := znq (show n5 < k.least from by rw [HKA.znr.2]; unfold wg; split <;> omega)
    have HO := znq (show zoa k tn b2 (rowOf ss) b5 = none from q8 (by intro h; have := HKA.znr.1; omega) _ _ (by rw [hb5]; exact HLE.znr))
    clear hsh h3s hb5
    rcases hd with ⟨d1, _⟩ | d1
    all_goals (
      go_enter Tryz.func7, Tryz.ntmps7
      go_wp2_with (refine zh 25 _ (znt alg a1 n1 c1 a2 n2 c2 tn a4 N c4 a5 n5 c5) _ rfl rfl rfl rfl ?_)
      intro w1 hb hbel; have HS := znq (HS.znr.push hb hbel); clear hb hbel
      go_wp2_with (refine (HS.znr.get 0 rfl).wload rfl rfl rfl yb rfl ?_)
      refine (znu alg a1 n1 c1 a2 n2 c2 tn a4 N c4 a5 n5 c5 ss _ HNN.znr HNM.znr (HSL.znr.below HS.znr.bel)).mono ?_
      rintro e w2 ⟨rfl, hbel⟩
      rw [HR.znr.1]
      have HS := znq (HS.znr.later hbel)
      clear hbel
      have hx0 := (HS.znr.get 0 rfl).cell 0 _ rfl
      have hx3 := (HS.znr.get 0 rfl).cell 3 _ rfl
      have hx5 := (HS.znr.get 0 rfl).cell 5 _ rfl
      go_wp2_with fail
      refine (znx tn _).mono ?_
      rintro e w3 ⟨rfl, rfl⟩
      rw [HT.znr.1]
      go_wp2_with (refine (HS.znr.get 0 rfl).wload rfl rfl rfl yb rfl ?_)
      refine (zn4 alg a1 n1 c1 b1 a2 n2 c2 tn a4 N c4 a5 n5 c5 _ HB1.znr HW.znr hc1 (HL1.znr.below HS.znr.bel) (HG.znr.below HS.znr.bel) (HBG.znr.below HS.znr.bel)).mono ?_
      rintro e w3 ⟨cp, rfl, hst, hbel⟩
      rw [HK.znr.1] at hst
      have HS := znq (HS.znr.later hbel)
      have HC := znq (zpy (c4 := c4) HR.znr.1 htn hst.self HB2.znr hc2 (HL2.znr.below HS.znr.bel) HNN.znr (HSS.znr.below HS.znr.bel))
      clear hst hbel hx0 hx3 hx5
      have hx5 := (HS.znr.get 0 rfl).cell 5 _ rfl
      go_wp2_with (refine (HS.znr.get 0 rfl).wload rfl rfl rfl yb rfl ?_)
      refine (zon alg a1 n1 c1 a5 n5 c5 a5 n5 c5 b5 _ HC.znr HB5.znr (by omega) hc5 (HL5.znr.below HS.znr.bel)).mono ?_
      rintro e w4 ⟨ho, hbel⟩
      rw [HO.znr] at ho
      obtain rfl : e = .returned (.tuple #[.slice none 0 0, .int .i64 9]) := ho
      have HC := znq (HC.znr.later hbel)
      have HS := znq (HS.znr.later hbel)
      clear hbel hx5
      have hx0 := (HS.znr.get 0 rfl).cell 0 _ rfl
      have hx2 := (HS.znr.get 0 rfl).cell 2 _ rfl
      have hx3 := (HS.znr.get 0 rfl).cell 3 _ rfl
      have hx4 := (HS.znr.get 0 rfl).cell 4 _ rfl
      go_wp2_with fail
      refine (zp1 tn a2 n2 c2 b2 a4 N c4 ss _ htn HC.znr.nlen HC.znr.nmost HC.znr.ncap HC.znr.nlies HC.znr.alen HC.znr.amost HC.znr.strs HC.znr.lens).mono ?_
      rintro e w5 ⟨ao5, cap5, rfl, _, _, hbel⟩
      have HC := znq (HC.znr.later hbel)
      have HS := znq (HS.znr.later hbel)
      generalize (zoi tn b2 (rowOf ss)).length = cl at *
      clear hbel hx0 hx2 hx3 hx4
      have hx0 := (HS.znr.get 0 rfl).cell 0 _ rfl
      have hx5 := (HS.znr.get 0 rfl).cell 5 _ rfl
      go_wp2_with fail
      refine (zfl cp k ao5 cl cap5 a5 n5 c5 _ HC.znr.ciph HLE.znr).mono ?_
      rintro e w6 ⟨rfl, rfl⟩
      go_wp2_with fail
      refine (zn3 _ (HG.znr.below HS.znr.bel) (HBG.znr.below HS.znr.bel)).mono ?_
      rintro e w9 ⟨rfl, hbel⟩
      have HS := znq (HS.znr.later hbel)
      clear hbel
      go_wp2
      go_ret
      exact ⟨rfl, HS.znr.bel⟩)
  have htn5 : tn ≤ n5 := by omega
  obtain ⟨nz, hnz⟩ : ∃ nz, nz = n5 - tn := ⟨_, rfl⟩
  have enz : (n5 : Int) - (tn : Int) = (nz : Int) := by omega
  have hnz5 : nz ≤ n5 := by omega
  have HNZ := znq (show n5 = nz + tn ∧ True from ⟨by omega, trivial⟩)
  have hcase : (∃ p, alg = 3 ∧ tn < n5 ∧ k = .aez p) ∨ (alg ≠ 3 ∧ 16 ≤ n5) := by
    by_cases h3 : alg = 3
    · refine .inl ?_
      have hka := HKA.znr.1
      cases k with
      | aez p => exact ⟨p, h3, by omega, rfl⟩
      | adi k => simp [ku.alg] at hka; omega
      | hct k => simp [ku.alg] at hka; omega
    · exact .inr ⟨h3, by omega⟩
  clear h3s hsh
  obtain ⟨y, HY, hca⟩ : ∃ y : List UInt8, Hid (y.length = n5 ∧ zoa k tn b2 (rowOf ss) b5 = if y.drop nz = zf tn then some (y.take nz) else none) ∧ ((∃ p, (alg == 3) = true ∧ decide (n5 ≤ tn) = false ∧ 1 ≤ n5 ∧ Hid (k = .aez p ∧ rowA p (zns tn b2 (rowOf ss)) b5 true = y)) ∨ ((alg == 3) = false ∧ (decide (n5 ≤ tn) = true ∨ decide (n5 ≤ tn) = false) ∧ Hid (k.least ≤ n5 ∧ xM k (zoi tn b2 (rowOf ss)) b5 true = y))) := by
    rcases hcase with ⟨p, h3, htl, rfl⟩ | ⟨h3, h16⟩
    · refine ⟨rowA p (zns tn b2 (rowOf ss)) b5 true, ⟨by rw [Kg]; exact hb5, ?_⟩, .inl ⟨p, by simp; omega, by simp; omega, by omega, ⟨rfl, rfl⟩⟩⟩
      rw [zd0 _ _ (by rw [hb5]; exact htl), hb5, ← hnz]
    · have hle : k.least ≤ n5 := by rw [HKA.znr.2]; unfold wg; split <;> omega
      refine ⟨xM k (zoi tn b2 (rowOf ss)) b5 true, ⟨by rw [q7 _ _ (by rw [hb5]; exact hle)]; exact hb5, ?_⟩, .inr ⟨by simp; omega, by cases decide (n5 ≤ tn) <;> simp, ⟨hle, rfl⟩⟩⟩
      rw [zdz (by intro h; have := HKA.znr.1; omega) _ _ (by rw [hb5]; exact htn5) (by rw [hb5]; exact hle), hb5, ← hnz]
  clear hcase hb5 hnz
  have HNA := znq (J1 (y := y) (n := nz) (t := tn) (by rw [HY.znr.1]; exact HNZ.znr.1))
  rw [← HNZ.znr.1] at HNA
  have HTK := znq (show (y.take nz).length = nz from by rw [List.length_take, HY.znr.1]; omega)
  obtain ⟨z, hz⟩ : ∃ z, z = decide (y.drop nz = zf tn) := ⟨_, rfl⟩
  have HOG := znq (show zoa k tn b2 (rowOf ss) b5 = if z = true then some (y.take nz) else none from by
    rw [HY.znr.2, hz]
    by_cases h : y.drop nz = zf tn
    · rw [if_pos h, if_pos (by simpa using h)]
    · rw [if_neg h, if_neg (by simpa using h)])
  rw [← hz] at HNA
  clear hz
  have htail : ∀ (b : Bool), b = true ∨ b = false := by intro b; cases b <;> simp
  cases z
  all_goals (first | rw [if_pos rfl] at HOG | rw [if_neg (by decide)] at HOG)
  all_goals clear htail
  all_goals rcases hca with ⟨p, d3, d1, h1, HCA⟩ | ⟨d3, (d1 | d1), HCA⟩
  all_goals (
    go_enter Tryz.func7, Tryz.ntmps7
    go_wp2_with (refine zh 25 _ (znt alg a1 n1 c1 a2 n2 c2 tn a4 N c4 a5 n5 c5) _ rfl rfl rfl rfl ?_)
    intro w1 hb hbel; have HS := znq (HS.znr.push hb hbel); clear hb hbel
    go_wp2_with (refine (HS.znr.get 0 rfl).wload rfl rfl rfl yb rfl ?_)
    refine (znu alg a1 n1 c1 a2 n2 c2 tn a4 N c4 a5 n5 c5 ss _ HNN.znr HNM.znr (HSL.znr.below HS.znr.bel)).mono ?_
    rintro e w2 ⟨rfl, hbel⟩
    rw [HR.znr.1]
    have HS := znq (HS.znr.later hbel)
    clear hbel
    have hx0 := (HS.znr.get 0 rfl).cell 0 _ rfl
    have hx3 := (HS.znr.get 0 rfl).cell 3 _ rfl
    have hx5 := (HS.znr.get 0 rfl).cell 5 _ rfl
    go_wp2_with fail
    refine (znx tn _).mono ?_
    rintro e w3 ⟨rfl, rfl⟩
    rw [HT.znr.1]
    go_wp2_with (refine (HS.znr.get 0 rfl).wload rfl rfl rfl yb rfl ?_)
    refine (zn4 alg a1 n1 c1 b1 a2 n2 c2 tn a4 N c4 a5 n5 c5 _ HB1.znr HW.znr hc1 (HL1.znr.below HS.znr.bel) (HG.znr.below HS.znr.bel) (HBG.znr.below HS.znr.bel)).mono ?_
    rintro e w3 ⟨cp, rfl, hst, hbel⟩
    rw [HK.znr.1] at hst
    have HS := znq (HS.znr.later hbel)
    have HC := znq (zpy (c4 := c4) HR.znr.1 htn hst.self HB2.znr hc2 (HL2.znr.below HS.znr.bel) HNN.znr (HSS.znr.below HS.znr.bel))
    clear hst hbel hx0 hx3 hx5
    have hx5 := (HS.znr.get 0 rfl).cell 5 _ rfl
    go_wp2_with (refine (HS.znr.get 0 rfl).wload rfl rfl rfl yb rfl ?_)
    refine (zon alg a1 n1 c1 a5 n5 c5 a5 n5 c5 b5 _ HC.znr HB5.znr (by omega) hc5 (HL5.znr.below HS.znr.bel)).mono ?_
    rintro e w4 ⟨ho, hbel⟩
    rw [HOG.znr] at ho
    obtain ⟨ma, ml, mc, me, rfl, HM⟩ : ∃ ma ml mc, ∃ me : Int, e = .returned (.tuple #[.slice ma ml mc, .int .i64 me]) ∧ Hid ((me = 9 ∧ ml = 0 ∧ zoa k tn b2 (rowOf ss) b5 = none) ∨ (me = 0 ∧ ml = nz ∧ zr w4 ma ((y.take nz).map B) ∧ zoa k tn b2 (rowOf ss) b5 = some (y.take nz))) := by
      first
        | (obtain ⟨ao4, rfl, hl4, _⟩ := ho; exact ⟨ao4, _, _, 0, rfl, .inr ⟨rfl, HTK.znr, hl4, HOG.znr⟩⟩)
        | (exact ⟨none, 0, 0, 9, ho, .inl ⟨rfl, rfl, HOG.znr⟩⟩)
    have HC := znq (HC.znr.later hbel)
    have HS := znq (HS.znr.later hbel)
    clear hbel hx5 ho
    have hx0 := (HS.znr.get 0 rfl).cell 0 _ rfl
    have hx2 := (HS.znr.get 0 rfl).cell 2 _ rfl
    have hx3 := (HS.znr.get 0 rfl).cell 3 _ rfl
    have hx4 := (HS.znr.get 0 rfl).cell 4 _ rfl
    go_wp2_with fail
    first
      | (refine (zoh tn a2 n2 c2 b2 a4 N c4 ss _ htn HC.znr.nlen (by omega) HC.znr.nlies HC.znr.alen (by omega) HC.znr.strs HC.znr.lens).mono ?_
         rintro e w5 ⟨g, cap, sts, rfl, hl2, hro, hss, hbel⟩
         have HST := znq hss
         have HRO := znq (show rowOf sts = zns tn b2 (rowOf ss) ∧ sts.length = 2 + N from ⟨hro, hl2⟩)
         have HLE := znq (show ∀ s ∈ sts, s.bs.length ≤ 10000 from by
           intro s hs
           have h : s.bs ∈ rowOf sts := List.mem_map.2 ⟨s, hs, rfl⟩
           rw [hro] at h
           unfold zns at h
           rcases List.mem_cons.1 h with h | h
           · rw [h]; simp [zf]
           · rcases List.mem_cons.1 h with h | h
             · rw [h, HC.znr.nlen]; omega
             · obtain ⟨s', hs', e⟩ := List.mem_map.1 h
               rw [← e]; exact HC.znr.lens s' hs')
         have HC := znq (HC.znr.later hbel)
         have HM := znq (show (me = 9 ∧ ml = 0 ∧ zoa k tn b2 (rowOf ss) b5 = none) ∨ (me = 0 ∧ ml = nz ∧ zr w5 ma ((y.take nz).map B) ∧ zoa k tn b2 (rowOf ss) b5 = some (y.take nz)) from HM.znr.imp id (fun h => ⟨h.1, h.2.1, h.2.2.1.below hbel, h.2.2.2⟩))
         have HS := znq (HS.znr.later hbel)
         clear hl2 hro hss hbel hx0 hx2 hx3 hx4
         have hx5 := (HS.znr.get 0 rfl).cell 5 _ rfl
         have hgc : qu w5 cp (.aez p) := by have h := HC.znr.ciph; rw [HCA.znr.1] at h; exact h
         obtain ⟨kp, q, pp, hci⟩ := hgc.ez
         have HCI := znq hci
         clear hci hgc
         go_wp2_with fail
         refine (zqa cp kp q pp p (some ⟨g, 0, none⟩) (2 + N) cap sts a5 n5 c5 b5 true _ HCI.znr HRO.znr.2 (by omega) HST.znr HLE.znr HB5.znr h1 (by omega) hc5 (HL5.znr.below HS.znr.bel)).mono ?_
         rintro e w6 ⟨v6, rfl, hown, hbel⟩
         rw [HRO.znr.1, HCA.znr.2] at hown
         obtain ⟨lya, lyc, rfl, hyc, _, hly⟩ := zw hown
         have HLY := znq hly
         have HM := znq (show (me = 9 ∧ ml = 0 ∧ zoa k tn b2 (rowOf ss) b5 = none) ∨ (me = 0 ∧ ml = nz ∧ zr w6 ma ((y.take nz).map B) ∧ zoa k tn b2 (rowOf ss) b5 = some (y.take nz)) from HM.znr.imp id (fun h => ⟨h.1, h.2.1, h.2.2.1.below hbel, h.2.2.2⟩))
         have HS := znq (HS.znr.later hbel)
         clear hown hly hbel hx5 HCI HST)
      | (refine (zp1 tn a2 n2 c2 b2 a4 N c4 ss _ htn HC.znr.nlen HC.znr.nmost HC.znr.ncap HC.znr.nlies HC.znr.alen HC.znr.amost HC.znr.strs HC.znr.lens).mono ?_
         rintro e w5 ⟨ao5, cap5, rfl, hcap5, hl5', hbel⟩
         have HL5' := znq hl5'
         have HCX := znq HC.znr.ctx
         have HC := znq (HC.znr.later hbel)
         have HM := znq (show (me = 9 ∧ ml = 0 ∧ zoa k tn b2 (rowOf ss) b5 = none) ∨ (me = 0 ∧ ml = nz ∧ zr w5 ma ((y.take nz).map B) ∧ zoa k tn b2 (rowOf ss) b5 = some (y.take nz)) from HM.znr.imp id (fun h => ⟨h.1, h.2.1, h.2.2.1.below hbel, h.2.2.2⟩))
         have HS := znq (HS.znr.later hbel)
         obtain ⟨ctx, hctx⟩ : ∃ x, x = zoi tn b2 (rowOf ss) := ⟨_, rfl⟩
         rw [← hctx] at HL5' HCX HCA hcap5
         rw [← hctx]
         obtain ⟨cl, hcl⟩ : ∃ x, x = ctx.length := ⟨_, rfl⟩
         rw [← hcl] at HCX hcap5
         rw [← hcl]
         have HCL := znq hcl
         clear hbel hx0 hx2 hx3 hx4 hl5' hctx hcl
         have hx5 := (HS.znr.get 0 rfl).cell 5 _ rfl
         go_wp2_with fail
         refine (znf cp k ao5 cl cap5 ctx a5 n5 c5 b5 _ HC.znr.ciph HCL.znr.symm HCX.znr hcap5 HL5'.znr HB5.znr HCA.znr.1 (by omega) hc5 (HL5.znr.below HS.znr.bel)).mono ?_
         rintro e w6 ⟨v6, rfl, hown, hbel⟩
         rw [HCA.znr.2] at hown
         obtain ⟨lya, lyc, rfl, hyc, _, hly⟩ := zw hown
         have HLY := znq hly
         have HM := znq (show (me = 9 ∧ ml = 0 ∧ zoa k tn b2 (rowOf ss) b5 = none) ∨ (me = 0 ∧ ml = nz ∧ zr w6 ma ((y.take nz).map B) ∧ zoa k tn b2 (rowOf ss) b5 = some (y.take nz)) from HM.znr.imp id (fun h => ⟨h.1, h.2.1, h.2.2.1.below hbel, h.2.2.2⟩))
         have HS := znq (HS.znr.later hbel)
         clear hown hly hbel hx5 HCX HCL)
    have hx3 := (HS.znr.get 0 rfl).cell 3 _ rfl
    have hx5 := (HS.znr.get 0 rfl).cell 5 _ rfl
    go_wp2
    clear hx3 hx5
    go_loopw [14, 15] (fun b c wr => ∃ i : Nat, nz ≤ i ∧ i ≤ n5 ∧ c = .int .i64 i ∧ b = .bool (yf y nz i) ∧ w6 = wr) (fun _ c _ => n5 - (intOf c).toNat)
    case atStart => exact ⟨nz, by omega, by omega, rfl, by rw [Y2], rfl⟩
    case round =>
      obtain ⟨i, hni, hi, rfl, rfl, rfl⟩ := hrel
      by_cases hlt : i < n5
      · obtain ⟨x, hx⟩ : ∃ x, y[i]? = some x := ⟨y[i]'(by rw [HY.znr.1]; exact hlt), by simp⟩
        have HNS := znq (XQ y hni x hx)
        obtain ⟨lyb, lyo, rfl, hcell⟩ := HLY.znr i (B x) (zU hx)
        obtain ⟨nb, hnb⟩ : ∃ nb, nb = yf y nz i := ⟨_, rfl⟩
        rw [← hnb] at HNS ⊢
        have hxx : ((x.toNat : Int) == 0) = (x == 0) := by
          rw [Bool.eq_iff_iff]
          simp only [beq_iff_eq]
          constructor
          · intro h; exact UInt8.toNat_inj.1 (by simpa using h)
          · rintro rfl; rfl
        have hb : ∃ b, b = (x == 0) := ⟨_, rfl⟩
        obtain ⟨b, hbb⟩ := hb
        rw [← hbb] at HNS hxx
        clear hbb hx hnb
        cases nb
        all_goals (
          go_wp2
          go_roundw
          case rel => exact ⟨i + 1, by omega, by omega, by go_num, by rw [HNS.znr]; rfl, trivial⟩
          case measure => simp [intOf]; omega)
      · obtain rfl : i = n5 := by omega
        rw [HNA.znr]
        first
          | (have hmm : me = 9 ∧ ml = 0 := by
               rcases HM.znr with h | h
               · exact ⟨h.1, h.2.1⟩
               · rw [HOG.znr] at h; cases h.2.2.2
             obtain ⟨rfl, rfl⟩ := hmm
             go_wp2_with fail
             refine (zn3 _ (HG.znr.below HS.znr.bel) (HBG.znr.below HS.znr.bel)).mono ?_
             rintro e w9 ⟨rfl, hbel⟩
             have HS := znq (HS.znr.later hbel)
             clear hbel
             go_wp2
             go_ret
             exact ⟨rfl, HS.znr.bel⟩)
          | (have hmm : me = 0 ∧ ml = nz ∧ Hid (zr w6 ma ((y.take nz).map B)) := by
               rcases HM.znr with h | h
               · rw [HOG.znr] at h; cases h.2.2
               · exact ⟨h.1, h.2.1, h.2.2.1⟩
             obtain ⟨rfl, rfl, HLM⟩ := hmm
             have F1 := fun (z : zG w6.drew) => yL z.val ma ml mc (y.take ml) HTK.znr (HLM.znr.below ((Below.refl _ _).drew.trans z.later))
             have F2 := fun (z : zG w6.drew) => yL z.val lya ml lyc (y.take ml) HTK.znr (by
               have h := (HLY.znr.below ((Below.refl w6.heap.size w6).drew.trans z.later)).take ml
               rwa [← List.map_take] at h)
             have hcut := fun w' => ZN (P := Tryz.prog) w' 22 5 1 Tryz.underlying22 zl lya i lyc ml (by omega)
             generalize str (y.take ml) = s1 at *
             go_wp2_with fail
             refine zn [0, 1, 2, 3, 4, 5, 6, 7, 8, 9, 10, 11, 12, 13, 14] (by kernel_rfl) (by kernel_rfl) ?_
             rintro w7 rfl
             refine mqR ?_
             clear F1 F2 hcut
             have HS := znq HS.znr.drew
             refine zi rfl rfl (by rfl) (fun K hK => ?_)
             go_simp
             refine (zn3 _ (HG.znr.below HS.znr.bel) (HBG.znr.below HS.znr.bel)).mono ?_
             rintro e w9 ⟨rfl, hbel⟩
             have HS := znq (HS.znr.later hbel)
             go_simp
             refine hK _ _ hbel ?_
             clear hK K hbel
             refine mqR ?_
             refine zo ?_
             go_wp2
             go_ret
             exact ⟨rfl, HS.znr.bel⟩))
end Go.Proofs.YtjaioajjfiaheaaGreatDoor
