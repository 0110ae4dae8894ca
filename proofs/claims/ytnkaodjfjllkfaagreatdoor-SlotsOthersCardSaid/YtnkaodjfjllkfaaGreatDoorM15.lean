/-
  Texts of this claim, one behind the other: EzcD RegionI EzcE.
-/
import Derived.Test.YtnkaodjfjllkfaaGreatDoorM14
import Derived.Test.YtnkaodjfjllkfaaGreatDoorM3
/-
  The walks of ezcore: the pairs' first turn.
-/
set_option linter.unusedSimpArgs false
set_option linter.unusedVariables false
namespace Go.Proofs.YtnkaodjfjllkfaaGreatDoor
open Go.RowKit Go.Mem Go.Ops Go.Cells Go.Oct Go.Gf Go.Trn Go.Aes Go.Ring Go.Ezk Go.Ezh Go.Ezt Go.Ezc Go.CutP Go.Fl
set_option maxRecDepth 100000
attribute [local irreducible] walkR walkP walk0 walkB walkK

/-- The bytes of pairs of which one is set apart, in a block with a tail. -/
def midV (A M R : List UInt8) (tl : List Value) : List Value := (A ++ M ++ R).map B ++ tl
theorem midV_left {A a b R : List UInt8} {tl : List Value} {o : Nat} (ho : A.length = o) (ha : a.length = 16) : ((midV A (a ++ b) R tl).drop o).take 16 = a.map B := by
  subst ho
  unfold midV
  rw [List.append_assoc A, List.map_append, List.append_assoc, show A.length = (A.map B).length by simp, List.drop_left, List.append_assoc a, List.map_append, List.append_assoc, show (16 : Nat) = (a.map B).length by simp [ha], List.take_left]
theorem midV_right {A a b R : List UInt8} {tl : List Value} {o : Nat} (ho : A.length = o) (ha : a.length = 16) (hb : b.length = 16) : ((midV A (a ++ b) R tl).drop (o + 16)).take 16 = b.map B := by
  subst ho
  unfold midV
  rw [show A ++ (a ++ b) ++ R = (A ++ a) ++ (b ++ R) by simp, List.map_append, List.append_assoc, show A.length + 16 = ((A ++ a).map B).length by simp [ha], List.drop_left, List.map_append, List.append_assoc, show (16 : Nat) = (b.map B).length by simp [hb], List.take_left]
theorem midV_set {A M C R : List UInt8} {tl : List Value} {o : Nat} (ho : A.length = o) (h : C.length = M.length) : (midV A M R tl).take o ++ C.map B ++ (midV A M R tl).drop (o + (C.map B).length) = midV A C R tl := by
  subst ho
  unfold midV
  have e1 : ((A ++ M ++ R).map B ++ tl).take A.length = A.map B := by
    rw [List.append_assoc A, List.map_append, List.append_assoc, show A.length = (A.map B).length by simp, List.take_left]
  have e2 : ((A ++ M ++ R).map B ++ tl).drop (A.length + (C.map B).length) = R.map B ++ tl := by
    rw [List.map_append, List.append_assoc, show A.length + (C.map B).length = ((A ++ M).map B).length by simp [h], List.drop_left]
  rw [e1, e2, List.map_append, List.map_append]
  simp [List.append_assoc]
theorem midV_fit {A M R : List UInt8} {tl : List Value} (h : M.length = 32) : A.length + 32 ≤ (midV A M R tl).length := by
  unfold midV; simp [h]
theorem drop_at {α : Type} {l : List α} {i : Nat} {x : α} (h : l[i]? = some x) : l.drop i = x :: l.drop (i + 1) := by
  obtain ⟨hl, he⟩ := List.getElem?_eq_some_iff.1 h
  rw [List.drop_eq_getElem_cons hl, he]
theorem aheadP_snoc (k : Parts) : ∀ (ps : Pairs) (n : Nat) (p : List UInt8 × List UInt8), aheadP k n (ps ++ [p]) = aheadP k n ps ++ [(wOf k (n + ps.length) p, xOf k (n + ps.length) p)]
  | [], n, p => by simp [aheadP]
  | q :: ps, n, p => by
    simp only [List.cons_append, aheadP, aheadP_snoc k ps (n + 1) p, List.length_cons]
    rw [show n + 1 + ps.length = n + (ps.length + 1) by omega]
theorem flatP_append : ∀ (ps qs : Pairs), flatP (ps ++ qs) = flatP ps ++ flatP qs
  | [], _ => rfl
  | p :: ps, qs => by simp only [List.cons_append, flatP, flatP_append ps qs, List.append_assoc]

set_option maxHeartbeats 4000000 in
theorem ahead_ok (kp q p : Nat) (k : Parts) (pb np cp : Nat) (ps : Pairs) (tl : List Value) (uv vv : Value) (x y : List UInt8) (w : World) (hk : EKey w kp q p k) (hnp : ps.length = np) (hf : ∀ r ∈ ps, PairFit r)
    (hp : Blk w pb ((flatP ps).map B ++ tl) 312) (hb : np ≤ 900) :
    Calls Tryz.prog 199 #[.agg (msgV (.slice (some ⟨pb, 0, none⟩) np cp) uv vv x y).toArray, .pointer (some ⟨kp, 0, none⟩)] w fun e w' => e = .returned (.agg ((aheadS k 0 (zeros 16) ps).map B).toArray) ∧ Blk w' pb ((flatP (aheadP k 0 ps)).map B ++ tl) 312 ∧ OnlyB pb w w' := by
  have n1 : kp ≠ pb := hk.blk.ne' hp (by decide)
  have n2 : q ≠ pb := hk.tab.tab.ne' hp (by decide)
  have n3 : p ≠ pb := hk.tab.boxes.ne' hp (by decide)
  have HK := Lib.hid hk
  have HNP := Lib.hid hnp
  have HF := Lib.hid hf
  have hpb := hp.lt
  have HS := Lib.hid ((Su.start pb w).add hp)
  obtain ⟨V, hV⟩ : ∃ V, V = msgV (.slice (some ⟨pb, 0, none⟩) np cp) uv vv x y := ⟨_, rfl⟩
  have HVV := Lib.hid (show V = msgV (.slice (some ⟨pb, 0, none⟩) np cp) uv vv x y ∧ True from ⟨hV, trivial⟩)
  obtain ⟨S, hS⟩ : ∃ S, S = aheadS k 0 (zeros 16) ps := ⟨_, rfl⟩
  have HSS := Lib.hid (show aheadS k 0 (zeros 16) ps = S ∧ True from ⟨hS.symm, trivial⟩)
  rw [← hV, ← hS]
  clear hk hnp hf hp hV hS
  go_enter Tryz.func199, Tryz.ntmps199
  go_wp2_with (refine wpList_box 283 _ (V) _ rfl rfl rfl rfl ?_)
  intro w1 hb hbel; have HS := Lib.hid (HS.out.push hb hbel); have hlt1 := hb.lt; clear hb hbel
  go_wp2_with (refine wpList_var 88 ((zeros 16).map B) _ rfl rfl Tryz.zero16 rfl ?_)
  intro w2 hb hbel; have HS := Lib.hid (HS.out.push hb hbel); have hlt2 := hb.lt; clear hb hbel
  go_wp2_with (refine wpList_var 88 ((zeros 16).map B) _ rfl rfl Tryz.zero16 rfl ?_)
  intro w3 hb hbel; have HS := Lib.hid (HS.out.push hb hbel); have hlt3 := hb.lt; clear hb hbel
  generalize hbb : w.heap.size = bb at *
  generalize w1.heap.size = bw1 at *
  generalize w2.heap.size = bw2 at *
  have HBB := Lib.hid hbb
  clear hbb
  have hc0 := (HS.out.get 2 rfl).cell 0 (.slice (some ⟨pb, 0, none⟩) np cp) (by rw [HVV.out.1]; rfl)
  go_wp2
  go_loopw [12] (fun c wr => ∃ (i : Nat) (sum : List UInt8), i ≤ np ∧ c = .int .i64 i ∧ Hid (sum.length = 16) ∧ Hid (aheadS k i sum (ps.drop i) = S ∧ True) ∧ Hid (Su w pb wr [(bw2, sum.map B, 88), (bw1, (zeros 16).map B, 88), (bb, V, 283), (pb, (flatP (aheadP k 0 (ps.take i) ++ ps.drop i)).map B ++ tl, 312)])) (fun c _ => np - (intOf c).toNat)
  case atStart => exact ⟨0, zeros 16, by omega, rfl, Lib.hid (zeros_length 16), HSS, HS⟩
  case round =>
    clear HS hc0
    obtain ⟨i, sum, hi, rfl, HX, HE, HS⟩ := hrel
    have HXM := Lib.hid (show (sum.map B).length = 16 by rw [List.length_map]; exact HX.out)
    have hr2 := (HS.out.get 0 rfl).lt
    by_cases hlt : i < np
    · obtain ⟨⟨a, b⟩, hpi⟩ : ∃ r, ps[i]? = some r := ⟨ps[i]'(by rw [HNP.out]; exact hlt), by simp⟩
      have hd := drop_at hpi
      have hab := HF.out _ (List.mem_of_getElem? hpi)
      have HA := Lib.hid (show a.length = 16 from hab.1)
      have HB := Lib.hid (show b.length = 16 from hab.2)
      have HAM := Lib.hid (show (a.map B).length = 16 by rw [List.length_map]; exact hab.1)
      have HBM := Lib.hid (show (b.map B).length = 16 by rw [List.length_map]; exact hab.2)
      have hAl : (flatP (aheadP k 0 (ps.take i))).length = i * 32 := by
        rw [flatP_length _ (aheadP_fit k _ _), aheadP_length, List.length_take, HNP.out]; omega
      have hn1 : flatP (aheadP k 0 (ps.take (i + 1)) ++ ps.drop (i + 1)) = flatP (aheadP k 0 (ps.take i)) ++ (wOf k i (a, b) ++ xOf k i (a, b)) ++ flatP (ps.drop (i + 1)) := by
        rw [take_snoc' hpi, aheadP_snoc, List.length_take, HNP.out, show 0 + min i np = i by omega, flatP_append, flatP_snoc]
      have he := HE.out.1
      rw [hd] at he
      have HE := Lib.hid (show aheadS k (i + 1) (plusB [sum, xOf k i (a, b)]) (ps.drop (i + 1)) = S ∧ True from ⟨he, trivial⟩)
      have hs := HS.out
      rw [hd, flatP_append, show flatP ((a, b) :: ps.drop (i + 1)) = a ++ b ++ flatP (ps.drop (i + 1)) from rfl, ← List.append_assoc] at hs
      have HN1 := Lib.hid (And.intro hn1 trivial)
      obtain ⟨A, hA⟩ : ∃ A, A = flatP (aheadP k 0 (ps.take i)) := ⟨_, rfl⟩
      obtain ⟨R, hR⟩ : ∃ R, R = flatP (ps.drop (i + 1)) := ⟨_, rfl⟩
      rw [← hA, ← hR] at hs HN1
      rw [← hA] at hAl
      have HAL := Lib.hid hAl
      have HS := Lib.hid (show Su w pb wr [(bw2, sum.map B, 88), (bw1, (zeros 16).map B, 88), (bb, V, 283), (pb, midV A (a ++ b) R tl, 312)] from hs)
      clear hpi hd hab hAl hn1 he hs hA hR
      obtain ⟨i1, hi1⟩ : ∃ i1, i1 = i + 1 := ⟨_, rfl⟩
      have hni : (i : Int) + 1 = (i1 : Int) := by omega
      have hi9 : i1 ≤ 1000 := by omega
      have HW := Lib.hid (show plusB [a, eBlk k 1 i1 b] = wOf k i (a, b) ∧ True from ⟨by rw [hi1]; rfl, trivial⟩)
      have HI1 := Lib.hid (show i1 = i + 1 ∧ True from ⟨hi1, trivial⟩)
      clear hi1
      have hc0 := fun (z : After wr.drew) => ((HS.out.drew.later z.later).get 2 rfl).cell 0 (.slice (some ⟨pb, 0, none⟩) np cp) (by rw [HVV.out.1]; rfl)
      have HNE := Lib.hid HS.out.ne
      have hps := HS.out.size
      go_wp2_with fail
      refine wp_region_P [0, 1, 2, 3, 4, 5, 6, 7, 8, 9, 10, 11, 12, 13, 14] [15, 16, 17] [19] [Floater.var 18 7 88 ((zeros 16).map B)] (by kernel_rfl) (by kernel_rfl) ?_
      rintro w3 rfl
      have HS := Lib.hid HS.out.drew
      (refine walk0_one rfl rfl rfl (fun K hK => ?_); go_big_quiet_step (fail); refine wpQuiet_nil (hK _ ?_); clear hK K); (refine walk0_one rfl rfl rfl (fun K hK => ?_); go_big_quiet_step (fail); refine wpQuiet_nil (hK _ ?_); clear hK K); (refine walk0_one rfl rfl rfl (fun K hK => ?_); go_big_quiet_step (fail); refine wpQuiet_nil (hK _ ?_); clear hK K); (refine walk0_one rfl rfl rfl (fun K hK => ?_); go_big_quiet_step (fail); refine wpQuiet_nil (hK _ ?_); clear hK K); (refine walk0_one rfl rfl rfl (fun K hK => ?_); go_big_quiet_step (fail); refine wpQuiet_nil (hK _ ?_); clear hK K)
      refine walk0_load (Blk.rangeIn (HS.out.get 3 rfl) (i * 32) 16 _ (by exact midV_left HAL.out HA.out)) (HS.out.get 3 rfl).lt Tryz.row16 HAM.out rfl rfl rfl (fun K hK => ?_)
      go_simp; refine hK _ ?_; clear hK K
      (refine walk0_one rfl rfl rfl (fun K hK => ?_); go_big_quiet_step (fail); refine wpQuiet_nil (hK _ ?_); clear hK K); (refine walk0_one rfl rfl rfl (fun K hK => ?_); go_big_quiet_step (fail); refine wpQuiet_nil (hK _ ?_); clear hK K); (refine walk0_one rfl rfl rfl (fun K hK => ?_); go_big_quiet_step (fail); refine wpQuiet_nil (hK _ ?_); clear hK K); (refine walk0_one rfl rfl rfl (fun K hK => ?_); go_big_quiet_step (fail); refine wpQuiet_nil (hK _ ?_); clear hK K); (refine walk0_one rfl rfl rfl (fun K hK => ?_); go_big_quiet_step (fail); refine wpQuiet_nil (hK _ ?_); clear hK K); (refine walk0_one rfl rfl rfl (fun K hK => ?_); go_big_quiet_step (fail); refine wpQuiet_nil (hK _ ?_); clear hK K); (refine walk0_one rfl rfl rfl (fun K hK => ?_); go_big_quiet_step (fail); refine wpQuiet_nil (hK _ ?_); clear hK K); (refine walk0_one rfl rfl rfl (fun K hK => ?_); go_big_quiet_step (fail); refine wpQuiet_nil (hK _ ?_); clear hK K)
      refine walk0_load (Blk.rangeIn (HS.out.get 3 rfl) (i * 32 + 16) 16 _ (by exact midV_right HAL.out HA.out HB.out)) (HS.out.get 3 rfl).lt Tryz.row16 HBM.out rfl rfl rfl (fun K hK => ?_)
      go_simp; refine hK _ ?_; clear hK K
      clear hc0
      refine walk0_nil ⟨?_, ?_, Nat.le_refl _⟩
      · intro f hf
        simp only [List.mem_singleton] at hf
        subst hf
        exact fits_var _ _ _ _ _ _ rfl rfl rfl rfl (by simp) Tryz.zero16 rfl
      refine walkP_call1 rfl rfl (fun uz wa5 hla K hK => ?_)
      go_simp
      have HS := Lib.hid (HS.out.later hla)
      refine (e_ok kp q p 1 i1 k b _ (HK.out.onlyB HS.out.only n1 n2 n3) (by omega) hi9 HB.out).mono ?_
      rintro e w5 ⟨rfl, hbel⟩
      have HS := Lib.hid (HS.out.later hbel)
      go_simp
      refine hK _ _ hbel ?_
      clear hK K hbel hla
      have HEL := Lib.hid (eBlk_length k 1 i1 b)
      generalize eBlk k 1 i1 b = eb at *
      refine walkP_call1 rfl rfl (fun uz wa6 hla K hK => ?_)
      refine oprows 85 88 16 2 _ [a.map B, eb.map B] rfl rfl Tryz.underlying85 Tryz.zsBlock rfl (by omega) rfl (by omega) (by omega) (by simp [HA.out, HEL.out]) ?_
      intro w6 hb hbel
      have HS := Lib.hid (HS.out.later (hla.trans hbel))
      refine hK _ _ hbel ?_
      have HR := Lib.hid (show RowsN 16 w6 (some ⟨wa6.heap.size, 0, none⟩) [a, eb] from ⟨by simp [HA.out, HEL.out], by have := hb.lies; simpa using this⟩)
      clear hK K hbel hla hb
      go_simp
      refine walkP_call1 rfl rfl (fun uz wa7 hla K hK => ?_)
      go_simp
      refine (cplus_ok (some ⟨wa6.heap.size, 0, none⟩) 2 2 [a, eb] _ rfl (by omega) (HR.out.below hla)).mono ?_
      rintro e w7 ⟨rfl, hbel⟩
      have HS := Lib.hid (HS.out.later (hla.trans hbel))
      rw [HW.out.1]
      go_simp
      refine hK _ _ hbel ?_
      clear hK K hbel hla HR
      have HWL := Lib.hid (wOf_length k i (a, b))
      have HXX := Lib.hid (xOf_length k i (a, b))
      have HX1 := Lib.hid (show plusB [b, eBlk k 0 0 (wOf k i (a, b))] = xOf k i (a, b) ∧ True from ⟨rfl, trivial⟩)
      generalize wOf k i (a, b) = W at *
      generalize xOf k i (a, b) = X at *
      refine walkP_nil1 (fun bx8 wb8 hlb hbx8 hbn => ?_)
      go_simp
      have HS := Lib.hid ((HS.out.later hlb).add (show Blk wb8 bx8 ((zeros 16).map B) 88 from hbn))
      clear hlb hbn
      refine walkR_free rfl rfl (by rfl) (fun K hK => ?_)
      refine (HS.out.get 0 rfl).opstore rfl rfl rfl Tryz.row16 (by simp [zeros_length]) (by rw [List.length_map]; exact HWL.out) (oneCell_B _) (fun w8 hb ho => hK _ _ ?_)
      clear hK K
      have HS := Lib.hid (HS.out.change 0 hb ho (.inl (by omega)) (fun e he => by have := HNE.out e he; omega))
      clear hb ho HNE hps
      go_simp
      refine walkR_nil ?_
      have hr8 := (HS.out.get 0 rfl).lt
      have hc0 := fun (z : After w8.drew) => ((HS.out.drew.later z.later).get 3 rfl).cell 0 (.slice (some ⟨pb, 0, none⟩) np cp) (by rw [HVV.out.1]; rfl)
      have HWM := Lib.hid (show (W.map B).length = 16 by rw [List.length_map]; exact HWL.out)
      have HNE := Lib.hid HS.out.ne
      have hps := HS.out.size
      go_wp2_with fail
      refine wp_region_P [0, 1, 2, 3, 4, 5, 6, 7] [8, 9, 10] [12] [Floater.var 11 8 88 ((zeros 16).map B)] (by kernel_rfl) (by kernel_rfl) ?_
      rintro w9 rfl
      have HS := Lib.hid HS.out.drew
      (refine walk0_one rfl rfl rfl (fun K hK => ?_); go_big_quiet_step (fail); refine wpQuiet_nil (hK _ ?_); clear hK K); (refine walk0_one rfl rfl rfl (fun K hK => ?_); go_big_quiet_step (fail); refine wpQuiet_nil (hK _ ?_); clear hK K); (refine walk0_one rfl rfl rfl (fun K hK => ?_); go_big_quiet_step (fail); refine wpQuiet_nil (hK _ ?_); clear hK K); (refine walk0_one rfl rfl rfl (fun K hK => ?_); go_big_quiet_step (fail); refine wpQuiet_nil (hK _ ?_); clear hK K); (refine walk0_one rfl rfl rfl (fun K hK => ?_); go_big_quiet_step (fail); refine wpQuiet_nil (hK _ ?_); clear hK K)
      refine walk0_load (Blk.rangeIn (HS.out.get 4 rfl) (i * 32 + 16) 16 _ (by exact midV_right HAL.out HA.out HB.out)) (HS.out.get 4 rfl).lt Tryz.row16 HBM.out rfl rfl rfl (fun K hK => ?_)
      go_simp; refine hK _ ?_; clear hK K
      (refine walk0_one rfl rfl rfl (fun K hK => ?_); go_big_quiet_step (fail); refine wpQuiet_nil (hK _ ?_); clear hK K)
      refine walk0_load (HS.out.get 0 rfl).range (HS.out.get 0 rfl).lt Tryz.row16 HWM.out rfl rfl rfl (fun K hK => ?_)
      go_simp; refine hK _ ?_; clear hK K
      clear hc0
      refine walk0_nil ⟨?_, ?_, Nat.le_refl _⟩
      · intro f hf
        simp only [List.mem_singleton] at hf
        subst hf
        exact fits_var _ _ _ _ _ _ rfl rfl rfl rfl (by simp) Tryz.zero16 rfl
      refine walkP_call1 rfl rfl (fun uz wa10 hla K hK => ?_)
      go_simp
      have HS := Lib.hid (HS.out.later hla)
      refine (e_ok kp q p 0 0 k W _ (HK.out.onlyB HS.out.only n1 n2 n3) (by omega) (by omega) HWL.out).mono ?_
      rintro e w10 ⟨rfl, hbel⟩
      have HS := Lib.hid (HS.out.later hbel)
      go_simp
      refine hK _ _ hbel ?_
      clear hK K hbel hla
      have HEL2 := Lib.hid (eBlk_length k 0 0 W)
      generalize eBlk k 0 0 W = ew at *
      refine walkP_call1 rfl rfl (fun uz wa11 hla K hK => ?_)
      refine oprows 85 88 16 2 _ [b.map B, ew.map B] rfl rfl Tryz.underlying85 Tryz.zsBlock rfl (by omega) rfl (by omega) (by omega) (by simp [HB.out, HEL2.out]) ?_
      intro w11 hb hbel
      have HS := Lib.hid (HS.out.later (hla.trans hbel))
      refine hK _ _ hbel ?_
      have HR := Lib.hid (show RowsN 16 w11 (some ⟨wa11.heap.size, 0, none⟩) [b, ew] from ⟨by simp [HB.out, HEL2.out], by have := hb.lies; simpa using this⟩)
      clear hK K hbel hla hb
      go_simp
      refine walkP_call1 rfl rfl (fun uz wa12 hla K hK => ?_)
      go_simp
      refine (cplus_ok (some ⟨wa11.heap.size, 0, none⟩) 2 2 [b, ew] _ rfl (by omega) (HR.out.below hla)).mono ?_
      rintro e w12 ⟨rfl, hbel⟩
      have HS := Lib.hid (HS.out.later (hla.trans hbel))
      rw [HX1.out.1]
      go_simp
      refine hK _ _ hbel ?_
      clear hK K hbel hla HR
      refine walkP_nil1 (fun bx13 wb13 hlb hbx13 hbn => ?_)
      go_simp
      have HS := Lib.hid ((HS.out.later hlb).add (show Blk wb13 bx13 ((zeros 16).map B) 88 from hbn))
      clear hlb hbn
      refine walkR_free rfl rfl (by rfl) (fun K hK => ?_)
      refine (HS.out.get 0 rfl).opstore rfl rfl rfl Tryz.row16 (by simp [zeros_length]) (by rw [List.length_map]; exact HXX.out) (oneCell_B _) (fun w13 hb ho => hK _ _ ?_)
      clear hK K
      have HS := Lib.hid (HS.out.change 0 hb ho (.inl (by omega)) (fun e he => by have := HNE.out e he; omega))
      clear hb ho HNE hps
      go_simp
      refine walkR_nil ?_
      have HXXM := Lib.hid (show (X.map B).length = 16 by rw [List.length_map]; exact HXX.out)
      have hbp := built_pair W X HWL.out HXX.out
      have hc0 := (HS.out.get 4 rfl).cell 0 (.slice (some ⟨pb, 0, none⟩) np cp) (by rw [HVV.out.1]; rfl)
      have hlp := HS.out.size
      go_wp2_with (first | (refine (HS.out.get 1 rfl).wload rfl rfl rfl Tryz.row16 HWM.out ?_) | (refine (HS.out.get 0 rfl).wload rfl rfl rfl Tryz.row16 HXXM.out ?_) | (refine wpList_built1 312 _ _ _ rfl rfl rfl hbp ?_) | (refine (HS.out.get 5 rfl).wstoreAt (o := i * 32) (cs := W.map B ++ X.map B) rfl rfl rfl rfl Tryz.rowPair (by simp [HWL.out, HXX.out]) (by have := midV_fit (A := A) (R := R) (tl := tl) (M := a ++ b) (by simp [HA.out, HB.out]); rw [HAL.out] at this; exact this) (by intro u hu; rcases List.mem_append.1 hu with hu | hu <;> exact oneCell_B _ _ hu) ?_))
      intro w14 hb14 ho14
      have hb14 : Blk w14 pb (midV A (W ++ X) R tl) 312 := by
        rw [← midV_set (A := A) (M := a ++ b) (C := W ++ X) (R := R) (tl := tl) HAL.out (by simp [HA.out, HB.out, HWL.out, HXX.out])]
        simpa [List.append_assoc] using hb14
      have HS := Lib.hid (show Su w pb w14 [(bx13, X.map B, 88), (bx8, W.map B, 88), (bw2, sum.map B, 88), (bw1, (zeros 16).map B, 88), (bb, V, 283), (pb, midV A (W ++ X) R tl, 312)] from HS.out.change 5 hb14 ho14 (.inr rfl) (by simp; omega))
      clear hb14 ho14 hbp hc0
      have HSL := Lib.hid (plusB_length [sum, X])
      go_wp2_with (first | (refine (HS.out.get 2 rfl).wload rfl rfl rfl Tryz.row16 HXM.out ?_) | (refine (HS.out.get 0 rfl).wload rfl rfl rfl Tryz.row16 HXXM.out ?_) | (refine wpList_rows 85 88 16 2 _ [sum.map B, X.map B] rfl rfl rfl Tryz.underlying85 Tryz.zsBlock rfl (by omega) rfl (by omega) (by omega) (by simp [HX.out, HXX.out]) ?_))
      intro w15 hb hbel
      have HS := Lib.hid (HS.out.later hbel)
      have HR := Lib.hid (show RowsN 16 w15 (some ⟨w14.heap.size, 0, none⟩) [sum, X] from ⟨by simp [HX.out, HXX.out], by have := hb.lies; simpa using this⟩)
      clear hb hbel
      go_wp2_with fail
      refine (cplus_ok (some ⟨w14.heap.size, 0, none⟩) 2 2 [sum, X] _ rfl (by omega) HR.out).mono ?_
      rintro e w16 ⟨rfl, hbel⟩
      have HS := Lib.hid (HS.out.later hbel)
      generalize plusB [sum, X] = s2 at *
      clear hbel HR
      go_wp2_with (refine (HS.out.get 2 rfl).wstore rfl rfl rfl rfl Tryz.row16 HXM.out (by rw [List.length_map]; exact HSL.out) (oneCell_B _) ?_)
      intro w17 hb17 ho17
      have HS := Lib.hid (show Su w pb w17 [(bx13, X.map B, 88), (bx8, W.map B, 88), (bw2, s2.map B, 88), (bw1, (zeros 16).map B, 88), (bb, V, 283), (pb, midV A (W ++ X) R tl, 312)] from HS.out.change 2 hb17 ho17 (.inl (by have := HBB.out; omega)) (by simp; omega))
      have HS := Lib.hid (show Su w pb w17 [(bw2, s2.map B, 88), (bw1, (zeros 16).map B, 88), (bb, V, 283), (pb, (flatP (aheadP k 0 (ps.take (i + 1)) ++ ps.drop (i + 1))).map B ++ tl, 312)] from by rw [HN1.out.1]; exact HS.out.tail2)
      clear hb17 ho17
      go_wp2
      go_roundw
      case rel => exact ⟨i + 1, s2, by omega, by rw [← HI1.out.1], HSL, HE, HS⟩
      case measure => have := HI1.out.1; simp [intOf]; omega
    · obtain rfl : i = np := by omega
      have HE := Lib.hid (show sum = S ∧ True from ⟨by have := HE.out.1; rwa [List.drop_eq_nil_of_le (by rw [HNP.out]; exact Nat.le_refl _)] at this, trivial⟩)
      have HS := Lib.hid (show Su w pb wr [(bw2, sum.map B, 88), (bw1, (zeros 16).map B, 88), (bb, V, 283), (pb, (flatP (aheadP k 0 ps)).map B ++ tl, 312)] from by
        have := HS.out
        rwa [List.drop_eq_nil_of_le (by rw [HNP.out]; exact Nat.le_refl _), List.take_of_length_le (by rw [HNP.out]; exact Nat.le_refl _), List.append_nil] at this)
      go_wp2_with (first | (refine (HS.out.get 0 rfl).wload rfl rfl rfl Tryz.row16 HXM.out ?_) | (refine (HS.out.get 1 rfl).wstore rfl rfl rfl rfl Tryz.row16 (by rw [List.length_map]; exact zeros_length 16) HXM.out (oneCell_B _) ?_))
      intro w6 hb6 ho6
      have HS := Lib.hid (HS.out.change 1 hb6 ho6 (.inl (by have := HBB.out; omega)) (by simp; omega))
      have HP := Lib.hid (HS.out.get 3 rfl)
      go_wp2
      refine hb6.result rfl rfl rfl Tryz.row16 HXM.out ⟨by rw [HE.out.1], HP.out, HS.out.only⟩

end Go.Proofs.YtnkaodjfjllkfaaGreatDoor
/-
  A region that draws its order, part of which is met by an invariant: whatever of M has come up, the invariant tells of the frame and of memory. No program.
-/
set_option linter.unusedVariables false
namespace Go
open Go.RowKit
section
variable {P : Program} {ops : Array Oper} {Q : Exit → Act → World → Prop} {md : Region.Mode}

def subLists : List Nat → List (List Nat)
  | [] => [[]]
  | i :: r => subLists r ++ (subLists r).map (i :: ·)
theorem filter_sub (D : Nat → Bool) : ∀ (M : List Nat), M.filter D ∈ subLists M
  | [] => by simp [subLists]
  | i :: r => by
    have ih := filter_sub D r
    by_cases h : D i = true
    · rw [List.filter_cons_of_pos h]
      exact List.mem_append_right _ (List.mem_map.2 ⟨_, ih, rfl⟩)
    · rw [List.filter_cons_of_neg h]
      exact List.mem_append_left _ ih

/-- What stands ahead of an operation, of M. -/
def needOf (need : List (Nat × List Nat)) (k : Nat) : List Nat := ((need.find? fun p => p.1 == k).map (·.2)).getD []

def Region.checkI (md : Region.Mode) (ops : Array Oper) (M : List Nat) (need : List (Nat × List Nat)) (listed : Array Bool) : Bool :=
  (subLists M).all fun S => (S == M || !(S.all fun k => (needOf need k).all fun d => S.contains d)) || (!(Region.ready md ops (Region.plus listed S)).isEmpty && (Region.ready md ops (Region.plus listed S)).all fun k => M.contains k && !S.contains k && (needOf need k).all fun d => S.contains d)

theorem plus_step (listed : Array Bool) (M : List Nat) (D : Nat → Bool) (k : Nat) (hk : k ∈ M) : Region.plus listed (M.filter fun j => D j || j == k) = (Region.plus listed (M.filter D)).setIfInBounds k true := by
  apply Array.ext_getElem?
  intro j
  rw [plus_at, Array.getElem?_setIfInBounds]
  by_cases e : k = j
  · subst e
    rw [if_pos rfl]
    have hc : (M.filter fun j => D j || j == k).contains k = true := by simp [hk]
    rw [hc]
    by_cases hb : k < listed.size
    · have h2 : k < (Region.plus listed (M.filter D)).size := by
        have := plus_at (M.filter D) listed k
        rw [Array.getElem?_eq_getElem hb] at this
        exact (Array.getElem?_eq_some_iff.1 this).1
      rw [if_pos h2, Array.getElem?_eq_getElem hb]
      simp
    · have h2 : ¬ k < (Region.plus listed (M.filter D)).size := by
        intro h2
        have := plus_at (M.filter D) listed k
        rw [show listed[k]? = none from Array.getElem?_eq_none (by omega), Array.getElem?_eq_getElem h2] at this
        cases this
      rw [if_neg h2, Array.getElem?_eq_none (by omega)]
      rfl
  · rw [if_neg e, plus_at]
    have hc : (M.filter fun j => D j || j == k).contains j = (M.filter D).contains j := by
      rw [Bool.eq_iff_iff]
      simp only [List.contains_iff_mem, List.mem_filter, Bool.or_eq_true, beq_iff_eq]
      constructor
      · rintro ⟨h1, h2 | h2⟩
        · exact ⟨h1, h2⟩
        · exact absurd h2.symm e
      · rintro ⟨h1, h2⟩
        exact ⟨h1, .inl h2⟩
    rw [hc]

theorem wpAnyR_of_I (M : List Nat) (need : List (Nat × List Nat)) (I : (Nat → Bool) → Act → World → Prop) (listed : Array Bool) (R : Nat) (hc : Region.checkI md ops M need listed = true)
    (hstep : ∀ D a w k, k ∈ M → D k = false → (∀ d ∈ needOf need k, D d = true) → I D a w → wpOp P ops Q k (fun a' w' => ((ops[k]?).map Oper.kindR ≠ some 2 → Later w w') ∧ I (fun j => D j || j == k) a' w') a w)
    (hend : ∀ a w fuel, R ≤ fuel → I (fun j => M.contains j) a w → wpAnyR P md ops Q fuel (Region.plus listed M) a w) :
    ∀ (n : Nat) (D : Nat → Bool) (a : Act) (w : World) (fuel : Nat), (M.filter fun j => !D j).length ≤ n → (∀ j, D j = true → j ∈ M) → (∀ j, D j = true → ∀ d ∈ needOf need j, D d = true) → I D a w → n + R ≤ fuel → wpAnyR P md ops Q fuel (Region.plus listed (M.filter D)) a w
  | 0, D, a, w, fuel, hn, hD, hcl, hI, hf => by
    have hall : ∀ j ∈ M, D j = true := by
      intro j hj
      have h0 := List.eq_nil_of_length_eq_zero (Nat.le_zero.1 hn)
      rw [List.filter_eq_nil_iff] at h0
      have := h0 j hj
      simpa using this
    have e1 : M.filter D = M := List.filter_eq_self.2 hall
    have e2 : D = fun j => M.contains j := by
      funext j
      rw [Bool.eq_iff_iff, List.contains_iff_mem]
      exact ⟨hD j, hall j⟩
    rw [e1]
    exact hend a w fuel (by omega) (e2 ▸ hI)
  | n + 1, D, a, w, fuel, hn, hD, hcl, hI, hf => by
    by_cases h0 : (M.filter fun j => !D j).length = 0
    · exact wpAnyR_of_I M need I listed R hc hstep hend 0 D a w fuel (by omega) hD hcl hI (by omega)
    obtain ⟨f, rfl⟩ : ∃ f, fuel = f + 1 := ⟨fuel - 1, by omega⟩
    unfold Region.checkI at hc
    rw [List.all_eq_true] at hc
    have hS := hc _ (filter_sub D M)
    rw [Bool.or_eq_true, Bool.or_eq_true] at hS
    rcases hS with (hS | hS) | hS
    · exfalso
      have e : M.filter D = M := by simpa using hS
      have hall := List.filter_eq_self.1 e
      have h1 : M.filter (fun j => !D j) = [] := by
        rw [List.filter_eq_nil_iff]
        intro j hj
        simp [hall j hj]
      exact h0 (by rw [h1]; rfl)
    · exfalso
      have : ((M.filter D).all fun k => (needOf need k).all fun d => (M.filter D).contains d) = true := by
        rw [List.all_eq_true]
        intro k hk
        rw [List.all_eq_true]
        intro d hd
        have hk' := (List.mem_filter.1 hk).2
        have hd' := hcl k hk' d hd
        rw [List.contains_iff_mem]
        exact List.mem_filter.2 ⟨hD d hd', hd'⟩
      rw [this] at hS
      cases hS
    · rw [Bool.and_eq_true, List.all_eq_true] at hS
      obtain ⟨h1, h2⟩ := hS
      refine ⟨fun h => (by rw [h] at h1; simp at h1), fun k hk => ?_⟩
      have hk2 := h2 k hk
      simp only [Bool.and_eq_true, List.contains_iff_mem, List.all_eq_true, Bool.not_eq_true'] at hk2
      obtain ⟨⟨hkM, hkS⟩, hneed⟩ := hk2
      have hDk : D k = false := by
        cases hd : D k with
        | false => rfl
        | true => rw [← List.contains_iff_mem] at hkM; have : (M.filter D).contains k = true := by simp [hd]; simpa using hkM
                  rw [this] at hkS; cases hkS
      refine wpOp_mono (fun a' w' h' => ⟨h'.1, ?_⟩) (hstep D a w k hkM hDk (fun d hd => by have := hneed d hd; rw [List.mem_filter] at this; exact this.2) hI)
      rw [← plus_step listed M D k hkM]
      refine wpAnyR_of_I M need I listed R (by unfold Region.checkI; rw [List.all_eq_true]; exact hc) hstep hend n _ a' w' f ?_ ?_ ?_ h'.2 (by omega)
      · -- one less
        have key : ∀ (l : List Nat), k ∈ l → (l.filter fun j => !(D j || j == k)).length < (l.filter fun j => !D j).length := by
          intro l
          induction l with
          | nil => intro h; cases h
          | cons x r ih =>
            intro hm
            have hle : ∀ (l : List Nat), (l.filter fun j => !(D j || j == k)).length ≤ (l.filter fun j => !D j).length := by
              intro l
              induction l with
              | nil => simp
              | cons y s ih2 =>
                by_cases hy : D y = true
                · rw [List.filter_cons_of_neg (by simp [hy]), List.filter_cons_of_neg (by simp [hy])]; exact ih2
                · by_cases hyk : y = k
                  · rw [List.filter_cons_of_neg (by simp [hyk]), List.filter_cons_of_pos (by simp [hy])]; simp only [List.length_cons]; omega
                  · rw [List.filter_cons_of_pos (by simp [hy, hyk]), List.filter_cons_of_pos (by simp [hy])]; simp only [List.length_cons]; omega
            by_cases hx : x = k
            · subst hx
              rw [List.filter_cons_of_neg (by simp), List.filter_cons_of_pos (by simp [hDk]), List.length_cons]
              exact Nat.lt_succ_of_le (hle r)
            · have hr : k ∈ r := by
                rcases List.mem_cons.1 hm with h | h
                · exact absurd h.symm hx
                · exact h
              have := ih hr
              by_cases hdx : D x = true
              · rw [List.filter_cons_of_neg (by simp [hdx]), List.filter_cons_of_neg (by simp [hdx])]; exact this
              · rw [List.filter_cons_of_pos (by simp [hdx, hx]), List.filter_cons_of_pos (by simp [hdx])]; simp only [List.length_cons]; omega
        have := key M hkM
        omega
      · intro j hj
        simp only [Bool.or_eq_true, beq_iff_eq] at hj
        rcases hj with hj | rfl
        · exact hD j hj
        · exact hkM
      · intro j hj d hd
        simp only [Bool.or_eq_true, beq_iff_eq] at hj ⊢
        left
        rcases hj with hj | rfl
        · exact hcl j hj d hd
        · have := hneed d hd
          rw [List.mem_filter] at this
          exact this.2

theorem wpOp_do {k : Nat} {o : Oper} {a : Act} {w : World} {K : Act → World → Prop} (ho : ops[k]? = some o) (hg : o.guard = none) (h : o.wp P a w K Q) : wpOp P ops Q k K a w := by
  unfold wpOp
  simp [ho, Region.wanted, hg]
  exact .inl h

theorem wpOp_doK {k : Nat} {o : Oper} {a : Act} {w : World} {G : Act → World → Prop} (ho : ops[k]? = some o) (hg : o.guard = none) (h : ∀ K : Act → World → Prop, (∀ a' w', G a' w' → K a' w') → o.wp P a w K Q) : wpOp P ops Q k G a w :=
  wpOp_do ho hg (h G fun _ _ h => h)

/-- THE LAW: first the order s0 of what only computes or reads, then M in any order, met by the invariant, then the order s2. -/
theorem wp_region_I {id : Nat} {l : List Oper} {a : Act} {w : World} (s0 M s2 : List Nat) (need : List (Nat × List Nat)) (I : (Nat → Bool) → Act → World → Prop) (hm : P.follows .mixedOrders = true)
    (hB : (Region.noSelect l.toArray && (s0.length + (M.length + s2.length) == l.toArray.size) && Region.check0 .any l.toArray s0 (Array.replicate l.toArray.size false) && Region.checkI .any l.toArray M need (s0.foldl (fun l i => l.setIfInBounds i true) (Array.replicate l.toArray.size false)) &&
      Region.checkR .any l.toArray s2 (Region.plus (s0.foldl (fun l i => l.setIfInBounds i true) (Array.replicate l.toArray.size false)) M)) = true)
    (h : ∀ w', w' = w.drew → walk0 P l.toArray (fun a w1 => I (fun _ => false) a w1) s0 a w')
    (hstep : ∀ D a w k, k ∈ M → D k = false → (∀ d ∈ needOf need k, D d = true) → I D a w → wpOp P l.toArray (NoPanic Q) k (fun a' w' => ((l.toArray[k]?).map Oper.kindR ≠ some 2 → Later w w') ∧ I (fun j => D j || j == k) a' w') a w)
    (hend : ∀ a w, I (fun j => M.contains j) a w → walkR P l.toArray (NoPanic Q) s2 a w) : (Code.region id l.toArray true).wp P Q a w := by
  simp only [Bool.and_eq_true, beq_iff_eq] at hB
  obtain ⟨⟨⟨⟨hs, hl⟩, h0⟩, hI⟩, hR⟩ := hB
  refine wp_region_noPanic (wp_region_any hm (wpAny_of_R _ _ _ _ ?_))
  suffices key : wpAnyR P .any l.toArray (NoPanic Q) (s0.length + (M.length + s2.length)) (Array.replicate l.toArray.size false) a w.drew by
    rw [hl] at key; exact key
  refine wpAnyR_of_0 hs (fun c a w hq => hq) _ _ s0 _ a w.drew h0 (h _ rfl) ?_
  intro a1 w1 h1
  have := wpAnyR_of_I M need I _ s2.length hI hstep (fun a w fuel hf hk => wpAnyR_fuel _ _ _ _ _ hf (wpAnyR_of_walk hs (fun c a w hq => hq) s2 _ a w hR (hend a w hk))) M.length (fun _ => false) a1 w1 (M.length + s2.length) (List.length_filter_le _ _) (by simp) (by simp) h1 (Nat.le_refl _)
  rw [show M.filter (fun _ => false) = [] from List.filter_eq_nil_iff.2 (by simp)] at this
  exact this
end
end Go
/-
  The walks of ezcore: the pairs' second turn.
-/
set_option linter.unusedSimpArgs false
set_option linter.unusedVariables false
namespace Go.Cells
open Go.RowKit
theorem opvar1 {P : Program} {w : World} {o : Oper} {a : Act} {K : Act → World → Prop} {Q : Exit → Act → World → Prop} (t : TypeId) (vs : List Value) (z : Value)
    (ho : o.op = .alloc t) (hz : (P.info? t).map (·.zero) = some (some z)) (hv : z.cells = vs.toArray)
    (k : ∀ w', Blk w' w.heap.size vs t → Below w.heap.size w w' → K (a.put o.dst (.pointer (some ⟨w.heap.size, 0, none⟩))) w') : o.wp P a w K Q := by
  have hk := k (w.alloc (.cells vs.toArray t)) (Blk.new w vs t) (later_alloc w _)
  cases hq : P.info? t with
  | none => rw [hq] at hz; cases hz
  | some x =>
    rw [hq] at hz
    have hx : x.zero = some z := by simpa using hz
    unfold Oper.wp
    simp [execOp, ho, Instr.alloc, zeroValue, typeInfo, hq, hx, newVar, newRow, hv]
    exact hk
end Go.Cells
namespace Go.Proofs.YtnkaodjfjllkfaaGreatDoor
open Go.RowKit Go.Mem Go.Ops Go.Cells Go.Oct Go.Gf Go.Trn Go.Aes Go.Ring Go.Ezk Go.Ezh Go.Ezt Go.Ezc Go.CutP Go.Fl
set_option maxRecDepth 100000
attribute [local irreducible] walkR walkP walk0 walkB walkK

/-- What has come up of the two sums. -/
structure BI (D : Nat → Bool) (base : Nat) (w : World) (v10 v11 v31 v32 v40 v41 : Value) (a b E Y U : List UInt8) : Prop where
  r7 : D 7 = true → ∃ n, v31 = .slice (some ⟨n, 0, none⟩) 2 2 ∧ RowsN 16 w (some ⟨n, 0, none⟩) [a, E]
  r16 : D 16 = true → ∃ n, v40 = .slice (some ⟨n, 0, none⟩) 2 2 ∧ RowsN 16 w (some ⟨n, 0, none⟩) [b, E]
  r8 : D 8 = true → v32 = .agg (Y.map B).toArray
  r17 : D 17 = true → v41 = .agg (U.map B).toArray
  r18 : D 18 = true → ∃ n, v10 = .pointer (some ⟨n, 0, none⟩) ∧ base ≤ n ∧ Blk w n ((zeros 16).map B) 88
  r19 : D 19 = true → ∃ n, v11 = .pointer (some ⟨n, 0, none⟩) ∧ base ≤ n ∧ Blk w n ((zeros 16).map B) 88
  ne : D 18 = true → D 19 = true → v10 ≠ v11
section
variable {D : Nat → Bool} {base : Nat} {w w' : World} {v10 v11 v31 v32 v40 v41 : Value} {a b E Y U : List UInt8}
theorem BI.nought (v10 v11 v31 v32 v40 v41 : Value) : BI (fun _ => false) base w v10 v11 v31 v32 v40 v41 a b E Y U :=
  ⟨fun h => (by cases h), fun h => (by cases h), fun h => (by cases h), fun h => (by cases h), fun h => (by cases h), fun h => (by cases h), fun h => (by cases h)⟩
theorem BI.later (h : BI D base w v10 v11 v31 v32 v40 v41 a b E Y U) (hb : Below w.heap.size w w') : BI D base w' v10 v11 v31 v32 v40 v41 a b E Y U :=
  ⟨fun x => by obtain ⟨n, e, r⟩ := h.r7 x; exact ⟨n, e, r.below hb⟩, fun x => by obtain ⟨n, e, r⟩ := h.r16 x; exact ⟨n, e, r.below hb⟩, h.r8, h.r17,
   fun x => by obtain ⟨n, e, r, s⟩ := h.r18 x; exact ⟨n, e, r, s.below hb s.lt⟩, fun x => by obtain ⟨n, e, r, s⟩ := h.r19 x; exact ⟨n, e, r, s.below hb s.lt⟩, h.ne⟩
theorem BI.s7 (h : BI D base w v10 v11 v31 v32 v40 v41 a b E Y U) {n : Nat} (hr : RowsN 16 w (some ⟨n, 0, none⟩) [a, E]) : BI (fun j => D j || j == 7) base w v10 v11 (.slice (some ⟨n, 0, none⟩) 2 2) v32 v40 v41 a b E Y U :=
  ⟨fun _ => ⟨n, rfl, hr⟩, fun x => h.r16 (by simpa using x), fun x => h.r8 (by simpa using x), fun x => h.r17 (by simpa using x), fun x => h.r18 (by simpa using x), fun x => h.r19 (by simpa using x), fun x y => h.ne (by simpa using x) (by simpa using y)⟩
theorem BI.s16 (h : BI D base w v10 v11 v31 v32 v40 v41 a b E Y U) {n : Nat} (hr : RowsN 16 w (some ⟨n, 0, none⟩) [b, E]) : BI (fun j => D j || j == 16) base w v10 v11 v31 v32 (.slice (some ⟨n, 0, none⟩) 2 2) v41 a b E Y U :=
  ⟨fun x => h.r7 (by simpa using x), fun _ => ⟨n, rfl, hr⟩, fun x => h.r8 (by simpa using x), fun x => h.r17 (by simpa using x), fun x => h.r18 (by simpa using x), fun x => h.r19 (by simpa using x), fun x y => h.ne (by simpa using x) (by simpa using y)⟩
theorem BI.s8 (h : BI D base w v10 v11 v31 v32 v40 v41 a b E Y U) : BI (fun j => D j || j == 8) base w v10 v11 v31 (.agg (Y.map B).toArray) v40 v41 a b E Y U :=
  ⟨fun x => h.r7 (by simpa using x), fun x => h.r16 (by simpa using x), fun _ => rfl, fun x => h.r17 (by simpa using x), fun x => h.r18 (by simpa using x), fun x => h.r19 (by simpa using x), fun x y => h.ne (by simpa using x) (by simpa using y)⟩
theorem BI.s17 (h : BI D base w v10 v11 v31 v32 v40 v41 a b E Y U) : BI (fun j => D j || j == 17) base w v10 v11 v31 v32 v40 (.agg (U.map B).toArray) a b E Y U :=
  ⟨fun x => h.r7 (by simpa using x), fun x => h.r16 (by simpa using x), fun x => h.r8 (by simpa using x), fun _ => rfl, fun x => h.r18 (by simpa using x), fun x => h.r19 (by simpa using x), fun x y => h.ne (by simpa using x) (by simpa using y)⟩
theorem BI.s18 (h : BI D base w v10 v11 v31 v32 v40 v41 a b E Y U) (hB : base ≤ w.heap.size) (hbl : Blk w' w.heap.size ((zeros 16).map B) 88) (hb : Below w.heap.size w w') : BI (fun j => D j || j == 18) base w' (.pointer (some ⟨w.heap.size, 0, none⟩)) v11 v31 v32 v40 v41 a b E Y U := by
  have h' := h.later hb
  refine ⟨fun x => h'.r7 (by simpa using x), fun x => h'.r16 (by simpa using x), fun x => h'.r8 (by simpa using x), fun x => h'.r17 (by simpa using x), fun _ => ⟨_, rfl, hB, hbl⟩, fun x => h'.r19 (by simpa using x), fun _ y => ?_⟩
  obtain ⟨n, e, _, s⟩ := h.r19 (by simpa using y)
  rw [e]
  intro hh
  have := s.lt
  simp at hh
  try omega
theorem BI.s19 (h : BI D base w v10 v11 v31 v32 v40 v41 a b E Y U) (hB : base ≤ w.heap.size) (hbl : Blk w' w.heap.size ((zeros 16).map B) 88) (hb : Below w.heap.size w w') : BI (fun j => D j || j == 19) base w' v10 (.pointer (some ⟨w.heap.size, 0, none⟩)) v31 v32 v40 v41 a b E Y U := by
  have h' := h.later hb
  refine ⟨fun x => h'.r7 (by simpa using x), fun x => h'.r16 (by simpa using x), fun x => h'.r8 (by simpa using x), fun x => h'.r17 (by simpa using x), fun x => h'.r18 (by simpa using x), fun _ => ⟨_, rfl, hB, hbl⟩, fun x _ => ?_⟩
  obtain ⟨n, e, _, s⟩ := h.r18 (by simpa using x)
  rw [e]
  intro hh
  have := s.lt
  simp at hh
  try omega
end
theorem behindP_snoc (k : Parts) (z : List UInt8) : ∀ (ps : Pairs) (n : Nat) (p : List UInt8 × List UInt8), behindP k z n (ps ++ [p]) = behindP k z n ps ++ [(firstOf k z (n + ps.length) p, secondOf k z (n + ps.length) p)]
  | [], n, p => by simp [behindP]
  | q :: ps, n, p => by
    simp only [List.cons_append, behindP, behindP_snoc k z ps (n + 1) p, List.length_cons]
    rw [show n + 1 + ps.length = n + (ps.length + 1) by omega]

set_option maxHeartbeats 8000000 in
theorem behind_ok (kp q p : Nat) (k : Parts) (pb np cp : Nat) (ps : Pairs) (tl : List Value) (uv vv : Value) (x y z : List UInt8) (w : World) (hk : EKey w kp q p k) (hnp : ps.length = np) (hf : ∀ r ∈ ps, PairFit r) (hz : z.length = 16)
    (hp : Blk w pb ((flatP ps).map B ++ tl) 312) (hb : np ≤ 900) :
    Calls Tryz.prog 201 #[.agg (msgV (.slice (some ⟨pb, 0, none⟩) np cp) uv vv x y).toArray, .pointer (some ⟨kp, 0, none⟩), .agg (z.map B).toArray] w fun e w' => e = .returned (.agg ((behindS k z 0 (zeros 16) ps).map B).toArray) ∧ Blk w' pb ((flatP (behindP k z 0 ps)).map B ++ tl) 312 ∧ OnlyB pb w w' := by
  have n1 : kp ≠ pb := hk.blk.ne' hp (by decide)
  have n2 : q ≠ pb := hk.tab.tab.ne' hp (by decide)
  have n3 : p ≠ pb := hk.tab.boxes.ne' hp (by decide)
  have HK := Lib.hid hk
  have HNP := Lib.hid hnp
  have HF := Lib.hid hf
  have HZ := Lib.hid hz
  have HZM := Lib.hid (show (z.map B).length = 16 by rw [List.length_map]; exact hz)
  have hpb := hp.lt
  have HS := Lib.hid ((Su.start pb w).add hp)
  obtain ⟨V, hV⟩ : ∃ V, V = msgV (.slice (some ⟨pb, 0, none⟩) np cp) uv vv x y := ⟨_, rfl⟩
  have HVV := Lib.hid (show V = msgV (.slice (some ⟨pb, 0, none⟩) np cp) uv vv x y ∧ True from ⟨hV, trivial⟩)
  obtain ⟨S, hS⟩ : ∃ S, S = behindS k z 0 (zeros 16) ps := ⟨_, rfl⟩
  have HSS := Lib.hid (show behindS k z 0 (zeros 16) ps = S ∧ True from ⟨hS.symm, trivial⟩)
  rw [← hV, ← hS]
  clear hk hnp hf hp hV hS hz
  go_enter Tryz.func201, Tryz.ntmps201
  go_wp2_with (refine wpList_box 283 _ (V) _ rfl rfl rfl rfl ?_)
  intro w1 hb hbel; have HS := Lib.hid (HS.out.push hb hbel); have hlt1 := hb.lt; clear hb hbel
  go_wp2_with (refine wpList_box 88 _ (z.map B) _ rfl rfl rfl rfl ?_)
  intro w2 hb hbel; have HS := Lib.hid (HS.out.push hb hbel); have hlt2 := hb.lt; clear hb hbel
  go_wp2_with (refine wpList_var 88 ((zeros 16).map B) _ rfl rfl Tryz.zero16 rfl ?_)
  intro w3 hb hbel; have HS := Lib.hid (HS.out.push hb hbel); have hlt3 := hb.lt; clear hb hbel
  go_wp2_with (refine wpList_var 88 ((zeros 16).map B) _ rfl rfl Tryz.zero16 rfl ?_)
  intro w4 hb hbel; have HS := Lib.hid (HS.out.push hb hbel); have hlt4 := hb.lt; clear hb hbel
  generalize hbb : w.heap.size = bb at *
  generalize w1.heap.size = bw1 at *
  generalize w2.heap.size = bw2 at *
  generalize w3.heap.size = bw3 at *
  have HBB := Lib.hid hbb
  clear hbb
  have hc0 := (HS.out.get 3 rfl).cell 0 (.slice (some ⟨pb, 0, none⟩) np cp) (by rw [HVV.out.1]; rfl)
  go_wp2
  go_loopw [16] (fun c wr => ∃ (i : Nat) (sum : List UInt8), i ≤ np ∧ c = .int .i64 i ∧ Hid (sum.length = 16) ∧ Hid (behindS k z i sum (ps.drop i) = S ∧ True) ∧ Hid (Su w pb wr [(bw3, sum.map B, 88), (bw2, (zeros 16).map B, 88), (bw1, z.map B, 88), (bb, V, 283), (pb, (flatP (behindP k z 0 (ps.take i) ++ ps.drop i)).map B ++ tl, 312)])) (fun c _ => np - (intOf c).toNat)
  case atStart => exact ⟨0, zeros 16, by omega, rfl, Lib.hid (zeros_length 16), HSS, HS⟩
  case round =>
    clear HS hc0
    obtain ⟨i, sum, hi, rfl, HX, HE, HS⟩ := hrel
    have HXM := Lib.hid (show (sum.map B).length = 16 by rw [List.length_map]; exact HX.out)
    have hr2 := (HS.out.get 0 rfl).lt
    by_cases hlt : i < np
    · obtain ⟨⟨a, b⟩, hpi⟩ : ∃ r, ps[i]? = some r := ⟨ps[i]'(by rw [HNP.out]; exact hlt), by simp⟩
      have hd := drop_at hpi
      have hab := HF.out _ (List.mem_of_getElem? hpi)
      have HA := Lib.hid (show a.length = 16 from hab.1)
      have HB := Lib.hid (show b.length = 16 from hab.2)
      have HAM := Lib.hid (show (a.map B).length = 16 by rw [List.length_map]; exact hab.1)
      have HBM := Lib.hid (show (b.map B).length = 16 by rw [List.length_map]; exact hab.2)
      have hAl : (flatP (behindP k z 0 (ps.take i))).length = i * 32 := by
        rw [flatP_length _ (behindP_fit k z _ _), behindP_length, List.length_take, HNP.out]; omega
      have hn1 : flatP (behindP k z 0 (ps.take (i + 1)) ++ ps.drop (i + 1)) = flatP (behindP k z 0 (ps.take i)) ++ (firstOf k z i (a, b) ++ secondOf k z i (a, b)) ++ flatP (ps.drop (i + 1)) := by
        rw [take_snoc' hpi, behindP_snoc, List.length_take, HNP.out, show 0 + min i np = i by omega, flatP_append, flatP_snoc]
      have he := HE.out.1
      rw [hd] at he
      have HE := Lib.hid (show behindS k z (i + 1) (plusB [sum, yOf k z i (a, b)]) (ps.drop (i + 1)) = S ∧ True from ⟨he, trivial⟩)
      have hs := HS.out
      rw [hd, flatP_append, show flatP ((a, b) :: ps.drop (i + 1)) = a ++ b ++ flatP (ps.drop (i + 1)) from rfl, ← List.append_assoc] at hs
      have HN1 := Lib.hid (And.intro hn1 trivial)
      obtain ⟨A, hA⟩ : ∃ A, A = flatP (behindP k z 0 (ps.take i)) := ⟨_, rfl⟩
      obtain ⟨R, hR⟩ : ∃ R, R = flatP (ps.drop (i + 1)) := ⟨_, rfl⟩
      rw [← hA, ← hR] at hs HN1
      rw [← hA] at hAl
      have HAL := Lib.hid hAl
      have HS := Lib.hid (show Su w pb wr [(bw3, sum.map B, 88), (bw2, (zeros 16).map B, 88), (bw1, z.map B, 88), (bb, V, 283), (pb, midV A (a ++ b) R tl, 312)] from hs)
      clear hpi hd hab hAl hn1 he hs hA hR
      obtain ⟨i1, hi1⟩ : ∃ i1, i1 = i + 1 := ⟨_, rfl⟩
      have hni : (i : Int) + 1 = (i1 : Int) := by omega
      have hi9 : i1 ≤ 1000 := by omega
      have HI1 := Lib.hid (show i1 = i + 1 ∧ True from ⟨hi1, trivial⟩)
      -- the names of what comes up
      obtain ⟨E, hE⟩ : ∃ E, E = eBlk k 2 i1 z := ⟨_, rfl⟩
      obtain ⟨Y, hY⟩ : ∃ Y, Y = yOf k z i (a, b) := ⟨_, rfl⟩
      obtain ⟨U, hU⟩ : ∃ U, U = vOf k z i (a, b) := ⟨_, rfl⟩
      obtain ⟨C, hC⟩ : ∃ C, C = secondOf k z i (a, b) := ⟨_, rfl⟩
      obtain ⟨F, hF⟩ : ∃ F, F = firstOf k z i (a, b) := ⟨_, rfl⟩
      have HEE := Lib.hid (show eBlk k 2 i1 z = E ∧ True from ⟨hE.symm, trivial⟩)
      have HY1 := Lib.hid (show plusB [a, E] = Y ∧ True from ⟨by rw [hY, hE, hi1]; rfl, trivial⟩)
      have HU1 := Lib.hid (show plusB [b, E] = U ∧ True from ⟨by rw [hU, hE, hi1]; rfl, trivial⟩)
      have HC1 := Lib.hid (show plusB [Y, eBlk k 0 0 U] = C ∧ True from ⟨by rw [hC, hY, hU]; rfl, trivial⟩)
      have HF1 := Lib.hid (show plusB [U, eBlk k 1 i1 C] = F ∧ True from ⟨by rw [hF, hC, hU, hi1]; rfl, trivial⟩)
      have HEL := Lib.hid (show E.length = 16 by rw [hE]; exact eBlk_length _ _ _ _)
      have HYL := Lib.hid (show Y.length = 16 by rw [hY]; exact yOf_length _ _ _ _)
      have HUL := Lib.hid (show U.length = 16 by rw [hU]; exact vOf_length _ _ _ _)
      have HCL := Lib.hid (show C.length = 16 by rw [hC]; exact secondOf_length _ _ _ _)
      have HFL := Lib.hid (show F.length = 16 by rw [hF]; exact firstOf_length _ _ _ _)
      rw [← hY] at HE
      rw [← hF, ← hC] at HN1
      clear hi1 hE hY hU hC hF
      have HEM := Lib.hid (show (E.map B).length = 16 by rw [List.length_map]; exact HEL.out)
      have HYM := Lib.hid (show (Y.map B).length = 16 by rw [List.length_map]; exact HYL.out)
      have HUM := Lib.hid (show (U.map B).length = 16 by rw [List.length_map]; exact HUL.out)
      have HCM := Lib.hid (show (C.map B).length = 16 by rw [List.length_map]; exact HCL.out)
      have HFM := Lib.hid (show (F.map B).length = 16 by rw [List.length_map]; exact HFL.out)
      go_wp2_with (refine (HS.out.get 2 rfl).wload rfl rfl rfl Tryz.row16 HZM.out ?_)
      go_wp2_with fail
      refine (e_ok kp q p 2 i1 k z _ (HK.out.onlyB HS.out.only n1 n2 n3) (by omega) hi9 HZ.out).mono ?_
      rintro e w5 ⟨rfl, hbel⟩
      rw [HEE.out.1]
      have HS := Lib.hid (HS.out.later hbel)
      have hz5 := hbel.size
      clear hbel
      go_wp2_with (refine wpList_var 88 ((zeros 16).map B) _ rfl rfl Tryz.zero16 rfl ?_)
      intro w6 hb hbel; have HS := Lib.hid (HS.out.push hb hbel); have hlt6 := hb.lt; clear hb hbel
      go_wp2_with (refine (HS.out.get 0 rfl).wstore rfl rfl rfl rfl Tryz.row16 (by rw [List.length_map]; exact zeros_length 16) HEM.out (oneCell_B _) ?_)
      intro w7 hb7 ho7
      have HS := Lib.hid (show Su w pb w7 [(w5.heap.size, E.map B, 88), (bw3, sum.map B, 88), (bw2, (zeros 16).map B, 88), (bw1, z.map B, 88), (bb, V, 283), (pb, midV A (a ++ b) R tl, 312)] from HS.out.change 0 hb7 ho7 (.inl (by have := HBB.out; omega)) (by simp; omega))
      clear hb7 ho7
      generalize w5.heap.size = be at *
      have hr7 := (HS.out.get 0 rfl).lt
      have hc0 := fun (z : After w7.drew) => ((HS.out.drew.later z.later).get 4 rfl).cell 0 (.slice (some ⟨pb, 0, none⟩) np cp) (by rw [HVV.out.1]; rfl)
      go_wp2_with fail
      refine wp_region_I [0, 1, 2, 3, 4, 5, 6, 9, 10, 11, 12, 13, 14, 15] [7, 8, 16, 17, 18, 19] [20, 21] [(8, [7]), (17, [8, 16])] (fun D x wx => ∃ v10 v11 v31 v32 v40 v41, x = { tmps := #[.agg V.toArray, .pointer (some ⟨kp, 0, none⟩), .agg (z.map B).toArray, .pointer (some ⟨bb, 0, none⟩), undef, .pointer (some ⟨bw1, 0, none⟩), .pointer (some ⟨bw2, 0, none⟩), .pointer (some ⟨bw3, 0, none⟩), .int .i64 i, .pointer (some ⟨be, 0, none⟩), v10, v11, u12, .pointer (some ⟨bb, 0, none⟩), .slice (some ⟨pb, 0, none⟩) np cp, .int .i64 np, .int .i64 i, .bool true, .int .i64 i, .pointer (some ⟨kp, 0, none⟩), .int .i64 i, .int .i64 i1, .agg (z.map B).toArray, .agg (E.map B).toArray, .pointer (some ⟨bb, 0, none⟩), .slice (some ⟨pb, 0, none⟩) np cp, .int .i64 i, .pointer (some ⟨pb, i * 32, none⟩), .pointer (some ⟨pb, i * 32, none⟩), .agg (a.map B).toArray, .agg (E.map B).toArray, v31, v32, .pointer (some ⟨bb, 0, none⟩), .slice (some ⟨pb, 0, none⟩) np cp, .int .i64 i, .pointer (some ⟨pb, i * 32, none⟩), .pointer (some ⟨pb, i * 32 + 16, none⟩), .agg (b.map B).toArray, .agg (E.map B).toArray, v40, v41, u42, u43, u44, u45, u46, u47, u48, u49, u50, u51, u52, u53, u54, u55, u56, u57, u58, u59, u60, u61, u62, u63, u64, u65, u66, undef], defers := [] } ∧ Hid (Su w pb wx [(be, E.map B, 88), (bw3, sum.map B, 88), (bw2, (zeros 16).map B, 88), (bw1, z.map B, 88), (bb, V, 283), (pb, midV A (a ++ b) R tl, 312)]) ∧ w7.heap.size ≤ wx.heap.size ∧ Hid (BI D w7.heap.size wx v10 v11 v31 v32 v40 v41 a b E Y U)) (by kernel_rfl) (by kernel_rfl) ?_ ?_ ?_
      · rintro w8 rfl
        have HS := Lib.hid HS.out.drew
        (refine walk0_one rfl rfl rfl (fun K hK => ?_); go_big_quiet_step (fail); refine wpQuiet_nil (hK _ ?_); clear hK K); (refine walk0_one rfl rfl rfl (fun K hK => ?_); go_big_quiet_step (fail); refine wpQuiet_nil (hK _ ?_); clear hK K); (refine walk0_one rfl rfl rfl (fun K hK => ?_); go_big_quiet_step (fail); refine wpQuiet_nil (hK _ ?_); clear hK K); (refine walk0_one rfl rfl rfl (fun K hK => ?_); go_big_quiet_step (fail); refine wpQuiet_nil (hK _ ?_); clear hK K); (refine walk0_one rfl rfl rfl (fun K hK => ?_); go_big_quiet_step (fail); refine wpQuiet_nil (hK _ ?_); clear hK K)
        refine walk0_load (Blk.rangeIn (HS.out.get 5 rfl) (i * 32) 16 _ (by exact midV_left HAL.out HA.out)) (HS.out.get 5 rfl).lt Tryz.row16 HAM.out rfl rfl rfl (fun K hK => ?_)
        go_simp; refine hK _ ?_; clear hK K
        refine walk0_load (HS.out.get 0 rfl).range (HS.out.get 0 rfl).lt Tryz.row16 HEM.out rfl rfl rfl (fun K hK => ?_)
        go_simp; refine hK _ ?_; clear hK K
        (refine walk0_one rfl rfl rfl (fun K hK => ?_); go_big_quiet_step (fail); refine wpQuiet_nil (hK _ ?_); clear hK K); (refine walk0_one rfl rfl rfl (fun K hK => ?_); go_big_quiet_step (fail); refine wpQuiet_nil (hK _ ?_); clear hK K); (refine walk0_one rfl rfl rfl (fun K hK => ?_); go_big_quiet_step (fail); refine wpQuiet_nil (hK _ ?_); clear hK K); (refine walk0_one rfl rfl rfl (fun K hK => ?_); go_big_quiet_step (fail); refine wpQuiet_nil (hK _ ?_); clear hK K); (refine walk0_one rfl rfl rfl (fun K hK => ?_); go_big_quiet_step (fail); refine wpQuiet_nil (hK _ ?_); clear hK K)
        refine walk0_load (Blk.rangeIn (HS.out.get 5 rfl) (i * 32 + 16) 16 _ (by exact midV_right HAL.out HA.out HB.out)) (HS.out.get 5 rfl).lt Tryz.row16 HBM.out rfl rfl rfl (fun K hK => ?_)
        go_simp; refine hK _ ?_; clear hK K
        refine walk0_load (HS.out.get 0 rfl).range (HS.out.get 0 rfl).lt Tryz.row16 HEM.out rfl rfl rfl (fun K hK => ?_)
        go_simp; refine hK _ ?_; clear hK K
        refine walk0_nil ⟨_, _, _, _, _, _, rfl, HS, Nat.le_refl _, BI.nought _ _ _ _ _ _⟩
      · clear hc0
        rintro D x wx kk hkM hDk hneed ⟨v10, v11, v31, v32, v40, v41, rfl, HS, hsz, HBI⟩
        simp only [List.mem_cons, List.not_mem_nil, or_false] at hkM
        rcases hkM with rfl | rfl | rfl | rfl | rfl | rfl
        · refine wpOp_doK rfl rfl (fun K hK => ?_)
          refine oprows 85 88 16 2 _ [a.map B, E.map B] rfl rfl Tryz.underlying85 Tryz.zsBlock rfl (by omega) rfl (by omega) (by omega) (by simp [HA.out, HEL.out]) (fun w' hb hbel => hK _ _ ?_)
          exact ⟨fun _ => hbel, v10, v11, .slice (some ⟨wx.heap.size, 0, none⟩) 2 2, v32, v40, v41, rfl, HS.out.later hbel, Nat.le_trans hsz hbel.size, (HBI.out.later hbel).s7 ⟨by simp [HA.out, HEL.out], by have := hb.lies; simpa using this⟩⟩
        · obtain ⟨n, rfl, hr⟩ := HBI.out.r7 (hneed 7 (by simp [needOf]))
          refine wpOp_doK rfl rfl (fun K hK => ?_)
          go_simp
          refine (cplus_ok (some ⟨n, 0, none⟩) 2 2 [a, E] _ rfl (by omega) hr).mono ?_
          rintro e w' ⟨rfl, hbel⟩
          rw [HY1.out.1]
          go_simp
          refine hK _ _ ?_
          exact ⟨fun _ => hbel, v10, v11, _, .agg (Y.map B).toArray, v40, v41, rfl, HS.out.later hbel, Nat.le_trans hsz hbel.size, (HBI.out.later hbel).s8⟩
        · refine wpOp_doK rfl rfl (fun K hK => ?_)
          refine oprows 85 88 16 2 _ [b.map B, E.map B] rfl rfl Tryz.underlying85 Tryz.zsBlock rfl (by omega) rfl (by omega) (by omega) (by simp [HB.out, HEL.out]) (fun w' hb hbel => hK _ _ ?_)
          exact ⟨fun _ => hbel, v10, v11, v31, v32, .slice (some ⟨wx.heap.size, 0, none⟩) 2 2, v41, rfl, HS.out.later hbel, Nat.le_trans hsz hbel.size, (HBI.out.later hbel).s16 ⟨by simp [HB.out, HEL.out], by have := hb.lies; simpa using this⟩⟩
        · obtain ⟨n, rfl, hr⟩ := HBI.out.r16 (hneed 16 (by simp [needOf]))
          refine wpOp_doK rfl rfl (fun K hK => ?_)
          go_simp
          refine (cplus_ok (some ⟨n, 0, none⟩) 2 2 [b, E] _ rfl (by omega) hr).mono ?_
          rintro e w' ⟨rfl, hbel⟩
          rw [HU1.out.1]
          go_simp
          refine hK _ _ ?_
          exact ⟨fun _ => hbel, v10, v11, v31, v32, _, .agg (U.map B).toArray, rfl, HS.out.later hbel, Nat.le_trans hsz hbel.size, (HBI.out.later hbel).s17⟩
        · refine wpOp_doK rfl rfl (fun K hK => ?_)
          refine opvar1 88 ((zeros 16).map B) _ rfl Tryz.zero16 rfl (fun w' hb hbel => hK _ _ ?_)
          exact ⟨fun _ => hbel, .pointer (some ⟨wx.heap.size, 0, none⟩), v11, v31, v32, v40, v41, rfl, HS.out.later hbel, Nat.le_trans hsz hbel.size, HBI.out.s18 hsz hb hbel⟩
        · refine wpOp_doK rfl rfl (fun K hK => ?_)
          refine opvar1 88 ((zeros 16).map B) _ rfl Tryz.zero16 rfl (fun w' hb hbel => hK _ _ ?_)
          exact ⟨fun _ => hbel, v10, .pointer (some ⟨wx.heap.size, 0, none⟩), v31, v32, v40, v41, rfl, HS.out.later hbel, Nat.le_trans hsz hbel.size, HBI.out.s19 hsz hb hbel⟩
      · clear hc0
        rintro x wx ⟨v10, v11, v31, v32, v40, v41, rfl, HS, hsz, HBI⟩
        obtain ⟨n, rfl, hn1, hn2⟩ := HBI.out.r18 rfl
        obtain ⟨m, rfl, hm1, hm2⟩ := HBI.out.r19 rfl
        obtain rfl := HBI.out.r8 rfl
        obtain rfl := HBI.out.r17 rfl
        have hnm : n ≠ m := fun e => HBI.out.ne rfl rfl (by rw [e])
        have HS := Lib.hid ((HS.out.add hn2).add hm2)
        clear HBI hn2 hm2
        refine walkR_free rfl rfl (by rfl) (fun K hK => ?_)
        refine (HS.out.get 1 rfl).opstore rfl rfl rfl Tryz.row16 (by simp [zeros_length]) HYM.out (oneCell_B _) (fun w9 hb ho => hK _ _ ?_)
        clear hK K
        have HS := Lib.hid (show Su w pb w9 ([(m, (zeros 16).map B, 88), (n, (zeros 16).map B, 88), (be, E.map B, 88), (bw3, sum.map B, 88), (bw2, (zeros 16).map B, 88), (bw1, z.map B, 88), (bb, V, 283), (pb, midV A (a ++ b) R tl, 312)].set 1 (n, Y.map B, 88)) from HS.out.change 1 hb ho (.inl (by have := HBB.out; omega)) (by simp; omega))
        clear hb ho
        go_simp
        refine walkR_free rfl rfl (by rfl) (fun K hK => ?_)
        refine (HS.out.get 0 rfl).opstore rfl rfl rfl Tryz.row16 (by simp [zeros_length]) HUM.out (oneCell_B _) (fun w10 hb ho => hK _ _ ?_)
        clear hK K
        have HS := Lib.hid (show Su w pb w10 ([(m, (zeros 16).map B, 88), (n, Y.map B, 88), (be, E.map B, 88), (bw3, sum.map B, 88), (bw2, (zeros 16).map B, 88), (bw1, z.map B, 88), (bb, V, 283), (pb, midV A (a ++ b) R tl, 312)].set 0 (m, U.map B, 88)) from HS.out.change 0 hb ho (.inl (by have := HBB.out; omega)) (by simp; omega))
        clear hb ho
        go_simp
        refine walkR_nil ?_
        have hn9 := (HS.out.get 1 rfl).lt
        have hm9 := (HS.out.get 0 rfl).lt
        have HNE := Lib.hid HS.out.ne
        have hps := HS.out.size
        go_wp2_with fail
        refine wp_region_P [0, 1, 2] [3, 4, 5] [7] [Floater.var 6 12 88 ((zeros 16).map B)] (by kernel_rfl) (by kernel_rfl) ?_
        rintro w11 rfl
        have HS := Lib.hid HS.out.drew
        refine walk0_load (HS.out.get 1 rfl).range (HS.out.get 1 rfl).lt Tryz.row16 HYM.out rfl rfl rfl (fun K hK => ?_)
        go_simp; refine hK _ ?_; clear hK K
        (refine walk0_one rfl rfl rfl (fun K hK => ?_); go_big_quiet_step (fail); refine wpQuiet_nil (hK _ ?_); clear hK K)
        refine walk0_load (HS.out.get 0 rfl).range (HS.out.get 0 rfl).lt Tryz.row16 HUM.out rfl rfl rfl (fun K hK => ?_)
        go_simp; refine hK _ ?_; clear hK K
        refine walk0_nil ⟨?_, ?_, Nat.le_refl _⟩
        · intro f hf
          simp only [List.mem_singleton] at hf
          subst hf
          exact fits_var _ _ _ _ _ _ rfl rfl rfl rfl (by simp) Tryz.zero16 rfl
        refine walkP_call1 rfl rfl (fun uz wa12 hla K hK => ?_)
        go_simp
        have HS := Lib.hid (HS.out.later hla)
        refine (e_ok kp q p 0 0 k U _ (HK.out.onlyB HS.out.only n1 n2 n3) (by omega) (by omega) HUL.out).mono ?_
        rintro e w12 ⟨rfl, hbel⟩
        have HS := Lib.hid (HS.out.later hbel)
        go_simp
        refine hK _ _ hbel ?_
        clear hK K hbel hla
        have HUEL := Lib.hid (eBlk_length k 0 0 U)
        generalize eBlk k 0 0 U = eu at *
        refine walkP_call1 rfl rfl (fun uz wa13 hla K hK => ?_)
        refine oprows 85 88 16 2 _ [Y.map B, eu.map B] rfl rfl Tryz.underlying85 Tryz.zsBlock rfl (by omega) rfl (by omega) (by omega) (by simp [HYL.out, HUEL.out]) ?_
        intro w13 hb hbel
        have HS := Lib.hid (HS.out.later (hla.trans hbel))
        refine hK _ _ hbel ?_
        have HR := Lib.hid (show RowsN 16 w13 (some ⟨wa13.heap.size, 0, none⟩) [Y, eu] from ⟨by simp [HYL.out, HUEL.out], by have := hb.lies; simpa using this⟩)
        clear hK K hbel hla hb
        go_simp
        refine walkP_call1 rfl rfl (fun uz wa14 hla K hK => ?_)
        go_simp
        refine (cplus_ok (some ⟨wa13.heap.size, 0, none⟩) 2 2 [Y, eu] _ rfl (by omega) (HR.out.below hla)).mono ?_
        rintro e w14 ⟨rfl, hbel⟩
        have HS := Lib.hid (HS.out.later (hla.trans hbel))
        rw [HC1.out.1]
        go_simp
        refine hK _ _ hbel ?_
        clear hK K hbel hla HR
        refine walkP_nil1 (fun bx14 wb14 hlb hbx14 hbn => ?_)
        go_simp
        have HS := Lib.hid ((HS.out.later hlb).add (show Blk wb14 bx14 ((zeros 16).map B) 88 from hbn))
        clear hlb hbn
        refine walkR_free rfl rfl (by rfl) (fun K hK => ?_)
        refine (HS.out.get 0 rfl).opstore rfl rfl rfl Tryz.row16 (by simp [zeros_length]) (by rw [List.length_map]; exact HCL.out) (oneCell_B _) (fun w14 hb ho => hK _ _ ?_)
        clear hK K
        have HS := Lib.hid (HS.out.change 0 hb ho (.inl (by have := HBB.out; omega)) (fun e he => by have := HNE.out e he; omega))
        clear hb ho HNE hps
        go_simp
        refine walkR_nil ?_
        have hx14 := (HS.out.get 0 rfl).lt
        have hc0 := fun (z' : After w14.drew) => ((HS.out.drew.later z'.later).get 7 rfl).cell 0 (.slice (some ⟨pb, 0, none⟩) np cp) (by rw [HVV.out.1]; rfl)
        go_wp2_with fail
        refine wp_region_R [0, 1, 2, 3, 4, 5, 6, 7, 11, 8, 9, 10, 12, 13, 14] (by kernel_rfl) (by kernel_rfl) ?_
        rintro w15 rfl
        have HS := Lib.hid HS.out.drew
        (refine walkR_one rfl rfl (fun K hK => ?_); go_big_quiet_step (fail); refine wpQuiet_nil (hK _ ?_); clear hK K); (refine walkR_one rfl rfl (fun K hK => ?_); go_big_quiet_step (fail); refine wpQuiet_nil (hK _ ?_); clear hK K); (refine walkR_one rfl rfl (fun K hK => ?_); go_big_quiet_step (fail); refine wpQuiet_nil (hK _ ?_); clear hK K)
        refine walkR_load (HS.out.get 1 rfl).range (HS.out.get 1 rfl).lt Tryz.row16 HUM.out rfl rfl rfl rfl (fun K hK => ?_)
        go_simp; refine hK _ ?_; clear hK K
        (refine walkR_one rfl rfl (fun K hK => ?_); go_big_quiet_step (fail); refine wpQuiet_nil (hK _ ?_); clear hK K); (refine walkR_one rfl rfl (fun K hK => ?_); go_big_quiet_step (fail); refine wpQuiet_nil (hK _ ?_); clear hK K); (refine walkR_one rfl rfl (fun K hK => ?_); go_big_quiet_step (fail); refine wpQuiet_nil (hK _ ?_); clear hK K)
        refine walkR_load (HS.out.get 0 rfl).range (HS.out.get 0 rfl).lt Tryz.row16 HCM.out rfl rfl rfl rfl (fun K hK => ?_)
        go_simp; refine hK _ ?_; clear hK K
        refine walkR_load (HS.out.get 0 rfl).range (HS.out.get 0 rfl).lt Tryz.row16 HCM.out rfl rfl rfl rfl (fun K hK => ?_)
        go_simp; refine hK _ ?_; clear hK K
        clear hc0
        refine walkR_call rfl rfl (by rfl) (fun K hK => ?_)
        go_simp
        refine (e_ok kp q p 1 i1 k C _ (HK.out.onlyB HS.out.only n1 n2 n3) (by omega) hi9 HCL.out).mono ?_
        rintro e w16 ⟨rfl, hbel⟩
        have HS := Lib.hid (HS.out.later hbel)
        go_simp
        refine hK _ _ hbel ?_
        clear hK K hbel
        have HCEL := Lib.hid (eBlk_length k 1 i1 C)
        generalize eBlk k 1 i1 C = ec at *
        refine walkR_call rfl rfl (by rfl) (fun K hK => ?_)
        refine oprows 85 88 16 2 _ [U.map B, ec.map B] rfl rfl Tryz.underlying85 Tryz.zsBlock rfl (by omega) rfl (by omega) (by omega) (by simp [HUL.out, HCEL.out]) ?_
        intro w17 hb hbel
        have HS := Lib.hid (HS.out.later hbel)
        have HR := Lib.hid (show RowsN 16 w17 (some ⟨w16.heap.size, 0, none⟩) [U, ec] from ⟨by simp [HUL.out, HCEL.out], by have := hb.lies; simpa using this⟩)
        refine hK _ _ hbel ?_
        clear hK K hbel hb
        go_simp
        refine walkR_call rfl rfl (by rfl) (fun K hK => ?_)
        go_simp
        refine (cplus_ok (some ⟨w16.heap.size, 0, none⟩) 2 2 [U, ec] _ rfl (by omega) HR.out).mono ?_
        rintro e w18 ⟨rfl, hbel⟩
        have HS := Lib.hid (HS.out.later hbel)
        rw [HF1.out.1]
        go_simp
        refine hK _ _ hbel ?_
        clear hK K hbel HR
        have hbp := built_pair F C HFL.out HCL.out
        refine walkR_build rfl rfl (by rfl) 312 _ [(0, .agg (F.map B).toArray), (1, .agg (C.map B).toArray)] _ rfl rfl hbp (fun K hK => ?_)
        go_simp
        refine hK _ ?_
        clear hK K hbp
        repeat (refine walkR_one rfl rfl (fun K hK => ?_); go_big_quiet_step (fail); refine wpQuiet_nil (hK _ ?_); clear hK K)
        refine walkR_free rfl rfl (by rfl) (fun K hK => ?_)
        refine (HS.out.get 8 rfl).opstoreAt (o := i * 32) (cs := F.map B ++ C.map B) rfl rfl rfl Tryz.rowPair (by simp [HFL.out, HCL.out]) (by have := midV_fit (A := A) (R := R) (tl := tl) (M := a ++ b) (by simp [HA.out, HB.out]); rw [HAL.out] at this; exact this) (by intro u hu; rcases List.mem_append.1 hu with hu | hu <;> exact oneCell_B _ _ hu) (fun w19 hb19 ho19 => hK _ _ ?_)
        clear hK K
        have hb19 : Blk w19 pb (midV A (F ++ C) R tl) 312 := by
          rw [← midV_set (A := A) (M := a ++ b) (C := F ++ C) (R := R) (tl := tl) HAL.out (by simp [HA.out, HB.out, HFL.out, HCL.out])]
          simpa [List.append_assoc] using hb19
        have HS := Lib.hid (show Su w pb w19 [(bx14, C.map B, 88), (m, U.map B, 88), (n, Y.map B, 88), (be, E.map B, 88), (bw3, sum.map B, 88), (bw2, (zeros 16).map B, 88), (bw1, z.map B, 88), (bb, V, 283), (pb, midV A (F ++ C) R tl, 312)] from HS.out.change 8 hb19 ho19 (.inr rfl) (by simp; omega))
        clear hb19 ho19
        go_simp
        refine walkR_nil ?_
        have HSL := Lib.hid (plusB_length [sum, Y])
        go_wp2_with (first | (refine (HS.out.get 4 rfl).wload rfl rfl rfl Tryz.row16 HXM.out ?_) | (refine (HS.out.get 2 rfl).wload rfl rfl rfl Tryz.row16 HYM.out ?_) | (refine wpList_rows 85 88 16 2 _ [sum.map B, Y.map B] rfl rfl rfl Tryz.underlying85 Tryz.zsBlock rfl (by omega) rfl (by omega) (by omega) (by simp [HX.out, HYL.out]) ?_))
        intro w20 hb hbel
        have HS := Lib.hid (HS.out.later hbel)
        have HR := Lib.hid (show RowsN 16 w20 (some ⟨w19.heap.size, 0, none⟩) [sum, Y] from ⟨by simp [HX.out, HYL.out], by have := hb.lies; simpa using this⟩)
        clear hb hbel
        go_wp2_with fail
        refine (cplus_ok (some ⟨w19.heap.size, 0, none⟩) 2 2 [sum, Y] _ rfl (by omega) HR.out).mono ?_
        rintro e w21 ⟨rfl, hbel⟩
        have HS := Lib.hid (HS.out.later hbel)
        generalize plusB [sum, Y] = s2 at *
        clear hbel HR
        go_wp2_with (refine (HS.out.get 4 rfl).wstore rfl rfl rfl rfl Tryz.row16 HXM.out (by rw [List.length_map]; exact HSL.out) (oneCell_B _) ?_)
        intro w22 hb22 ho22
        have HS := Lib.hid (show Su w pb w22 [(bx14, C.map B, 88), (m, U.map B, 88), (n, Y.map B, 88), (be, E.map B, 88), (bw3, s2.map B, 88), (bw2, (zeros 16).map B, 88), (bw1, z.map B, 88), (bb, V, 283), (pb, midV A (F ++ C) R tl, 312)] from HS.out.change 4 hb22 ho22 (.inl (by have := HBB.out; omega)) (by simp; omega))
        have HS := Lib.hid (show Su w pb w22 [(bw3, s2.map B, 88), (bw2, (zeros 16).map B, 88), (bw1, z.map B, 88), (bb, V, 283), (pb, (flatP (behindP k z 0 (ps.take (i + 1)) ++ ps.drop (i + 1))).map B ++ tl, 312)] from by rw [HN1.out.1]; exact HS.out.tail2.tail2)
        clear hb22 ho22
        go_wp2
        go_roundw
        case rel => exact ⟨i + 1, s2, by omega, by rw [← HI1.out.1], HSL, HE, HS⟩
        case measure => have := HI1.out.1; simp [intOf]; omega
    · obtain rfl : i = np := by omega
      have HE := Lib.hid (show sum = S ∧ True from ⟨by have := HE.out.1; rwa [List.drop_eq_nil_of_le (by rw [HNP.out]; exact Nat.le_refl _)] at this, trivial⟩)
      have HS := Lib.hid (show Su w pb wr [(bw3, sum.map B, 88), (bw2, (zeros 16).map B, 88), (bw1, z.map B, 88), (bb, V, 283), (pb, (flatP (behindP k z 0 ps)).map B ++ tl, 312)] from by
        have := HS.out
        rwa [List.drop_eq_nil_of_le (by rw [HNP.out]; exact Nat.le_refl _), List.take_of_length_le (by rw [HNP.out]; exact Nat.le_refl _), List.append_nil] at this)
      go_wp2_with (first | (refine (HS.out.get 0 rfl).wload rfl rfl rfl Tryz.row16 HXM.out ?_) | (refine (HS.out.get 1 rfl).wstore rfl rfl rfl rfl Tryz.row16 (by rw [List.length_map]; exact zeros_length 16) HXM.out (oneCell_B _) ?_))
      intro w6 hb6 ho6
      have HS := Lib.hid (HS.out.change 1 hb6 ho6 (.inl (by have := HBB.out; omega)) (by simp; omega))
      have HP := Lib.hid (HS.out.get 4 rfl)
      go_wp2
      refine hb6.result rfl rfl rfl Tryz.row16 HXM.out ⟨by rw [HE.out.1], HP.out, HS.out.only⟩

end Go.Proofs.YtnkaodjfjllkfaaGreatDoor
