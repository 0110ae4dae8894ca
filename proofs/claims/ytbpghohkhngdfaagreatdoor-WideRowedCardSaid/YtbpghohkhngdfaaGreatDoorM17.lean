/-
  Texts of this claim, one behind the other: EzcC EzcD RegionI.
-/
import Derived.Test.YtbpghohkhngdfaaGreatDoorM16
import Derived.Test.YtbpghohkhngdfaaGreatDoorM4
/-
  The walks of ezcore: a message's tail, and the pairs' first turn.
-/
set_option linter.unusedSimpArgs false
set_option linter.unusedVariables false
namespace Go.Cells
open Go.RowKit Go.Mem
/-- What a walk knows of the world that may write one block that was there. -/
structure Su (w0 : World) (pb : Nat) (w : World) (L : List (Nat × List Value × TypeId)) : Prop where
  only : OnlyB pb w0 w
  all : ∀ e ∈ L, Blk w e.1 e.2.1 e.2.2
theorem Su.start (pb : Nat) (w : World) : Su w pb w [] := ⟨OnlyB.refl _ _, fun _ h => by cases h⟩
section
variable {w0 w w' : World} {pb : Nat} {L : List (Nat × List Value × TypeId)}
theorem Su.get (h : Su w0 pb w L) (i : Nat) {b : Nat} {vs : List Value} {ty : TypeId} (hi : L[i]? = some (b, vs, ty)) : Blk w b vs ty := h.all _ (List.mem_of_getElem? hi)
theorem Su.later (h : Su w0 pb w L) (hl : Below w.heap.size w w') : Su w0 pb w' L := ⟨h.only.trans (OnlyB.of_below hl), fun e he => (h.all e he).below hl (h.all e he).lt⟩
theorem Su.drew (h : Su w0 pb w L) : Su w0 pb w.drew L := ⟨h.only.drew, fun e he => (h.all e he).drew⟩
theorem Su.add (h : Su w0 pb w L) {b : Nat} {vs : List Value} {ty : TypeId} (hb : Blk w b vs ty) : Su w0 pb w ((b, vs, ty) :: L) :=
  ⟨h.only, fun e he => by
    rcases List.mem_cons.1 he with rfl | he
    · exact hb
    · exact h.all e he⟩
theorem Su.push (h : Su w0 pb w L) {b : Nat} {vs : List Value} {ty : TypeId} (hb : Blk w' b vs ty) (hl : Below w.heap.size w w') : Su w0 pb w' ((b, vs, ty) :: L) := (h.later hl).add hb
theorem Su.ne (h : Su w0 pb w L) : ∀ e ∈ L, e.1 < w.heap.size := fun e he => (h.all e he).lt
theorem Su.size (h : Su w0 pb w L) : w0.heap.size ≤ w.heap.size := h.only.size
theorem Su.change (h : Su w0 pb w L) (i : Nat) {b : Nat} {us : List Value} {ty : TypeId} (hb : Blk w' b us ty) (ho : Only b w w') (hbase : w0.heap.size ≤ b ∨ b = pb) (hne : ∀ e ∈ L.eraseIdx i, e.1 ≠ b) : Su w0 pb w' (L.set i (b, us, ty)) := by
  refine ⟨?_, fun e he => ?_⟩
  · rcases hbase with hbase | rfl
    · exact h.only.other ho hbase
    · exact h.only.trans (OnlyB.of_only ho)
  · obtain ⟨j, hj⟩ := List.mem_iff_getElem?.1 he
    rw [List.getElem?_set] at hj
    by_cases e1 : i = j
    · subst e1
      rw [if_pos rfl] at hj
      split at hj
      · cases hj; exact hb
      · cases hj
    · rw [if_neg e1] at hj
      exact (h.all e (List.mem_of_getElem? hj)).only ho (hne e (mem_eraseIdx_ne _ _ _ _ (fun h => e1 h.symm) hj))
theorem Su.tail {e : Nat × List Value × TypeId} (h : Su w0 pb w (e :: L)) : Su w0 pb w L := ⟨h.only, fun x hx => h.all x (List.mem_cons_of_mem _ hx)⟩
theorem Su.tail2 {e f : Nat × List Value × TypeId} (h : Su w0 pb w (e :: f :: L)) : Su w0 pb w L := h.tail.tail
end
theorem Blk.ne' {w : World} {b c : Nat} {vs us : List Value} {t t' : TypeId} (h : Blk w b vs t) (k : Blk w c us t') (hne : t ≠ t') : b ≠ c := by
  rintro rfl
  unfold Blk at h k
  rw [h] at k
  cases k
  exact hne rfl
end Go.Cells
namespace Go.Proofs.YtbpghohkhngdfaaGreatDoor
open Go.RowKit Go.Mem Go.Ops Go.Cells Go.Oct Go.Gf Go.Trn Go.Aes Go.Ring Go.Ezk Go.Ezh Go.Ezt Go.Ezc Go.CutP Go.Fl
set_option maxRecDepth 100000
attribute [local irreducible] walkR walkP walk0 walkB walkK

theorem EKey.onlyB {w w' : World} {kp q p c : Nat} {k : Parts} (h : EKey w kp q p k) (ho : OnlyB c w w') (h1 : kp ≠ c) (h2 : q ≠ c) (h3 : p ≠ c) : EKey w' kp q p k :=
  ⟨⟨h.tab.boxes.onlyB ho h3, h.tab.tab.onlyB ho h2⟩, h.fit, h.blk.onlyB ho h1⟩

theorem cmarked_ok (ao : Option Addr) (n cap : Nat) (b : List UInt8) (w : World) (hn : b.length = n) (hnb : n ≤ 1000) (hl : Lies w ao (b.map B)) :
    Calls Tryz.prog 191 #[.slice ao n cap] w fun e w' => e = .returned (.agg ((block (markL b 128 16)).map B).toArray) ∧ Below w.heap.size w w' := by
  have HN := Lib.hid hn
  have HL := Lib.hid hl
  have HS := Lib.hid (St.start w)
  obtain ⟨y, hy⟩ : ∃ y, y = block (markL b 128 16) := ⟨_, rfl⟩
  have HY := Lib.hid (show block (markL b 128 16) = y ∧ True from ⟨hy.symm, trivial⟩)
  have HBL := Lib.hid (show y.length = 16 by rw [hy]; exact block_length _)
  rw [← hy]
  clear hn hl hy
  go_enter Tryz.func191, Tryz.ntmps191
  go_wp2_with (refine wpList_var 52 ((zeros 16).map B) _ rfl rfl Tryz.zero16 rfl ?_)
  intro w1 hb hbel; have HS := Lib.hid (HS.out.push hb hbel); have hlt1 := hb.lt; clear hb hbel
  generalize hbb : w.heap.size = bb at *
  have HBB := Lib.hid hbb
  clear hbb
  go_wp2_with fail
  refine (marked_ok ao n cap 16 128 b _ HN.out (by omega) (by omega) (by omega) (HL.out.below (HS.out.old HBB.out))).mono ?_
  rintro e w2 ⟨v2, rfl, hown, hbel⟩
  obtain ⟨ao2, cap2, rfl, hc2, _, hl2⟩ := own_form hown
  have HS := Lib.hid (HS.out.later hbel)
  have HL2 := Lib.hid hl2
  clear hown hbel hl2
  simp only [id]
  go_wp2_with fail
  refine (block_ok ao2 _ cap2 (markL b 128 16) _ (by rw [markL_length, HN.out]) HL2.out).mono ?_
  rintro e w3 ⟨rfl, hbel⟩
  have HS := Lib.hid (HS.out.later hbel)
  rw [HY.out.1]
  clear hbel HL2 hc2
  go_wp2_with (refine (HS.out.get 0 rfl).wstore rfl rfl rfl rfl Tryz.row16 (by rw [List.length_map]; exact zeros_length 16) (by rw [List.length_map]; exact HBL.out) (oneCell_B _) ?_)
  intro w4 hb4 ho4
  have hbel4 := below_only HS.out.bel ho4 (Nat.le_refl _)
  go_wp2
  refine hb4.result rfl rfl rfl Tryz.row16 (by rw [List.length_map]; exact HBL.out) ⟨rfl, ?_⟩
  rw [HBB.out]
  exact hbel4

set_option maxHeartbeats 2000000 in
theorem ctail_ok (kp q p : Nat) (k : Parts) (pv : Value) (ua va : Option Addr) (nu nv uc vc : Nat) (u v x y : List UInt8) (w : World) (hk : EKey w kp q p k) (hnu : u.length = nu) (hnv : v.length = nv) (hu16 : nu ≤ 16) (hv16 : nv < 16) (hu : Lies w ua (u.map B)) (hv : Lies w va (v.map B)) :
    Calls Tryz.prog 131 #[.agg (msgV pv (.slice ua nu uc) (.slice va nv vc) x y).toArray, .pointer (some ⟨kp, 0, none⟩)] w fun e w' => e = .returned (.agg ((tailC k u v).map B).toArray) ∧ Below w.heap.size w w' := by
  have HK := Lib.hid hk
  have HNU := Lib.hid hnu
  have HNV := Lib.hid hnv
  have HU := Lib.hid hu
  have HV := Lib.hid hv
  have HS := Lib.hid (St.start w)
  have HTL := Lib.hid (show (tailC k u v).length = 16 by unfold tailC; split; exact zeros_length 16; split; exact plusB_length _; exact eBlk_length _ _ _ _)
  obtain ⟨V, hV⟩ : ∃ V, V = msgV pv (.slice ua nu uc) (.slice va nv vc) x y := ⟨_, rfl⟩
  have HVV := Lib.hid (show V = msgV pv (.slice ua nu uc) (.slice va nv vc) x y ∧ True from ⟨hV, trivial⟩)
  obtain ⟨T, hT⟩ : ∃ T, T = tailC k u v := ⟨_, rfl⟩
  have HTT := Lib.hid (show tailC k u v = T ∧ True from ⟨hT.symm, trivial⟩)
  rw [← hT] at HTL
  rw [← hV, ← hT]
  clear hk hnu hnv hu hv hV hT
  have hmf : ∀ (fn : Fn) (first cap : Array Value) (w : World), (Instr.makeFunc fn first cap).run Tryz.prog w = .ok (.func fn first cap) w := fun _ _ _ _ => rfl
  go_enter Tryz.func131, Tryz.ntmps131
  go_wp2_with (refine wpList_box 189 _ (V) _ rfl rfl rfl rfl ?_)
  intro w1 hb hbel; have HS := Lib.hid (HS.out.push hb hbel); have hlt1 := hb.lt; clear hb hbel
  go_wp2_with (refine wpList_var 52 ((zeros 16).map B) _ rfl rfl Tryz.zero16 rfl ?_)
  intro w2 hb hbel; have HS := Lib.hid (HS.out.push hb hbel); have hlt2 := hb.lt; clear hb hbel
  generalize hbb : w.heap.size = bb at *
  generalize w1.heap.size = bw1 at *
  have HBB := Lib.hid hbb
  clear hbb
  have hcu := (HS.out.get 1 rfl).cell 1 (.slice ua nu uc) (by rw [HVV.out.1]; rfl)
  by_cases h0 : nu = 0
  · have d0 : ((nu : Int) == 0) = true := by simp; omega
    have HT0 := Lib.hid (show T = zeros 16 ∧ True from ⟨by rw [← HTT.out.1]; unfold tailC; rw [if_pos (by rw [HNU.out]; exact h0)], trivial⟩)
    clear h0
    go_wp2_with (refine (HS.out.get 0 rfl).wstore rfl rfl rfl (cs := (zeros 16).map B) rfl Tryz.row16 (by rw [List.length_map]; exact zeros_length 16) (by rw [List.length_map]; exact zeros_length 16) (oneCell_B _) ?_)
    intro w4 hb4 ho4
    have hbel4 := below_only HS.out.bel ho4 (by omega)
    go_wp2
    refine hb4.result rfl rfl rfl Tryz.row16 (by rw [List.length_map]; exact zeros_length 16) ⟨by rw [HT0.out.1], ?_⟩
    rw [HBB.out]
    exact hbel4
  · have d0 : ((nu : Int) == 0) = false := by simp; omega
    by_cases h16 : nu = 16
    · have d1 : ((nu : Int) == 16) = true := by simp; omega
      have HE := Lib.hid (show plusB [eBlk k 0 4 (block u), eBlk k 0 5 (block (markL v 128 16))] = T ∧ True from ⟨by rw [← HTT.out.1]; unfold tailC; rw [if_neg (by rw [HNU.out]; exact h0), if_pos (by rw [HNU.out]; exact h16)], trivial⟩)
      have hcu' := fun (z : After w2.drew) => ((HS.out.drew.later z.later).get 1 rfl).cell 1 (.slice ua nu uc) (by rw [HVV.out.1]; rfl)
      have hcv' := fun (z : After w2.drew) => ((HS.out.drew.later z.later).get 1 rfl).cell 2 (.slice va nv vc) (by rw [HVV.out.1]; rfl)
      clear h0 h16
      go_wp2_with fail
      refine wp_region_R [0, 1, 2, 5, 6, 7, 8, 3, 4, 9, 10, 11, 12, 13] (by kernel_rfl) (by kernel_rfl) ?_
      rintro w3 rfl
      repeat (refine walkR_one rfl rfl (fun K hK => ?_); go_big_quiet_step (fail); refine wpQuiet_nil (hK _ ?_); clear hK K)
      clear hcu' hcv'
      have HS := Lib.hid HS.out.drew
      refine walkR_call rfl rfl (by rfl) (fun K hK => ?_)
      go_simp
      refine (block_ok ua nu uc u _ HNU.out (HU.out.below (HS.out.old HBB.out))).mono ?_
      rintro e w4 ⟨rfl, hbel⟩
      have HS := Lib.hid (HS.out.later hbel)
      go_simp
      refine hK _ _ hbel ?_
      clear hK K hbel
      refine walkR_call rfl rfl (by rfl) (fun K hK => ?_)
      go_simp
      refine (e_ok kp q p 0 4 k (block u) _ (HK.out.later (HS.out.old HBB.out)) (by omega) (by omega) (block_length _)).mono ?_
      rintro e w5 ⟨rfl, hbel⟩
      have HS := Lib.hid (HS.out.later hbel)
      go_simp
      refine hK _ _ hbel ?_
      clear hK K hbel
      refine walkR_call rfl rfl (by rfl) (fun K hK => ?_)
      go_simp
      refine (cmarked_ok va nv vc v _ HNV.out (by omega) (HV.out.below (HS.out.old HBB.out))).mono ?_
      rintro e w6 ⟨rfl, hbel⟩
      have HS := Lib.hid (HS.out.later hbel)
      go_simp
      refine hK _ _ hbel ?_
      clear hK K hbel
      refine walkR_call rfl rfl (by rfl) (fun K hK => ?_)
      go_simp
      refine (e_ok kp q p 0 5 k (block (markL v 128 16)) _ (HK.out.later (HS.out.old HBB.out)) (by omega) (by omega) (block_length _)).mono ?_
      rintro e w7 ⟨rfl, hbel⟩
      have HS := Lib.hid (HS.out.later hbel)
      go_simp
      refine hK _ _ hbel ?_
      clear hK K hbel
      have HE1 := Lib.hid (eBlk_length k 0 4 (block u))
      have HE2 := Lib.hid (eBlk_length k 0 5 (block (markL v 128 16)))
      generalize eBlk k 0 4 (block u) = e1 at *
      generalize eBlk k 0 5 (block (markL v 128 16)) = e2 at *
      refine walkR_call rfl rfl (by rfl) (fun K hK => ?_)
      refine oprows 49 52 16 2 _ [e1.map B, e2.map B] rfl rfl Tryz.underlying49 Tryz.zsBlock rfl (by omega) rfl (by omega) (by omega) (by simp [HE1.out, HE2.out]) ?_
      intro w8 hb hbel
      have HS := Lib.hid (HS.out.later hbel)
      have HR := Lib.hid (show RowsN 16 w8 (some ⟨w7.heap.size, 0, none⟩) [e1, e2] from ⟨by simp [HE1.out, HE2.out], by have := hb.lies; simpa using this⟩)
      refine hK _ _ hbel ?_
      clear hK K hbel hb
      go_simp
      refine walkR_call rfl rfl (by rfl) (fun K hK => ?_)
      go_simp
      refine (cplus_ok (some ⟨w7.heap.size, 0, none⟩) 2 2 [e1, e2] _ rfl (by omega) HR.out).mono ?_
      rintro e w9 ⟨rfl, hbel⟩
      have HS := Lib.hid (HS.out.later hbel)
      rw [HE.out.1]
      go_simp
      refine hK _ _ hbel ?_
      clear hK K hbel HR
      refine walkR_free rfl rfl (by rfl) (fun K hK => ?_)
      refine (HS.out.get 0 rfl).opstore rfl rfl rfl Tryz.row16 (by rw [List.length_map]; exact zeros_length 16) (by rw [List.length_map]; exact HTL.out) (oneCell_B _) (fun w10 hb10 ho10 => hK _ _ ?_)
      clear hK K
      have hbel10 := below_only HS.out.bel ho10 (by omega)
      go_simp
      refine walkR_nil ?_
      go_wp2
      refine hb10.result rfl rfl rfl Tryz.row16 (by rw [List.length_map]; exact HTL.out) ⟨rfl, ?_⟩
      rw [HBB.out]
      exact hbel10
    · have d1 : ((nu : Int) == 16) = false := by simp; omega
      have HE := Lib.hid (show eBlk k 0 4 (block (markL u 128 16)) = T ∧ True from ⟨by rw [← HTT.out.1]; unfold tailC; rw [if_neg (by rw [HNU.out]; exact h0), if_neg (by rw [HNU.out]; exact h16)], trivial⟩)
      clear h0 h16
      go_wp2_with fail
      refine (cmarked_ok ua nu uc u _ HNU.out (by omega) (HU.out.below (HS.out.old HBB.out))).mono ?_
      rintro e w3 ⟨rfl, hbel⟩
      have HS := Lib.hid (HS.out.later hbel)
      clear hbel
      go_wp2_with fail
      refine (e_ok kp q p 0 4 k (block (markL u 128 16)) _ (HK.out.later (HS.out.old HBB.out)) (by omega) (by omega) (block_length _)).mono ?_
      rintro e w4 ⟨rfl, hbel⟩
      rw [HE.out.1]
      have HS := Lib.hid (HS.out.later hbel)
      clear hbel
      go_wp2_with (refine (HS.out.get 0 rfl).wstore rfl rfl rfl rfl Tryz.row16 (by rw [List.length_map]; exact zeros_length 16) (by rw [List.length_map]; exact HTL.out) (oneCell_B _) ?_)
      intro w5 hb5 ho5
      have hbel5 := below_only HS.out.bel ho5 (by omega)
      go_wp2
      refine hb5.result rfl rfl rfl Tryz.row16 (by rw [List.length_map]; exact HTL.out) ⟨rfl, ?_⟩
      rw [HBB.out]
      exact hbel5

end Go.Proofs.YtbpghohkhngdfaaGreatDoor
/-
  The walks of ezcore: the pairs' first turn.
-/
set_option linter.unusedSimpArgs false
set_option linter.unusedVariables false
namespace Go.Proofs.YtbpghohkhngdfaaGreatDoor
open Go.RowKit Go.Mem Go.Ops Go.Cells Go.Oct Go.Gf Go.Trn Go.Aes Go.Ring Go.Ezk Go.Ezh Go.Ezt Go.Ezc Go.CutP Go.Fl
set_option maxRecDepth 100000
attribute [local irreducible] walkR walkP walk0 walkB walkK

/-- The bytes of pairs of which one is set apart, in a block with a tail. -/
def midV (A M R : List UInt8) (tl : List Value) : List Value := (A ++ M ++ R).map B ++ tl
theorem midV_left {A a b R : List UInt8} {tl : List Value} {o : Nat} (ho : A.length = o) (ha : a.length = 16) : ((midV A (a ++ b) R tl).drop o).take 16 = a.map B := by
  subst ho
  unfold midV
  rw [List.append_assoc A, List.map_append, List.append_assoc, show A.length = (A.map B).length by simp, List.drop_left, List.append_assoc a, List.map_append, List.append_assoc, show (16 : Nat) = (a.map B).length by simp [ha], List.take_left]
theorem midV_right {A a b R : List UInt8} {tl : List Value} {o : Nat} (ho : A.length = o) (ha : a.length = 16) (hb : b.length = 16) : ((midV A (a ++ b) R tl).drop (o + 16)).take 16 = b.map B := by
  subst ho
  unfold midV
  rw [show A ++ (a ++ b) ++ R = (A ++ a) ++ (b ++ R) by simp, List.map_append, List.append_assoc, show A.length + 16 = ((A ++ a).map B).length by simp [ha], List.drop_left, List.map_append, List.append_assoc, show (16 : Nat) = (b.map B).length by simp [hb], List.take_left]
theorem midV_set {A M C R : List UInt8} {tl : List Value} {o : Nat} (ho : A.length = o) (h : C.length = M.length) : (midV A M R tl).take o ++ C.map B ++ (midV A M R tl).drop (o + (C.map B).length) = midV A C R tl := by
  subst ho
  unfold midV
  have e1 : ((A ++ M ++ R).map B ++ tl).take A.length = A.map B := by
    rw [List.append_assoc A, List.map_append, List.append_assoc, show A.length = (A.map B).length by simp, List.take_left]
  have e2 : ((A ++ M ++ R).map B ++ tl).drop (A.length + (C.map B).length) = R.map B ++ tl := by
    rw [List.map_append, List.append_assoc, show A.length + (C.map B).length = ((A ++ M).map B).length by simp [h], List.drop_left]
  rw [e1, e2, List.map_append, List.map_append]
  simp [List.append_assoc]
theorem midV_fit {A M R : List UInt8} {tl : List Value} (h : M.length = 32) : A.length + 32 ≤ (midV A M R tl).length := by
  unfold midV; simp [h]
theorem drop_at {α : Type} {l : List α} {i : Nat} {x : α} (h : l[i]? = some x) : l.drop i = x :: l.drop (i + 1) := by
  obtain ⟨hl, he⟩ := List.getElem?_eq_some_iff.1 h
  rw [List.drop_eq_getElem_cons hl, he]
theorem aheadP_snoc (k : Parts) : ∀ (ps : Pairs) (n : Nat) (p : List UInt8 × List UInt8), aheadP k n (ps ++ [p]) = aheadP k n ps ++ [(wOf k (n + ps.length) p, xOf k (n + ps.length) p)]
  | [], n, p => by simp [aheadP]
  | q :: ps, n, p => by
    simp only [List.cons_append, aheadP, aheadP_snoc k ps (n + 1) p, List.length_cons]
    rw [show n + 1 + ps.length = n + (ps.length + 1) by omega]
theorem flatP_append : ∀ (ps qs : Pairs), flatP (ps ++ qs) = flatP ps ++ flatP qs
  | [], _ => rfl
  | p :: ps, qs => by simp only [List.cons_append, flatP, flatP_append ps qs, List.append_assoc]

set_option maxHeartbeats 4000000 in
theorem ahead_ok (kp q p : Nat) (k : Parts) (pb np cp : Nat) (ps : Pairs) (tl : List Value) (uv vv : Value) (x y : List UInt8) (w : World) (hk : EKey w kp q p k) (hnp : ps.length = np) (hf : ∀ r ∈ ps, PairFit r)
    (hp : Blk w pb ((flatP ps).map B ++ tl) 253) (hb : np ≤ 900) :
    Calls Tryz.prog 130 #[.agg (msgV (.slice (some ⟨pb, 0, none⟩) np cp) uv vv x y).toArray, .pointer (some ⟨kp, 0, none⟩)] w fun e w' => e = .returned (.agg ((aheadS k 0 (zeros 16) ps).map B).toArray) ∧ Blk w' pb ((flatP (aheadP k 0 ps)).map B ++ tl) 253 ∧ OnlyB pb w w' := by
  have n1 : kp ≠ pb := hk.blk.ne' hp (by decide)
  have n2 : q ≠ pb := hk.tab.tab.ne' hp (by decide)
  have n3 : p ≠ pb := hk.tab.boxes.ne' hp (by decide)
  have HK := Lib.hid hk
  have HNP := Lib.hid hnp
  have HF := Lib.hid hf
  have hpb := hp.lt
  have HS := Lib.hid ((Su.start pb w).add hp)
  obtain ⟨V, hV⟩ : ∃ V, V = msgV (.slice (some ⟨pb, 0, none⟩) np cp) uv vv x y := ⟨_, rfl⟩
  have HVV := Lib.hid (show V = msgV (.slice (some ⟨pb, 0, none⟩) np cp) uv vv x y ∧ True from ⟨hV, trivial⟩)
  obtain ⟨S, hS⟩ : ∃ S, S = aheadS k 0 (zeros 16) ps := ⟨_, rfl⟩
  have HSS := Lib.hid (show aheadS k 0 (zeros 16) ps = S ∧ True from ⟨hS.symm, trivial⟩)
  rw [← hV, ← hS]
  clear hk hnp hf hp hV hS
  go_enter Tryz.func130, Tryz.ntmps130
  go_wp2_with (refine wpList_box 189 _ (V) _ rfl rfl rfl rfl ?_)
  intro w1 hb hbel; have HS := Lib.hid (HS.out.push hb hbel); have hlt1 := hb.lt; clear hb hbel
  go_wp2_with (refine wpList_var 52 ((zeros 16).map B) _ rfl rfl Tryz.zero16 rfl ?_)
  intro w2 hb hbel; have HS := Lib.hid (HS.out.push hb hbel); have hlt2 := hb.lt; clear hb hbel
  go_wp2_with (refine wpList_var 52 ((zeros 16).map B) _ rfl rfl Tryz.zero16 rfl ?_)
  intro w3 hb hbel; have HS := Lib.hid (HS.out.push hb hbel); have hlt3 := hb.lt; clear hb hbel
  generalize hbb : w.heap.size = bb at *
  generalize w1.heap.size = bw1 at *
  generalize w2.heap.size = bw2 at *
  have HBB := Lib.hid hbb
  clear hbb
  have hc0 := (HS.out.get 2 rfl).cell 0 (.slice (some ⟨pb, 0, none⟩) np cp) (by rw [HVV.out.1]; rfl)
  go_wp2
  go_loopw [12] (fun c wr => ∃ (i : Nat) (sum : List UInt8), i ≤ np ∧ c = .int .i64 i ∧ Hid (sum.length = 16) ∧ Hid (aheadS k i sum (ps.drop i) = S ∧ True) ∧ Hid (Su w pb wr [(bw2, sum.map B, 52), (bw1, (zeros 16).map B, 52), (bb, V, 189), (pb, (flatP (aheadP k 0 (ps.take i) ++ ps.drop i)).map B ++ tl, 253)])) (fun c _ => np - (intOf c).toNat)
  case atStart => exact ⟨0, zeros 16, by omega, rfl, Lib.hid (zeros_length 16), HSS, HS⟩
  case round =>
    clear HS hc0
    obtain ⟨i, sum, hi, rfl, HX, HE, HS⟩ := hrel
    have HXM := Lib.hid (show (sum.map B).length = 16 by rw [List.length_map]; exact HX.out)
    have hr2 := (HS.out.get 0 rfl).lt
    by_cases hlt : i < np
    · obtain ⟨⟨a, b⟩, hpi⟩ : ∃ r, ps[i]? = some r := ⟨ps[i]'(by rw [HNP.out]; exact hlt), by simp⟩
      have hd := drop_at hpi
      have hab := HF.out _ (List.mem_of_getElem? hpi)
      have HA := Lib.hid (show a.length = 16 from hab.1)
      have HB := Lib.hid (show b.length = 16 from hab.2)
      have HAM := Lib.hid (show (a.map B).length = 16 by rw [List.length_map]; exact hab.1)
      have HBM := Lib.hid (show (b.map B).length = 16 by rw [List.length_map]; exact hab.2)
      have hAl : (flatP (aheadP k 0 (ps.take i))).length = i * 32 := by
        rw [flatP_length _ (aheadP_fit k _ _), aheadP_length, List.length_take, HNP.out]; omega
      have hn1 : flatP (aheadP k 0 (ps.take (i + 1)) ++ ps.drop (i + 1)) = flatP (aheadP k 0 (ps.take i)) ++ (wOf k i (a, b) ++ xOf k i (a, b)) ++ flatP (ps.drop (i + 1)) := by
        rw [take_snoc' hpi, aheadP_snoc, List.length_take, HNP.out, show 0 + min i np = i by omega, flatP_append, flatP_snoc]
      have he := HE.out.1
      rw [hd] at he
      have HE := Lib.hid (show aheadS k (i + 1) (plusB [sum, xOf k i (a, b)]) (ps.drop (i + 1)) = S ∧ True from ⟨he, trivial⟩)
      have hs := HS.out
      rw [hd, flatP_append, show flatP ((a, b) :: ps.drop (i + 1)) = a ++ b ++ flatP (ps.drop (i + 1)) from rfl, ← List.append_assoc] at hs
      have HN1 := Lib.hid (And.intro hn1 trivial)
      obtain ⟨A, hA⟩ : ∃ A, A = flatP (aheadP k 0 (ps.take i)) := ⟨_, rfl⟩
      obtain ⟨R, hR⟩ : ∃ R, R = flatP (ps.drop (i + 1)) := ⟨_, rfl⟩
      rw [← hA, ← hR] at hs HN1
      rw [← hA] at hAl
      have HAL := Lib.hid hAl
      have HS := Lib.hid (show Su w pb wr [(bw2, sum.map B, 52), (bw1, (zeros 16).map B, 52), (bb, V, 189), (pb, midV A (a ++ b) R tl, 253)] from hs)
      clear hpi hd hab hAl hn1 he hs hA hR
      obtain ⟨i1, hi1⟩ : ∃ i1, i1 = i + 1 := ⟨_, rfl⟩
      have hni : (i : Int) + 1 = (i1 : Int) := by omega
      have hi9 : i1 ≤ 1000 := by omega
      have HW := Lib.hid (show plusB [a, eBlk k 1 i1 b] = wOf k i (a, b) ∧ True from ⟨by rw [hi1]; rfl, trivial⟩)
      have HI1 := Lib.hid (show i1 = i + 1 ∧ True from ⟨hi1, trivial⟩)
      clear hi1
      have hc0 := fun (z : After wr.drew) => ((HS.out.drew.later z.later).get 2 rfl).cell 0 (.slice (some ⟨pb, 0, none⟩) np cp) (by rw [HVV.out.1]; rfl)
      have HNE := Lib.hid HS.out.ne
      have hps := HS.out.size
      go_wp2_with fail
      refine wp_region_P [0, 1, 2, 3, 4, 5, 6, 7, 8, 9, 10, 11, 12, 13, 14] [15, 16, 17] [19] [Floater.var 18 7 52 ((zeros 16).map B)] (by kernel_rfl) (by kernel_rfl) ?_
      rintro w3 rfl
      have HS := Lib.hid HS.out.drew
      (refine walk0_one rfl rfl rfl (fun K hK => ?_); go_big_quiet_step (fail); refine wpQuiet_nil (hK _ ?_); clear hK K); (refine walk0_one rfl rfl rfl (fun K hK => ?_); go_big_quiet_step (fail); refine wpQuiet_nil (hK _ ?_); clear hK K); (refine walk0_one rfl rfl rfl (fun K hK => ?_); go_big_quiet_step (fail); refine wpQuiet_nil (hK _ ?_); clear hK K); (refine walk0_one rfl rfl rfl (fun K hK => ?_); go_big_quiet_step (fail); refine wpQuiet_nil (hK _ ?_); clear hK K); (refine walk0_one rfl rfl rfl (fun K hK => ?_); go_big_quiet_step (fail); refine wpQuiet_nil (hK _ ?_); clear hK K)
      refine walk0_load (Blk.rangeIn (HS.out.get 3 rfl) (i * 32) 16 _ (by exact midV_left HAL.out HA.out)) (HS.out.get 3 rfl).lt Tryz.row16 HAM.out rfl rfl rfl (fun K hK => ?_)
      go_simp; refine hK _ ?_; clear hK K
      (refine walk0_one rfl rfl rfl (fun K hK => ?_); go_big_quiet_step (fail); refine wpQuiet_nil (hK _ ?_); clear hK K); (refine walk0_one rfl rfl rfl (fun K hK => ?_); go_big_quiet_step (fail); refine wpQuiet_nil (hK _ ?_); clear hK K); (refine walk0_one rfl rfl rfl (fun K hK => ?_); go_big_quiet_step (fail); refine wpQuiet_nil (hK _ ?_); clear hK K); (refine walk0_one rfl rfl rfl (fun K hK => ?_); go_big_quiet_step (fail); refine wpQuiet_nil (hK _ ?_); clear hK K); (refine walk0_one rfl rfl rfl (fun K hK => ?_); go_big_quiet_step (fail); refine wpQuiet_nil (hK _ ?_); clear hK K); (refine walk0_one rfl rfl rfl (fun K hK => ?_); go_big_quiet_step (fail); refine wpQuiet_nil (hK _ ?_); clear hK K); (refine walk0_one rfl rfl rfl (fun K hK => ?_); go_big_quiet_step (fail); refine wpQuiet_nil (hK _ ?_); clear hK K); (refine walk0_one rfl rfl rfl (fun K hK => ?_); go_big_quiet_step (fail); refine wpQuiet_nil (hK _ ?_); clear hK K)
      refine walk0_load (Blk.rangeIn (HS.out.get 3 rfl) (i * 32 + 16) 16 _ (by exact midV_right HAL.out HA.out HB.out)) (HS.out.get 3 rfl).lt Tryz.row16 HBM.out rfl rfl rfl (fun K hK => ?_)
      go_simp; refine hK _ ?_; clear hK K
      clear hc0
      refine walk0_nil ⟨?_, ?_, Nat.le_refl _⟩
      · intro f hf
        simp only [List.mem_singleton] at hf
        subst hf
        exact fits_var _ _ _ _ _ _ rfl rfl rfl rfl (by simp) Tryz.zero16 rfl
      refine walkP_call1 rfl rfl (fun uz wa5 hla K hK => ?_)
      go_simp
      have HS := Lib.hid (HS.out.later hla)
      refine (e_ok kp q p 1 i1 k b _ (HK.out.onlyB HS.out.only n1 n2 n3) (by omega) hi9 HB.out).mono ?_
      rintro e w5 ⟨rfl, hbel⟩
      have HS := Lib.hid (HS.out.later hbel)
      go_simp
      refine hK _ _ hbel ?_
      clear hK K hbel hla
      have HEL := Lib.hid (eBlk_length k 1 i1 b)
      generalize eBlk k 1 i1 b = eb at *
      refine walkP_call1 rfl rfl (fun uz wa6 hla K hK => ?_)
      refine oprows 49 52 16 2 _ [a.map B, eb.map B] rfl rfl Tryz.underlying49 Tryz.zsBlock rfl (by omega) rfl (by omega) (by omega) (by simp [HA.out, HEL.out]) ?_
      intro w6 hb hbel
      have HS := Lib.hid (HS.out.later (hla.trans hbel))
      refine hK _ _ hbel ?_
      have HR := Lib.hid (show RowsN 16 w6 (some ⟨wa6.heap.size, 0, none⟩) [a, eb] from ⟨by simp [HA.out, HEL.out], by have := hb.lies; simpa using this⟩)
      clear hK K hbel hla hb
      go_simp
      refine walkP_call1 rfl rfl (fun uz wa7 hla K hK => ?_)
      go_simp
      refine (cplus_ok (some ⟨wa6.heap.size, 0, none⟩) 2 2 [a, eb] _ rfl (by omega) (HR.out.below hla)).mono ?_
      rintro e w7 ⟨rfl, hbel⟩
      have HS := Lib.hid (HS.out.later (hla.trans hbel))
      rw [HW.out.1]
      go_simp
      refine hK _ _ hbel ?_
      clear hK K hbel hla HR
      have HWL := Lib.hid (wOf_length k i (a, b))
      have HXX := Lib.hid (xOf_length k i (a, b))
      have HX1 := Lib.hid (show plusB [b, eBlk k 0 0 (wOf k i (a, b))] = xOf k i (a, b) ∧ True from ⟨rfl, trivial⟩)
      generalize wOf k i (a, b) = W at *
      generalize xOf k i (a, b) = X at *
      refine walkP_nil1 (fun bx8 wb8 hlb hbx8 hbn => ?_)
      go_simp
      have HS := Lib.hid ((HS.out.later hlb).add (show Blk wb8 bx8 ((zeros 16).map B) 52 from hbn))
      clear hlb hbn
      refine walkR_free rfl rfl (by rfl) (fun K hK => ?_)
      refine (HS.out.get 0 rfl).opstore rfl rfl rfl Tryz.row16 (by simp [zeros_length]) (by rw [List.length_map]; exact HWL.out) (oneCell_B _) (fun w8 hb ho => hK _ _ ?_)
      clear hK K
      have HS := Lib.hid (HS.out.change 0 hb ho (.inl (by omega)) (fun e he => by have := HNE.out e he; omega))
      clear hb ho HNE hps
      go_simp
      refine walkR_nil ?_
      have hr8 := (HS.out.get 0 rfl).lt
      have hc0 := fun (z : After w8.drew) => ((HS.out.drew.later z.later).get 3 rfl).cell 0 (.slice (some ⟨pb, 0, none⟩) np cp) (by rw [HVV.out.1]; rfl)
      have HWM := Lib.hid (show (W.map B).length = 16 by rw [List.length_map]; exact HWL.out)
      have HNE := Lib.hid HS.out.ne
      have hps := HS.out.size
      go_wp2_with fail
      refine wp_region_P [0, 1, 2, 3, 4, 5, 6, 7] [8, 9, 10] [12] [Floater.var 11 8 52 ((zeros 16).map B)] (by kernel_rfl) (by kernel_rfl) ?_
      rintro w9 rfl
      have HS := Lib.hid HS.out.drew
      (refine walk0_one rfl rfl rfl (fun K hK => ?_); go_big_quiet_step (fail); refine wpQuiet_nil (hK _ ?_); clear hK K); (refine walk0_one rfl rfl rfl (fun K hK => ?_); go_big_quiet_step (fail); refine wpQuiet_nil (hK _ ?_); clear hK K); (refine walk0_one rfl rfl rfl (fun K hK => ?_); go_big_quiet_step (fail); refine wpQuiet_nil (hK _ ?_); clear hK K); (refine walk0_one rfl rfl rfl (fun K hK => ?_); go_big_quiet_step (fail); refine wpQuiet_nil (hK _ ?_); clear hK K); (refine walk0_one rfl rfl rfl (fun K hK => ?_); go_big_quiet_step (fail); refine wpQuiet_nil (hK _ ?_); clear hK K)
      refine walk0_load (Blk.rangeIn (HS.out.get 4 rfl) (i * 32 + 16) 16 _ (by exact midV_right HAL.out HA.out HB.out)) (HS.out.get 4 rfl).lt Tryz.row16 HBM.out rfl rfl rfl (fun K hK => ?_)
      go_simp; refine hK _ ?_; clear hK K
      (refine walk0_one rfl rfl rfl (fun K hK => ?_); go_big_quiet_step (fail); refine wpQuiet_nil (hK _ ?_); clear hK K)
      refine walk0_load (HS.out.get 0 rfl).range (HS.out.get 0 rfl).lt Tryz.row16 HWM.out rfl rfl rfl (fun K hK => ?_)
      go_simp; refine hK _ ?_; clear hK K
      clear hc0
      refine walk0_nil ⟨?_, ?_, Nat.le_refl _⟩
      · intro f hf
        simp only [List.mem_singleton] at hf
        subst hf
        exact fits_var _ _ _ _ _ _ rfl rfl rfl rfl (by simp) Tryz.zero16 rfl
      refine walkP_call1 rfl rfl (fun uz wa10 hla K hK => ?_)
      go_simp
      have HS := Lib.hid (HS.out.later hla)
      refine (e_ok kp q p 0 0 k W _ (HK.out.onlyB HS.out.only n1 n2 n3) (by omega) (by omega) HWL.out).mono ?_
      rintro e w10 ⟨rfl, hbel⟩
      have HS := Lib.hid (HS.out.later hbel)
      go_simp
      refine hK _ _ hbel ?_
      clear hK K hbel hla
      have HEL2 := Lib.hid (eBlk_length k 0 0 W)
      generalize eBlk k 0 0 W = ew at *
      refine walkP_call1 rfl rfl (fun uz wa11 hla K hK => ?_)
      refine oprows 49 52 16 2 _ [b.map B, ew.map B] rfl rfl Tryz.underlying49 Tryz.zsBlock rfl (by omega) rfl (by omega) (by omega) (by simp [HB.out, HEL2.out]) ?_
      intro w11 hb hbel
      have HS := Lib.hid (HS.out.later (hla.trans hbel))
      refine hK _ _ hbel ?_
      have HR := Lib.hid (show RowsN 16 w11 (some ⟨wa11.heap.size, 0, none⟩) [b, ew] from ⟨by simp [HB.out, HEL2.out], by have := hb.lies; simpa using this⟩)
      clear hK K hbel hla hb
      go_simp
      refine walkP_call1 rfl rfl (fun uz wa12 hla K hK => ?_)
      go_simp
      refine (cplus_ok (some ⟨wa11.heap.size, 0, none⟩) 2 2 [b, ew] _ rfl (by omega) (HR.out.below hla)).mono ?_
      rintro e w12 ⟨rfl, hbel⟩
      have HS := Lib.hid (HS.out.later (hla.trans hbel))
      rw [HX1.out.1]
      go_simp
      refine hK _ _ hbel ?_
      clear hK K hbel hla HR
      refine walkP_nil1 (fun bx13 wb13 hlb hbx13 hbn => ?_)
      go_simp
      have HS := Lib.hid ((HS.out.later hlb).add (show Blk wb13 bx13 ((zeros 16).map B) 52 from hbn))
      clear hlb hbn
      refine walkR_free rfl rfl (by rfl) (fun K hK => ?_)
      refine (HS.out.get 0 rfl).opstore rfl rfl rfl Tryz.row16 (by simp [zeros_length]) (by rw [List.length_map]; exact HXX.out) (oneCell_B _) (fun w13 hb ho => hK _ _ ?_)
      clear hK K
      have HS := Lib.hid (HS.out.change 0 hb ho (.inl (by omega)) (fun e he => by have := HNE.out e he; omega))
      clear hb ho HNE hps
      go_simp
      refine walkR_nil ?_
      have HXXM := Lib.hid (show (X.map B).length = 16 by rw [List.length_map]; exact HXX.out)
      have hbp := built_pair W X HWL.out HXX.out
      have hc0 := (HS.out.get 4 rfl).cell 0 (.slice (some ⟨pb, 0, none⟩) np cp) (by rw [HVV.out.1]; rfl)
      have hlp := HS.out.size
      go_wp2_with (first | (refine (HS.out.get 1 rfl).wload rfl rfl rfl Tryz.row16 HWM.out ?_) | (refine (HS.out.get 0 rfl).wload rfl rfl rfl Tryz.row16 HXXM.out ?_) | (refine wpList_built1 253 _ _ _ rfl rfl rfl hbp ?_) | (refine (HS.out.get 5 rfl).wstoreAt (o := i * 32) (cs := W.map B ++ X.map B) rfl rfl rfl rfl Tryz.rowPair (by simp [HWL.out, HXX.out]) (by have := midV_fit (A := A) (R := R) (tl := tl) (M := a ++ b) (by simp [HA.out, HB.out]); rw [HAL.out] at this; exact this) (by intro u hu; rcases List.mem_append.1 hu with hu | hu <;> exact oneCell_B _ _ hu) ?_))
      intro w14 hb14 ho14
      have hb14 : Blk w14 pb (midV A (W ++ X) R tl) 253 := by
        rw [← midV_set (A := A) (M := a ++ b) (C := W ++ X) (R := R) (tl := tl) HAL.out (by simp [HA.out, HB.out, HWL.out, HXX.out])]
        simpa [List.append_assoc] using hb14
      have HS := Lib.hid (show Su w pb w14 [(bx13, X.map B, 52), (bx8, W.map B, 52), (bw2, sum.map B, 52), (bw1, (zeros 16).map B, 52), (bb, V, 189), (pb, midV A (W ++ X) R tl, 253)] from HS.out.change 5 hb14 ho14 (.inr rfl) (by simp; omega))
      clear hb14 ho14 hbp hc0
      have HSL := Lib.hid (plusB_length [sum, X])
      go_wp2_with (first | (refine (HS.out.get 2 rfl).wload rfl rfl rfl Tryz.row16 HXM.out ?_) | (refine (HS.out.get 0 rfl).wload rfl rfl rfl Tryz.row16 HXXM.out ?_) | (refine wpList_rows 49 52 16 2 _ [sum.map B, X.map B] rfl rfl rfl Tryz.underlying49 Tryz.zsBlock rfl (by omega) rfl (by omega) (by omega) (by simp [HX.out, HXX.out]) ?_))
      intro w15 hb hbel
      have HS := Lib.hid (HS.out.later hbel)
      have HR := Lib.hid (show RowsN 16 w15 (some ⟨w14.heap.size, 0, none⟩) [sum, X] from ⟨by simp [HX.out, HXX.out], by have := hb.lies; simpa using this⟩)
      clear hb hbel
      go_wp2_with fail
      refine (cplus_ok (some ⟨w14.heap.size, 0, none⟩) 2 2 [sum, X] _ rfl (by omega) HR.out).mono ?_
      rintro e w16 ⟨rfl, hbel⟩
      have HS := Lib.hid (HS.out.later hbel)
      generalize plusB [sum, X] = s2 at *
      clear hbel HR
      go_wp2_with (refine (HS.out.get 2 rfl).wstore rfl rfl rfl rfl Tryz.row16 HXM.out (by rw [List.length_map]; exact HSL.out) (oneCell_B _) ?_)
      intro w17 hb17 ho17
      have HS := Lib.hid (show Su w pb w17 [(bx13, X.map B, 52), (bx8, W.map B, 52), (bw2, s2.map B, 52), (bw1, (zeros 16).map B, 52), (bb, V, 189), (pb, midV A (W ++ X) R tl, 253)] from HS.out.change 2 hb17 ho17 (.inl (by have := HBB.out; omega)) (by simp; omega))
      have HS := Lib.hid (show Su w pb w17 [(bw2, s2.map B, 52), (bw1, (zeros 16).map B, 52), (bb, V, 189), (pb, (flatP (aheadP k 0 (ps.take (i + 1)) ++ ps.drop (i + 1))).map B ++ tl, 253)] from by rw [HN1.out.1]; exact HS.out.tail2)
      clear hb17 ho17
      go_wp2
      go_roundw
      case rel => exact ⟨i + 1, s2, by omega, by rw [← HI1.out.1], HSL, HE, HS⟩
      case measure => have := HI1.out.1; simp [intOf]; omega
    · obtain rfl : i = np := by omega
      have HE := Lib.hid (show sum = S ∧ True from ⟨by have := HE.out.1; rwa [List.drop_eq_nil_of_le (by rw [HNP.out]; exact Nat.le_refl _)] at this, trivial⟩)
      have HS := Lib.hid (show Su w pb wr [(bw2, sum.map B, 52), (bw1, (zeros 16).map B, 52), (bb, V, 189), (pb, (flatP (aheadP k 0 ps)).map B ++ tl, 253)] from by
        have := HS.out
        rwa [List.drop_eq_nil_of_le (by rw [HNP.out]; exact Nat.le_refl _), List.take_of_length_le (by rw [HNP.out]; exact Nat.le_refl _), List.append_nil] at this)
      go_wp2_with (first | (refine (HS.out.get 0 rfl).wload rfl rfl rfl Tryz.row16 HXM.out ?_) | (refine (HS.out.get 1 rfl).wstore rfl rfl rfl rfl Tryz.row16 (by rw [List.length_map]; exact zeros_length 16) HXM.out (oneCell_B _) ?_))
      intro w6 hb6 ho6
      have HS := Lib.hid (HS.out.change 1 hb6 ho6 (.inl (by have := HBB.out; omega)) (by simp; omega))
      have HP := Lib.hid (HS.out.get 3 rfl)
      go_wp2
      refine hb6.result rfl rfl rfl Tryz.row16 HXM.out ⟨by rw [HE.out.1], HP.out, HS.out.only⟩

end Go.Proofs.YtbpghohkhngdfaaGreatDoor
/-
  A region that draws its order, part of which is met by an invariant: whatever of M has come up, the invariant tells of the frame and of memory. No program.
-/
set_option linter.unusedVariables false
namespace Go
open Go.RowKit
section
variable {P : Program} {ops : Array Oper} {Q : Exit → Act → World → Prop} {md : Region.Mode}

def subLists : List Nat → List (List Nat)
  | [] => [[]]
  | i :: r => subLists r ++ (subLists r).map (i :: ·)
theorem filter_sub (D : Nat → Bool) : ∀ (M : List Nat), M.filter D ∈ subLists M
  | [] => by simp [subLists]
  | i :: r => by
    have ih := filter_sub D r
    by_cases h : D i = true
    · rw [List.filter_cons_of_pos h]
      exact List.mem_append_right _ (List.mem_map.2 ⟨_, ih, rfl⟩)
    · rw [List.filter_cons_of_neg h]
      exact List.mem_append_left _ ih

/-- What stands ahead of an operation, of M. -/
def needOf (need : List (Nat × List Nat)) (k : Nat) : List Nat := ((need.find? fun p => p.1 == k).map (·.2)).getD []

def Region.checkI (md : Region.Mode) (ops : Array Oper) (M : List Nat) (need : List (Nat × List Nat)) (listed : Array Bool) : Bool :=
  (subLists M).all fun S => (S == M || !(S.all fun k => (needOf need k).all fun d => S.contains d)) || (!(Region.ready md ops (Region.plus listed S)).isEmpty && (Region.ready md ops (Region.plus listed S)).all fun k => M.contains k && !S.contains k && (needOf need k).all fun d => S.contains d)

theorem plus_step (listed : Array Bool) (M : List Nat) (D : Nat → Bool) (k : Nat) (hk : k ∈ M) : Region.plus listed (M.filter fun j => D j || j == k) = (Region.plus listed (M.filter D)).setIfInBounds k true := by
  apply Array.ext_getElem?
  intro j
  rw [plus_at, Array.getElem?_setIfInBounds]
  by_cases e : k = j
  · subst e
    rw [if_pos rfl]
    have hc : (M.filter fun j => D j || j == k).contains k = true := by simp [hk]
    rw [hc]
    by_cases hb : k < listed.size
    · have h2 : k < (Region.plus listed (M.filter D)).size := by
        have := plus_at (M.filter D) listed k
        rw [Array.getElem?_eq_getElem hb] at this
        exact (Array.getElem?_eq_some_iff.1 this).1
      rw [if_pos h2, Array.getElem?_eq_getElem hb]
      simp
    · have h2 : ¬ k < (Region.plus listed (M.filter D)).size := by
        intro h2
        have := plus_at (M.filter D) listed k
        rw [show listed[k]? = none from Array.getElem?_eq_none (by omega), Array.getElem?_eq_getElem h2] at this
        cases this
      rw [if_neg h2, Array.getElem?_eq_none (by omega)]
      rfl
  · rw [if_neg e, plus_at]
    have hc : (M.filter fun j => D j || j == k).contains j = (M.filter D).contains j := by
      rw [Bool.eq_iff_iff]
      simp only [List.contains_iff_mem, List.mem_filter, Bool.or_eq_true, beq_iff_eq]
      constructor
      · rintro ⟨h1, h2 | h2⟩
        · exact ⟨h1, h2⟩
        · exact absurd h2.symm e
      · rintro ⟨h1, h2⟩
        exact ⟨h1, .inl h2⟩
    rw [hc]

theorem wpAnyR_of_I (M : List Nat) (need : List (Nat × List Nat)) (I : (Nat → Bool) → Act → World → Prop) (listed : Array Bool) (R : Nat) (hc : Region.checkI md ops M need listed = true)
    (hstep : ∀ D a w k, k ∈ M → D k = false → (∀ d ∈ needOf need k, D d = true) → I D a w → wpOp P ops Q k (fun a' w' => ((ops[k]?).map Oper.kindR ≠ some 2 → Later w w') ∧ I (fun j => D j || j == k) a' w') a w)
    (hend : ∀ a w fuel, R ≤ fuel → I (fun j => M.contains j) a w → wpAnyR P md ops Q fuel (Region.plus listed M) a w) :
    ∀ (n : Nat) (D : Nat → Bool) (a : Act) (w : World) (fuel : Nat), (M.filter fun j => !D j).length ≤ n → (∀ j, D j = true → j ∈ M) → (∀ j, D j = true → ∀ d ∈ needOf need j, D d = true) → I D a w → n + R ≤ fuel → wpAnyR P md ops Q fuel (Region.plus listed (M.filter D)) a w
  | 0, D, a, w, fuel, hn, hD, hcl, hI, hf => by
    have hall : ∀ j ∈ M, D j = true := by
      intro j hj
      have h0 := List.eq_nil_of_length_eq_zero (Nat.le_zero.1 hn)
      rw [List.filter_eq_nil_iff] at h0
      have := h0 j hj
      simpa using this
    have e1 : M.filter D = M := List.filter_eq_self.2 hall
    have e2 : D = fun j => M.contains j := by
      funext j
      rw [Bool.eq_iff_iff, List.contains_iff_mem]
      exact ⟨hD j, hall j⟩
    rw [e1]
    exact hend a w fuel (by omega) (e2 ▸ hI)
  | n + 1, D, a, w, fuel, hn, hD, hcl, hI, hf => by
    by_cases h0 : (M.filter fun j => !D j).length = 0
    · exact wpAnyR_of_I M need I listed R hc hstep hend 0 D a w fuel (by omega) hD hcl hI (by omega)
    obtain ⟨f, rfl⟩ : ∃ f, fuel = f + 1 := ⟨fuel - 1, by omega⟩
    unfold Region.checkI at hc
    rw [List.all_eq_true] at hc
    have hS := hc _ (filter_sub D M)
    rw [Bool.or_eq_true, Bool.or_eq_true] at hS
    rcases hS with (hS | hS) | hS
    · exfalso
      have e : M.filter D = M := by simpa using hS
      have hall := List.filter_eq_self.1 e
      have h1 : M.filter (fun j => !D j) = [] := by
        rw [List.filter_eq_nil_iff]
        intro j hj
        simp [hall j hj]
      exact h0 (by rw [h1]; rfl)
    · exfalso
      have : ((M.filter D).all fun k => (needOf need k).all fun d => (M.filter D).contains d) = true := by
        rw [List.all_eq_true]
        intro k hk
        rw [List.all_eq_true]
        intro d hd
        have hk' := (List.mem_filter.1 hk).2
        have hd' := hcl k hk' d hd
        rw [List.contains_iff_mem]
        exact List.mem_filter.2 ⟨hD d hd', hd'⟩
      rw [this] at hS
      cases hS
    · rw [Bool.and_eq_true, List.all_eq_true] at hS
      obtain ⟨h1, h2⟩ := hS
      refine ⟨fun h => (by rw [h] at h1; simp at h1), fun k hk => ?_⟩
      have hk2 := h2 k hk
      simp only [Bool.and_eq_true, List.contains_iff_mem, List.all_eq_true, Bool.not_eq_true'] at hk2
      obtain ⟨⟨hkM, hkS⟩, hneed⟩ := hk2
      have hDk : D k = false := by
        cases hd : D k with
        | false => rfl
        | true => rw [← List.contains_iff_mem] at hkM; have : (M.filter D).contains k = true := by simp [hd]; simpa using hkM
                  rw [this] at hkS; cases hkS
      refine wpOp_mono (fun a' w' h' => ⟨h'.1, ?_⟩) (hstep D a w k hkM hDk (fun d hd => by have := hneed d hd; rw [List.mem_filter] at this; exact this.2) hI)
      rw [← plus_step listed M D k hkM]
      refine wpAnyR_of_I M need I listed R (by unfold Region.checkI; rw [List.all_eq_true]; exact hc) hstep hend n _ a' w' f ?_ ?_ ?_ h'.2 (by omega)
      · -- one less
        have key : ∀ (l : List Nat), k ∈ l → (l.filter fun j => !(D j || j == k)).length < (l.filter fun j => !D j).length := by
          intro l
          induction l with
          | nil => intro h; cases h
          | cons x r ih =>
            intro hm
            have hle : ∀ (l : List Nat), (l.filter fun j => !(D j || j == k)).length ≤ (l.filter fun j => !D j).length := by
              intro l
              induction l with
              | nil => simp
              | cons y s ih2 =>
                by_cases hy : D y = true
                · rw [List.filter_cons_of_neg (by simp [hy]), List.filter_cons_of_neg (by simp [hy])]; exact ih2
                · by_cases hyk : y = k
                  · rw [List.filter_cons_of_neg (by simp [hyk]), List.filter_cons_of_pos (by simp [hy])]; simp only [List.length_cons]; omega
                  · rw [List.filter_cons_of_pos (by simp [hy, hyk]), List.filter_cons_of_pos (by simp [hy])]; simp only [List.length_cons]; omega
            by_cases hx : x = k
            · subst hx
              rw [List.filter_cons_of_neg (by simp), List.filter_cons_of_pos (by simp [hDk]), List.length_cons]
              exact Nat.lt_succ_of_le (hle r)
            · have hr : k ∈ r := by
                rcases List.mem_cons.1 hm with h | h
                · exact absurd h.symm hx
                · exact h
              have := ih hr
              by_cases hdx : D x = true
              · rw [List.filter_cons_of_neg (by simp [hdx]), List.filter_cons_of_neg (by simp [hdx])]; exact this
              · rw [List.filter_cons_of_pos (by simp [hdx, hx]), List.filter_cons_of_pos (by simp [hdx])]; simp only [List.length_cons]; omega
        have := key M hkM
        omega
      · intro j hj
        simp only [Bool.or_eq_true, beq_iff_eq] at hj
        rcases hj with hj | rfl
        · exact hD j hj
        · exact hkM
      · intro j hj d hd
        simp only [Bool.or_eq_true, beq_iff_eq] at hj ⊢
        left
        rcases hj with hj | rfl
        · exact hcl j hj d hd
        · have := hneed d hd
          rw [List.mem_filter] at this
          exact this.2

theorem wpOp_do {k : Nat} {o : Oper} {a : Act} {w : World} {K : Act → World → Prop} (ho : ops[k]? = some o) (hg : o.guard = none) (h : o.wp P a w K Q) : wpOp P ops Q k K a w := by
  unfold wpOp
  simp [ho, Region.wanted, hg]
  exact .inl h

theorem wpOp_doK {k : Nat} {o : Oper} {a : Act} {w : World} {G : Act → World → Prop} (ho : ops[k]? = some o) (hg : o.guard = none) (h : ∀ K : Act → World → Prop, (∀ a' w', G a' w' → K a' w') → o.wp P a w K Q) : wpOp P ops Q k G a w :=
  wpOp_do ho hg (h G fun _ _ h => h)

/-- THE LAW: first the order s0 of what only computes or reads, then M in any order, met by the invariant, then the order s2. -/
theorem wp_region_I {id : Nat} {l : List Oper} {a : Act} {w : World} (s0 M s2 : List Nat) (need : List (Nat × List Nat)) (I : (Nat → Bool) → Act → World → Prop) (hm : P.follows .mixedOrders = true)
    (hB : (Region.noSelect l.toArray && (s0.length + (M.length + s2.length) == l.toArray.size) && Region.check0 .any l.toArray s0 (Array.replicate l.toArray.size false) && Region.checkI .any l.toArray M need (s0.foldl (fun l i => l.setIfInBounds i true) (Array.replicate l.toArray.size false)) &&
      Region.checkR .any l.toArray s2 (Region.plus (s0.foldl (fun l i => l.setIfInBounds i true) (Array.replicate l.toArray.size false)) M)) = true)
    (h : ∀ w', w' = w.drew → walk0 P l.toArray (fun a w1 => I (fun _ => false) a w1) s0 a w')
    (hstep : ∀ D a w k, k ∈ M → D k = false → (∀ d ∈ needOf need k, D d = true) → I D a w → wpOp P l.toArray (NoPanic Q) k (fun a' w' => ((l.toArray[k]?).map Oper.kindR ≠ some 2 → Later w w') ∧ I (fun j => D j || j == k) a' w') a w)
    (hend : ∀ a w, I (fun j => M.contains j) a w → walkR P l.toArray (NoPanic Q) s2 a w) : (Code.region id l.toArray true).wp P Q a w := by
  simp only [Bool.and_eq_true, beq_iff_eq] at hB
  obtain ⟨⟨⟨⟨hs, hl⟩, h0⟩, hI⟩, hR⟩ := hB
  refine wp_region_noPanic (wp_region_any hm (wpAny_of_R _ _ _ _ ?_))
  suffices key : wpAnyR P .any l.toArray (NoPanic Q) (s0.length + (M.length + s2.length)) (Array.replicate l.toArray.size false) a w.drew by
    rw [hl] at key; exact key
  refine wpAnyR_of_0 hs (fun c a w hq => hq) _ _ s0 _ a w.drew h0 (h _ rfl) ?_
  intro a1 w1 h1
  have := wpAnyR_of_I M need I _ s2.length hI hstep (fun a w fuel hf hk => wpAnyR_fuel _ _ _ _ _ hf (wpAnyR_of_walk hs (fun c a w hq => hq) s2 _ a w hR (hend a w hk))) M.length (fun _ => false) a1 w1 (M.length + s2.length) (List.length_filter_le _ _) (by simp) (by simp) h1 (Nat.le_refl _)
  rw [show M.filter (fun _ => false) = [] from List.filter_eq_nil_iff.2 (by simp)] at this
  exact this
end
end Go
