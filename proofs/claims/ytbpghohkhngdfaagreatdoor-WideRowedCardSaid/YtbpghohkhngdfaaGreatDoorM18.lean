/-
  Texts of this claim, one behind the other: EzcE RegionM RegionJ.
-/
import Derived.Test.YtbpghohkhngdfaaGreatDoorM17
import Derived.Test.YtbpghohkhngdfaaGreatDoorM8
/-
  The walks of ezcore: the pairs' second turn.
-/
set_option linter.unusedSimpArgs false
set_option linter.unusedVariables false
namespace Go.Cells
open Go.RowKit
theorem opvar1 {P : Program} {w : World} {o : Oper} {a : Act} {K : Act → World → Prop} {Q : Exit → Act → World → Prop} (t : TypeId) (vs : List Value) (z : Value)
    (ho : o.op = .alloc t) (hz : (P.info? t).map (·.zero) = some (some z)) (hv : z.cells = vs.toArray)
    (k : ∀ w', Blk w' w.heap.size vs t → Below w.heap.size w w' → K (a.put o.dst (.pointer (some ⟨w.heap.size, 0, none⟩))) w') : o.wp P a w K Q := by
  have hk := k (w.alloc (.cells vs.toArray t)) (Blk.new w vs t) (later_alloc w _)
  cases hq : P.info? t with
  | none => rw [hq] at hz; cases hz
  | some x =>
    rw [hq] at hz
    have hx : x.zero = some z := by simpa using hz
    unfold Oper.wp
    simp [execOp, ho, Instr.alloc, zeroValue, typeInfo, hq, hx, newVar, newRow, hv]
    exact hk
end Go.Cells
namespace Go.Proofs.YtbpghohkhngdfaaGreatDoor
open Go.RowKit Go.Mem Go.Ops Go.Cells Go.Oct Go.Gf Go.Trn Go.Aes Go.Ring Go.Ezk Go.Ezh Go.Ezt Go.Ezc Go.CutP Go.Fl
set_option maxRecDepth 100000
attribute [local irreducible] walkR walkP walk0 walkB walkK

/-- What has come up of the two sums. -/
structure BI (D : Nat → Bool) (base : Nat) (w : World) (v10 v11 v31 v32 v40 v41 : Value) (a b E Y U : List UInt8) : Prop where
  r7 : D 7 = true → ∃ n, v31 = .slice (some ⟨n, 0, none⟩) 2 2 ∧ RowsN 16 w (some ⟨n, 0, none⟩) [a, E]
  r16 : D 16 = true → ∃ n, v40 = .slice (some ⟨n, 0, none⟩) 2 2 ∧ RowsN 16 w (some ⟨n, 0, none⟩) [b, E]
  r8 : D 8 = true → v32 = .agg (Y.map B).toArray
  r17 : D 17 = true → v41 = .agg (U.map B).toArray
  r18 : D 18 = true → ∃ n, v10 = .pointer (some ⟨n, 0, none⟩) ∧ base ≤ n ∧ Blk w n ((zeros 16).map B) 52
  r19 : D 19 = true → ∃ n, v11 = .pointer (some ⟨n, 0, none⟩) ∧ base ≤ n ∧ Blk w n ((zeros 16).map B) 52
  ne : D 18 = true → D 19 = true → v10 ≠ v11
section
variable {D : Nat → Bool} {base : Nat} {w w' : World} {v10 v11 v31 v32 v40 v41 : Value} {a b E Y U : List UInt8}
theorem BI.nought (v10 v11 v31 v32 v40 v41 : Value) : BI (fun _ => false) base w v10 v11 v31 v32 v40 v41 a b E Y U :=
  ⟨fun h => (by cases h), fun h => (by cases h), fun h => (by cases h), fun h => (by cases h), fun h => (by cases h), fun h => (by cases h), fun h => (by cases h)⟩
theorem BI.later (h : BI D base w v10 v11 v31 v32 v40 v41 a b E Y U) (hb : Below w.heap.size w w') : BI D base w' v10 v11 v31 v32 v40 v41 a b E Y U :=
  ⟨fun x => by obtain ⟨n, e, r⟩ := h.r7 x; exact ⟨n, e, r.below hb⟩, fun x => by obtain ⟨n, e, r⟩ := h.r16 x; exact ⟨n, e, r.below hb⟩, h.r8, h.r17,
   fun x => by obtain ⟨n, e, r, s⟩ := h.r18 x; exact ⟨n, e, r, s.below hb s.lt⟩, fun x => by obtain ⟨n, e, r, s⟩ := h.r19 x; exact ⟨n, e, r, s.below hb s.lt⟩, h.ne⟩
theorem BI.s7 (h : BI D base w v10 v11 v31 v32 v40 v41 a b E Y U) {n : Nat} (hr : RowsN 16 w (some ⟨n, 0, none⟩) [a, E]) : BI (fun j => D j || j == 7) base w v10 v11 (.slice (some ⟨n, 0, none⟩) 2 2) v32 v40 v41 a b E Y U :=
  ⟨fun _ => ⟨n, rfl, hr⟩, fun x => h.r16 (by simpa using x), fun x => h.r8 (by simpa using x), fun x => h.r17 (by simpa using x), fun x => h.r18 (by simpa using x), fun x => h.r19 (by simpa using x), fun x y => h.ne (by simpa using x) (by simpa using y)⟩
theorem BI.s16 (h : BI D base w v10 v11 v31 v32 v40 v41 a b E Y U) {n : Nat} (hr : RowsN 16 w (some ⟨n, 0, none⟩) [b, E]) : BI (fun j => D j || j == 16) base w v10 v11 v31 v32 (.slice (some ⟨n, 0, none⟩) 2 2) v41 a b E Y U :=
  ⟨fun x => h.r7 (by simpa using x), fun _ => ⟨n, rfl, hr⟩, fun x => h.r8 (by simpa using x), fun x => h.r17 (by simpa using x), fun x => h.r18 (by simpa using x), fun x => h.r19 (by simpa using x), fun x y => h.ne (by simpa using x) (by simpa using y)⟩
theorem BI.s8 (h : BI D base w v10 v11 v31 v32 v40 v41 a b E Y U) : BI (fun j => D j || j == 8) base w v10 v11 v31 (.agg (Y.map B).toArray) v40 v41 a b E Y U :=
  ⟨fun x => h.r7 (by simpa using x), fun x => h.r16 (by simpa using x), fun _ => rfl, fun x => h.r17 (by simpa using x), fun x => h.r18 (by simpa using x), fun x => h.r19 (by simpa using x), fun x y => h.ne (by simpa using x) (by simpa using y)⟩
theorem BI.s17 (h : BI D base w v10 v11 v31 v32 v40 v41 a b E Y U) : BI (fun j => D j || j == 17) base w v10 v11 v31 v32 v40 (.agg (U.map B).toArray) a b E Y U :=
  ⟨fun x => h.r7 (by simpa using x), fun x => h.r16 (by simpa using x), fun x => h.r8 (by simpa using x), fun _ => rfl, fun x => h.r18 (by simpa using x), fun x => h.r19 (by simpa using x), fun x y => h.ne (by simpa using x) (by simpa using y)⟩
theorem BI.s18 (h : BI D base w v10 v11 v31 v32 v40 v41 a b E Y U) (hB : base ≤ w.heap.size) (hbl : Blk w' w.heap.size ((zeros 16).map B) 52) (hb : Below w.heap.size w w') : BI (fun j => D j || j == 18) base w' (.pointer (some ⟨w.heap.size, 0, none⟩)) v11 v31 v32 v40 v41 a b E Y U := by
  have h' := h.later hb
  refine ⟨fun x => h'.r7 (by simpa using x), fun x => h'.r16 (by simpa using x), fun x => h'.r8 (by simpa using x), fun x => h'.r17 (by simpa using x), fun _ => ⟨_, rfl, hB, hbl⟩, fun x => h'.r19 (by simpa using x), fun _ y => ?_⟩
  obtain ⟨n, e, _, s⟩ := h.r19 (by simpa using y)
  rw [e]
  intro hh
  have := s.lt
  simp at hh
  try omega
theorem BI.s19 (h : BI D base w v10 v11 v31 v32 v40 v41 a b E Y U) (hB : base ≤ w.heap.size) (hbl : Blk w' w.heap.size ((zeros 16).map B) 52) (hb : Below w.heap.size w w') : BI (fun j => D j || j == 19) base w' v10 (.pointer (some ⟨w.heap.size, 0, none⟩)) v31 v32 v40 v41 a b E Y U := by
  have h' := h.later hb
  refine ⟨fun x => h'.r7 (by simpa using x), fun x => h'.r16 (by simpa using x), fun x => h'.r8 (by simpa using x), fun x => h'.r17 (by simpa using x), fun x => h'.r18 (by simpa using x), fun _ => ⟨_, rfl, hB, hbl⟩, fun x _ => ?_⟩
  obtain ⟨n, e, _, s⟩ := h.r18 (by simpa using x)
  rw [e]
  intro hh
  have := s.lt
  simp at hh
  try omega
end
theorem behindP_snoc (k : Parts) (z : List UInt8) : ∀ (ps : Pairs) (n : Nat) (p : List UInt8 × List UInt8), behindP k z n (ps ++ [p]) = behindP k z n ps ++ [(firstOf k z (n + ps.length) p, secondOf k z (n + ps.length) p)]
  | [], n, p => by simp [behindP]
  | q :: ps, n, p => by
    simp only [List.cons_append, behindP, behindP_snoc k z ps (n + 1) p, List.length_cons]
    rw [show n + 1 + ps.length = n + (ps.length + 1) by omega]

set_option maxHeartbeats 8000000 in
theorem behind_ok (kp q p : Nat) (k : Parts) (pb np cp : Nat) (ps : Pairs) (tl : List Value) (uv vv : Value) (x y z : List UInt8) (w : World) (hk : EKey w kp q p k) (hnp : ps.length = np) (hf : ∀ r ∈ ps, PairFit r) (hz : z.length = 16)
    (hp : Blk w pb ((flatP ps).map B ++ tl) 253) (hb : np ≤ 900) :
    Calls Tryz.prog 132 #[.agg (msgV (.slice (some ⟨pb, 0, none⟩) np cp) uv vv x y).toArray, .pointer (some ⟨kp, 0, none⟩), .agg (z.map B).toArray] w fun e w' => e = .returned (.agg ((behindS k z 0 (zeros 16) ps).map B).toArray) ∧ Blk w' pb ((flatP (behindP k z 0 ps)).map B ++ tl) 253 ∧ OnlyB pb w w' := by
  have n1 : kp ≠ pb := hk.blk.ne' hp (by decide)
  have n2 : q ≠ pb := hk.tab.tab.ne' hp (by decide)
  have n3 : p ≠ pb := hk.tab.boxes.ne' hp (by decide)
  have HK := Lib.hid hk
  have HNP := Lib.hid hnp
  have HF := Lib.hid hf
  have HZ := Lib.hid hz
  have HZM := Lib.hid (show (z.map B).length = 16 by rw [List.length_map]; exact hz)
  have hpb := hp.lt
  have HS := Lib.hid ((Su.start pb w).add hp)
  obtain ⟨V, hV⟩ : ∃ V, V = msgV (.slice (some ⟨pb, 0, none⟩) np cp) uv vv x y := ⟨_, rfl⟩
  have HVV := Lib.hid (show V = msgV (.slice (some ⟨pb, 0, none⟩) np cp) uv vv x y ∧ True from ⟨hV, trivial⟩)
  obtain ⟨S, hS⟩ : ∃ S, S = behindS k z 0 (zeros 16) ps := ⟨_, rfl⟩
  have HSS := Lib.hid (show behindS k z 0 (zeros 16) ps = S ∧ True from ⟨hS.symm, trivial⟩)
  rw [← hV, ← hS]
  clear hk hnp hf hp hV hS hz
  go_enter Tryz.func132, Tryz.ntmps132
  go_wp2_with (refine wpList_box 189 _ (V) _ rfl rfl rfl rfl ?_)
  intro w1 hb hbel; have HS := Lib.hid (HS.out.push hb hbel); have hlt1 := hb.lt; clear hb hbel
  go_wp2_with (refine wpList_box 52 _ (z.map B) _ rfl rfl rfl rfl ?_)
  intro w2 hb hbel; have HS := Lib.hid (HS.out.push hb hbel); have hlt2 := hb.lt; clear hb hbel
  go_wp2_with (refine wpList_var 52 ((zeros 16).map B) _ rfl rfl Tryz.zero16 rfl ?_)
  intro w3 hb hbel; have HS := Lib.hid (HS.out.push hb hbel); have hlt3 := hb.lt; clear hb hbel
  go_wp2_with (refine wpList_var 52 ((zeros 16).map B) _ rfl rfl Tryz.zero16 rfl ?_)
  intro w4 hb hbel; have HS := Lib.hid (HS.out.push hb hbel); have hlt4 := hb.lt; clear hb hbel
  generalize hbb : w.heap.size = bb at *
  generalize w1.heap.size = bw1 at *
  generalize w2.heap.size = bw2 at *
  generalize w3.heap.size = bw3 at *
  have HBB := Lib.hid hbb
  clear hbb
  have hc0 := (HS.out.get 3 rfl).cell 0 (.slice (some ⟨pb, 0, none⟩) np cp) (by rw [HVV.out.1]; rfl)
  go_wp2
  go_loopw [16] (fun c wr => ∃ (i : Nat) (sum : List UInt8), i ≤ np ∧ c = .int .i64 i ∧ Hid (sum.length = 16) ∧ Hid (behindS k z i sum (ps.drop i) = S ∧ True) ∧ Hid (Su w pb wr [(bw3, sum.map B, 52), (bw2, (zeros 16).map B, 52), (bw1, z.map B, 52), (bb, V, 189), (pb, (flatP (behindP k z 0 (ps.take i) ++ ps.drop i)).map B ++ tl, 253)])) (fun c _ => np - (intOf c).toNat)
  case atStart => exact ⟨0, zeros 16, by omega, rfl, Lib.hid (zeros_length 16), HSS, HS⟩
  case round =>
    clear HS hc0
    obtain ⟨i, sum, hi, rfl, HX, HE, HS⟩ := hrel
    have HXM := Lib.hid (show (sum.map B).length = 16 by rw [List.length_map]; exact HX.out)
    have hr2 := (HS.out.get 0 rfl).lt
    by_cases hlt : i < np
    · obtain ⟨⟨a, b⟩, hpi⟩ : ∃ r, ps[i]? = some r := ⟨ps[i]'(by rw [HNP.out]; exact hlt), by simp⟩
      have hd := drop_at hpi
      have hab := HF.out _ (List.mem_of_getElem? hpi)
      have HA := Lib.hid (show a.length = 16 from hab.1)
      have HB := Lib.hid (show b.length = 16 from hab.2)
      have HAM := Lib.hid (show (a.map B).length = 16 by rw [List.length_map]; exact hab.1)
      have HBM := Lib.hid (show (b.map B).length = 16 by rw [List.length_map]; exact hab.2)
      have hAl : (flatP (behindP k z 0 (ps.take i))).length = i * 32 := by
        rw [flatP_length _ (behindP_fit k z _ _), behindP_length, List.length_take, HNP.out]; omega
      have hn1 : flatP (behindP k z 0 (ps.take (i + 1)) ++ ps.drop (i + 1)) = flatP (behindP k z 0 (ps.take i)) ++ (firstOf k z i (a, b) ++ secondOf k z i (a, b)) ++ flatP (ps.drop (i + 1)) := by
        rw [take_snoc' hpi, behindP_snoc, List.length_take, HNP.out, show 0 + min i np = i by omega, flatP_append, flatP_snoc]
      have he := HE.out.1
      rw [hd] at he
      have HE := Lib.hid (show behindS k z (i + 1) (plusB [sum, yOf k z i (a, b)]) (ps.drop (i + 1)) = S ∧ True from ⟨he, trivial⟩)
      have hs := HS.out
      rw [hd, flatP_append, show flatP ((a, b) :: ps.drop (i + 1)) = a ++ b ++ flatP (ps.drop (i + 1)) from rfl, ← List.append_assoc] at hs
      have HN1 := Lib.hid (And.intro hn1 trivial)
      obtain ⟨A, hA⟩ : ∃ A, A = flatP (behindP k z 0 (ps.take i)) := ⟨_, rfl⟩
      obtain ⟨R, hR⟩ : ∃ R, R = flatP (ps.drop (i + 1)) := ⟨_, rfl⟩
      rw [← hA, ← hR] at hs HN1
      rw [← hA] at hAl
      have HAL := Lib.hid hAl
      have HS := Lib.hid (show Su w pb wr [(bw3, sum.map B, 52), (bw2, (zeros 16).map B, 52), (bw1, z.map B, 52), (bb, V, 189), (pb, midV A (a ++ b) R tl, 253)] from hs)
      clear hpi hd hab hAl hn1 he hs hA hR
      obtain ⟨i1, hi1⟩ : ∃ i1, i1 = i + 1 := ⟨_, rfl⟩
      have hni : (i : Int) + 1 = (i1 : Int) := by omega
      have hi9 : i1 ≤ 1000 := by omega
      have HI1 := Lib.hid (show i1 = i + 1 ∧ True from ⟨hi1, trivial⟩)
      -- the names of what comes up
      obtain ⟨E, hE⟩ : ∃ E, E = eBlk k 2 i1 z := ⟨_, rfl⟩
      obtain ⟨Y, hY⟩ : ∃ Y, Y = yOf k z i (a, b) := ⟨_, rfl⟩
      obtain ⟨U, hU⟩ : ∃ U, U = vOf k z i (a, b) := ⟨_, rfl⟩
      obtain ⟨C, hC⟩ : ∃ C, C = secondOf k z i (a, b) := ⟨_, rfl⟩
      obtain ⟨F, hF⟩ : ∃ F, F = firstOf k z i (a, b) := ⟨_, rfl⟩
      have HEE := Lib.hid (show eBlk k 2 i1 z = E ∧ True from ⟨hE.symm, trivial⟩)
      have HY1 := Lib.hid (show plusB [a, E] = Y ∧ True from ⟨by rw [hY, hE, hi1]; rfl, trivial⟩)
      have HU1 := Lib.hid (show plusB [b, E] = U ∧ True from ⟨by rw [hU, hE, hi1]; rfl, trivial⟩)
      have HC1 := Lib.hid (show plusB [Y, eBlk k 0 0 U] = C ∧ True from ⟨by rw [hC, hY, hU]; rfl, trivial⟩)
      have HF1 := Lib.hid (show plusB [U, eBlk k 1 i1 C] = F ∧ True from ⟨by rw [hF, hC, hU, hi1]; rfl, trivial⟩)
      have HEL := Lib.hid (show E.length = 16 by rw [hE]; exact eBlk_length _ _ _ _)
      have HYL := Lib.hid (show Y.length = 16 by rw [hY]; exact yOf_length _ _ _ _)
      have HUL := Lib.hid (show U.length = 16 by rw [hU]; exact vOf_length _ _ _ _)
      have HCL := Lib.hid (show C.length = 16 by rw [hC]; exact secondOf_length _ _ _ _)
      have HFL := Lib.hid (show F.length = 16 by rw [hF]; exact firstOf_length _ _ _ _)
      rw [← hY] at HE
      rw [← hF, ← hC] at HN1
      clear hi1 hE hY hU hC hF
      have HEM := Lib.hid (show (E.map B).length = 16 by rw [List.length_map]; exact HEL.out)
      have HYM := Lib.hid (show (Y.map B).length = 16 by rw [List.length_map]; exact HYL.out)
      have HUM := Lib.hid (show (U.map B).length = 16 by rw [List.length_map]; exact HUL.out)
      have HCM := Lib.hid (show (C.map B).length = 16 by rw [List.length_map]; exact HCL.out)
      have HFM := Lib.hid (show (F.map B).length = 16 by rw [List.length_map]; exact HFL.out)
      go_wp2_with (refine (HS.out.get 2 rfl).wload rfl rfl rfl Tryz.row16 HZM.out ?_)
      go_wp2_with fail
      refine (e_ok kp q p 2 i1 k z _ (HK.out.onlyB HS.out.only n1 n2 n3) (by omega) hi9 HZ.out).mono ?_
      rintro e w5 ⟨rfl, hbel⟩
      rw [HEE.out.1]
      have HS := Lib.hid (HS.out.later hbel)
      have hz5 := hbel.size
      clear hbel
      go_wp2_with (refine wpList_var 52 ((zeros 16).map B) _ rfl rfl Tryz.zero16 rfl ?_)
      intro w6 hb hbel; have HS := Lib.hid (HS.out.push hb hbel); have hlt6 := hb.lt; clear hb hbel
      go_wp2_with (refine (HS.out.get 0 rfl).wstore rfl rfl rfl rfl Tryz.row16 (by rw [List.length_map]; exact zeros_length 16) HEM.out (oneCell_B _) ?_)
      intro w7 hb7 ho7
      have HS := Lib.hid (show Su w pb w7 [(w5.heap.size, E.map B, 52), (bw3, sum.map B, 52), (bw2, (zeros 16).map B, 52), (bw1, z.map B, 52), (bb, V, 189), (pb, midV A (a ++ b) R tl, 253)] from HS.out.change 0 hb7 ho7 (.inl (by have := HBB.out; omega)) (by simp; omega))
      clear hb7 ho7
      generalize w5.heap.size = be at *
      have hr7 := (HS.out.get 0 rfl).lt
      have hc0 := fun (z : After w7.drew) => ((HS.out.drew.later z.later).get 4 rfl).cell 0 (.slice (some ⟨pb, 0, none⟩) np cp) (by rw [HVV.out.1]; rfl)
      go_wp2_with fail
      refine wp_region_I [0, 1, 2, 3, 4, 5, 6, 9, 10, 11, 12, 13, 14, 15] [7, 8, 16, 17, 18, 19] [20, 21] [(8, [7]), (17, [8, 16])] (fun D x wx => ∃ v10 v11 v31 v32 v40 v41, x = { tmps := #[.agg V.toArray, .pointer (some ⟨kp, 0, none⟩), .agg (z.map B).toArray, .pointer (some ⟨bb, 0, none⟩), undef, .pointer (some ⟨bw1, 0, none⟩), .pointer (some ⟨bw2, 0, none⟩), .pointer (some ⟨bw3, 0, none⟩), .int .i64 i, .pointer (some ⟨be, 0, none⟩), v10, v11, u12, .pointer (some ⟨bb, 0, none⟩), .slice (some ⟨pb, 0, none⟩) np cp, .int .i64 np, .int .i64 i, .bool true, .int .i64 i, .pointer (some ⟨kp, 0, none⟩), .int .i64 i, .int .i64 i1, .agg (z.map B).toArray, .agg (E.map B).toArray, .pointer (some ⟨bb, 0, none⟩), .slice (some ⟨pb, 0, none⟩) np cp, .int .i64 i, .pointer (some ⟨pb, i * 32, none⟩), .pointer (some ⟨pb, i * 32, none⟩), .agg (a.map B).toArray, .agg (E.map B).toArray, v31, v32, .pointer (some ⟨bb, 0, none⟩), .slice (some ⟨pb, 0, none⟩) np cp, .int .i64 i, .pointer (some ⟨pb, i * 32, none⟩), .pointer (some ⟨pb, i * 32 + 16, none⟩), .agg (b.map B).toArray, .agg (E.map B).toArray, v40, v41, u42, u43, u44, u45, u46, u47, u48, u49, u50, u51, u52, u53, u54, u55, u56, u57, u58, u59, u60, u61, u62, u63, u64, u65, u66, undef], defers := [] } ∧ Hid (Su w pb wx [(be, E.map B, 52), (bw3, sum.map B, 52), (bw2, (zeros 16).map B, 52), (bw1, z.map B, 52), (bb, V, 189), (pb, midV A (a ++ b) R tl, 253)]) ∧ w7.heap.size ≤ wx.heap.size ∧ Hid (BI D w7.heap.size wx v10 v11 v31 v32 v40 v41 a b E Y U)) (by kernel_rfl) (by kernel_rfl) ?_ ?_ ?_
      · rintro w8 rfl
        have HS := Lib.hid HS.out.drew
        (refine walk0_one rfl rfl rfl (fun K hK => ?_); go_big_quiet_step (fail); refine wpQuiet_nil (hK _ ?_); clear hK K); (refine walk0_one rfl rfl rfl (fun K hK => ?_); go_big_quiet_step (fail); refine wpQuiet_nil (hK _ ?_); clear hK K); (refine walk0_one rfl rfl rfl (fun K hK => ?_); go_big_quiet_step (fail); refine wpQuiet_nil (hK _ ?_); clear hK K); (refine walk0_one rfl rfl rfl (fun K hK => ?_); go_big_quiet_step (fail); refine wpQuiet_nil (hK _ ?_); clear hK K); (refine walk0_one rfl rfl rfl (fun K hK => ?_); go_big_quiet_step (fail); refine wpQuiet_nil (hK _ ?_); clear hK K)
        refine walk0_load (Blk.rangeIn (HS.out.get 5 rfl) (i * 32) 16 _ (by exact midV_left HAL.out HA.out)) (HS.out.get 5 rfl).lt Tryz.row16 HAM.out rfl rfl rfl (fun K hK => ?_)
        go_simp; refine hK _ ?_; clear hK K
        refine walk0_load (HS.out.get 0 rfl).range (HS.out.get 0 rfl).lt Tryz.row16 HEM.out rfl rfl rfl (fun K hK => ?_)
        go_simp; refine hK _ ?_; clear hK K
        (refine walk0_one rfl rfl rfl (fun K hK => ?_); go_big_quiet_step (fail); refine wpQuiet_nil (hK _ ?_); clear hK K); (refine walk0_one rfl rfl rfl (fun K hK => ?_); go_big_quiet_step (fail); refine wpQuiet_nil (hK _ ?_); clear hK K); (refine walk0_one rfl rfl rfl (fun K hK => ?_); go_big_quiet_step (fail); refine wpQuiet_nil (hK _ ?_); clear hK K); (refine walk0_one rfl rfl rfl (fun K hK => ?_); go_big_quiet_step (fail); refine wpQuiet_nil (hK _ ?_); clear hK K); (refine walk0_one rfl rfl rfl (fun K hK => ?_); go_big_quiet_step (fail); refine wpQuiet_nil (hK _ ?_); clear hK K)
        refine walk0_load (Blk.rangeIn (HS.out.get 5 rfl) (i * 32 + 16) 16 _ (by exact midV_right HAL.out HA.out HB.out)) (HS.out.get 5 rfl).lt Tryz.row16 HBM.out rfl rfl rfl (fun K hK => ?_)
        go_simp; refine hK _ ?_; clear hK K
        refine walk0_load (HS.out.get 0 rfl).range (HS.out.get 0 rfl).lt Tryz.row16 HEM.out rfl rfl rfl (fun K hK => ?_)
        go_simp; refine hK _ ?_; clear hK K
        refine walk0_nil ⟨_, _, _, _, _, _, rfl, HS, Nat.le_refl _, BI.nought _ _ _ _ _ _⟩
      · clear hc0
        rintro D x wx kk hkM hDk hneed ⟨v10, v11, v31, v32, v40, v41, rfl, HS, hsz, HBI⟩
        simp only [List.mem_cons, List.not_mem_nil, or_false] at hkM
        rcases hkM with rfl | rfl | rfl | rfl | rfl | rfl
        · refine wpOp_doK rfl rfl (fun K hK => ?_)
          refine oprows 49 52 16 2 _ [a.map B, E.map B] rfl rfl Tryz.underlying49 Tryz.zsBlock rfl (by omega) rfl (by omega) (by omega) (by simp [HA.out, HEL.out]) (fun w' hb hbel => hK _ _ ?_)
          exact ⟨fun _ => hbel, v10, v11, .slice (some ⟨wx.heap.size, 0, none⟩) 2 2, v32, v40, v41, rfl, HS.out.later hbel, Nat.le_trans hsz hbel.size, (HBI.out.later hbel).s7 ⟨by simp [HA.out, HEL.out], by have := hb.lies; simpa using this⟩⟩
        · obtain ⟨n, rfl, hr⟩ := HBI.out.r7 (hneed 7 (by simp [needOf]))
          refine wpOp_doK rfl rfl (fun K hK => ?_)
          go_simp
          refine (cplus_ok (some ⟨n, 0, none⟩) 2 2 [a, E] _ rfl (by omega) hr).mono ?_
          rintro e w' ⟨rfl, hbel⟩
          rw [HY1.out.1]
          go_simp
          refine hK _ _ ?_
          exact ⟨fun _ => hbel, v10, v11, _, .agg (Y.map B).toArray, v40, v41, rfl, HS.out.later hbel, Nat.le_trans hsz hbel.size, (HBI.out.later hbel).s8⟩
        · refine wpOp_doK rfl rfl (fun K hK => ?_)
          refine oprows 49 52 16 2 _ [b.map B, E.map B] rfl rfl Tryz.underlying49 Tryz.zsBlock rfl (by omega) rfl (by omega) (by omega) (by simp [HB.out, HEL.out]) (fun w' hb hbel => hK _ _ ?_)
          exact ⟨fun _ => hbel, v10, v11, v31, v32, .slice (some ⟨wx.heap.size, 0, none⟩) 2 2, v41, rfl, HS.out.later hbel, Nat.le_trans hsz hbel.size, (HBI.out.later hbel).s16 ⟨by simp [HB.out, HEL.out], by have := hb.lies; simpa using this⟩⟩
        · obtain ⟨n, rfl, hr⟩ := HBI.out.r16 (hneed 16 (by simp [needOf]))
          refine wpOp_doK rfl rfl (fun K hK => ?_)
          go_simp
          refine (cplus_ok (some ⟨n, 0, none⟩) 2 2 [b, E] _ rfl (by omega) hr).mono ?_
          rintro e w' ⟨rfl, hbel⟩
          rw [HU1.out.1]
          go_simp
          refine hK _ _ ?_
          exact ⟨fun _ => hbel, v10, v11, v31, v32, _, .agg (U.map B).toArray, rfl, HS.out.later hbel, Nat.le_trans hsz hbel.size, (HBI.out.later hbel).s17⟩
        · refine wpOp_doK rfl rfl (fun K hK => ?_)
          refine opvar1 52 ((zeros 16).map B) _ rfl Tryz.zero16 rfl (fun w' hb hbel => hK _ _ ?_)
          exact ⟨fun _ => hbel, .pointer (some ⟨wx.heap.size, 0, none⟩), v11, v31, v32, v40, v41, rfl, HS.out.later hbel, Nat.le_trans hsz hbel.size, HBI.out.s18 hsz hb hbel⟩
        · refine wpOp_doK rfl rfl (fun K hK => ?_)
          refine opvar1 52 ((zeros 16).map B) _ rfl Tryz.zero16 rfl (fun w' hb hbel => hK _ _ ?_)
          exact ⟨fun _ => hbel, v10, .pointer (some ⟨wx.heap.size, 0, none⟩), v31, v32, v40, v41, rfl, HS.out.later hbel, Nat.le_trans hsz hbel.size, HBI.out.s19 hsz hb hbel⟩
      · clear hc0
        rintro x wx ⟨v10, v11, v31, v32, v40, v41, rfl, HS, hsz, HBI⟩
        obtain ⟨n, rfl, hn1, hn2⟩ := HBI.out.r18 rfl
        obtain ⟨m, rfl, hm1, hm2⟩ := HBI.out.r19 rfl
        obtain rfl := HBI.out.r8 rfl
        obtain rfl := HBI.out.r17 rfl
        have hnm : n ≠ m := fun e => HBI.out.ne rfl rfl (by rw [e])
        have HS := Lib.hid ((HS.out.add hn2).add hm2)
        clear HBI hn2 hm2
        refine walkR_free rfl rfl (by rfl) (fun K hK => ?_)
        refine (HS.out.get 1 rfl).opstore rfl rfl rfl Tryz.row16 (by simp [zeros_length]) HYM.out (oneCell_B _) (fun w9 hb ho => hK _ _ ?_)
        clear hK K
        have HS := Lib.hid (show Su w pb w9 ([(m, (zeros 16).map B, 52), (n, (zeros 16).map B, 52), (be, E.map B, 52), (bw3, sum.map B, 52), (bw2, (zeros 16).map B, 52), (bw1, z.map B, 52), (bb, V, 189), (pb, midV A (a ++ b) R tl, 253)].set 1 (n, Y.map B, 52)) from HS.out.change 1 hb ho (.inl (by have := HBB.out; omega)) (by simp; omega))
        clear hb ho
        go_simp
        refine walkR_free rfl rfl (by rfl) (fun K hK => ?_)
        refine (HS.out.get 0 rfl).opstore rfl rfl rfl Tryz.row16 (by simp [zeros_length]) HUM.out (oneCell_B _) (fun w10 hb ho => hK _ _ ?_)
        clear hK K
        have HS := Lib.hid (show Su w pb w10 ([(m, (zeros 16).map B, 52), (n, Y.map B, 52), (be, E.map B, 52), (bw3, sum.map B, 52), (bw2, (zeros 16).map B, 52), (bw1, z.map B, 52), (bb, V, 189), (pb, midV A (a ++ b) R tl, 253)].set 0 (m, U.map B, 52)) from HS.out.change 0 hb ho (.inl (by have := HBB.out; omega)) (by simp; omega))
        clear hb ho
        go_simp
        refine walkR_nil ?_
        have hn9 := (HS.out.get 1 rfl).lt
        have hm9 := (HS.out.get 0 rfl).lt
        have HNE := Lib.hid HS.out.ne
        have hps := HS.out.size
        go_wp2_with fail
        refine wp_region_P [0, 1, 2] [3, 4, 5] [7] [Floater.var 6 12 52 ((zeros 16).map B)] (by kernel_rfl) (by kernel_rfl) ?_
        rintro w11 rfl
        have HS := Lib.hid HS.out.drew
        refine walk0_load (HS.out.get 1 rfl).range (HS.out.get 1 rfl).lt Tryz.row16 HYM.out rfl rfl rfl (fun K hK => ?_)
        go_simp; refine hK _ ?_; clear hK K
        (refine walk0_one rfl rfl rfl (fun K hK => ?_); go_big_quiet_step (fail); refine wpQuiet_nil (hK _ ?_); clear hK K)
        refine walk0_load (HS.out.get 0 rfl).range (HS.out.get 0 rfl).lt Tryz.row16 HUM.out rfl rfl rfl (fun K hK => ?_)
        go_simp; refine hK _ ?_; clear hK K
        refine walk0_nil ⟨?_, ?_, Nat.le_refl _⟩
        · intro f hf
          simp only [List.mem_singleton] at hf
          subst hf
          exact fits_var _ _ _ _ _ _ rfl rfl rfl rfl (by simp) Tryz.zero16 rfl
        refine walkP_call1 rfl rfl (fun uz wa12 hla K hK => ?_)
        go_simp
        have HS := Lib.hid (HS.out.later hla)
        refine (e_ok kp q p 0 0 k U _ (HK.out.onlyB HS.out.only n1 n2 n3) (by omega) (by omega) HUL.out).mono ?_
        rintro e w12 ⟨rfl, hbel⟩
        have HS := Lib.hid (HS.out.later hbel)
        go_simp
        refine hK _ _ hbel ?_
        clear hK K hbel hla
        have HUEL := Lib.hid (eBlk_length k 0 0 U)
        generalize eBlk k 0 0 U = eu at *
        refine walkP_call1 rfl rfl (fun uz wa13 hla K hK => ?_)
        refine oprows 49 52 16 2 _ [Y.map B, eu.map B] rfl rfl Tryz.underlying49 Tryz.zsBlock rfl (by omega) rfl (by omega) (by omega) (by simp [HYL.out, HUEL.out]) ?_
        intro w13 hb hbel
        have HS := Lib.hid (HS.out.later (hla.trans hbel))
        refine hK _ _ hbel ?_
        have HR := Lib.hid (show RowsN 16 w13 (some ⟨wa13.heap.size, 0, none⟩) [Y, eu] from ⟨by simp [HYL.out, HUEL.out], by have := hb.lies; simpa using this⟩)
        clear hK K hbel hla hb
        go_simp
        refine walkP_call1 rfl rfl (fun uz wa14 hla K hK => ?_)
        go_simp
        refine (cplus_ok (some ⟨wa13.heap.size, 0, none⟩) 2 2 [Y, eu] _ rfl (by omega) (HR.out.below hla)).mono ?_
        rintro e w14 ⟨rfl, hbel⟩
        have HS := Lib.hid (HS.out.later (hla.trans hbel))
        rw [HC1.out.1]
        go_simp
        refine hK _ _ hbel ?_
        clear hK K hbel hla HR
        refine walkP_nil1 (fun bx14 wb14 hlb hbx14 hbn => ?_)
        go_simp
        have HS := Lib.hid ((HS.out.later hlb).add (show Blk wb14 bx14 ((zeros 16).map B) 52 from hbn))
        clear hlb hbn
        refine walkR_free rfl rfl (by rfl) (fun K hK => ?_)
        refine (HS.out.get 0 rfl).opstore rfl rfl rfl Tryz.row16 (by simp [zeros_length]) (by rw [List.length_map]; exact HCL.out) (oneCell_B _) (fun w14 hb ho => hK _ _ ?_)
        clear hK K
        have HS := Lib.hid (HS.out.change 0 hb ho (.inl (by have := HBB.out; omega)) (fun e he => by have := HNE.out e he; omega))
        clear hb ho HNE hps
        go_simp
        refine walkR_nil ?_
        have hx14 := (HS.out.get 0 rfl).lt
        have hc0 := fun (z' : After w14.drew) => ((HS.out.drew.later z'.later).get 7 rfl).cell 0 (.slice (some ⟨pb, 0, none⟩) np cp) (by rw [HVV.out.1]; rfl)
        go_wp2_with fail
        refine wp_region_R [0, 1, 2, 3, 4, 5, 6, 7, 11, 8, 9, 10, 12, 13, 14] (by kernel_rfl) (by kernel_rfl) ?_
        rintro w15 rfl
        have HS := Lib.hid HS.out.drew
        (refine walkR_one rfl rfl (fun K hK => ?_); go_big_quiet_step (fail); refine wpQuiet_nil (hK _ ?_); clear hK K); (refine walkR_one rfl rfl (fun K hK => ?_); go_big_quiet_step (fail); refine wpQuiet_nil (hK _ ?_); clear hK K); (refine walkR_one rfl rfl (fun K hK => ?_); go_big_quiet_step (fail); refine wpQuiet_nil (hK _ ?_); clear hK K)
        refine walkR_load (HS.out.get 1 rfl).range (HS.out.get 1 rfl).lt Tryz.row16 HUM.out rfl rfl rfl rfl (fun K hK => ?_)
        go_simp; refine hK _ ?_; clear hK K
        (refine walkR_one rfl rfl (fun K hK => ?_); go_big_quiet_step (fail); refine wpQuiet_nil (hK _ ?_); clear hK K); (refine walkR_one rfl rfl (fun K hK => ?_); go_big_quiet_step (fail); refine wpQuiet_nil (hK _ ?_); clear hK K); (refine walkR_one rfl rfl (fun K hK => ?_); go_big_quiet_step (fail); refine wpQuiet_nil (hK _ ?_); clear hK K)
        refine walkR_load (HS.out.get 0 rfl).range (HS.out.get 0 rfl).lt Tryz.row16 HCM.out rfl rfl rfl rfl (fun K hK => ?_)
        go_simp; refine hK _ ?_; clear hK K
        refine walkR_load (HS.out.get 0 rfl).range (HS.out.get 0 rfl).lt Tryz.row16 HCM.out rfl rfl rfl rfl (fun K hK => ?_)
        go_simp; refine hK _ ?_; clear hK K
        clear hc0
        refine walkR_call rfl rfl (by rfl) (fun K hK => ?_)
        go_simp
        refine (e_ok kp q p 1 i1 k C _ (HK.out.onlyB HS.out.only n1 n2 n3) (by omega) hi9 HCL.out).mono ?_
        rintro e w16 ⟨rfl, hbel⟩
        have HS := Lib.hid (HS.out.later hbel)
        go_simp
        refine hK _ _ hbel ?_
        clear hK K hbel
        have HCEL := Lib.hid (eBlk_length k 1 i1 C)
        generalize eBlk k 1 i1 C = ec at *
        refine walkR_call rfl rfl (by rfl) (fun K hK => ?_)
        refine oprows 49 52 16 2 _ [U.map B, ec.map B] rfl rfl Tryz.underlying49 Tryz.zsBlock rfl (by omega) rfl (by omega) (by omega) (by simp [HUL.out, HCEL.out]) ?_
        intro w17 hb hbel
        have HS := Lib.hid (HS.out.later hbel)
        have HR := Lib.hid (show RowsN 16 w17 (some ⟨w16.heap.size, 0, none⟩) [U, ec] from ⟨by simp [HUL.out, HCEL.out], by have := hb.lies; simpa using this⟩)
        refine hK _ _ hbel ?_
        clear hK K hbel hb
        go_simp
        refine walkR_call rfl rfl (by rfl) (fun K hK => ?_)
        go_simp
        refine (cplus_ok (some ⟨w16.heap.size, 0, none⟩) 2 2 [U, ec] _ rfl (by omega) HR.out).mono ?_
        rintro e w18 ⟨rfl, hbel⟩
        have HS := Lib.hid (HS.out.later hbel)
        rw [HF1.out.1]
        go_simp
        refine hK _ _ hbel ?_
        clear hK K hbel HR
        have hbp := built_pair F C HFL.out HCL.out
        refine walkR_build rfl rfl (by rfl) 253 _ [(0, .agg (F.map B).toArray), (1, .agg (C.map B).toArray)] _ rfl rfl hbp (fun K hK => ?_)
        go_simp
        refine hK _ ?_
        clear hK K hbp
        repeat (refine walkR_one rfl rfl (fun K hK => ?_); go_big_quiet_step (fail); refine wpQuiet_nil (hK _ ?_); clear hK K)
        refine walkR_free rfl rfl (by rfl) (fun K hK => ?_)
        refine (HS.out.get 8 rfl).opstoreAt (o := i * 32) (cs := F.map B ++ C.map B) rfl rfl rfl Tryz.rowPair (by simp [HFL.out, HCL.out]) (by have := midV_fit (A := A) (R := R) (tl := tl) (M := a ++ b) (by simp [HA.out, HB.out]); rw [HAL.out] at this; exact this) (by intro u hu; rcases List.mem_append.1 hu with hu | hu <;> exact oneCell_B _ _ hu) (fun w19 hb19 ho19 => hK _ _ ?_)
        clear hK K
        have hb19 : Blk w19 pb (midV A (F ++ C) R tl) 253 := by
          rw [← midV_set (A := A) (M := a ++ b) (C := F ++ C) (R := R) (tl := tl) HAL.out (by simp [HA.out, HB.out, HFL.out, HCL.out])]
          simpa [List.append_assoc] using hb19
        have HS := Lib.hid (show Su w pb w19 [(bx14, C.map B, 52), (m, U.map B, 52), (n, Y.map B, 52), (be, E.map B, 52), (bw3, sum.map B, 52), (bw2, (zeros 16).map B, 52), (bw1, z.map B, 52), (bb, V, 189), (pb, midV A (F ++ C) R tl, 253)] from HS.out.change 8 hb19 ho19 (.inr rfl) (by simp; omega))
        clear hb19 ho19
        go_simp
        refine walkR_nil ?_
        have HSL := Lib.hid (plusB_length [sum, Y])
        go_wp2_with (first | (refine (HS.out.get 4 rfl).wload rfl rfl rfl Tryz.row16 HXM.out ?_) | (refine (HS.out.get 2 rfl).wload rfl rfl rfl Tryz.row16 HYM.out ?_) | (refine wpList_rows 49 52 16 2 _ [sum.map B, Y.map B] rfl rfl rfl Tryz.underlying49 Tryz.zsBlock rfl (by omega) rfl (by omega) (by omega) (by simp [HX.out, HYL.out]) ?_))
        intro w20 hb hbel
        have HS := Lib.hid (HS.out.later hbel)
        have HR := Lib.hid (show RowsN 16 w20 (some ⟨w19.heap.size, 0, none⟩) [sum, Y] from ⟨by simp [HX.out, HYL.out], by have := hb.lies; simpa using this⟩)
        clear hb hbel
        go_wp2_with fail
        refine (cplus_ok (some ⟨w19.heap.size, 0, none⟩) 2 2 [sum, Y] _ rfl (by omega) HR.out).mono ?_
        rintro e w21 ⟨rfl, hbel⟩
        have HS := Lib.hid (HS.out.later hbel)
        generalize plusB [sum, Y] = s2 at *
        clear hbel HR
        go_wp2_with (refine (HS.out.get 4 rfl).wstore rfl rfl rfl rfl Tryz.row16 HXM.out (by rw [List.length_map]; exact HSL.out) (oneCell_B _) ?_)
        intro w22 hb22 ho22
        have HS := Lib.hid (show Su w pb w22 [(bx14, C.map B, 52), (m, U.map B, 52), (n, Y.map B, 52), (be, E.map B, 52), (bw3, s2.map B, 52), (bw2, (zeros 16).map B, 52), (bw1, z.map B, 52), (bb, V, 189), (pb, midV A (F ++ C) R tl, 253)] from HS.out.change 4 hb22 ho22 (.inl (by have := HBB.out; omega)) (by simp; omega))
        have HS := Lib.hid (show Su w pb w22 [(bw3, s2.map B, 52), (bw2, (zeros 16).map B, 52), (bw1, z.map B, 52), (bb, V, 189), (pb, (flatP (behindP k z 0 (ps.take (i + 1)) ++ ps.drop (i + 1))).map B ++ tl, 253)] from by rw [HN1.out.1]; exact HS.out.tail2.tail2)
        clear hb22 ho22
        go_wp2
        go_roundw
        case rel => exact ⟨i + 1, s2, by omega, by rw [← HI1.out.1], HSL, HE, HS⟩
        case measure => have := HI1.out.1; simp [intOf]; omega
    · obtain rfl : i = np := by omega
      have HE := Lib.hid (show sum = S ∧ True from ⟨by have := HE.out.1; rwa [List.drop_eq_nil_of_le (by rw [HNP.out]; exact Nat.le_refl _)] at this, trivial⟩)
      have HS := Lib.hid (show Su w pb wr [(bw3, sum.map B, 52), (bw2, (zeros 16).map B, 52), (bw1, z.map B, 52), (bb, V, 189), (pb, (flatP (behindP k z 0 ps)).map B ++ tl, 253)] from by
        have := HS.out
        rwa [List.drop_eq_nil_of_le (by rw [HNP.out]; exact Nat.le_refl _), List.take_of_length_le (by rw [HNP.out]; exact Nat.le_refl _), List.append_nil] at this)
      go_wp2_with (first | (refine (HS.out.get 0 rfl).wload rfl rfl rfl Tryz.row16 HXM.out ?_) | (refine (HS.out.get 1 rfl).wstore rfl rfl rfl rfl Tryz.row16 (by rw [List.length_map]; exact zeros_length 16) HXM.out (oneCell_B _) ?_))
      intro w6 hb6 ho6
      have HS := Lib.hid (HS.out.change 1 hb6 ho6 (.inl (by have := HBB.out; omega)) (by simp; omega))
      have HP := Lib.hid (HS.out.get 4 rfl)
      go_wp2
      refine hb6.result rfl rfl rfl Tryz.row16 HXM.out ⟨by rw [HE.out.1], HP.out, HS.out.only⟩

end Go.Proofs.YtbpghohkhngdfaaGreatDoor
/-
  A region that draws its order, walked once up to a place where two operations are ready: there each of them is met by hand.
-/
namespace Go
open Go.RowKit

/-- What has come up behind an order. -/
def Region.after : List Nat → Array Bool → Array Bool
  | [], l => l
  | i :: r, l => Region.after r (l.setIfInBounds i true)

/-- The order fits: each may be taken first. -/
def Region.checkM (brk : List Nat) (md : Region.Mode) (ops : Array Oper) : List Nat → Array Bool → Bool
  | [], _ => true
  | i :: r, listed =>
    (match ops[i]? with
     | none => false
     | some _ => (Region.ready md ops listed).contains i && Region.freeK brk md ops listed i) &&
    Region.checkM brk md ops r (listed.setIfInBounds i true)

section
variable {P : Program} {ops : Array Oper} {Q : Exit → Act → World → Prop} {md : Region.Mode} {R : World → World → Prop} {brk : List Nat} {C : Act → World → Prop}

def walkM (R : World → World → Prop) (P : Program) (ops : Array Oper) (C : Act → World → Prop) : List Nat → Act → World → Prop
  | [], a, w => C a w
  | i :: r, a, w =>
    match ops[i]? with
    | none => False
    | some o =>
      if Region.wanted o (yielded ops a.tmps) = true then ∃ v, (∀ w', R w w' → (execOp a.eval o).run P w' = .ok (.value v) w') ∧ walkM R P ops C r (a.put o.dst v) w
      else walkM R P ops C r (a.put o.dst undef) w

theorem wpAnyK_prefix (fuel : Nat) (hrf : ∀ a, R a a) (ht : ∀ a b c, R a b → R b c → R a c) (hs : Region.noSelect ops = true) (hQ : ∀ c a w, ¬ Q (.panic c) a w) : ∀ (order : List Nat) (listed : Array Bool) (a : Act) (w : World),
    Region.checkM brk md ops order listed = true → walkM R P ops (wpAnyK R brk P md ops Q fuel (Region.after order listed)) order a w → wpAnyK R brk P md ops Q (order.length + fuel) listed a w
  | [], listed, a, w, _, h => by
    simp only [List.length_nil, Nat.zero_add]
    exact h
  | i :: r, listed, a, w, hB, h => by
    simp only [Region.checkM, Bool.and_eq_true] at hB
    obtain ⟨hB1, hB2⟩ := hB
    have hfu : (i :: r).length + fuel = (r.length + fuel) + 1 := by simp only [List.length_cons]; omega
    rw [hfu]
    cases ho : ops[i]? with
    | none => simp [ho] at hB1
    | some o =>
      simp only [ho, Bool.and_eq_true] at hB1
      simp only [walkM, ho, Region.after] at h
      by_cases hw : Region.wanted o (yielded ops a.tmps) = true
      · rw [if_pos hw] at h
        obtain ⟨v, hv, hr⟩ := h
        obtain ⟨D, hDi, hD, hDu, hDf⟩ := Region.freeK_spec ho hB1.2
        exact wpAnyK_first hrf ht ho (Region.noSelect_spec hs) (fun c a w hq => absurd hq (hQ _ _ _)) D hDi hD (r.length + fuel) listed a w hDu hDf (by simpa using hB1.1) (.inl ⟨hw, hv⟩)
          (wpAnyK_prefix fuel hrf ht hs hQ r _ _ _ hB2 hr)
      · rw [if_neg hw] at h
        obtain ⟨D, hDi, hD, hDu, hDf⟩ := Region.freeK_spec ho hB1.2
        exact wpAnyK_first hrf ht ho (Region.noSelect_spec hs) (fun c a w hq => absurd hq (hQ _ _ _)) D hDi hD (r.length + fuel) listed a w hDu hDf (by simpa using hB1.1) (.inr ⟨by simpa using hw, rfl⟩)
          (wpAnyK_prefix fuel hrf ht hs hQ r _ _ _ hB2 h)

/-- THE LAW: up to the fork. -/
theorem wp_region_M {id : Nat} {l : List Oper} {a : Act} {w : World} (R : World → World → Prop) (brk : List Nat) (order : List Nat) (fuel : Nat) (hrf : ∀ a, R a a) (ht : ∀ a b c, R a b → R b c → R a c) (hm : P.follows .mixedOrders = true)
    (hB : (Region.noSelect l.toArray && (order.length + fuel == l.length) && Region.checkM brk .any l.toArray order (Array.replicate l.length false)) = true)
    (h : ∀ w', w' = w.drew → walkM R P l.toArray (wpAnyK R brk P .any l.toArray (NoPanic Q) fuel (Region.after order (Array.replicate l.length false))) order a w') : (Code.region id l.toArray true).wp P Q a w := by
  simp only [Bool.and_eq_true, beq_iff_eq] at hB
  obtain ⟨⟨hs, hl⟩, hB⟩ := hB
  refine wp_region_noPanic (wp_region_any hm (wpAny_of_K (R := R) (brk := brk) _ _ _ _ ?_))
  have := wpAnyK_prefix (R := R) (brk := brk) (P := P) (Q := NoPanic Q) fuel hrf ht hs (fun c a w hq => hq) order _ a w.drew hB (h _ rfl)
  rw [hl] at this
  exact this

/-- THE FORK: two are ready. -/
theorem wpAnyK_two {fuel i j : Nat} {oi oj : Oper} {listed : Array Bool} {a : Act} {w : World} (hr : Region.ready md ops listed = [i, j]) (hoi : ops[i]? = some oi) (hoj : ops[j]? = some oj)
    (hwi : Region.wanted oi (yielded ops a.tmps) = true) (hwj : Region.wanted oj (yielded ops a.tmps) = true)
    (h1 : ∀ K : Act → World → Prop, (∀ a' w', (brk.contains i = false → R w w') → wpAnyK R brk P md ops Q fuel (listed.setIfInBounds i true) a' w' → K a' w') → oi.wp P a w K Q)
    (h2 : ∀ K : Act → World → Prop, (∀ a' w', (brk.contains j = false → R w w') → wpAnyK R brk P md ops Q fuel (listed.setIfInBounds j true) a' w' → K a' w') → oj.wp P a w K Q) :
    wpAnyK R brk P md ops Q (fuel + 1) listed a w := by
  refine ⟨fun h => (by rw [hr] at h; cases h), fun k hk => ?_⟩
  rw [hr] at hk
  simp only [List.mem_cons, List.not_mem_nil, or_false] at hk
  rcases hk with rfl | rfl
  · unfold wpOp
    simp only [hoi]
    rw [if_pos hwi]
    exact .inl (h1 _ fun _ _ ha hb => ⟨ha, hb⟩)
  · unfold wpOp
    simp only [hoj]
    rw [if_pos hwj]
    exact .inl (h2 _ fun _ _ ha hb => ⟨ha, hb⟩)

/-- Behind the fork. -/
theorem wpAnyK_rest {listed : Array Bool} {a : Act} {w : World} (order : List (Nat × Bool)) (hrf : ∀ a, R a a) (ht : ∀ a b c, R a b → R b c → R a c)
    (hB : (Region.noSelect ops && Region.checkK brk md ops order listed) = true) (h : walkK R brk P ops (NoPanic Q) order a w) : wpAnyK R brk P md ops (NoPanic Q) order.length listed a w := by
  simp only [Bool.and_eq_true] at hB
  exact wpAnyK_of_walk hrf ht hB.1 (fun c a w hq => hq) order listed a w hB.2 h

theorem walkM_nil {a : Act} {w : World} (h : C a w) : walkM R P ops C [] a w := h

theorem walkM_one {i : Nat} {r : List Nat} {o : Oper} {tl : List Oper} {a : Act} {w : World} (hd : ops.toList.drop i = o :: tl) (hk : o.kindR = 0)
    (hh : ∀ K : Act → Prop, (∀ a', walkM R P ops C r a' w → K a') → wpQuiet P ops (AftersK R w) K [o] a) : walkM R P ops C (i :: r) a w := by
  have h := hh (fun a' => walkM R P ops C r a' w) (fun _ h => h)
  have ho : ops[i]? = some o := by
    have := congrArg (·[0]?) hd
    simpa using this
  simp only [wpQuiet] at h
  simp only [walkM, ho]
  by_cases hw : Region.wanted o (yielded ops a.tmps) = true
  · rw [if_pos hw] at h ⊢
    obtain ⟨v, hv, hn⟩ := h
    exact ⟨v, fun w' hw' => run_of_quietAt hk (hv w' ⟨⟨w', hw'⟩, rfl⟩), hn⟩
  · rw [if_neg hw] at h ⊢
    exact h

end
end Go
/-
  A region that draws its order and changes memory of its own: part of it is met by an invariant, whatever of M has come up. No program.
-/
set_option linter.unusedVariables false
namespace Go
open Go.RowKit
section
variable {P : Program} {ops : Array Oper} {Q : Exit → Act → World → Prop} {md : Region.Mode} {R : World → World → Prop} {brk : List Nat}

theorem wpAnyK_fuel : ∀ (n m : Nat) (listed : Array Bool) (a : Act) (w : World), n ≤ m → wpAnyK R brk P md ops Q n listed a w → wpAnyK R brk P md ops Q m listed a w
  | 0, 0, _, _, _, _, h => h
  | 0, m + 1, _, _, _, _, h => ⟨fun _ => h.2, fun i hi => by rw [h.1] at hi; cases hi⟩
  | n + 1, 0, _, _, _, hm, _ => absurd hm (by omega)
  | n + 1, m + 1, _, _, _, hm, h => ⟨h.1, fun i hi => wpOp_mono (fun a w h' => ⟨h'.1, wpAnyK_fuel n m _ a w (by omega) h'.2⟩) (h.2 i hi)⟩
theorem walkM_mono {C C' : Act → World → Prop} (hc : ∀ a w, C a w → C' a w) : ∀ (order : List Nat) (a : Act) (w : World), walkM R P ops C order a w → walkM R P ops C' order a w
  | [], a, w, h => hc a w h
  | i :: r, a, w, h => by
    unfold walkM at h ⊢
    cases ho : ops[i]? with
    | none => rw [ho] at h; exact h
    | some o =>
      simp only [ho] at h ⊢
      by_cases hw : Region.wanted o (yielded ops a.tmps) = true
      · rw [if_pos hw] at h ⊢
        obtain ⟨v, hv, hr⟩ := h
        exact ⟨v, hv, walkM_mono hc r _ _ hr⟩
      · rw [if_neg hw] at h ⊢
        exact walkM_mono hc r _ _ h
theorem wpAnyK_of_I (M : List Nat) (need : List (Nat × List Nat)) (I : (Nat → Bool) → Act → World → Prop) (listed : Array Bool) (N : Nat) (hc : Region.checkI md ops M need listed = true)
    (hstep : ∀ D a w k, k ∈ M → D k = false → (∀ d ∈ needOf need k, D d = true) → I D a w → wpOp P ops Q k (fun a' w' => (brk.contains k = false → R w w') ∧ I (fun j => D j || j == k) a' w') a w)
    (hend : ∀ a w fuel, N ≤ fuel → I (fun j => M.contains j) a w → wpAnyK R brk P md ops Q fuel (Region.plus listed M) a w) :
    ∀ (n : Nat) (D : Nat → Bool) (a : Act) (w : World) (fuel : Nat), (M.filter fun j => !D j).length ≤ n → (∀ j, D j = true → j ∈ M) → (∀ j, D j = true → ∀ d ∈ needOf need j, D d = true) → I D a w → n + N ≤ fuel → wpAnyK R brk P md ops Q fuel (Region.plus listed (M.filter D)) a w
  | 0, D, a, w, fuel, hn, hD, hcl, hI, hf => by
    have hall : ∀ j ∈ M, D j = true := by
      intro j hj
      have h0 := List.eq_nil_of_length_eq_zero (Nat.le_zero.1 hn)
      rw [List.filter_eq_nil_iff] at h0
      have := h0 j hj
      simpa using this
    have e1 : M.filter D = M := List.filter_eq_self.2 hall
    have e2 : D = fun j => M.contains j := by
      funext j
      rw [Bool.eq_iff_iff, List.contains_iff_mem]
      exact ⟨hD j, hall j⟩
    rw [e1]
    exact hend a w fuel (by omega) (e2 ▸ hI)
  | n + 1, D, a, w, fuel, hn, hD, hcl, hI, hf => by
    by_cases h0 : (M.filter fun j => !D j).length = 0
    · exact wpAnyK_of_I M need I listed N hc hstep hend 0 D a w fuel (by omega) hD hcl hI (by omega)
    obtain ⟨f, rfl⟩ : ∃ f, fuel = f + 1 := ⟨fuel - 1, by omega⟩
    unfold Region.checkI at hc
    rw [List.all_eq_true] at hc
    have hS := hc _ (filter_sub D M)
    rw [Bool.or_eq_true, Bool.or_eq_true] at hS
    rcases hS with (hS | hS) | hS
    · exfalso
      have e : M.filter D = M := by simpa using hS
      have hall := List.filter_eq_self.1 e
      have h1 : M.filter (fun j => !D j) = [] := by
        rw [List.filter_eq_nil_iff]
        intro j hj
        simp [hall j hj]
      exact h0 (by rw [h1]; rfl)
    · exfalso
      have : ((M.filter D).all fun k => (needOf need k).all fun d => (M.filter D).contains d) = true := by
        rw [List.all_eq_true]
        intro k hk
        rw [List.all_eq_true]
        intro d hd
        have hk' := (List.mem_filter.1 hk).2
        have hd' := hcl k hk' d hd
        rw [List.contains_iff_mem]
        exact List.mem_filter.2 ⟨hD d hd', hd'⟩
      rw [this] at hS
      cases hS
    · rw [Bool.and_eq_true, List.all_eq_true] at hS
      obtain ⟨h1, h2⟩ := hS
      refine ⟨fun h => (by rw [h] at h1; simp at h1), fun k hk => ?_⟩
      have hk2 := h2 k hk
      simp only [Bool.and_eq_true, List.contains_iff_mem, List.all_eq_true, Bool.not_eq_true'] at hk2
      obtain ⟨⟨hkM, hkS⟩, hneed⟩ := hk2
      have hDk : D k = false := by
        cases hd : D k with
        | false => rfl
        | true => rw [← List.contains_iff_mem] at hkM; have : (M.filter D).contains k = true := by simp [hd]; simpa using hkM
                  rw [this] at hkS; cases hkS
      refine wpOp_mono (fun a' w' h' => ⟨h'.1, ?_⟩) (hstep D a w k hkM hDk (fun d hd => by have := hneed d hd; rw [List.mem_filter] at this; exact this.2) hI)
      rw [← plus_step listed M D k hkM]
      refine wpAnyK_of_I M need I listed N (by unfold Region.checkI; rw [List.all_eq_true]; exact hc) hstep hend n _ a' w' f ?_ ?_ ?_ h'.2 (by omega)
      · -- one less
        have key : ∀ (l : List Nat), k ∈ l → (l.filter fun j => !(D j || j == k)).length < (l.filter fun j => !D j).length := by
          intro l
          induction l with
          | nil => intro h; cases h
          | cons x r ih =>
            intro hm
            have hle : ∀ (l : List Nat), (l.filter fun j => !(D j || j == k)).length ≤ (l.filter fun j => !D j).length := by
              intro l
              induction l with
              | nil => simp
              | cons y s ih2 =>
                by_cases hy : D y = true
                · rw [List.filter_cons_of_neg (by simp [hy]), List.filter_cons_of_neg (by simp [hy])]; exact ih2
                · by_cases hyk : y = k
                  · rw [List.filter_cons_of_neg (by simp [hyk]), List.filter_cons_of_pos (by simp [hy])]; simp only [List.length_cons]; omega
                  · rw [List.filter_cons_of_pos (by simp [hy, hyk]), List.filter_cons_of_pos (by simp [hy])]; simp only [List.length_cons]; omega
            by_cases hx : x = k
            · subst hx
              rw [List.filter_cons_of_neg (by simp), List.filter_cons_of_pos (by simp [hDk]), List.length_cons]
              exact Nat.lt_succ_of_le (hle r)
            · have hr : k ∈ r := by
                rcases List.mem_cons.1 hm with h | h
                · exact absurd h.symm hx
                · exact h
              have := ih hr
              by_cases hdx : D x = true
              · rw [List.filter_cons_of_neg (by simp [hdx]), List.filter_cons_of_neg (by simp [hdx])]; exact this
              · rw [List.filter_cons_of_pos (by simp [hdx, hx]), List.filter_cons_of_pos (by simp [hdx])]; simp only [List.length_cons]; omega
        have := key M hkM
        omega
      · intro j hj
        simp only [Bool.or_eq_true, beq_iff_eq] at hj
        rcases hj with hj | rfl
        · exact hD j hj
        · exact hkM
      · intro j hj d hd
        simp only [Bool.or_eq_true, beq_iff_eq] at hj ⊢
        left
        rcases hj with hj | rfl
        · exact hcl j hj d hd
        · have := hneed d hd
          rw [List.mem_filter] at this
          exact this.2


/-- THE LAW: first the order s0 of what only computes or reads, then M in any order, met by the invariant, then the order s2. -/
theorem wp_region_J {id : Nat} {l : List Oper} {a : Act} {w : World} (R : World → World → Prop) (brk : List Nat) (s0 M : List Nat) (s2 : List (Nat × Bool)) (need : List (Nat × List Nat)) (I : (Nat → Bool) → Act → World → Prop) (hrf : ∀ a, R a a) (ht : ∀ a b c, R a b → R b c → R a c) (hm : P.follows .mixedOrders = true)
    (hB : (Region.noSelect l.toArray && (s0.length + (M.length + s2.length) == l.length) && Region.checkM brk .any l.toArray s0 (Array.replicate l.length false) && Region.checkI .any l.toArray M need (Region.after s0 (Array.replicate l.length false)) &&
      Region.checkK brk .any l.toArray s2 (Region.plus (Region.after s0 (Array.replicate l.length false)) M)) = true)
    (h : ∀ w', w' = w.drew → walkM R P l.toArray (fun a w1 => I (fun _ => false) a w1) s0 a w')
    (hstep : ∀ D a w k, k ∈ M → D k = false → (∀ d ∈ needOf need k, D d = true) → I D a w → wpOp P l.toArray (NoPanic Q) k (fun a' w' => (brk.contains k = false → R w w') ∧ I (fun j => D j || j == k) a' w') a w)
    (hend : ∀ a w, I (fun j => M.contains j) a w → walkK R brk P l.toArray (NoPanic Q) s2 a w) : (Code.region id l.toArray true).wp P Q a w := by
  simp only [Bool.and_eq_true, beq_iff_eq] at hB
  obtain ⟨⟨⟨⟨hs, hl⟩, h0⟩, hI⟩, hR⟩ := hB
  refine wp_region_M R brk s0 (M.length + s2.length) hrf ht hm (by simp only [Bool.and_eq_true, beq_iff_eq]; exact ⟨⟨hs, hl⟩, h0⟩) (fun w' hw' => ?_)
  refine walkM_mono ?_ _ _ _ (h w' hw')
  intro a1 w1 h1
  have := wpAnyK_of_I (R := R) (brk := brk) (P := P) (Q := NoPanic Q) M need I _ s2.length hI hstep (fun a w fuel hf hk => wpAnyK_fuel _ _ _ _ _ hf (wpAnyK_of_walk hrf ht hs (fun c a w hq => hq) s2 _ a w hR (hend a w hk))) M.length (fun _ => false) a1 w1 (M.length + s2.length) (List.length_filter_le _ _) (by simp) (by simp) h1 (Nat.le_refl _)
  rw [show M.filter (fun _ => false) = [] from List.filter_eq_nil_iff.2 (by simp)] at this
  exact this
end
end Go
