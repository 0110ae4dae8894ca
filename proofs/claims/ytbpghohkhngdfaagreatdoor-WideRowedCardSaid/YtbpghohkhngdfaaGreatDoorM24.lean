/-
  Texts of this claim, one behind the other: SealC WideB WideC.
-/
import Derived.Test.YtbpghohkhngdfaaGreatDoorM22
import Derived.Test.YtbpghohkhngdfaaGreatDoorM23
import Derived.Handy
/-
  The walks of seal: a cipher of AEZ's with a context; a message sealed, a sealed text opened.
-/
set_option linter.unusedSimpArgs false
set_option linter.unusedVariables false
namespace Go.Mem
open Go.RowKit Go.Cells Go.Ops
theorem run_cut_top {P : Program} (w : World) (t e : TypeId) (size : Nat) (ht : P.underlying t = some (.slice e)) (hs : (P.info? e).map (·.size) = some size) (ao : Option Addr) (len cap n : Nat) (h : n ≤ cap) :
    (Instr.slice t (.slice ao len cap) none (some (.int .i64 (n : Int))) (some (.int .i64 (n : Int)))).run P w = .ok (.slice ao n n) w := by
  cases hq : P.info? e with
  | none => rw [hq] at hs; cases hs
  | some x =>
    have hx : x.size = size := by rw [hq] at hs; simpa using hs
    by_cases h0 : n = 0
    · subst h0
      simp [Instr.slice, Instr.sliceBounds, Instr.sliceBound, run_underlying ht, sizeOf, typeInfo, hq, hx, asIntOf]
    · have h0' : ¬ (n = 0) := h0
      cases ao with
      | none => simp [Instr.slice, Instr.sliceBounds, Instr.sliceBound, run_underlying ht, sizeOf, typeInfo, hq, hx, asIntOf, h, h0']
      | some a => cases a; simp [Instr.slice, Instr.sliceBounds, Instr.sliceBound, run_underlying ht, sizeOf, typeInfo, hq, hx, asIntOf, h, h0', Addr.add]
theorem _root_.Go.Cells.Blk.cellAny {w : World} {b : Nat} {vs : List Value} {ty : TypeId} (h : Blk w b vs ty) (i : Nat) : w.cell? ⟨b, i, none⟩ = vs[i]? := by
  unfold Blk at h
  simp [World.cell?, h]
theorem _root_.Go.Cells.Only.cellOther {b : Nat} {w w' : World} (h : Only b w w') {c : Nat} (i : Nat) (hne : c ≠ b) : w'.cell? ⟨c, i, none⟩ = w.cell? ⟨c, i, none⟩ := by
  simp [World.cell?, h.block c hne]
theorem Lies.only {w w' : World} {ao : Option Addr} {xs vs : List Value} {b : Nat} {ty : TypeId} (h : Lies w ao xs) (hb : Blk w b vs ty) (hne : ∀ x ∈ xs, x ∉ vs) (ho : Only b w w') : Lies w' ao xs := by
  intro j u hu
  obtain ⟨c, off, e, hc⟩ := h j u hu
  refine ⟨c, off, e, ?_⟩
  by_cases he : c = b
  · subst he
    exfalso
    refine hne u (List.mem_of_getElem? hu) ?_
    have h1 : w.cell? ⟨c, off + j, none⟩ = vs[off + j]? := hb.cellAny _
    rw [hc] at h1
    exact List.mem_of_getElem? h1.symm
  · rw [← hc]
    exact ho.cellOther _ he
theorem Str.In.only {w w' : World} {s : Str} {vs : List Value} {b : Nat} {ty : TypeId} (h : s.In w) (hb : Blk w b vs ty) (hne : ∀ x : UInt8, B x ∉ vs) (ho : Only b w w') : s.In w' :=
  ⟨h.le, h.lies.only hb (by intro x hx; obtain ⟨y, _, rfl⟩ := List.mem_map.1 hx; exact hne y) ho⟩
theorem StrsIn.only {w w' : World} {ao : Option Addr} {ss : List Str} {vs : List Value} {b : Nat} {ty : TypeId} (h : StrsIn w ao ss) (hb : Blk w b vs ty) (h1 : ∀ s ∈ ss, s.val ∉ vs) (hne : ∀ x : UInt8, B x ∉ vs) (ho : Only b w w') : StrsIn w' ao ss :=
  ⟨h.lies.only hb (by intro x hx; obtain ⟨y, hy, rfl⟩ := List.mem_map.1 hx; exact h1 y hy) ho, fun s hs => (h.each s hs).only hb hne ho⟩
end Go.Mem
namespace Go.Cells
open Go.RowKit
/-- 'make' at an operation. -/
theorem opmake {P : Program} {w : World} {op : Oper} {a : Act} {K : Act → World → Prop} {Q : Exit → Act → World → Prop} (t e : TypeId) (z : Value) (by' : Nat) (n : Nat) {l c : Operand} {kl kc : IntKind} {L C : Int}
    (hop : op.op = Op.makeSlice t l c) (hl : a.eval l = .int kl L) (hc : a.eval c = .int kc C) (h1 : P.underlying t = some (.slice e)) (hi : (P.info? e).map (fun i => (i.zero, i.size, i.bytes)) = some (some z, 1, by')) (hz : z.cells = #[z])
    (hL : L = (n : Int)) (hC : C = (n : Int)) (b2 : by' * n ≤ 281474976710656) (b3 : n ≤ maxLen)
    (k : ∀ w', Blk w' w.heap.size (List.replicate n z) e → Below w.heap.size w w' → K (a.put op.dst (.slice (some ⟨w.heap.size, 0, none⟩) n n)) w') : op.wp P a w K Q := by
  obtain ⟨i0, hi0, hz0, hz1, hz2⟩ := info_parts hi
  obtain ⟨w', hrun, hown, hgrow⟩ := run_make_full (P := P) w w.heap.size t e i0 z 1 h1 hi0 hz0 hz1 kl kc n (by rw [hz2]; exact b2) b3 (Nat.le_refl _)
  subst hL
  subst hC
  have hb := (blk_of_own hown).1
  have e1 : (madeCells z.cells (n * 1)).toList = List.replicate n z := by
    rw [hz, Nat.mul_one, toList_madeCells_one]
  rw [e1] at hb
  unfold Oper.wp
  simp [execOp, hop, hl, hc, hrun, Result.andThen]
  exact k w' hb ((Below.refl w.heap.size w).grown hgrow (Nat.le_refl _) (fun k h => by cases h))
end Go.Cells
namespace Go.Proofs.YtbpghohkhngdfaaGreatDoor
open Go.RowKit Go.Mem Go.Ops Go.Cells Go.Oct Go.Gf Go.Trn Go.Aes Go.Ring Go.Ezk Go.Ezh Go.Ezt Go.Aez Go.Blake Go.CutP Go.Fl
set_option linter.unusedSimpArgs false
set_option linter.unusedVariables false
set_option maxRecDepth 100000
attribute [local irreducible] walkR walkP walk0 walkB walkK

theorem Tryz.rowBound : Row Tryz.prog 161 3 := ⟨by kernel_rfl, by kernel_rfl⟩
theorem Tryz.zeroBound : (Tryz.prog.info? 161).map (·.zero) = some (some (.agg #[.nilFunc, .nilFunc, .nilFunc])) := by kernel_rfl
theorem Tryz.zeroStrs : (Tryz.prog.info? 44).map (·.zero) = some (some (.slice none 0 0)) := by kernel_rfl
theorem Tryz.sizeStrs : (Tryz.prog.info? 44).map (·.size) = some 1 := by kernel_rfl

def boundV (bc br bt : Nat) : List Value := [.func (.func 166) #[] #[.pointer (some ⟨bc, 0, none⟩), .pointer (some ⟨br, 0, none⟩)], .func (.func 167) #[] #[.pointer (some ⟨bc, 0, none⟩), .pointer (some ⟨br, 0, none⟩)], .func (.func 168) #[] #[.pointer (some ⟨bc, 0, none⟩), .pointer (some ⟨br, 0, none⟩), .pointer (some ⟨bt, 0, none⟩)]]
/-- A cipher with a context. -/
structure Bnd (w : World) (bc br cp kp q p : Nat) (k : Parts) (a : Addr) (ss : List Str) : Prop where
  c : Blk w bc [.pointer (some ⟨cp, 0, none⟩)] 26
  r : Blk w br [.slice (some a) 2 2] 44
  ciph : Ciph w cp kp q p k
  len : ss.length = 2
  strs : StrsIn w (some a) ss
  lens : ∀ s ∈ ss, s.bs.length ≤ 10000
theorem Bnd.later {w w' : World} {bc br cp kp q p : Nat} {k : Parts} {a : Addr} {ss : List Str} (h : Bnd w bc br cp kp q p k a ss) (hb : Below w.heap.size w w') : Bnd w' bc br cp kp q p k a ss :=
  ⟨h.c.below hb h.c.lt, h.r.below hb h.r.lt, h.ciph.later hb, h.len, h.strs.below hb, h.lens⟩

set_option maxHeartbeats 1000000 in
theorem bind_ok (cp kp q p : Nat) (k : Parts) (ao : Option Addr) (n cap : Nat) (bs : List UInt8) (w : World) (hc : Ciph w cp kp q p k) (hn : bs.length = n) (hb : n ≤ 1000) (hl : Lies w ao (bs.map B)) :
    Calls Tryz.prog 111 #[.pointer (some ⟨cp, 0, none⟩), .int .i64 16, .slice ao n cap, .slice none 0 0] w fun e w' => ∃ bc br bt a ss, e = .returned (.tuple #[.agg (boundV bc br bt).toArray, .int .i64 0]) ∧ Bnd w' bc br cp kp q p k a ss ∧ rowOf ss = stringsV 16 bs [] ∧ Below w.heap.size w w' := by
  have HC := Lib.hid hc
  have HN := Lib.hid hn
  have HL := Lib.hid hl
  have HS := Lib.hid (St.start w)
  clear hc hn hl
  go_enter Tryz.func111, Tryz.ntmps111
  go_wp2_with (refine wpList_box 26 _ ([.pointer (some ⟨cp, 0, none⟩)]) _ rfl rfl rfl rfl ?_)
  intro w1 hb hbel; have HS := Lib.hid (HS.out.push hb hbel); have hlt1 := hb.lt; clear hb hbel
  go_wp2_with (refine wpList_box 3 _ ([.int .i64 16]) _ rfl rfl rfl rfl ?_)
  intro w2 hb hbel; have HS := Lib.hid (HS.out.push hb hbel); have hlt2 := hb.lt; clear hb hbel
  go_wp2_with (refine wpList_var 161 ([.nilFunc, .nilFunc, .nilFunc]) _ rfl rfl Tryz.zeroBound rfl ?_)
  intro w3 hb hbel; have HS := Lib.hid (HS.out.push hb hbel); have hlt3 := hb.lt; clear hb hbel
  generalize hbb : w.heap.size = bb at *
  generalize w1.heap.size = bw1 at *
  generalize w2.heap.size = bw2 at *
  have HBB := Lib.hid hbb
  clear hbb
  have hc1 := (HS.out.get 2 rfl).cell 0 _ rfl
  have hc2 := (HS.out.get 1 rfl).cell 0 _ rfl
  go_wp2_with fail
  refine (strings_ok ao n cap bs _ HN.out hb (HL.out.below (HS.out.old HBB.out))).mono ?_
  rintro e w4 ⟨a, ss, rfl, hl2, hro, hss, hbel⟩
  have HS := Lib.hid (HS.out.later hbel)
  have HSS := Lib.hid hss
  have HRO := Lib.hid hro
  have HLE := Lib.hid (show ss.length = 2 ∧ True from ⟨hl2, trivial⟩)
  have HLS := Lib.hid (show ∀ s ∈ ss, s.bs.length ≤ 10000 from by
    intro s hs
    have : s.bs ∈ rowOf ss := List.mem_map.2 ⟨s, hs, rfl⟩
    rw [hro] at this
    simp [stringsV, zeros] at this
    rcases this with h | h
    · rw [h]; simp
    · rw [h, HN.out]; omega)
  clear hl2 hro hss hbel hc1 hc2
  have hz4 := HS.out.size
  have hz5 : bw2 < w4.heap.size := (HS.out.get 0 rfl).lt
  go_wp2_with (refine wpList_var 44 [.slice none 0 0] _ rfl rfl Tryz.zeroStrs rfl ?_)
  intro w5 hb hbel; have HS := Lib.hid (HS.out.push hb hbel); have HB5 := Lib.hid hbel; have hlt5 := hb.lt; clear hb hbel
  go_wp2_with (refine (HS.out.get 0 rfl).wset1 0 (.slice (some a) 2 2) rfl rfl rfl rfl Tryz.sizeStrs rfl rfl (by simp) ?_)
  intro w6 hb6 ho6
  have HSS := Lib.hid (HSS.out.below (below_only HB5.out ho6 (Nat.le_refl _)))
  have HS := Lib.hid (show St w bb w6 [(w4.heap.size, [.slice (some a) 2 2], 44), (bw2, [.nilFunc, .nilFunc, .nilFunc], 161), (bw1, [.int .i64 16], 3), (bb, [.pointer (some ⟨cp, 0, none⟩)], 26)] from HS.out.change 0 hb6 ho6 (by omega) (by simp; omega))
  clear hb6 ho6 HB5
  generalize w4.heap.size = bw4 at *
  have hc1 := (HS.out.get 3 rfl).cell 0 _ rfl
  go_wp2_with fail
  refine (alg_ok cp kp q p k _ (HC.out.later (HS.out.old HBB.out))).mono ?_
  rintro e w7 ⟨rfl, rfl⟩
  go_wp2_with (refine (HS.out.get 1 rfl).wstore rfl rfl rfl (cs := boundV bb bw4 bw1) rfl Tryz.rowBound rfl rfl (by simp [boundV, Value.oneCell']) ?_)
  intro w8 hb8 ho8
  have HB := Lib.hid (below_only HS.out.bel ho8 (by omega))
  have HSS := Lib.hid (HSS.out.only (HS.out.get 1 rfl) (by simp [Str.val]) (by simp) ho8)
  have HBN := Lib.hid (show Bnd w8 bb bw4 cp kp q p k a ss from ⟨(HS.out.get 3 rfl).only ho8 (by omega), (HS.out.get 0 rfl).only ho8 (by omega), HC.out.later (by rw [HBB.out]; exact HB.out), HLE.out.1, HSS.out, HLS.out⟩)
  go_wp2
  refine hb8.result2 rfl rfl rfl rfl Tryz.rowBound rfl ⟨bb, bw4, bw1, a, ss, rfl, HBN.out, HRO.out, by rw [HBB.out]; exact HB.out⟩

theorem bnd1_ok (bc br cp kp q p : Nat) (k : Parts) (a : Addr) (ss : List Str) (bo : Option Addr) (n cb : Nat) (m : List UInt8) (w : World) (hc : Bnd w bc br cp kp q p k a ss) (hn : m.length = n) (h1 : 1 ≤ n) (h31 : n ≤ 20000) (hcb : n ≤ cb) (hl : Lies w bo (m.map B)) :
    Calls Tryz.prog 166 #[.slice bo n cb, .pointer (some ⟨bc, 0, none⟩), .pointer (some ⟨br, 0, none⟩)] w fun e w' => ∃ v, e = .returned (.tuple #[v, .int .i64 0]) ∧ w'.ownsRow w.heap.size 5 1 v n ((rowA k (rowOf ss) m false).map B) ∧ Below w.heap.size w w' := by
  have HC := Lib.hid hc
  have HN := Lib.hid hn
  have HL := Lib.hid hl
  have hc0 := hc.c.cell 0 _ rfl
  have hc1 := hc.r.cell 0 _ rfl
  clear hc hn hl
  go_enter Tryz.func166, Tryz.ntmps166
  go_wp2_with fail
  refine (crow_ok cp kp q p k (some a) 2 2 ss bo n cb m false _ HC.out.ciph HC.out.len (by omega) HC.out.strs HC.out.lens HN.out h1 h31 hcb HL.out).mono ?_
  rintro e w1 ⟨v1, rfl, hown, hbel⟩
  have HO := Lib.hid hown
  have HB := Lib.hid hbel
  clear hown hbel
  go_wp2
  go_ret2
  exact ⟨_, rfl, HO.out, HB.out⟩

theorem bnd2_ok (bc br cp kp q p : Nat) (k : Parts) (a : Addr) (ss : List Str) (bo : Option Addr) (n cb : Nat) (m : List UInt8) (w : World) (hc : Bnd w bc br cp kp q p k a ss) (hn : m.length = n) (h1 : 1 ≤ n) (h31 : n ≤ 20000) (hcb : n ≤ cb) (hl : Lies w bo (m.map B)) :
    Calls Tryz.prog 167 #[.slice bo n cb, .pointer (some ⟨bc, 0, none⟩), .pointer (some ⟨br, 0, none⟩)] w fun e w' => ∃ v, e = .returned (.tuple #[v, .int .i64 0]) ∧ w'.ownsRow w.heap.size 5 1 v n ((rowA k (rowOf ss) m true).map B) ∧ Below w.heap.size w w' := by
  have HC := Lib.hid hc
  have HN := Lib.hid hn
  have HL := Lib.hid hl
  have hc0 := hc.c.cell 0 _ rfl
  have hc1 := hc.r.cell 0 _ rfl
  clear hc hn hl
  go_enter Tryz.func167, Tryz.ntmps167
  go_wp2_with fail
  refine (crow_ok cp kp q p k (some a) 2 2 ss bo n cb m true _ HC.out.ciph HC.out.len (by omega) HC.out.strs HC.out.lens HN.out h1 h31 hcb HL.out).mono ?_
  rintro e w1 ⟨v1, rfl, hown, hbel⟩
  have HO := Lib.hid hown
  have HB := Lib.hid hbel
  clear hown hbel
  go_wp2
  go_ret2
  exact ⟨_, rfl, HO.out, HB.out⟩

theorem boundV_one (bc br bt : Nat) : ∀ v ∈ boundV bc br bt, v.oneCell' = true := by simp [boundV, Value.oneCell']

set_option maxHeartbeats 1000000 in
theorem seal_ok (cp kp q p : Nat) (k : Parts) (ao : Option Addr) (n cap : Nat) (bs : List UInt8) (bo : Option Addr) (mn mc : Nat) (m : List UInt8) (w : World) (hc : Ciph w cp kp q p k) (hn : bs.length = n) (hb : n ≤ 1000) (hl : Lies w ao (bs.map B))
    (hm : m.length = mn) (h1 : 1 ≤ mn) (h31 : mn + 16 ≤ 20000) (hmc : mn ≤ mc) (hlm : Lies w bo (m.map B)) :
    Calls Tryz.prog 66 #[.pointer (some ⟨cp, 0, none⟩), .int .i64 16, .slice ao n cap, .slice none 0 0, .slice bo mn mc] w fun e w' => ∃ v, e = .returned (.tuple #[v, .int .i64 0]) ∧ w'.ownsRow w.heap.size 5 1 v (mn + 16) ((sealA k (stringsV 16 bs []) 16 m).map B) ∧ Below w.heap.size w w' := by
  have HC := Lib.hid hc
  have HN := Lib.hid hn
  have HL := Lib.hid hl
  have HM := Lib.hid hm
  have HLM := Lib.hid hlm
  have HSE := Lib.hid (show sealA k (stringsV 16 bs []) 16 m = rowA k (stringsV 16 bs []) (m ++ zeros 16) false ∧ True from ⟨by unfold sealA; rw [if_neg (by rintro rfl; simp at hm; omega)], trivial⟩)
  have HS := Lib.hid (St.start w)
  have d0 : ((mn : Int) == 0) = false := by simp; omega
  clear hc hn hl hm hlm
  go_enter Tryz.func66, Tryz.ntmps66
  generalize hbb : w.heap.size = bb at *
  have HBB := Lib.hid hbb
  clear hbb
  go_wp2_with fail
  refine (bind_ok cp kp q p k ao n cap bs _ HC.out HN.out hb HL.out).mono ?_
  rintro e w1 ⟨bc, br, bt, a, ss, rfl, hbnd, hro, hbel⟩
  have HBND := Lib.hid hbnd
  have HRO := Lib.hid (show rowOf ss = stringsV 16 bs [] ∧ True from ⟨hro, trivial⟩)
  have HS := Lib.hid (HS.out.later hbel)
  have hz1 := HS.out.size
  clear hbnd hro hbel
  go_wp2_with (refine wpList_var 161 [.nilFunc, .nilFunc, .nilFunc] _ rfl rfl Tryz.zeroBound rfl ?_)
  intro w2 hb hbel; have HS := Lib.hid (HS.out.push hb hbel); have HB2 := Lib.hid hbel; have hlt2 := hb.lt; clear hb hbel
  go_wp2_with (refine (HS.out.get 0 rfl).wstore rfl rfl rfl (cs := boundV bc br bt) rfl Tryz.rowBound rfl rfl (boundV_one _ _ _) ?_)
  intro w3 hb3 ho3
  have HBND := Lib.hid (HBND.out.later (below_only HB2.out ho3 (Nat.le_refl _)))
  have HS := Lib.hid (HS.out.change 0 hb3 ho3 (by omega) (by simp))
  clear hb3 ho3 HB2
  generalize w1.heap.size = bw1 at *
  have hcf := fun (y : After w3.drew) => ((HS.out.drew.later y.later).get 0 rfl).cell 0 _ rfl
  go_wp2_with fail
  refine wp_region_R [0, 1, 2, 3, 4, 5, 6, 7, 8, 9, 10, 11] (by kernel_rfl) (by kernel_rfl) ?_
  rintro w4 rfl
  (refine walkR_one rfl rfl (fun K hK => ?_); go_big_quiet_step (fail); refine wpQuiet_nil (hK _ ?_); clear hK K); (refine walkR_one rfl rfl (fun K hK => ?_); go_big_quiet_step (fail); refine wpQuiet_nil (hK _ ?_); clear hK K); (refine walkR_one rfl rfl (fun K hK => ?_); go_big_quiet_step (fail); refine wpQuiet_nil (hK _ ?_); clear hK K); (refine walkR_one rfl rfl (fun K hK => ?_); go_big_quiet_step (fail); refine wpQuiet_nil (hK _ ?_); clear hK K)
  clear hcf
  have HS := Lib.hid HS.out.drew
  have HBND := Lib.hid (HBND.out.later (Below.refl _ _).drew)
  have HLM := Lib.hid (HLM.out.below (HS.out.old HBB.out))
  refine walkR_call rfl rfl (by rfl) (fun K hK => ?_)
  refine opmake 22 5 (.int .u8 0) 1 16 rfl rfl rfl Tryz.underlying22 Tryz.infoByte rfl rfl rfl (by omega) (by unfold maxLen; omega) (fun w5 hb5 hbel5 => ?_)
  rw [repB] at hb5
  refine hK _ _ hbel5 ?_
  have HS := Lib.hid (HS.out.later hbel5)
  have HBND := Lib.hid (HBND.out.later hbel5)
  have HLM := Lib.hid (HLM.out.below hbel5)
  have HL5 := Lib.hid (show Lies w5 (some ⟨w3.heap.size, 0, none⟩) _ from hb5.lies)
  clear hK K hb5 hbel5
  go_simp
  generalize w3.heap.size = b5 at *
  refine walkR_call rfl rfl (by rfl) (fun K hK => ?_)
  go_simp
  refine hK _ _ (later_alloc _ _) ?_
  clear hK K
  have HST := Lib.hid (show StrsIn (w5.alloc (.cells #[.slice bo mn mc, .slice (some ⟨b5, 0, none⟩) 16 16] 22)) (some ⟨w5.heap.size, 0, none⟩) [⟨bo, mc, m⟩, ⟨some ⟨b5, 0, none⟩, 16, zeros 16⟩] from ⟨by
      have := (Blk.new w5 [.slice bo mn mc, .slice (some ⟨b5, 0, none⟩) 16 16] 22).lies
      simpa [Str.val, HM.out, zeros_length] using this, by
      intro s hs
      simp at hs
      rcases hs with rfl | rfl
      · exact ⟨by rw [HM.out]; exact hmc, HLM.out.below (later_alloc _ _)⟩
      · exact ⟨by simp [zeros_length], HL5.out.below (later_alloc _ _)⟩⟩)
  have HCAT := Lib.hid (show catS [⟨bo, mc, m⟩, ⟨some ⟨b5, 0, none⟩, 16, zeros 16⟩] = m ++ zeros 16 from by simp [catS])
  have HS := Lib.hid (HS.out.later (later_alloc w5 (.cells #[.slice bo mn mc, .slice (some ⟨b5, 0, none⟩) 16 16] 22)))
  have HBND := Lib.hid (HBND.out.later (later_alloc w5 (.cells #[.slice bo mn mc, .slice (some ⟨b5, 0, none⟩) 16 16] 22)))
  obtain ⟨w6, hw6⟩ : ∃ w6, w6 = w5.alloc (.cells #[.slice bo mn mc, .slice (some ⟨b5, 0, none⟩) 16 16] 22) := ⟨_, rfl⟩
  rw [← hw6] at HST HS HBND
  rw [← hw6]
  clear hw6 HL5 HLM
  refine walkR_call rfl rfl (by rfl) (fun K hK => ?_)
  go_simp
  refine (concat_ok _ 2 2 _ _ rfl (by omega) HST.out (by rw [HCAT.out, List.length_append, HM.out, zeros_length]; omega)).mono ?_
  rintro e w7 ⟨v7, rfl, hown7, hbel7⟩
  rw [HCAT.out] at hown7
  have hlen7 : (m ++ zeros 16).length = mn + 16 := by rw [List.length_append, HM.out, zeros_length]
  rw [hlen7] at hown7
  obtain ⟨ao7, cap7, rfl, hc7, _, hl7⟩ := own_form hown7
  have HL7 := Lib.hid hl7
  have HLE7 := Lib.hid hlen7
  have HS := Lib.hid (HS.out.later hbel7)
  have HBND := Lib.hid (HBND.out.later hbel7)
  clear hown7 hl7 hlen7
  simp only [id]
  go_simp
  refine hK _ _ hbel7 ?_
  clear hK K hbel7
  refine walkR_call rfl rfl (by rfl) (fun K hK => ?_)
  go_simp
  refine (bnd1_ok bc br cp kp q p k a ss ao7 (mn + 16) cap7 (m ++ zeros 16) _ HBND.out HLE7.out (by omega) h31 hc7 HL7.out).mono ?_
  rintro e w8 ⟨v8, rfl, hown8, hbel8⟩
  rw [HRO.out.1, ← HSE.out.1] at hown8
  have hz7 := HS.out.size
  have HO := Lib.hid (own_le hown8 hz7)
  have HS := Lib.hid (HS.out.later hbel8)
  clear hown8
  go_simp
  refine hK _ _ hbel8 ?_
  clear hK K hbel8
  repeat (refine walkR_one rfl rfl (fun K hK => ?_); go_big_quiet_step (fail); refine wpQuiet_nil (hK _ ?_); clear hK K)
  refine walkR_nil ?_
  go_wp2
  go_ret2
  exact ⟨_, rfl, by first | exact HO.out | (rw [HBB.out]; exact HO.out), by first | exact HS.out.bel | exact HS.out.old HBB.out⟩

abbrev OpenFrame (us : Nat → Value) : Act := { tmps := #[us 0, us 1, us 2, us 3, us 4, us 5, us 6, us 7, us 8, us 9, us 10, us 11, us 12, us 13, us 14, us 15, us 16, us 17, us 18, us 19, us 20, us 21, us 22, us 23, us 24, us 25, us 26, us 27, us 28, us 29, us 30, us 31, us 32, us 33, us 34, us 35, us 36, us 37, us 38, us 39, us 40, us 41, us 42, us 43, us 44, us 45, us 46, us 47, us 48, us 49, us 50, us 51, us 52, us 53, us 54, us 55, us 56, us 57, us 58, us 59, us 60, us 61, us 62, us 63, us 64, us 65, us 66, us 67], defers := [] }
/-- The state at the label. -/
def OpenAt (N : Prop) (w : World) (x : Act) (wr : World) : Prop := ∃ us : Nat → Value, x = OpenFrame us ∧ Hid N ∧ Hid (Below w.heap.size w wr)
theorem OpenAt.intro {N : Prop} {w : World} {x : Act} {wr : World} (hx : x = OpenFrame (fun i => x.tmps.getD i undef)) (h1 : N) (h2 : Below w.heap.size w wr) : OpenAt N w x wr := ⟨_, hx, h1, h2⟩
/-- What a text opens to, as a result. -/
def Opened (w' : World) (o : Option (List UInt8)) (e : Ending) : Prop := match o with
  | some m => ∃ ao, e = .returned (.tuple #[.slice ao m.length m.length, .int .i64 0]) ∧ Lies w' ao (m.map B)
  | none => e = .returned (.tuple #[.slice none 0 0, .int .i64 9])

set_option maxHeartbeats 1000000 in
theorem open_ok (cp kp q p : Nat) (k : Parts) (ao : Option Addr) (n cap : Nat) (bs : List UInt8) (bo : Option Addr) (bn bcap : Nat) (b : List UInt8) (w : World) (hc : Ciph w cp kp q p k) (hn : bs.length = n) (hnb : n ≤ 1000) (hl : Lies w ao (bs.map B))
    (hb : b.length = bn) (h1 : 17 ≤ bn) (h31 : bn ≤ 20000) (hbc : bn ≤ bcap) (hlb : Lies w bo (b.map B)) :
    Calls Tryz.prog 67 #[.pointer (some ⟨cp, 0, none⟩), .int .i64 16, .slice ao n cap, .slice none 0 0, .slice bo bn bcap] w fun e w' => Opened w' (openA k (stringsV 16 bs []) 16 b) e ∧ Below w.heap.size w w' := by
  obtain ⟨m, hm⟩ : ∃ m, m = bn - 16 := ⟨_, rfl⟩
  obtain ⟨r, hr⟩ : ∃ r, r = rowA k (stringsV 16 bs []) b true := ⟨_, rfl⟩
  have HR := Lib.hid (show rowA k (stringsV 16 bs []) b true = r ∧ True from ⟨hr.symm, trivial⟩)
  have HRL := Lib.hid (show r.length = bn from by rw [hr, rowA_length]; exact hb)
  have HOP := Lib.hid (show openA k (stringsV 16 bs []) 16 b = (if r.drop m = zeros 16 then some (r.take m) else none) ∧ True from ⟨by
    unfold openA
    rw [hb, if_neg (by omega), if_neg (by omega), ← hr, ← hm], trivial⟩)
  have HC := Lib.hid hc
  have HN := Lib.hid hn
  have HL := Lib.hid hl
  have HB := Lib.hid hb
  have HLB := Lib.hid hlb
  have HS := Lib.hid (St.start w)
  have e0 : (bn : Int) - 16 = (m : Int) := by omega
  have d0 : decide ((m : Int) < 0) = false := by simp
  have d1 : ((m : Int) == 0) = false := by simp; omega
  have hmb : m ≤ bn := by omega
  have HDL := Lib.hid (show (r.drop m).length = bn - m by rw [List.length_drop, HRL.out])
  have HM16 := Lib.hid (show bn - m = 16 ∧ True from ⟨by omega, trivial⟩)
  clear hr hc hn hl hb hlb hm
  rw [HOP.out.1]
  go_enter Tryz.func67, Tryz.ntmps67
  generalize hbb : w.heap.size = bb at *
  have HBB := Lib.hid hbb
  clear hbb
  go_wp2_with fail
  refine wp_scope_label 0 (OpenAt (¬ r.drop m = zeros 16) w) (fun _ _ => 0) rfl ?_ ?_
  · simp only [wpPre]
    go_wp2_with fail
    refine (bind_ok cp kp q p k ao n cap bs _ HC.out HN.out hnb HL.out).mono ?_
    rintro e w1 ⟨bc, br, bt, a, ss, rfl, hbnd, hro, hbel⟩
    have HBND := Lib.hid hbnd
    have HRO := Lib.hid (show rowOf ss = stringsV 16 bs [] ∧ True from ⟨hro, trivial⟩)
    have HS := Lib.hid (HS.out.later hbel)
    have hz1 := HS.out.size
    clear hbnd hro hbel
    go_wp2_with (refine wpList_var 161 [.nilFunc, .nilFunc, .nilFunc] _ rfl rfl Tryz.zeroBound rfl ?_)
    intro w2 hb hbel; have HS := Lib.hid (HS.out.push hb hbel); have HB2 := Lib.hid hbel; have hlt2 := hb.lt; clear hb hbel
    go_wp2_with (refine (HS.out.get 0 rfl).wstore rfl rfl rfl (cs := boundV bc br bt) rfl Tryz.rowBound rfl rfl (boundV_one _ _ _) ?_)
    intro w3 hb3 ho3
    have HBND := Lib.hid (HBND.out.later (below_only HB2.out ho3 (Nat.le_refl _)))
    have HS := Lib.hid (HS.out.change 0 hb3 ho3 (by omega) (by simp))
    clear hb3 ho3 HB2
    generalize w1.heap.size = bw1 at *
    have hcf := (HS.out.get 0 rfl).cell 1 _ rfl
    go_wp2_with fail
    refine (bnd2_ok bc br cp kp q p k a ss bo bn bcap b _ HBND.out HB.out (by omega) h31 hbc (HLB.out.below (HS.out.old HBB.out))).mono ?_
    rintro e w4 ⟨v4, rfl, hown4, hbel4⟩
    rw [HRO.out.1, HR.out.1] at hown4
    obtain ⟨ao4, cap4, rfl, hcap4, _, hl4⟩ := own_form hown4
    have HL4 := Lib.hid hl4
    have HS := Lib.hid (HS.out.later hbel4)
    have hs := fun w => run_cut_low (P := Tryz.prog) w 22 5 1 Tryz.underlying22 Tryz.sizeByte ao4 bn cap4 m (m : Int) rfl hmb
    have hs3 := fun w => run_cut_top (P := Tryz.prog) w 22 5 1 Tryz.underlying22 Tryz.sizeByte ao4 bn cap4 m (by omega)
    clear hown4 hl4 hbel4 hcf
    go_wp2_with fail
    refine wp_region_R [0, 1, 2, 3, 4, 5, 6, 7, 8, 9, 10] (by kernel_rfl) (by kernel_rfl) ?_
    rintro w5 rfl
    (refine walkR_one rfl rfl (fun K hK => ?_); go_big_quiet_step (fail); refine wpQuiet_nil (hK _ ?_); clear hK K); (refine walkR_one rfl rfl (fun K hK => ?_); go_big_quiet_step (fail); refine wpQuiet_nil (hK _ ?_); clear hK K); (refine walkR_one rfl rfl (fun K hK => ?_); go_big_quiet_step (fail); refine wpQuiet_nil (hK _ ?_); clear hK K); (refine walkR_one rfl rfl (fun K hK => ?_); go_big_quiet_step (fail); refine wpQuiet_nil (hK _ ?_); clear hK K); (refine walkR_one rfl rfl (fun K hK => ?_); go_big_quiet_step (fail); refine wpQuiet_nil (hK _ ?_); clear hK K); (refine walkR_one rfl rfl (fun K hK => ?_); go_big_quiet_step (fail); refine wpQuiet_nil (hK _ ?_); clear hK K); (refine walkR_one rfl rfl (fun K hK => ?_); go_big_quiet_step (fail); refine wpQuiet_nil (hK _ ?_); clear hK K)
    have HS := Lib.hid HS.out.drew
    have HL4 := Lib.hid (HL4.out.below (Below.refl _ _).drew)
    refine walkR_call rfl rfl (by rfl) (fun K hK => ?_)
    refine opmake 22 5 (.int .u8 0) 1 16 rfl rfl rfl Tryz.underlying22 Tryz.infoByte rfl rfl rfl (by omega) (by unfold maxLen; omega) (fun w6 hb6 hbel6 => ?_)
    rw [repB] at hb6
    refine hK _ _ hbel6 ?_
    have HS := Lib.hid (HS.out.later hbel6)
    have HL4 := Lib.hid (HL4.out.below hbel6)
    have HL6 := Lib.hid hb6.lies
    clear hK K hb6 hbel6
    go_simp
    refine walkR_call rfl rfl (by rfl) (fun K hK => ?_)
    go_simp
    refine (same_ok (cutAddr ao4 cap4 m) _ (bn - m) 16 (cap4 - m) 16 (r.drop m) (zeros 16) _ HDL.out (zeros_length 16) (by omega) (Lies.dropA HL4.out (by rw [HRL.out]; exact hcap4) m) HL6.out).mono ?_
    rintro e w7 ⟨rfl, hbel7⟩
    have HS := Lib.hid (HS.out.later hbel7)
    have HL4 := Lib.hid (HL4.out.below hbel7)
    by_cases hz : r.drop m = zeros 16
    · have HZ := Lib.hid (show (r.drop m = zeros 16) ∧ True from ⟨hz, trivial⟩)
      rw [decide_eq_true hz]
      clear hz
      go_simp
      refine hK _ _ hbel7 ?_
      clear hK K hbel7
      repeat (refine walkR_one rfl rfl (fun K hK => ?_); go_big_quiet_step (fail); refine wpQuiet_nil (hK _ ?_); clear hK K)
      refine walkR_nil ?_
      go_wp2
      rw [Exit.jump_ret]
      go_ret2
      rw [if_pos HZ.out.1]
      have hlm : (r.take m).length = m := by rw [List.length_take, HRL.out]; omega
      refine ⟨⟨ao4, by rw [hlm]; rfl, ?_⟩, by first | exact HS.out.bel | exact HS.out.old HBB.out⟩
      have := HL4.out.take m
      rwa [← List.map_take] at this
    · have HZ := Lib.hid hz
      rw [decide_eq_false hz]
      clear hz
      go_simp
      refine hK _ _ hbel7 ?_
      clear hK K hbel7
      repeat (refine walkR_one rfl rfl (fun K hK => ?_); go_big_quiet_step (fail); refine wpQuiet_nil (hK _ ?_); clear hK K)
      refine walkR_nil ?_
      go_wp2
      refine wp_goto ⟨rfl, OpenAt.intro rfl HZ.out (HS.out.old HBB.out)⟩
  · rintro x wr ⟨us, rfl, HZ, HB⟩
    clear HS
    go_wp2
    rw [Exit.jump_ret]
    go_ret2
    rw [if_neg HZ.out]
    exact ⟨rfl, by first | exact HB.out | (rw [← HBB.out]; exact HB.out)⟩

end Go.Proofs.YtbpghohkhngdfaaGreatDoor
/-
  The walks of wide's ciphers of AEZ: enciphered and deciphered with a tweak; of law 21's small functions.
-/
namespace Go
open Go.RowKit
section
variable {P : Program} {ops : Array Oper} {Q : Exit → Act → World → Prop}
/-- A slice that is made. -/
def Floater.make (i : Nat) (d : Tmp) (e : TypeId) (vs : List Value) : Floater := ⟨i, d, .cells vs.toArray e, fun n => .slice (some ⟨n, 0, none⟩) vs.length vs.length⟩
@[go_sem, simp] theorem make_dst (i : Nat) (d : Tmp) (t : TypeId) (vs : List Value) : (Floater.make i d t vs).dst = d := rfl
@[go_sem, simp] theorem make_val (i : Nat) (d : Tmp) (t : TypeId) (vs : List Value) (n : Nat) : (Floater.make i d t vs).val n = .slice (some ⟨n, 0, none⟩) vs.length vs.length := rfl
@[go_sem, simp] theorem make_obj (i : Nat) (d : Tmp) (t : TypeId) (vs : List Value) : (Floater.make i d t vs).obj = .cells vs.toArray t := rfl
theorem fits_make {a : Act} {w : World} (i : Nat) (d : Tmp) (e t : TypeId) (vs : List Value) (o : Oper) {l c : Operand} (ho : ops[i]? = some o) (hop : o.op = .makeSlice t l c) (hd : o.dst = some d) (hg : o.guard = none) (hsz : d < a.tmps.size)
    (hrun : ∀ w', (Instr.makeSlice t (a.eval l) (a.eval c)).run P w' = .ok (.slice (some ⟨w'.heap.size, 0, none⟩) vs.length vs.length) (w'.alloc (.cells vs.toArray e))) : (Floater.make i d e vs).Fits P ops a w := by
  refine ⟨hsz, o, ho, hd, hg, by simp [hop], fun w' _ => ?_⟩
  simp [execOp, hop, hrun, Floater.make]
end
end Go
namespace Go.Proofs.YtbpghohkhngdfaaGreatDoor
open Go.RowKit Go.Mem Go.Ops Go.Cells Go.Oct Go.Gf Go.Trn Go.Aes Go.Ring Go.Ezk Go.Ezh Go.Ezt Go.Ezc Go.Aez Go.Blake Go.CutP Go.Fl Go.Wid
set_option linter.unusedSimpArgs false
set_option linter.unusedVariables false
set_option maxRecDepth 100000
attribute [local irreducible] walkR walkP walk0 walkB walkK

theorem Tryz.make32 (w : World) : (Instr.makeSlice 22 (.int .i64 32) (.int .i64 32)).run Tryz.prog w = .ok (.slice (some ⟨w.heap.size, 0, none⟩) 32 32) (w.alloc (.cells ((zeros 32).map B).toArray 5)) := by kernel_rfl

theorem tables21_ok (w : World) (hg : Globals w) : Calls Tryz.prog 17 #[] w fun e w' => ∃ q p, e = .returned (.pointer (some ⟨q, 0, none⟩)) ∧ Tab w' q p ∧ Below w.heap.size w w' := by
  have HG := Lib.hid hg
  clear hg
  go_enter Tryz.func17, Tryz.ntmps17
  go_wp2_with fail
  refine (make_ok _).mono ?_
  rintro e w1 ⟨p, rfl, _, hb, hbel⟩
  have HB := Lib.hid hb
  have HL := Lib.hid hbel
  clear hb hbel
  go_wp2_with fail
  refine (new_ok p boxes _ boxes_length HB.out (HG.out.below HL.out)).mono ?_
  rintro e w2 ⟨q, rfl, _, hb2, hbel2⟩
  have HT := Lib.hid (show Tab w2 q p from ⟨HB.out.below hbel2 HB.out.lt, hb2⟩)
  have HL := Lib.hid (HL.out.trans (hbel2.mono HL.out.size))
  clear hbel2 hb2
  go_wp2
  go_ret
  exact ⟨_, _, rfl, HT.out, HL.out⟩

/-- No such scheme. -/
theorem schemed_alg (q : Nat) (alg : Int) (ao : Option Addr) (n cap : Nat) (w : World) (h1 : alg ≠ 1) (h2 : alg ≠ 2) (h3 : alg ≠ 3) :
    Calls Tryz.prog 41 #[.pointer (some ⟨q, 0, none⟩), .int .i64 alg, .slice ao n cap] w fun e w' => e = .returned (.tuple #[.nilIface, .int .i64 8]) ∧ w = w' := by
  have d1 : (alg == 1) = false := by simp; omega
  have d2 : (alg == 2) = false := by simp; omega
  have d3 : (alg == 3) = false := by simp; omega
  go_enter Tryz.func41, Tryz.ntmps41
  go_wp2
  go_ret2
  exact ⟨rfl, rfl⟩
theorem wnew_alg (q : Nat) (alg : Int) (ao : Option Addr) (n cap : Nat) (w : World) (h1 : alg ≠ 1) (h2 : alg ≠ 2) (h3 : alg ≠ 3) :
    Calls Tryz.prog 16 #[.pointer (some ⟨q, 0, none⟩), .int .i64 alg, .slice ao n cap] w fun e w' => e = .returned (.tuple #[.pointer none, .int .i64 8]) ∧ w = w' := by
  have H := Lib.hid (And.intro h1 (And.intro h2 h3))
  clear h1 h2 h3
  go_enter Tryz.func16, Tryz.ntmps16
  go_wp2_with fail
  refine (schemed_alg q alg ao n cap _ H.out.1 H.out.2.1 H.out.2.2).mono ?_
  rintro e w1 ⟨rfl, rfl⟩
  go_wp2
  go_ret2
  exact ⟨rfl, rfl⟩

theorem least_ez (cp kp q p : Nat) (k : Parts) (w : World) (hc : Ciph w cp kp q p k) : Calls Tryz.prog 20 #[.pointer (some ⟨cp, 0, none⟩)] w fun e w' => e = .returned (.int .i64 1) ∧ w = w' := by
  have hc0 := hc.blk.cell 0 _ rfl
  clear hc
  go_enter Tryz.func20, Tryz.ntmps20
  go_wp2
  go_ret
  exact ⟨rfl, rfl⟩

def rowOne (t : List UInt8) (ao : Option Addr) (cap : Nat) : List Str := [⟨ao, cap, t⟩]
theorem ezenc_ok (kp q p : Nat) (k : Parts) (ao : Option Addr) (tn tc : Nat) (t : List UInt8) (bo : Option Addr) (n cb : Nat) (m : List UInt8) (w : World) (hk : EKey w kp q p k) (ht : t.length = tn) (ht1 : tn ≤ 10000) (htc : tn ≤ tc) (hlt : Lies w ao (t.map B))
    (hn : m.length = n) (h1 : 1 ≤ n) (h31 : n ≤ 20000) (hcb : n ≤ cb) (hl : Lies w bo (m.map B)) :
    Calls Tryz.prog 279 #[.agg #[.pointer (some ⟨kp, 0, none⟩)], .slice ao tn tc, .slice bo n cb] w fun e w' => ∃ v, e = .returned (.tuple #[v, .int .i64 0]) ∧ w'.ownsRow w.heap.size 5 1 v n ((rowA k [t] m false).map B) ∧ Below w.heap.size w w' := by
  have HK := Lib.hid hk
  have HT := Lib.hid ht
  have HLT := Lib.hid hlt
  have HN := Lib.hid hn
  have HL := Lib.hid hl
  clear hk ht hlt hn hl
  go_enter Tryz.func279, Tryz.ntmps279
  go_wp2_with (refine wpList_box 87 _ [.pointer (some ⟨kp, 0, none⟩)] _ rfl rfl rfl rfl ?_)
  intro w1 hb hbel
  have HBK := Lib.hid hb
  have HB := Lib.hid hbel
  clear hb hbel
  go_wp2_with (refine HBK.out.wload rfl rfl rfl Tryz.rowEz rfl ?_)
  go_wp2_with fail
  have HSS := Lib.hid (show StrsIn (w1.alloc (.cells #[.slice ao tn tc] 22)) (some ⟨w1.heap.size, 0, none⟩) (rowOne t ao tc) from by
    refine ⟨?_, ?_⟩
    · have := (Blk.new w1 [.slice ao tn tc] 22).lies
      simpa [rowOne, Str.val, HT.out] using this
    · intro s hs
      simp [rowOne] at hs
      subst hs
      exact ⟨by rw [HT.out]; exact htc, (HLT.out.below HB.out).below (later_alloc _ _)⟩)
  have HB := Lib.hid (HB.out.trans ((later_alloc w1 (.cells #[.slice ao tn tc] 22)).mono HB.out.size))
  generalize w1.alloc (.cells #[.slice ao tn tc] 22) = w2 at *
  refine (ezrow_ok kp q p k (some ⟨w1.heap.size, 0, none⟩) 1 1 (rowOne t ao tc) bo n cb m false _ (HK.out.later HB.out) rfl (by omega) HSS.out (by intro s hs; simp [rowOne] at hs; subst hs; rw [HT.out]; exact ht1) HN.out h1 h31 hcb (HL.out.below HB.out)).mono ?_
  rintro e w3 ⟨v3, rfl, hown, hbel⟩
  have HO := Lib.hid (own_le hown HB.out.size)
  have HB := Lib.hid (HB.out.trans (hbel.mono HB.out.size))
  clear hown hbel
  go_wp2
  go_ret2
  exact ⟨_, rfl, HO.out, HB.out⟩
theorem ezdec_ok (kp q p : Nat) (k : Parts) (ao : Option Addr) (tn tc : Nat) (t : List UInt8) (bo : Option Addr) (n cb : Nat) (m : List UInt8) (w : World) (hk : EKey w kp q p k) (ht : t.length = tn) (ht1 : tn ≤ 10000) (htc : tn ≤ tc) (hlt : Lies w ao (t.map B))
    (hn : m.length = n) (h1 : 1 ≤ n) (h31 : n ≤ 20000) (hcb : n ≤ cb) (hl : Lies w bo (m.map B)) :
    Calls Tryz.prog 278 #[.agg #[.pointer (some ⟨kp, 0, none⟩)], .slice ao tn tc, .slice bo n cb] w fun e w' => ∃ v, e = .returned (.tuple #[v, .int .i64 0]) ∧ w'.ownsRow w.heap.size 5 1 v n ((rowA k [t] m true).map B) ∧ Below w.heap.size w w' := by
  have HK := Lib.hid hk
  have HT := Lib.hid ht
  have HLT := Lib.hid hlt
  have HN := Lib.hid hn
  have HL := Lib.hid hl
  clear hk ht hlt hn hl
  go_enter Tryz.func278, Tryz.ntmps278
  go_wp2_with (refine wpList_box 87 _ [.pointer (some ⟨kp, 0, none⟩)] _ rfl rfl rfl rfl ?_)
  intro w1 hb hbel
  have HBK := Lib.hid hb
  have HB := Lib.hid hbel
  clear hb hbel
  go_wp2_with (refine HBK.out.wload rfl rfl rfl Tryz.rowEz rfl ?_)
  go_wp2_with fail
  have HSS := Lib.hid (show StrsIn (w1.alloc (.cells #[.slice ao tn tc] 22)) (some ⟨w1.heap.size, 0, none⟩) (rowOne t ao tc) from by
    refine ⟨?_, ?_⟩
    · have := (Blk.new w1 [.slice ao tn tc] 22).lies
      simpa [rowOne, Str.val, HT.out] using this
    · intro s hs
      simp [rowOne] at hs
      subst hs
      exact ⟨by rw [HT.out]; exact htc, (HLT.out.below HB.out).below (later_alloc _ _)⟩)
  have HB := Lib.hid (HB.out.trans ((later_alloc w1 (.cells #[.slice ao tn tc] 22)).mono HB.out.size))
  generalize w1.alloc (.cells #[.slice ao tn tc] 22) = w2 at *
  refine (ezrow_ok kp q p k (some ⟨w1.heap.size, 0, none⟩) 1 1 (rowOne t ao tc) bo n cb m true _ (HK.out.later HB.out) rfl (by omega) HSS.out (by intro s hs; simp [rowOne] at hs; subst hs; rw [HT.out]; exact ht1) HN.out h1 h31 hcb (HL.out.below HB.out)).mono ?_
  rintro e w3 ⟨v3, rfl, hown, hbel⟩
  have HO := Lib.hid (own_le hown HB.out.size)
  have HB := Lib.hid (HB.out.trans (hbel.mono HB.out.size))
  clear hown hbel
  go_wp2
  go_ret2
  exact ⟨_, rfl, HO.out, HB.out⟩
end Go.Proofs.YtbpghohkhngdfaaGreatDoor
/-
  The walks of wide's turned, Encipher, Decipher of AEZ's ciphers; of law 21's small functions, and its 'awake'.
-/
namespace Go.Proofs.YtbpghohkhngdfaaGreatDoor
open Go.RowKit Go.Mem Go.Ops Go.Cells Go.Oct Go.Gf Go.Trn Go.Aes Go.Ring Go.Ezk Go.Ezh Go.Ezt Go.Ezc Go.Aez Go.Blake Go.CutP Go.Fl Go.Wid
set_option linter.unusedSimpArgs false
set_option linter.unusedVariables false
set_option maxRecDepth 100000
attribute [local irreducible] walkR walkP walk0 walkB walkK

theorem turned_ez (cp kp q p : Nat) (k : Parts) (ao : Option Addr) (tn tc : Nat) (t : List UInt8) (bo : Option Addr) (n cb : Nat) (m : List UInt8) (back : Bool) (w : World) (hk : Ciph w cp kp q p k) (ht : t.length = tn) (ht1 : tn ≤ 10000) (htc : tn ≤ tc) (hlt : Lies w ao (t.map B))
    (hn : m.length = n) (h1 : 1 ≤ n) (h31 : n ≤ 20000) (hcb : n ≤ cb) (hl : Lies w bo (m.map B)) :
    Calls Tryz.prog 51 #[.pointer (some ⟨cp, 0, none⟩), .slice ao tn tc, .slice bo n cb, .bool back] w fun e w' => ∃ v, e = .returned (.tuple #[v, .int .i64 0]) ∧ w'.ownsRow w.heap.size 5 1 v n ((rowA k [t] m back).map B) ∧ Below w.heap.size w w' := by
  have HK := Lib.hid hk
  have HT := Lib.hid ht
  have HLT := Lib.hid hlt
  have HN := Lib.hid hn
  have HL := Lib.hid hl
  have hc1 := hk.blk.cell 1 _ rfl
  have d1 : decide ((n : Int) < 1) = false := by simp; omega
  clear hk ht hlt hn hl
  cases back
  · go_enter Tryz.func51, Tryz.ntmps51
    go_wp2_with fail
    refine (least_ez cp kp q p k _ HK.out).mono ?_
    rintro e w1 ⟨rfl, rfl⟩
    go_wp2_with fail
    refine (ezenc_ok kp q p k ao tn tc t bo n cb m _ HK.out.key HT.out ht1 htc HLT.out HN.out h1 h31 hcb HL.out).mono ?_
    rintro e w3 ⟨v3, rfl, hown, hbel⟩
    have HO := Lib.hid hown
    have HB := Lib.hid hbel
    clear hown hbel
    go_wp2
    go_ret2
    exact ⟨_, rfl, HO.out, HB.out⟩
  · go_enter Tryz.func51, Tryz.ntmps51
    go_wp2_with fail
    refine (least_ez cp kp q p k _ HK.out).mono ?_
    rintro e w1 ⟨rfl, rfl⟩
    go_wp2_with fail
    refine (ezdec_ok kp q p k ao tn tc t bo n cb m _ HK.out.key HT.out ht1 htc HLT.out HN.out h1 h31 hcb HL.out).mono ?_
    rintro e w3 ⟨v3, rfl, hown, hbel⟩
    have HO := Lib.hid hown
    have HB := Lib.hid hbel
    clear hown hbel
    go_wp2
    go_ret2
    exact ⟨_, rfl, HO.out, HB.out⟩

theorem cenc_ez (cp kp q p : Nat) (k : Parts) (ao : Option Addr) (tn tc : Nat) (t : List UInt8) (bo : Option Addr) (n cb : Nat) (m : List UInt8) (w : World) (hk : Ciph w cp kp q p k) (ht : t.length = tn) (ht1 : tn ≤ 10000) (htc : tn ≤ tc) (hlt : Lies w ao (t.map B))
    (hn : m.length = n) (h1 : 1 ≤ n) (h31 : n ≤ 20000) (hcb : n ≤ cb) (hl : Lies w bo (m.map B)) :
    Calls Tryz.prog 46 #[.pointer (some ⟨cp, 0, none⟩), .slice ao tn tc, .slice bo n cb] w fun e w' => ∃ v, e = .returned (.tuple #[v, .int .i64 0]) ∧ w'.ownsRow w.heap.size 5 1 v n ((rowA k [t] m false).map B) ∧ Below w.heap.size w w' := by
  have HC := Lib.hid (turned_ez cp kp q p k ao tn tc t bo n cb m false w hk ht ht1 htc hlt hn h1 h31 hcb hl)
  clear hk ht hlt hn hl
  go_enter Tryz.func46, Tryz.ntmps46
  go_wp2_with fail
  refine HC.out.mono ?_
  rintro e w3 ⟨v3, rfl, hown, hbel⟩
  have HO := Lib.hid hown
  have HB := Lib.hid hbel
  clear hown hbel
  go_wp2
  go_ret2
  exact ⟨_, rfl, HO.out, HB.out⟩
theorem cdec_ez (cp kp q p : Nat) (k : Parts) (ao : Option Addr) (tn tc : Nat) (t : List UInt8) (bo : Option Addr) (n cb : Nat) (m : List UInt8) (w : World) (hk : Ciph w cp kp q p k) (ht : t.length = tn) (ht1 : tn ≤ 10000) (htc : tn ≤ tc) (hlt : Lies w ao (t.map B))
    (hn : m.length = n) (h1 : 1 ≤ n) (h31 : n ≤ 20000) (hcb : n ≤ cb) (hl : Lies w bo (m.map B)) :
    Calls Tryz.prog 47 #[.pointer (some ⟨cp, 0, none⟩), .slice ao tn tc, .slice bo n cb] w fun e w' => ∃ v, e = .returned (.tuple #[v, .int .i64 0]) ∧ w'.ownsRow w.heap.size 5 1 v n ((rowA k [t] m true).map B) ∧ Below w.heap.size w w' := by
  have HC := Lib.hid (turned_ez cp kp q p k ao tn tc t bo n cb m true w hk ht ht1 htc hlt hn h1 h31 hcb hl)
  clear hk ht hlt hn hl
  go_enter Tryz.func47, Tryz.ntmps47
  go_wp2_with fail
  refine HC.out.mono ?_
  rintro e w3 ⟨v3, rfl, hown, hbel⟩
  have HO := Lib.hid hown
  have HB := Lib.hid hbel
  clear hown hbel
  go_wp2
  go_ret2
  exact ⟨_, rfl, HO.out, HB.out⟩

theorem right04_ok (n : Nat) (w : World) : Calls Tryz.prog 44 #[.int .i64 n] w fun e w' => e = .returned (.bool (decide (n = 16 ∨ n = 24 ∨ n = 32))) ∧ w = w' := by
  by_cases h1 : n = 16
  · subst h1
    have e1 : decide (16 = 16 ∨ 16 = 24 ∨ 16 = 32) = true := rfl
    rw [e1]
    go_enter Tryz.func44, Tryz.ntmps44
    go_wp2
    go_ret
    exact ⟨rfl, rfl⟩
  · have d1 : ((n : Int) == 16) = false := by simp; omega
    by_cases h2 : n = 24
    · subst h2
      have e1 : decide (24 = 16 ∨ 24 = 24 ∨ 24 = 32) = true := rfl
      rw [e1]
      go_enter Tryz.func44, Tryz.ntmps44
      go_wp2
      go_ret
      exact ⟨rfl, rfl⟩
    · have d2 : ((n : Int) == 24) = false := by simp; omega
      have e1 : decide (n = 16 ∨ n = 24 ∨ n = 32) = ((n : Int) == 32) := by
        by_cases h3 : n = 32
        · subst h3; rfl
        · have : ((n : Int) == 32) = false := by simp; omega
          rw [this]; simp; omega
      rw [e1]
      go_enter Tryz.func44, Tryz.ntmps44
      go_wp2
      go_ret
      exact ⟨rfl, rfl⟩
theorem right15_ok (ao : Option Addr) (n cap : Nat) (w : World) : Calls Tryz.prog 45 #[.slice ao n cap] w fun e w' => e = .returned (.bool (decide (0 < n ∧ n ≤ 128))) ∧ w = w' := by
  by_cases h0 : n = 0
  · subst h0
    have d1 : decide (0 < 0 ∧ 0 ≤ 128) = false := by decide
    rw [d1]
    go_enter Tryz.func45, Tryz.ntmps45
    go_wp2
    go_ret
    exact ⟨rfl, rfl⟩
  · have d0 : decide ((n : Int) > 0) = true := by simp; omega
    by_cases h1 : n ≤ 128
    · have d1 : decide (0 < n ∧ n ≤ 128) = true := by simp; omega
      have d2 : decide ((n : Int) ≤ 128) = true := by simp; omega
      rw [d1]
      go_enter Tryz.func45, Tryz.ntmps45
      go_wp2
      go_ret
      exact ⟨rfl, rfl⟩
    · have d1 : decide (0 < n ∧ n ≤ 128) = false := by simp; omega
      have d2 : decide ((n : Int) ≤ 128) = false := by simp; omega
      rw [d1]
      go_enter Tryz.func45, Tryz.ntmps45
      go_wp2
      go_ret
      exact ⟨rfl, rfl⟩

theorem wrong21_ok (alg : Int) (ao : Option Addr) (n cap : Nat) (w : World) : Calls Tryz.prog 18 #[.int .i64 alg, .slice ao n cap] w fun e w' => e = .returned (.int .i64 (wrongG alg n)) ∧ w = w' := by
  by_cases h1 : alg = 1
  · subst h1
    by_cases h2 : n = 32
    · subst h2
      have e : wrongG 1 32 = 0 := rfl
      rw [e]
      go_enter Tryz.func18, Tryz.ntmps18
      go_wp2
      go_ret
      exact ⟨rfl, rfl⟩
    · have e : wrongG 1 n = 2 := by unfold wrongG; rw [if_pos rfl, if_neg h2]
      have d : ((n : Int) != 32) = true := by simp; omega
      rw [e]
      go_enter Tryz.func18, Tryz.ntmps18
      go_wp2
      go_ret
      exact ⟨rfl, rfl⟩
  · by_cases h2 : alg = 2
    · subst h2
      by_cases h3 : n = 16 ∨ n = 24 ∨ n = 32
      · have e : wrongG 2 n = 0 := by unfold wrongG; rw [if_neg (by omega), if_pos rfl, if_pos h3]
        have d : decide (n = 16 ∨ n = 24 ∨ n = 32) = true := by simpa using h3
        rw [e]
        clear h3
        go_enter Tryz.func18, Tryz.ntmps18
        go_wp2_with fail
        refine (right04_ok n _).mono ?_
        rintro e w1 ⟨rfl, rfl⟩
        rw [d]
        go_wp2
        go_ret
        exact ⟨rfl, rfl⟩
      · have e : wrongG 2 n = 2 := by unfold wrongG; rw [if_neg (by omega), if_pos rfl, if_neg h3]
        have d : decide (n = 16 ∨ n = 24 ∨ n = 32) = false := by simpa using h3
        rw [e]
        clear h3
        go_enter Tryz.func18, Tryz.ntmps18
        go_wp2_with fail
        refine (right04_ok n _).mono ?_
        rintro e w1 ⟨rfl, rfl⟩
        rw [d]
        go_wp2
        go_ret
        exact ⟨rfl, rfl⟩
    · by_cases h3 : alg = 3
      · subst h3
        by_cases h4 : 0 < n ∧ n ≤ 128
        · have e : wrongG 3 n = 0 := by unfold wrongG; rw [if_neg (by omega), if_neg (by omega), if_pos rfl, if_pos h4]
          have d : decide (0 < n ∧ n ≤ 128) = true := by simpa using h4
          rw [e]
          clear h4
          go_enter Tryz.func18, Tryz.ntmps18
          go_wp2_with fail
          refine (right15_ok ao n cap _).mono ?_
          rintro e w1 ⟨rfl, rfl⟩
          rw [d]
          go_wp2
          go_ret
          exact ⟨rfl, rfl⟩
        · have e : wrongG 3 n = 2 := by unfold wrongG; rw [if_neg (by omega), if_neg (by omega), if_pos rfl, if_neg h4]
          have d : decide (0 < n ∧ n ≤ 128) = false := by simp; omega
          rw [e]
          clear h4
          go_enter Tryz.func18, Tryz.ntmps18
          go_wp2_with fail
          refine (right15_ok ao n cap _).mono ?_
          rintro e w1 ⟨rfl, rfl⟩
          rw [d]
          go_wp2
          go_ret
          exact ⟨rfl, rfl⟩
      · have e : wrongG alg n = 8 := by unfold wrongG; rw [if_neg h1, if_neg h2, if_neg h3]
        rw [e]
        by_cases h4 : alg < 1
        · have d : decide (alg < 1) = true := by simp; omega
          go_enter Tryz.func18, Tryz.ntmps18
          go_wp2
          go_ret
          exact ⟨rfl, rfl⟩
        · have d : decide (alg < 1) = false := by simp; omega
          have d2 : decide (alg > 3) = true := by simp; omega
          go_enter Tryz.func18, Tryz.ntmps18
          go_wp2
          go_ret
          exact ⟨rfl, rfl⟩

theorem least21_ok (alg : Int) (w : World) : Calls Tryz.prog 21 #[.int .i64 alg] w fun e w' => e = .returned (.int .i64 (leastG alg)) ∧ w = w' := by
  by_cases h3 : alg = 3
  · subst h3
    have e : leastG 3 = 1 := rfl
    rw [e]
    go_enter Tryz.func21, Tryz.ntmps21
    go_wp2
    go_ret
    exact ⟨rfl, rfl⟩
  · have e : leastG alg = 16 := by unfold leastG; rw [if_neg h3]
    have d : (alg == 3) = false := by simp; omega
    rw [e]
    go_enter Tryz.func21, Tryz.ntmps21
    go_wp2
    go_ret
    exact ⟨rfl, rfl⟩

/-- A text's five cells. -/
def textV (alg : Int) (a1 : Option Addr) (n1 c1 : Nat) (a2 : Option Addr) (n2 c2 : Nat) (a3 : Option Addr) (n3 c3 : Nat) (back : Bool) : List Value := [.int .i64 alg, .slice a1 n1 c1, .slice a2 n2 c2, .slice a3 n3 c3, .bool back]
theorem Tryz.rowText : Row Tryz.prog 24 5 := ⟨by kernel_rfl, by kernel_rfl⟩
theorem short21_ok (alg : Int) (a1 : Option Addr) (n1 c1 : Nat) (a2 : Option Addr) (n2 c2 : Nat) (a3 : Option Addr) (n3 c3 : Nat) (back : Bool) (w : World) :
    Calls Tryz.prog 15 #[.agg (textV alg a1 n1 c1 a2 n2 c2 a3 n3 c3 back).toArray] w fun e w' => e = .returned (.bool (decide (n1 ≤ 200 ∧ n2 ≤ 100 ∧ n3 ≤ 300))) ∧ Below w.heap.size w w' := by
  by_cases h1 : n1 ≤ 200
  · have d1 : decide ((n1 : Int) ≤ 200) = true := by simp; omega
    by_cases h2 : n2 ≤ 100
    · have d2 : decide ((n2 : Int) ≤ 100) = true := by simp; omega
      have e : decide (n1 ≤ 200 ∧ n2 ≤ 100 ∧ n3 ≤ 300) = decide ((n3 : Int) ≤ 300) := decide_eq_decide.2 ⟨fun h => by omega, fun h => ⟨h1, h2, by omega⟩⟩
      rw [e]
      go_enter Tryz.func15, Tryz.ntmps15
      go_wp2_with (refine wpList_box 24 _ (textV alg a1 n1 c1 a2 n2 c2 a3 n3 c3 back) _ rfl rfl rfl rfl ?_)
      intro w1 hb hbel
      have hx1 := hb.cell 1 _ rfl
      have hx2 := hb.cell 2 _ rfl
      have hx3 := hb.cell 3 _ rfl
      have HB := Lib.hid hbel
      clear hb hbel
      go_wp2
      go_ret
      exact ⟨rfl, HB.out⟩
    · have d2 : decide ((n2 : Int) ≤ 100) = false := by simp; omega
      have e : decide (n1 ≤ 200 ∧ n2 ≤ 100 ∧ n3 ≤ 300) = false := decide_eq_false (by omega)
      rw [e]
      go_enter Tryz.func15, Tryz.ntmps15
      go_wp2_with (refine wpList_box 24 _ (textV alg a1 n1 c1 a2 n2 c2 a3 n3 c3 back) _ rfl rfl rfl rfl ?_)
      intro w1 hb hbel
      have hx1 := hb.cell 1 _ rfl
      have hx2 := hb.cell 2 _ rfl
      have HB := Lib.hid hbel
      clear hb hbel
      go_wp2
      go_ret
      exact ⟨rfl, HB.out⟩
  · have d1 : decide ((n1 : Int) ≤ 200) = false := by simp; omega
    have e : decide (n1 ≤ 200 ∧ n2 ≤ 100 ∧ n3 ≤ 300) = false := decide_eq_false (by omega)
    rw [e]
    go_enter Tryz.func15, Tryz.ntmps15
    go_wp2_with (refine wpList_box 24 _ (textV alg a1 n1 c1 a2 n2 c2 a3 n3 c3 back) _ rfl rfl rfl rfl ?_)
    intro w1 hb hbel
    have hx1 := hb.cell 1 _ rfl
    have HB := Lib.hid hbel
    clear hb hbel
    go_wp2
    go_ret
    exact ⟨rfl, HB.out⟩
end Go.Proofs.YtbpghohkhngdfaaGreatDoor
