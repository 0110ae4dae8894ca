/-
  Texts of this claim, one behind the other: SealC SlotA SlotB.
-/
import Derived.Test.YtnkaodjfjllkfaaGreatDoorM18
/-
  The walks of seal: a cipher of AEZ's with a context; a message sealed, a sealed text opened.
-/
set_option linter.unusedSimpArgs false
set_option linter.unusedVariables false
namespace Go.Mem
open Go.RowKit Go.Cells Go.Ops
theorem run_cut_top {P : Program} (w : World) (t e : TypeId) (size : Nat) (ht : P.underlying t = some (.slice e)) (hs : (P.info? e).map (·.size) = some size) (ao : Option Addr) (len cap n : Nat) (h : n ≤ cap) :
    (Instr.slice t (.slice ao len cap) none (some (.int .i64 (n : Int))) (some (.int .i64 (n : Int)))).run P w = .ok (.slice ao n n) w := by
  cases hq : P.info? e with
  | none => rw [hq] at hs; cases hs
  | some x =>
    have hx : x.size = size := by rw [hq] at hs; simpa using hs
    by_cases h0 : n = 0
    · subst h0
      simp [Instr.slice, Instr.sliceBounds, Instr.sliceBound, run_underlying ht, sizeOf, typeInfo, hq, hx, asIntOf]
    · have h0' : ¬ (n = 0) := h0
      cases ao with
      | none => simp [Instr.slice, Instr.sliceBounds, Instr.sliceBound, run_underlying ht, sizeOf, typeInfo, hq, hx, asIntOf, h, h0']
      | some a => cases a; simp [Instr.slice, Instr.sliceBounds, Instr.sliceBound, run_underlying ht, sizeOf, typeInfo, hq, hx, asIntOf, h, h0', Addr.add]
theorem _root_.Go.Cells.Blk.cellAny {w : World} {b : Nat} {vs : List Value} {ty : TypeId} (h : Blk w b vs ty) (i : Nat) : w.cell? ⟨b, i, none⟩ = vs[i]? := by
  unfold Blk at h
  simp [World.cell?, h]
theorem _root_.Go.Cells.Only.cellOther {b : Nat} {w w' : World} (h : Only b w w') {c : Nat} (i : Nat) (hne : c ≠ b) : w'.cell? ⟨c, i, none⟩ = w.cell? ⟨c, i, none⟩ := by
  simp [World.cell?, h.block c hne]
theorem Lies.only {w w' : World} {ao : Option Addr} {xs vs : List Value} {b : Nat} {ty : TypeId} (h : Lies w ao xs) (hb : Blk w b vs ty) (hne : ∀ x ∈ xs, x ∉ vs) (ho : Only b w w') : Lies w' ao xs := by
  intro j u hu
  obtain ⟨c, off, e, hc⟩ := h j u hu
  refine ⟨c, off, e, ?_⟩
  by_cases he : c = b
  · subst he
    exfalso
    refine hne u (List.mem_of_getElem? hu) ?_
    have h1 : w.cell? ⟨c, off + j, none⟩ = vs[off + j]? := hb.cellAny _
    rw [hc] at h1
    exact List.mem_of_getElem? h1.symm
  · rw [← hc]
    exact ho.cellOther _ he
theorem Str.In.only {w w' : World} {s : Str} {vs : List Value} {b : Nat} {ty : TypeId} (h : s.In w) (hb : Blk w b vs ty) (hne : ∀ x : UInt8, B x ∉ vs) (ho : Only b w w') : s.In w' :=
  ⟨h.le, h.lies.only hb (by intro x hx; obtain ⟨y, _, rfl⟩ := List.mem_map.1 hx; exact hne y) ho⟩
theorem StrsIn.only {w w' : World} {ao : Option Addr} {ss : List Str} {vs : List Value} {b : Nat} {ty : TypeId} (h : StrsIn w ao ss) (hb : Blk w b vs ty) (h1 : ∀ s ∈ ss, s.val ∉ vs) (hne : ∀ x : UInt8, B x ∉ vs) (ho : Only b w w') : StrsIn w' ao ss :=
  ⟨h.lies.only hb (by intro x hx; obtain ⟨y, hy, rfl⟩ := List.mem_map.1 hx; exact h1 y hy) ho, fun s hs => (h.each s hs).only hb hne ho⟩
end Go.Mem
namespace Go.Cells
open Go.RowKit
/-- 'make' at an operation. -/
theorem opmake {P : Program} {w : World} {op : Oper} {a : Act} {K : Act → World → Prop} {Q : Exit → Act → World → Prop} (t e : TypeId) (z : Value) (by' : Nat) (n : Nat) {l c : Operand} {kl kc : IntKind} {L C : Int}
    (hop : op.op = Op.makeSlice t l c) (hl : a.eval l = .int kl L) (hc : a.eval c = .int kc C) (h1 : P.underlying t = some (.slice e)) (hi : (P.info? e).map (fun i => (i.zero, i.size, i.bytes)) = some (some z, 1, by')) (hz : z.cells = #[z])
    (hL : L = (n : Int)) (hC : C = (n : Int)) (b2 : by' * n ≤ 281474976710656) (b3 : n ≤ maxLen)
    (k : ∀ w', Blk w' w.heap.size (List.replicate n z) e → Below w.heap.size w w' → K (a.put op.dst (.slice (some ⟨w.heap.size, 0, none⟩) n n)) w') : op.wp P a w K Q := by
  obtain ⟨i0, hi0, hz0, hz1, hz2⟩ := info_parts hi
  obtain ⟨w', hrun, hown, hgrow⟩ := run_make_full (P := P) w w.heap.size t e i0 z 1 h1 hi0 hz0 hz1 kl kc n (by rw [hz2]; exact b2) b3 (Nat.le_refl _)
  subst hL
  subst hC
  have hb := (blk_of_own hown).1
  have e1 : (madeCells z.cells (n * 1)).toList = List.replicate n z := by
    rw [hz, Nat.mul_one, toList_madeCells_one]
  rw [e1] at hb
  unfold Oper.wp
  simp [execOp, hop, hl, hc, hrun, Result.andThen]
  exact k w' hb ((Below.refl w.heap.size w).grown hgrow (Nat.le_refl _) (fun k h => by cases h))
end Go.Cells
namespace Go.Proofs.YtnkaodjfjllkfaaGreatDoor
open Go.RowKit Go.Mem Go.Ops Go.Cells Go.Oct Go.Gf Go.Trn Go.Aes Go.Ring Go.Ezk Go.Ezh Go.Ezt Go.Aez Go.Blake Go.CutP Go.Fl
set_option linter.unusedSimpArgs false
set_option linter.unusedVariables false
set_option maxRecDepth 100000
attribute [local irreducible] walkR walkP walk0 walkB walkK

theorem Tryz.rowBound : Row Tryz.prog 122 3 := ⟨by kernel_rfl, by kernel_rfl⟩
theorem Tryz.zeroBound : (Tryz.prog.info? 122).map (·.zero) = some (some (.agg #[.nilFunc, .nilFunc, .nilFunc])) := by kernel_rfl
theorem Tryz.zeroStrs : (Tryz.prog.info? 119).map (·.zero) = some (some (.slice none 0 0)) := by kernel_rfl
theorem Tryz.sizeStrs : (Tryz.prog.info? 119).map (·.size) = some 1 := by kernel_rfl

def boundV (bc br bt : Nat) : List Value := [.func (.func 72) #[] #[.pointer (some ⟨bc, 0, none⟩), .pointer (some ⟨br, 0, none⟩)], .func (.func 74) #[] #[.pointer (some ⟨bc, 0, none⟩), .pointer (some ⟨br, 0, none⟩)], .func (.func 75) #[] #[.pointer (some ⟨bc, 0, none⟩), .pointer (some ⟨br, 0, none⟩), .pointer (some ⟨bt, 0, none⟩)]]
/-- A cipher with a context. -/
structure Bnd (w : World) (bc br cp kp q p : Nat) (k : Parts) (a : Addr) (ss : List Str) : Prop where
  c : Blk w bc [.pointer (some ⟨cp, 0, none⟩)] 73
  r : Blk w br [.slice (some a) 2 2] 119
  ciph : Ciph w cp kp q p k
  len : ss.length = 2
  strs : StrsIn w (some a) ss
  lens : ∀ s ∈ ss, s.bs.length ≤ 10000
theorem Bnd.later {w w' : World} {bc br cp kp q p : Nat} {k : Parts} {a : Addr} {ss : List Str} (h : Bnd w bc br cp kp q p k a ss) (hb : Below w.heap.size w w') : Bnd w' bc br cp kp q p k a ss :=
  ⟨h.c.below hb h.c.lt, h.r.below hb h.r.lt, h.ciph.later hb, h.len, h.strs.below hb, h.lens⟩

set_option maxHeartbeats 1000000 in
theorem bind_ok (cp kp q p : Nat) (k : Parts) (ao : Option Addr) (n cap : Nat) (bs : List UInt8) (w : World) (hc : Ciph w cp kp q p k) (hn : bs.length = n) (hb : n ≤ 1000) (hl : Lies w ao (bs.map B)) :
    Calls Tryz.prog 51 #[.pointer (some ⟨cp, 0, none⟩), .int .i64 16, .slice ao n cap, .slice none 0 0] w fun e w' => ∃ bc br bt a ss, e = .returned (.tuple #[.agg (boundV bc br bt).toArray, .int .i64 0]) ∧ Bnd w' bc br cp kp q p k a ss ∧ rowOf ss = stringsV 16 bs [] ∧ Below w.heap.size w w' := by
  have HC := Lib.hid hc
  have HN := Lib.hid hn
  have HL := Lib.hid hl
  have HS := Lib.hid (St.start w)
  clear hc hn hl
  go_enter Tryz.func51, Tryz.ntmps51
  go_wp2_with (refine wpList_box 73 _ ([.pointer (some ⟨cp, 0, none⟩)]) _ rfl rfl rfl rfl ?_)
  intro w1 hb hbel; have HS := Lib.hid (HS.out.push hb hbel); have hlt1 := hb.lt; clear hb hbel
  go_wp2_with (refine wpList_box 3 _ ([.int .i64 16]) _ rfl rfl rfl rfl ?_)
  intro w2 hb hbel; have HS := Lib.hid (HS.out.push hb hbel); have hlt2 := hb.lt; clear hb hbel
  go_wp2_with (refine wpList_var 122 ([.nilFunc, .nilFunc, .nilFunc]) _ rfl rfl Tryz.zeroBound rfl ?_)
  intro w3 hb hbel; have HS := Lib.hid (HS.out.push hb hbel); have hlt3 := hb.lt; clear hb hbel
  generalize hbb : w.heap.size = bb at *
  generalize w1.heap.size = bw1 at *
  generalize w2.heap.size = bw2 at *
  have HBB := Lib.hid hbb
  clear hbb
  have hc1 := (HS.out.get 2 rfl).cell 0 _ rfl
  have hc2 := (HS.out.get 1 rfl).cell 0 _ rfl
  go_wp2_with fail
  refine (strings_ok ao n cap bs _ HN.out hb (HL.out.below (HS.out.old HBB.out))).mono ?_
  rintro e w4 ⟨a, ss, rfl, hl2, hro, hss, hbel⟩
  have HS := Lib.hid (HS.out.later hbel)
  have HSS := Lib.hid hss
  have HRO := Lib.hid hro
  have HLE := Lib.hid (show ss.length = 2 ∧ True from ⟨hl2, trivial⟩)
  have HLS := Lib.hid (show ∀ s ∈ ss, s.bs.length ≤ 10000 from by
    intro s hs
    have : s.bs ∈ rowOf ss := List.mem_map.2 ⟨s, hs, rfl⟩
    rw [hro] at this
    simp [stringsV, zeros] at this
    rcases this with h | h
    · rw [h]; simp
    · rw [h, HN.out]; omega)
  clear hl2 hro hss hbel hc1 hc2
  have hz4 := HS.out.size
  have hz5 : bw2 < w4.heap.size := (HS.out.get 0 rfl).lt
  go_wp2_with (refine wpList_var 119 [.slice none 0 0] _ rfl rfl Tryz.zeroStrs rfl ?_)
  intro w5 hb hbel; have HS := Lib.hid (HS.out.push hb hbel); have HB5 := Lib.hid hbel; have hlt5 := hb.lt; clear hb hbel
  go_wp2_with (refine (HS.out.get 0 rfl).wset1 0 (.slice (some a) 2 2) rfl rfl rfl rfl Tryz.sizeStrs rfl rfl (by simp) ?_)
  intro w6 hb6 ho6
  have HSS := Lib.hid (HSS.out.below (below_only HB5.out ho6 (Nat.le_refl _)))
  have HS := Lib.hid (show St w bb w6 [(w4.heap.size, [.slice (some a) 2 2], 119), (bw2, [.nilFunc, .nilFunc, .nilFunc], 122), (bw1, [.int .i64 16], 3), (bb, [.pointer (some ⟨cp, 0, none⟩)], 73)] from HS.out.change 0 hb6 ho6 (by omega) (by simp; omega))
  clear hb6 ho6 HB5
  generalize w4.heap.size = bw4 at *
  have hc1 := (HS.out.get 3 rfl).cell 0 _ rfl
  go_wp2_with fail
  refine (alg_ok cp kp q p k _ (HC.out.later (HS.out.old HBB.out))).mono ?_
  rintro e w7 ⟨rfl, rfl⟩
  go_wp2_with (refine (HS.out.get 1 rfl).wstore rfl rfl rfl (cs := boundV bb bw4 bw1) rfl Tryz.rowBound rfl rfl (by simp [boundV, Value.oneCell']) ?_)
  intro w8 hb8 ho8
  have HB := Lib.hid (below_only HS.out.bel ho8 (by omega))
  have HSS := Lib.hid (HSS.out.only (HS.out.get 1 rfl) (by simp [Str.val]) (by simp) ho8)
  have HBN := Lib.hid (show Bnd w8 bb bw4 cp kp q p k a ss from ⟨(HS.out.get 3 rfl).only ho8 (by omega), (HS.out.get 0 rfl).only ho8 (by omega), HC.out.later (by rw [HBB.out]; exact HB.out), HLE.out.1, HSS.out, HLS.out⟩)
  go_wp2
  refine hb8.result2 rfl rfl rfl rfl Tryz.rowBound rfl ⟨bb, bw4, bw1, a, ss, rfl, HBN.out, HRO.out, by rw [HBB.out]; exact HB.out⟩

theorem bnd1_ok (bc br cp kp q p : Nat) (k : Parts) (a : Addr) (ss : List Str) (bo : Option Addr) (n cb : Nat) (m : List UInt8) (w : World) (hc : Bnd w bc br cp kp q p k a ss) (hn : m.length = n) (h1 : 1 ≤ n) (h31 : n ≤ 20000) (hcb : n ≤ cb) (hl : Lies w bo (m.map B)) :
    Calls Tryz.prog 72 #[.slice bo n cb, .pointer (some ⟨bc, 0, none⟩), .pointer (some ⟨br, 0, none⟩)] w fun e w' => ∃ v, e = .returned (.tuple #[v, .int .i64 0]) ∧ w'.ownsRow w.heap.size 5 1 v n ((rowA k (rowOf ss) m false).map B) ∧ Below w.heap.size w w' := by
  have HC := Lib.hid hc
  have HN := Lib.hid hn
  have HL := Lib.hid hl
  have hc0 := hc.c.cell 0 _ rfl
  have hc1 := hc.r.cell 0 _ rfl
  clear hc hn hl
  go_enter Tryz.func72, Tryz.ntmps72
  go_wp2_with fail
  refine (crow_ok cp kp q p k (some a) 2 2 ss bo n cb m false _ HC.out.ciph HC.out.len (by omega) HC.out.strs HC.out.lens HN.out h1 h31 hcb HL.out).mono ?_
  rintro e w1 ⟨v1, rfl, hown, hbel⟩
  have HO := Lib.hid hown
  have HB := Lib.hid hbel
  clear hown hbel
  go_wp2
  go_ret2
  exact ⟨_, rfl, HO.out, HB.out⟩

theorem bnd2_ok (bc br cp kp q p : Nat) (k : Parts) (a : Addr) (ss : List Str) (bo : Option Addr) (n cb : Nat) (m : List UInt8) (w : World) (hc : Bnd w bc br cp kp q p k a ss) (hn : m.length = n) (h1 : 1 ≤ n) (h31 : n ≤ 20000) (hcb : n ≤ cb) (hl : Lies w bo (m.map B)) :
    Calls Tryz.prog 74 #[.slice bo n cb, .pointer (some ⟨bc, 0, none⟩), .pointer (some ⟨br, 0, none⟩)] w fun e w' => ∃ v, e = .returned (.tuple #[v, .int .i64 0]) ∧ w'.ownsRow w.heap.size 5 1 v n ((rowA k (rowOf ss) m true).map B) ∧ Below w.heap.size w w' := by
  have HC := Lib.hid hc
  have HN := Lib.hid hn
  have HL := Lib.hid hl
  have hc0 := hc.c.cell 0 _ rfl
  have hc1 := hc.r.cell 0 _ rfl
  clear hc hn hl
  go_enter Tryz.func74, Tryz.ntmps74
  go_wp2_with fail
  refine (crow_ok cp kp q p k (some a) 2 2 ss bo n cb m true _ HC.out.ciph HC.out.len (by omega) HC.out.strs HC.out.lens HN.out h1 h31 hcb HL.out).mono ?_
  rintro e w1 ⟨v1, rfl, hown, hbel⟩
  have HO := Lib.hid hown
  have HB := Lib.hid hbel
  clear hown hbel
  go_wp2
  go_ret2
  exact ⟨_, rfl, HO.out, HB.out⟩

theorem boundV_one (bc br bt : Nat) : ∀ v ∈ boundV bc br bt, v.oneCell' = true := by simp [boundV, Value.oneCell']

set_option maxHeartbeats 1000000 in
theorem seal_ok (cp kp q p : Nat) (k : Parts) (ao : Option Addr) (n cap : Nat) (bs : List UInt8) (bo : Option Addr) (mn mc : Nat) (m : List UInt8) (w : World) (hc : Ciph w cp kp q p k) (hn : bs.length = n) (hb : n ≤ 1000) (hl : Lies w ao (bs.map B))
    (hm : m.length = mn) (h1 : 1 ≤ mn) (h31 : mn + 16 ≤ 20000) (hmc : mn ≤ mc) (hlm : Lies w bo (m.map B)) :
    Calls Tryz.prog 35 #[.pointer (some ⟨cp, 0, none⟩), .int .i64 16, .slice ao n cap, .slice none 0 0, .slice bo mn mc] w fun e w' => ∃ v, e = .returned (.tuple #[v, .int .i64 0]) ∧ w'.ownsRow w.heap.size 5 1 v (mn + 16) ((sealA k (stringsV 16 bs []) 16 m).map B) ∧ Below w.heap.size w w' := by
  have HC := Lib.hid hc
  have HN := Lib.hid hn
  have HL := Lib.hid hl
  have HM := Lib.hid hm
  have HLM := Lib.hid hlm
  have HSE := Lib.hid (show sealA k (stringsV 16 bs []) 16 m = rowA k (stringsV 16 bs []) (m ++ zeros 16) false ∧ True from ⟨by unfold sealA; rw [if_neg (by rintro rfl; simp at hm; omega)], trivial⟩)
  have HS := Lib.hid (St.start w)
  have d0 : ((mn : Int) == 0) = false := by simp; omega
  clear hc hn hl hm hlm
  go_enter Tryz.func35, Tryz.ntmps35
  generalize hbb : w.heap.size = bb at *
  have HBB := Lib.hid hbb
  clear hbb
  go_wp2_with fail
  refine (bind_ok cp kp q p k ao n cap bs _ HC.out HN.out hb HL.out).mono ?_
  rintro e w1 ⟨bc, br, bt, a, ss, rfl, hbnd, hro, hbel⟩
  have HBND := Lib.hid hbnd
  have HRO := Lib.hid (show rowOf ss = stringsV 16 bs [] ∧ True from ⟨hro, trivial⟩)
  have HS := Lib.hid (HS.out.later hbel)
  have hz1 := HS.out.size
  clear hbnd hro hbel
  go_wp2_with (refine wpList_var 122 [.nilFunc, .nilFunc, .nilFunc] _ rfl rfl Tryz.zeroBound rfl ?_)
  intro w2 hb hbel; have HS := Lib.hid (HS.out.push hb hbel); have HB2 := Lib.hid hbel; have hlt2 := hb.lt; clear hb hbel
  go_wp2_with (refine (HS.out.get 0 rfl).wstore rfl rfl rfl (cs := boundV bc br bt) rfl Tryz.rowBound rfl rfl (boundV_one _ _ _) ?_)
  intro w3 hb3 ho3
  have HBND := Lib.hid (HBND.out.later (below_only HB2.out ho3 (Nat.le_refl _)))
  have HS := Lib.hid (HS.out.change 0 hb3 ho3 (by omega) (by simp))
  clear hb3 ho3 HB2
  generalize w1.heap.size = bw1 at *
  have hcf := fun (y : After w3.drew) => ((HS.out.drew.later y.later).get 0 rfl).cell 0 _ rfl
  go_wp2_with fail
  refine wp_region_R [0, 1, 2, 3, 4, 5, 6, 7, 8, 9, 10, 11] (by kernel_rfl) (by kernel_rfl) ?_
  rintro w4 rfl
  (refine walkR_one rfl rfl (fun K hK => ?_); go_big_quiet_step (fail); refine wpQuiet_nil (hK _ ?_); clear hK K); (refine walkR_one rfl rfl (fun K hK => ?_); go_big_quiet_step (fail); refine wpQuiet_nil (hK _ ?_); clear hK K); (refine walkR_one rfl rfl (fun K hK => ?_); go_big_quiet_step (fail); refine wpQuiet_nil (hK _ ?_); clear hK K); (refine walkR_one rfl rfl (fun K hK => ?_); go_big_quiet_step (fail); refine wpQuiet_nil (hK _ ?_); clear hK K)
  clear hcf
  have HS := Lib.hid HS.out.drew
  have HBND := Lib.hid (HBND.out.later (Below.refl _ _).drew)
  have HLM := Lib.hid (HLM.out.below (HS.out.old HBB.out))
  refine walkR_call rfl rfl (by rfl) (fun K hK => ?_)
  refine opmake 22 5 (.int .u8 0) 1 16 rfl rfl rfl Tryz.underlying22 Tryz.infoByte rfl rfl rfl (by omega) (by unfold maxLen; omega) (fun w5 hb5 hbel5 => ?_)
  rw [repB] at hb5
  refine hK _ _ hbel5 ?_
  have HS := Lib.hid (HS.out.later hbel5)
  have HBND := Lib.hid (HBND.out.later hbel5)
  have HLM := Lib.hid (HLM.out.below hbel5)
  have HL5 := Lib.hid (show Lies w5 (some ⟨w3.heap.size, 0, none⟩) _ from hb5.lies)
  clear hK K hb5 hbel5
  go_simp
  generalize w3.heap.size = b5 at *
  refine walkR_call rfl rfl (by rfl) (fun K hK => ?_)
  go_simp
  refine hK _ _ (later_alloc _ _) ?_
  clear hK K
  have HST := Lib.hid (show StrsIn (w5.alloc (.cells #[.slice bo mn mc, .slice (some ⟨b5, 0, none⟩) 16 16] 22)) (some ⟨w5.heap.size, 0, none⟩) [⟨bo, mc, m⟩, ⟨some ⟨b5, 0, none⟩, 16, zeros 16⟩] from ⟨by
      have := (Blk.new w5 [.slice bo mn mc, .slice (some ⟨b5, 0, none⟩) 16 16] 22).lies
      simpa [Str.val, HM.out, zeros_length] using this, by
      intro s hs
      simp at hs
      rcases hs with rfl | rfl
      · exact ⟨by rw [HM.out]; exact hmc, HLM.out.below (later_alloc _ _)⟩
      · exact ⟨by simp [zeros_length], HL5.out.below (later_alloc _ _)⟩⟩)
  have HCAT := Lib.hid (show catS [⟨bo, mc, m⟩, ⟨some ⟨b5, 0, none⟩, 16, zeros 16⟩] = m ++ zeros 16 from by simp [catS])
  have HS := Lib.hid (HS.out.later (later_alloc w5 (.cells #[.slice bo mn mc, .slice (some ⟨b5, 0, none⟩) 16 16] 22)))
  have HBND := Lib.hid (HBND.out.later (later_alloc w5 (.cells #[.slice bo mn mc, .slice (some ⟨b5, 0, none⟩) 16 16] 22)))
  obtain ⟨w6, hw6⟩ : ∃ w6, w6 = w5.alloc (.cells #[.slice bo mn mc, .slice (some ⟨b5, 0, none⟩) 16 16] 22) := ⟨_, rfl⟩
  rw [← hw6] at HST HS HBND
  rw [← hw6]
  clear hw6 HL5 HLM
  refine walkR_call rfl rfl (by rfl) (fun K hK => ?_)
  go_simp
  refine (concat_ok _ 2 2 _ _ rfl (by omega) HST.out (by rw [HCAT.out, List.length_append, HM.out, zeros_length]; omega)).mono ?_
  rintro e w7 ⟨v7, rfl, hown7, hbel7⟩
  rw [HCAT.out] at hown7
  have hlen7 : (m ++ zeros 16).length = mn + 16 := by rw [List.length_append, HM.out, zeros_length]
  rw [hlen7] at hown7
  obtain ⟨ao7, cap7, rfl, hc7, _, hl7⟩ := own_form hown7
  have HL7 := Lib.hid hl7
  have HLE7 := Lib.hid hlen7
  have HS := Lib.hid (HS.out.later hbel7)
  have HBND := Lib.hid (HBND.out.later hbel7)
  clear hown7 hl7 hlen7
  simp only [id]
  go_simp
  refine hK _ _ hbel7 ?_
  clear hK K hbel7
  refine walkR_call rfl rfl (by rfl) (fun K hK => ?_)
  go_simp
  refine (bnd1_ok bc br cp kp q p k a ss ao7 (mn + 16) cap7 (m ++ zeros 16) _ HBND.out HLE7.out (by omega) h31 hc7 HL7.out).mono ?_
  rintro e w8 ⟨v8, rfl, hown8, hbel8⟩
  rw [HRO.out.1, ← HSE.out.1] at hown8
  have hz7 := HS.out.size
  have HO := Lib.hid (own_le hown8 hz7)
  have HS := Lib.hid (HS.out.later hbel8)
  clear hown8
  go_simp
  refine hK _ _ hbel8 ?_
  clear hK K hbel8
  repeat (refine walkR_one rfl rfl (fun K hK => ?_); go_big_quiet_step (fail); refine wpQuiet_nil (hK _ ?_); clear hK K)
  refine walkR_nil ?_
  go_wp2
  go_ret2
  exact ⟨_, rfl, by first | exact HO.out | (rw [HBB.out]; exact HO.out), by first | exact HS.out.bel | exact HS.out.old HBB.out⟩

abbrev OpenFrame (us : Nat → Value) : Act := { tmps := #[us 0, us 1, us 2, us 3, us 4, us 5, us 6, us 7, us 8, us 9, us 10, us 11, us 12, us 13, us 14, us 15, us 16, us 17, us 18, us 19, us 20, us 21, us 22, us 23, us 24, us 25, us 26, us 27, us 28, us 29, us 30, us 31, us 32, us 33, us 34, us 35, us 36, us 37, us 38, us 39, us 40, us 41, us 42, us 43, us 44, us 45, us 46, us 47, us 48, us 49, us 50, us 51, us 52, us 53, us 54, us 55, us 56, us 57, us 58, us 59, us 60, us 61, us 62, us 63, us 64, us 65, us 66, us 67], defers := [] }
/-- The state at the label. -/
def OpenAt (N : Prop) (w : World) (x : Act) (wr : World) : Prop := ∃ us : Nat → Value, x = OpenFrame us ∧ Hid N ∧ Hid (Below w.heap.size w wr)
theorem OpenAt.intro {N : Prop} {w : World} {x : Act} {wr : World} (hx : x = OpenFrame (fun i => x.tmps.getD i undef)) (h1 : N) (h2 : Below w.heap.size w wr) : OpenAt N w x wr := ⟨_, hx, h1, h2⟩
/-- What a text opens to, as a result. -/
def Opened (w' : World) (o : Option (List UInt8)) (e : Ending) : Prop := match o with
  | some m => ∃ ao, e = .returned (.tuple #[.slice ao m.length m.length, .int .i64 0]) ∧ Lies w' ao (m.map B)
  | none => e = .returned (.tuple #[.slice none 0 0, .int .i64 9])

set_option maxHeartbeats 1000000 in
theorem open_ok (cp kp q p : Nat) (k : Parts) (ao : Option Addr) (n cap : Nat) (bs : List UInt8) (bo : Option Addr) (bn bcap : Nat) (b : List UInt8) (w : World) (hc : Ciph w cp kp q p k) (hn : bs.length = n) (hnb : n ≤ 1000) (hl : Lies w ao (bs.map B))
    (hb : b.length = bn) (h1 : 17 ≤ bn) (h31 : bn ≤ 20000) (hbc : bn ≤ bcap) (hlb : Lies w bo (b.map B)) :
    Calls Tryz.prog 38 #[.pointer (some ⟨cp, 0, none⟩), .int .i64 16, .slice ao n cap, .slice none 0 0, .slice bo bn bcap] w fun e w' => Opened w' (openA k (stringsV 16 bs []) 16 b) e ∧ Below w.heap.size w w' := by
  obtain ⟨m, hm⟩ : ∃ m, m = bn - 16 := ⟨_, rfl⟩
  obtain ⟨r, hr⟩ : ∃ r, r = rowA k (stringsV 16 bs []) b true := ⟨_, rfl⟩
  have HR := Lib.hid (show rowA k (stringsV 16 bs []) b true = r ∧ True from ⟨hr.symm, trivial⟩)
  have HRL := Lib.hid (show r.length = bn from by rw [hr, rowA_length]; exact hb)
  have HOP := Lib.hid (show openA k (stringsV 16 bs []) 16 b = (if r.drop m = zeros 16 then some (r.take m) else none) ∧ True from ⟨by
    unfold openA
    rw [hb, if_neg (by omega), if_neg (by omega), ← hr, ← hm], trivial⟩)
  have HC := Lib.hid hc
  have HN := Lib.hid hn
  have HL := Lib.hid hl
  have HB := Lib.hid hb
  have HLB := Lib.hid hlb
  have HS := Lib.hid (St.start w)
  have e0 : (bn : Int) - 16 = (m : Int) := by omega
  have d0 : decide ((m : Int) < 0) = false := by simp
  have d1 : ((m : Int) == 0) = false := by simp; omega
  have hmb : m ≤ bn := by omega
  have HDL := Lib.hid (show (r.drop m).length = bn - m by rw [List.length_drop, HRL.out])
  have HM16 := Lib.hid (show bn - m = 16 ∧ True from ⟨by omega, trivial⟩)
  clear hr hc hn hl hb hlb hm
  rw [HOP.out.1]
  go_enter Tryz.func38, Tryz.ntmps38
  generalize hbb : w.heap.size = bb at *
  have HBB := Lib.hid hbb
  clear hbb
  go_wp2_with fail
  refine wp_scope_label 0 (OpenAt (¬ r.drop m = zeros 16) w) (fun _ _ => 0) rfl ?_ ?_
  · simp only [wpPre]
    go_wp2_with fail
    refine (bind_ok cp kp q p k ao n cap bs _ HC.out HN.out hnb HL.out).mono ?_
    rintro e w1 ⟨bc, br, bt, a, ss, rfl, hbnd, hro, hbel⟩
    have HBND := Lib.hid hbnd
    have HRO := Lib.hid (show rowOf ss = stringsV 16 bs [] ∧ True from ⟨hro, trivial⟩)
    have HS := Lib.hid (HS.out.later hbel)
    have hz1 := HS.out.size
    clear hbnd hro hbel
    go_wp2_with (refine wpList_var 122 [.nilFunc, .nilFunc, .nilFunc] _ rfl rfl Tryz.zeroBound rfl ?_)
    intro w2 hb hbel; have HS := Lib.hid (HS.out.push hb hbel); have HB2 := Lib.hid hbel; have hlt2 := hb.lt; clear hb hbel
    go_wp2_with (refine (HS.out.get 0 rfl).wstore rfl rfl rfl (cs := boundV bc br bt) rfl Tryz.rowBound rfl rfl (boundV_one _ _ _) ?_)
    intro w3 hb3 ho3
    have HBND := Lib.hid (HBND.out.later (below_only HB2.out ho3 (Nat.le_refl _)))
    have HS := Lib.hid (HS.out.change 0 hb3 ho3 (by omega) (by simp))
    clear hb3 ho3 HB2
    generalize w1.heap.size = bw1 at *
    have hcf := (HS.out.get 0 rfl).cell 1 _ rfl
    go_wp2_with fail
    refine (bnd2_ok bc br cp kp q p k a ss bo bn bcap b _ HBND.out HB.out (by omega) h31 hbc (HLB.out.below (HS.out.old HBB.out))).mono ?_
    rintro e w4 ⟨v4, rfl, hown4, hbel4⟩
    rw [HRO.out.1, HR.out.1] at hown4
    obtain ⟨ao4, cap4, rfl, hcap4, _, hl4⟩ := own_form hown4
    have HL4 := Lib.hid hl4
    have HS := Lib.hid (HS.out.later hbel4)
    have hs := fun w => run_cut_low (P := Tryz.prog) w 22 5 1 Tryz.underlying22 Tryz.sizeByte ao4 bn cap4 m (m : Int) rfl hmb
    have hs3 := fun w => run_cut_top (P := Tryz.prog) w 22 5 1 Tryz.underlying22 Tryz.sizeByte ao4 bn cap4 m (by omega)
    clear hown4 hl4 hbel4 hcf
    go_wp2_with fail
    refine wp_region_R [0, 1, 2, 3, 4, 5, 6, 7, 8, 9, 10] (by kernel_rfl) (by kernel_rfl) ?_
    rintro w5 rfl
    (refine walkR_one rfl rfl (fun K hK => ?_); go_big_quiet_step (fail); refine wpQuiet_nil (hK _ ?_); clear hK K); (refine walkR_one rfl rfl (fun K hK => ?_); go_big_quiet_step (fail); refine wpQuiet_nil (hK _ ?_); clear hK K); (refine walkR_one rfl rfl (fun K hK => ?_); go_big_quiet_step (fail); refine wpQuiet_nil (hK _ ?_); clear hK K); (refine walkR_one rfl rfl (fun K hK => ?_); go_big_quiet_step (fail); refine wpQuiet_nil (hK _ ?_); clear hK K); (refine walkR_one rfl rfl (fun K hK => ?_); go_big_quiet_step (fail); refine wpQuiet_nil (hK _ ?_); clear hK K); (refine walkR_one rfl rfl (fun K hK => ?_); go_big_quiet_step (fail); refine wpQuiet_nil (hK _ ?_); clear hK K); (refine walkR_one rfl rfl (fun K hK => ?_); go_big_quiet_step (fail); refine wpQuiet_nil (hK _ ?_); clear hK K)
    have HS := Lib.hid HS.out.drew
    have HL4 := Lib.hid (HL4.out.below (Below.refl _ _).drew)
    refine walkR_call rfl rfl (by rfl) (fun K hK => ?_)
    refine opmake 22 5 (.int .u8 0) 1 16 rfl rfl rfl Tryz.underlying22 Tryz.infoByte rfl rfl rfl (by omega) (by unfold maxLen; omega) (fun w6 hb6 hbel6 => ?_)
    rw [repB] at hb6
    refine hK _ _ hbel6 ?_
    have HS := Lib.hid (HS.out.later hbel6)
    have HL4 := Lib.hid (HL4.out.below hbel6)
    have HL6 := Lib.hid hb6.lies
    clear hK K hb6 hbel6
    go_simp
    refine walkR_call rfl rfl (by rfl) (fun K hK => ?_)
    go_simp
    refine (same_ok (cutAddr ao4 cap4 m) _ (bn - m) 16 (cap4 - m) 16 (r.drop m) (zeros 16) _ HDL.out (zeros_length 16) (by omega) (Lies.dropA HL4.out (by rw [HRL.out]; exact hcap4) m) HL6.out).mono ?_
    rintro e w7 ⟨rfl, hbel7⟩
    have HS := Lib.hid (HS.out.later hbel7)
    have HL4 := Lib.hid (HL4.out.below hbel7)
    by_cases hz : r.drop m = zeros 16
    · have HZ := Lib.hid (show (r.drop m = zeros 16) ∧ True from ⟨hz, trivial⟩)
      rw [decide_eq_true hz]
      clear hz
      go_simp
      refine hK _ _ hbel7 ?_
      clear hK K hbel7
      repeat (refine walkR_one rfl rfl (fun K hK => ?_); go_big_quiet_step (fail); refine wpQuiet_nil (hK _ ?_); clear hK K)
      refine walkR_nil ?_
      go_wp2
      rw [Exit.jump_ret]
      go_ret2
      rw [if_pos HZ.out.1]
      have hlm : (r.take m).length = m := by rw [List.length_take, HRL.out]; omega
      refine ⟨⟨ao4, by rw [hlm]; rfl, ?_⟩, by first | exact HS.out.bel | exact HS.out.old HBB.out⟩
      have := HL4.out.take m
      rwa [← List.map_take] at this
    · have HZ := Lib.hid hz
      rw [decide_eq_false hz]
      clear hz
      go_simp
      refine hK _ _ hbel7 ?_
      clear hK K hbel7
      repeat (refine walkR_one rfl rfl (fun K hK => ?_); go_big_quiet_step (fail); refine wpQuiet_nil (hK _ ?_); clear hK K)
      refine walkR_nil ?_
      go_wp2
      refine wp_goto ⟨rfl, OpenAt.intro rfl HZ.out (HS.out.old HBB.out)⟩
  · rintro x wr ⟨us, rfl, HZ, HB⟩
    clear HS
    go_wp2
    rw [Exit.jump_ret]
    go_ret2
    rw [if_neg HZ.out]
    exact ⟨rfl, by first | exact HB.out | (rw [← HBB.out]; exact HB.out)⟩

end Go.Proofs.YtnkaodjfjllkfaaGreatDoor
/-
  The walks of slots.New and slots.Read.
-/
set_option linter.unusedSimpArgs false
set_option linter.unusedVariables false
namespace Go.Mem
open Go.RowKit Go.Cells Go.Ops
theorem run_cut_high {P : Program} (w : World) (t e : TypeId) (size : Nat) (ht : P.underlying t = some (.slice e)) (hs : (P.info? e).map (·.size) = some size) (ao : Option Addr) (len cap n : Nat) (h : n ≤ cap) :
    (Instr.slice t (.slice ao len cap) none (some (.int .i64 (n : Int))) none).run P w = .ok (.slice ao n cap) w := by
  cases hq : P.info? e with
  | none => rw [hq] at hs; cases hs
  | some x =>
    have hx : x.size = size := by rw [hq] at hs; simpa using hs
    cases ao with
    | none => simp [Instr.slice, Instr.sliceBounds, Instr.sliceBound, run_underlying ht, sizeOf, typeInfo, hq, hx, asIntOf, h]
    | some a => cases a; simp [Instr.slice, Instr.sliceBounds, Instr.sliceBound, run_underlying ht, sizeOf, typeInfo, hq, hx, asIntOf, h, Addr.add]
theorem wpList_built {P : Program} {w : World} {ops : Array Oper} {rest : List Oper} {o : Oper} {a : Act} {Q : Exit → Act → World → Prop} (t : TypeId) (parts : Array (Nat × Operand)) (vs : List (Nat × Value)) (cells : Array Value)
    (hg : o.guard = none) (hop : o.op = .build t parts) (hp' : (parts.toList.map fun p => (p.1, a.eval p.2)) = vs) (hb : P.built t vs = some cells)
    (k : wpList P ops Q rest (a.put o.dst (.agg cells)) w) : wpList P ops Q (o :: rest) a w := by
  have hp : (parts.map fun (i, x) => (i, a.eval x)) = vs.toArray := by
    apply Array.toList_inj.1
    rw [Array.toList_map]
    exact hp'
  refine wpList_plain hg fun K hK => ?_
  have hrun := run_build (P := P) w t vs.toArray cells (by simpa using hb)
  unfold Oper.wp
  simp only [execOp, hop, hp, Sem.run_bind, hrun, Result.andThen_ok, Sem.run_pure]
  exact hK _ _ k
theorem _root_.Go.Cells.Blk.ne {w : World} {b c : Nat} {vs us : List Value} {t t' : TypeId} (h : Blk w b vs t) (k : Blk w c us t') (hne : t ≠ t') : b ≠ c := by
  rintro rfl
  unfold Blk at h k
  rw [h] at k
  cases k
  exact hne rfl
/-- An empty slot. -/
def nilS : Str := ⟨none, 0, []⟩
theorem nilS_in (w : World) : nilS.In w := ⟨Nat.le_refl _, Lies.nil _ _⟩
theorem val_ne_B (s : Str) (x : UInt8) : B x ≠ s.val := by simp [Str.val]
end Go.Mem
namespace Go.Proofs.YtnkaodjfjllkfaaGreatDoor
open Go.RowKit Go.Mem Go.Ops Go.Cells Go.Oct Go.Gf Go.Trn Go.Aes Go.Ring Go.Ezk Go.Ezh Go.Ezt Go.Aez Go.Blake Go.CutP Go.Fl Go.Slot
set_option linter.unusedSimpArgs false
set_option linter.unusedVariables false
set_option maxRecDepth 100000
attribute [local irreducible] walkR walkP walk0 walkB walkK

/-- A header's cells. -/
def headV (q : Nat) (ss : List Str) : List Value := .pointer (some ⟨q, 0, none⟩) :: ss.map Str.val
/-- A header in memory. -/
structure Head (w : World) (hp q p : Nat) (ss : List Str) : Prop where
  tab : Tab w q p
  blk : Blk w hp (headV q ss) 68
  len : ss.length = 8
  each : ∀ s ∈ ss, s.In w
  nil : ∀ s ∈ ss, s.bs.length = 0 → s.a = none
theorem Head.later {w w' : World} {hp q p : Nat} {ss : List Str} (h : Head w hp q p ss) (hb : Below w.heap.size w w') : Head w' hp q p ss :=
  ⟨h.tab.below hb (Nat.le_refl _), h.blk.below hb h.blk.lt, h.len, fun s hs => (h.each s hs).below hb, h.nil⟩
theorem Head.drew {w : World} {hp q p : Nat} {ss : List Str} (h : Head w hp q p ss) : Head w.drew hp q p ss := h.later (Below.refl _ _).drew
theorem Head.cellq {w : World} {hp q p : Nat} {ss : List Str} (h : Head w hp q p ss) : w.cell? ⟨hp, 0, none⟩ = some (.pointer (some ⟨q, 0, none⟩)) := h.blk.cell 0 _ rfl
theorem Head.cells {w : World} {hp q p : Nat} {ss : List Str} (h : Head w hp q p ss) (i : Nat) (s : Str) (hs : ss[i]? = some s) : w.cell? ⟨hp, 1 + i, none⟩ = some s.val := h.blk.cell (1 + i) _ (by rw [Nat.add_comm]; simp [headV, hs])
theorem Head.range {w : World} {hp q p : Nat} {ss : List Str} (h : Head w hp q p ss) : w.rangeAt hp 1 (ss.map Str.val) := Blk.rangeIn h.blk 1 8 _ (by simp [headV, List.take_of_length_le, h.len])
/-- A slot, written. -/
theorem Head.set {w w' : World} {hp q p : Nat} {ss : List Str} (h : Head w hp q p ss) (i : Nat) (s : Str) (hs : s.In w) (hn : s.bs.length = 0 → s.a = none) (hb : Blk w' hp ((headV q ss).set (1 + i) s.val) 68) (ho : Only hp w w') : Head w' hp q p (ss.set i s) := by
  have hB : ∀ x : UInt8, B x ∉ headV q ss := by
    intro x hx
    simp [headV] at hx
    obtain ⟨t, _, ht⟩ := hx
    exact val_ne_B t x ht.symm
  refine ⟨h.tab.only ho (h.tab.boxes.ne h.blk (by decide)) (h.tab.tab.ne h.blk (by decide)), ?_, by rw [List.length_set]; exact h.len, ?_, ?_⟩
  · have : (headV q ss).set (1 + i) s.val = headV q (ss.set i s) := by rw [Nat.add_comm]; simp [headV, List.map_set]
    rw [← this]; exact hb
  · intro t ht
    rcases List.mem_or_eq_of_mem_set ht with ht | rfl
    · exact (h.each t ht).only h.blk hB ho
    · exact hs.only h.blk hB ho
  · intro t ht h0
    rcases List.mem_or_eq_of_mem_set ht with ht | rfl
    · exact h.nil t ht h0
    · exact hn h0

theorem built_head (q : Nat) : Tryz.prog.built 68 [(0, .pointer (some ⟨q, 0, none⟩))] = some (headV q (List.replicate 8 nilS)).toArray := by kernel_rfl

theorem hnew_ok' (q p : Nat) (w : World) (ht : Tab w q p) : Calls Tryz.prog 11 #[.pointer (some ⟨q, 0, none⟩)] w fun e w' => ∃ hp, e = .returned (.pointer (some ⟨hp, 0, none⟩)) ∧ Head w' hp q p (List.replicate 8 nilS) ∧ w.heap.size ≤ hp ∧ Below w.heap.size w w' := by
  have HT := Lib.hid ht
  have hbt := built_head q
  clear ht
  go_enter Tryz.func11, Tryz.ntmps11
  go_wp2_with (first | (refine wpList_built 68 _ _ _ rfl rfl rfl hbt ?_) | (refine wpList_box 68 _ (headV q (List.replicate 8 nilS)) _ rfl rfl rfl rfl ?_))
  intro w1 hb hbel
  have HH := Lib.hid (show Head w1 w.heap.size q p (List.replicate 8 nilS) from ⟨HT.out.below hbel (Nat.le_refl _), hb, rfl, by
    intro s hs
    obtain rfl := List.eq_of_mem_replicate hs
    exact nilS_in _, by
    intro s hs _
    obtain rfl := List.eq_of_mem_replicate hs
    rfl⟩)
  have HB := Lib.hid hbel
  clear hb hbel hbt
  go_wp2
  go_ret
  exact ⟨_, rfl, HH.out, Nat.le_refl _, HB.out⟩
theorem hnew_nil (w : World) : Calls Tryz.prog 11 #[.pointer none] w fun e w' => e = .returned (.pointer none) ∧ w = w' := by
  go_enter Tryz.func11, Tryz.ntmps11
  go_wp2
  go_ret
  exact ⟨rfl, rfl⟩

theorem read_nil (ao : Option Addr) (n cap : Nat) (w : World) : Calls Tryz.prog 29 #[.pointer none, .slice ao n cap] w fun e w' => e = .returned (.tuple #[.pointer none, .int .i64 1]) ∧ w = w' := by
  go_enter Tryz.func29, Tryz.ntmps29
  go_wp2_with fail
  refine (hnew_nil _).mono ?_
  rintro e w1 ⟨rfl, rfl⟩
  go_wp2
  go_ret2
  exact ⟨rfl, rfl⟩

/-- What is read of bytes, as a result. -/
def ReadR (w' : World) (q p : Nat) (o : Option Hdr) (e : Ending) : Prop := match o with
  | some s => ∃ hp ss, e = .returned (.tuple #[.pointer (some ⟨hp, 0, none⟩), .int .i64 0]) ∧ Head w' hp q p ss ∧ rowOf ss = s
  | none => e = .returned (.tuple #[.pointer none, .int .i64 23])

/-- What is laid so far. -/
structure Got (wr : World) (hp q p i : Nat) (b r : List UInt8) (done : List Str) : Prop where
  len : done.length = i
  go : readGo (8 - i) (rowOf done) r = readH b
  head : Head wr hp q p (done ++ List.replicate (8 - i) nilS)

set_option maxHeartbeats 2000000 in
theorem read_ok (q p : Nat) (ao : Option Addr) (n cap : Nat) (b : List UInt8) (w : World) (ht : Tab w q p) (hb : b.length = n) (hc : n ≤ cap) (hn : n ≤ 700) (hl : Lies w ao (b.map B)) :
    Calls Tryz.prog 29 #[.pointer (some ⟨q, 0, none⟩), .slice ao n cap] w fun e w' => ReadR w' q p (readH b) e ∧ Below w.heap.size w w' := by
  have HT := Lib.hid ht
  have HN := Lib.hid hb
  have HL := Lib.hid hl
  clear ht hb hl
  go_enter Tryz.func29, Tryz.ntmps29
  go_wp2_with fail
  refine (hnew_ok' q p _ HT.out).mono ?_
  rintro e w1 ⟨hp, rfl, hh, hle, hbel⟩
  have HG := Lib.hid (show Got w1 hp q p 0 b b [] from ⟨rfl, rfl, hh⟩)
  have HB := Lib.hid hbel
  clear hh hbel
  go_wp2
  go_loopw [1, 13] (fun v c wr => ∃ (i : Nat) (a : Option Addr) (len cp : Nat) (r : List UInt8) (done : List Str), i ≤ 8 ∧ c = .int .i64 i ∧ v = .slice a len cp ∧ len ≤ cp ∧ len ≤ 700 ∧ Hid (r.length = len) ∧ Hid (Lies w a (r.map B)) ∧ Hid (Got wr hp q p i b r done) ∧ Hid (Below w.heap.size w wr)) (fun _ c _ => 8 - (intOf c).toNat)
  case atStart => exact ⟨0, ao, n, cap, b, [], by omega, rfl, rfl, hc, hn, HN, HL, HG, HB⟩
  case round =>
    clear HG HB HL HN
    obtain ⟨i, a, len, cp, r, done, hi, rfl, rfl, hlc, hl7, HN, HL, HG, HB⟩ := hrel
    by_cases hlt : i < 8
    · obtain ⟨k, hk⟩ : ∃ k, 8 - i = k + 1 := ⟨7 - i, by omega⟩
      cases r with
      | nil =>
        obtain rfl : len = 0 := by have := HN.out; simpa using this.symm
        have HR := Lib.hid (show none = readH b ∧ True from ⟨by rw [← HG.out.go, hk]; rfl, trivial⟩)
        clear hk
        go_wp2
        go_ret2
        rw [← HR.out.1]
        exact ⟨rfl, HB.out⟩
      | cons x r' =>
        obtain ⟨ln, rfl⟩ : ∃ ln, len = ln + 1 := ⟨r'.length, by have := HN.out; simpa using this.symm⟩
        have HN' := Lib.hid (show r'.length = ln from by have := HN.out; simpa using this)
        have HGO := Lib.hid (show readGo (k + 1) (rowOf done) (x :: r') = readH b ∧ True from ⟨by rw [← hk]; exact HG.out.go, trivial⟩)
        obtain ⟨xb, xo, rfl, hxc⟩ := (HL.out.below HB.out) 0 (B x) rfl
        have hxc : wr.cell? ⟨xb, xo, none⟩ = some (B x) := by simpa using hxc
        have d0 : (((ln + 1 : Nat) : Int) == 0) = false := by simp; omega
        have hs1 := fun w => run_cut_low (P := Tryz.prog) w 22 5 1 Tryz.underlying22 Tryz.sizeByte (some ⟨xb, xo, none⟩) (ln + 1) cp 1 (1 : Int) rfl (by omega)
        have HL1 := Lib.hid (show Lies w (cutAddr (some ⟨xb, xo, none⟩) cp 1) (r'.map B) from by
          have := Lies.dropA HL.out (by rw [HN.out]; exact hlc) 1
          simpa using this)
        obtain ⟨a1, ha1⟩ : ∃ a1, a1 = cutAddr (some ⟨xb, xo, none⟩) cp 1 := ⟨_, rfl⟩
        rw [← ha1] at hs1 HL1
        obtain ⟨c1, hc1⟩ : ∃ c1, c1 = cp - 1 := ⟨_, rfl⟩
        rw [← hc1, Nat.add_sub_cancel] at hs1
        obtain ⟨m, hm⟩ : ∃ m, m = x.toNat := ⟨_, rfl⟩
        have hm8 : m < 256 := by rw [hm]; exact x.toNat_lt
        have HM := Lib.hid (show x.toNat = m ∧ True from ⟨hm.symm, trivial⟩)
        have hmi : ((x.toNat : Nat) : Int) = (m : Int) := by rw [hm]
        have hlc1 : ln ≤ c1 := by omega
        have hk7 : k = 7 - i := by omega
        clear ha1 hc1 hm hk
        by_cases h0 : m = 0
        · subst h0
          have d1 : (((0 : Nat) : Int) == 0) = true := rfl
          have HG := Lib.hid (show Got wr hp q p (i + 1) b r' (done ++ [nilS]) from ⟨by rw [List.length_append, HG.out.len]; rfl, by
            rw [← HGO.out.1, readGo, if_pos HM.out.1, show 8 - (i + 1) = k by omega]
            simp [rowOf, nilS], by
            have := HG.out.head
            rw [show 8 - i = (8 - (i + 1)) + 1 by omega, List.replicate_succ] at this
            rwa [List.append_assoc]⟩)
          clear HGO
          go_wp2
          go_roundw
          case rel => exact ⟨i + 1, a1, ln, c1, r', _, by omega, by go_num, rfl, hlc1, by omega, HN', HL1, HG, HB⟩
          case measure => simp [intOf]; omega
        · have d1 : ((m : Int) == 0) = false := by simp; omega
          by_cases hbad : m < 17 ∨ 80 < m ∨ ln < m
          · have HR := Lib.hid (show none = readH b ∧ True from ⟨by rw [← HGO.out.1, readGo, if_neg (by rw [HM.out.1]; exact h0), if_pos (by rw [HM.out.1, HN'.out]; exact hbad)], trivial⟩)
            clear HGO
            by_cases hA : m < 17
            · have dA : decide ((m : Int) ≤ 16) = true := by simp; omega
              go_wp2
              go_ret2
              rw [← HR.out.1]
              exact ⟨rfl, HB.out⟩
            · have dA : decide ((m : Int) ≤ 16) = false := by simp; omega
              by_cases hB : 80 < m
              · have dB : decide ((m : Int) > 80) = true := by simp; omega
                go_wp2
                go_ret2
                rw [← HR.out.1]
                exact ⟨rfl, HB.out⟩
              · have dB : decide ((m : Int) > 80) = false := by simp; omega
                have dC : decide ((m : Int) > (ln : Int)) = true := by simp; omega
                go_wp2
                go_ret2
                rw [← HR.out.1]
                exact ⟨rfl, HB.out⟩
          · have dA : decide ((m : Int) ≤ 16) = false := by simp; omega
            have dB : decide ((m : Int) > 80) = false := by simp; omega
            have dC : decide ((m : Int) > (ln : Int)) = false := by simp; omega
            have hml : m ≤ ln := by omega
            have HGO := Lib.hid (show readGo k (rowOf done ++ [r'.take m]) (r'.drop m) = readH b ∧ True from ⟨by rw [← HGO.out.1, readGo, if_neg (by rw [HM.out.1]; exact h0), if_neg (by rw [HM.out.1, HN'.out]; exact hbad), HM.out.1], trivial⟩)
            have HTL := Lib.hid (show (r'.take m).length = m by rw [List.length_take, HN'.out]; omega)
            have HDL := Lib.hid (show (r'.drop m).length = ln - m by rw [List.length_drop, HN'.out])
            have HLT := Lib.hid (show Lies w a1 ((r'.take m).map B) by have := HL1.out.take m; rwa [← List.map_take] at this)
            have HLD := Lib.hid (show Lies w (cutAddr a1 c1 m) ((r'.drop m).map B) from Lies.dropA HL1.out (by rw [HN'.out]; exact hlc1) m)
            have hs2 := fun w => run_cut_high (P := Tryz.prog) w 22 5 1 Tryz.underlying22 Tryz.sizeByte a1 ln c1 m (by omega)
            have hs3 := fun w => run_cut_low (P := Tryz.prog) w 22 5 1 Tryz.underlying22 Tryz.sizeByte a1 ln c1 m (m : Int) rfl hml
            go_wp2_with fail
            refine wp_region_R [0, 1, 2, 3, 4, 6, 7, 5, 8, 9] (by kernel_rfl) (by kernel_rfl) ?_
            rintro w2 rfl
            repeat (refine walkR_one rfl rfl (fun K hK => ?_); go_big_quiet_step (fail); refine wpQuiet_nil (hK _ ?_); clear hK K)
            refine walkR_call rfl rfl (by rfl) (fun K hK => ?_)
            go_simp
            refine (clone_any a1 m c1 ((r'.take m).map B) _ (by rw [List.length_map]; exact HTL.out) (by omega) (HLT.out.below HB.out.drew) (oneCell_B _)).mono ?_
            rintro e w3 ⟨v3, rfl, hown3, hbel3⟩
            obtain ⟨a3, c3, rfl, hc3, _, hl3⟩ := own_form hown3
            have HHD := Lib.hid (HG.out.head.drew.later hbel3)
            have HSI := Lib.hid (show Str.In w3 ⟨a3, c3, r'.take m⟩ from ⟨by rw [HTL.out]; exact hc3, hl3⟩)
            have HB := Lib.hid (HB.out.drew.trans (hbel3.mono HB.out.size))
            clear hown3 hl3
            simp only [id]
            go_simp
            refine hK _ _ hbel3 ?_
            clear hK K hbel3
            repeat (refine walkR_one rfl rfl (fun K hK => ?_); go_big_quiet_step (fail); refine wpQuiet_nil (hK _ ?_); clear hK K)
            refine walkR_free rfl rfl (by rfl) (fun K hK => ?_)
            refine HHD.out.blk.opset (i := 1 + i) (v := .slice a3 m c3) rfl rfl rfl Tryz.size22 rfl rfl (by simp [headV, HG.out.len]; omega) (fun w4 hb4 ho4 => hK _ _ ?_)
            clear hK K
            have HG := Lib.hid (show Got w4 hp q p (i + 1) b (r'.drop m) (done ++ [⟨a3, c3, r'.take m⟩]) from ⟨by rw [List.length_append, HG.out.len]; rfl, by
              rw [← HGO.out.1, show 8 - (i + 1) = k by omega]
              simp [rowOf], by
              have := HHD.out.set i ⟨a3, c3, r'.take m⟩ HSI.out (by intro h; exfalso; rw [HTL.out] at h; exact h0 h) (by rw [show Str.val ⟨a3, c3, r'.take m⟩ = .slice a3 m c3 by simp [Str.val, HTL.out]]; exact hb4) ho4
              rw [show 8 - i = (8 - (i + 1)) + 1 by omega, List.replicate_succ, List.set_append_right _ _ (by rw [HG.out.len]; exact Nat.le_refl _), HG.out.len, Nat.sub_self, List.set_cons_zero] at this
              rwa [List.append_assoc]⟩)
            have HB := Lib.hid (below_only HB.out ho4 hle)
            clear hb4 ho4 HHD
            go_simp
            refine walkR_nil ?_
            go_wp2
            go_roundw
            case rel => exact ⟨i + 1, _, _, _, _, _, by omega, by go_num, rfl, by omega, by omega, HDL, HLD, HG, HB⟩
            case measure => simp [intOf]; omega
    · obtain rfl : i = 8 := by omega
      have HGO := Lib.hid (show (if r.length = 0 then some (rowOf done) else none) = readH b ∧ True from ⟨by rw [← HG.out.go]; rfl, trivial⟩)
      have HHD := Lib.hid (show Head wr hp q p done from by have := HG.out.head; simpa using this)
      by_cases h0 : len = 0
      · have d0 : decide ((len : Int) > 0) = false := by simp; omega
        go_wp2
        go_ret2
        rw [← HGO.out.1, if_pos (by rw [HN.out]; exact h0)]
        exact ⟨⟨hp, done, rfl, HHD.out, rfl⟩, HB.out⟩
      · have d0 : decide ((len : Int) > 0) = true := by simp; omega
        go_wp2
        go_ret2
        rw [← HGO.out.1, if_neg (by rw [HN.out]; exact h0)]
        exact ⟨rfl, HB.out⟩

end Go.Proofs.YtnkaodjfjllkfaaGreatDoor
/-
  The walks of a header's bytes, and of the numbers of the slots that are laid.
-/
set_option linter.unusedSimpArgs false
set_option linter.unusedVariables false
namespace Go.Slot
theorem bytesH_le : ∀ (s : Hdr), Okay s → (bytesH s).length ≤ 81 * s.length
  | [], _ => Nat.zero_le _
  | b :: r, h => by
    have h1 := bytesH_le r (fun x hx => h x (List.mem_cons_of_mem _ hx))
    have h2 := h b (by simp)
    simp only [bytesH, List.length_cons, List.length_append]
    omega
theorem Okay.take {s : Hdr} (h : Okay s) (i : Nat) : Okay (s.take i) := fun x hx => h x (List.mem_of_mem_take hx)
theorem usedGo_le : ∀ (s : Hdr) (n : Nat), (usedGo n s).length ≤ s.length
  | [], _ => Nat.le_refl _
  | b :: r, n => by
    have := usedGo_le r (n + 1)
    unfold usedGo
    split <;> simp <;> omega
end Go.Slot
namespace Go.Proofs.YtnkaodjfjllkfaaGreatDoor
open Go.RowKit Go.Mem Go.Ops Go.Cells Go.Oct Go.Gf Go.Trn Go.Aes Go.Ring Go.Ezk Go.Ezh Go.Ezt Go.Aez Go.Blake Go.CutP Go.Fl Go.Slot
set_option linter.unusedSimpArgs false
set_option linter.unusedVariables false
set_option maxRecDepth 100000
attribute [local irreducible] walkR walkP walk0 walkB walkK

theorem Tryz.noRowSl : (Tryz.prog.underlying 22).map (·.isRow) = some false := by kernel_rfl
theorem Tryz.sizeSlots : (Tryz.prog.info? 46).map (·.size) = some 8 := by kernel_rfl
theorem Tryz.rowSlots : Row Tryz.prog 46 8 := ⟨by kernel_rfl, by kernel_rfl⟩
theorem Tryz.infoI : (Tryz.prog.info? 3).map (fun i => (i.zero, i.size, i.bytes)) = some (some (.int .i64 0), 1, 8) := by kernel_rfl

/-- A number's value. -/
def N64 (n : Nat) : Value := .int .i64 (n : Int)
theorem vals_at {ss : List Str} {i : Nat} {s : Str} (h : ss[i]? = some s) : (ss.map Str.val).toArray[i]? = some s.val := by simp [h]
theorem rowOf_take {ss : List Str} {i : Nat} {s : Str} (h : ss[i]? = some s) : rowOf (ss.take (i + 1)) = rowOf (ss.take i) ++ [s.bs] := by
  rw [List.take_add_one, h]; simp [rowOf]

set_option maxHeartbeats 2000000 in
theorem hbytes_ok (hp q p : Nat) (ss : List Str) (w : World) (hh : Head w hp q p ss) (hk : Okay (rowOf ss)) :
    Calls Tryz.prog 14 #[.pointer (some ⟨hp, 0, none⟩)] w fun e w' => ∃ v, e = .returned v ∧ w'.ownsRow w.heap.size 5 1 v (bytesH (rowOf ss)).length ((bytesH (rowOf ss)).map B) ∧ Below w.heap.size w w' := by
  obtain ⟨i0, hi, hz0, hz1, hz2⟩ := info_parts Tryz.infoB
  have HI := Lib.hid (And.intro hi (And.intro hz0 (And.intro hz1 hz2)))
  have HH := Lib.hid hh
  have HK := Lib.hid hk
  have HLEN := Lib.hid (show (rowOf ss).length = 8 by simp [rowOf, hh.len])
  have hix := fun (w : World) (i : Nat) (s : Str) (hs : ss[i]? = some s) (hlt : i < 8) => run_index_one (P := Tryz.prog) w 46 22 8 (ss.map Str.val).toArray .i64 i s.val Tryz.underlying46 Tryz.noRowSl Tryz.size22 (vals_at hs) hlt
  have HIX := Lib.hid hix
  have HSZ := Lib.hid (show (ss.map Str.val).toArray.size = 8 by simp [hh.len])
  obtain ⟨V, hV⟩ : ∃ V, V = (ss.map Str.val).toArray := ⟨_, rfl⟩
  have HR := Lib.hid (show w.rangeAt hp 1 (ss.map Str.val) from hh.range)
  rw [← hV] at HIX HSZ
  clear hh hk hi hz0 hz1 hz2 hix
  go_enter Tryz.func14, Tryz.ntmps14
  go_wp2_with (refine wpList_load_mid rfl 46 (.tmp 10) rfl hp 1 rfl (ss.map Str.val) _ HR.out Tryz.underlying46 rfl (by rw [Tryz.sizeSlots]; simp [HH.out.len]) ?_)
  rw [← hV]
  clear hV
  go_wp2
  go_loopw [3, 12] (fun v c wr => ∃ i : Nat, i ≤ 8 ∧ c = .int .i64 i ∧ Hid (wr.ownsRow w.heap.size 5 1 v (bytesH (rowOf (ss.take i))).length ((bytesH (rowOf (ss.take i))).map B)) ∧ Hid (Below w.heap.size w wr)) (fun _ c _ => 8 - (intOf c).toNat)
  case atStart => exact ⟨0, by omega, rfl, Lib.hid (by simpa [bytesH, rowOf] using nil_owns w w.heap.size _ 1), Lib.hid (Below.refl _ _)⟩
  case round =>
    obtain ⟨i, hi, rfl, HO, HB⟩ := hrel
    by_cases hlt : i < 8
    · obtain ⟨s, hs⟩ : ∃ s, ss[i]? = some s := ⟨ss[i]'(by rw [HH.out.len]; exact hlt), by simp⟩
      have hx := fun w => HIX.out w i s hs hlt
      unfold Str.val at hx
      have HMEM := Lib.hid (List.mem_of_getElem? hs)
      have hle := bytesH_le _ (HK.out.take i)
      have hok := HK.out s.bs (List.mem_map.2 ⟨s, List.mem_of_getElem? hs, rfl⟩)
      have HST := Lib.hid (show bytesH (rowOf (ss.take (i + 1))) = bytesH (rowOf (ss.take i)) ++ [UInt8.ofNat s.bs.length] ++ s.bs ∧ True from ⟨by rw [rowOf_take hs, bytesH_snoc], trivial⟩)
      have hrt : rowOf (ss.take i) = (rowOf ss).take i := by simp [rowOf]
      have hle : (bytesH (rowOf (ss.take i))).length ≤ 648 := by
        rw [hrt]
        refine Nat.le_trans hle ?_
        rw [List.length_take]; omega
      obtain ⟨n, hn⟩ : ∃ n, n = (bytesH (rowOf (ss.take i))).length := ⟨_, rfl⟩
      obtain ⟨m, hm⟩ : ∃ m, m = s.bs.length := ⟨_, rfl⟩
      have HM := Lib.hid (show s.bs.length = m ∧ True from ⟨hm.symm, trivial⟩)
      rw [← hn] at HO hle
      rw [← hm] at hx hok HST
      have HNN := Lib.hid (show (bytesH (rowOf (ss.take (i + 1)))).length = n + 1 + m from by rw [HST.out.1]; simp [hn, hm]; omega)
      have hw8 : IntKind.u8.wrap (m : Int) = ((UInt8.ofNat m).toNat : Int) := by
        rw [wrap8 m (by omega), UInt8.toNat_ofNat_of_lt' (by show m < 256; omega)]
      clear hs hrt hn hm
      go_wp2_with (at_builtin; refine wpList_append_any rfl (.tmp 15) (.tmp 19) 22 rfl w.heap.size 5 i0 (.int .u8 0) 1 Tryz.underlying22 HI.out.1 HI.out.2.1 HI.out.2.2.1 HI.out.2.2.2 rfl _ _ _ rfl (own_below HO.out (later_alloc wr _)) _ 1 1 [B (UInt8.ofNat m)] rfl rfl (Blk.new wr [B (UInt8.ofNat m)] 5).lies (oneCell_B [UInt8.ofNat m]) (by unfold maxLen; omega) (by omega) (by have := HB.out.size; simp; omega) ?_)
      intro v5 w5 hown5 hg5
      have hz6 : w.heap.size ≤ wr.heap.size := HB.out.size
      have hbA : Below w.heap.size w (wr.alloc (.cells #[B (UInt8.ofNat m)] 5)) := HB.out.trans ((later_alloc wr _).mono hz6)
      have HB5 := Lib.hid (below_append hbA (own_below HO.out (later_alloc wr _)) hg5 (Nat.le_refl _) (by have := hbA.size; exact this))
      have HLS := Lib.hid (show Lies w5 s.a (s.bs.map B) from ((HH.out.each s HMEM.out).below HB5.out).lies)
      have HO5 := Lib.hid hown5
      clear hown5 hg5 hbA
      go_wp2_with (at_builtin; refine wpList_append_any rfl (.tmp 20) (.tmp 21) 22 rfl w.heap.size 5 i0 (.int .u8 0) 1 Tryz.underlying22 HI.out.1 HI.out.2.1 HI.out.2.2.1 HI.out.2.2.2 rfl _ _ _ rfl HO5.out s.a m s.cap (s.bs.map B) rfl (by rw [List.length_map]; exact HM.out.1) HLS.out (oneCell_B _) (by unfold maxLen; omega) (by omega) HB5.out.size ?_)
      intro v6 w6 hown6 hg6
      have HB6 := Lib.hid (below_append HB5.out HO5.out hg6 (Nat.le_refl _) HB5.out.size)
      have HO6 := Lib.hid (show w6.ownsRow w.heap.size 5 1 v6 (bytesH (rowOf (ss.take (i + 1)))).length ((bytesH (rowOf (ss.take (i + 1)))).map B) by
        rw [HNN.out, HST.out.1]; simpa using hown6)
      clear hown6 hg6
      go_wp2
      go_roundw
      case rel => exact ⟨i + 1, by omega, by go_num, HO6, HB6⟩
      case measure => simp [intOf]; omega
    · obtain rfl : i = 8 := by omega
      rw [List.take_of_length_le (by rw [HH.out.len]; exact Nat.le_refl _)] at HO
      go_wp2
      go_ret
      exact ⟨_, rfl, HO.out, HB.out⟩

set_option maxHeartbeats 2000000 in
theorem hused_ok (hp q p : Nat) (ss : List Str) (w : World) (hh : Head w hp q p ss) :
    Calls Tryz.prog 27 #[.pointer (some ⟨hp, 0, none⟩)] w fun e w' => ∃ v, e = .returned v ∧ w'.ownsRow w.heap.size 3 1 v (usedH (rowOf ss)).length ((usedH (rowOf ss)).map N64) ∧ Below w.heap.size w w' := by
  obtain ⟨i0, hi, hz0, hz1, hz2⟩ := info_parts Tryz.infoI
  have HI := Lib.hid (And.intro hi (And.intro hz0 (And.intro hz1 hz2)))
  have HH := Lib.hid hh
  have hix := fun (w : World) (i : Nat) (s : Str) (hs : ss[i]? = some s) (hlt : i < 8) => run_index_one (P := Tryz.prog) w 46 22 8 (ss.map Str.val).toArray .i64 i s.val Tryz.underlying46 Tryz.noRowSl Tryz.size22 (vals_at hs) hlt
  have HIX := Lib.hid hix
  have HSZ := Lib.hid (show (ss.map Str.val).toArray.size = 8 by simp [hh.len])
  obtain ⟨V, hV⟩ : ∃ V, V = (ss.map Str.val).toArray := ⟨_, rfl⟩
  have HR := Lib.hid (show w.rangeAt hp 1 (ss.map Str.val) from hh.range)
  rw [← hV] at HIX HSZ
  clear hh hi hz0 hz1 hz2 hix
  go_enter Tryz.func27, Tryz.ntmps27
  go_wp2_with (refine wpList_load_mid rfl 46 (.tmp 10) rfl hp 1 rfl (ss.map Str.val) _ HR.out Tryz.underlying46 rfl (by rw [Tryz.sizeSlots]; simp [HH.out.len]) ?_)
  rw [← hV]
  clear hV
  go_wp2
  go_loopw [3, 12] (fun v c wr => ∃ i : Nat, i ≤ 8 ∧ c = .int .i64 i ∧ Hid (wr.ownsRow w.heap.size 3 1 v (usedH (rowOf (ss.take i))).length ((usedH (rowOf (ss.take i))).map N64)) ∧ Hid (Below w.heap.size w wr)) (fun _ c _ => 8 - (intOf c).toNat)
  case atStart => exact ⟨0, by omega, rfl, Lib.hid (by simpa [usedH, usedGo, rowOf] using nil_owns w w.heap.size _ 1), Lib.hid (Below.refl _ _)⟩
  case round =>
    obtain ⟨i, hi, rfl, HO, HB⟩ := hrel
    by_cases hlt : i < 8
    · obtain ⟨s, hs⟩ : ∃ s, ss[i]? = some s := ⟨ss[i]'(by rw [HH.out.len]; exact hlt), by simp⟩
      have hx := fun w => HIX.out w i s hs hlt
      unfold Str.val at hx
      have hq := fun (w : World) => eql_slice_nil (P := Tryz.prog) w 22 5 s.a s.bs.length s.cap Tryz.underlying22
      have HST := Lib.hid (show usedH (rowOf (ss.take (i + 1))) = (if s.bs.length = 0 then usedH (rowOf (ss.take i)) else usedH (rowOf (ss.take i)) ++ [i]) ∧ True from ⟨by
        rw [rowOf_take hs]
        unfold usedH
        rw [usedGo_snoc]
        have : (rowOf (ss.take i)).length = i := by simp [rowOf, HH.out.len]; omega
        rw [this, Nat.zero_add], trivial⟩)
      have hul : (usedH (rowOf (ss.take i))).length ≤ 8 := by
        refine Nat.le_trans (usedGo_le _ 0) ?_
        simp [rowOf]; omega
      have hnil := HH.out.nil s (List.mem_of_getElem? hs)
      have HIN := Lib.hid (HH.out.each s (List.mem_of_getElem? hs))
      obtain ⟨n, hn⟩ : ∃ n, n = (usedH (rowOf (ss.take i))).length := ⟨_, rfl⟩
      rw [← hn] at HO hul
      by_cases h0 : s.bs.length = 0
      · rw [hnil h0] at hx hq
        rw [if_pos h0] at HST
        have HO2 := Lib.hid (show wr.ownsRow w.heap.size 3 1 u3 (usedH (rowOf (ss.take (i + 1)))).length ((usedH (rowOf (ss.take (i + 1)))).map N64) from by rw [HST.out.1, ← hn]; exact HO.out)
        clear hs hn hnil HO
        go_wp2
        go_roundw
        case rel => exact ⟨i + 1, by omega, by go_num, HO2, HB⟩
        case measure => simp [intOf]; omega
      · obtain ⟨sb, so, hsa, _, _⟩ := HIN.out.lies.at (by intro e; simp at e; rw [e] at h0; exact h0 rfl)
        rw [hsa] at hx hq
        rw [if_neg h0] at HST
        have HNN := Lib.hid (show (usedH (rowOf (ss.take (i + 1)))).length = n + 1 from by rw [HST.out.1]; simp [hn])
        clear hs hn hnil hsa
        go_wp2_with (at_builtin; refine wpList_append_any rfl (.tmp 18) (.tmp 20) 59 rfl w.heap.size 3 i0 (.int .i64 0) 8 Tryz.underlying59 HI.out.1 HI.out.2.1 HI.out.2.2.1 HI.out.2.2.2 rfl _ _ _ rfl (own_below HO.out (later_alloc wr _)) _ 1 1 [.int .i64 (i : Int)] rfl rfl (Blk.new wr [.int .i64 (i : Int)] 3).lies (by simp [Value.oneCell']) (by unfold maxLen; omega) (by omega) (by have := HB.out.size; simp; omega) ?_)
        intro v5 w5 hown5 hg5
        have hbA : Below w.heap.size w (wr.alloc (.cells #[.int .i64 (i : Int)] 3)) := HB.out.trans ((later_alloc wr _).mono HB.out.size)
        have HB5 := Lib.hid (below_append hbA (own_below HO.out (later_alloc wr _)) hg5 (Nat.le_refl _) (by have := hbA.size; exact this))
        have HO5 := Lib.hid (show w5.ownsRow w.heap.size 3 1 v5 (usedH (rowOf (ss.take (i + 1)))).length ((usedH (rowOf (ss.take (i + 1)))).map N64) by
          rw [HNN.out, HST.out.1, List.map_append]; exact hown5)
        clear hown5 hg5 hbA
        go_wp2
        go_roundw
        case rel => exact ⟨i + 1, by omega, by go_num, HO5, HB5⟩
        case measure => simp [intOf]; omega
    · obtain rfl : i = 8 := by omega
      rw [List.take_of_length_le (by rw [HH.out.len]; exact Nat.le_refl _)] at HO
      go_wp2
      go_ret
      exact ⟨_, rfl, HO.out, HB.out⟩

/-- A row of numbers. -/
def IntsIn (w : World) (ao : Option Addr) (l : List Nat) : Prop := Lies w ao (l.map N64)
theorem same_ints (a1 a2 : Option Addr) (n c1 c2 : Nat) (l : List Nat) (w : World) (hn : l.length = n) (hb : n ≤ 1000) (h1 : IntsIn w a1 l) (h2 : IntsIn w a2 l) :
    Calls Tryz.prog 26 #[.slice a1 n c1, .slice a2 n c2] w fun e w' => e = .returned (.bool true) ∧ Below w.heap.size w w' := by
  have HN := Lib.hid hn
  have H1 := Lib.hid h1
  have H2 := Lib.hid h2
  clear hn h1 h2
  go_enter Tryz.func26, Tryz.ntmps26
  go_wp2
  go_loopw [5] (fun c wr => ∃ i : Nat, i ≤ n ∧ c = .int .i64 i ∧ Hid (Below w.heap.size w wr)) (fun c _ => n - (intOf c).toNat)
  case atStart => exact ⟨0, by omega, rfl, Lib.hid (Below.refl _ _)⟩
  case round =>
    obtain ⟨i, hi, rfl, HB⟩ := hrel
    by_cases hlt : i < n
    · obtain ⟨x, hx⟩ : ∃ x, l[i]? = some x := ⟨l[i]'(by rw [HN.out]; exact hlt), by simp⟩
      obtain ⟨b1, o1, rfl, hc1⟩ := (H1.out.below HB.out) i (.int .i64 (x : Int)) (by rw [List.getElem?_map, hx]; rfl)
      obtain ⟨b2, o2, rfl, hc2⟩ := (H2.out.below HB.out) i (.int .i64 (x : Int)) (by rw [List.getElem?_map, hx]; rfl)
      have hc1 := fun (x : After wr.drew) => (x.later.cell (p := ⟨b1, o1 + i, none⟩) (block_lt_of_cell hc1)).trans hc1
      have hc2 := fun (x : After wr.drew) => (x.later.cell (p := ⟨b2, o2 + i, none⟩) (block_lt_of_cell hc2)).trans hc2
      clear hx
      go_wp2_with fail
      refine wp_region_R [0, 1, 2, 3, 4, 5, 6, 7, 8] (by kernel_rfl) (by kernel_rfl) ?_
      rintro w2 rfl
      repeat (refine walkR_one rfl rfl (fun K hK => ?_); go_big_quiet_step (fail); refine wpQuiet_nil (hK _ ?_); clear hK K)
      refine walkR_nil ?_
      go_wp2
      go_roundw
      case rel => exact ⟨i + 1, by omega, by go_num, Lib.hid HB.out.drew⟩
      case measure => simp [intOf]; omega
    · obtain rfl : i = n := by omega
      go_wp2
      go_ret
      exact ⟨rfl, HB.out⟩

end Go.Proofs.YtnkaodjfjllkfaaGreatDoor
