/-
  Texts of this claim, one behind the other: SealB EzcA EzcB.
-/
import Derived.Test.YtbpghohkhngdfaaGreatDoorM15
import Derived.Test.YtbpghohkhngdfaaGreatDoorM12
import Derived.Test.YtbpghohkhngdfaaGreatDoorM14
/-
  The walks of octet.Same, of a context's strings.
-/
namespace Go.Oct
open Go.Ops
theorem or8_zero (a b : UInt8) : or8 a b = 0 ↔ a = 0 ∧ b = 0 := by
  unfold or8
  constructor
  · intro h
    have h1 := congrArg UInt8.toBitVec h
    simp only [UInt8.toBitVec_or, UInt8.toBitVec_ofNat] at h1
    obtain ⟨h2, h3⟩ := BitVec.or_eq_zero_iff.1 h1
    exact ⟨UInt8.toBitVec_inj.1 h2, UInt8.toBitVec_inj.1 h3⟩
  · rintro ⟨rfl, rfl⟩
    rfl
theorem xor8_zero (a b : UInt8) : xor8 a b = 0 ↔ a = b := by
  unfold xor8
  constructor
  · intro h
    have h1 := congrArg UInt8.toBitVec h
    simp only [UInt8.toBitVec_xor, UInt8.toBitVec_ofNat] at h1
    exact UInt8.toBitVec_inj.1 (BitVec.xor_eq_zero_iff.1 h1)
  · rintro rfl
    simp
/-- What 'Same' has seen. -/
def Seen (a b : List UInt8) (i : Nat) (u : UInt8) : Prop := u = 0 ↔ a.take i = b.take i
theorem Seen.zero (a b : List UInt8) : Seen a b 0 0 := by simp [Seen]
theorem Seen.step {a b : List UInt8} {i : Nat} {u x y : UInt8} (h : Seen a b i u) (hx : a[i]? = some x) (hy : b[i]? = some y) : Seen a b (i + 1) (or8 u (xor8 x y)) := by
  unfold Seen at *
  rw [or8_zero, xor8_zero, h, List.take_add_one, List.take_add_one, hx, hy]
  have hl : (a.take i).length = (b.take i).length := by
    have h1 := (List.getElem?_eq_some_iff.1 hx).1
    have h2 := (List.getElem?_eq_some_iff.1 hy).1
    simp; omega
  constructor
  · rintro ⟨h1, rfl⟩; rw [h1]
  · intro h1
    obtain ⟨h2, h3⟩ := List.append_inj h1 hl
    simp at h3
    exact ⟨h2, h3⟩
theorem Seen.all {a b : List UInt8} {n : Nat} {u : UInt8} (h : Seen a b n u) (ha : a.length = n) (hb : b.length = n) : ((u.toNat : Int) == 0) = decide (a = b) := by
  unfold Seen at h
  rw [List.take_of_length_le (by omega), List.take_of_length_le (by omega)] at h
  by_cases hab : a = b
  · rw [h.2 hab]; simp [hab]
  · have hu : u.toNat ≠ 0 := fun e => hab (h.1 (UInt8.toNat_inj.1 e))
    simp [hab]; omega
end Go.Oct
namespace Go.Proofs.YtbpghohkhngdfaaGreatDoor
open Go.RowKit Go.Mem Go.Ops Go.Cells Go.Oct Go.Gf Go.Trn Go.Aes Go.Ring Go.Ezk Go.Ezh Go.Ezt Go.Aez Go.CutP Go.Fl
set_option linter.unusedSimpArgs false
set_option linter.unusedVariables false
set_option maxRecDepth 100000
attribute [local irreducible] walkR walkP walk0 walkB walkK

theorem _root_.Go.Proofs.YtbpghohkhngdfaaGreatDoor.Globals.below {w w' : World} (h : Globals w) (hb : Below w.heap.size w w') : Globals w' := by
  have e1 : tyAt w' 0 = tyAt w 0 := by unfold tyAt; rw [hb.block _ h.mixes.lt]
  have e2 : tyAt w' 1 = tyAt w 1 := by unfold tyAt; rw [hb.block _ h.unmixes.lt]
  exact ⟨by rw [e1]; exact h.mixes.below hb h.mixes.lt, by rw [e2]; exact h.unmixes.below hb h.unmixes.lt⟩

theorem string_ok (w : World) (ao : Option Addr) (n cap : Nat) (bs : List UInt8) (hn : bs.length = n) (hl : Lies w ao (bs.map B)) : (convert 22 9 (.slice ao n cap)).run Tryz.prog w = .ok (.string (str bs)) w :=
  run_string (P := Tryz.prog) w 22 9 5 Tryz.underlying22 Tryz.underlying5 Tryz.underlying9 ao n cap bs hn hl

theorem same_ok (a1 a2 : Option Addr) (n1 n2 c1 c2 : Nat) (x1 x2 : List UInt8) (w : World) (h1 : x1.length = n1) (h2 : x2.length = n2) (hb : n1 ≤ 1000000) (hl1 : Lies w a1 (x1.map B)) (hl2 : Lies w a2 (x2.map B)) :
    Calls Tryz.prog 113 #[.slice a1 n1 c1, .slice a2 n2 c2] w fun e w' => e = .returned (.bool (decide (x1 = x2))) ∧ Below w.heap.size w w' := by
  by_cases he : n1 = n2
  · subst he
    have hd : ((n1 : Int) == n1) = true := by simp
    have HL1 := Lib.hid hl1
    have HL2 := Lib.hid hl2
    have H1 := Lib.hid h1
    have H2 := Lib.hid h2
    clear hl1 hl2 h1 h2
    go_enter Tryz.func113, Tryz.ntmps113
    go_wp2
    go_loopw [5, 14] (fun z c wr => ∃ (i : Nat) (u : UInt8), i ≤ n1 ∧ c = .int .i64 i ∧ z = B u ∧ Hid (Seen x1 x2 i u) ∧ Hid (Below w.heap.size w wr)) (fun _ c _ => n1 - (intOf c).toNat)
    case atStart => exact ⟨0, 0, by omega, rfl, rfl, Lib.hid (Seen.zero _ _), Lib.hid (Below.refl _ _)⟩
    case round =>
      obtain ⟨i, u, hi, rfl, rfl, HSE, HB⟩ := hrel
      by_cases hlt : i < n1
      · obtain ⟨v1, hv1⟩ : ∃ v1, x1[i]? = some v1 := ⟨x1[i]'(by rw [H1.out]; exact hlt), by simp⟩
        obtain ⟨v2, hv2⟩ : ∃ v2, x2[i]? = some v2 := ⟨x2[i]'(by rw [H2.out]; exact hlt), by simp⟩
        obtain ⟨b1, o1, rfl, hc1⟩ := (HL1.out.below HB.out) _ _ (mapB_at hv1)
        obtain ⟨b2, o2, rfl, hc2⟩ := (HL2.out.below HB.out) _ _ (mapB_at hv2)
        have hc1 := fun (x : After wr.drew) => (x.later.cell (p := ⟨b1, o1 + i, none⟩) (block_lt_of_cell hc1)).trans hc1
        have hc2 := fun (x : After wr.drew) => (x.later.cell (p := ⟨b2, o2 + i, none⟩) (block_lt_of_cell hc2)).trans hc2
        have HSE := Lib.hid (HSE.out.step hv1 hv2)
        clear hv1 hv2
        go_wp2_with fail
        refine wp_region_R [0, 1, 2, 3, 4, 5, 6, 7, 8, 9, 10, 11] (by kernel_rfl) (by kernel_rfl) ?_
        rintro w2 rfl
        repeat (refine walkR_one rfl rfl (fun K hK => ?_); go_big_quiet_step (fail); refine wpQuiet_nil (hK _ ?_); clear hK K)
        refine walkR_nil ?_
        go_wp2
        go_roundw
        case rel => exact ⟨i + 1, _, by omega, by go_num, rfl, HSE, Lib.hid HB.out.drew⟩
        case measure => simp [intOf]; omega
      · obtain rfl : i = n1 := by omega
        have HD := HSE.out.all H1.out H2.out
        go_wp2
        go_ret
        exact ⟨rfl, HB.out⟩
  · have hd : ((n1 : Int) == n2) = false := by simp; omega
    have hne : ¬ x1 = x2 := by rintro rfl; omega
    clear hl1 hl2 h1 h2
    go_enter Tryz.func113, Tryz.ntmps113
    go_wp2
    go_ret
    exact ⟨by rw [decide_eq_false hne]; rfl, Below.refl _ _⟩

theorem right_ok (w : World) : Calls Tryz.prog 68 #[.int .i64 16] w fun e w' => e = .returned (.int .i64 0) ∧ w = w' := by
  go_enter Tryz.func68, Tryz.ntmps68
  go_wp2
  go_ret
  exact ⟨rfl, rfl⟩

theorem strings_ok (ao : Option Addr) (n cap : Nat) (bs : List UInt8) (w : World) (hn : bs.length = n) (hb : n ≤ 1000) (hl : Lies w ao (bs.map B)) :
    Calls Tryz.prog 40 #[.int .i64 16, .slice ao n cap, .slice none 0 0] w fun e w' => ∃ a ss, e = .returned (.tuple #[.slice (some a) 2 2, .int .i64 0]) ∧ ss.length = 2 ∧ rowOf ss = stringsV 16 bs [] ∧ StrsIn w' (some a) ss ∧ Below w.heap.size w w' := by
  have HN := Lib.hid hn
  have HL := Lib.hid hl
  clear hn hl
  go_enter Tryz.func40, Tryz.ntmps40
  go_wp2_with fail
  refine (right_ok _).mono ?_
  rintro e w0 ⟨rfl, rfl⟩
  go_wp2_with (at_make; refine wpList_make 22 5 (.int .u8 0) 1 16 rfl rfl rfl rfl Tryz.underlying22 Tryz.infoByte rfl rfl rfl (by omega) (by unfold maxLen; omega) ?_)
  intro w1 hb1 hbel1
  have hb1 : Blk w1 w.heap.size ((zeros 16).map B) 5 := hb1
  have hc := hb1.cell 15 (B 0) rfl
  have hf := hb1.free 15
  have HB1 := Lib.hid (show Blk (w1.setCell ⟨w.heap.size, 15, none⟩ (B 128)) w.heap.size ((zeros 15 ++ [128]).map B) 5 from hb1.set 15 (B 128))
  have HL1 := Lib.hid (HL.out.below (hbel1.setCell (p := ⟨w.heap.size, 15, none⟩) (Nat.le_refl _) (B 128)))
  have HBE := Lib.hid (hbel1.setCell (p := ⟨w.heap.size, 15, none⟩) (Nat.le_refl _) (B 128))
  clear hb1 hbel1
  go_wp2_with fail
  generalize hbb : w.heap.size = bb at *
  have HBB := Lib.hid hbb
  have hz0 : bb ≤ (w1.setCell ⟨bb, 15, none⟩ (B 128)).heap.size := by have := HBE.out.size; omega
  clear hbb
  refine (clone_any ao n cap (bs.map B) _ (by rw [List.length_map]; exact HN.out) (by omega) HL1.out (oneCell_B _)).mono ?_
  rintro e w3 ⟨v3, rfl, hown3, hbel3⟩
  obtain ⟨ao3, cap3, rfl, hcap3, _, hl3⟩ := own_form hown3
  have HB1 := Lib.hid (HB1.out.below hbel3 HB1.out.lt)
  have HBE := Lib.hid (HBE.out.trans (hbel3.mono hz0))
  have hz3 : bb ≤ w3.heap.size := Nat.le_trans hz0 hbel3.size
  have HL3 := Lib.hid hl3
  clear hown3 hl3 hbel3 hc hf HL1 HL
  simp only [id]
  go_wp2
  generalize hw4 : w3.alloc (.cells #[.slice (some ⟨bb, 0, none⟩) 16 16, .slice ao3 n cap3] 22) = w4
  have HSS := Lib.hid (show StrsIn w4 (some ⟨w3.heap.size, 0, none⟩) [⟨some ⟨bb, 0, none⟩, 16, zeros 15 ++ [128]⟩, ⟨ao3, cap3, bs⟩] from by
    rw [← hw4]
    refine ⟨?_, ?_⟩
    · have := (Blk.new w3 [.slice (some ⟨bb, 0, none⟩) 16 16, .slice ao3 n cap3] 22).lies
      simpa [Str.val, HN.out, zeros_length] using this
    · intro s hs
      simp at hs
      rcases hs with rfl | rfl
      · exact ⟨by simp [zeros_length], (HB1.out.lies).below (later_alloc _ _)⟩
      · exact ⟨by rw [HN.out]; exact hcap3, HL3.out.below (later_alloc _ _)⟩)
  have HBE := Lib.hid (show Below bb w w4 by rw [← hw4]; exact HBE.out.trans ((later_alloc _ _).mono hz3))
  clear hw4
  go_loopw [10, 30] (fun z c wr => z = .slice (some ⟨w3.heap.size, 0, none⟩) 2 2 ∧ c = .int .i64 0 ∧ w4 = wr) (fun _ _ _ => 0)
  case atStart => exact ⟨rfl, rfl, rfl⟩
  case round =>
    obtain ⟨rfl, rfl, rfl⟩ := hrel
    go_wp2
    go_ret2
    exact ⟨_, _, rfl, rfl, by simp [rowOf, stringsV], HSS.out, by rw [HBB.out]; exact HBE.out⟩

end Go.Proofs.YtbpghohkhngdfaaGreatDoor
/-
  The walks of ezcore: the sum of blocks, a message's last blocks, a message cut.
-/
set_option linter.unusedSimpArgs false
set_option linter.unusedVariables false
namespace Go.Cells
open Go.RowKit
/-- A result in memory, and a plain one. -/
theorem Blk.result2 {P : Program} {w : World} {b n : Nat} {vs : List Value} {ty' : TypeId} (h : Blk w b vs ty') {fn : Func} {R : Ending → World → Prop} {a : Act} {p t : Tmp} {ty : TypeId} {v : Value}
    (hf : fn.results = #[.cell p ty, .tmp t]) (hd : a.defers = []) (hp : a.tmps.getD p undef = .pointer (some ⟨b, 0, none⟩)) (ht : a.tmps.getD t undef = v) (hr : Row P ty n) (hn : vs.length = n)
    (k : R (.returned (.tuple #[.agg vs.toArray, v])) w) : bodyPost P fn R .ret a w := by
  obtain ⟨d, hu, hd', hi⟩ := hr.open
  have hrun : (results fn a.tmps).run P w = .ok (.tuple #[.agg vs.toArray, v]) w := by
    have hp' : a.tmps[p]?.getD undef = .pointer (some ⟨b, 0, none⟩) := by simpa using hp
    have ht' : a.tmps[t]?.getD undef = v := by simpa using ht
    have h1 := run_loadVar_row (P := P) w b ty' ty vs.toArray (0, 0) d h hu (by cases d <;> simp_all [TypeDesc.isRow]) (by rw [hi]; simp [hn])
    simp [results, hf, hp', ht', asAddr, h1]
  exact bodyPost_ret hrun hd k
/-- One cell of a block, stored at a plain region's operation. -/
theorem Blk.wset1 {P : Program} {w : World} {b : Nat} {vs : List Value} {ty' : TypeId} (h : Blk w b vs ty') (i : Nat) (v : Value) {ops : Array Oper} {rest : List Oper} {op : Oper} {a : Act} {Q : Exit → Act → World → Prop} {ty : TypeId} {x y : Operand}
    (hgd : op.guard = none) (ho : op.op = .store ty x y) (hx : a.eval x = .pointer (some ⟨b, i, none⟩)) (hy : a.eval y = v) (hs : (P.info? ty).map (·.size) = some 1) (hv : v.cells = #[v]) (h1 : v.oneCell' = true) (hi : i < vs.length)
    (k : ∀ w', Blk w' b (vs.set i v) ty' → Only b w w' → wpList P ops Q rest (a.put op.dst undef) w') : wpList P ops Q (op :: rest) a w :=
  wpList_plain hgd fun _ hK => h.opset ho hx hy hs hv h1 hi (fun w' hb hd => hK _ _ (k w' hb hd))
end Go.Cells
namespace Go.Mem
open Go.RowKit Go.Cells Go.Ops
theorem run_cut_hi {P : Program} (w : World) (t e : TypeId) (size : Nat) (ht : P.underlying t = some (.slice e)) (hs : (P.info? e).map (·.size) = some size) (ao : Option Addr) (len cap n : Nat) (h : n ≤ cap) :
    (Instr.slice t (.slice ao len cap) none (some (.int .i64 (n : Int))) none).run P w = .ok (.slice ao n cap) w := by
  cases hq : P.info? e with
  | none => rw [hq] at hs; cases hs
  | some x =>
    have hx : x.size = size := by rw [hq] at hs; simpa using hs
    cases ao with
    | none => simp [Instr.slice, Instr.sliceBounds, Instr.sliceBound, run_underlying ht, sizeOf, typeInfo, hq, hx, asIntOf, h]
    | some a => cases a; simp [Instr.slice, Instr.sliceBounds, Instr.sliceBound, run_underlying ht, sizeOf, typeInfo, hq, hx, asIntOf, h, Addr.add]
end Go.Mem
namespace Go.Cells
open Go.RowKit
/-- A struct or an array built of parts, at a plain region's operation. -/
theorem wpList_built1 {P : Program} {w : World} {ops : Array Oper} {rest : List Oper} {o : Oper} {a : Act} {Q : Exit → Act → World → Prop} (t : TypeId) (parts : Array (Nat × Operand)) (vs : List (Nat × Value)) (cells : Array Value)
    (hg : o.guard = none) (hop : o.op = .build t parts) (hp' : (parts.toList.map fun p => (p.1, a.eval p.2)) = vs) (hb : P.built t vs = some cells)
    (k : wpList P ops Q rest (a.put o.dst (.agg cells)) w) : wpList P ops Q (o :: rest) a w := by
  have hp : (parts.map fun (i, x) => (i, a.eval x)) = vs.toArray := by
    apply Array.toList_inj.1
    rw [Array.toList_map]
    exact hp'
  refine wpList_plain hg fun K hK => ?_
  have hrun := run_build (P := P) w t vs.toArray cells (by simpa using hb)
  unfold Oper.wp
  simp only [execOp, hop, hp, Sem.run_bind, hrun, Result.andThen_ok, Sem.run_pure]
  exact hK _ _ k
end Go.Cells
namespace Go.Proofs.YtbpghohkhngdfaaGreatDoor
open Go.RowKit Go.Mem Go.Ops Go.Cells Go.Oct Go.Gf Go.Trn Go.Aes Go.Ring Go.Ezk Go.Ezh Go.Ezt Go.Ezc Go.CutP Go.Fl
set_option linter.unusedSimpArgs false
set_option linter.unusedVariables false
set_option maxRecDepth 100000
attribute [local irreducible] walkR walkP walk0 walkB walkK

theorem cplus_ok (ao : Option Addr) (n cap : Nat) (ks : List (List UInt8)) (w : World) (hn : ks.length = n) (hnb : n ≤ 1099511627776) (hk : RowsN 16 w ao ks) :
    Calls Tryz.prog 129 #[.slice ao n cap] w fun e w' => e = .returned (.agg ((plusB ks).map B).toArray) ∧ Below w.heap.size w w' := by
  have HN := Lib.hid hn
  have HK := Lib.hid hk
  have HS := Lib.hid (St.start w)
  have HZ := Lib.hid (zeros_length 16)
  clear hn hk
  go_enter Tryz.func129, Tryz.ntmps129
  go_wp2_with (refine wpList_var 52 ((zeros 16).map B) _ rfl rfl Tryz.zero16 rfl ?_)
  intro w1 hb hbel; have HS := Lib.hid (HS.out.push hb hbel); have hlt1 := hb.lt; clear hb hbel
  go_wp2_with (refine wpList_var 52 ((zeros 16).map B) _ rfl rfl Tryz.zero16 rfl ?_)
  intro w2 hb hbel; have HS := Lib.hid (HS.out.push hb hbel); have hlt2 := hb.lt; clear hb hbel
  generalize hbb : w.heap.size = bb at *
  generalize w1.heap.size = br at *
  have HBB := Lib.hid hbb
  clear hbb
  go_wp2
  go_loopw [9] (fun c wr => ∃ (i : Nat) (y : List UInt8), i ≤ n ∧ c = .int .i64 i ∧ Hid (y.length = 16) ∧ Hid ((ks.drop i).foldl both y = plusB ks ∧ True) ∧ Hid (St w bb wr [(br, y.map B, 52), (bb, (zeros 16).map B, 52)])) (fun c _ => n - (intOf c).toNat)
  case atStart => exact ⟨0, zeros 16, by omega, rfl, HZ, ⟨rfl, trivial⟩, HS⟩
  case round =>
    clear HS
    obtain ⟨i, y, hi, rfl, HY, HE, HS⟩ := hrel
    have HYM := Lib.hid (show (y.map B).length = 16 by rw [List.length_map]; exact HY.out)
    by_cases hlt : i < n
    · have hget : ks[i]? = some (key ks i) := key_get (by rw [HN.out]; exact hlt)
      obtain ⟨kb, koff, rfl, hkb, hr⟩ := (HK.out.below (by rw [HBB.out]; exact HS.out.bel)).range (by omega) hget
      have HKL := Lib.hid (show (key ks i).length = 16 from HK.out.each _ (List.mem_of_getElem? hget))
      have HKLM := Lib.hid (show ((key ks i).map B).length = 16 by rw [List.length_map]; exact HKL.out)
      have HE := Lib.hid (show (ks.drop (i + 1)).foldl both (both y (key ks i)) = plusB ks ∧ True from ⟨by
        rw [← HE.out.1, List.drop_eq_getElem_cons (l := ks) (i := i) (by rw [HN.out]; exact hlt), List.foldl_cons]
        congr 2
        have := List.getElem?_eq_getElem (l := ks) (i := i) (by rw [HN.out]; exact hlt)
        rw [hget] at this
        exact Option.some.inj this, trivial⟩)
      have HR := Lib.hid hr
      generalize key ks i = k at *
      clear hget hr
      go_wp2_with (first | (refine wpList_load_mid rfl 52 (.tmp 11) rfl kb (koff + i * 16) rfl _ _ HR.out Tryz.underlying52 rfl (by rw [HKLM.out]; exact Tryz.row16.2) ?_) | (refine wpList_var 52 ((zeros 16).map B) _ rfl rfl Tryz.zero16 rfl ?_))
      intro w3 hb hbel; have hz1 := (HS.out.get 0 rfl).lt; have hz0 := (HS.out.get 1 rfl).lt; have HS := Lib.hid (HS.out.push hb hbel); have hlt3 := hb.lt; clear hb hbel
      generalize wr.heap.size = bk at *
      go_wp2_with (refine (HS.out.get 0 rfl).wstore rfl rfl rfl rfl Tryz.row16 (by simp [zeros_length]) HKLM.out (oneCell_B _) ?_)
      intro w4 hb4 ho4
      have HS := Lib.hid (HS.out.change 0 hb4 ho4 (by omega) (by simp; omega))
      clear hb4 ho4
      go_wp2
      go_loopw [13] (fun c wr => ∃ (j : Nat) (l : List UInt8), j ≤ 16 ∧ c = .int .i64 j ∧ Hid (l.length = 16) ∧ Hid (∀ i, i < j → l[i]? = some (xor8 (at8 y i) (at8 k i))) ∧ Hid (∀ i, j ≤ i → l[i]? = y[i]?) ∧ Hid (St w bb wr [(bk, k.map B, 52), (br, l.map B, 52), (bb, (zeros 16).map B, 52)])) (fun c _ => 16 - (intOf c).toNat)
      case atStart => exact ⟨0, y, by omega, rfl, HY, fun i hi => absurd hi (by omega), fun i _ => rfl, HS⟩
      case round =>
        clear HS
        obtain ⟨j, l, hj, rfl, HLL, HL1, HL2, HS⟩ := hrel
        by_cases hlt2 : j < 16
        · have hd : decide ((j : Int) < 16) = true := by simp; omega
          have hx : l[j]? = some (at8 y j) := by rw [HL2.out j (Nat.le_refl _)]; exact at8_get (by rw [HY.out]; omega)
          have hc1 := fun (x : After wr.drew) => ((HS.out.drew.later x.later).get 1 rfl).cell j _ (mapB_at hx)
          have hc2 := fun (x : After wr.drew) => ((HS.out.drew.later x.later).get 0 rfl).cell j _ (mapB_at (at8_get (b := k) (i := j) (by rw [HKL.out]; omega)))
          clear hx
          go_wp2_with fail
          refine wp_region_R [0, 1, 2, 3, 4, 5, 6, 7, 8] (by kernel_rfl) (by kernel_rfl) ?_
          rintro w5 rfl
          repeat (refine walkR_one rfl rfl (fun K hK => ?_); go_big_quiet_step (fail); refine wpQuiet_nil (hK _ ?_); clear hK K)
          clear hc1 hc2
          refine walkR_free rfl rfl (by rfl) (fun K hK => ?_)
          refine (HS.out.drew.get 1 rfl).opset (v := B (xor8 (at8 y j) (at8 k j))) rfl rfl rfl Tryz.sizeByte rfl rfl (by rw [List.length_map, HLL.out]; omega) (fun w6 hb6 ho6 => hK _ _ ?_)
          clear hK K
          rw [mapB_set] at hb6
          have HS := Lib.hid (HS.out.drew.change 1 hb6 ho6 (by omega) (by simp; omega))
          clear ho6 hb6
          go_simp
          refine walkR_nil ?_
          go_wp2
          go_roundw
          case rel => exact ⟨j + 1, _, by omega, rfl, (by rw [List.length_set]; exact HLL.out), (both_step hlt2 HLL.out HL1.out HL2.out).1, (both_step hlt2 HLL.out HL1.out HL2.out).2, HS⟩
          case measure => simp [intOf]; omega
        · obtain rfl : j = 16 := by omega
          have hle := both_done HLL.out HL1.out
          rw [hle] at HS
          have HS := Lib.hid HS.out.tail
          clear hle
          go_wp2
          go_roundw
          case rel => exact ⟨i + 1, _, by omega, by go_num, both_length _ _, HE, HS⟩
          case measure => simp [intOf]; omega
    · obtain rfl : i = n := by omega
      have HE := Lib.hid (show y = plusB ks ∧ True from ⟨by rw [← HE.out.1, List.drop_eq_nil_of_le (by rw [HN.out]; omega)]; rfl, trivial⟩)
      go_wp2_with (first | (refine (HS.out.get 0 rfl).wload rfl rfl rfl Tryz.row16 HYM.out ?_) | (refine (HS.out.get 1 rfl).wstore rfl rfl rfl rfl Tryz.row16 (by rw [List.length_map]; exact zeros_length 16) HYM.out (oneCell_B _) ?_))
      intro w6 hb6 ho6
      have hbel6 := below_only HS.out.bel ho6 (by omega)
      go_wp2
      refine hb6.result rfl rfl rfl Tryz.row16 HYM.out ⟨by rw [HE.out.1], ?_⟩
      rw [HBB.out]
      exact hbel6

theorem clast_ok (ao : Option Addr) (n cap ahead : Nat) (m : List UInt8) (w : World) (hn : m.length = n) (h16 : 16 ≤ ahead) (ha : ahead ≤ n) (hc : n ≤ cap) (hb : n ≤ 1000000) (hl : Lies w ao (m.map B)) :
    Calls Tryz.prog 190 #[.slice ao n cap, .int .i64 ahead] w fun e w' => e = .returned (.agg ((lastOf m ahead).map B).toArray) ∧ Below w.heap.size w w' := by
  have HN := Lib.hid hn
  have HL := Lib.hid hl
  have HS := Lib.hid (St.start w)
  have e1 : (n : Int) - (ahead : Int) = ((n - ahead : Nat) : Int) := by omega
  have hf16 : fl 16 = 4625196817309499392 := by decide +kernel
  have HC := Lib.hid (show cutOf (floatOfInt .f64 ((n - ahead : Nat) : Int)) 4625196817309499392 n = some (n - ahead, 16) from by rw [← hf16]; exact cutOf_fl (n - ahead) 16 n (by omega) (by omega))
  have HX := Lib.hid (show block ((m.drop (n - ahead)).take 16) = lastOf m ahead ∧ True from ⟨by unfold lastOf; rw [hn], trivial⟩)
  have HXL := Lib.hid (show (lastOf m ahead).length = 16 by unfold lastOf; exact block_length _)
  obtain ⟨z, hz⟩ : ∃ z, z = n - ahead := ⟨_, rfl⟩
  rw [← hz] at e1 HC HX
  have HZL := Lib.hid (show ((m.drop z).take 16).length = 16 by simp; omega)
  clear hn hl hz hf16
  go_enter Tryz.func190, Tryz.ntmps190
  go_wp2_with (refine wpList_var 52 ((zeros 16).map B) _ rfl rfl Tryz.zero16 rfl ?_)
  intro w1 hb hbel; have HS := Lib.hid (HS.out.push hb hbel); have hlt1 := hb.lt; clear hb hbel
  generalize hbb : w.heap.size = bb at *
  have HBB := Lib.hid hbb
  clear hbb
  go_wp2_with fail
  refine (of_ok ao n cap m (floatOfInt .f64 (z : Int)) 4625196817309499392 z 16 _ HN.out hc (by omega) (HL.out.below (HS.out.old HBB.out)) HC.out).mono ?_
  rintro e w2 ⟨v2, rfl, hown, hbel⟩
  obtain ⟨ao2, cap2, rfl, hc2, _, hl2⟩ := own_form hown
  have HS := Lib.hid (HS.out.later hbel)
  have HL2 := Lib.hid hl2
  clear hown hbel hl2
  go_wp2_with fail
  refine (block_ok ao2 16 cap2 ((m.drop z).take 16) _ HZL.out HL2.out).mono ?_
  rintro e w3 ⟨rfl, hbel⟩
  have HS := Lib.hid (HS.out.later hbel)
  rw [HX.out.1]
  clear hbel HL2 hc2
  go_wp2_with (refine (HS.out.get 0 rfl).wstore rfl rfl rfl rfl Tryz.row16 (by rw [List.length_map]; exact zeros_length 16) (by rw [List.length_map]; exact HXL.out) (oneCell_B _) ?_)
  intro w4 hb4 ho4
  have hbel4 := below_only HS.out.bel ho4 (Nat.le_refl _)
  go_wp2
  refine hb4.result rfl rfl rfl Tryz.row16 (by rw [List.length_map]; exact HXL.out) ⟨rfl, ?_⟩
  rw [HBB.out]
  exact hbel4

/-- A message in memory. -/
def msgV (pv uv vv : Value) (x y : List UInt8) : List Value := pv :: uv :: vv :: (x.map B ++ y.map B)
theorem msgV_length {pv uv vv : Value} {x y : List UInt8} (hx : x.length = 16) (hy : y.length = 16) : (msgV pv uv vv x y).length = 35 := by simp [msgV, hx, hy]
theorem msgV_one {pv uv vv : Value} {x y : List UInt8} (hp : pv.oneCell' = true) (hu : uv.oneCell' = true) (hv : vv.oneCell' = true) : ∀ z ∈ msgV pv uv vv x y, z.oneCell' = true := by
  intro z hz
  simp only [msgV, List.mem_cons, List.mem_append] at hz
  rcases hz with rfl | rfl | rfl | hz | hz
  · exact hp
  · exact hu
  · exact hv
  · exact oneCell_B _ _ hz
  · exact oneCell_B _ _ hz
theorem Tryz.rowMsg : Row Tryz.prog 189 35 := ⟨by kernel_rfl, by kernel_rfl⟩
theorem Tryz.zeroMsg : (Tryz.prog.info? 189).map (·.zero) = some (some (.agg (msgV (.slice none 0 0) (.slice none 0 0) (.slice none 0 0) (zeros 16) (zeros 16)).toArray)) := by kernel_rfl
theorem Tryz.infoPair : (Tryz.prog.info? 253).map (fun i => (i.zero, i.size, i.bytes)) = some (some (.agg ((zeros 32).map B).toArray), 32, 32) := by kernel_rfl
theorem Tryz.zsPair : (Tryz.prog.info? 253).map (fun i => (i.zero, i.size)) = some (some (.agg ((zeros 32).map B).toArray), 32) := by kernel_rfl
theorem Tryz.rowPair : Row Tryz.prog 253 32 := ⟨by kernel_rfl, by kernel_rfl⟩
theorem Tryz.zeroPair : (Tryz.prog.info? 253).map (·.zero) = some (some (.agg ((zeros 32).map B).toArray)) := by kernel_rfl
theorem Tryz.sizeBytes : (Tryz.prog.info? 22).map (·.size) = some 1 := by kernel_rfl
theorem Tryz.sizePairs : (Tryz.prog.info? 187).map (·.size) = some 1 := by kernel_rfl
theorem built_pair (a b : List UInt8) (ha : a.length = 16) (hb : b.length = 16) : Tryz.prog.built 253 [(0, .agg (a.map B).toArray), (1, .agg (b.map B).toArray)] = some ((a ++ b).map B).toArray := by
  obtain ⟨a0, a1, a2, a3, a4, a5, a6, a7, a8, a9, aa, ab, ac, ad, ae, af, rfl⟩ := list16 ha
  obtain ⟨b0, b1, b2, b3, b4, b5, b6, b7, b8, b9, ba, bb, bc, bd, be, bf, rfl⟩ := list16 hb
  kernel_rfl
theorem built_msg (a b : List UInt8) (ha : a.length = 16) (hb : b.length = 16) : Tryz.prog.built 189 [(3, .agg (a.map B).toArray), (4, .agg (b.map B).toArray)] = some (msgV (.slice none 0 0) (.slice none 0 0) (.slice none 0 0) a b).toArray := by
  obtain ⟨a0, a1, a2, a3, a4, a5, a6, a7, a8, a9, aa, ab, ac, ad, ae, af, rfl⟩ := list16 ha
  obtain ⟨b0, b1, b2, b3, b4, b5, b6, b7, b8, b9, ba, bb, bc, bd, be, bf, rfl⟩ := list16 hb
  kernel_rfl

abbrev ApartFrame (bb bx : Nat) (ao : Option Addr) (len cap : Nat) (us : Nat → Value) : Act := { tmps := #[.slice ao len cap, us 1, .pointer (some ⟨bb, 0, none⟩), .pointer (some ⟨bx, 0, none⟩), us 4, us 5, us 6, us 7, us 8, us 9, us 10, us 11, us 12, us 13, us 14, us 15, us 16, us 17, us 18, us 19, us 20, us 21, us 22, us 23, us 24, us 25, us 26, us 27, us 28, us 29, us 30, us 31, us 32, us 33, us 34, us 35, us 36, us 37, us 38, us 39, us 40, us 41, us 42], defers := [] }
/-- The state at the label. -/
def ApartAt (bb : Nat) (X Y bm : List UInt8) (N : Nat) (w : World) (x : Act) (wr : World) : Prop :=
  ∃ (us : Nat → Value) (bx : Nat) (ao : Option Addr) (len cap f : Nat) (r : List UInt8) (pv : Value) (ps : Pairs), x = ApartFrame bb bx ao len cap us ∧ bb < bx ∧ len ≤ cap ∧ 32 * ps.length + len ≤ 1000000 ∧ len ≤ f ∧ Hid (r.length = len) ∧ Hid (Lies w ao (r.map B)) ∧
    Hid (wr.ownsRow (bx + 1) 253 32 pv ps.length ((flatP ps).map B)) ∧ Hid (St w bb wr [(bx, msgV pv (.slice none 0 0) (.slice none 0 0) X Y, 189), (bb, msgV (.slice none 0 0) (.slice none 0 0) (.slice none 0 0) (zeros 16) (zeros 16), 189)]) ∧
    Hid (ps ++ pairsGo f r = pairsGo N bm ∧ restGo f r = restGo N bm)
theorem ApartAt.intro {bb : Nat} {X Y bm : List UInt8} {N : Nat} {w : World} {x : Act} {wr : World} (bx : Nat) (ao : Option Addr) (len cap f : Nat) (r : List UInt8) (pv : Value) (ps : Pairs) (hx : x = ApartFrame bb bx ao len cap (fun i => x.tmps.getD i undef)) (h1 : bb < bx) (h2 : len ≤ cap) (h3 : 32 * ps.length + len ≤ 1000000) (h4 : len ≤ f) (h5 : r.length = len) (h6 : Lies w ao (r.map B))
    (h7 : wr.ownsRow (bx + 1) 253 32 pv ps.length ((flatP ps).map B)) (h8 : St w bb wr [(bx, msgV pv (.slice none 0 0) (.slice none 0 0) X Y, 189), (bb, msgV (.slice none 0 0) (.slice none 0 0) (.slice none 0 0) (zeros 16) (zeros 16), 189)])
    (h9 : ps ++ pairsGo f r = pairsGo N bm ∧ restGo f r = restGo N bm) : ApartAt bb X Y bm N w x wr := ⟨_, bx, ao, len, cap, f, r, pv, ps, hx, h1, h2, h3, h4, h5, h6, h7, h8, h9⟩
theorem flatP_snoc : ∀ (ps : Pairs) (p : List UInt8 × List UInt8), flatP (ps ++ [p]) = flatP ps ++ (p.1 ++ p.2)
  | [], p => by simp [flatP]
  | q :: ps, p => by simp only [List.cons_append, flatP, flatP_snoc ps p, List.append_assoc]
theorem pairsGo_short {f : Nat} {r : List UInt8} (h : r.length < 32) : pairsGo f r = [] ∧ restGo f r = r := by
  cases f with
  | zero => exact ⟨rfl, rfl⟩
  | succ f => unfold pairsGo restGo; rw [if_neg (by omega), if_neg (by omega)]; exact ⟨rfl, rfl⟩

set_option maxHeartbeats 2000000 in
theorem apart_ok (ao : Option Addr) (n cap : Nat) (m : List UInt8) (w : World) (hn : m.length = n) (h32 : 32 ≤ n) (hnb : n ≤ 1000000) (hc : n ≤ cap) (hl : Lies w ao (m.map B)) :
    Calls Tryz.prog 128 #[.slice ao n cap] w fun e w' => ∃ pv ua uc va vc, e = .returned (.agg (msgV pv (.slice ua (apartC m).u.length uc) (.slice va (apartC m).v.length vc) (apartC m).x (apartC m).y).toArray) ∧
      w'.ownsRow w.heap.size 253 32 pv (apartC m).pairs.length ((flatP (apartC m).pairs).map B) ∧ Lies w ua ((apartC m).u.map B) ∧ Lies w va ((apartC m).v.map B) ∧ Below w.heap.size w w' := by
  obtain ⟨i0, hi0, hq0, hq1, hq2⟩ := info_parts Tryz.infoPair
  have HI := Lib.hid (And.intro hi0 (And.intro hq0 (And.intro hq1 hq2)))
  have HT := Lib.hid (show (253 : TypeId) ≠ 189 by decide)
  clear hi0 hq0 hq1 hq2
  have HN := Lib.hid hn
  have HL := Lib.hid hl
  have HS := Lib.hid (St.start w)
  have HX := Lib.hid (show (lastOf m 32).length = 16 by unfold lastOf; exact block_length _)
  have HY := Lib.hid (show (lastOf m 16).length = 16 by unfold lastOf; exact block_length _)
  have HXE := Lib.hid (show (apartC m).x = lastOf m 32 ∧ (apartC m).y = lastOf m 16 ∧ (apartC m).pairs = pairsGo n (m.take (n - 32)) ∧ (apartC m).u = (restGo n (m.take (n - 32))).take 16 ∧ (apartC m).v = (restGo n (m.take (n - 32))).drop 16 from ⟨rfl, rfl, by subst hn; rfl, by subst hn; rfl, by subst hn; rfl⟩)
  have hbm := built_msg (lastOf m 32) (lastOf m 16) HX.out HY.out
  obtain ⟨X, hX⟩ : ∃ X, X = lastOf m 32 := ⟨_, rfl⟩
  obtain ⟨Y, hY⟩ : ∃ Y, Y = lastOf m 16 := ⟨_, rfl⟩
  obtain ⟨z, hz⟩ : ∃ z, z = n - 32 := ⟨_, rfl⟩
  have HXX := Lib.hid (show lastOf m 32 = X ∧ True from ⟨hX.symm, trivial⟩)
  have HYY := Lib.hid (show lastOf m 16 = Y ∧ True from ⟨hY.symm, trivial⟩)
  rw [← hX] at HX
  rw [← hY] at HY
  rw [← hX, ← hY] at hbm
  rw [← hX, ← hY, ← hz] at HXE
  have hzb : z + 32 = n := by omega
  have e1 : (n : Int) - 32 = (z : Int) := by omega
  clear hn hl hX hY hz
  go_enter Tryz.func128, Tryz.ntmps128
  go_wp2_with (refine wpList_var 189 (msgV (.slice none 0 0) (.slice none 0 0) (.slice none 0 0) (zeros 16) (zeros 16)) _ rfl rfl Tryz.zeroMsg rfl ?_)
  intro w1 hb hbel; have HS := Lib.hid (HS.out.push hb hbel); have hlt1 := hb.lt; clear hb hbel
  generalize hbb : w.heap.size = bb at *
  have HBB := Lib.hid hbb
  clear hbb
  go_wp2_with fail
  refine wp_scope_label 0 (ApartAt bb X Y (m.take z) n w) (fun x _ => lenV (x.tmps.getD 0 undef)) rfl ?_ ?_
  · simp only [wpPre]
    go_wp2_with fail
    refine (clast_ok ao n cap 32 m _ HN.out (by omega) h32 hc hnb (HL.out.below (HS.out.old HBB.out))).mono ?_
    rintro e w2 ⟨rfl, hbel⟩
    rw [HXX.out.1]
    have HS := Lib.hid (HS.out.later hbel)
    clear hbel
    go_wp2_with fail
    refine (clast_ok ao n cap 16 m _ HN.out (by omega) (by omega) hc hnb (HL.out.below (HS.out.old HBB.out))).mono ?_
    rintro e w3 ⟨rfl, hbel⟩
    rw [HYY.out.1]
    have HS := Lib.hid (HS.out.later hbel)
    clear hbel
    have hz3 : bb < w3.heap.size := (HS.out.get 0 rfl).lt
    go_wp2_with (first | (refine wpList_built1 189 _ _ _ rfl rfl rfl hbm ?_) | (refine wpList_var 189 (msgV (.slice none 0 0) (.slice none 0 0) (.slice none 0 0) (zeros 16) (zeros 16)) _ rfl rfl Tryz.zeroMsg rfl ?_))
    intro w4 hb hbel; have HS := Lib.hid (HS.out.push hb hbel); have hlt4 := hb.lt; clear hb hbel
    have hs0 := fun w => run_cut_hi (P := Tryz.prog) w 22 5 1 Tryz.underlying22 Tryz.sizeByte ao n cap z (by omega)
    go_wp2_with (refine (HS.out.get 0 rfl).wstore rfl rfl rfl (cs := msgV (.slice none 0 0) (.slice none 0 0) (.slice none 0 0) X Y) rfl Tryz.rowMsg (msgV_length (zeros_length 16) (zeros_length 16)) (msgV_length HX.out HY.out) (msgV_one rfl rfl rfl) ?_)
    intro w5 hb5 ho5
    have HS := Lib.hid (show St w bb w5 [(w3.heap.size, msgV (.slice none 0 0) (.slice none 0 0) (.slice none 0 0) X Y, 189), (bb, msgV (.slice none 0 0) (.slice none 0 0) (.slice none 0 0) (zeros 16) (zeros 16), 189)] from HS.out.change 0 hb5 ho5 (by omega) (by simp; omega))
    clear hb5 ho5
    go_wp2
    refine ApartAt.intro w3.heap.size ao z cap n (m.take z) (.slice none 0 0) [] rfl hz3 (by omega) (by simp; omega) (by omega) (by rw [List.length_take, HN.out]; omega) ?_ (nil_owns _ _ _ _) HS.out ⟨rfl, rfl⟩
    rw [List.map_take]
    exact HL.out.take _
  · clear HS hlt1
    rintro x wr ⟨us, bx, ar, len, cr, f, r, pv, ps, rfl, hbx, hlc, hlb, hlf, HR, HLR, HO, HS, HP⟩
    generalize List.take z m = bm at *
    by_cases h : 32 ≤ len
    · obtain ⟨f, rfl⟩ : ∃ g, f = g + 1 := ⟨f - 1, by omega⟩
      have hs1 := fun w => run_cut_low (P := Tryz.prog) w 22 5 1 Tryz.underlying22 Tryz.sizeByte ar len cr 16 16 rfl (by omega)
      have hs2 := fun w => run_cut_low (P := Tryz.prog) w 22 5 1 Tryz.underlying22 Tryz.sizeByte ar len cr 32 32 rfl h
      have d : decide ((len : Int) ≥ 32) = true := by simp; omega
      have HP := Lib.hid (show (ps ++ [(block r, block (r.drop 16))]) ++ pairsGo f (r.drop 32) = pairsGo n bm ∧ restGo f (r.drop 32) = restGo n bm from by
        have h1 := HP.out.1
        have h2 := HP.out.2
        have hr := HR.out
        rw [pairsGo, if_pos (by omega)] at h1
        rw [restGo, if_pos (by omega)] at h2
        exact ⟨by rw [← h1]; simp, h2⟩)
      have hcp := fun (y : After wr.drew) => ((HS.out.drew.later y.later).get 0 rfl).cell 0 _ rfl
      go_wp2_with fail
      refine wp_region_R [0, 1, 2, 4, 5, 3, 6, 7, 8, 9, 10, 11] (by kernel_rfl) (by kernel_rfl) ?_
      rintro w2 rfl
      repeat (refine walkR_one rfl rfl (fun K hK => ?_); go_big_quiet_step (fail); refine wpQuiet_nil (hK _ ?_); clear hK K)
      clear hcp
      have HS := Lib.hid HS.out.drew
      have HO := Lib.hid (show wr.drew.ownsRow (bx + 1) 253 32 pv ps.length ((flatP ps).map B) from HO.out)
      refine walkR_call rfl rfl (by rfl) (fun K hK => ?_)
      go_simp
      refine (block_ok ar len cr r _ HR.out (HLR.out.below (HS.out.old HBB.out))).mono ?_
      rintro e w5 ⟨rfl, hbel⟩
      have HS := Lib.hid (HS.out.later hbel)
      have HO := Lib.hid (own_below HO.out hbel)
      go_simp
      refine hK _ _ hbel ?_
      clear hK K hbel
      refine walkR_call rfl rfl (by rfl) (fun K hK => ?_)
      go_simp
      refine (block_ok (cutAddr ar cr 16) (len - 16) (cr - 16) (r.drop 16) _ (by rw [List.length_drop, HR.out]) ((Lies.dropA HLR.out (by rw [HR.out]; exact hlc) 16).below (HS.out.old HBB.out))).mono ?_
      rintro e w6 ⟨rfl, hbel⟩
      have HS := Lib.hid (HS.out.later hbel)
      have HO := Lib.hid (own_below HO.out hbel)
      go_simp
      refine hK _ _ hbel ?_
      clear hK K hbel
      have HB1 := Lib.hid (block_length r)
      have HB2 := Lib.hid (block_length (r.drop 16))
      generalize block r = b1 at *
      generalize block (r.drop 16) = b2 at *
      have hbp := built_pair b1 b2 HB1.out HB2.out
      refine walkR_build rfl rfl (by rfl) 253 _ [(0, .agg (b1.map B).toArray), (1, .agg (b2.map B).toArray)] _ rfl rfl hbp (fun K hK => ?_)
      go_simp
      refine hK _ ?_
      clear hK K hbp
      have hz6 : bx < w6.heap.size := (HS.out.get 0 rfl).lt
      refine walkR_call rfl rfl (by rfl) (fun K hK => ?_)
      refine oprows 187 253 32 1 _ [b1.map B ++ b2.map B] rfl rfl Tryz.underlying187 Tryz.zsPair rfl (by omega) rfl (by omega) (by omega) (by simp [HB1.out, HB2.out]) ?_
      intro w7 hb7 hbel7
      have HS := Lib.hid (HS.out.later hbel7)
      have HO := Lib.hid (own_below HO.out hbel7)
      have HN7 := Lib.hid (show Lies w7 (some ⟨w6.heap.size, 0, none⟩) (b1.map B ++ b2.map B) from by have := hb7.lies; simpa using this)
      have hz7 : bx < w7.heap.size := (HS.out.get 0 rfl).lt
      refine hK _ _ hbel7 ?_
      clear hK K hb7 hbel7
      go_simp
      generalize w6.heap.size = bw6 at *
      refine walkR_free rfl rfl (by rfl) (fun K hK => ?_)
      refine wp_append_own _ (.tmp 18) (.tmp 25) 187 rfl (bx + 1) 253 i0 _ 32 32 Tryz.underlying187 HI.out.1 HI.out.2.1 HI.out.2.2.1 HI.out.2.2.2 rfl (by decide) pv ps.length _ rfl HO.out ⟨bw6, 0, none⟩ 1 1 (b1.map B ++ b2.map B) rfl (by simp [HB1.out, HB2.out]) HN7.out.news (by intro u hu; rcases List.mem_append.1 hu with hu | hu <;> exact oneCell_B _ _ hu) (by unfold maxLen; omega) (by omega) (by omega) ?_
      intro v8 w8 hown8 hg8 _
      refine hK _ _ ?_
      clear hK K
      have hbel8 : Below (bx + 1) w7 w8 := below_append (Below.refl (bx + 1) w7) HO.out hg8 (Nat.le_refl _) (by omega)
      have HS := Lib.hid (HS.out.low hbel8 (by omega) (by intro e he; simp at he; rcases he with rfl | rfl <;> simp <;> omega))
      have HO := Lib.hid (show w8.ownsRow (bx + 1) 253 32 v8 (ps.length + 1) ((flatP (ps ++ [(b1, b2)])).map B) from by rw [flatP_snoc]; simpa using hown8)
      clear hown8 hg8 hbel8 HN7
      obtain ⟨a8, c8, rfl, _, _, _⟩ := own_form HO.out
      go_simp
      repeat (refine walkR_one rfl rfl (fun K hK => ?_); go_big_quiet_step (fail); refine wpQuiet_nil (hK _ ?_); clear hK K)
      refine walkR_free rfl rfl (by rfl) (fun K hK => ?_)
      refine (HS.out.get 0 rfl).opset (v := .slice a8 (ps.length + 1) c8) (i := 0) rfl rfl rfl Tryz.sizePairs rfl rfl (by simp [msgV]) (fun w9 hb9 ho9 => hK _ _ ?_)
      clear hK K
      have HO := Lib.hid (own_only_ty HO.out (HS.out.get 0 rfl) HT.out ho9)
      have HS := Lib.hid (show St w bb w9 [(bx, msgV (.slice a8 (ps.length + 1) c8) (.slice none 0 0) (.slice none 0 0) X Y, 189), (bb, msgV (.slice none 0 0) (.slice none 0 0) (.slice none 0 0) (zeros 16) (zeros 16), 189)] from HS.out.change 0 hb9 ho9 (by omega) (by simp; omega))
      clear hb9 ho9
      go_simp
      refine walkR_nil ?_
      go_wp2
      refine wp_goto ⟨rfl, ApartAt.intro bx (cutAddr ar cr 32) (len - 32) (cr - 32) f (r.drop 32) _ (ps ++ [(b1, b2)]) rfl hbx (by omega) (by simp; omega) (by omega) (by rw [List.length_drop, HR.out]) (Lies.dropA HLR.out (by rw [HR.out]; exact hlc) 32) (by rw [List.length_append]; exact HO.out) HS.out HP.out, ?_⟩
      simp [lenV]; omega
    · have d : decide ((len : Int) ≥ 32) = false := by simp; omega
      have hm : ∃ ul : Nat, ul = min len 16 ∧ (if (16 : Int) < len then (16 : Int) else len) = (ul : Int) := ⟨_, rfl, by split <;> omega⟩
      obtain ⟨ul, hul, hm⟩ := hm
      have hu1 : ul ≤ 16 := by omega
      have hu2 : ul ≤ len := by omega
      have HU := Lib.hid hul
      clear hul
      have hs1 := fun w => run_cut_hi (P := Tryz.prog) w 22 5 1 Tryz.underlying22 Tryz.sizeByte ar len cr ul (by omega)
      have hs2 := fun w => run_cut_low (P := Tryz.prog) w 22 5 1 Tryz.underlying22 Tryz.sizeByte ar len cr ul ul rfl (by omega)
      have HP := Lib.hid (show ps = pairsGo n bm ∧ r = restGo n bm from by
        have h1 := HP.out.1
        have h2 := HP.out.2
        obtain ⟨e1, e2⟩ := pairsGo_short (f := f) (r := r) (by rw [HR.out]; omega)
        rw [e1] at h1
        rw [e2] at h2
        exact ⟨by simpa using h1, h2⟩)
      go_wp2_with (refine (HS.out.get 0 rfl).wset1 1 (.slice ar ul cr) rfl rfl rfl rfl Tryz.sizeBytes rfl rfl (by simp [msgV]) ?_)
      intro w5 hb5 ho5
      have HO := Lib.hid (own_only_ty HO.out (HS.out.get 0 rfl) HT.out ho5)
      have HS := Lib.hid (show St w bb w5 [(bx, msgV pv (.slice ar ul cr) (.slice none 0 0) X Y, 189), (bb, msgV (.slice none 0 0) (.slice none 0 0) (.slice none 0 0) (zeros 16) (zeros 16), 189)] from HS.out.change 0 hb5 ho5 (by omega) (by simp; omega))
      clear hb5 ho5
      have hcu := (HS.out.get 0 rfl).cell 1 _ rfl
      go_wp2_with (refine (HS.out.get 0 rfl).wset1 2 (.slice (cutAddr ar cr ul) (len - ul) (cr - ul)) rfl rfl rfl rfl Tryz.sizeBytes rfl rfl (by simp [msgV]) ?_)
      intro w6 hb6 ho6
      have HO := Lib.hid (own_only_ty HO.out (HS.out.get 0 rfl) HT.out ho6)
      have HS := Lib.hid (show St w bb w6 [(bx, msgV pv (.slice ar ul cr) (.slice (cutAddr ar cr ul) (len - ul) (cr - ul)) X Y, 189), (bb, msgV (.slice none 0 0) (.slice none 0 0) (.slice none 0 0) (zeros 16) (zeros 16), 189)] from HS.out.change 0 hb6 ho6 (by omega) (by simp; omega))
      clear hb6 ho6 hcu
      obtain ⟨ap, np, cp, hpv, _⟩ : ∃ ap np cp, pv = .slice ap np cp ∧ True := by
        obtain ⟨ap, cp, e, _⟩ := own_form HO.out
        exact ⟨ap, _, cp, e, trivial⟩
      subst hpv
      go_wp2_with (first | (refine (HS.out.get 0 rfl).wload rfl rfl rfl Tryz.rowMsg (msgV_length HX.out HY.out) ?_) | (refine (HS.out.get 1 rfl).wstore rfl rfl rfl (cs := msgV (.slice ap np cp) (.slice ar ul cr) (.slice (cutAddr ar cr ul) (len - ul) (cr - ul)) X Y) rfl Tryz.rowMsg (msgV_length (zeros_length 16) (zeros_length 16)) (msgV_length HX.out HY.out) (msgV_one rfl rfl rfl) ?_))
      intro w7 hb7 ho7
      have HO := Lib.hid (own_only_ty HO.out (HS.out.get 1 rfl) HT.out ho7)
      have hbel7 := below_only HS.out.bel ho7 (Nat.le_refl _)
      have huu : (apartC m).u.length = ul := by rw [HXE.out.2.2.2.1, ← HP.out.2, List.length_take, HR.out, HU.out]; omega
      have hvv : (apartC m).v.length = len - ul := by rw [HXE.out.2.2.2.2, ← HP.out.2, List.length_drop, HR.out]; have := HU.out; omega
      go_wp2
      refine hb7.result rfl rfl rfl Tryz.rowMsg (msgV_length HX.out HY.out) ⟨.slice ap np cp, ar, cr, cutAddr ar cr ul, cr - ul, ?_, ?_, ?_, ?_, by rw [HBB.out]; exact hbel7⟩
      · rw [huu, hvv, HXE.out.1, HXE.out.2.1]
      · rw [HXE.out.2.2.1, ← HP.out.1, HBB.out]
        exact own_le HO.out (by omega)
      · rw [HXE.out.2.2.2.1, ← HP.out.2, List.map_take]
        exact HLR.out.take _
      · rw [HXE.out.2.2.2.2, ← HP.out.2]
        have hul : ul = min len 16 := HU.out
        by_cases h16 : len ≤ 16
        · rw [List.drop_eq_nil_of_le (by rw [HR.out]; exact h16)]
          exact Lies.nil _ _
        · obtain rfl : ul = 16 := by omega
          exact Lies.dropA HLR.out (by rw [HR.out]; exact hlc) 16

end Go.Proofs.YtbpghohkhngdfaaGreatDoor
/-
  The walks of ezcore: a message's bytes, its tail.
-/
set_option linter.unusedSimpArgs false
set_option linter.unusedVariables false
namespace Go.Cells
open Go.RowKit Go.Mem
/-- A piece of a block lies where it stands. -/
theorem Blk.liesIn {w : World} {b : Nat} {vs : List Value} {ty : TypeId} (h : Blk w b vs ty) (off : Nat) {us : List Value} (hu : (vs.drop off).take us.length = us) : Lies w (some ⟨b, off, none⟩) us := by
  intro j u hj
  refine ⟨b, off, rfl, h.cell (off + j) u ?_⟩
  have hjl : j < us.length := (List.getElem?_eq_some_iff.1 hj).1
  rw [← hj]
  conv => rhs; rw [← hu]
  rw [List.getElem?_take_of_lt hjl, List.getElem?_drop]
end Go.Cells
namespace Go.Proofs.YtbpghohkhngdfaaGreatDoor
open Go.RowKit Go.Mem Go.Ops Go.Cells Go.Oct Go.Gf Go.Trn Go.Aes Go.Ring Go.Ezk Go.Ezh Go.Ezt Go.Ezc Go.CutP Go.Fl
set_option maxRecDepth 100000
attribute [local irreducible] walkR walkP walk0 walkB walkK

def pcat (p : List UInt8 × List UInt8) : List UInt8 := p.1 ++ p.2
theorem pcat_length {p : List UInt8 × List UInt8} (h : PairFit p) : (pcat p).length = 32 := by simp [pcat, h.1, h.2]
theorem flatP_flat : ∀ (ps : Pairs), flatP ps = (ps.map pcat).flatten
  | [] => rfl
  | p :: r => by simp only [flatP, List.map_cons, List.flatten_cons, flatP_flat r]; rfl
theorem rows_pairs {w : World} {ap : Option Addr} {ps : Pairs} (hf : ∀ p ∈ ps, PairFit p) (hl : Lies w ap ((flatP ps).map B)) : RowsN 32 w ap (ps.map pcat) :=
  ⟨fun k hk => by obtain ⟨p, hp, rfl⟩ := List.mem_map.1 hk; exact pcat_length (hf p hp), by rw [← flatP_flat]; exact hl⟩
theorem take_snoc' {α : Type} {l : List α} {i : Nat} {x : α} (h : l[i]? = some x) : l.take (i + 1) = l.take i ++ [x] := by
  rw [List.take_add_one, h]; rfl
theorem msgV_x {pv uv vv : Value} {x y : List UInt8} (hx : x.length = 16) : ((msgV pv uv vv x y).drop 3).take 16 = x.map B := by
  simp [msgV, hx, List.take_append]
theorem msgV_y {pv uv vv : Value} {x y : List UInt8} (hx : x.length = 16) (hy : y.length = 16) : ((msgV pv uv vv x y).drop 19).take 16 = y.map B := by
  have : (msgV pv uv vv x y).drop 19 = y.map B := by
    show (x.map B ++ y.map B).drop 16 = _
    rw [show (16 : Nat) = (x.map B).length by simp [hx], List.drop_left]
  rw [this, List.take_of_length_le (by simp [hy])]

set_option maxHeartbeats 4000000 in
theorem cbytes_ok (m : Msg) (ap : Option Addr) (np cp : Nat) (ua va : Option Addr) (nu nv uc vc : Nat) (w : World) (hf : m.Fit) (hnp : m.pairs.length = np) (hnu : m.u.length = nu) (hnv : m.v.length = nv) (hp : RowsN 32 w ap (m.pairs.map pcat)) (hu : Lies w ua (m.u.map B)) (hv : Lies w va (m.v.map B)) (hb : 32 * np ≤ 1000000) :
    Calls Tryz.prog 133 #[.agg (msgV (.slice ap np cp) (.slice ua nu uc) (.slice va nv vc) m.x m.y).toArray] w fun e w' => ∃ v, e = .returned v ∧ w'.ownsRow w.heap.size 5 1 v (bytesC m).length ((bytesC m).map B) ∧ Below w.heap.size w w' := by
  obtain ⟨i0, hi0, hz0, hz1, hz2⟩ := info_parts Tryz.infoB
  have HI := Lib.hid (And.intro hi0 (And.intro hz0 (And.intro hz1 hz2)))
  have HT := Lib.hid (show (5 : TypeId) ≠ 253 by decide)
  have HF := Lib.hid hf
  have HNP := Lib.hid hnp
  have HNU := Lib.hid hnu
  have HNV := Lib.hid hnv
  have HP := Lib.hid hp
  have HU := Lib.hid hu
  have HV := Lib.hid hv
  have HS := Lib.hid (St.start w)
  have hu16 : nu ≤ 16 := by rw [← hnu]; exact hf.u
  have hv16 : nv < 16 := by rw [← hnv]; exact hf.v
  obtain ⟨V, hV⟩ : ∃ V, V = msgV (.slice ap np cp) (.slice ua nu uc) (.slice va nv vc) m.x m.y := ⟨_, rfl⟩
  have HVV := Lib.hid (show V = msgV (.slice ap np cp) (.slice ua nu uc) (.slice va nv vc) m.x m.y ∧ True from ⟨hV, trivial⟩)
  rw [← hV]
  clear hi0 hz0 hz1 hz2 hf hnp hnu hnv hp hu hv hV
  go_enter Tryz.func133, Tryz.ntmps133
  go_wp2_with (refine wpList_box 189 _ (V) _ rfl rfl rfl rfl ?_)
  intro w1 hb hbel; have HS := Lib.hid (HS.out.push hb hbel); have hlt1 := hb.lt; clear hb hbel
  generalize hbb : w.heap.size = bb at *
  have HBB := Lib.hid hbb
  clear hbb
  have hc0 := (HS.out.get 0 rfl).cell 0 (.slice ap np cp) (by rw [HVV.out.1]; rfl)
  have hz1 := HS.out.size
  have hbase : bb < w1.heap.size := hlt1
  go_wp2
  go_loopw [3, 9] (fun v c wr => ∃ i : Nat, i ≤ np ∧ c = .int .i64 i ∧ Hid (wr.ownsRow (bb + 1) 5 1 v (32 * i) ((flatP (m.pairs.take i)).map B)) ∧ Hid (St w bb wr [(bb, V, 189)])) (fun _ c _ => np - (intOf c).toNat)
  case atStart => exact ⟨0, by omega, rfl, Lib.hid (by simpa [flatP] using nil_owns w1 (bb + 1) _ 1), HS⟩
  case round =>
    clear HS hc0
    obtain ⟨i, hi, rfl, HO, HS⟩ := hrel
    have hwr : bb < wr.heap.size := (HS.out.get 0 rfl).lt
    by_cases hlt : i < np
    · obtain ⟨p, hpi⟩ : ∃ p, m.pairs[i]? = some p := ⟨m.pairs[i]'(by rw [HNP.out]; exact hlt), by simp⟩
      have HPF := Lib.hid (HF.out.pairs p (List.mem_of_getElem? hpi))
      obtain ⟨kb, koff, rfl, hkb, hr⟩ := (HP.out.below (by rw [HBB.out]; exact HS.out.bel)).range (by omega) (show (m.pairs.map pcat)[i]? = some (pcat p) by rw [List.getElem?_map, hpi]; rfl)
      have HTK := Lib.hid (show flatP (m.pairs.take (i + 1)) = flatP (m.pairs.take i) ++ (p.1 ++ p.2) ∧ True from ⟨by rw [take_snoc' hpi, flatP_snoc], trivial⟩)
      have HR := Lib.hid hr
      have HKLM := Lib.hid (show ((pcat p).map B).length = 32 by rw [List.length_map]; exact pcat_length HPF.out)
      clear hpi hr
      go_wp2_with (first | (refine wpList_load_mid rfl 253 (.tmp 11) rfl kb (koff + i * 32) rfl _ _ HR.out Tryz.underlying253 rfl (by rw [HKLM.out]; exact Tryz.rowPair.2) ?_) | (refine wpList_var 253 ((zeros 32).map B) _ rfl rfl Tryz.zeroPair rfl ?_))
      intro w3 hb hbel; have HO := Lib.hid (own_below HO.out hbel); have HS := Lib.hid (HS.out.push hb hbel); have hlt3 := hb.lt; clear hb hbel
      generalize wr.heap.size = bk at *
      go_wp2_with (refine (HS.out.get 0 rfl).wstore rfl rfl rfl rfl Tryz.rowPair (by rw [List.length_map]; exact zeros_length 32) HKLM.out (oneCell_B _) ?_)
      intro w4 hb4 ho4
      have HO := Lib.hid (own_only_ty HO.out (HS.out.get 0 rfl) HT.out ho4)
      have HS := Lib.hid (HS.out.change 0 hb4 ho4 (by omega) (by simp; omega))
      have HBK := Lib.hid hb4
      clear hb4 ho4
      go_wp2_with fail
      refine wp_region_B (bb + 1) [(0, true), (1, true), (2, true), (4, true), (5, true), (3, false), (6, false), (7, false)] (by kernel_rfl) (by kernel_rfl) ?_
      rintro w5 rfl
      repeat ((first | refine walkB_one rfl rfl (fun K hK => ?_) | refine walkB_alone rfl rfl (fun K hK => ?_)); go_big_quiet_step (fail); refine wpQuiet_nil (hK _ ?_); clear hK K)
      have HS := Lib.hid HS.out.drew
      have HBK := Lib.hid HBK.out.drew
      have HO := Lib.hid (show w4.drew.ownsRow (bb + 1) 5 1 u3 (32 * i) ((flatP (m.pairs.take i)).map B) from HO.out)
      have hz4 := (HS.out.get 1 rfl).lt
      refine walkB_free rfl (by rfl) (fun K hK => ?_)
      refine wp_append_any (.tmp 13) (.tmp 15) 22 rfl (bb + 1) 5 i0 (.int .u8 0) 1 Tryz.underlying22 HI.out.1 HI.out.2.1 HI.out.2.2.1 HI.out.2.2.2 rfl _ _ _ rfl HO.out (some ⟨bk, 0, none⟩) 16 16 (p.1.map B) rfl (by rw [List.length_map]; exact HPF.out.1)
        (HBK.out.liesIn 0 (by simp [pcat, HPF.out.1, HPF.out.2])) (B_one _) (by unfold maxLen; omega) (by omega) (by omega) ?_
      intro v6 w6 hown6 hg6
      have hbel6 : Below (bb + 1) w4.drew w6 := below_append (Below.refl (bb + 1) w4.drew) HO.out hg6 (Nat.le_refl _) (by omega)
      refine hK _ _ hbel6 ?_
      clear hK K
      have HS := Lib.hid (show St w bb w6 [(bb, V, 189)] from (HS.out.tail).low hbel6 (by omega) (by simp))
      have HBK := Lib.hid (HBK.out.grownTy HT.out HO.out hg6)
      have HO := Lib.hid hown6
      clear hown6 hg6 hbel6
      go_simp
      have hz6 := (HS.out.get 0 rfl).lt
      refine walkB_free rfl (by rfl) (fun K hK => ?_)
      refine wp_append_any (.tmp 16) (.tmp 18) 22 rfl (bb + 1) 5 i0 (.int .u8 0) 1 Tryz.underlying22 HI.out.1 HI.out.2.1 HI.out.2.2.1 HI.out.2.2.2 rfl _ _ _ rfl HO.out (some ⟨bk, 16, none⟩) 16 16 (p.2.map B) rfl (by rw [List.length_map]; exact HPF.out.2)
        (HBK.out.liesIn 16 (by simp [pcat, HPF.out.1, HPF.out.2, List.drop_append]; exact List.take_of_length_le (by simp [HPF.out.2]))) (B_one _) (by unfold maxLen; omega) (by omega) (by omega) ?_
      intro v7 w7 hown7 hg7
      have hbel7 : Below (bb + 1) w6 w7 := below_append (Below.refl (bb + 1) w6) HO.out hg7 (Nat.le_refl _) (by omega)
      refine hK _ _ hbel7 ?_
      clear hK K
      have HS := Lib.hid (show St w bb w7 [(bb, V, 189)] from HS.out.low hbel7 (by omega) (by simp))
      have HO := Lib.hid (show w7.ownsRow (bb + 1) 5 1 v7 (32 * (i + 1)) ((flatP (m.pairs.take (i + 1))).map B) from by
        rw [HTK.out.1, show 32 * (i + 1) = 32 * i + 16 + 16 by omega]; simpa [List.append_assoc] using hown7)
      clear hown7 hg7 hbel7 HBK
      go_simp
      repeat ((first | refine walkB_one rfl rfl (fun K hK => ?_) | refine walkB_alone rfl rfl (fun K hK => ?_)); go_big_quiet_step (fail); refine wpQuiet_nil (hK _ ?_); clear hK K)
      refine walkB_nil ?_
      go_wp2
      go_roundw
      case rel => exact ⟨i + 1, by omega, by go_num, HO, HS⟩
      case measure => simp [intOf]; omega
    · obtain rfl : i = np := by omega
      rw [List.take_of_length_le (by rw [HNP.out]; exact Nat.le_refl _)] at HO
      have hcu := (HS.out.get 0 rfl).cell 1 (.slice ua nu uc) (by rw [HVV.out.1]; rfl)
      have hcv := (HS.out.get 0 rfl).cell 2 (.slice va nv vc) (by rw [HVV.out.1]; rfl)
      have hcu := fun (y : AfterB (bb + 1) wr.drew) => ((HS.out.get 0 rfl).drew.below y.below (Nat.lt_succ_self _)).cell 1 (.slice ua nu uc) (by rw [HVV.out.1]; rfl)
      have hcv := fun (y : AfterB (bb + 1) wr.drew) => ((HS.out.get 0 rfl).drew.below y.below (Nat.lt_succ_self _)).cell 2 (.slice va nv vc) (by rw [HVV.out.1]; rfl)
      go_wp2_with fail
      refine wp_region_B (bb + 1) [(0, true), (1, true), (2, true), (4, true), (5, true), (3, false), (6, false), (7, false)] (by kernel_rfl) (by kernel_rfl) ?_
      rintro w5 rfl
      repeat ((first | refine walkB_one rfl rfl (fun K hK => ?_) | refine walkB_alone rfl rfl (fun K hK => ?_)); go_big_quiet_step (fail); refine wpQuiet_nil (hK _ ?_); clear hK K)
      clear hcu hcv
      have HS := Lib.hid HS.out.drew
      have HO := Lib.hid (show wr.drew.ownsRow (bb + 1) 5 1 u3 (32 * i) ((flatP m.pairs).map B) from HO.out)
      refine walkB_free rfl (by rfl) (fun K hK => ?_)
      refine wp_append_any (.tmp 21) (.tmp 23) 22 rfl (bb + 1) 5 i0 (.int .u8 0) 1 Tryz.underlying22 HI.out.1 HI.out.2.1 HI.out.2.2.1 HI.out.2.2.2 rfl _ _ _ rfl HO.out ua nu uc (m.u.map B) rfl (by rw [List.length_map]; exact HNU.out)
        (HU.out.below (HS.out.old HBB.out)) (B_one _) (by unfold maxLen; omega) (by omega) (by simp; omega) ?_
      intro v6 w6 hown6 hg6
      have hbel6 : Below (bb + 1) wr.drew w6 := below_append (Below.refl (bb + 1) wr.drew) HO.out hg6 (Nat.le_refl _) (by simp; omega)
      refine hK _ _ hbel6 ?_
      clear hK K
      have HS := Lib.hid (show St w bb w6 [(bb, V, 189)] from HS.out.low hbel6 (by omega) (by simp))
      have HO := Lib.hid hown6
      clear hown6 hg6 hbel6
      go_simp
      have hz6 := (HS.out.get 0 rfl).lt
      refine walkB_free rfl (by rfl) (fun K hK => ?_)
      refine wp_append_any (.tmp 24) (.tmp 26) 22 rfl (bb + 1) 5 i0 (.int .u8 0) 1 Tryz.underlying22 HI.out.1 HI.out.2.1 HI.out.2.2.1 HI.out.2.2.2 rfl _ _ _ rfl HO.out va nv vc (m.v.map B) rfl (by rw [List.length_map]; exact HNV.out)
        (HV.out.below (HS.out.old HBB.out)) (B_one _) (by unfold maxLen; omega) (by omega) (by omega) ?_
      intro v7 w7 hown7 hg7
      have hbel7 : Below (bb + 1) w6 w7 := below_append (Below.refl (bb + 1) w6) HO.out hg7 (Nat.le_refl _) (by omega)
      refine hK _ _ hbel7 ?_
      clear hK K
      have HS := Lib.hid (show St w bb w7 [(bb, V, 189)] from HS.out.low hbel7 (by omega) (by simp))
      have HO := Lib.hid hown7
      clear hown7 hg7 hbel7
      go_simp
      repeat ((first | refine walkB_one rfl rfl (fun K hK => ?_) | refine walkB_alone rfl rfl (fun K hK => ?_)); go_big_quiet_step (fail); refine wpQuiet_nil (hK _ ?_); clear hK K)
      refine walkB_nil ?_
      have hz7 := (HS.out.get 0 rfl).lt
      go_wp2_with fail
      refine wp_region_B (bb + 1) [(0, true), (1, true), (2, true), (4, true), (5, true), (3, false), (6, false), (7, false)] (by kernel_rfl) (by kernel_rfl) ?_
      rintro w8 rfl
      repeat ((first | refine walkB_one rfl rfl (fun K hK => ?_) | refine walkB_alone rfl rfl (fun K hK => ?_)); go_big_quiet_step (fail); refine wpQuiet_nil (hK _ ?_); clear hK K)
      have HS := Lib.hid HS.out.drew
      have HO := Lib.hid (show w7.drew.ownsRow (bb + 1) 5 1 v7 _ _ from HO.out)
      refine walkB_free rfl (by rfl) (fun K hK => ?_)
      refine wp_append_any (.tmp 28) (.tmp 30) 22 rfl (bb + 1) 5 i0 (.int .u8 0) 1 Tryz.underlying22 HI.out.1 HI.out.2.1 HI.out.2.2.1 HI.out.2.2.2 rfl _ _ _ rfl HO.out (some ⟨bb, 3, none⟩) 16 16 (m.x.map B) rfl (by rw [List.length_map]; exact HF.out.x)
        ((HS.out.get 0 rfl).liesIn 3 (by rw [HVV.out.1, List.length_map, HF.out.x]; exact msgV_x HF.out.x)) (B_one _) (by unfold maxLen; omega) (by omega) (by simp; omega) ?_
      intro v9 w9 hown9 hg9
      have hbel9 : Below (bb + 1) w7.drew w9 := below_append (Below.refl (bb + 1) w7.drew) HO.out hg9 (Nat.le_refl _) (by simp; omega)
      refine hK _ _ hbel9 ?_
      clear hK K
      have HS := Lib.hid (show St w bb w9 [(bb, V, 189)] from HS.out.low hbel9 (by omega) (by simp))
      have HO := Lib.hid hown9
      clear hown9 hg9 hbel9
      go_simp
      have hz9 := (HS.out.get 0 rfl).lt
      refine walkB_free rfl (by rfl) (fun K hK => ?_)
      refine wp_append_any (.tmp 31) (.tmp 33) 22 rfl (bb + 1) 5 i0 (.int .u8 0) 1 Tryz.underlying22 HI.out.1 HI.out.2.1 HI.out.2.2.1 HI.out.2.2.2 rfl _ _ _ rfl HO.out (some ⟨bb, 19, none⟩) 16 16 (m.y.map B) rfl (by rw [List.length_map]; exact HF.out.y)
        ((HS.out.get 0 rfl).liesIn 19 (by rw [HVV.out.1, List.length_map, HF.out.y]; exact msgV_y HF.out.x HF.out.y)) (B_one _) (by unfold maxLen; omega) (by omega) (by omega) ?_
      intro v10 w10 hown10 hg10
      have hbel10 : Below (bb + 1) w9 w10 := below_append (Below.refl (bb + 1) w9) HO.out hg10 (Nat.le_refl _) (by omega)
      refine hK _ _ hbel10 ?_
      clear hK K
      have HS := Lib.hid (show St w bb w10 [(bb, V, 189)] from HS.out.low hbel10 (by omega) (by simp))
      have HLB := Lib.hid (show (bytesC m).length = 32 * i + nu + nv + 16 + 16 from by rw [bytes_length HF.out, HNP.out, HNU.out, HNV.out])
      have HO := Lib.hid (show w10.ownsRow (bb + 1) 5 1 v10 (bytesC m).length ((bytesC m).map B) from by
        rw [HLB.out]; unfold bytesC; simpa [List.append_assoc] using hown10)
      clear hown10 hg10 hbel10
      go_simp
      repeat ((first | refine walkB_one rfl rfl (fun K hK => ?_) | refine walkB_alone rfl rfl (fun K hK => ?_)); go_big_quiet_step (fail); refine wpQuiet_nil (hK _ ?_); clear hK K)
      refine walkB_nil ?_
      go_wp2
      go_ret
      exact ⟨_, rfl, by rw [HBB.out]; exact own_le HO.out (by omega), by rw [HBB.out]; exact HS.out.bel⟩

end Go.Proofs.YtbpghohkhngdfaaGreatDoor
