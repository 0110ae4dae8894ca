/-
  Texts of this claim, one behind the other: RegionL TurnB TurnC TurnD TurnE.
-/
import Derived.Test.YtbpghohkhngdfaaGreatDoorM4
import Derived.Test.YtbpghohkhngdfaaGreatDoorM5
import Derived.Test.YtbpghohkhngdfaaGreatDoorM2
/-
  An array or a struct by value, loaded whole in a region that draws its order. No program.
-/
namespace Go
open Go.RowKit Go.Cells

section
variable {P : Program} {ops : Array Oper} {Q : Exit → Act → World → Prop}

theorem run_load_op {o : Oper} {a : Act} {w : World} {ty : TypeId} {x : Operand} {b off n : Nat} {vs : List Value} (hop : o.op = .load ty x) (hx : a.eval x = .pointer (some ⟨b, off, none⟩)) (hr : Row P ty n) (hn : vs.length = n) (h : w.rangeAt b off vs) :
    (execOp a.eval o).run P w = .ok (.value (.agg vs.toArray)) w := by
  obtain ⟨d, hu, hd, hi⟩ := hr.open
  simp [execOp, hop, hx, run_loadAt_mid w b off ty vs d h hu hd (by rw [hi, hn])]

theorem rangeAt_below {w w' : World} {B b off : Nat} {vs : List Value} (h : w.rangeAt b off vs) (hb : Below B w w') (hB : b < B) : w'.rangeAt b off vs := fun j v hv => (hb.cell (p := ⟨b, off + j, none⟩) hB).trans (h j v hv)

theorem walkR_load {i : Nat} {r : List Nat} {o : Oper} {a : Act} {w : World} {ty : TypeId} {x : Operand} {b off n : Nat} {vs : List Value} (h : w.rangeAt b off vs) (hb : b < w.heap.size) (hr : Row P ty n) (hn : vs.length = n)
    (ho : ops[i]? = some o) (hg : o.guard = none) (hop : o.op = .load ty x) (hx : a.eval x = .pointer (some ⟨b, off, none⟩))
    (k : ∀ K : Act → Prop, (∀ a', walkR P ops Q r a' w → K a') → K (a.put o.dst (.agg vs.toArray))) : walkR P ops Q (i :: r) a w :=
  walkR_yes ho (by unfold Oper.kindR; rw [hop]) (by simp [Region.wanted, hg]) (fun w' hw' => run_load_op hop hx hr hn (rangeAt_below h hw' hb)) k

theorem walk0_load {k0 : Act → World → Prop} {i : Nat} {r : List Nat} {o : Oper} {a : Act} {w : World} {ty : TypeId} {x : Operand} {b off n : Nat} {vs : List Value} (h : w.rangeAt b off vs) (hb : b < w.heap.size) (hr : Row P ty n) (hn : vs.length = n)
    (ho : ops[i]? = some o) (hop : o.op = .load ty x) (hx : a.eval x = .pointer (some ⟨b, off, none⟩))
    (k : ∀ K : Act → Prop, (∀ a', walk0 P ops k0 r a' w → K a') → K (a.put o.dst (.agg vs.toArray))) : walk0 P ops k0 (i :: r) a w := by
  simp only [walk0, ho]
  exact ⟨_, fun w' hw' => run_load_op hop hx hr hn (rangeAt_below h hw' hb), k _ fun _ h => h⟩

theorem walkP_load {F : List Floater} {base : Nat} {k0 : Act → World → Prop} {i : Nat} {r : List Nat} {o : Oper} {a : Act} {w : World} {ty : TypeId} {x : Operand} {b off n : Nat} {vs : List Value} (h : w.rangeAt b off vs) (hb : b < w.heap.size) (hr : Row P ty n) (hn : vs.length = n)
    (ho : ops[i]? = some o) (hop : o.op = .load ty x) (hx : a.eval x = .pointer (some ⟨b, off, none⟩))
    (k : ∀ K : Act → Prop, (∀ a', walkP P ops Q F base k0 r a' w → K a') → K (a.put o.dst (.agg vs.toArray))) : walkP P ops Q F base k0 (i :: r) a w := by
  have hk : o.kindR = 0 := by unfold Oper.kindR; rw [hop]
  simp only [walkP, ho, hk, if_true]
  exact ⟨_, fun w' hw' => run_load_op hop hx hr hn (rangeAt_below h hw' hb), k _ fun _ h => h⟩

theorem walkB_load {B i : Nat} {r : List (Nat × Bool)} {o : Oper} {a : Act} {w : World} {ty : TypeId} {x : Operand} {b off n : Nat} {vs : List Value} (h : w.rangeAt b off vs) (hb : b < B) (hr : Row P ty n) (hn : vs.length = n)
    (ho : ops[i]? = some o) (hg : o.guard = none) (hop : o.op = .load ty x) (hx : a.eval x = .pointer (some ⟨b, off, none⟩))
    (k : ∀ K : Act → Prop, (∀ a', walkB B P ops Q r a' w → K a') → K (a.put o.dst (.agg vs.toArray))) : walkB B P ops Q ((i, true) :: r) a w := by
  have hw : Region.wanted o (yielded ops a.tmps) = true := by simp [Region.wanted, hg]
  simp only [walkB, ho, hw, if_true]
  exact ⟨_, fun w' hw' => run_load_op hop hx hr hn (rangeAt_below h hw' hb), k _ fun _ h => h⟩

theorem Blk.rangeIn {w : World} {b : Nat} {vs : List Value} {ty : TypeId} (h : Blk w b vs ty) (off n : Nat) (us : List Value) (hu : (vs.drop off).take n = us) : w.rangeAt b off us := by
  intro j v hv
  subst hu
  rw [List.getElem?_take] at hv
  split at hv
  · rw [List.getElem?_drop] at hv
    exact h.cell _ _ hv
  · cases hv

end
end Go
/-
  The walks of turn: tables made.
-/
namespace Go.Proofs.YtbpghohkhngdfaaGreatDoor
open Go.RowKit Go.Mem Go.Ops Go.Cells Go.Oct Go.Gf Go.Trn
set_option linter.unusedSimpArgs false
set_option linter.unusedVariables false
set_option maxRecDepth 100000
attribute [local irreducible] walkR walkP walk0 walkB

/-- The type of a block. -/
def tyAt (w : World) (g : Nat) : TypeId := match w.heap[g]? with
  | some (.cells _ t _) => t
  | _ => 0
/-- The program's variables. -/
structure Globals (w : World) : Prop where
  mixes : Blk w 0 (Trn.mixes.map B) (tyAt w 0)
  unmixes : Blk w 1 (Trn.unmixes.map B) (tyAt w 1)

def word0 : List UInt32 := List.replicate 2048 0
theorem word0_length : word0.length = 2048 := by simp [word0]

theorem Tryz.cellsTables0 : Tryz.zeroCells118 = (.pointer none :: word0.map W).toArray := by kernel_rfl
theorem Tryz.cellsTables (p : Nat) : (Value.agg (Tryz.zeroCells118.setIfInBounds 0 (.pointer (some ⟨p, 0, none⟩)))).cells = (.pointer (some ⟨p, 0, none⟩) :: word0.map W).toArray := by
  rw [Tryz.cellsTables0]
  show Array.setIfInBounds _ _ _ = _
  rw [List.setIfInBounds_toArray, List.set_cons_zero]
theorem Tryz.size32 : (Tryz.prog.info? 114).map (·.size) = some 1 := by kernel_rfl

theorem new_ok (p : Nat) (T : List UInt8) (w : World) (hT : T.length = 512) (hb : Blk w p (T.map B) 124) (hg : Globals w) : Calls Tryz.prog 42 #[.pointer (some ⟨p, 0, none⟩)] w fun e w' =>
    ∃ q, e = .returned (.pointer (some ⟨q, 0, none⟩)) ∧ w.heap.size ≤ q ∧ Blk w' q (.pointer (some ⟨p, 0, none⟩) :: (entries T).map W) 118 ∧ Below w.heap.size w w' := by
  have HB := Lib.hid hb
  have HT := Lib.hid hT
  have HG := Lib.hid hg
  clear hb hT hg
  go_enter Tryz.func42, Tryz.ntmps42
  go_wp2_with (refine wpList_box 118 _ (.pointer (some ⟨p, 0, none⟩) :: word0.map W) _ rfl rfl rfl (Tryz.cellsTables p) ?_)
  intro w1 hb1 hbel1
  have hlt1 := hb1.lt
  have HB1 := Lib.hid hb1
  have HBEL1 := Lib.hid hbel1
  have hpw := HB.out.lt
  have hg1 := HG.out.unmixes.lt
  clear hb1 hbel1
  generalize hq : w.heap.size = q at *
  have HQ := Lib.hid hq
  clear hq
  go_wp2
  go_loopw [11] (fun c wr => ∃ (r : Nat) (l : List UInt32), r ≤ 4 ∧ c = .int .i64 r ∧ Laid T (256 * r) l ∧ Blk wr q (.pointer (some ⟨p, 0, none⟩) :: l.map W) 118 ∧ Below q w wr) (fun c _ => 4 - (intOf c).toNat)
  case atStart => exact ⟨0, word0, by omega, rfl, Laid.zero word0_length, HB1.out, HBEL1.out⟩
  case round =>
    obtain ⟨r, l, hr, rfl, hl, hb, hbel⟩ := hrel
    by_cases hlt : r < 4
    · have HBR := Lib.hid hb
      have HLR := Lib.hid hl
      have HBELR := Lib.hid hbel
      have hd : decide ((r : Int) < 4) = true := by simp; omega
      clear hb hl hbel
      go_wp2
      go_loopw [14] (fun c ws => ∃ (a : Nat) (l : List UInt32), a ≤ 256 ∧ c = .int .i64 a ∧ Laid T (256 * r + a) l ∧ Blk ws q (.pointer (some ⟨p, 0, none⟩) :: l.map W) 118 ∧ Below q w ws) (fun c _ => 256 - (intOf c).toNat)
      case atStart => exact ⟨0, l, by omega, rfl, HLR.out, HBR.out, HBELR.out⟩
      case round =>
        obtain ⟨a, l2, ha, rfl, hl2, hb2, hbel2⟩ := hrel
        by_cases hlt2 : a < 256
        · obtain ⟨x, rfl⟩ : ∃ x : UInt8, a = x.toNat := ⟨UInt8.ofNat a, by rw [UInt8.toNat_ofNat_of_lt' (by show _ < 256; omega)]⟩
          have e1 : entry T (256 * r + x.toNat) = brings mixes r (at8 T x.toNat) := by
            unfold entry
            rw [if_pos (by omega), show (256 * r + x.toNat) / 256 = r by omega, show (256 * r + x.toNat) % 256 = x.toNat by omega]
          have e2 : entry T (1024 + (256 * r + x.toNat)) = brings unmixes r x := by
            unfold entry
            rw [if_neg (by omega), show (1024 + (256 * r + x.toNat) - 1024) / 256 = r by omega, show (1024 + (256 * r + x.toNat)) % 256 = x.toNat by omega, UInt8.ofNat_toNat]
          have E1 := Lib.hid e1
          have E2 := Lib.hid e2
          have HB2 := Lib.hid hb2
          have HL2 := Lib.hid hl2
          have HBEL2 := Lib.hid hbel2
          have HG2 := Lib.hid (Blk.below HG.out.mixes hbel2 (by omega)).drew
          clear hb2 hl2 hbel2 e1 e2
          go_wp2_with fail
          refine wp_region_R [0, 1, 2, 3, 4, 5, 6, 7, 10, 11, 12, 8, 9, 13, 14] (by kernel_rfl) (by kernel_rfl) ?_
          rintro w6 rfl
          refine walkR_one rfl rfl (fun K hK => ?_); go_big_quiet_step (fail); refine wpQuiet_nil (hK _ ?_); clear hK K
          refine walkR_one rfl rfl (fun K hK => ?_); go_big_quiet_step (fail); refine wpQuiet_nil (hK _ ?_); clear hK K
          refine walkR_one rfl rfl (fun K hK => ?_); go_big_quiet_step (fail); refine wpQuiet_nil (hK _ ?_); clear hK K
          refine walkR_load (HG2.out.range) HG2.out.lt Tryz.row4 rfl rfl rfl rfl rfl (fun K hK => ?_)
          go_simp
          refine hK _ ?_
          clear hK K
          repeat (refine walkR_one rfl rfl (fun K hK => ?_); go_big_quiet_step (fail); refine wpQuiet_nil (hK _ ?_); clear hK K)
          refine walkR_call rfl rfl (by rfl) (fun K hK => ?_)
          go_simp
          refine (to_ok p T x _ HT.out (HB.out.below (HBEL2.out.drew) hpw)).mono ?_
          rintro e w7 ⟨rfl, rfl⟩
          go_simp
          refine hK _ _ (Later.refl _) ?_
          clear hK K
          refine walkR_call rfl rfl (by rfl) (fun K hK => ?_)
          go_simp
          refine (brings_ok mixes r (at8 T x.toNat) _ rfl hlt).mono ?_
          rintro e w8 ⟨rfl, hbel8⟩
          go_simp
          rw [← E1.out]
          refine hK _ _ hbel8 ?_
          clear hK K
          repeat (refine walkR_one rfl rfl (fun K hK => ?_); go_big_quiet_step (fail); refine wpQuiet_nil (hK _ ?_); clear hK K)
          have HB8 := Lib.hid (HB2.out.drew.below hbel8 HB2.out.lt)
          have HBEL8 := Lib.hid (HBEL2.out.drew.trans (Below.mono hbel8 (Nat.le_of_lt HB2.out.lt)))
          have hi8 : 1 + r * 256 + x.toNat < (.pointer (some ⟨p, 0, none⟩) :: l2.map W : List Value).length := by rw [List.length_cons, List.length_map, HL2.out.1]; omega
          clear hbel8
          refine walkR_free rfl rfl (by rfl) (fun K hK => ?_)
          refine HB8.out.opset (v := W (entry T (256 * r + x.toNat))) rfl rfl rfl Tryz.size32 rfl rfl hi8 (fun w9 hb9 ho9 => hK _ _ ?_)
          clear hK K
          rw [show 1 + r * 256 + x.toNat = (256 * r + x.toNat) + 1 by omega, List.set_cons_succ, mapW_set] at hb9
          have HB9 := Lib.hid hb9
          have HBEL9 := Lib.hid (below_only HBEL8.out ho9 (Nat.le_refl _))
          have HG9 := Lib.hid (Blk.below HG.out.unmixes HBEL9.out (by omega)).drew
          clear hb9 ho9 hi8
          go_simp
          refine walkR_nil ?_
          go_wp2_with fail
          refine wp_region_R [0, 1, 2, 3, 4, 5, 6, 8, 9, 10, 7, 11, 12] (by kernel_rfl) (by kernel_rfl) ?_
          rintro w6 rfl
          refine walkR_one rfl rfl (fun K hK => ?_); go_big_quiet_step (fail); refine wpQuiet_nil (hK _ ?_); clear hK K
          refine walkR_one rfl rfl (fun K hK => ?_); go_big_quiet_step (fail); refine wpQuiet_nil (hK _ ?_); clear hK K
          refine walkR_one rfl rfl (fun K hK => ?_); go_big_quiet_step (fail); refine wpQuiet_nil (hK _ ?_); clear hK K
          refine walkR_load (HG9.out.range) HG9.out.lt Tryz.row4 rfl rfl rfl rfl rfl (fun K hK => ?_)
          go_simp
          refine hK _ ?_
          clear hK K
          repeat (refine walkR_one rfl rfl (fun K hK => ?_); go_big_quiet_step (fail); refine wpQuiet_nil (hK _ ?_); clear hK K)
          refine walkR_call rfl rfl (by rfl) (fun K hK => ?_)
          go_simp
          refine (brings_ok unmixes r x _ rfl hlt).mono ?_
          rintro e w10 ⟨rfl, hbel10⟩
          go_simp
          rw [← E2.out]
          refine hK _ _ hbel10 ?_
          clear hK K
          repeat (refine walkR_one rfl rfl (fun K hK => ?_); go_big_quiet_step (fail); refine wpQuiet_nil (hK _ ?_); clear hK K)
          have HB10 := Lib.hid (HB9.out.drew.below hbel10 HB9.out.lt)
          have HBEL10 := Lib.hid (HBEL9.out.drew.trans (Below.mono hbel10 (Nat.le_of_lt HB9.out.lt)))
          have hi10 : 1025 + r * 256 + x.toNat < (.pointer (some ⟨p, 0, none⟩) :: (l2.set (256 * r + x.toNat) (entry T (256 * r + x.toNat))).map W : List Value).length := by rw [List.length_cons, List.length_map, List.length_set, HL2.out.1]; omega
          clear hbel10
          refine walkR_free rfl rfl (by rfl) (fun K hK => ?_)
          refine HB10.out.opset (v := W (entry T (1024 + (256 * r + x.toNat)))) rfl rfl rfl Tryz.size32 rfl rfl hi10 (fun w11 hb11 ho11 => hK _ _ ?_)
          clear hK K
          rw [show 1025 + r * 256 + x.toNat = (1024 + (256 * r + x.toNat)) + 1 by omega, List.set_cons_succ, mapW_set] at hb11
          have HB11 := Lib.hid hb11
          have HBEL11 := Lib.hid (below_only HBEL10.out ho11 (Nat.le_refl _))
          clear hb11 ho11 hi10
          go_simp
          refine walkR_nil ?_
          go_wp2
          go_roundw
          case rel => exact ⟨x.toNat + 1, _, by omega, rfl, HL2.out.step (by omega), HB11.out, HBEL11.out⟩
          case measure => simp [intOf]; omega
        · obtain rfl : a = 256 := by omega
          have HB2 := Lib.hid hb2
          have HL2 := Lib.hid (show Laid T (256 * (r + 1)) l2 by rw [show 256 * (r + 1) = 256 * r + 256 by omega]; exact hl2)
          have HBEL2 := Lib.hid hbel2
          clear hb2 hl2 hbel2
          go_wp2
          go_roundw
          case rel => exact ⟨r + 1, _, by omega, rfl, HL2.out, HB2.out, HBEL2.out⟩
          case measure => simp [intOf]; omega
    · obtain rfl : r = 4 := by omega
      obtain rfl := Laid.all (T := T) (l := l) hl
      have HB2 := Lib.hid hb
      clear hb hl
      go_wp2
      go_ret
      obtain rfl := HQ.out
      exact ⟨_, rfl, Nat.le_refl _, HB2.out, hbel⟩

end Go.Proofs.YtbpghohkhngdfaaGreatDoor
/-
  The walks of turn: a round.
-/
namespace Go.Proofs.YtbpghohkhngdfaaGreatDoor
open Go.RowKit Go.Mem Go.Ops Go.Cells Go.Oct Go.Gf Go.Trn
set_option linter.unusedSimpArgs false
set_option linter.unusedVariables false
set_option maxRecDepth 100000
attribute [local irreducible] walkR walkP walk0 walkB

/-- The tables lie behind the address. -/
structure Tab (w : World) (q p : Nat) : Prop where
  boxes : Blk w p (boxes.map B) 124
  tab : Blk w q (.pointer (some ⟨p, 0, none⟩) :: (entries Gf.boxes).map W) 118

theorem Tab.below {w w' : World} {q p : Nat} (h : Tab w q p) {B : Nat} (hb : Below B w w') (hB : w.heap.size ≤ B) : Tab w' q p :=
  ⟨h.boxes.below hb (Nat.lt_of_lt_of_le h.boxes.lt hB), h.tab.below hb (Nat.lt_of_lt_of_le h.tab.lt hB)⟩
theorem Tab.drew {w : World} {q p : Nat} (h : Tab w q p) : Tab w.drew q p := ⟨h.boxes.drew, h.tab.drew⟩
theorem Tab.only {w w' : World} {q p b : Nat} (h : Tab w q p) (ho : Only b w w') (h1 : p ≠ b) (h2 : q ≠ b) : Tab w' q p := ⟨h.boxes.only ho h1, h.tab.only ho h2⟩
theorem Tab.mix {w : World} {q p : Nat} (h : Tab w q p) (r : Nat) (x : UInt8) (hr : r < 4) : w.cell? ⟨q, 1 + r * 256 + x.toNat, none⟩ = some (W (Trn.tab r x)) := by
  have := lt8 x
  have hx := at32_get (l := entries Gf.boxes) (i := 256 * r + x.toNat) (by rw [entries_length]; omega)
  refine h.tab.cell _ _ ?_
  rw [show 1 + r * 256 + x.toNat = (256 * r + x.toNat) + 1 by omega, List.getElem?_cons_succ]
  exact mapW_at hx
theorem Tab.unmix {w : World} {q p : Nat} (h : Tab w q p) (r : Nat) (x : UInt8) (hr : r < 4) : w.cell? ⟨q, 1025 + r * 256 + x.toNat, none⟩ = some (W (Trn.untab r x)) := by
  have := lt8 x
  have hx := at32_get (l := entries Gf.boxes) (i := 1024 + 256 * r + x.toNat) (by rw [entries_length]; omega)
  refine h.tab.cell _ _ ?_
  rw [show 1025 + r * 256 + x.toNat = (1024 + 256 * r + x.toNat) + 1 by omega, List.getElem?_cons_succ]
  exact mapW_at hx

theorem round_ok (q p : Nat) (b key : List UInt8) (w : World) (ht : Tab w q p) (hlb : b.length = 16) (hlk : key.length = 16) :
    Calls Tryz.prog 194 #[.pointer (some ⟨q, 0, none⟩), .agg (b.map B).toArray, .agg (key.map B).toArray] w fun e w' => e = .returned (.agg ((round b key).map B).toArray) ∧ Below w.heap.size w w' := by
  have HT := Lib.hid ht
  have HLB := Lib.hid hlb
  have HLK := Lib.hid hlk
  clear ht hlb hlk
  go_enter Tryz.func194, Tryz.ntmps194
  go_wp2_with (refine wpList_box 52 _ (b.map B) _ rfl rfl rfl rfl ?_)
  intro w1 hb1 hbel1
  go_wp2_with (refine wpList_box 52 _ (key.map B) _ rfl rfl rfl rfl ?_)
  intro w2 hb2 hbel2
  go_wp2_with (refine wpList_var 52 ((zeros 16).map B) _ rfl rfl Tryz.zero16 rfl ?_)
  intro w3 hb3 hbel3
  go_wp2_with (refine wpList_var 52 ((zeros 16).map B) _ rfl rfl Tryz.zero16 rfl ?_)
  intro w4 hb4 hbel4
  have hlt1 := hb1.lt
  have hlt2 := hb2.lt
  have hlt3 := hb3.lt
  have hlt4 := hb4.lt
  have hlq := HT.out.tab.lt
  have hlp := HT.out.boxes.lt
  have h12 := hbel1.trans (hbel2.mono hbel1.size)
  have h13 := h12.trans (hbel3.mono h12.size)
  have h14 := h13.trans (hbel4.mono h13.size)
  have HB := Lib.hid (((hb1.below hbel2 hlt1).below hbel3 (by omega)).below hbel4 (by omega))
  have HK := Lib.hid ((hb2.below hbel3 hlt2).below hbel4 (by omega))
  have HR := Lib.hid (hb3.below hbel4 hlt3)
  have HO := Lib.hid hb4
  have HBEL := Lib.hid h14
  have HT := Lib.hid (HT.out.below h14 (Nat.le_refl _))
  clear hb1 hb2 hb3 hb4 hbel1 hbel2 hbel3 hbel4 h12 h13 h14
  generalize hbb : w.heap.size = bb at *
  generalize w1.heap.size = bk at *
  generalize w2.heap.size = br at *
  generalize w3.heap.size = bo at *
  have HBB := Lib.hid hbb
  clear hbb
  go_wp2
  go_loopw [15] (fun c wr => ∃ (k : Nat) (l : List UInt8), k ≤ 4 ∧ c = .int .i64 k ∧ Filled (roundAt b key) 16 (4 * k) l ∧ Blk wr bb (b.map B) 52 ∧ Blk wr bk (key.map B) 52 ∧ Blk wr br ((zeros 16).map B) 52 ∧ Blk wr bo (l.map B) 52 ∧ Tab wr q p ∧ Below bb w wr) (fun c _ => 4 - (intOf c).toNat)
  case atStart => exact ⟨0, zeros 16, by omega, rfl, Filled.zero (zeros_length _), HB.out, HK.out, HR.out, HO.out, HT.out, HBEL.out⟩
  case round =>
    clear HB HK HR HO HBEL HT
    obtain ⟨k, l, hk, rfl, hF, hb, hkk, hr, ho, ht, hbel⟩ := hrel
    have HF := Lib.hid hF
    have HB := Lib.hid hb
    have HK := Lib.hid hkk
    have HR := Lib.hid hr
    have HO := Lib.hid ho
    have HT := Lib.hid ht
    have HBEL := Lib.hid hbel
    clear hF hb hkk hr ho ht hbel
    by_cases hlt : k < 4
    · have hd : decide ((k : Int) < 4) = true := by simp; omega
      go_wp2_with fail
      refine (word_ok _ 16 16 (4 * k) key _ HLK.out (by omega) (by omega) HK.out.lies).mono ?_
      rintro e w5 ⟨rfl, hbel5⟩
      have hbw := HB.out.lt
      have HB := Lib.hid (HB.out.below hbel5 HB.out.lt)
      have HK := Lib.hid (HK.out.below hbel5 HK.out.lt)
      have HR := Lib.hid (HR.out.below hbel5 HR.out.lt)
      have HO := Lib.hid (HO.out.below hbel5 HO.out.lt)
      have HT := Lib.hid (HT.out.below hbel5 (Nat.le_refl _))
      have HBEL := Lib.hid (HBEL.out.trans (hbel5.mono (Nat.le_of_lt hbw)))
      have hbw5 := Nat.le_trans (Nat.le_of_lt hbw) hbel5.size
      clear hbel5
      go_wp2
      go_loopw [9, 22] (fun n c ws => ∃ r : Nat, r ≤ 4 ∧ c = .int .i64 r ∧ n = W (roundGo b key k r) ∧ Later w5 ws) (fun _ c _ => 4 - (intOf c).toNat)
      case atStart => exact ⟨0, by omega, rfl, rfl, Later.refl _⟩
      case round =>
        obtain ⟨r, hr, rfl, rfl, hlat⟩ := hrel
        by_cases hlt2 : r < 4
        · have hs : shifted r k < 16 := by unfold shifted; omega
          have hc1 := fun (x : After wr.drew) => (HB.out.below (hlat.drew.trans (Below.mono x.later hlat.size)) HB.out.lt).cell _ _ (mapB_at (at8_get (b := b) (i := shifted r k) (by rw [HLB.out]; exact hs)))
          have hc2 := fun (x : After wr.drew) => (HT.out.below (hlat.drew.trans (Below.mono x.later hlat.size)) (Nat.le_refl _)).mix r (at8 b (shifted r k)) hlt2
          have h8 := lt8 (at8 b (shifted r k))
          go_wp2_with fail
          refine wp_region_R [0, 1, 2, 3, 4, 8, 9, 10, 5, 6, 7, 11, 12, 13, 14] (by kernel_rfl) (by kernel_rfl) ?_
          rintro w6 rfl
          repeat (refine walkR_one rfl rfl (fun K hK => ?_); go_big_quiet_step (fail); refine wpQuiet_nil (hK _ ?_); clear hK K)
          refine walkR_call rfl rfl (by rfl) (fun K hK => ?_)
          go_simp
          refine (shifted_ok r k _ hlt2 hlt).mono ?_
          rintro e w7 ⟨rfl, rfl⟩
          go_simp
          refine hK _ _ (Later.refl _) ?_
          clear hK K
          repeat (refine walkR_one rfl rfl (fun K hK => ?_); go_big_quiet_step (fail); refine wpQuiet_nil (hK _ ?_); clear hK K)
          clear hc1 hc2 hs h8
          refine walkR_nil ?_
          go_wp2
          go_roundw
          case rel => exact ⟨r + 1, by omega, rfl, rfl, hlat.drew⟩
          case measure => simp [intOf]; omega
        · obtain rfl : r = 4 := by omega
          have HB := Lib.hid (HB.out.below hlat HB.out.lt)
          have HK := Lib.hid (HK.out.below hlat HK.out.lt)
          have HR := Lib.hid (HR.out.below hlat HR.out.lt)
          have HO := Lib.hid (HO.out.below hlat HO.out.lt)
          have HT := Lib.hid (HT.out.below hlat (Nat.le_refl _))
          have HBEL := Lib.hid (HBEL.out.trans (Below.mono hlat hbw5))
          have hbw6 := Nat.le_trans hbw5 hlat.size
          clear hlat
          go_wp2_with fail
          refine (putword_ok _ _).mono ?_
          rintro e w8 ⟨rfl, hbel8⟩
          have HB := Lib.hid (HB.out.below hbel8 HB.out.lt)
          have HK := Lib.hid (HK.out.below hbel8 HK.out.lt)
          have HR := Lib.hid (HR.out.below hbel8 HR.out.lt)
          have HO := Lib.hid (HO.out.below hbel8 HO.out.lt)
          have HT := Lib.hid (HT.out.below hbel8 (Nat.le_refl _))
          have HBEL := Lib.hid (HBEL.out.trans (Below.mono hbel8 hbw6))
          have hbw8 := Nat.le_trans hbw6 hbel8.size
          clear hbel8
          go_wp2_with (refine wpList_var 120 ((zeros 4).map B) _ rfl rfl Tryz.zero4 rfl ?_)
          intro w9 hb9 hbel9
          have HB := Lib.hid (HB.out.below hbel9 HB.out.lt)
          have HK := Lib.hid (HK.out.below hbel9 HK.out.lt)
          have HR := Lib.hid (HR.out.below hbel9 HR.out.lt)
          have hol := HO.out.lt
          have HO := Lib.hid (HO.out.below hbel9 HO.out.lt)
          have hbrl := HR.out.lt
          have HT := Lib.hid (HT.out.below hbel9 (Nat.le_refl _))
          have HBEL := Lib.hid (HBEL.out.trans (Below.mono hbel9 hbw8))
          have HW := Lib.hid hb9
          clear hbel9 hb9
          go_wp2_with (refine HW.out.wstore rfl rfl rfl (cs := (putWord (roundGo b key k 4)).map B) rfl Tryz.row4 (by simp [zeros_length]) (by simp [putWord_length]) (oneCell_B _) ?_)
          intro w10 hb10 ho10
          have HB := Lib.hid (HB.out.only ho10 (by omega))
          have HK := Lib.hid (HK.out.only ho10 (by omega))
          have HR := Lib.hid (HR.out.only ho10 (by omega))
          have HO := Lib.hid (HO.out.only ho10 (by omega))
          have HT := Lib.hid (HT.out.only ho10 (by omega) (by omega))
          have HBEL := Lib.hid (below_only HBEL.out ho10 (by omega))
          have HW := Lib.hid hb10
          clear ho10 hb10
          have hsl := fun (w' : World) => run_sliceAt_low (P := Tryz.prog) w' 52 5 16 Tryz.underlying52 Tryz.sizeByte bo 0 (4 * k) (4 * (k : Int)) rfl (by omega)
          rw [Nat.zero_add] at hsl
          go_wp2_with fail
          refine wp_region_R [0, 1, 2, 3, 4] (by kernel_rfl) (by kernel_rfl) ?_
          rintro w11 rfl
          repeat (refine walkR_one rfl rfl (fun K hK => ?_); go_big_quiet_step (fail); refine wpQuiet_nil (hK _ ?_); clear hK K)
          refine walkR_free rfl rfl (by rfl) (fun K hK => ?_)
          refine HO.out.drew.opcopy (4 * k) ((putWord (roundGo b key k 4)).map B) rfl rfl rfl Tryz.underlying22 Tryz.sizeByte (fun _ => rfl) HW.out.drew.lies (by rw [List.length_map, putWord_length]; exact (Nat.min_eq_left (by omega)).symm) (by rw [List.length_map, List.length_map, putWord_length, HF.out.1]; omega) (oneCell_B _) (fun w12 hb12 ho12 => hK _ _ ?_)
          clear hK K hsl
          rw [splice_map] at hb12
          have hF12 := HF.out.splice (m := 4) (cs := putWord (roundGo b key k 4)) (by omega) (putWord_length _) (fun j hj => roundAt_at b key k j hj)
          have HF := Lib.hid (show Filled (roundAt b key) 16 (4 * (k + 1)) (splice l (4 * k) (putWord (roundGo b key k 4))) from hF12)
          have HB := Lib.hid (HB.out.drew.only ho12 (by omega))
          have HK := Lib.hid (HK.out.drew.only ho12 (by omega))
          have HR := Lib.hid (HR.out.drew.only ho12 (by omega))
          have HT := Lib.hid (HT.out.drew.only ho12 (by omega) (by omega))
          have HBEL := Lib.hid (below_only HBEL.out.drew ho12 (by omega))
          have HO := Lib.hid hb12
          clear ho12 hb12 hF12
          go_simp
          refine walkR_nil ?_
          go_wp2
          go_roundw
          case rel => exact ⟨k + 1, _, by omega, rfl, HF.out, HB.out, HK.out, HR.out, HO.out, HT.out, HBEL.out⟩
          case measure => simp [intOf]; omega
    · obtain rfl : k = 4 := by omega
      have e := HF.out.all
      have HE := Lib.hid (show l = round b key from e)
      clear e
      have hl16 := HF.out.1
      go_wp2_with (first | (refine HO.out.wload rfl rfl rfl Tryz.row16 (by rw [List.length_map]; exact hl16) ?_) | (refine HR.out.wstore rfl rfl rfl rfl Tryz.row16 (by simp [zeros_length]) (by rw [List.length_map]; exact hl16) (oneCell_B _) ?_))
      intro w6 hb6 ho6
      have hbel6 := below_only HBEL.out ho6 (by omega)
      go_wp2
      refine hb6.result rfl rfl rfl Tryz.row16 (by rw [List.length_map]; exact hl16) ⟨by rw [HE.out], ?_⟩
      rw [HBB.out]
      exact hbel6

end Go.Proofs.YtbpghohkhngdfaaGreatDoor
/-
  The walks of turn: the last round, and the way back.
-/
namespace Go.Proofs.YtbpghohkhngdfaaGreatDoor
open Go.RowKit Go.Mem Go.Ops Go.Cells Go.Oct Go.Gf Go.Trn
set_option linter.unusedSimpArgs false
set_option linter.unusedVariables false
set_option maxRecDepth 100000
attribute [local irreducible] walkR walkP walk0 walkB

theorem Tab.cellBox {w : World} {q p : Nat} (h : Tab w q p) : w.cell? ⟨q, 0, none⟩ = some (.pointer (some ⟨p, 0, none⟩)) := h.tab.cell 0 _ rfl

theorem last_ok (q p : Nat) (b key : List UInt8) (w : World) (ht : Tab w q p) (hlb : b.length = 16) (hlk : key.length = 16) :
    Calls Tryz.prog 183 #[.pointer (some ⟨q, 0, none⟩), .agg (b.map B).toArray, .agg (key.map B).toArray] w fun e w' => e = .returned (.agg ((last b key).map B).toArray) ∧ Below w.heap.size w w' := by
  have HLB := Lib.hid hlb
  have HLK := Lib.hid hlk
  have HS := Lib.hid (((St.start w).add ht.tab).add ht.boxes)
  have hlq := ht.tab.lt
  have hlp := ht.boxes.lt
  clear ht hlb hlk
  go_enter Tryz.func183, Tryz.ntmps183
  go_wp2_with (refine wpList_box 52 _ (b.map B) _ rfl rfl rfl rfl ?_)
  intro w1 hb hbel; have HS := Lib.hid (HS.out.push hb hbel); have hlt1 := hb.lt; clear hb hbel
  go_wp2_with (refine wpList_box 52 _ (key.map B) _ rfl rfl rfl rfl ?_)
  intro w2 hb hbel; have HS := Lib.hid (HS.out.push hb hbel); have hlt2 := hb.lt; clear hb hbel
  go_wp2_with (refine wpList_var 52 ((zeros 16).map B) _ rfl rfl Tryz.zero16 rfl ?_)
  intro w3 hb hbel; have HS := Lib.hid (HS.out.push hb hbel); have hlt3 := hb.lt; clear hb hbel
  go_wp2_with (refine wpList_var 52 ((zeros 16).map B) _ rfl rfl Tryz.zero16 rfl ?_)
  intro w4 hb hbel; have HS := Lib.hid (HS.out.push hb hbel); have hlt4 := hb.lt; clear hb hbel
  generalize hbb : w.heap.size = bb at *
  generalize w1.heap.size = bk at *
  generalize w2.heap.size = br at *
  generalize w3.heap.size = bo at *
  have HBB := Lib.hid hbb
  clear hbb
  go_wp2
  go_loopw [13] (fun c wr => ∃ (k : Nat) (l : List UInt8), k ≤ 4 ∧ c = .int .i64 k ∧ Filled (lastAt b) 16 (4 * k) l ∧ St w bb wr [(bo, l.map B, 52), (br, (zeros 16).map B, 52), (bk, key.map B, 52), (bb, b.map B, 52), (p, Gf.boxes.map B, 124), (q, .pointer (some ⟨p, 0, none⟩) :: (entries Gf.boxes).map W, 118)]) (fun c _ => 4 - (intOf c).toNat)
  case atStart => exact ⟨0, zeros 16, by omega, rfl, Filled.zero (zeros_length _), HS.out⟩
  case round =>
    clear HS
    obtain ⟨k, l, hk, rfl, hF, hs⟩ := hrel
    by_cases hlt : k < 4
    · have hd : decide ((k : Int) < 4) = true := by simp; omega
      have HF := Lib.hid hF
      have HS := Lib.hid hs
      clear hF hs
      go_wp2
      go_loopw [16] (fun c ws => ∃ (r : Nat) (l : List UInt8), r ≤ 4 ∧ c = .int .i64 r ∧ Filled (lastAt b) 16 (4 * k + r) l ∧ St w bb ws [(bo, l.map B, 52), (br, (zeros 16).map B, 52), (bk, key.map B, 52), (bb, b.map B, 52), (p, Gf.boxes.map B, 124), (q, .pointer (some ⟨p, 0, none⟩) :: (entries Gf.boxes).map W, 118)]) (fun c _ => 4 - (intOf c).toNat)
      case atStart => exact ⟨0, l, by omega, rfl, HF.out, HS.out⟩
      case round =>
        obtain ⟨r, l2, hr, rfl, hF2, hs2⟩ := hrel
        by_cases hlt2 : r < 4
        · have hs16 : shifted r k < 16 := by unfold shifted; omega
          have h8 := lt8 (at8 b (shifted r k))
          have hc1 := fun (x : After wr.drew) => ((hs2.drew.later x.later).get 3 rfl).cell _ _ (mapB_at (at8_get (b := b) (i := shifted r k) (by rw [HLB.out]; exact hs16)))
          have hc2 := fun (x : After wr.drew) => ((hs2.drew.later x.later).get 5 rfl).cell 0 _ rfl
          have hat : lastAt b (4 * k + r) = at8 Gf.boxes (at8 b (shifted r k)).toNat := by
            unfold lastAt
            rw [show (4 * k + r) % 4 = r by omega, show (4 * k + r) / 4 = k by omega]
          have HAT := Lib.hid hat
          have HF2 := Lib.hid hF2
          have HS2 := Lib.hid hs2
          clear hat hF2 hs2
          go_wp2_with fail
          refine wp_region_R [0, 1, 2, 3, 4, 5, 6, 7, 8, 9, 10, 11, 12, 13, 14, 15] (by kernel_rfl) (by kernel_rfl) ?_
          rintro w6 rfl
          repeat (refine walkR_one rfl rfl (fun K hK => ?_); go_big_quiet_step (fail); refine wpQuiet_nil (hK _ ?_); clear hK K)
          refine walkR_call rfl rfl (by rfl) (fun K hK => ?_)
          go_simp
          refine (shifted_ok r k _ hlt2 hlt).mono ?_
          rintro e w7 ⟨rfl, rfl⟩
          go_simp
          refine hK _ _ (Later.refl _) ?_
          clear hK K
          repeat (refine walkR_one rfl rfl (fun K hK => ?_); go_big_quiet_step (fail); refine wpQuiet_nil (hK _ ?_); clear hK K)
          refine walkR_call rfl rfl (by rfl) (fun K hK => ?_)
          go_simp
          refine (to_ok p Gf.boxes (at8 b (shifted r k)) _ boxes_length (HS2.out.drew.get 4 rfl)).mono ?_
          rintro e w7 ⟨rfl, rfl⟩
          go_simp
          rw [← HAT.out]
          refine hK _ _ (Later.refl _) ?_
          clear hK K hc1 hc2
          repeat (refine walkR_one rfl rfl (fun K hK => ?_); go_big_quiet_step (fail); refine wpQuiet_nil (hK _ ?_); clear hK K)
          refine walkR_free rfl rfl (by rfl) (fun K hK => ?_)
          refine (HS2.out.drew.get 0 rfl).opset (v := B (lastAt b (4 * k + r))) rfl rfl rfl Tryz.sizeByte rfl rfl (by rw [List.length_map, HF2.out.1]; omega) (fun w8 hb8 ho8 => hK _ _ ?_)
          clear hK K
          rw [show r + 4 * k = 4 * k + r by omega, mapB_set] at hb8
          have HS3 := Lib.hid (HS2.out.drew.change 0 hb8 ho8 (by omega) (by simp; omega))
          have HF3 := Lib.hid (HF2.out.step (by omega))
          clear hb8 ho8 HS2 HF2
          go_simp
          refine walkR_nil ?_
          go_wp2
          go_roundw
          case rel => exact ⟨r + 1, _, by omega, rfl, HF3.out, HS3.out⟩
          case measure => simp [intOf]; omega
        · obtain rfl : r = 4 := by omega
          have HF2 := Lib.hid (show Filled (lastAt b) 16 (4 * (k + 1)) l2 from hF2)
          have HS2 := Lib.hid hs2
          clear hF2 hs2
          go_wp2
          go_roundw
          case rel => exact ⟨k + 1, _, by omega, rfl, HF2.out, HS2.out⟩
          case measure => simp [intOf]; omega
    · obtain rfl : k = 4 := by omega
      have HE := Lib.hid (show l = (List.range 16).map (lastAt b) from hF.all)
      have HL16 := Lib.hid (show (l.map B).length = 16 by rw [List.length_map]; exact hF.1)
      have HLK16 := Lib.hid (show (key.map B).length = 16 by rw [List.length_map]; exact HLK.out)
      have hl16 := hF.1
      have HS2 := Lib.hid hs
      clear hF hs
      go_wp2_with (first | (refine (HS2.out.get 0 rfl).wload rfl rfl rfl Tryz.row16 HL16.out ?_) | (refine (HS2.out.get 2 rfl).wload rfl rfl rfl Tryz.row16 HLK16.out ?_))
      refine (both_ok l key _ hl16 HLK.out).mono ?_
      rintro e w8 ⟨rfl, hbel8⟩
      have HS3 := Lib.hid (HS2.out.later hbel8)
      clear hbel8
      go_wp2_with (refine (HS3.out.get 1 rfl).wstore rfl rfl rfl rfl Tryz.row16 (by rw [List.length_map]; exact zeros_length 16) (by rw [List.length_map]; exact both_length _ _) (oneCell_B _) ?_)
      intro w9 hb9 ho9
      have hbel9 := below_only HS3.out.bel ho9 (by omega)
      go_wp2
      refine hb9.result rfl rfl rfl Tryz.row16 (by rw [List.length_map]; exact both_length _ _) ⟨by rw [HE.out]; rfl, ?_⟩
      rw [HBB.out]
      exact hbel9

theorem unboxed_ok (q p : Nat) (b : List UInt8) (w : World) (ht : Tab w q p) (hlb : b.length = 16) :
    Calls Tryz.prog 303 #[.pointer (some ⟨q, 0, none⟩), .agg (b.map B).toArray] w fun e w' => e = .returned (.agg ((unboxed b).map B).toArray) ∧ Below w.heap.size w w' := by
  have HLB := Lib.hid hlb
  have HS := Lib.hid (((St.start w).add ht.tab).add ht.boxes)
  have hlq := ht.tab.lt
  have hlp := ht.boxes.lt
  clear ht hlb
  go_enter Tryz.func303, Tryz.ntmps303
  go_wp2_with (refine wpList_box 52 _ (b.map B) _ rfl rfl rfl rfl ?_)
  intro w1 hb hbel; have HS := Lib.hid (HS.out.push hb hbel); have hlt1 := hb.lt; clear hb hbel
  go_wp2_with (refine wpList_var 52 ((zeros 16).map B) _ rfl rfl Tryz.zero16 rfl ?_)
  intro w3 hb hbel; have HS := Lib.hid (HS.out.push hb hbel); have hlt3 := hb.lt; clear hb hbel
  go_wp2_with (refine wpList_var 52 ((zeros 16).map B) _ rfl rfl Tryz.zero16 rfl ?_)
  intro w4 hb hbel; have HS := Lib.hid (HS.out.push hb hbel); have hlt4 := hb.lt; clear hb hbel
  generalize hbb : w.heap.size = bb at *
  generalize w1.heap.size = br at *
  generalize w3.heap.size = bo at *
  have HBB := Lib.hid hbb
  clear hbb
  go_wp2
  go_loopw [8] (fun c wr => ∃ (k : Nat) (l : List UInt8), k ≤ 4 ∧ c = .int .i64 k ∧ l.length = 16 ∧ (∀ r j, r < 4 → j < k → l[shifted r j]? = some (unboxedAt b (shifted r j))) ∧ St w bb wr [(bo, l.map B, 52), (br, (zeros 16).map B, 52), (bb, b.map B, 52), (p, Gf.boxes.map B, 124), (q, .pointer (some ⟨p, 0, none⟩) :: (entries Gf.boxes).map W, 118)]) (fun c _ => 4 - (intOf c).toNat)
  case atStart => exact ⟨0, zeros 16, by omega, rfl, zeros_length _, fun _ j _ h => absurd h (by omega), HS.out⟩
  case round =>
    clear HS
    obtain ⟨k, l, hk, rfl, hl16, hF, hs⟩ := hrel
    by_cases hlt : k < 4
    · have hd : decide ((k : Int) < 4) = true := by simp; omega
      have HF := Lib.hid hF
      have HS := Lib.hid hs
      have HL16 := Lib.hid hl16
      clear hF hs hl16
      go_wp2
      go_loopw [11] (fun c ws => ∃ (r : Nat) (l : List UInt8), r ≤ 4 ∧ c = .int .i64 r ∧ l.length = 16 ∧ (∀ r j, r < 4 → j < k → l[shifted r j]? = some (unboxedAt b (shifted r j))) ∧ (∀ s, s < r → l[shifted s k]? = some (unboxedAt b (shifted s k))) ∧ St w bb ws [(bo, l.map B, 52), (br, (zeros 16).map B, 52), (bb, b.map B, 52), (p, Gf.boxes.map B, 124), (q, .pointer (some ⟨p, 0, none⟩) :: (entries Gf.boxes).map W, 118)]) (fun c _ => 4 - (intOf c).toNat)
      case atStart => exact ⟨0, l, by omega, rfl, HL16.out, HF.out, fun s h => absurd h (by omega), HS.out⟩
      case round =>
        obtain ⟨r, l2, hr, rfl, hl2, hF2, hG2, hs2⟩ := hrel
        by_cases hlt2 : r < 4
        · have hs16 : shifted r k < 16 := by unfold shifted; omega
          have h8 := lt8 (at8 b (r + 4 * k))
          have hc1 := fun (x : After wr.drew) => ((hs2.drew.later x.later).get 2 rfl).cell _ _ (mapB_at (at8_get (b := b) (i := r + 4 * k) (by rw [HLB.out]; omega)))
          have hc2 := fun (x : After wr.drew) => ((hs2.drew.later x.later).get 4 rfl).cell 0 _ rfl
          have hat : unboxedAt b (shifted r k) = at8 Gf.boxes (256 + (at8 b (r + 4 * k)).toNat) := by
            unfold unboxedAt shifted
            rw [show (r + 4 * ((k + r) % 4)) % 4 = r by omega, show (r + 4 * ((k + r) % 4)) / 4 = (k + r) % 4 by omega, show ((k + r) % 4 + 4 - r) % 4 = k by omega]
          have HAT := Lib.hid hat
          have HF2 := Lib.hid hF2
          have HG2 := Lib.hid hG2
          have HL2 := Lib.hid hl2
          have HS2 := Lib.hid hs2
          clear hat hF2 hs2 hG2 hl2
          go_wp2_with fail
          refine wp_region_R [0, 1, 3, 4, 5, 6, 7, 8, 9, 10, 11, 12, 2, 13, 14, 15] (by kernel_rfl) (by kernel_rfl) ?_
          rintro w6 rfl
          repeat (refine walkR_one rfl rfl (fun K hK => ?_); go_big_quiet_step (fail); refine wpQuiet_nil (hK _ ?_); clear hK K)
          refine walkR_call rfl rfl (by rfl) (fun K hK => ?_)
          go_simp
          refine (shifted_ok r k _ hlt2 hlt).mono ?_
          rintro e w7 ⟨rfl, rfl⟩
          go_simp
          refine hK _ _ (Later.refl _) ?_
          clear hK K
          repeat (refine walkR_one rfl rfl (fun K hK => ?_); go_big_quiet_step (fail); refine wpQuiet_nil (hK _ ?_); clear hK K)
          refine walkR_call rfl rfl (by rfl) (fun K hK => ?_)
          go_simp
          refine (back_ok p Gf.boxes (at8 b (r + 4 * k)) _ boxes_length (HS2.out.drew.get 3 rfl)).mono ?_
          rintro e w7 ⟨rfl, rfl⟩
          go_simp
          rw [← HAT.out]
          refine hK _ _ (Later.refl _) ?_
          clear hK K hc1 hc2
          repeat (refine walkR_one rfl rfl (fun K hK => ?_); go_big_quiet_step (fail); refine wpQuiet_nil (hK _ ?_); clear hK K)
          refine walkR_free rfl rfl (by rfl) (fun K hK => ?_)
          refine (HS2.out.drew.get 0 rfl).opset (v := B (unboxedAt b (shifted r k))) rfl rfl rfl Tryz.sizeByte rfl rfl (by rw [List.length_map, HL2.out]; omega) (fun w8 hb8 ho8 => hK _ _ ?_)
          clear hK K
          rw [mapB_set] at hb8
          have HS3 := Lib.hid (HS2.out.drew.change 0 hb8 ho8 (by omega) (by simp; omega))
          clear hb8 ho8 HS2
          go_simp
          refine walkR_nil ?_
          go_wp2
          go_roundw
          case rel =>
            refine ⟨r + 1, _, by omega, rfl, by rw [List.length_set]; exact HL2.out, fun s j h1 h2 => ?_, fun s h1 => ?_, HS3.out⟩
            · rw [List.getElem?_set_ne (by unfold shifted; omega)]
              exact HF2.out s j h1 h2
            · by_cases e : s = r
              · subst e
                rw [List.getElem?_set_self (by rw [HL2.out]; exact hs16)]
              · rw [List.getElem?_set_ne (by unfold shifted; omega)]
                exact HG2.out s (by omega)
          case measure => simp [intOf]; omega
        · obtain rfl : r = 4 := by omega
          have HL2 := Lib.hid hl2
          have HF3 := Lib.hid (show ∀ r j, r < 4 → j < k + 1 → l2[shifted r j]? = some (unboxedAt b (shifted r j)) from fun s j h1 h2 => by
            by_cases e : j = k
            · subst e; exact hG2 s h1
            · exact hF2 s j h1 (by omega))
          have HS2 := Lib.hid hs2
          clear hF2 hs2 hG2 hl2
          go_wp2
          go_roundw
          case rel => exact ⟨k + 1, _, by omega, rfl, HL2.out, HF3.out, HS2.out⟩
          case measure => simp [intOf]; omega
    · obtain rfl : k = 4 := by omega
      have he : l = unboxed b := by
        apply List.ext_getElem?
        intro i
        by_cases hi : i < 16
        · have := hF (i % 4) ((i / 4 + 4 - i % 4) % 4) (by omega) (by omega)
          rw [show shifted (i % 4) ((i / 4 + 4 - i % 4) % 4) = i by unfold shifted; omega] at this
          rw [this]; simp [unboxed, hi]
        · rw [List.getElem?_eq_none (by omega), List.getElem?_eq_none (by rw [unboxed_length]; omega)]
      have HE := Lib.hid he
      have HL16 := Lib.hid (show (l.map B).length = 16 by rw [List.length_map]; exact hl16)
      have HS2 := Lib.hid hs
      clear hF hs he hl16
      go_wp2_with (first | (refine (HS2.out.get 0 rfl).wload rfl rfl rfl Tryz.row16 HL16.out ?_) | (refine (HS2.out.get 1 rfl).wstore rfl rfl rfl rfl Tryz.row16 (by rw [List.length_map]; exact zeros_length 16) HL16.out (oneCell_B _) ?_))
      intro w9 hb9 ho9
      have hbel9 := below_only HS2.out.bel ho9 (by omega)
      go_wp2
      refine hb9.result rfl rfl rfl Tryz.row16 HL16.out ⟨by rw [HE.out], ?_⟩
      rw [HBB.out]
      exact hbel9

end Go.Proofs.YtbpghohkhngdfaaGreatDoor
/-
  The walks of turn: the round back, and rows of rounds.
-/
namespace Go.Proofs.YtbpghohkhngdfaaGreatDoor
open Go.RowKit Go.Mem Go.Ops Go.Cells Go.Oct Go.Gf Go.Trn
set_option linter.unusedSimpArgs false
set_option linter.unusedVariables false
set_option maxRecDepth 100000
attribute [local irreducible] walkR walkP walk0 walkB

theorem _root_.Go.Cells.St.tab {w0 w : World} {base : Nat} {L : List (Nat × List Value × TypeId)} {q p : Nat} (h : St w0 base w L) (i j : Nat) (hi : L[i]? = some (p, Gf.boxes.map B, 124)) (hj : L[j]? = some (q, .pointer (some ⟨p, 0, none⟩) :: (entries Gf.boxes).map W, 118)) : Tab w q p := ⟨h.get i hi, h.get j hj⟩

theorem unround_ok (q p : Nat) (b key : List UInt8) (w : World) (ht : Tab w q p) (hlb : b.length = 16) (hlk : key.length = 16) :
    Calls Tryz.prog 295 #[.pointer (some ⟨q, 0, none⟩), .agg (b.map B).toArray, .agg (key.map B).toArray] w fun e w' => e = .returned (.agg ((unround b key).map B).toArray) ∧ Below w.heap.size w w' := by
  have HLB := Lib.hid hlb
  have HLK := Lib.hid hlk
  have HS := Lib.hid (((St.start w).add ht.tab).add ht.boxes)
  have hlq := ht.tab.lt
  have hlp := ht.boxes.lt
  have hb16 := both_length b key
  have HDEF := Lib.hid (show unround b key = unboxed ((List.range 16).map (unroundAt (both b key))) from rfl)
  clear ht hlb hlk
  go_enter Tryz.func295, Tryz.ntmps295
  go_wp2_with (refine wpList_box 52 _ (b.map B) _ rfl rfl rfl rfl ?_)
  intro w1 hb hbel; have HS := Lib.hid (HS.out.push hb hbel); have hlt1 := hb.lt; clear hb hbel
  go_wp2_with (refine wpList_box 52 _ (key.map B) _ rfl rfl rfl rfl ?_)
  intro w2 hb hbel; have HS := Lib.hid (HS.out.push hb hbel); have hlt2 := hb.lt; clear hb hbel
  go_wp2_with (refine wpList_var 52 ((zeros 16).map B) _ rfl rfl Tryz.zero16 rfl ?_)
  intro w3 hb hbel; have HS := Lib.hid (HS.out.push hb hbel); have hlt3 := hb.lt; clear hb hbel
  go_wp2_with (refine wpList_var 52 ((zeros 16).map B) _ rfl rfl Tryz.zero16 rfl ?_)
  intro w4 hb hbel; have HS := Lib.hid (HS.out.push hb hbel); have hlt4 := hb.lt; clear hb hbel
  generalize hbb : w.heap.size = bb at *
  generalize w1.heap.size = bk at *
  generalize w2.heap.size = br at *
  generalize w3.heap.size = bo at *
  have HBB := Lib.hid hbb
  clear hbb
  go_wp2_with (first | (refine (HS.out.get 3 rfl).wload rfl rfl rfl Tryz.row16 (by rw [List.length_map]; exact HLB.out) ?_) | (refine (HS.out.get 2 rfl).wload rfl rfl rfl Tryz.row16 (by rw [List.length_map]; exact HLK.out) ?_))
  refine (both_ok b key _ HLB.out HLK.out).mono ?_
  rintro e w5 ⟨rfl, hbel⟩
  have HS := Lib.hid (HS.out.later hbel)
  clear hbel
  go_wp2_with (refine (HS.out.get 3 rfl).wstore rfl rfl rfl rfl Tryz.row16 (by rw [List.length_map]; exact HLB.out) (by rw [List.length_map]; exact hb16) (oneCell_B _) ?_)
  intro w6 hb ho
  have HS := Lib.hid (HS.out.change 3 hb ho (by omega) (by simp; omega))
  clear hb ho
  go_wp2
  generalize hbx : both b key = bx at *
  have HBX := Lib.hid hbx
  clear hbx
  go_loopw [18] (fun c wr => ∃ (k : Nat) (l : List UInt8), k ≤ 4 ∧ c = .int .i64 k ∧ Filled (unroundAt bx) 16 (4 * k) l ∧ St w bb wr [(bo, l.map B, 52), (br, (zeros 16).map B, 52), (bk, key.map B, 52), (bb, bx.map B, 52), (p, Gf.boxes.map B, 124), (q, .pointer (some ⟨p, 0, none⟩) :: (entries Gf.boxes).map W, 118)]) (fun c _ => 4 - (intOf c).toNat)
  case atStart => exact ⟨0, zeros 16, by omega, rfl, Filled.zero (zeros_length _), HS.out⟩
  case round =>
    clear HS
    obtain ⟨k, l, hk, rfl, hF, hs⟩ := hrel
    have HF := Lib.hid hF
    have HS := Lib.hid hs
    clear hF hs
    by_cases hlt : k < 4
    · have hd : decide ((k : Int) < 4) = true := by simp; omega
      go_wp2
      go_loopw [9, 21] (fun n c ws => ∃ r : Nat, r ≤ 4 ∧ c = .int .i64 r ∧ n = W (unroundGo bx k r) ∧ St w bb ws [(bo, l.map B, 52), (br, (zeros 16).map B, 52), (bk, key.map B, 52), (bb, bx.map B, 52), (p, Gf.boxes.map B, 124), (q, .pointer (some ⟨p, 0, none⟩) :: (entries Gf.boxes).map W, 118)]) (fun _ c _ => 4 - (intOf c).toNat)
      case atStart => exact ⟨0, by omega, rfl, rfl, HS.out⟩
      case round =>
        obtain ⟨r, hr, rfl, rfl, hs2⟩ := hrel
        by_cases hlt2 : r < 4
        · have hc1 := fun (x : After wr.drew) => ((hs2.drew.later x.later).get 3 rfl).cell _ _ (mapB_at (at8_get (b := bx) (i := r + 4 * k) (by rw [hb16]; omega)))
          have hc2 := fun (x : After wr.drew) => ((hs2.drew.later x.later).tab 4 5 rfl rfl).unmix r (at8 bx (r + 4 * k)) hlt2
          have h8 := lt8 (at8 bx (r + 4 * k))
          have HS2 := Lib.hid hs2
          clear hs2
          go_wp2_with fail
          refine wp_region_R [0, 1, 2, 3, 4, 5, 6, 7, 8, 9, 10, 11, 12, 13, 14, 15] (by kernel_rfl) (by kernel_rfl) ?_
          rintro w6 rfl
          repeat (refine walkR_one rfl rfl (fun K hK => ?_); go_big_quiet_step (fail); refine wpQuiet_nil (hK _ ?_); clear hK K)
          clear hc1 hc2 h8
          refine walkR_nil ?_
          go_wp2
          go_roundw
          case rel => exact ⟨r + 1, by omega, rfl, rfl, HS2.out.drew⟩
          case measure => simp [intOf]; omega
        · obtain rfl : r = 4 := by omega
          have HS := Lib.hid hs2
          clear hs2
          go_wp2_with fail
          refine (putword_ok _ _).mono ?_
          rintro e w8 ⟨rfl, hbel8⟩
          have HS := Lib.hid (HS.out.later hbel8)
          clear hbel8
          go_wp2_with (refine wpList_var 120 ((zeros 4).map B) _ rfl rfl Tryz.zero4 rfl ?_)
          intro w9 hb9 hbel9
          have hol := HS.out.ne _ (List.mem_of_getElem? (i := 0) rfl)
          have hkl := HS.out.ne _ (List.mem_of_getElem? (i := 2) rfl)
          simp only at hol hkl
          have HS := Lib.hid (HS.out.push hb9 hbel9)
          clear hb9 hbel9
          generalize w8.heap.size = bw at *
          go_wp2_with (refine (HS.out.get 0 rfl).wstore rfl rfl rfl (cs := (putWord (unroundGo bx k 4)).map B) rfl Tryz.row4 (by simp [zeros_length]) (by simp [putWord_length]) (oneCell_B _) ?_)
          intro w10 hb10 ho10
          have HS := Lib.hid (HS.out.change 0 hb10 ho10 (by omega) (by simp; omega))
          clear hb10 ho10
          have hsl := fun (w' : World) => run_sliceAt_low (P := Tryz.prog) w' 52 5 16 Tryz.underlying52 Tryz.sizeByte bo 0 (4 * k) (4 * (k : Int)) rfl (by omega)
          rw [Nat.zero_add] at hsl
          go_wp2_with fail
          refine wp_region_R [0, 1, 2, 3, 4] (by kernel_rfl) (by kernel_rfl) ?_
          rintro w11 rfl
          repeat (refine walkR_one rfl rfl (fun K hK => ?_); go_big_quiet_step (fail); refine wpQuiet_nil (hK _ ?_); clear hK K)
          refine walkR_free rfl rfl (by rfl) (fun K hK => ?_)
          refine (HS.out.drew.get 1 rfl).opcopy (4 * k) ((putWord (unroundGo bx k 4)).map B) rfl rfl rfl Tryz.underlying22 Tryz.sizeByte (fun _ => rfl) (HS.out.drew.get 0 rfl).lies (by rw [List.length_map, putWord_length]; exact (Nat.min_eq_left (by omega)).symm) (by rw [List.length_map, List.length_map, putWord_length, HF.out.1]; omega) (oneCell_B _) (fun w12 hb12 ho12 => hK _ _ ?_)
          clear hK K hsl
          rw [splice_map] at hb12
          have hF12 := HF.out.splice (m := 4) (cs := putWord (unroundGo bx k 4)) (by omega) (putWord_length _) (fun j hj => unroundAt_at bx k j hj)
          have HF := Lib.hid (show Filled (unroundAt bx) 16 (4 * (k + 1)) (splice l (4 * k) (putWord (unroundGo bx k 4))) from hF12)
          have hs12 := HS.out.drew.change 1 hb12 ho12 (by omega) (by simp; omega)
          have HS := Lib.hid (show St w bb w12 [(bo, (splice l (4 * k) (putWord (unroundGo bx k 4))).map B, 52), (br, (zeros 16).map B, 52), (bk, key.map B, 52), (bb, bx.map B, 52), (p, Gf.boxes.map B, 124), (q, .pointer (some ⟨p, 0, none⟩) :: (entries Gf.boxes).map W, 118)] from ⟨hs12.base_le, hs12.bel, fun e he => hs12.all e (List.mem_cons_of_mem _ he)⟩)
          clear hb12 ho12 hF12 hs12
          go_simp
          refine walkR_nil ?_
          go_wp2
          go_roundw
          case rel => exact ⟨k + 1, _, by omega, rfl, HF.out, HS.out⟩
          case measure => simp [intOf]; omega
    · obtain rfl : k = 4 := by omega
      have HE := Lib.hid (show l = (List.range 16).map (unroundAt bx) from HF.out.all)
      have hl16 := HF.out.1
      have HL16 := Lib.hid (show (l.map B).length = 16 by rw [List.length_map]; exact hl16)
      go_wp2_with (refine (HS.out.get 0 rfl).wload rfl rfl rfl Tryz.row16 HL16.out ?_)
      refine (unboxed_ok q p l _ (HS.out.tab 4 5 rfl rfl) hl16).mono ?_
      rintro e w6 ⟨rfl, hbel6⟩
      have HS := Lib.hid (HS.out.later hbel6)
      clear hbel6
      go_wp2_with (refine (HS.out.get 1 rfl).wstore rfl rfl rfl rfl Tryz.row16 (by rw [List.length_map]; exact zeros_length 16) (by rw [List.length_map]; exact unboxed_length _) (oneCell_B _) ?_)
      intro w9 hb9 ho9
      have hbel9 := below_only HS.out.bel ho9 (by omega)
      go_wp2
      refine hb9.result rfl rfl rfl Tryz.row16 (by rw [List.length_map]; exact unboxed_length _) ⟨by rw [HE.out, HDEF.out], ?_⟩
      rw [HBB.out]
      exact hbel9

theorem unlast_ok (q p : Nat) (b key : List UInt8) (w : World) (ht : Tab w q p) (hlb : b.length = 16) (hlk : key.length = 16) :
    Calls Tryz.prog 294 #[.pointer (some ⟨q, 0, none⟩), .agg (b.map B).toArray, .agg (key.map B).toArray] w fun e w' => e = .returned (.agg ((unlast b key).map B).toArray) ∧ Below w.heap.size w w' := by
  have HLB := Lib.hid (show (b.map B).length = 16 by rw [List.length_map]; exact hlb)
  have HLK := Lib.hid (show (key.map B).length = 16 by rw [List.length_map]; exact hlk)
  have HLB2 := Lib.hid hlb
  have HLK2 := Lib.hid hlk
  have HS := Lib.hid (((St.start w).add ht.tab).add ht.boxes)
  have hlq := ht.tab.lt
  have hlp := ht.boxes.lt
  clear ht hlb hlk
  go_enter Tryz.func294, Tryz.ntmps294
  go_wp2_with (refine wpList_box 52 _ (b.map B) _ rfl rfl rfl rfl ?_)
  intro w1 hb hbel; have HS := Lib.hid (HS.out.push hb hbel); have hlt1 := hb.lt; clear hb hbel
  go_wp2_with (refine wpList_box 52 _ (key.map B) _ rfl rfl rfl rfl ?_)
  intro w2 hb hbel; have HS := Lib.hid (HS.out.push hb hbel); have hlt2 := hb.lt; clear hb hbel
  go_wp2_with (refine wpList_var 52 ((zeros 16).map B) _ rfl rfl Tryz.zero16 rfl ?_)
  intro w3 hb hbel; have HS := Lib.hid (HS.out.push hb hbel); have hlt3 := hb.lt; clear hb hbel
  generalize hbb : w.heap.size = bb at *
  generalize w1.heap.size = bk at *
  generalize w2.heap.size = br at *
  have HBB := Lib.hid hbb
  clear hbb
  go_wp2_with (first | (refine (HS.out.get 2 rfl).wload rfl rfl rfl Tryz.row16 HLB.out ?_) | (refine (HS.out.get 1 rfl).wload rfl rfl rfl Tryz.row16 HLK.out ?_))
  refine (both_ok b key _ HLB2.out HLK2.out).mono ?_
  rintro e w5 ⟨rfl, hbel⟩
  have HS := Lib.hid (HS.out.later hbel)
  clear hbel
  go_wp2_with fail
  refine (unboxed_ok q p (both b key) _ (HS.out.tab 3 4 rfl rfl) (both_length _ _)).mono ?_
  rintro e w6 ⟨rfl, hbel⟩
  have HS := Lib.hid (HS.out.later hbel)
  clear hbel
  go_wp2_with (refine (HS.out.get 0 rfl).wstore rfl rfl rfl rfl Tryz.row16 (by rw [List.length_map]; exact zeros_length 16) (by rw [List.length_map]; exact unboxed_length _) (oneCell_B _) ?_)
  intro w9 hb9 ho9
  have hbel9 := below_only HS.out.bel ho9 (by omega)
  go_wp2
  refine hb9.result rfl rfl rfl Tryz.row16 (by rw [List.length_map]; exact unboxed_length _) ⟨rfl, ?_⟩
  rw [HBB.out]
  exact hbel9

theorem tbox_ok (q p : Nat) (a : UInt8) (w : World) (ht : Tab w q p) :
    Calls Tryz.prog 220 #[.pointer (some ⟨q, 0, none⟩), B a] w fun e w' => e = .returned (B (at8 Gf.boxes a.toNat)) ∧ w = w' := by
  have hc := ht.cellBox
  have HT := Lib.hid ht
  clear ht
  go_enter Tryz.func220, Tryz.ntmps220
  go_wp2_with fail
  refine (to_ok p Gf.boxes a _ boxes_length HT.out.boxes).mono ?_
  rintro e w1 ⟨rfl, rfl⟩
  go_wp2
  go_ret
  exact ⟨rfl, by trivial⟩

/-- Blocks of 16 bytes, one behind the other. -/
structure Rows16 (w : World) (ao : Option Addr) (ks : List (List UInt8)) : Prop where
  each : ∀ k ∈ ks, k.length = 16
  lies : Lies w ao ((ks.flatten).map B)

theorem flatten_at (n : Nat) : ∀ (ks : List (List UInt8)) (i j : Nat) (k : List UInt8), (∀ k ∈ ks, k.length = n) → ks[i]? = some k → j < n → ks.flatten[n * i + j]? = k[j]?
  | [], _, _, _, _, h, _ => by simp at h
  | x :: r, 0, j, k, he, h, hj => by
    simp at h; subst h
    rw [List.flatten_cons, Nat.mul_zero, Nat.zero_add, List.getElem?_append_left (by rw [he x (by simp)]; exact hj)]
  | x :: r, i + 1, j, k, he, h, hj => by
    rw [List.getElem?_cons_succ] at h
    rw [List.flatten_cons, List.getElem?_append_right (by rw [he x (by simp), Nat.mul_add]; omega), he x (by simp), show n * (i + 1) + j - n = n * i + j by rw [Nat.mul_add]; omega]
    exact flatten_at n r i j k (fun k hk => he k (List.mem_cons_of_mem _ hk)) h hj

theorem Rows16.range {w : World} {ao : Option Addr} {ks : List (List UInt8)} (h : Rows16 w ao ks) {i : Nat} {k : List UInt8} (hi : ks[i]? = some k) : ∃ b off, ao = some ⟨b, off, none⟩ ∧ b < w.heap.size ∧ w.rangeAt b (off + i * 16) (k.map B) := by
  have hk := h.each k (List.mem_of_getElem? hi)
  have hat : ∀ j v, (k.map B)[j]? = some v → ((ks.flatten).map B)[16 * i + j]? = some v := fun j v hv => by
    rw [List.getElem?_map] at hv ⊢
    have hj : j < 16 := by
      rcases Nat.lt_or_ge j 16 with h | h
      · exact h
      · rw [List.getElem?_eq_none (by omega)] at hv; cases hv
    rw [flatten_at 16 ks i j k h.each hi hj]
    exact hv
  have h0 : (k.map B)[0]? = some (B (at8 k 0)) := mapB_at (at8_get (by omega))
  obtain ⟨b, off, rfl, hc⟩ := h.lies _ _ (hat 0 _ h0)
  refine ⟨b, off, rfl, block_lt_of_cell hc, fun j v hv => ?_⟩
  obtain ⟨b', off', e, hc'⟩ := h.lies _ _ (hat j v hv)
  cases e
  rw [show off + i * 16 + j = off + (16 * i + j) by omega]
  exact hc'
theorem Rows16.below {w w' : World} {ao : Option Addr} {ks : List (List UInt8)} (h : Rows16 w ao ks) (hb : Below w.heap.size w w') : Rows16 w' ao ks := ⟨h.each, h.lies.below hb⟩

theorem rounds_ok (q p : Nat) (b : List UInt8) (ao : Option Addr) (n cap : Nat) (ks : List (List UInt8)) (w : World) (ht : Tab w q p) (hlb : b.length = 16) (hn : ks.length = n) (hnb : n ≤ 1099511627776) (hk : Rows16 w ao ks) :
    Calls Tryz.prog 137 #[.pointer (some ⟨q, 0, none⟩), .agg (b.map B).toArray, .slice ao n cap] w fun e w' => e = .returned (.agg ((rounds b ks).map B).toArray) ∧ Below w.heap.size w w' := by
  have HLB := Lib.hid (show (b.map B).length = 16 by rw [List.length_map]; exact hlb)
  have HLB2 := Lib.hid hlb
  have HN := Lib.hid hn
  have HK := Lib.hid hk
  have HS := Lib.hid (((St.start w).add ht.tab).add ht.boxes)
  have hlq := ht.tab.lt
  have hlp := ht.boxes.lt
  clear ht hlb hn hk
  go_enter Tryz.func137, Tryz.ntmps137
  go_wp2_with (refine wpList_box 52 _ (b.map B) _ rfl rfl rfl rfl ?_)
  intro w1 hb hbel; have HS := Lib.hid (HS.out.push hb hbel); have hlt1 := hb.lt; clear hb hbel
  go_wp2_with (refine wpList_var 52 ((zeros 16).map B) _ rfl rfl Tryz.zero16 rfl ?_)
  intro w2 hb hbel; have HS := Lib.hid (HS.out.push hb hbel); have hlt2 := hb.lt; clear hb hbel
  generalize hbb : w.heap.size = bb at *
  generalize w1.heap.size = br at *
  have HBB := Lib.hid hbb
  clear hbb
  go_wp2
  go_loopw [14] (fun c wr => ∃ (i : Nat) (x : List UInt8), i ≤ n ∧ c = .int .i64 i ∧ x.length = 16 ∧ rounds x (ks.drop i) = rounds b ks ∧ St w bb wr [(br, (zeros 16).map B, 52), (bb, x.map B, 52), (p, Gf.boxes.map B, 124), (q, .pointer (some ⟨p, 0, none⟩) :: (entries Gf.boxes).map W, 118)]) (fun c _ => n - (intOf c).toNat)
  case atStart => exact ⟨0, b, by omega, rfl, HLB2.out, rfl, HS.out⟩
  case round =>
    clear HS
    obtain ⟨i, x, hi, rfl, hx, he, hs⟩ := hrel
    have HX := Lib.hid hx
    have HX2 := Lib.hid (show (x.map B).length = 16 by rw [List.length_map]; exact hx)
    have HE := Lib.hid he
    have HS := Lib.hid hs
    clear hx he hs
    by_cases hlt : i < n
    · obtain ⟨k, hki⟩ : ∃ k, ks[i]? = some k := ⟨ks[i]'(by rw [HN.out]; exact hlt), by simp [HN.out, hlt]⟩
      have hk16 := HK.out.each k (List.mem_of_getElem? hki)
      have HKL := Lib.hid (show (k.map B).length = 16 by rw [List.length_map]; exact hk16)
      obtain ⟨kb, koff, rfl, hkb, hrg⟩ := HK.out.range hki
      have hstep : rounds x (ks.drop i) = rounds (round x k) (ks.drop (i + 1)) := by
        rw [List.drop_eq_getElem_cons (by rw [HN.out]; exact hlt)]
        rw [show ks[i]'(by rw [HN.out]; exact hlt) = k by simpa [HN.out, hlt] using hki]
        rfl
      have HE := Lib.hid (hstep.symm.trans HE.out)
      have HRG := Lib.hid (rangeAt_below hrg HS.out.bel (by rw [← HBB.out]; exact hkb))
      clear hstep hrg hki
      go_wp2_with (first | (refine wpList_load_mid rfl 52 (.tmp 16) rfl kb (koff + i * 16) rfl _ _ HRG.out Tryz.underlying52 rfl (by rw [HKL.out]; exact Tryz.row16.2) ?_) | (refine wpList_var 52 ((zeros 16).map B) _ rfl rfl Tryz.zero16 rfl ?_))
      intro w3 hb3 hbel3
      have hbl := HS.out.ne _ (List.mem_of_getElem? (i := 0) rfl)
      simp only at hbl
      have HS := Lib.hid (HS.out.push hb3 hbel3)
      clear hb3 hbel3
      generalize wr.heap.size = bw at *
      go_wp2_with (refine (HS.out.get 0 rfl).wstore rfl rfl rfl rfl Tryz.row16 (by rw [List.length_map]; exact zeros_length 16) HKL.out (oneCell_B _) ?_)
      intro w4 hb4 ho4
      have HS := Lib.hid (HS.out.change 0 hb4 ho4 (by omega) (by simp; omega))
      clear hb4 ho4
      go_wp2_with (first | (refine (HS.out.get 2 rfl).wload rfl rfl rfl Tryz.row16 HX2.out ?_) | (refine (HS.out.get 0 rfl).wload rfl rfl rfl Tryz.row16 HKL.out ?_))
      refine (round_ok q p x k _ (HS.out.tab 3 4 rfl rfl) HX.out hk16).mono ?_
      rintro e w5 ⟨rfl, hbel5⟩
      have HS := Lib.hid (HS.out.later hbel5)
      clear hbel5
      have HRL := Lib.hid (show ((round x k).map B).length = 16 by rw [List.length_map]; exact round_length _ _)
      go_wp2_with (refine (HS.out.get 2 rfl).wstore rfl rfl rfl rfl Tryz.row16 HX2.out HRL.out (oneCell_B _) ?_)
      intro w6 hb6 ho6
      have hs6 := HS.out.change 2 hb6 ho6 (by omega) (by simp; omega)
      have HS := Lib.hid (show St w bb w6 [(br, (zeros 16).map B, 52), (bb, (round x k).map B, 52), (p, Gf.boxes.map B, 124), (q, .pointer (some ⟨p, 0, none⟩) :: (entries Gf.boxes).map W, 118)] from ⟨hs6.base_le, hs6.bel, fun e he => hs6.all e (List.mem_cons_of_mem _ he)⟩)
      clear hb6 ho6 hs6
      go_wp2
      go_roundw
      case rel => exact ⟨i + 1, _, by omega, rfl, round_length _ _, HE.out, HS.out⟩
      case measure => simp [intOf]; omega
    · obtain rfl : i = n := by omega
      have hfin : x = rounds b ks := by
        have := HE.out
        rw [List.drop_eq_nil_of_le (by rw [HN.out]; exact Nat.le_refl _)] at this
        exact this
      have HFIN := Lib.hid hfin
      clear hfin
      go_wp2_with (first | (refine (HS.out.get 1 rfl).wload rfl rfl rfl Tryz.row16 HX2.out ?_) | (refine (HS.out.get 0 rfl).wstore rfl rfl rfl rfl Tryz.row16 (by rw [List.length_map]; exact zeros_length 16) HX2.out (oneCell_B _) ?_))
      intro w9 hb9 ho9
      have hbel9 := below_only HS.out.bel ho9 (by omega)
      go_wp2
      refine hb9.result rfl rfl rfl Tryz.row16 HX2.out ⟨by rw [HFIN.out], ?_⟩
      rw [HBB.out]
      exact hbel9

end Go.Proofs.YtbpghohkhngdfaaGreatDoor
