/-
  Texts of this claim, one behind the other: EzcF.
-/
import Derived.Test.YtbpghohkhngdfaaGreatDoorM18
/-
  What ezcore's Turn needs: the pairs in memory, empty or not; the sum of two calls in a region that draws its order.
-/
set_option linter.unusedSimpArgs false
set_option linter.unusedVariables false
namespace Go
open Go.RowKit Go.Mem Go.Cells
section
variable {P : Program} {ops : Array Oper} {Q : Exit → Act → World → Prop} {R : World → World → Prop} {C : Act → World → Prop}
theorem walkM_load {i : Nat} {r : List Nat} {o : Oper} {a : Act} {w : World} {ty : TypeId} {x : Operand} {b off n : Nat} {vs : List Value} (h : ∀ w', R w w' → w'.rangeAt b off vs) (hr : Row P ty n) (hn : vs.length = n)
    (ho : ops[i]? = some o) (hg : o.guard = none) (hop : o.op = .load ty x) (hx : a.eval x = .pointer (some ⟨b, off, none⟩))
    (k : ∀ K : Act → Prop, (∀ a', walkM R P ops C r a' w → K a') → K (a.put o.dst (.agg vs.toArray))) : walkM R P ops C (i :: r) a w := by
  have hw : Region.wanted o (yielded ops a.tmps) = true := by simp [Region.wanted, hg]
  simp only [walkM, ho, hw, if_true]
  exact ⟨_, fun w' hw' => run_load_op hop hx hr hn (h w' hw'), k _ fun _ h => h⟩
end
end Go
namespace Go.Cells
open Go.RowKit Go.Mem
theorem Blk.grown {w w' : World} {o : Option Nat} {c : Nat} {vs : List Value} {ty : TypeId} (h : Blk w c vs ty) (hg : w.grownBy w' o) (hne : some c ≠ o) : Blk w' c vs ty := (hg.block c h.lt hne).trans h
theorem grown_below {w w' : World} {o : Option Nat} (h : Below w.heap.size w w') : w.grownBy w' o := ⟨h.os, h.tape, h.output, h.size, fun k hk _ => h.block k hk⟩
theorem grown_only {w w' : World} {c : Nat} (h : Only c w w') : w.grownBy w' (some c) := ⟨h.os, h.tape, h.output, by rw [h.size]; exact Nat.le_refl _, fun k _ hne => h.block k (fun e => hne (by rw [e]))⟩
theorem grown_onlyB {w w' : World} {c : Nat} (h : OnlyB c w w') : w.grownBy w' (some c) := ⟨h.os, h.tape, h.output, h.size, fun k hk hne => h.block k hk (fun e => hne (by rw [e]))⟩
theorem St.restart {w0 w : World} {base : Nat} {L : List (Nat × List Value × TypeId)} (h : St w0 base w L) : St w base w L := ⟨Nat.le_trans h.base_le h.bel.size, Below.refl _ _, h.all⟩
theorem St.rebase {w0 w : World} {base : Nat} {L : List (Nat × List Value × TypeId)} (h : St w0 base w L) {B : Nat} (hB : B ≤ w.heap.size) : St w B w L := ⟨hB, Below.refl _ _, h.all⟩
theorem St.restartAt {w0 w : World} {base : Nat} {L : List (Nat × List Value × TypeId)} (h : St w0 base w L) : St w w.heap.size w L := ⟨Nat.le_refl _, Below.refl _ _, h.all⟩
theorem St.grown {w0 w w' : World} {base : Nat} {o : Option Nat} {L : List (Nat × List Value × TypeId)} (h : St w0 base w L) (hg : w.grownBy w' o) (hob : ∀ g, o = some g → base ≤ g) (hne : ∀ e ∈ L, some e.1 ≠ o) : St w0 base w' L :=
  ⟨h.base_le, h.bel.grown hg h.size (fun k hk => hob k hk), fun e he => (h.all e he).grown hg (hne e he)⟩
end Go.Cells
namespace Go.Proofs.YtbpghohkhngdfaaGreatDoor
open Go.RowKit Go.Mem Go.Ops Go.Cells Go.Oct Go.Gf Go.Trn Go.Aes Go.Ring Go.Ezk Go.Ezh Go.Ezt Go.Ezc Go.CutP Go.Fl
set_option maxRecDepth 100000
attribute [local irreducible] walkR walkP walk0 walkB walkK walkM

/-- The pairs in memory; o is their block, if there is one. -/
def PM (w : World) (pv : Value) (ps : Pairs) (o : Option Nat) : Prop :=
  (∀ p ∈ ps, PairFit p) ∧ ((pv = .slice none 0 0 ∧ ps = [] ∧ o = none) ∨ ∃ g cp tl, o = some g ∧ pv = .slice (some ⟨g, 0, none⟩) ps.length cp ∧ Blk w g ((flatP ps).map B ++ tl) 253)
theorem PM.later {w w' : World} {pv : Value} {ps : Pairs} {o : Option Nat} (h : PM w pv ps o) (hb : Below w.heap.size w w') : PM w' pv ps o :=
  ⟨h.1, h.2.imp id fun ⟨g, cp, tl, e1, e2, e3⟩ => ⟨g, cp, tl, e1, e2, e3.below hb e3.lt⟩⟩
theorem PM.only {w w' : World} {pv : Value} {ps : Pairs} {o : Option Nat} {c : Nat} {vs : List Value} {ty : TypeId} (h : PM w pv ps o) (hc : Blk w c vs ty) (hne : (253 : TypeId) ≠ ty) (ho : Only c w w') : PM w' pv ps o :=
  ⟨h.1, h.2.imp id fun ⟨g, cp, tl, e1, e2, e3⟩ => ⟨g, cp, tl, e1, e2, e3.only ho (e3.ne' hc hne)⟩⟩
theorem PM.rows {w : World} {pv : Value} {ps : Pairs} {o : Option Nat} (h : PM w pv ps o) : ∃ ap cp, pv = .slice ap ps.length cp ∧ RowsN 32 w ap (ps.map pcat) := by
  obtain ⟨hf, ⟨rfl, rfl, _⟩ | ⟨g, cp, tl, _, rfl, hb⟩⟩ := h
  · exact ⟨none, 0, rfl, ⟨by simp, Lies.nil _ _⟩⟩
  · refine ⟨_, cp, rfl, rows_pairs hf ?_⟩
    have := hb.lies.take ((flatP ps).map B).length
    rwa [List.take_left] at this
theorem PM.one {w : World} {pv : Value} {ps : Pairs} {o : Option Nat} (h : PM w pv ps o) : pv.oneCell' = true := by
  obtain ⟨_, ⟨rfl, _⟩ | ⟨g, cp, tl, _, rfl, _⟩⟩ := h <;> rfl
theorem pm_of_own {w : World} {base : Nat} {pv : Value} {ps : Pairs} (hf : ∀ p ∈ ps, PairFit p) (h : w.ownsRow base 253 32 pv ps.length ((flatP ps).map B)) :
    ∃ o, PM w pv ps o ∧ ∀ g, o = some g → base ≤ g ∧ g < w.heap.size := by
  rcases h.2 with ⟨rfl, hn⟩ | ⟨g, cap, cur, rfl, hb, hg, h1, h2, h3, ht⟩
  · exact ⟨none, ⟨hf, .inl ⟨rfl, List.eq_nil_of_length_eq_zero hn, rfl⟩⟩, fun g e => by cases e⟩
  · have hbl : Blk w g ((flatP ps).map B ++ cur.toList.drop (ps.length * 32)) 253 := by
      rw [← ht, List.take_append_drop]
      unfold Blk; rw [hg]
    exact ⟨some g, ⟨hf, .inr ⟨g, cap, _, rfl, rfl, hbl⟩⟩, fun g' e => by cases e; exact ⟨hb, hbl.lt⟩⟩

theorem own_grownBy {w w' : World} {pv v : Value} {ps : Pairs} {o : Option Nat} {base size n : Nat} {e : TypeId} {xs : List Value} (h : w.ownsRow base e size v n xs) (hp : PM w pv ps o) (hne : e ≠ 253) (hg : w.grownBy w' o) : w'.ownsRow base e size v n xs := by
  refine ⟨h.1, h.2.imp id ?_⟩
  rintro ⟨g, cap, cur, hv, hb, hh, rest⟩
  refine ⟨g, cap, cur, hv, hb, (hg.block g (Array.getElem?_eq_some_iff.1 hh).1 (fun e' => ?_)).trans hh, rest⟩
  obtain ⟨_, ⟨_, _, rfl⟩ | ⟨g', cp, tl, rfl, _, hb'⟩⟩ := hp
  · cases e'
  · cases e'
    unfold Blk at hb'
    rw [hh] at hb'
    cases hb'
    exact hne rfl
theorem msgV_setY {pv uv vv : Value} {x y y' : List UInt8} (hx : x.length = 16) (hy : y.length = 16) (hy' : y'.length = 16) : (msgV pv uv vv x y).take 19 ++ y'.map B ++ (msgV pv uv vv x y).drop (19 + (y'.map B).length) = msgV pv uv vv x y' := by
  have e1 : (msgV pv uv vv x y).take 19 = pv :: uv :: vv :: x.map B := by
    show pv :: uv :: vv :: (x.map B ++ y.map B).take 16 = _
    rw [show (16 : Nat) = (x.map B).length by simp [hx], List.take_left]
  rw [e1, List.drop_eq_nil_of_le (by rw [msgV_length hx hy]; simp [hy'])]
  simp [msgV]
theorem msgV_setX {pv uv vv : Value} {x y x' : List UInt8} (hx : x.length = 16) (hx' : x'.length = 16) : (msgV pv uv vv x y).take 3 ++ x'.map B ++ (msgV pv uv vv x y).drop (3 + (x'.map B).length) = msgV pv uv vv x' y := by
  have e1 : (msgV pv uv vv x y).drop (3 + (x'.map B).length) = y.map B := by
    rw [show 3 + (x'.map B).length = 16 + 1 + 1 + 1 by simp [hx']]
    show (x.map B ++ y.map B).drop 16 = _
    rw [show (16 : Nat) = (x.map B).length by simp [hx], List.drop_left]
  rw [e1]
  rfl

theorem ahead_nil (kp : Nat) (k : Parts) (uv vv : Value) (x y : List UInt8) (w : World) :
    Calls Tryz.prog 130 #[.agg (msgV (.slice none 0 0) uv vv x y).toArray, .pointer (some ⟨kp, 0, none⟩)] w fun e w' => e = .returned (.agg ((zeros 16).map B).toArray) ∧ Below w.heap.size w w' := by
  have HS := Lib.hid (St.start w)
  obtain ⟨V, hV⟩ : ∃ V, V = msgV (.slice none 0 0) uv vv x y := ⟨_, rfl⟩
  have HVV := Lib.hid (show V = msgV (.slice none 0 0) uv vv x y ∧ True from ⟨hV, trivial⟩)
  rw [← hV]
  clear hV
  go_enter Tryz.func130, Tryz.ntmps130
  go_wp2_with (refine wpList_box 189 _ (V) _ rfl rfl rfl rfl ?_)
  intro w1 hb hbel; have HS := Lib.hid (HS.out.push hb hbel); have hlt1 := hb.lt; clear hb hbel
  go_wp2_with (refine wpList_var 52 ((zeros 16).map B) _ rfl rfl Tryz.zero16 rfl ?_)
  intro w2 hb hbel; have HS := Lib.hid (HS.out.push hb hbel); have hlt2 := hb.lt; clear hb hbel
  go_wp2_with (refine wpList_var 52 ((zeros 16).map B) _ rfl rfl Tryz.zero16 rfl ?_)
  intro w3 hb hbel; have HS := Lib.hid (HS.out.push hb hbel); have hlt3 := hb.lt; clear hb hbel
  generalize hbb : w.heap.size = bb at *
  generalize w1.heap.size = bw1 at *
  generalize w2.heap.size = bw2 at *
  have HBB := Lib.hid hbb
  clear hbb
  have hc0 := (HS.out.get 2 rfl).cell 0 (.slice none 0 0) (by rw [HVV.out.1]; rfl)
  go_wp2
  go_loopw [12] (fun c wr => c = .int .i64 0 ∧ Hid (St w bb wr [(bw2, (zeros 16).map B, 52), (bw1, (zeros 16).map B, 52), (bb, V, 189)])) (fun c _ => 0)
  case atStart => exact ⟨rfl, HS⟩
  case round =>
    clear HS hc0
    obtain ⟨rfl, HS⟩ := hrel
    go_wp2_with (first | (refine (HS.out.get 0 rfl).wload rfl rfl rfl Tryz.row16 (by simp [zeros_length]) ?_) | (refine (HS.out.get 1 rfl).wstore rfl rfl rfl (cs := (zeros 16).map B) rfl Tryz.row16 (by rw [List.length_map]; exact zeros_length 16) (by rw [List.length_map]; exact zeros_length 16) (oneCell_B _) ?_))
    intro w6 hb6 ho6
    have hbel6 := below_only HS.out.bel ho6 (by omega)
    go_wp2
    refine hb6.result rfl rfl rfl Tryz.row16 (by rw [List.length_map]; exact zeros_length 16) ⟨rfl, by rw [HBB.out]; exact hbel6⟩

theorem behind_nil (kp : Nat) (k : Parts) (uv vv : Value) (x y z : List UInt8) (w : World) (hz : z.length = 16) :
    Calls Tryz.prog 132 #[.agg (msgV (.slice none 0 0) uv vv x y).toArray, .pointer (some ⟨kp, 0, none⟩), .agg (z.map B).toArray] w fun e w' => e = .returned (.agg ((zeros 16).map B).toArray) ∧ Below w.heap.size w w' := by
  have HS := Lib.hid (St.start w)
  obtain ⟨V, hV⟩ : ∃ V, V = msgV (.slice none 0 0) uv vv x y := ⟨_, rfl⟩
  have HVV := Lib.hid (show V = msgV (.slice none 0 0) uv vv x y ∧ True from ⟨hV, trivial⟩)
  rw [← hV]
  clear hV hz
  go_enter Tryz.func132, Tryz.ntmps132
  go_wp2_with (refine wpList_box 189 _ (V) _ rfl rfl rfl rfl ?_)
  intro w1 hb hbel; have HS := Lib.hid (HS.out.push hb hbel); have hlt1 := hb.lt; clear hb hbel
  go_wp2_with (refine wpList_box 52 _ (z.map B) _ rfl rfl rfl rfl ?_)
  intro w2 hb hbel; have HS := Lib.hid (HS.out.push hb hbel); have hlt2 := hb.lt; clear hb hbel
  go_wp2_with (refine wpList_var 52 ((zeros 16).map B) _ rfl rfl Tryz.zero16 rfl ?_)
  intro w3 hb hbel; have HS := Lib.hid (HS.out.push hb hbel); have hlt3 := hb.lt; clear hb hbel
  go_wp2_with (refine wpList_var 52 ((zeros 16).map B) _ rfl rfl Tryz.zero16 rfl ?_)
  intro w4 hb hbel; have HS := Lib.hid (HS.out.push hb hbel); have hlt4 := hb.lt; clear hb hbel
  generalize hbb : w.heap.size = bb at *
  generalize w1.heap.size = bw1 at *
  generalize w2.heap.size = bw2 at *
  generalize w3.heap.size = bw3 at *
  have HBB := Lib.hid hbb
  clear hbb
  have hc0 := (HS.out.get 3 rfl).cell 0 (.slice none 0 0) (by rw [HVV.out.1]; rfl)
  go_wp2
  go_loopw [16] (fun c wr => c = .int .i64 0 ∧ Hid (St w bb wr [(bw3, (zeros 16).map B, 52), (bw2, (zeros 16).map B, 52), (bw1, z.map B, 52), (bb, V, 189)])) (fun c _ => 0)
  case atStart => exact ⟨rfl, HS⟩
  case round =>
    clear HS hc0
    obtain ⟨rfl, HS⟩ := hrel
    go_wp2_with (first | (refine (HS.out.get 0 rfl).wload rfl rfl rfl Tryz.row16 (by simp [zeros_length]) ?_) | (refine (HS.out.get 1 rfl).wstore rfl rfl rfl (cs := (zeros 16).map B) rfl Tryz.row16 (by rw [List.length_map]; exact zeros_length 16) (by rw [List.length_map]; exact zeros_length 16) (oneCell_B _) ?_))
    intro w6 hb6 ho6
    have hbel6 := below_only HS.out.bel ho6 (by omega)
    go_wp2
    refine hb6.result rfl rfl rfl Tryz.row16 (by rw [List.length_map]; exact zeros_length 16) ⟨rfl, by rw [HBB.out]; exact hbel6⟩

theorem ahead_any (kp q p : Nat) (k : Parts) (pv : Value) (ps : Pairs) (o : Option Nat) (uv vv : Value) (x y : List UInt8) (w : World) (hk : EKey w kp q p k) (h : PM w pv ps o) (hb : ps.length ≤ 900) :
    Calls Tryz.prog 130 #[.agg (msgV pv uv vv x y).toArray, .pointer (some ⟨kp, 0, none⟩)] w fun e w' => e = .returned (.agg ((aheadS k 0 (zeros 16) ps).map B).toArray) ∧ PM w' pv (aheadP k 0 ps) o ∧ w.grownBy w' o := by
  obtain ⟨hf, ⟨rfl, rfl, rfl⟩ | ⟨g, cp, tl, rfl, rfl, hp⟩⟩ := h
  · refine (ahead_nil kp k uv vv x y w).mono ?_
    rintro e w' ⟨rfl, hbel⟩
    exact ⟨rfl, ⟨by simp [aheadP], .inl ⟨rfl, rfl, rfl⟩⟩, grown_below hbel⟩
  · refine (ahead_ok kp q p k g ps.length cp ps tl uv vv x y w hk rfl hf hp hb).mono ?_
    rintro e w' ⟨rfl, hb, ho⟩
    exact ⟨rfl, ⟨aheadP_fit k _ _, .inr ⟨g, cp, tl, rfl, by rw [aheadP_length], hb⟩⟩, grown_onlyB ho⟩
theorem behind_any (kp q p : Nat) (k : Parts) (pv : Value) (ps : Pairs) (o : Option Nat) (uv vv : Value) (x y z : List UInt8) (w : World) (hk : EKey w kp q p k) (h : PM w pv ps o) (hb : ps.length ≤ 900) (hz : z.length = 16) :
    Calls Tryz.prog 132 #[.agg (msgV pv uv vv x y).toArray, .pointer (some ⟨kp, 0, none⟩), .agg (z.map B).toArray] w fun e w' => e = .returned (.agg ((behindS k z 0 (zeros 16) ps).map B).toArray) ∧ PM w' pv (behindP k z 0 ps) o ∧ w.grownBy w' o := by
  obtain ⟨hf, ⟨rfl, rfl, rfl⟩ | ⟨g, cp, tl, rfl, rfl, hp⟩⟩ := h
  · refine (behind_nil kp k uv vv x y z w hz).mono ?_
    rintro e w' ⟨rfl, hbel⟩
    exact ⟨rfl, ⟨by simp [behindP], .inl ⟨rfl, rfl, rfl⟩⟩, grown_below hbel⟩
  · refine (behind_ok kp q p k g ps.length cp ps tl uv vv x y z w hk rfl hf hz hp hb).mono ?_
    rintro e w' ⟨rfl, hb, ho⟩
    exact ⟨rfl, ⟨behindP_fit k z _ _, .inr ⟨g, cp, tl, rfl, by rw [behindP_length], hb⟩⟩, grown_onlyB ho⟩
theorem aheadS_length (k : Parts) : ∀ (n : Nat) (s : List UInt8) (ps : Pairs), s.length = 16 → (aheadS k n s ps).length = 16
  | _, _, [], h => h
  | n, s, p :: r, _ => aheadS_length k (n + 1) _ r (plusB_length _)
theorem behindS_length (k : Parts) (z : List UInt8) : ∀ (n : Nat) (s : List UInt8) (ps : Pairs), s.length = 16 → (behindS k z n s ps).length = 16
  | _, _, [], h => h
  | n, s, p :: r, _ => behindS_length k z (n + 1) _ r (plusB_length _)
theorem tailC_length (k : Parts) (u v : List UInt8) : (tailC k u v).length = 16 := by
  unfold tailC
  split
  · exact zeros_length 16
  · split
    · exact plusB_length _
    · exact eBlk_length _ _ _ _

/-- What has come up of a sum of two calls, the first of which writes the block g. -/
structure TI (d2 d5 d6 d7 d8 : Bool) (base : Nat) (w : World) (v2 v5 v6 v7 v8 : Value) (A T S : List UInt8) : Prop where
  r2 : d2 = true → v2 = .agg (A.map B).toArray
  r5 : d5 = true → v5 = .agg (T.map B).toArray
  r6 : d6 = true → ∃ n, v6 = .slice (some ⟨n, 0, none⟩) 2 2 ∧ RowsN 16 w (some ⟨n, 0, none⟩) [A, T] ∧ d2 = true
  r7 : d7 = true → v7 = .agg (S.map B).toArray
  r8 : d8 = true → ∃ n, v8 = .pointer (some ⟨n, 0, none⟩) ∧ base ≤ n ∧ Blk w n ((zeros 16).map B) 52
section
variable {d2 d5 d6 d7 d8 : Bool} {base : Nat} {w w' : World} {v2 v5 v6 v7 v8 : Value} {A T S : List UInt8}
theorem TI.nought : TI false false false false false base w v2 v5 v6 v7 v8 A T S := ⟨fun h => (by cases h), fun h => (by cases h), fun h => (by cases h), fun h => (by cases h), fun h => (by cases h)⟩
theorem TI.later (h : TI d2 d5 d6 d7 d8 base w v2 v5 v6 v7 v8 A T S) (hb : Below w.heap.size w w') : TI d2 d5 d6 d7 d8 base w' v2 v5 v6 v7 v8 A T S :=
  ⟨h.r2, h.r5, fun x => by obtain ⟨n, e, r, s⟩ := h.r6 x; exact ⟨n, e, r.below hb, s⟩, h.r7, fun x => by obtain ⟨n, e, r, s⟩ := h.r8 x; exact ⟨n, e, r, s.below hb s.lt⟩⟩
theorem TI.s2 (h : TI false d5 d6 d7 d8 base w v2 v5 v6 v7 v8 A T S) {o : Option Nat} (ho : w.grownBy w' o) (hg : ∀ g, o = some g → g < base) : TI true d5 d6 d7 d8 base w' (.agg (A.map B).toArray) v5 v6 v7 v8 A T S :=
  ⟨fun _ => rfl, h.r5, fun x => (by obtain ⟨n, e, r, s⟩ := h.r6 x; cases s), h.r7, fun x => (by obtain ⟨n, e, r, s⟩ := h.r8 x; exact ⟨n, e, r, s.grown ho (fun e' => by have := hg n e'.symm; omega)⟩)⟩
theorem TI.s5 (h : TI d2 d5 d6 d7 d8 base w v2 v5 v6 v7 v8 A T S) : TI d2 true d6 d7 d8 base w v2 (.agg (T.map B).toArray) v6 v7 v8 A T S := ⟨h.r2, fun _ => rfl, h.r6, h.r7, h.r8⟩
theorem TI.s6 (h : TI d2 d5 d6 d7 d8 base w v2 v5 v6 v7 v8 A T S) {n : Nat} (hr : RowsN 16 w (some ⟨n, 0, none⟩) [A, T]) (hd : d2 = true) : TI d2 d5 true d7 d8 base w v2 v5 (.slice (some ⟨n, 0, none⟩) 2 2) v7 v8 A T S := ⟨h.r2, h.r5, fun _ => ⟨n, rfl, hr, hd⟩, h.r7, h.r8⟩
theorem TI.s7 (h : TI d2 d5 d6 d7 d8 base w v2 v5 v6 v7 v8 A T S) : TI d2 d5 d6 true d8 base w v2 v5 v6 (.agg (S.map B).toArray) v8 A T S := ⟨h.r2, h.r5, h.r6, fun _ => rfl, h.r8⟩
theorem TI.s8 (h : TI d2 d5 d6 d7 d8 base w v2 v5 v6 v7 v8 A T S) (hB : base ≤ w.heap.size) (hbl : Blk w' w.heap.size ((zeros 16).map B) 52) (hb : Below w.heap.size w w') : TI d2 d5 d6 d7 true base w' v2 v5 v6 v7 (.pointer (some ⟨w.heap.size, 0, none⟩)) A T S := by
  have h' := h.later hb
  exact ⟨h'.r2, h'.r5, h'.r6, h'.r7, fun _ => ⟨_, rfl, hB, hbl⟩⟩
end

end Go.Proofs.YtbpghohkhngdfaaGreatDoor
