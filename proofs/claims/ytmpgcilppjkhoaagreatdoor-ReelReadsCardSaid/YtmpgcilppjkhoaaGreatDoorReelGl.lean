/-
  What the row's hypothesis on listed variables says of memory; a world that meets it.
-/
import Derived.Test.YtmpgcilppjkhoaaGreatDoorTurnB
import Derived.Test.YtmpgcilppjkhoaaGreatDoorTie
import Derived.ProofKit
import Derived.LaidMore
import Derived.OpenShut
import Derived.Stop.Joined
namespace Go.Proofs.YtmpgcilppjkhoaaGreatDoor
open Go.RowKit Go.Mem Go.Ops Go.Cells Go.Trn Go.ChangeShapes Go.WideShapes
set_option linter.unusedSimpArgs false
set_option linter.unusedVariables false
set_option maxRecDepth 100000

/-- The list of the rows. -/
def laid4 : List (String × DataW Unit) := [("wringer/blake.first", Rows.laid_wringer_blake_first), ("wringer/blake.rows", Rows.laid_wringer_blake_rows), ("wringer/turn.mixes", Rows.laid_wringer_turn_mixes), ("wringer/turn.unmixes", Rows.laid_wringer_turn_unmixes)]

theorem gMixes : Tryz.prog.globalNamed "wringer/turn.mixes" = some 0 := by kernel_rfl
theorem gUnmixes : Tryz.prog.globalNamed "wringer/turn.unmixes" = some 1 := by kernel_rfl
theorem tMixes : (Tryz.prog.globals[0]?).map (·.type) = some 96 := by kernel_rfl
theorem tUnmixes : (Tryz.prog.globals[1]?).map (·.type) = some 96 := by kernel_rfl

theorem arr4 {H : Type} {enc : TypeId × Value → H} {P : Program} {w : World} {base : Nat} {spare : Nat → Bool} {held : Bool} {t e : TypeId} {fuel : Nat} {cs : List Value} {a b c d : Int} {p : List MemPlace}
    (ht : P.underlying t = some (.array 4 e)) (he : P.underlying e = some (.int .u8)) (hce : P.cellsOf e = 1) (hct : P.cellsOf t = 4)
    (h : DataW.trod enc P w base spare held fuel t cs = some (.agg [.lit (.int .u8 a), .lit (.int .u8 b), .lit (.int .u8 c), .lit (.int .u8 d)], p)) : cs = [.int .u8 a, .int .u8 b, .int .u8 c, .int .u8 d] := by
  obtain ⟨xs, m, _, hx, hlen, hn, hel⟩ := DataW.trod_array ht h
  rw [hct] at hlen
  have h0 := hel 0 (by decide)
  have h1 := hel 1 (by decide)
  have h2 := hel 2 (by decide)
  have h3 := hel 3 (by decide)
  simp only [Prod.mk.injEq, DataW.agg.injEq] at hx
  match xs, hn, cs, hlen with
  | [x0, x1, x2, x3], _, [c0, c1, c2, c3], _ =>
    simp only [List.map_cons, List.map_nil, List.cons.injEq, and_true] at hx
    obtain ⟨⟨q0, q1, q2, q3⟩, _⟩ := hx
    rw [hce] at h0 h1 h2 h3
    obtain ⟨n0, e0, r0, _⟩ := DataW.trod_int he (show DataW.trod _ P w base spare held m e _ = some x0 from h0)
    obtain ⟨n1, e1, r1, _⟩ := DataW.trod_int he (show DataW.trod _ P w base spare held m e _ = some x1 from h1)
    obtain ⟨n2, e2, r2, _⟩ := DataW.trod_int he (show DataW.trod _ P w base spare held m e _ = some x2 from h2)
    obtain ⟨n3, e3, r3, _⟩ := DataW.trod_int he (show DataW.trod _ P w base spare held m e _ = some x3 from h3)
    simp at e0 e1 e2 e3
    subst e0; subst e1; subst e2; subst e3
    rw [r0] at q0; rw [r1] at q1; rw [r2] at q2; rw [r3] at q3
    simp at q0 q1 q2 q3
    subst q0; subst q1; subst q2; subst q3
    rfl

theorem blk_of_var {P : Program} {w : World} {n : String} {g : Nat} {cs : Array Value} {vs : List Value} (hg : P.globalNamed n = some g) (hv : w.var? P n = some cs) (hcs : cs.toList = vs)
    (hz : ∃ c t, w.heap[g]? = some (.cells c t (0, 0))) : Blk w g vs (tyAt w g) := by
  obtain ⟨c, t, hb⟩ := hz
  have h1 : cs = c := by
    simp only [World.var?, hg, Option.bind_some, hb] at hv
    exact (Option.some.inj hv).symm
  subst h1
  unfold Blk tyAt
  rw [hb, ← hcs]

theorem globals_of_laid {W : World} (h : laidMetH Tryz.prog laid4 W) : Globals W := by
  rw [MakeChecks.laidMetH_plain _ _ _ (by kernel_rfl)] at h
  obtain ⟨ps, ⟨g0, t0, cs0, f0, p0, q0, hg0, ht0, hv0, hd0, ⟨g1, t1, cs1, f1, p1, q1, hg1, ht1, hv1, hd1, ⟨g2, t2, cs2, f2, p2, q2, hg2, ht2, hv2, hd2, ⟨g3, t3, cs3, f3, p3, q3, hg3, ht3, hv3, hd3, _, e3⟩, e2⟩, e1⟩, e0⟩, _, hz⟩ := h
  obtain rfl := Option.some.inj (gMixes.symm.trans hg2)
  obtain rfl := Option.some.inj (gUnmixes.symm.trans hg3)
  obtain rfl := Option.some.inj (tMixes.symm.trans ht2)
  obtain rfl := Option.some.inj (tUnmixes.symm.trans ht3)
  have c2 := arr4 Tryz.underlying96 Tryz.underlying5 (by kernel_rfl) (by kernel_rfl) hd2
  have c3 := arr4 Tryz.underlying96 Tryz.underlying5 (by kernel_rfl) (by kernel_rfl) hd3
  have s2 : cs2.size = 4 := by rw [← Array.length_toList, c2]; rfl
  have s3 : cs3.size = 4 := by rw [← Array.length_toList, c3]; rfl
  refine ⟨blk_of_var hg2 hv2 c2 (hz 0 0 ?_).1, blk_of_var hg3 hv3 c3 (hz 1 0 ?_).1⟩
  · rw [e0, e1, e2, s2]
    exact List.mem_append_right _ (List.mem_append_right _ (List.mem_append_left _ (List.mem_append_left _ (MemPlace.mem_row.2 ⟨0, by omega, rfl⟩))))
  · rw [e0, e1, e2, e3, s3]
    exact List.mem_append_right _ (List.mem_append_right _ (List.mem_append_right _ (List.mem_append_left _ (List.mem_append_left _ (MemPlace.mem_row.2 ⟨0, by omega, rfl⟩)))))

/-- The door's own heap meets the condition. -/
theorem door_met (os : Os) (args : Array Value) : laidMetH Tryz.prog laid4 ((World.doorLaid Tryz.prog 39 os).forCall (fun _ _ => 0) ⟨#[], args, []⟩).memory :=
  laidMetH_of_parts3 (fuel := 8) (laidMet_of_run' 8 (by kernel_rfl) (by kernel_rfl)) (by kernel_rfl) (by kernel_rfl)

end Go.Proofs.YtmpgcilppjkhoaaGreatDoor
