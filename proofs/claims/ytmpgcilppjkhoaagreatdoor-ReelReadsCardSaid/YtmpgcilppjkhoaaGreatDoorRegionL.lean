/-
  An array or a struct by value, loaded whole in a region that draws its order. No program.
-/
import Derived.Test.YtmpgcilppjkhoaaGreatDoorRegionP
import Derived.Test.YtmpgcilppjkhoaaGreatDoorRegionB
import Derived.Test.YtmpgcilppjkhoaaGreatDoorCells
namespace Go
open Go.RowKit Go.Cells

section
variable {P : Program} {ops : Array Oper} {Q : Exit → Act → World → Prop}

theorem run_load_op {o : Oper} {a : Act} {w : World} {ty : TypeId} {x : Operand} {b off n : Nat} {vs : List Value} (hop : o.op = .load ty x) (hx : a.eval x = .pointer (some ⟨b, off, none⟩)) (hr : Row P ty n) (hn : vs.length = n) (h : w.rangeAt b off vs) :
    (execOp a.eval o).run P w = .ok (.value (.agg vs.toArray)) w := by
  obtain ⟨d, hu, hd, hi⟩ := hr.open
  simp [execOp, hop, hx, run_loadAt_mid w b off ty vs d h hu hd (by rw [hi, hn])]

theorem rangeAt_below {w w' : World} {B b off : Nat} {vs : List Value} (h : w.rangeAt b off vs) (hb : Below B w w') (hB : b < B) : w'.rangeAt b off vs := fun j v hv => (hb.cell (p := ⟨b, off + j, none⟩) hB).trans (h j v hv)

theorem walkR_load {i : Nat} {r : List Nat} {o : Oper} {a : Act} {w : World} {ty : TypeId} {x : Operand} {b off n : Nat} {vs : List Value} (h : w.rangeAt b off vs) (hb : b < w.heap.size) (hr : Row P ty n) (hn : vs.length = n)
    (ho : ops[i]? = some o) (hg : o.guard = none) (hop : o.op = .load ty x) (hx : a.eval x = .pointer (some ⟨b, off, none⟩))
    (k : ∀ K : Act → Prop, (∀ a', walkR P ops Q r a' w → K a') → K (a.put o.dst (.agg vs.toArray))) : walkR P ops Q (i :: r) a w :=
  walkR_yes ho (by unfold Oper.kindR; rw [hop]) (by simp [Region.wanted, hg]) (fun w' hw' => run_load_op hop hx hr hn (rangeAt_below h hw' hb)) k

theorem walk0_load {k0 : Act → World → Prop} {i : Nat} {r : List Nat} {o : Oper} {a : Act} {w : World} {ty : TypeId} {x : Operand} {b off n : Nat} {vs : List Value} (h : w.rangeAt b off vs) (hb : b < w.heap.size) (hr : Row P ty n) (hn : vs.length = n)
    (ho : ops[i]? = some o) (hop : o.op = .load ty x) (hx : a.eval x = .pointer (some ⟨b, off, none⟩))
    (k : ∀ K : Act → Prop, (∀ a', walk0 P ops k0 r a' w → K a') → K (a.put o.dst (.agg vs.toArray))) : walk0 P ops k0 (i :: r) a w := by
  simp only [walk0, ho]
  exact ⟨_, fun w' hw' => run_load_op hop hx hr hn (rangeAt_below h hw' hb), k _ fun _ h => h⟩

theorem walkP_load {F : List Floater} {base : Nat} {k0 : Act → World → Prop} {i : Nat} {r : List Nat} {o : Oper} {a : Act} {w : World} {ty : TypeId} {x : Operand} {b off n : Nat} {vs : List Value} (h : w.rangeAt b off vs) (hb : b < w.heap.size) (hr : Row P ty n) (hn : vs.length = n)
    (ho : ops[i]? = some o) (hop : o.op = .load ty x) (hx : a.eval x = .pointer (some ⟨b, off, none⟩))
    (k : ∀ K : Act → Prop, (∀ a', walkP P ops Q F base k0 r a' w → K a') → K (a.put o.dst (.agg vs.toArray))) : walkP P ops Q F base k0 (i :: r) a w := by
  have hk : o.kindR = 0 := by unfold Oper.kindR; rw [hop]
  simp only [walkP, ho, hk, if_true]
  exact ⟨_, fun w' hw' => run_load_op hop hx hr hn (rangeAt_below h hw' hb), k _ fun _ h => h⟩

theorem walkB_load {B i : Nat} {r : List (Nat × Bool)} {o : Oper} {a : Act} {w : World} {ty : TypeId} {x : Operand} {b off n : Nat} {vs : List Value} (h : w.rangeAt b off vs) (hb : b < B) (hr : Row P ty n) (hn : vs.length = n)
    (ho : ops[i]? = some o) (hg : o.guard = none) (hop : o.op = .load ty x) (hx : a.eval x = .pointer (some ⟨b, off, none⟩))
    (k : ∀ K : Act → Prop, (∀ a', walkB B P ops Q r a' w → K a') → K (a.put o.dst (.agg vs.toArray))) : walkB B P ops Q ((i, true) :: r) a w := by
  have hw : Region.wanted o (yielded ops a.tmps) = true := by simp [Region.wanted, hg]
  simp only [walkB, ho, hw, if_true]
  exact ⟨_, fun w' hw' => run_load_op hop hx hr hn (rangeAt_below h hw' hb), k _ fun _ h => h⟩

theorem Blk.rangeIn {w : World} {b : Nat} {vs : List Value} {ty : TypeId} (h : Blk w b vs ty) (off n : Nat) (us : List Value) (hu : (vs.drop off).take n = us) : w.rangeAt b off us := by
  intro j v hv
  subst hu
  rw [List.getElem?_take] at hv
  split at hv
  · rw [List.getElem?_drop] at hv
    exact h.cell _ _ hv
  · cases hv

end
end Go
