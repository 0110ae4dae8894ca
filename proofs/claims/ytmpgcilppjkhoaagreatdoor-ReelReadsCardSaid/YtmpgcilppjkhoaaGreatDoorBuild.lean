/-
  A slice literal whose elements are arrays by value. No program.
-/
import Derived.Test.YtmpgcilppjkhoaaGreatDoorCells
namespace Go.Cells
set_option linter.unusedVariables false
open Go.RowKit Go.Mem Go.Ops

theorem fold_set : ∀ (cs : List Value) (k off : Nat) (A : List Value), off + k + cs.length ≤ A.length →
    (cs.zipIdx k).foldl (fun (acc : Array Value) (p : Value × Nat) => acc.setIfInBounds (off + p.2) p.1) A.toArray = (A.take (off + k) ++ cs ++ A.drop (off + k + cs.length)).toArray
  | [], k, off, A, _ => by simp
  | c :: r, k, off, A, h => by
    rw [List.length_cons] at h
    rw [List.zipIdx_cons, List.foldl_cons]
    simp only [List.setIfInBounds_toArray]
    rw [fold_set r (k + 1) off (A.set (off + k) c) (by rw [List.length_set]; omega)]
    congr 1
    rw [List.drop_set_of_lt (by omega), List.length_cons, show off + (k + 1) + r.length = off + k + (r.length + 1) by omega]
    congr 1
    rw [show off + (k + 1) = (off + k) + 1 by omega, List.take_add_one, List.take_set_of_le (by omega)]
    simp [show off + k < A.length by omega]

theorem fill_rows (n : Nat) : ∀ (vs : List (List Value)) (k : Nat) (A : List Value), (∀ v ∈ vs, v.length = n) → (k + vs.length) * n ≤ A.length →
    Instr.fill (fun i => some (i * n, n)) A.toArray ((vs.zipIdx k).map fun p => (p.2, Value.agg p.1.toArray)) = some (A.take (k * n) ++ vs.flatten ++ A.drop ((k + vs.length) * n)).toArray
  | [], k, A, _, _ => by simp [Instr.fill]
  | v :: r, k, A, hv, h => by
    have hn := hv v (by simp)
    have hle : k * n + n ≤ A.length := by
      have : (k + (v :: r).length) * n = k * n + n + r.length * n := by rw [List.length_cons, Nat.add_mul, Nat.add_mul, Nat.one_mul]; omega
      omega
    rw [List.zipIdx_cons, List.map_cons]
    unfold Instr.fill
    have e : (Value.agg v.toArray).cells = v.toArray := rfl
    simp only [e, List.size_toArray, hn]
    rw [if_neg (by simp; omega)]
    have hf := fold_set v 0 (k * n) A (by omega)
    simp only [Nat.add_zero] at hf
    have hz : v.toArray.zipIdx.foldl (fun (cs : Array Value) (p : Value × Nat) => cs.setIfInBounds (k * n + p.2) p.1) A.toArray = (A.take (k * n) ++ v ++ A.drop (k * n + v.length)).toArray := by
      rw [← hf]
      simp
    rw [hz, fill_rows n r (k + 1) _ (fun u hu => hv u (List.mem_cons_of_mem _ hu)) (by
      rw [List.length_append, List.length_append, List.length_take, List.length_drop, hn, Nat.min_eq_left (by omega)]
      have : (k + (v :: r).length) * n = (k + 1 + r.length) * n := by rw [List.length_cons]; congr 1; omega
      omega)]
    congr 2
    have h1 : (k + 1) * n = k * n + n := by rw [Nat.add_mul, Nat.one_mul]
    have h2 : (k + (v :: r).length) * n = k * n + n + r.length * n := by rw [List.length_cons, Nat.add_mul, Nat.add_mul, Nat.one_mul]; omega
    have h3 : (k + 1 + r.length) * n = k * n + n + r.length * n := by rw [Nat.add_mul, h1]
    have hl : (A.take (k * n) ++ v).length = k * n + n := by rw [List.length_append, List.length_take, hn, Nat.min_eq_left (by omega)]
    rw [h1, h2, h3, List.take_append, List.drop_append, hl, List.take_of_length_le (by omega), Nat.sub_self, List.take_zero, List.append_nil, List.drop_eq_nil_of_le (by omega), List.nil_append, List.drop_drop, hn, List.flatten_cons]
    simp only [List.append_assoc]
    congr 3
    congr 1
    omega

theorem run_buildRows {P : Program} (w : World) (t e : TypeId) (n m : Nat) (z : Value) (vs : List (List Value)) (parts : Array (Nat × Value)) (ht : P.underlying t = some (.slice e)) (hs : (P.info? e).map (fun i => (i.zero, i.size)) = some (some z, n)) (hz : z.cells.size = n)
    (hn : 0 < n) (hm : vs.length = m) (hm0 : 0 < m) (hb : m * n ≤ 16777216) (hv : ∀ v ∈ vs, v.length = n) (hp : parts = ((vs.zipIdx 0).map fun p => (p.2, Value.agg p.1.toArray)).toArray) :
    (Instr.buildSlice t m parts).run P w = .ok (.slice (some ⟨w.heap.size, 0, none⟩) m m) (w.alloc (.cells vs.flatten.toArray e)) := by
  cases hq : P.info? e with
  | none => rw [hq] at hs; cases hs
  | some x =>
    rw [hq] at hs
    simp only [Option.map_some, Option.some.injEq, Prod.mk.injEq] at hs
    obtain ⟨h1, h2⟩ := hs
    have h0 : m * n ≠ 0 := Nat.mul_ne_zero (by omega) (by omega)
    have hf := fill_rows n vs 0 ((List.range (m * n)).map (z.cells[· % z.cells.size]!)) hv (by simp [hm])
    have hA : ((Array.range (m * n)).map (z.cells[· % z.cells.size]!)) = ((List.range (m * n)).map (z.cells[· % z.cells.size]!)).toArray := by
      rw [← List.toArray_range, List.map_toArray]
    have hlen : ((List.range (m * n)).map (z.cells[· % z.cells.size]!)).length = m * n := by simp
    rw [Nat.zero_mul, List.take_zero, List.nil_append, Nat.zero_add, hm, List.drop_eq_nil_of_le (by omega), List.append_nil] at hf
    subst hp
    simp [Instr.buildSlice, run_underlying ht, sizeOf, typeInfo, hq, h2, h0, show ¬ (16777216 < m * n) by omega, zeroValue, h1, newRow]
    rw [hA, hf]
    rfl

/-- At a plain region's operation. -/
theorem wpList_rows {P : Program} {w : World} {ops : Array Oper} {rest : List Oper} {o : Oper} {a : Act} {Q : Exit → Act → World → Prop} (t e : TypeId) (n m : Nat) (z : Value) (vs : List (List Value)) {parts : Array (Nat × Operand)}
    (hgd : o.guard = none) (ho : o.op = .buildSlice t m parts) (hp' : (parts.toList.map fun p => (p.1, a.eval p.2)) = (vs.zipIdx 0).map fun p => (p.2, Value.agg p.1.toArray)) (ht : P.underlying t = some (.slice e)) (hs : (P.info? e).map (fun i => (i.zero, i.size)) = some (some z, n)) (hz : z.cells.size = n)
    (hn : 0 < n) (hm : vs.length = m) (hm0 : 0 < m) (hb : m * n ≤ 16777216) (hv : ∀ v ∈ vs, v.length = n)
    (k : ∀ w', Blk w' w.heap.size vs.flatten e → Below w.heap.size w w' → wpList P ops Q rest (a.put o.dst (.slice (some ⟨w.heap.size, 0, none⟩) m m)) w') : wpList P ops Q (o :: rest) a w := by
  refine wpList_plain hgd fun K hK => ?_
  have hp : (parts.map fun (i, x) => (i, a.eval x)) = ((vs.zipIdx 0).map fun p => (p.2, Value.agg p.1.toArray)).toArray := by
    apply Array.toList_inj.1
    rw [Array.toList_map]
    exact hp'
  have hk := k _ (Blk.new w vs.flatten e) (later_alloc w _)
  have hrun := run_buildRows (P := P) w t e n m z vs _ ht hs hz hn hm hm0 hb hv hp
  unfold Oper.wp execOp
  simp only [ho, Sem.run_bind, hrun, Result.andThen_ok, Sem.run_pure]
  exact hK _ _ hk

theorem oprows {P : Program} {w : World} {o : Oper} {a : Act} {K : Act → World → Prop} {Q : Exit → Act → World → Prop} (t e : TypeId) (n m : Nat) (z : Value) (vs : List (List Value)) {parts : Array (Nat × Operand)}
    (ho : o.op = .buildSlice t m parts) (hp' : (parts.toList.map fun p => (p.1, a.eval p.2)) = (vs.zipIdx 0).map fun p => (p.2, Value.agg p.1.toArray)) (ht : P.underlying t = some (.slice e)) (hs : (P.info? e).map (fun i => (i.zero, i.size)) = some (some z, n)) (hz : z.cells.size = n)
    (hn : 0 < n) (hm : vs.length = m) (hm0 : 0 < m) (hb : m * n ≤ 16777216) (hv : ∀ v ∈ vs, v.length = n)
    (k : ∀ w', Blk w' w.heap.size vs.flatten e → Below w.heap.size w w' → K (a.put o.dst (.slice (some ⟨w.heap.size, 0, none⟩) m m)) w') : o.wp P a w K Q := by
  have hp : (parts.map fun (i, x) => (i, a.eval x)) = ((vs.zipIdx 0).map fun p => (p.2, Value.agg p.1.toArray)).toArray := by
    apply Array.toList_inj.1
    rw [Array.toList_map]
    exact hp'
  have hk := k _ (Blk.new w vs.flatten e) (later_alloc w _)
  have hrun := run_buildRows (P := P) w t e n m z vs _ ht hs hz hn hm hm0 hb hv hp
  unfold Oper.wp execOp
  simp only [ho, Sem.run_bind, hrun, Result.andThen_ok, Sem.run_pure]
  exact hk

end Go.Cells
