/-
  Texts of this claim, one behind the other: Cells OctPlain GfPlain TurnPlain AesPlain RingPlain OctA.
-/
import Derived.Test.YtbpghohkhngdfaaGreatDoorM1
import Derived.Test.YtbpghohkhngdfaaGreatDoorRows
import Derived.Deep.MidRow
import Derived.OwnWalk
/-
  Plain facts on memory: a block as a list of cells that may be written. No program.
-/
namespace Go.Cells
open Go.RowKit Go.Mem Go.Ops

/-- The block holds these cells; none is frozen. -/
def Blk (w : World) (b : Nat) (vs : List Value) (ty : TypeId) : Prop := w.heap[b]? = some (.cells vs.toArray ty (0, 0))

theorem Blk.lt {w : World} {b : Nat} {vs : List Value} {ty : TypeId} (h : Blk w b vs ty) : b < w.heap.size := by
  unfold Blk at h
  exact (Array.getElem?_eq_some_iff.1 h).1

theorem Blk.cell {w : World} {b : Nat} {vs : List Value} {ty : TypeId} (h : Blk w b vs ty) (i : Nat) (u : Value) (hu : vs[i]? = some u) : w.cell? ⟨b, i, none⟩ = some u := by
  unfold Blk at h
  simp [World.cell?, h, hu]

theorem Blk.free {w : World} {b : Nat} {vs : List Value} {ty : TypeId} (h : Blk w b vs ty) (i : Nat) : w.frozen? ⟨b, i, none⟩ = false := by
  unfold Blk at h
  simp [World.frozen?, h]

theorem Blk.set {w : World} {b : Nat} {vs : List Value} {ty : TypeId} (h : Blk w b vs ty) (i : Nat) (v : Value) : Blk (w.setCell ⟨b, i, none⟩ v) b (vs.set i v) ty := by
  unfold Blk at *
  have hlt := (Array.getElem?_eq_some_iff.1 h).1
  have he := (Array.getElem?_eq_some_iff.1 h).2
  simp only [World.setCell, Array.getElem?_modify, h]
  simp

theorem Blk.setOther {w : World} {b : Nat} {vs : List Value} {ty : TypeId} (h : Blk w b vs ty) {a : Addr} (hne : a.block ≠ b) (v : Value) : Blk (w.setCell a v) b vs ty := by
  unfold Blk at *
  simp only [World.setCell, Array.getElem?_modify, h]
  simp [hne]

theorem Blk.new (w : World) (vs : List Value) (ty : TypeId) : Blk (w.alloc (.cells vs.toArray ty)) w.heap.size vs ty := heap_alloc_new w _

theorem Blk.alloc {w : World} {b : Nat} {vs : List Value} {ty : TypeId} (h : Blk w b vs ty) (o : Obj) : Blk (w.alloc o) b vs ty := (heap_alloc_old w _ h.lt).trans h

theorem Blk.drew {w : World} {b : Nat} {vs : List Value} {ty : TypeId} (h : Blk w b vs ty) : Blk w.drew b vs ty := h

theorem Blk.below {w w' : World} {b B : Nat} {vs : List Value} {ty : TypeId} (h : Blk w b vs ty) (hb : Below B w w') (h2 : b < B) : Blk w' b vs ty := (hb.block b h2).trans h

theorem Blk.lies {w : World} {b : Nat} {vs : List Value} {ty : TypeId} (h : Blk w b vs ty) : Lies w (some ⟨b, 0, none⟩) vs := by
  have := Lies.of_block h
  simpa using this

theorem Blk.range {w : World} {b : Nat} {vs : List Value} {ty : TypeId} (h : Blk w b vs ty) : w.rangeAt b 0 vs := by
  intro j v hv
  rw [Nat.zero_add]
  exact h.cell j v hv

theorem mapB_at {l : List UInt8} {i : Nat} {x : UInt8} (h : l[i]? = some x) : (l.map B)[i]? = some (B x) := by simp [h]
theorem mapW_at {l : List UInt32} {i : Nat} {x : UInt32} (h : l[i]? = some x) : (l.map W)[i]? = some (W x) := by simp [h]
theorem mapL_at {l : List UInt64} {i : Nat} {x : UInt64} (h : l[i]? = some x) : (l.map L)[i]? = some (L x) := by simp [h]
theorem mapB_set (l : List UInt8) (i : Nat) (x : UInt8) : (l.map B).set i (B x) = (l.set i x).map B := by rw [List.map_set]
theorem mapW_set (l : List UInt32) (i : Nat) (x : UInt32) : (l.map W).set i (W x) = (l.set i x).map W := by rw [List.map_set]
theorem mapL_set (l : List UInt64) (i : Nat) (x : UInt64) : (l.map L).set i (L x) = (l.set i x).map L := by rw [List.map_set]
theorem at_lt {α : Type} {l : List α} {i : Nat} (h : i < l.length) : ∃ x, l[i]? = some x := ⟨l[i], by simp [h]⟩

/-- A row or a struct of so many cells. -/
def Row (P : Program) (ty : TypeId) (n : Nat) : Prop := (P.underlying ty).map (·.isRow) = some true ∧ (P.info? ty).map (·.size) = some n

theorem Row.open {P : Program} {ty : TypeId} {n : Nat} (h : Row P ty n) : ∃ d, P.underlying ty = some d ∧ d.isRow = true ∧ (P.info? ty).map (·.size) = some n := by
  obtain ⟨h1, h2⟩ := h
  cases hd : P.underlying ty with
  | none => rw [hd] at h1; cases h1
  | some d => rw [hd] at h1; exact ⟨d, rfl, by simpa using h1, h2⟩

/-- The world has changed at one block alone. -/
structure Only (b : Nat) (w w' : World) : Prop where
  os : w'.os = w.os
  tape : w'.tape = w.tape
  output : w'.output = w.output
  size : w'.heap.size = w.heap.size
  block : ∀ k, k ≠ b → w'.heap[k]? = w.heap[k]?

theorem Only.refl (b : Nat) (w : World) : Only b w w := ⟨rfl, rfl, rfl, rfl, fun _ _ => rfl⟩
theorem Only.trans {b : Nat} {u v w : World} (h : Only b u v) (k : Only b v w) : Only b u w :=
  ⟨k.os.trans h.os, k.tape.trans h.tape, k.output.trans h.output, k.size.trans h.size, fun i hi => (k.block i hi).trans (h.block i hi)⟩
theorem Only.setCell (w : World) (a : Addr) (v : Value) : Only a.block w (w.setCell a v) :=
  ⟨rfl, rfl, rfl, by simp [World.setCell], fun k hk => heap_setCell_other w a k v hk⟩
theorem Only.setCells (b : Nat) : ∀ (vs : List Value) (o : Nat) (w : World), Only b w (w.setCells b o vs)
  | [], _, w => Only.refl b w
  | v :: r, o, w => (Only.setCell w ⟨b, o, none⟩ v).trans (Only.setCells b r (o + 1) _)

theorem Blk.only {w w' : World} {b c : Nat} {vs : List Value} {ty : TypeId} (h : Blk w c vs ty) (ho : Only b w w') (hne : c ≠ b) : Blk w' c vs ty := (ho.block c hne).trans h
theorem below_only {B b : Nat} {u w w' : World} (h : Below B u w) (ho : Only b w w') (hb : B ≤ b) : Below B u w' :=
  ⟨ho.os.trans h.os, ho.tape.trans h.tape, ho.output.trans h.output, by rw [ho.size]; exact h.size, fun k hk => (ho.block k (by omega)).trans (h.block k hk)⟩

theorem Blk.setCells {b : Nat} {ty : TypeId} : ∀ (cs vs : List Value) (o : Nat) (w : World), o + cs.length ≤ vs.length → Blk w b vs ty → Blk (w.setCells b o cs) b (vs.take o ++ cs ++ vs.drop (o + cs.length)) ty
  | [], vs, o, w, _, h => by simpa [World.setCells] using h
  | v :: r, vs, o, w, hl, h => by
    rw [List.length_cons] at hl
    have := Blk.setCells r (vs.set o v) (o + 1) _ (by rw [List.length_set]; omega) (h.set o v)
    have e : (vs.set o v).take (o + 1) ++ r ++ (vs.set o v).drop (o + 1 + r.length) = vs.take o ++ (v :: r) ++ vs.drop (o + (v :: r).length) := by
      rw [List.drop_set_of_lt (by omega), List.length_cons, show o + 1 + r.length = o + (r.length + 1) by omega]
      congr 1
      rw [List.take_add_one, List.take_set_of_le (by omega)]
      simp [show o < vs.length by omega]
    rw [e] at this
    exact this

theorem Blk.setAll {w : World} {b : Nat} {vs cs : List Value} {ty : TypeId} (h : Blk w b vs ty) (hl : cs.length = vs.length) : Blk (w.setCells b 0 cs) b cs ty := by
  have := Blk.setCells cs vs 0 w (by omega) h
  rw [Nat.zero_add, List.drop_eq_nil_of_le (by omega)] at this
  simpa using this

theorem Blk.there {w : World} {b : Nat} {vs : List Value} {ty : TypeId} (h : Blk w b vs ty) (o n : Nat) (hn : o + n ≤ vs.length) : w.there b o n := by
  intro j hj
  have hu : vs[o + j]? = some (vs[o + j]'(by omega)) := by simp
  exact ⟨by rw [h.cell _ _ hu]; rfl, h.free _⟩

/-- An array or a struct by value, loaded whole: at a plain region's operation. -/
theorem Blk.wload {P : Program} {w : World} {b n : Nat} {vs : List Value} {ty' : TypeId} (h : Blk w b vs ty') {ops : Array Oper} {rest : List Oper} {op : Oper} {a : Act} {Q : Exit → Act → World → Prop} {ty : TypeId} {x : Operand}
    (hgd : op.guard = none) (ho : op.op = .load ty x) (hx : a.eval x = .pointer (some ⟨b, 0, none⟩)) (hr : Row P ty n) (hn : vs.length = n)
    (k : wpList P ops Q rest (a.put op.dst (.agg vs.toArray)) w) : wpList P ops Q (op :: rest) a w := by
  obtain ⟨d, hu, hd, hi⟩ := hr.open
  exact wpList_load_mid hgd ty x ho b 0 hx vs d h.range hu hd (by rw [hi, hn]) k

/-- An array or a struct by value, stored whole. -/
theorem Blk.wstore {P : Program} {w : World} {b n : Nat} {vs : List Value} {ty' : TypeId} (h : Blk w b vs ty') {ops : Array Oper} {rest : List Oper} {op : Oper} {a : Act} {Q : Exit → Act → World → Prop} {ty : TypeId} {x y : Operand} {cs : List Value}
    (hgd : op.guard = none) (ho : op.op = .store ty x y) (hx : a.eval x = .pointer (some ⟨b, 0, none⟩)) (hy : a.eval y = .agg cs.toArray) (hr : Row P ty n) (hn : vs.length = n) (hc : cs.length = n)
    (h1 : ∀ v ∈ cs, v.oneCell' = true)
    (k : ∀ w', Blk w' b cs ty' → Only b w w' → wpList P ops Q rest (a.put op.dst undef) w') : wpList P ops Q (op :: rest) a w := by
  obtain ⟨d, hu, hd, hi⟩ := hr.open
  refine wpList_store_mid hgd ty x y ho b 0 cs.toArray hx hy (h.there 0 _ (by rw [List.size_toArray]; omega)) (by rw [hi]; simp [hc]) (all_oneCell_toArray h1) ?_
  exact k (w.setCells b 0 cs) (h.setAll (by omega)) (Only.setCells b cs 0 w)

/-- 'copy' into a block. -/
theorem Blk.wcopy {P : Program} {w : World} {g : Nat} {cur : List Value} {t : TypeId} (h : Blk w g cur t) {ops : Array Oper} {rest : List Oper} {o : Oper} {a : Act} {Q : Exit → Act → World → Prop} {d s : Operand} {dT sT elem : TypeId}
    {dp sp : Option Addr} {dLen dCap sLen sCap : Nat} (off : Nat) (cs : List Value)
    (hgd : o.guard = none) (ho : o.op = .call { callee := .builtin .copy, args := #[d, s], argTypes := #[dT, sT] }) (hd : a.eval d = .slice dp dLen dCap) (hs : a.eval s = .slice sp sLen sCap)
    (hu : P.underlying dT = some (.slice elem)) (hsz : (P.info? elem).map (·.size) = some 1)
    (hdp : 0 < cs.length → dp = some ⟨g, off, none⟩) (hsrc : Lies w sp cs) (hn : cs.length = Nat.min sLen dLen) (hfit : off + cs.length ≤ cur.length) (h1 : ∀ v ∈ cs, v.oneCell' = true)
    (k : ∀ w', Blk w' g (splice cur off cs) t → Only g w w' → wpList P ops Q rest (a.put o.dst (goInt cs.length)) w') : wpList P ops Q (o :: rest) a w := by
  by_cases h0 : cs.length = 0
  · obtain rfl : cs = [] := List.eq_nil_of_length_eq_zero h0
    refine wpList_copy_nothing hgd d s dT sT ho elem hu hsz dp sp dLen dCap sLen sCap hd hs (by simpa using hn.symm) ?_
    exact k w (by simpa [splice] using h) (Only.refl _ _)
  · obtain rfl := hdp (by omega)
    obtain ⟨b, off', rfl, _, hc⟩ := hsrc.at (by intro e; simp [e] at h0)
    refine wpList_plain hgd fun K hK => ?_
    have hrun := run_copy_cells (P := P) w dT sT o.type elem g off dLen dCap ⟨b, off', none⟩ sLen sCap cs hu hsz hn (fun j v hv => by rw [add_eq]; exact hc j v hv)
      (fun j hj => ((h.there off cs.length hfit) j hj).1) (fun j hj => h.free _) h1
    unfold Oper.wp
    simp [execOp, ho, resolve, invoke, builtin, hd, hs, hrun, Result.andThen]
    refine hK _ _ (k _ ?_ (Only.setCells g cs off w))
    have := Blk.setCells cs cur off w hfit h
    rwa [List.append_assoc] at this

/-- A new block keeps all that was there. -/
theorem later_alloc (w : World) (o : Obj) : Below w.heap.size w (w.alloc o) := (Below.refl _ _).alloc (Nat.le_refl _) _

/-- A variable in memory of its own, at a plain region's operation. -/
theorem wpList_var {P : Program} {w : World} {ops : Array Oper} {rest : List Oper} {o : Oper} {a : Act} {Q : Exit → Act → World → Prop} (t : TypeId) (vs : List Value) (z : Value)
    (hgd : o.guard = none) (ho : o.op = .alloc t) (hz : (P.info? t).map (·.zero) = some (some z)) (hv : z.cells = vs.toArray)
    (k : ∀ w', Blk w' w.heap.size vs t → Below w.heap.size w w' → wpList P ops Q rest (a.put o.dst (.pointer (some ⟨w.heap.size, 0, none⟩))) w') : wpList P ops Q (o :: rest) a w := by
  refine wpList_plain hgd fun K hK => ?_
  have hk := k (w.alloc (.cells vs.toArray t)) (Blk.new w vs t) (later_alloc w _)
  cases hq : P.info? t with
  | none => rw [hq] at hz; cases hz
  | some x =>
    rw [hq] at hz
    have hx : x.zero = some z := by simpa using hz
    unfold Oper.wp
    simp [execOp, ho, Instr.alloc, zeroValue, typeInfo, hq, hx, newVar, newRow, hv]
    exact hK _ _ hk

theorem wpList_box {P : Program} {w : World} {ops : Array Oper} {rest : List Oper} {o : Oper} {a : Act} {Q : Exit → Act → World → Prop} (t : TypeId) (x : Operand) (vs : List Value) (v : Value)
    (hgd : o.guard = none) (ho : o.op = .box t x) (hx : a.eval x = v) (hv : v.cells = vs.toArray)
    (k : ∀ w', Blk w' w.heap.size vs t → Below w.heap.size w w' → wpList P ops Q rest (a.put o.dst (.pointer (some ⟨w.heap.size, 0, none⟩))) w') : wpList P ops Q (o :: rest) a w := by
  refine wpList_plain hgd fun K hK => ?_
  have hk := k (w.alloc (.cells vs.toArray t)) (Blk.new w vs t) (later_alloc w _)
  unfold Oper.wp
  simp [execOp, ho, Instr.box, hx, newVar, newRow, hv]
  exact hK _ _ hk

theorem blk_of_own {w : World} {base : Nat} {e : TypeId} {g n : Nat} {xs : List Value} (h : w.ownsRow base e 1 (.slice (some ⟨g, 0, none⟩) n n) n xs) : Blk w g xs e ∧ base ≤ g := by
  rcases h.2 with ⟨hv, _⟩ | ⟨g', c, cur, hv, hb, hg, h1, h2, h3, ht⟩
  · cases hv
  · cases hv
    refine ⟨?_, hb⟩
    have hl := h.1
    have : cur.toList = xs := by
      rw [← ht, List.take_of_length_le (by simp at h3 ⊢; omega)]
    unfold Blk
    rw [hg, ← this]

theorem own_of_blk {w : World} {base : Nat} {e : TypeId} {g n : Nat} {xs : List Value} (h : Blk w g xs e) (hb : base ≤ g) (hn : xs.length = n) (hm : n ≤ maxLen) : w.ownsRow base e 1 (.slice (some ⟨g, 0, none⟩) n n) n xs := by
  refine ⟨by rw [hn, Nat.mul_one], .inr ⟨g, n, xs.toArray, rfl, hb, h, Nat.le_refl _, hm, by simp [hn], ?_⟩⟩
  show xs.take (n * 1) = xs
  rw [List.take_of_length_le (by omega)]

/-- 'make' of a slice whose elements are one cell. -/
theorem wpList_make {P : Program} {w : World} {ops : Array Oper} {rest : List Oper} {o : Oper} {a : Act} {Q : Exit → Act → World → Prop} (t e : TypeId) (z : Value) (by' : Nat) (n : Nat) {l c : Operand} {kl kc : IntKind} {L C : Int}
    (hg : o.guard = none) (hop : o.op = Op.makeSlice t l c) (hl : a.eval l = .int kl L) (hc : a.eval c = .int kc C) (h1 : P.underlying t = some (.slice e)) (hi : (P.info? e).map (fun i => (i.zero, i.size, i.bytes)) = some (some z, 1, by')) (hz : z.cells = #[z])
    (hL : L = (n : Int)) (hC : C = (n : Int)) (b2 : by' * n ≤ 281474976710656) (b3 : n ≤ maxLen)
    (k : ∀ w', Blk w' w.heap.size (List.replicate n z) e → Below w.heap.size w w' → wpList P ops Q rest (a.put o.dst (.slice (some ⟨w.heap.size, 0, none⟩) n n)) w') : wpList P ops Q (o :: rest) a w := by
  obtain ⟨i0, hi0, hz0, hz1, hz2⟩ := info_parts hi
  refine wpList_make_full w hg l c t hop w.heap.size e i0 z 1 h1 hi0 hz0 hz1 kl kc L C n hl hc hL hC (by rw [hz2]; exact b2) b3 (Nat.le_refl _) (fun w' hown hgrow => ?_)
  have hb := (blk_of_own hown).1
  have e1 : (madeCells z.cells (n * 1)).toList = List.replicate n z := by
    rw [hz, Nat.mul_one, toList_madeCells_one]
  rw [e1] at hb
  exact k w' hb ((Below.refl w.heap.size w).grown hgrow (Nat.le_refl _) (fun k h => by cases h))

/-- What a walk knows of the world: nothing below the base has changed, and these blocks hold these cells. -/
structure St (w0 : World) (base : Nat) (w : World) (L : List (Nat × List Value × TypeId)) : Prop where
  base_le : base ≤ w0.heap.size
  bel : Below base w0 w
  all : ∀ e ∈ L, Blk w e.1 e.2.1 e.2.2

theorem St.start (w : World) : St w w.heap.size w [] := ⟨Nat.le_refl _, Below.refl _ _, fun _ h => by cases h⟩
theorem St.get {w0 w : World} {base : Nat} {L : List (Nat × List Value × TypeId)} (h : St w0 base w L) (i : Nat) {b : Nat} {vs : List Value} {ty : TypeId} (hi : L[i]? = some (b, vs, ty)) : Blk w b vs ty := h.all _ (List.mem_of_getElem? hi)
theorem St.later {w0 w w' : World} {base : Nat} {L : List (Nat × List Value × TypeId)} (h : St w0 base w L) (hl : Below w.heap.size w w') : St w0 base w' L :=
  ⟨h.base_le, h.bel.trans (hl.mono (Nat.le_trans h.base_le h.bel.size)), fun e he => (h.all e he).below hl (h.all e he).lt⟩
theorem St.drew {w0 w : World} {base : Nat} {L : List (Nat × List Value × TypeId)} (h : St w0 base w L) : St w0 base w.drew L := ⟨h.base_le, h.bel.drew, fun e he => (h.all e he).drew⟩
theorem St.add {w0 w : World} {base : Nat} {L : List (Nat × List Value × TypeId)} (h : St w0 base w L) {b : Nat} {vs : List Value} {ty : TypeId} (hb : Blk w b vs ty) : St w0 base w ((b, vs, ty) :: L) :=
  ⟨h.base_le, h.bel, fun e he => by
    rcases List.mem_cons.1 he with rfl | he
    · exact hb
    · exact h.all e he⟩
theorem St.push {w0 w w' : World} {base : Nat} {L : List (Nat × List Value × TypeId)} (h : St w0 base w L) {b : Nat} {vs : List Value} {ty : TypeId} (hb : Blk w' b vs ty) (hl : Below w.heap.size w w') : St w0 base w' ((b, vs, ty) :: L) := (h.later hl).add hb
theorem mem_eraseIdx_ne {α : Type} : ∀ (L : List α) (i j : Nat) (e : α), j ≠ i → L[j]? = some e → e ∈ L.eraseIdx i
  | [], _, _, _, _, h => by simp at h
  | x :: r, 0, 0, _, hne, _ => absurd rfl hne
  | x :: r, 0, j + 1, e, _, h => by rw [List.getElem?_cons_succ] at h; exact List.mem_of_getElem? h
  | x :: r, i + 1, 0, e, _, h => by simp at h; subst h; simp [List.eraseIdx]
  | x :: r, i + 1, j + 1, e, hne, h => by
    rw [List.getElem?_cons_succ] at h
    exact List.mem_cons_of_mem _ (mem_eraseIdx_ne r i j e (fun h => hne (congrArg (· + 1) h)) h)

/-- One block has changed. -/
theorem St.change {w0 w w' : World} {base : Nat} {L : List (Nat × List Value × TypeId)} (h : St w0 base w L) (i : Nat) {b : Nat} {us : List Value} {ty : TypeId} (hb : Blk w' b us ty) (ho : Only b w w')
    (hbase : base ≤ b) (hne : ∀ e ∈ L.eraseIdx i, e.1 ≠ b) : St w0 base w' (L.set i (b, us, ty)) :=
  ⟨h.base_le, below_only h.bel ho hbase, fun e he => by
    obtain ⟨j, hj⟩ := List.mem_iff_getElem?.1 he
    rw [List.getElem?_set] at hj
    by_cases e1 : i = j
    · subst e1
      rw [if_pos rfl] at hj
      split at hj
      · cases hj; exact hb
      · cases hj
    · rw [if_neg e1] at hj
      exact (h.all e (List.mem_of_getElem? hj)).only ho (hne e (mem_eraseIdx_ne _ _ _ _ (fun h => e1 h.symm) hj))⟩
theorem St.ne {w0 w : World} {base : Nat} {L : List (Nat × List Value × TypeId)} (h : St w0 base w L) : ∀ e ∈ L, e.1 < w.heap.size := fun e he => (h.all e he).lt
theorem St.size {w0 w : World} {base : Nat} {L : List (Nat × List Value × TypeId)} (h : St w0 base w L) : base ≤ w.heap.size := Nat.le_trans h.base_le h.bel.size

/-! The same at one operation. -/
theorem Blk.opload {P : Program} {w : World} {b n : Nat} {vs : List Value} {ty' : TypeId} (h : Blk w b vs ty') {op : Oper} {a : Act} {K : Act → World → Prop} {Q : Exit → Act → World → Prop} {ty : TypeId} {x : Operand}
    (ho : op.op = .load ty x) (hx : a.eval x = .pointer (some ⟨b, 0, none⟩)) (hr : Row P ty n) (hn : vs.length = n) (k : K (a.put op.dst (.agg vs.toArray)) w) : op.wp P a w K Q := by
  obtain ⟨d, hu, hd, hi⟩ := hr.open
  exact wp_load_mid ty x ho b 0 hx vs d h.range hu hd (by rw [hi, hn]) k

theorem Blk.opstore {P : Program} {w : World} {b n : Nat} {vs : List Value} {ty' : TypeId} (h : Blk w b vs ty') {op : Oper} {a : Act} {K : Act → World → Prop} {Q : Exit → Act → World → Prop} {ty : TypeId} {x y : Operand} {cs : List Value}
    (ho : op.op = .store ty x y) (hx : a.eval x = .pointer (some ⟨b, 0, none⟩)) (hy : a.eval y = .agg cs.toArray) (hr : Row P ty n) (hn : vs.length = n) (hc : cs.length = n) (h1 : ∀ v ∈ cs, v.oneCell' = true)
    (k : ∀ w', Blk w' b cs ty' → Only b w w' → K (a.put op.dst undef) w') : op.wp P a w K Q := by
  obtain ⟨d, hu, hd, hi⟩ := hr.open
  refine wp_store_mid ty x y ho b 0 cs.toArray hx hy (h.there 0 _ (by rw [List.size_toArray]; omega)) (by rw [hi]; simp [hc]) (all_oneCell_toArray h1) ?_
  exact k (w.setCells b 0 cs) (h.setAll (by omega)) (Only.setCells b cs 0 w)

/-- One cell is stored. -/
theorem Blk.opset {P : Program} {w : World} {b i : Nat} {vs : List Value} {ty' : TypeId} (h : Blk w b vs ty') {op : Oper} {a : Act} {K : Act → World → Prop} {Q : Exit → Act → World → Prop} {ty : TypeId} {x y : Operand} {v : Value}
    (ho : op.op = .store ty x y) (hx : a.eval x = .pointer (some ⟨b, i, none⟩)) (hy : a.eval y = v) (hs : (P.info? ty).map (·.size) = some 1) (hv : v.cells = #[v]) (h1 : v.oneCell' = true) (hi : i < vs.length)
    (k : ∀ w', Blk w' b (vs.set i v) ty' → Only b w w' → K (a.put op.dst undef) w') : op.wp P a w K Q := by
  have hk := k _ (h.set i v) (Only.setCell w ⟨b, i, none⟩ v)
  have hrun := run_storeCells_cells (P := P) b i [v] 0 w (fun j hj => by
      have : j = 0 := by simpa using hj
      subst this
      have := ((h.there i 1 (by omega)) 0 (by omega)).1
      simpa using this) (fun j _ => h.free _) (by simpa using h1)
  cases hq : P.info? ty with
  | none => rw [hq] at hs; cases hs
  | some t =>
    have ht : t.size = 1 := by rw [hq] at hs; simpa using hs
    unfold Oper.wp
    simp only [Nat.add_zero, World.setCells] at hrun
    simp [execOp, ho, hx, hy, Instr.storeAt, Instr.sureAddr, storeVar, sizeOf, typeInfo, hq, ht, hv, hrun]
    exact hk

theorem Blk.opcopy {P : Program} {w : World} {g : Nat} {cur : List Value} {t : TypeId} (h : Blk w g cur t) {o : Oper} {a : Act} {K : Act → World → Prop} {Q : Exit → Act → World → Prop} {d s : Operand} {dT sT elem : TypeId}
    {dp sp : Option Addr} {dLen dCap sLen sCap : Nat} (off : Nat) (cs : List Value)
    (ho : o.op = .call { callee := .builtin .copy, args := #[d, s], argTypes := #[dT, sT] }) (hd : a.eval d = .slice dp dLen dCap) (hs : a.eval s = .slice sp sLen sCap)
    (hu : P.underlying dT = some (.slice elem)) (hsz : (P.info? elem).map (·.size) = some 1)
    (hdp : 0 < cs.length → dp = some ⟨g, off, none⟩) (hsrc : Lies w sp cs) (hn : cs.length = Nat.min sLen dLen) (hfit : off + cs.length ≤ cur.length) (h1 : ∀ v ∈ cs, v.oneCell' = true)
    (k : ∀ w', Blk w' g (splice cur off cs) t → Only g w w' → K (a.put o.dst (goInt cs.length)) w') : o.wp P a w K Q := by
  by_cases h0 : cs.length = 0
  · obtain rfl : cs = [] := List.eq_nil_of_length_eq_zero h0
    have hrun := run_copy_none (P := P) w dT sT o.type elem dp sp dLen dCap sLen sCap hu hsz (by simpa using hn.symm)
    unfold Oper.wp
    simp [execOp, ho, resolve, invoke, builtin, hd, hs, hrun, Result.andThen]
    exact k w (by simpa [splice] using h) (Only.refl _ _)
  · obtain rfl := hdp (by omega)
    obtain ⟨b, off', rfl, _, hc⟩ := hsrc.at (by intro e; simp [e] at h0)
    have hrun := run_copy_cells (P := P) w dT sT o.type elem g off dLen dCap ⟨b, off', none⟩ sLen sCap cs hu hsz hn (fun j v hv => by rw [add_eq]; exact hc j v hv)
      (fun j hj => ((h.there off cs.length hfit) j hj).1) (fun j hj => h.free _) h1
    unfold Oper.wp
    simp [execOp, ho, resolve, invoke, builtin, hd, hs, hrun, Result.andThen]
    refine k _ ?_ (Only.setCells g cs off w)
    have := Blk.setCells cs cur off w hfit h
    rwa [List.append_assoc] at this

/-- The one result is a variable of an array or a struct. -/
theorem Blk.result {P : Program} {w : World} {b n : Nat} {vs : List Value} {ty' : TypeId} (h : Blk w b vs ty') {fn : Func} {R : Ending → World → Prop} {a : Act} {p : Tmp} {ty : TypeId}
    (hf : fn.results = #[.cell p ty]) (hd : a.defers = []) (hp : a.tmps.getD p undef = .pointer (some ⟨b, 0, none⟩)) (hr : Row P ty n) (hn : vs.length = n)
    (k : R (.returned (.agg vs.toArray)) w) : bodyPost P fn R .ret a w := by
  obtain ⟨d, hu, hd', hi⟩ := hr.open
  exact bodyPost_ret (results_cell_row hf _ _ _ _ _ _ _ hp h hu (by cases d <;> simp_all [TypeDesc.isRow]) (by rw [hi]; simp [hn])) hd k

/-- A cut of an array's variable, from an element on. -/
theorem run_sliceAt_low {P : Program} (w : World) (t e : TypeId) (n : Nat) (ht : P.underlying t = some (.array n e)) (hs : (P.info? e).map (·.size) = some 1) (b o lo : Nat) (i : Int) (hi : i = lo) (h : lo < n) :
    (Instr.sliceAt t (.pointer (some ⟨b, o, none⟩)) (some (.int .i64 i)) none none).run P w = .ok (.slice (some ⟨b, o + lo, none⟩) (n - lo) (n - lo)) w := by
  subst hi
  cases hq : P.info? e with
  | none => rw [hq] at hs; cases hs
  | some x =>
    have hx : x.size = 1 := by rw [hq] at hs; simpa using hs
    have hz : (sizeOf e).run P w = .ok 1 w := by simp [sizeOf, typeInfo, hq, hx]
    have hne : n ≠ lo := by omega
    simp [Instr.sliceAt, run_underlying ht, Instr.sureAddr, Instr.sliceBounds, Instr.sliceBound, asIntOf, hz, show lo ≤ n by omega, hne, add_eq]

/-- An element of an array by value; the element is one cell. -/
theorem run_index_one {P : Program} (w : World) (t e : TypeId) (n : Nat) (cs : Array Value) (k : IntKind) (i : Nat) (v : Value) (ht : P.underlying t = some (.array n e)) (he : (P.underlying e).map (·.isRow) = some false) (hs : (P.info? e).map (·.size) = some 1)
    (hi : cs[i]? = some v) (hlt : i < n) : (Instr.index t (.agg cs) (.int k (i : Int))).run P w = .ok v w := by
  cases hq : P.info? e with
  | none => rw [hq] at hs; cases hs
  | some x =>
    have hx : x.size = 1 := by rw [hq] at hs; simpa using hs
    cases hd : P.underlying e with
    | none => rw [hd] at he; cases he
    | some d =>
      have hagg : (isAgg e).run P w = .ok false w := by
        unfold isAgg
        rw [Sem.run_bind, run_underlying hd w]
        rw [hd] at he
        cases d <;> simp_all [TypeDesc.isRow]
      simp [Instr.index, asIntOf, run_underlying ht, hlt, sizeOf, typeInfo, hq, hx, part, hagg, hi]

end Go.Cells
/-
  What octet's functions compute. No program.
-/
namespace Go.Oct
open Go.Ops

/-- A row's byte; behind its end 0. -/
def at8 (b : List UInt8) (i : Nat) : UInt8 := b.getD i 0
def gather (f : Nat → UInt8) : Nat → UInt64
  | 0 => 0
  | k + 1 => or64 (gather f k) (shl64 (up8_64 (f k)) (8 * k))
def longL (b : List UInt8) (at' : Nat) : UInt64 := gather (fun k => at8 b (at' + k)) 8
def wordL (b : List UInt8) (at' : Nat) : UInt32 := lo64_32 (gather (fun k => at8 b (at' + k)) 4)
def putWord (n : UInt32) : List UInt8 := (List.range 4).map fun k => lo32_8 (shr32 n (8 * k))
def putLong (n : UInt64) : List UInt8 := (List.range 8).map fun k => lo64_8 (shr64 n (8 * k))
def block (b : List UInt8) : List UInt8 := (List.range 16).map fun k => at8 b k
def xorL (a b : List UInt8) : List UInt8 := (List.range (min a.length b.length)).map fun i => xor8 (at8 a i) (at8 b i)
def roomL (n size : Nat) : Nat := (size - n % size) % size
def padL (b : List UInt8) (size : Nat) : List UInt8 := b ++ List.replicate (roomL b.length size) 0
def markL (b : List UInt8) (mark : UInt8) (size : Nat) : List UInt8 := padL (b ++ [mark]) size

def zeros (n : Nat) : List UInt8 := List.replicate n 0
theorem zeros_length (n : Nat) : (zeros n).length = n := by simp [zeros]

theorem putWord_length (n : UInt32) : (putWord n).length = 4 := by simp [putWord]
theorem putLong_length (n : UInt64) : (putLong n).length = 8 := by simp [putLong]
theorem block_length (b : List UInt8) : (block b).length = 16 := by simp [block]
theorem xorL_length (a b : List UInt8) : (xorL a b).length = min a.length b.length := by simp [xorL]

/-- The first k places of a row hold what is told of them. -/
def Filled {α : Type} (f : Nat → α) (n k : Nat) (l : List α) : Prop := l.length = n ∧ ∀ i, i < k → l[i]? = some (f i)

theorem Filled.zero {α : Type} {f : Nat → α} {n : Nat} {l : List α} (h : l.length = n) : Filled f n 0 l := ⟨h, fun i hi => absurd hi (by omega)⟩
theorem Filled.step {α : Type} {f : Nat → α} {n k : Nat} {l : List α} (h : Filled f n k l) (hk : k < n) : Filled f n (k + 1) (l.set k (f k)) := by
  refine ⟨by simpa using h.1, fun i hi => ?_⟩
  rw [List.getElem?_set]
  by_cases e : k = i
  · subst e
    simp [h.1, hk]
  · rw [if_neg e]
    exact h.2 i (by omega)
theorem Filled.all {α : Type} {f : Nat → α} {n : Nat} {l : List α} (h : Filled f n n l) : l = (List.range n).map f := by
  apply List.ext_getElem?
  intro i
  by_cases hi : i < n
  · rw [h.2 i hi]; simp [hi]
  · rw [List.getElem?_eq_none (by have := h.1; omega), List.getElem?_eq_none (by simp; omega)]
theorem Filled.at {α : Type} {f : Nat → α} {n k : Nat} {l : List α} (h : Filled f n k l) {i : Nat} (hi : i < n) : ∃ x, l[i]? = some x := ⟨l[i]'(by have := h.1; omega), by simp⟩

theorem at8_some {b : List UInt8} {i : Nat} {x : UInt8} (h : b[i]? = some x) : at8 b i = x := by simp [at8, List.getD, h]
theorem at8_none {b : List UInt8} {i : Nat} (h : b.length ≤ i) : at8 b i = 0 := by simp [at8, List.getD, h]
theorem at8_get {b : List UInt8} {i : Nat} (h : i < b.length) : b[i]? = some (at8 b i) := by simp [at8, List.getD, h]

theorem Filled.splice {α : Type} {f : Nat → α} {n k m : Nat} {l cs : List α} (h : Filled f n k l) (hm : k + m ≤ n) (hc : cs.length = m) (hcs : ∀ j, j < m → cs[j]? = some (f (k + j))) : Filled f n (k + m) (splice l k cs) := by
  have hl := h.1
  refine ⟨by rw [length_splice _ _ _ (by omega)]; exact hl, fun i hi => ?_⟩
  unfold Go.splice
  by_cases h1 : i < k
  · rw [List.getElem?_append_left (by rw [List.length_take]; omega), List.getElem?_take_of_lt h1]
    exact h.2 i h1
  · rw [List.getElem?_append_right (by rw [List.length_take]; omega), List.length_take, Nat.min_eq_left (by omega), List.getElem?_append_left (by omega), hcs _ (by omega)]
    congr 2
    omega
theorem splice_map {α β : Type} (g : α → β) (l cs : List α) (k : Nat) : Go.splice (l.map g) k (cs.map g) = (Go.splice l k cs).map g := by
  simp [Go.splice]

end Go.Oct
/-
  What gf's functions compute. No program.
-/
namespace Go.Gf
open Go.Ops Go.Oct

def dbl (a : UInt8) : UInt8 := xor8 (shl8 a 1) (mul8 (shr8 a 7) 27)
def timesGo : Nat → UInt8 → UInt8 → UInt8 → UInt8
  | 0, _, _, s => s
  | n + 1, a, b, s => if b = 0 then s else timesGo n (dbl a) (shr8 b 1) (xor8 s (mul8 a (and8 b 1)))
def times (a b : UInt8) : UInt8 := timesGo 8 a b 0

theorem timesGo_zero (n : Nat) (a s : UInt8) : timesGo n a 0 s = s := by
  cases n <;> simp [timesGo]

theorem shr8_lt (b : UInt8) (k : Nat) (h : b.toNat < 2 ^ (k + 1)) : (shr8 b 1).toNat < 2 ^ k := by
  have := lt8 b
  unfold shr8
  rw [UInt8.toNat_ofNat_of_lt' (by show _ < 256; omega)]
  rw [Nat.pow_succ] at h
  omega

theorem zero_of_toNat {b : UInt8} (h : b.toNat = 0) : b = 0 := UInt8.toNat_inj.1 (by simpa using h)

def rot8 (x : UInt8) (k : Nat) : UInt8 := or8 (shl8 x k) (shr8 x (8 - k))
def boxGo (i : UInt8) : Nat → UInt8
  | 0 => 99
  | k + 1 => xor8 (boxGo i k) (rot8 i k)
def box (i : UInt8) : UInt8 := boxGo i 5
def putL (l : List UInt8) (a b : UInt8) : List UInt8 := (l.set a.toNat b).set (256 + b.toNat) a
def powGo : Nat → UInt8
  | 0 => 1
  | k + 1 => xor8 (powGo k) (dbl (powGo k))
def makeGo : Nat → List UInt8
  | 0 => putL (zeros 512) 0 (box 0)
  | k + 1 => putL (makeGo k) (powGo k) (box (powGo ((255 - k) % 255)))
/-- Both boxes: there, and back. -/
def boxes : List UInt8 := makeGo 255

theorem putL_length (l : List UInt8) (a b : UInt8) : (putL l a b).length = l.length := by simp [putL]
theorem makeGo_length (k : Nat) : (makeGo k).length = 512 := by
  induction k with
  | zero => rw [makeGo, putL_length, zeros_length]
  | succ k ih => rw [makeGo, putL_length, ih]
theorem boxes_length : boxes.length = 512 := makeGo_length 255

end Go.Gf
/-
  What turn's functions compute. No program.
-/
namespace Go.Trn
open Go.Ops Go.Oct Go.Gf

def at32 (l : List UInt32) (i : Nat) : UInt32 := l.getD i 0
theorem at32_get {l : List UInt32} {i : Nat} (h : i < l.length) : l[i]? = some (at32 l i) := by simp [at32, List.getD, h]

def mixes : List UInt8 := [2, 3, 1, 1]
def unmixes : List UInt8 := [14, 11, 13, 9]
def bringsGo (by' : List UInt8) (row : Nat) (a : UInt8) : Nat → UInt32
  | 0 => 0
  | r + 1 => or32 (bringsGo by' row a r) (shl32 (up8_32 (times (at8 by' ((row + 4 - r) % 4)) a)) (8 * r))
def brings (by' : List UInt8) (row : Nat) (a : UInt8) : UInt32 := bringsGo by' row a 4
def shifted (row column : Nat) : Nat := row + 4 * ((column + row) % 4)
/-- The exclusive or of two blocks. -/
def both (a b : List UInt8) : List UInt8 := (List.range 16).map fun i => xor8 (at8 a i) (at8 b i)

/-- A table's entry: mixed of the box of a byte, or mixed back of the byte. -/
def entry (T : List UInt8) (i : Nat) : UInt32 :=
  if i < 1024 then brings mixes (i / 256) (at8 T (i % 256)) else brings unmixes ((i - 1024) / 256) (UInt8.ofNat (i % 256))
def entries (T : List UInt8) : List UInt32 := (List.range 2048).map (entry T)
/-- The first k entries of both halves are laid. -/
def Laid (T : List UInt8) (k : Nat) (l : List UInt32) : Prop := l.length = 2048 ∧ ∀ i, i < k → l[i]? = some (entry T i) ∧ l[1024 + i]? = some (entry T (1024 + i))

theorem Laid.zero {T : List UInt8} {l : List UInt32} (h : l.length = 2048) : Laid T 0 l := ⟨h, fun i hi => absurd hi (by omega)⟩
theorem Laid.step {T : List UInt8} {k : Nat} {l : List UInt32} (h : Laid T k l) (hk : k < 1024) : Laid T (k + 1) ((l.set k (entry T k)).set (1024 + k) (entry T (1024 + k))) := by
  refine ⟨by simpa using h.1, fun i hi => ?_⟩
  have hl := h.1
  by_cases e : i = k
  · subst e
    constructor
    · rw [List.getElem?_set_ne (by omega), List.getElem?_set_self (by omega)]
    · rw [List.getElem?_set_self (by rw [List.length_set]; omega)]
  · obtain ⟨h1, h2⟩ := h.2 i (by omega)
    constructor
    · rw [List.getElem?_set_ne (by omega), List.getElem?_set_ne (by omega)]; exact h1
    · rw [List.getElem?_set_ne (by omega), List.getElem?_set_ne (by omega)]; exact h2
theorem Laid.all {T : List UInt8} {l : List UInt32} (h : Laid T 1024 l) : l = entries T := by
  apply List.ext_getElem?
  intro i
  by_cases hi : i < 1024
  · rw [(h.2 i hi).1]; simp [entries, show i < 2048 by omega]
  · by_cases hi2 : i < 2048
    · have := (h.2 (i - 1024) (by omega)).2
      rw [show 1024 + (i - 1024) = i by omega] at this
      rw [this]; simp [entries, hi2]
    · rw [List.getElem?_eq_none (by have := h.1; omega), List.getElem?_eq_none (by simp [entries]; omega)]
theorem entries_length (T : List UInt8) : (entries T).length = 2048 := by simp [entries]
theorem Laid.at {T : List UInt8} {k : Nat} {l : List UInt32} (h : Laid T k l) {i : Nat} (hi : i < 2048) : ∃ x, l[i]? = some x := ⟨l[i]'(by have := h.1; omega), by simp⟩

def tab (r : Nat) (x : UInt8) : UInt32 := at32 (entries boxes) (256 * r + x.toNat)
def untab (r : Nat) (x : UInt8) : UInt32 := at32 (entries boxes) (1024 + 256 * r + x.toNat)
def roundGo (b key : List UInt8) (c : Nat) : Nat → UInt32
  | 0 => wordL key (4 * c)
  | r + 1 => xor32 (roundGo b key c r) (tab r (at8 b (shifted r c)))
def roundAt (b key : List UInt8) (i : Nat) : UInt8 := at8 (putWord (roundGo b key (i / 4) 4)) (i % 4)
def round (b key : List UInt8) : List UInt8 := (List.range 16).map (roundAt b key)
theorem roundAt_at (b key : List UInt8) (k j : Nat) (hj : j < 4) : (putWord (roundGo b key k 4))[j]? = some (roundAt b key (4 * k + j)) := by
  unfold roundAt
  rw [show (4 * k + j) / 4 = k by omega, show (4 * k + j) % 4 = j by omega]
  exact at8_get (by rw [putWord_length]; exact hj)
def lastAt (b : List UInt8) (i : Nat) : UInt8 := at8 boxes (at8 b (shifted (i % 4) (i / 4))).toNat
def last (b key : List UInt8) : List UInt8 := both ((List.range 16).map (lastAt b)) key
def unboxedAt (b : List UInt8) (i : Nat) : UInt8 := at8 boxes (256 + (at8 b (i % 4 + 4 * ((i / 4 + 4 - i % 4) % 4))).toNat)
def unboxed (b : List UInt8) : List UInt8 := (List.range 16).map (unboxedAt b)
def unroundGo (b : List UInt8) (c : Nat) : Nat → UInt32
  | 0 => 0
  | r + 1 => xor32 (unroundGo b c r) (untab r (at8 b (r + 4 * c)))
def unroundAt (b : List UInt8) (i : Nat) : UInt8 := at8 (putWord (unroundGo b (i / 4) 4)) (i % 4)
theorem unroundAt_at (b : List UInt8) (k j : Nat) (hj : j < 4) : (putWord (unroundGo b k 4))[j]? = some (unroundAt b (4 * k + j)) := by
  unfold unroundAt
  rw [show (4 * k + j) / 4 = k by omega, show (4 * k + j) % 4 = j by omega]
  exact at8_get (by rw [putWord_length]; exact hj)
def unround (b key : List UInt8) : List UInt8 := unboxed ((List.range 16).map (unroundAt (both b key)))
def unlast (b key : List UInt8) : List UInt8 := unboxed (both b key)
def rounds (b : List UInt8) (keys : List (List UInt8)) : List UInt8 := keys.foldl round b

theorem both_length (a b : List UInt8) : (both a b).length = 16 := by simp [both]
theorem round_length (b key : List UInt8) : (round b key).length = 16 := by simp [round]
theorem last_length (b key : List UInt8) : (last b key).length = 16 := by simp [last, both]
theorem unboxed_length (b : List UInt8) : (unboxed b).length = 16 := by simp [unboxed]
theorem unround_length (b key : List UInt8) : (unround b key).length = 16 := by simp [unround, unboxed]
theorem unlast_length (b key : List UInt8) : (unlast b key).length = 16 := by simp [unlast, unboxed]

end Go.Trn
/-
  What aes's functions compute. No program.
-/
set_option linter.unusedVariables false
namespace Go.Aes
open Go.Ops Go.Oct Go.Gf Go.Trn

def subW (w : List UInt8) : List UInt8 := (List.range 4).map fun i => at8 boxes (at8 w i).toNat
def plusW (a b : List UInt8) : List UInt8 := (List.range 4).map fun i => xor8 (at8 a i) (at8 b i)
theorem subW_length (w : List UInt8) : (subW w).length = 4 := by simp [subW]
theorem plusW_length (a b : List UInt8) : (plusW a b).length = 4 := by simp [plusW]

theorem block_xor (a b : List UInt8) (ha : a.length = 16) (hb : b.length = 16) : block (xorL a b) = both a b := by
  apply List.ext_getElem?
  intro i
  by_cases hi : i < 16
  · have h : (xorL a b)[i]? = some (xor8 (at8 a i) (at8 b i)) := by simp [xorL, ha, hb, hi]
    simp only [block, both, List.getElem?_map, List.getElem?_range, hi]
    simp [at8_some h]
  · rw [List.getElem?_eq_none (by rw [block_length]; omega), List.getElem?_eq_none (by rw [both_length]; omega)]

def key (ks : List (List UInt8)) (i : Nat) : List UInt8 := ks.getD i []
theorem key_get {ks : List (List UInt8)} {i : Nat} (h : i < ks.length) : ks[i]? = some (key ks i) := by simp [key, List.getD, h]
/-- A block enciphered, and deciphered, by round keys. -/
def enc (ks : List (List UInt8)) (b : List UInt8) : List UInt8 := last (rounds (both b (key ks 0)) ((ks.drop 1).take (ks.length - 2))) (key ks (ks.length - 1))
def decGo (ks : List (List UInt8)) : Nat → List UInt8 → List UInt8
  | 0, b => b
  | 1, b => b
  | i + 2, b => decGo ks (i + 1) (unround b (key ks (i + 1)))
theorem decGo_step (ks : List (List UInt8)) (i : Nat) (b : List UInt8) (h : 1 < i) : decGo ks i b = decGo ks (i - 1) (unround b (key ks (i - 1))) := by
  obtain ⟨m, rfl⟩ : ∃ m, i = m + 2 := ⟨i - 2, by omega⟩
  rfl
theorem decGo_one (ks : List (List UInt8)) (b : List UInt8) : decGo ks 1 b = b := rfl
def dec (ks : List (List UInt8)) (b : List UInt8) : List UInt8 := both (decGo ks (ks.length - 1) (unlast b (key ks (ks.length - 1)))) (key ks 0)
theorem enc_length (ks : List (List UInt8)) (b : List UInt8) : (enc ks b).length = 16 := last_length _ _
theorem dec_length (ks : List (List UInt8)) (b : List UInt8) : (dec ks b).length = 16 := both_length _ _
theorem rounds_length : ∀ (ks : List (List UInt8)) (b : List UInt8), b.length = 16 → (rounds b ks).length = 16
  | [], b, h => h
  | k :: r, b, _ => rounds_length r (round b k) (round_length b k)

/-- A word that is made out of the last one. -/
def turned (n : Nat) (long : Bool) (m : Nat) (w : List UInt8) (power : UInt8) : List UInt8 :=
  if m % n = 0 then (subW [at8 w 1, at8 w 2, at8 w 3, at8 w 0]).set 0 (xor8 (at8 (subW [at8 w 1, at8 w 2, at8 w 3, at8 w 0]) 0) power)
  else if long = true ∧ m % n = 4 then subW w else w
def expStep (n : Nat) (long : Bool) (st : List (List UInt8) × UInt8) : List (List UInt8) × UInt8 :=
  (st.1 ++ [plusW (key st.1 (st.1.length - n)) (turned n long st.1.length (key st.1 (st.1.length - 1)) st.2)], if st.1.length % n = 0 then dbl st.2 else st.2)
def expStart (n : Nat) (k : List UInt8) : List (List UInt8) := (List.range n).map fun i => putWord (wordL k (4 * i))
def expGo (n : Nat) (long : Bool) (k : List UInt8) : Nat → List (List UInt8) × UInt8
  | 0 => (expStart n k, 1)
  | i + 1 => expStep n long (expGo n long k i)
def expWords (n : Nat) (long : Bool) (k : List UInt8) : List (List UInt8) := (expGo n long k (4 * (n + 7) - n)).1
/-- A key's round keys. -/
def expand (n : Nat) (long : Bool) (k : List UInt8) : List (List UInt8) := (List.range (n + 7)).map fun i => (((expWords n long k).drop (4 * i)).take 4).flatten

theorem turned_length (n : Nat) (long : Bool) (m : Nat) (w : List UInt8) (power : UInt8) (h : w.length = 4) : (turned n long m w power).length = 4 := by
  unfold turned
  split
  · rw [List.length_set, subW_length]
  · split
    · exact subW_length _
    · exact h
theorem expGo_length (n : Nat) (long : Bool) (k : List UInt8) : ∀ i, (expGo n long k i).1.length = n + i
  | 0 => by simp [expGo, expStart]
  | i + 1 => by simp [expGo, expStep, expGo_length n long k i]; omega
theorem expGo_each (n : Nat) (long : Bool) (k : List UInt8) : ∀ i, ∀ x ∈ (expGo n long k i).1, x.length = 4
  | 0, x, h => by
    simp [expGo, expStart] at h
    obtain ⟨j, _, rfl⟩ := h
    exact putWord_length _
  | i + 1, x, h => by
    rw [expGo, expStep, List.mem_append] at h
    rcases h with h | h
    · exact expGo_each n long k i x h
    · simp at h; subst h; exact plusW_length _ _
theorem expWords_length (n : Nat) (long : Bool) (k : List UInt8) : (expWords n long k).length = 4 * (n + 7) := by
  unfold expWords; rw [expGo_length]; omega
theorem expWords_each (n : Nat) (long : Bool) (k : List UInt8) : ∀ x ∈ expWords n long k, x.length = 4 := expGo_each n long k _
theorem expand_length (n : Nat) (long : Bool) (k : List UInt8) : (expand n long k).length = n + 7 := by simp [expand]

end Go.Aes
/-
  What ring's functions compute. No program.
-/
set_option linter.unusedVariables false
namespace Go.Ring
open Go.Ops Go.Oct Go.Gf Go.Trn Go.Aes

def dblAt (a : List UInt8) (i : Nat) : UInt8 := if i < 15 then or8 (shl8 (at8 a i) 1) (shr8 (at8 a (i + 1)) 7) else xor8 (shl8 (at8 a 15) 1) (mul8 (shr8 (at8 a 0) 7) 135)
def dbl16 (a : List UInt8) : List UInt8 := (List.range 16).map (dblAt a)
theorem dbl16_length (a : List UInt8) : (dbl16 a).length = 16 := by simp [dbl16]
def sum16 (a b : List UInt8) (wanted : Bool) : List UInt8 := if wanted = true then both a b else a
theorem sum16_length (a b : List UInt8) (wanted : Bool) (h : a.length = 16) : (sum16 a b wanted).length = 16 := by unfold sum16; split; exact both_length _ _; exact h
def mulGo : Nat → UInt64 → List UInt8 → List UInt8 → List UInt8
  | 0, _, out, _ => out
  | k + 1, n, out, a => if n.toNat = 0 then out else mulGo k (shr64 n 1) (sum16 out a (((and64 n 1).toNat : Int) == 1)) (dbl16 a)
def multiple (n : UInt64) (a : List UInt8) : List UInt8 := mulGo 64 n (zeros 16) a
theorem mulGo_length : ∀ (k : Nat) (n : UInt64) (out a : List UInt8), out.length = 16 → (mulGo k n out a).length = 16
  | 0, _, _, _, h => h
  | k + 1, n, out, a, h => by
    unfold mulGo
    split
    · exact h
    · exact mulGo_length k _ _ _ (sum16_length _ _ _ h)
theorem multiple_length (n : UInt64) (a : List UInt8) : (multiple n a).length = 16 := mulGo_length _ _ _ _ (zeros_length 16)
def raiseGo : Nat → List UInt8 → List UInt8
  | 0, a => a
  | k + 1, a => raiseGo k (dbl16 a)
theorem raiseGo_length : ∀ (k : Nat) (a : List UInt8), a.length = 16 → (raiseGo k a).length = 16
  | 0, a, h => h
  | k + 1, a, _ => raiseGo_length k _ (dbl16_length a)

end Go.Ring
/-
  The walks of octet: numbers of bytes.
-/
namespace Go.Proofs.YtbpghohkhngdfaaGreatDoor
open Go.RowKit Go.Mem Go.Ops Go.Cells Go.Oct
set_option linter.unusedSimpArgs false

theorem Tryz.row4 : Row Tryz.prog 120 4 := ⟨by kernel_rfl, by kernel_rfl⟩
theorem Tryz.row8 : Row Tryz.prog 201 8 := ⟨by kernel_rfl, by kernel_rfl⟩
theorem Tryz.row16 : Row Tryz.prog 52 16 := ⟨by kernel_rfl, by kernel_rfl⟩

theorem Tryz.zero16 : (Tryz.prog.info? 52).map (·.zero) = some (some (.agg ((zeros 16).map B).toArray)) := by kernel_rfl
theorem Tryz.zero8 : (Tryz.prog.info? 201).map (·.zero) = some (some (.agg ((zeros 8).map B).toArray)) := by kernel_rfl
theorem Tryz.zero4 : (Tryz.prog.info? 120).map (·.zero) = some (some (.agg ((zeros 4).map B).toArray)) := by kernel_rfl
theorem Tryz.sizeByte : (Tryz.prog.info? 5).map (·.size) = some 1 := by kernel_rfl
theorem putword_ok (n : UInt32) (w : World) :
    Calls Tryz.prog 176 #[W n] w fun e w' => e = .returned (.agg ((putWord n).map B).toArray) ∧ Below w.heap.size w w' := by
  go_enter Tryz.func176, Tryz.ntmps176
  go_wp2
  go_loopw [5] (fun i wr => ∃ (j : Nat) (l : List UInt8), j ≤ 4 ∧ i = .int .i64 j ∧ Filled (fun k => lo32_8 (shr32 n (8 * k))) 4 j l ∧ Blk wr w.heap.size ([0,0,0,0].map B) 120 ∧ Blk wr (w.heap.size + 1) (l.map B) 120 ∧ Below w.heap.size w wr)
    (fun i _ => 4 - (intOf i).toNat)
  case atStart =>
    have h0 := Blk.new (w.alloc (.cells #[.int .u8 0, .int .u8 0, .int .u8 0, .int .u8 0] 120)) ([0,0,0,0].map B) 120
    simp at h0
    exact ⟨0, [0,0,0,0], by omega, rfl, Filled.zero rfl, (Blk.new w ([0,0,0,0].map B) 120).alloc _, h0, ((Below.refl _ _).alloc (Nat.le_refl _) _).alloc (by simp) _⟩
  case round =>
    obtain ⟨j, l, hj, rfl, hL, hbr, hb, hbel⟩ := hrel
    by_cases hlt : j < 4
    · obtain ⟨x, hx⟩ := hL.at hlt
      have hc := hb.cell j _ (mapB_at hx)
      have hf := hb.free j
      have HB := Lib.hid hb
      have HR := Lib.hid hbr
      clear hb hbr hx
      go_wp2
      go_roundw
      case rel => exact ⟨j + 1, _, by omega, rfl, hL.step hlt, HR.out.setOther (by simp) _, mapB_set _ _ _ ▸ HB.out.set j _, hbel.setCell (by simp) _⟩
      case measure => simp [intOf]; omega
    · obtain rfl : j = 4 := by omega
      have HB := Lib.hid hb
      have HR := Lib.hid hbr
      have HL := Lib.hid hL
      clear hb hbr hL
      go_wp2_with (first | (refine HB.out.wload rfl rfl rfl Tryz.row4 (by simp [HL.out.1]) ?_) | (refine HR.out.wstore rfl rfl rfl rfl Tryz.row4 rfl (by simp [HL.out.1]) (oneCell_B _) ?_))
      intro w' hb ho
      go_wp2
      refine hb.result rfl rfl rfl Tryz.row4 (by simp [HL.out.1]) ?_
      rw [HL.out.all]
      exact ⟨rfl, below_only hbel ho (Nat.le_refl _)⟩

theorem putlong_ok (n : UInt64) (w : World) :
    Calls Tryz.prog 142 #[L n] w fun e w' => e = .returned (.agg ((putLong n).map B).toArray) ∧ Below w.heap.size w w' := by
  go_enter Tryz.func142, Tryz.ntmps142
  go_wp2
  go_loopw [5] (fun i wr => ∃ (j : Nat) (l : List UInt8), j ≤ 8 ∧ i = .int .i64 j ∧ Filled (fun k => lo64_8 (shr64 n (8 * k))) 8 j l ∧ Blk wr w.heap.size ([0,0,0,0,0,0,0,0].map B) 201 ∧ Blk wr (w.heap.size + 1) (l.map B) 201 ∧ Below w.heap.size w wr)
    (fun i _ => 8 - (intOf i).toNat)
  case atStart =>
    have h0 := Blk.new (w.alloc (.cells ([0,0,0,0,0,0,0,0].map B).toArray 201)) ([0,0,0,0,0,0,0,0].map B) 201
    simp at h0
    exact ⟨0, [0,0,0,0,0,0,0,0], by omega, rfl, Filled.zero rfl, (Blk.new w ([0,0,0,0,0,0,0,0].map B) 201).alloc _, h0, ((Below.refl _ _).alloc (Nat.le_refl _) _).alloc (by simp) _⟩
  case round =>
    obtain ⟨j, l, hj, rfl, hL, hbr, hb, hbel⟩ := hrel
    by_cases hlt : j < 8
    · obtain ⟨x, hx⟩ := hL.at hlt
      have hc := hb.cell j _ (mapB_at hx)
      have hf := hb.free j
      have HB := Lib.hid hb
      have HR := Lib.hid hbr
      clear hb hbr hx
      go_wp2
      go_roundw
      case rel => exact ⟨j + 1, _, by omega, rfl, hL.step hlt, HR.out.setOther (by simp) _, mapB_set _ _ _ ▸ HB.out.set j _, hbel.setCell (by simp) _⟩
      case measure => simp [intOf]; omega
    · obtain rfl : j = 8 := by omega
      have HB := Lib.hid hb
      have HR := Lib.hid hbr
      have HL := Lib.hid hL
      clear hb hbr hL
      go_wp2_with (first | (refine HB.out.wload rfl rfl rfl Tryz.row8 (by simp [HL.out.1]) ?_) | (refine HR.out.wstore rfl rfl rfl rfl Tryz.row8 rfl (by simp [HL.out.1]) (oneCell_B _) ?_))
      intro w' hb ho
      go_wp2
      refine hb.result rfl rfl rfl Tryz.row8 (by simp [HL.out.1]) ?_
      rw [HL.out.all]
      exact ⟨rfl, below_only hbel ho (Nat.le_refl _)⟩

/-- What 'from' hands back: a closure over two cells. -/
def Tells (w : World) (c1 c2 : Nat) (at' : Nat) (ao : Option Addr) (len cap : Nat) : Prop :=
  w.cell? ⟨c1, 0, none⟩ = some (.int .i64 at') ∧ w.cell? ⟨c2, 0, none⟩ = some (.slice ao len cap)

theorem from_in (c1 c2 : Nat) (ao : Option Addr) (len cap at' k : Nat) (bs : List UInt8) (w : World) (hlen : bs.length = len) (hb : at' ≤ 1099511627776) (hk : k ≤ 1099511627776) (hc : len ≤ 1099511627776) (hl : Lies w ao (bs.map B))
    (ht : Tells w c1 c2 at' ao len cap) :
    Calls Tryz.prog 236 #[.int .i64 k, .pointer (some ⟨c1, 0, none⟩), .pointer (some ⟨c2, 0, none⟩)] w fun e w' => e = .returned (B (at8 bs (at' + k))) ∧ w = w' := by
  obtain ⟨h1, h2⟩ := ht
  by_cases hlt : at' + k < len
  · have hx : bs[at' + k]? = some (at8 bs (at' + k)) := at8_get (by omega)
    generalize at8 bs (at' + k) = x at *
    obtain ⟨b, off, rfl, hcell⟩ := hl _ _ (mapB_at hx)
    clear hl hlen hx
    have ht1 : decide ((at' : Int) > (len : Int) - 1 - k) = false := by simp; omega
    go_enter Tryz.func236, Tryz.ntmps236
    go_wp2
    go_ret
    exact ⟨rfl, rfl⟩
  · have hx : at8 bs (at' + k) = 0 := at8_none (by omega)
    rw [hx]
    clear hl hx hlen
    go_enter Tryz.func236, Tryz.ntmps236
    go_wp2
    go_ret
    exact ⟨rfl, rfl⟩

theorem gather_ok (many : Nat) (c1 c2 : Nat) (ao : Option Addr) (len cap at' : Nat) (bs : List UInt8) (w : World) (hm : many ≤ 8) (hlen : bs.length = len) (hb : at' ≤ 1099511627776) (hc : len ≤ 1099511627776) (hl : Lies w ao (bs.map B))
    (ht : Tells w c1 c2 at' ao len cap) :
    Calls Tryz.prog 218 #[.int .i64 many, .func (.func 236) #[] #[.pointer (some ⟨c1, 0, none⟩), .pointer (some ⟨c2, 0, none⟩)]] w fun e w' => e = .returned (L (gather (fun k => at8 bs (at' + k)) many)) ∧ w = w' := by
  have HLEN := Lib.hid hlen
  have HL := Lib.hid hl
  have HT := Lib.hid ht
  clear hlen hl ht
  go_enter Tryz.func218, Tryz.ntmps218
  go_wp2
  go_loopw [5, 8] (fun n i wr => ∃ j : Nat, j ≤ many ∧ i = .int .i64 j ∧ n = L (gather (fun k => at8 bs (at' + k)) j) ∧ w = wr) (fun _ i _ => many - (intOf i).toNat)
  case atStart => exact ⟨0, Nat.zero_le _, rfl, rfl, rfl⟩
  case round =>
    obtain ⟨j, hj, rfl, rfl, rfl⟩ := hrel
    by_cases hlt : j < many
    · go_wp2_with fail
      refine (from_in c1 c2 ao len cap at' j bs _ HLEN.out hb (by omega) hc HL.out HT.out).mono ?_
      rintro e w1 ⟨rfl, rfl⟩
      go_wp2
      go_roundw
      case rel => exact ⟨j + 1, by omega, rfl, rfl, by trivial⟩
      case measure => simp [intOf]; omega
    · obtain rfl : j = many := by omega
      go_wp2
      go_ret
      exact ⟨rfl, by trivial⟩

/-- 'from' hands back a closure over two new cells. -/
theorem fromfn_ok (ao : Option Addr) (len cap at' : Nat) (w : World) :
    Calls Tryz.prog 219 #[.slice ao len cap, .int .i64 at'] w fun e w' => ∃ c1 c2, e = .returned (.func (.func 236) #[] #[.pointer (some ⟨c1, 0, none⟩), .pointer (some ⟨c2, 0, none⟩)]) ∧ Tells w' c1 c2 at' ao len cap ∧ Below w.heap.size w w' := by
  go_enter Tryz.func219, Tryz.ntmps219
  go_wp2
  go_ret
  exact ⟨_, _, rfl, ⟨by simp, by simp⟩, ((Below.refl _ _).alloc (Nat.le_refl _) _).alloc (by simp) _⟩

theorem word_ok (ao : Option Addr) (len cap at' : Nat) (bs : List UInt8) (w : World) (hlen : bs.length = len) (hb : at' ≤ 1099511627776) (hc : len ≤ 1099511627776) (hl : Lies w ao (bs.map B)) :
    Calls Tryz.prog 177 #[.slice ao len cap, .int .i64 at'] w fun e w' => e = .returned (W (wordL bs at')) ∧ Below w.heap.size w w' := by
  have HLEN := Lib.hid hlen
  have HL := Lib.hid hl
  clear hlen hl
  go_enter Tryz.func177, Tryz.ntmps177
  go_wp2_with fail
  refine (fromfn_ok _ _ _ _ _).mono ?_
  rintro e w1 ⟨c1, c2, rfl, ht, hbel⟩
  have HT := Lib.hid ht
  clear ht
  go_wp2_with fail
  refine (gather_ok 4 c1 c2 ao len cap at' bs _ (by omega) HLEN.out hb hc (HL.out.below hbel) HT.out).mono ?_
  rintro e w2 ⟨rfl, rfl⟩
  go_wp2
  go_ret
  exact ⟨rfl, hbel⟩

theorem long_ok (ao : Option Addr) (len cap at' : Nat) (bs : List UInt8) (w : World) (hlen : bs.length = len) (hb : at' ≤ 1099511627776) (hc : len ≤ 1099511627776) (hl : Lies w ao (bs.map B)) :
    Calls Tryz.prog 252 #[.slice ao len cap, .int .i64 at'] w fun e w' => e = .returned (L (longL bs at')) ∧ Below w.heap.size w w' := by
  have HLEN := Lib.hid hlen
  have HL := Lib.hid hl
  clear hlen hl
  go_enter Tryz.func252, Tryz.ntmps252
  go_wp2_with fail
  refine (fromfn_ok _ _ _ _ _).mono ?_
  rintro e w1 ⟨c1, c2, rfl, ht, hbel⟩
  have HT := Lib.hid ht
  clear ht
  go_wp2_with fail
  refine (gather_ok 8 c1 c2 ao len cap at' bs _ (by omega) HLEN.out hb hc (HL.out.below hbel) HT.out).mono ?_
  rintro e w2 ⟨rfl, rfl⟩
  go_wp2
  go_ret
  exact ⟨rfl, hbel⟩

end Go.Proofs.YtbpghohkhngdfaaGreatDoor
