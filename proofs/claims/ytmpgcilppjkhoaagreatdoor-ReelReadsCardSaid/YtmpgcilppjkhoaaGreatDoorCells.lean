/-
  Plain facts on memory: a block as a list of cells that may be written. No program.
-/
import Derived.Test.YtmpgcilppjkhoaaGreatDoorMem
import Derived.Test.YtmpgcilppjkhoaaGreatDoorOps2
import Derived.Deep.MidRow
import Derived.OwnWalk
namespace Go.Cells
open Go.RowKit Go.Mem Go.Ops

/-- The block holds these cells; none is frozen. -/
def Blk (w : World) (b : Nat) (vs : List Value) (ty : TypeId) : Prop := w.heap[b]? = some (.cells vs.toArray ty (0, 0))

theorem Blk.lt {w : World} {b : Nat} {vs : List Value} {ty : TypeId} (h : Blk w b vs ty) : b < w.heap.size := by
  unfold Blk at h
  exact (Array.getElem?_eq_some_iff.1 h).1

theorem Blk.cell {w : World} {b : Nat} {vs : List Value} {ty : TypeId} (h : Blk w b vs ty) (i : Nat) (u : Value) (hu : vs[i]? = some u) : w.cell? ⟨b, i, none⟩ = some u := by
  unfold Blk at h
  simp [World.cell?, h, hu]

theorem Blk.free {w : World} {b : Nat} {vs : List Value} {ty : TypeId} (h : Blk w b vs ty) (i : Nat) : w.frozen? ⟨b, i, none⟩ = false := by
  unfold Blk at h
  simp [World.frozen?, h]

theorem Blk.set {w : World} {b : Nat} {vs : List Value} {ty : TypeId} (h : Blk w b vs ty) (i : Nat) (v : Value) : Blk (w.setCell ⟨b, i, none⟩ v) b (vs.set i v) ty := by
  unfold Blk at *
  have hlt := (Array.getElem?_eq_some_iff.1 h).1
  have he := (Array.getElem?_eq_some_iff.1 h).2
  simp only [World.setCell, Array.getElem?_modify, h]
  simp

theorem Blk.setOther {w : World} {b : Nat} {vs : List Value} {ty : TypeId} (h : Blk w b vs ty) {a : Addr} (hne : a.block ≠ b) (v : Value) : Blk (w.setCell a v) b vs ty := by
  unfold Blk at *
  simp only [World.setCell, Array.getElem?_modify, h]
  simp [hne]

theorem Blk.new (w : World) (vs : List Value) (ty : TypeId) : Blk (w.alloc (.cells vs.toArray ty)) w.heap.size vs ty := heap_alloc_new w _

theorem Blk.alloc {w : World} {b : Nat} {vs : List Value} {ty : TypeId} (h : Blk w b vs ty) (o : Obj) : Blk (w.alloc o) b vs ty := (heap_alloc_old w _ h.lt).trans h

theorem Blk.drew {w : World} {b : Nat} {vs : List Value} {ty : TypeId} (h : Blk w b vs ty) : Blk w.drew b vs ty := h

theorem Blk.below {w w' : World} {b B : Nat} {vs : List Value} {ty : TypeId} (h : Blk w b vs ty) (hb : Below B w w') (h2 : b < B) : Blk w' b vs ty := (hb.block b h2).trans h

theorem Blk.lies {w : World} {b : Nat} {vs : List Value} {ty : TypeId} (h : Blk w b vs ty) : Lies w (some ⟨b, 0, none⟩) vs := by
  have := Lies.of_block h
  simpa using this

theorem Blk.range {w : World} {b : Nat} {vs : List Value} {ty : TypeId} (h : Blk w b vs ty) : w.rangeAt b 0 vs := by
  intro j v hv
  rw [Nat.zero_add]
  exact h.cell j v hv

theorem mapB_at {l : List UInt8} {i : Nat} {x : UInt8} (h : l[i]? = some x) : (l.map B)[i]? = some (B x) := by simp [h]
theorem mapW_at {l : List UInt32} {i : Nat} {x : UInt32} (h : l[i]? = some x) : (l.map W)[i]? = some (W x) := by simp [h]
theorem mapL_at {l : List UInt64} {i : Nat} {x : UInt64} (h : l[i]? = some x) : (l.map L)[i]? = some (L x) := by simp [h]
theorem mapB_set (l : List UInt8) (i : Nat) (x : UInt8) : (l.map B).set i (B x) = (l.set i x).map B := by rw [List.map_set]
theorem mapW_set (l : List UInt32) (i : Nat) (x : UInt32) : (l.map W).set i (W x) = (l.set i x).map W := by rw [List.map_set]
theorem mapL_set (l : List UInt64) (i : Nat) (x : UInt64) : (l.map L).set i (L x) = (l.set i x).map L := by rw [List.map_set]
theorem at_lt {α : Type} {l : List α} {i : Nat} (h : i < l.length) : ∃ x, l[i]? = some x := ⟨l[i], by simp [h]⟩

/-- A row or a struct of so many cells. -/
def Row (P : Program) (ty : TypeId) (n : Nat) : Prop := (P.underlying ty).map (·.isRow) = some true ∧ (P.info? ty).map (·.size) = some n

theorem Row.open {P : Program} {ty : TypeId} {n : Nat} (h : Row P ty n) : ∃ d, P.underlying ty = some d ∧ d.isRow = true ∧ (P.info? ty).map (·.size) = some n := by
  obtain ⟨h1, h2⟩ := h
  cases hd : P.underlying ty with
  | none => rw [hd] at h1; cases h1
  | some d => rw [hd] at h1; exact ⟨d, rfl, by simpa using h1, h2⟩

/-- The world has changed at one block alone. -/
structure Only (b : Nat) (w w' : World) : Prop where
  os : w'.os = w.os
  tape : w'.tape = w.tape
  output : w'.output = w.output
  size : w'.heap.size = w.heap.size
  block : ∀ k, k ≠ b → w'.heap[k]? = w.heap[k]?

theorem Only.refl (b : Nat) (w : World) : Only b w w := ⟨rfl, rfl, rfl, rfl, fun _ _ => rfl⟩
theorem Only.trans {b : Nat} {u v w : World} (h : Only b u v) (k : Only b v w) : Only b u w :=
  ⟨k.os.trans h.os, k.tape.trans h.tape, k.output.trans h.output, k.size.trans h.size, fun i hi => (k.block i hi).trans (h.block i hi)⟩
theorem Only.setCell (w : World) (a : Addr) (v : Value) : Only a.block w (w.setCell a v) :=
  ⟨rfl, rfl, rfl, by simp [World.setCell], fun k hk => heap_setCell_other w a k v hk⟩
theorem Only.setCells (b : Nat) : ∀ (vs : List Value) (o : Nat) (w : World), Only b w (w.setCells b o vs)
  | [], _, w => Only.refl b w
  | v :: r, o, w => (Only.setCell w ⟨b, o, none⟩ v).trans (Only.setCells b r (o + 1) _)

theorem Blk.only {w w' : World} {b c : Nat} {vs : List Value} {ty : TypeId} (h : Blk w c vs ty) (ho : Only b w w') (hne : c ≠ b) : Blk w' c vs ty := (ho.block c hne).trans h
theorem below_only {B b : Nat} {u w w' : World} (h : Below B u w) (ho : Only b w w') (hb : B ≤ b) : Below B u w' :=
  ⟨ho.os.trans h.os, ho.tape.trans h.tape, ho.output.trans h.output, by rw [ho.size]; exact h.size, fun k hk => (ho.block k (by omega)).trans (h.block k hk)⟩

theorem Blk.setCells {b : Nat} {ty : TypeId} : ∀ (cs vs : List Value) (o : Nat) (w : World), o + cs.length ≤ vs.length → Blk w b vs ty → Blk (w.setCells b o cs) b (vs.take o ++ cs ++ vs.drop (o + cs.length)) ty
  | [], vs, o, w, _, h => by simpa [World.setCells] using h
  | v :: r, vs, o, w, hl, h => by
    rw [List.length_cons] at hl
    have := Blk.setCells r (vs.set o v) (o + 1) _ (by rw [List.length_set]; omega) (h.set o v)
    have e : (vs.set o v).take (o + 1) ++ r ++ (vs.set o v).drop (o + 1 + r.length) = vs.take o ++ (v :: r) ++ vs.drop (o + (v :: r).length) := by
      rw [List.drop_set_of_lt (by omega), List.length_cons, show o + 1 + r.length = o + (r.length + 1) by omega]
      congr 1
      rw [List.take_add_one, List.take_set_of_le (by omega)]
      simp [show o < vs.length by omega]
    rw [e] at this
    exact this

theorem Blk.setAll {w : World} {b : Nat} {vs cs : List Value} {ty : TypeId} (h : Blk w b vs ty) (hl : cs.length = vs.length) : Blk (w.setCells b 0 cs) b cs ty := by
  have := Blk.setCells cs vs 0 w (by omega) h
  rw [Nat.zero_add, List.drop_eq_nil_of_le (by omega)] at this
  simpa using this

theorem Blk.there {w : World} {b : Nat} {vs : List Value} {ty : TypeId} (h : Blk w b vs ty) (o n : Nat) (hn : o + n ≤ vs.length) : w.there b o n := by
  intro j hj
  have hu : vs[o + j]? = some (vs[o + j]'(by omega)) := by simp
  exact ⟨by rw [h.cell _ _ hu]; rfl, h.free _⟩

/-- An array or a struct by value, loaded whole: at a plain region's operation. -/
theorem Blk.wload {P : Program} {w : World} {b n : Nat} {vs : List Value} {ty' : TypeId} (h : Blk w b vs ty') {ops : Array Oper} {rest : List Oper} {op : Oper} {a : Act} {Q : Exit → Act → World → Prop} {ty : TypeId} {x : Operand}
    (hgd : op.guard = none) (ho : op.op = .load ty x) (hx : a.eval x = .pointer (some ⟨b, 0, none⟩)) (hr : Row P ty n) (hn : vs.length = n)
    (k : wpList P ops Q rest (a.put op.dst (.agg vs.toArray)) w) : wpList P ops Q (op :: rest) a w := by
  obtain ⟨d, hu, hd, hi⟩ := hr.open
  exact wpList_load_mid hgd ty x ho b 0 hx vs d h.range hu hd (by rw [hi, hn]) k

/-- An array or a struct by value, stored whole. -/
theorem Blk.wstore {P : Program} {w : World} {b n : Nat} {vs : List Value} {ty' : TypeId} (h : Blk w b vs ty') {ops : Array Oper} {rest : List Oper} {op : Oper} {a : Act} {Q : Exit → Act → World → Prop} {ty : TypeId} {x y : Operand} {cs : List Value}
    (hgd : op.guard = none) (ho : op.op = .store ty x y) (hx : a.eval x = .pointer (some ⟨b, 0, none⟩)) (hy : a.eval y = .agg cs.toArray) (hr : Row P ty n) (hn : vs.length = n) (hc : cs.length = n)
    (h1 : ∀ v ∈ cs, v.oneCell' = true)
    (k : ∀ w', Blk w' b cs ty' → Only b w w' → wpList P ops Q rest (a.put op.dst undef) w') : wpList P ops Q (op :: rest) a w := by
  obtain ⟨d, hu, hd, hi⟩ := hr.open
  refine wpList_store_mid hgd ty x y ho b 0 cs.toArray hx hy (h.there 0 _ (by rw [List.size_toArray]; omega)) (by rw [hi]; simp [hc]) (all_oneCell_toArray h1) ?_
  exact k (w.setCells b 0 cs) (h.setAll (by omega)) (Only.setCells b cs 0 w)

/-- 'copy' into a block. -/
theorem Blk.wcopy {P : Program} {w : World} {g : Nat} {cur : List Value} {t : TypeId} (h : Blk w g cur t) {ops : Array Oper} {rest : List Oper} {o : Oper} {a : Act} {Q : Exit → Act → World → Prop} {d s : Operand} {dT sT elem : TypeId}
    {dp sp : Option Addr} {dLen dCap sLen sCap : Nat} (off : Nat) (cs : List Value)
    (hgd : o.guard = none) (ho : o.op = .call { callee := .builtin .copy, args := #[d, s], argTypes := #[dT, sT] }) (hd : a.eval d = .slice dp dLen dCap) (hs : a.eval s = .slice sp sLen sCap)
    (hu : P.underlying dT = some (.slice elem)) (hsz : (P.info? elem).map (·.size) = some 1)
    (hdp : 0 < cs.length → dp = some ⟨g, off, none⟩) (hsrc : Lies w sp cs) (hn : cs.length = Nat.min sLen dLen) (hfit : off + cs.length ≤ cur.length) (h1 : ∀ v ∈ cs, v.oneCell' = true)
    (k : ∀ w', Blk w' g (splice cur off cs) t → Only g w w' → wpList P ops Q rest (a.put o.dst (goInt cs.length)) w') : wpList P ops Q (o :: rest) a w := by
  by_cases h0 : cs.length = 0
  · obtain rfl : cs = [] := List.eq_nil_of_length_eq_zero h0
    refine wpList_copy_nothing hgd d s dT sT ho elem hu hsz dp sp dLen dCap sLen sCap hd hs (by simpa using hn.symm) ?_
    exact k w (by simpa [splice] using h) (Only.refl _ _)
  · obtain rfl := hdp (by omega)
    obtain ⟨b, off', rfl, _, hc⟩ := hsrc.at (by intro e; simp [e] at h0)
    refine wpList_plain hgd fun K hK => ?_
    have hrun := run_copy_cells (P := P) w dT sT o.type elem g off dLen dCap ⟨b, off', none⟩ sLen sCap cs hu hsz hn (fun j v hv => by rw [add_eq]; exact hc j v hv)
      (fun j hj => ((h.there off cs.length hfit) j hj).1) (fun j hj => h.free _) h1
    unfold Oper.wp
    simp [execOp, ho, resolve, invoke, builtin, hd, hs, hrun, Result.andThen]
    refine hK _ _ (k _ ?_ (Only.setCells g cs off w))
    have := Blk.setCells cs cur off w hfit h
    rwa [List.append_assoc] at this

/-- A new block keeps all that was there. -/
theorem later_alloc (w : World) (o : Obj) : Below w.heap.size w (w.alloc o) := (Below.refl _ _).alloc (Nat.le_refl _) _

/-- A variable in memory of its own, at a plain region's operation. -/
theorem wpList_var {P : Program} {w : World} {ops : Array Oper} {rest : List Oper} {o : Oper} {a : Act} {Q : Exit → Act → World → Prop} (t : TypeId) (vs : List Value) (z : Value)
    (hgd : o.guard = none) (ho : o.op = .alloc t) (hz : (P.info? t).map (·.zero) = some (some z)) (hv : z.cells = vs.toArray)
    (k : ∀ w', Blk w' w.heap.size vs t → Below w.heap.size w w' → wpList P ops Q rest (a.put o.dst (.pointer (some ⟨w.heap.size, 0, none⟩))) w') : wpList P ops Q (o :: rest) a w := by
  refine wpList_plain hgd fun K hK => ?_
  have hk := k (w.alloc (.cells vs.toArray t)) (Blk.new w vs t) (later_alloc w _)
  cases hq : P.info? t with
  | none => rw [hq] at hz; cases hz
  | some x =>
    rw [hq] at hz
    have hx : x.zero = some z := by simpa using hz
    unfold Oper.wp
    simp [execOp, ho, Instr.alloc, zeroValue, typeInfo, hq, hx, newVar, newRow, hv]
    exact hK _ _ hk

theorem wpList_box {P : Program} {w : World} {ops : Array Oper} {rest : List Oper} {o : Oper} {a : Act} {Q : Exit → Act → World → Prop} (t : TypeId) (x : Operand) (vs : List Value) (v : Value)
    (hgd : o.guard = none) (ho : o.op = .box t x) (hx : a.eval x = v) (hv : v.cells = vs.toArray)
    (k : ∀ w', Blk w' w.heap.size vs t → Below w.heap.size w w' → wpList P ops Q rest (a.put o.dst (.pointer (some ⟨w.heap.size, 0, none⟩))) w') : wpList P ops Q (o :: rest) a w := by
  refine wpList_plain hgd fun K hK => ?_
  have hk := k (w.alloc (.cells vs.toArray t)) (Blk.new w vs t) (later_alloc w _)
  unfold Oper.wp
  simp [execOp, ho, Instr.box, hx, newVar, newRow, hv]
  exact hK _ _ hk

theorem blk_of_own {w : World} {base : Nat} {e : TypeId} {g n : Nat} {xs : List Value} (h : w.ownsRow base e 1 (.slice (some ⟨g, 0, none⟩) n n) n xs) : Blk w g xs e ∧ base ≤ g := by
  rcases h.2 with ⟨hv, _⟩ | ⟨g', c, cur, hv, hb, hg, h1, h2, h3, ht⟩
  · cases hv
  · cases hv
    refine ⟨?_, hb⟩
    have hl := h.1
    have : cur.toList = xs := by
      rw [← ht, List.take_of_length_le (by simp at h3 ⊢; omega)]
    unfold Blk
    rw [hg, ← this]

theorem own_of_blk {w : World} {base : Nat} {e : TypeId} {g n : Nat} {xs : List Value} (h : Blk w g xs e) (hb : base ≤ g) (hn : xs.length = n) (hm : n ≤ maxLen) : w.ownsRow base e 1 (.slice (some ⟨g, 0, none⟩) n n) n xs := by
  refine ⟨by rw [hn, Nat.mul_one], .inr ⟨g, n, xs.toArray, rfl, hb, h, Nat.le_refl _, hm, by simp [hn], ?_⟩⟩
  show xs.take (n * 1) = xs
  rw [List.take_of_length_le (by omega)]

/-- 'make' of a slice whose elements are one cell. -/
theorem wpList_make {P : Program} {w : World} {ops : Array Oper} {rest : List Oper} {o : Oper} {a : Act} {Q : Exit → Act → World → Prop} (t e : TypeId) (z : Value) (by' : Nat) (n : Nat) {l c : Operand} {kl kc : IntKind} {L C : Int}
    (hg : o.guard = none) (hop : o.op = Op.makeSlice t l c) (hl : a.eval l = .int kl L) (hc : a.eval c = .int kc C) (h1 : P.underlying t = some (.slice e)) (hi : (P.info? e).map (fun i => (i.zero, i.size, i.bytes)) = some (some z, 1, by')) (hz : z.cells = #[z])
    (hL : L = (n : Int)) (hC : C = (n : Int)) (b2 : by' * n ≤ 281474976710656) (b3 : n ≤ maxLen)
    (k : ∀ w', Blk w' w.heap.size (List.replicate n z) e → Below w.heap.size w w' → wpList P ops Q rest (a.put o.dst (.slice (some ⟨w.heap.size, 0, none⟩) n n)) w') : wpList P ops Q (o :: rest) a w := by
  obtain ⟨i0, hi0, hz0, hz1, hz2⟩ := info_parts hi
  refine wpList_make_full w hg l c t hop w.heap.size e i0 z 1 h1 hi0 hz0 hz1 kl kc L C n hl hc hL hC (by rw [hz2]; exact b2) b3 (Nat.le_refl _) (fun w' hown hgrow => ?_)
  have hb := (blk_of_own hown).1
  have e1 : (madeCells z.cells (n * 1)).toList = List.replicate n z := by
    rw [hz, Nat.mul_one, toList_madeCells_one]
  rw [e1] at hb
  exact k w' hb ((Below.refl w.heap.size w).grown hgrow (Nat.le_refl _) (fun k h => by cases h))

/-- What a walk knows of the world: nothing below the base has changed, and these blocks hold these cells. -/
structure St (w0 : World) (base : Nat) (w : World) (L : List (Nat × List Value × TypeId)) : Prop where
  base_le : base ≤ w0.heap.size
  bel : Below base w0 w
  all : ∀ e ∈ L, Blk w e.1 e.2.1 e.2.2

theorem St.start (w : World) : St w w.heap.size w [] := ⟨Nat.le_refl _, Below.refl _ _, fun _ h => by cases h⟩
theorem St.get {w0 w : World} {base : Nat} {L : List (Nat × List Value × TypeId)} (h : St w0 base w L) (i : Nat) {b : Nat} {vs : List Value} {ty : TypeId} (hi : L[i]? = some (b, vs, ty)) : Blk w b vs ty := h.all _ (List.mem_of_getElem? hi)
theorem St.later {w0 w w' : World} {base : Nat} {L : List (Nat × List Value × TypeId)} (h : St w0 base w L) (hl : Below w.heap.size w w') : St w0 base w' L :=
  ⟨h.base_le, h.bel.trans (hl.mono (Nat.le_trans h.base_le h.bel.size)), fun e he => (h.all e he).below hl (h.all e he).lt⟩
theorem St.drew {w0 w : World} {base : Nat} {L : List (Nat × List Value × TypeId)} (h : St w0 base w L) : St w0 base w.drew L := ⟨h.base_le, h.bel.drew, fun e he => (h.all e he).drew⟩
theorem St.add {w0 w : World} {base : Nat} {L : List (Nat × List Value × TypeId)} (h : St w0 base w L) {b : Nat} {vs : List Value} {ty : TypeId} (hb : Blk w b vs ty) : St w0 base w ((b, vs, ty) :: L) :=
  ⟨h.base_le, h.bel, fun e he => by
    rcases List.mem_cons.1 he with rfl | he
    · exact hb
    · exact h.all e he⟩
theorem St.push {w0 w w' : World} {base : Nat} {L : List (Nat × List Value × TypeId)} (h : St w0 base w L) {b : Nat} {vs : List Value} {ty : TypeId} (hb : Blk w' b vs ty) (hl : Below w.heap.size w w') : St w0 base w' ((b, vs, ty) :: L) := (h.later hl).add hb
theorem mem_eraseIdx_ne {α : Type} : ∀ (L : List α) (i j : Nat) (e : α), j ≠ i → L[j]? = some e → e ∈ L.eraseIdx i
  | [], _, _, _, _, h => by simp at h
  | x :: r, 0, 0, _, hne, _ => absurd rfl hne
  | x :: r, 0, j + 1, e, _, h => by rw [List.getElem?_cons_succ] at h; exact List.mem_of_getElem? h
  | x :: r, i + 1, 0, e, _, h => by simp at h; subst h; simp [List.eraseIdx]
  | x :: r, i + 1, j + 1, e, hne, h => by
    rw [List.getElem?_cons_succ] at h
    exact List.mem_cons_of_mem _ (mem_eraseIdx_ne r i j e (fun h => hne (congrArg (· + 1) h)) h)

/-- One block has changed. -/
theorem St.change {w0 w w' : World} {base : Nat} {L : List (Nat × List Value × TypeId)} (h : St w0 base w L) (i : Nat) {b : Nat} {us : List Value} {ty : TypeId} (hb : Blk w' b us ty) (ho : Only b w w')
    (hbase : base ≤ b) (hne : ∀ e ∈ L.eraseIdx i, e.1 ≠ b) : St w0 base w' (L.set i (b, us, ty)) :=
  ⟨h.base_le, below_only h.bel ho hbase, fun e he => by
    obtain ⟨j, hj⟩ := List.mem_iff_getElem?.1 he
    rw [List.getElem?_set] at hj
    by_cases e1 : i = j
    · subst e1
      rw [if_pos rfl] at hj
      split at hj
      · cases hj; exact hb
      · cases hj
    · rw [if_neg e1] at hj
      exact (h.all e (List.mem_of_getElem? hj)).only ho (hne e (mem_eraseIdx_ne _ _ _ _ (fun h => e1 h.symm) hj))⟩
theorem St.ne {w0 w : World} {base : Nat} {L : List (Nat × List Value × TypeId)} (h : St w0 base w L) : ∀ e ∈ L, e.1 < w.heap.size := fun e he => (h.all e he).lt
theorem St.size {w0 w : World} {base : Nat} {L : List (Nat × List Value × TypeId)} (h : St w0 base w L) : base ≤ w.heap.size := Nat.le_trans h.base_le h.bel.size

/-! The same at one operation. -/
theorem Blk.opload {P : Program} {w : World} {b n : Nat} {vs : List Value} {ty' : TypeId} (h : Blk w b vs ty') {op : Oper} {a : Act} {K : Act → World → Prop} {Q : Exit → Act → World → Prop} {ty : TypeId} {x : Operand}
    (ho : op.op = .load ty x) (hx : a.eval x = .pointer (some ⟨b, 0, none⟩)) (hr : Row P ty n) (hn : vs.length = n) (k : K (a.put op.dst (.agg vs.toArray)) w) : op.wp P a w K Q := by
  obtain ⟨d, hu, hd, hi⟩ := hr.open
  exact wp_load_mid ty x ho b 0 hx vs d h.range hu hd (by rw [hi, hn]) k

theorem Blk.opstore {P : Program} {w : World} {b n : Nat} {vs : List Value} {ty' : TypeId} (h : Blk w b vs ty') {op : Oper} {a : Act} {K : Act → World → Prop} {Q : Exit → Act → World → Prop} {ty : TypeId} {x y : Operand} {cs : List Value}
    (ho : op.op = .store ty x y) (hx : a.eval x = .pointer (some ⟨b, 0, none⟩)) (hy : a.eval y = .agg cs.toArray) (hr : Row P ty n) (hn : vs.length = n) (hc : cs.length = n) (h1 : ∀ v ∈ cs, v.oneCell' = true)
    (k : ∀ w', Blk w' b cs ty' → Only b w w' → K (a.put op.dst undef) w') : op.wp P a w K Q := by
  obtain ⟨d, hu, hd, hi⟩ := hr.open
  refine wp_store_mid ty x y ho b 0 cs.toArray hx hy (h.there 0 _ (by rw [List.size_toArray]; omega)) (by rw [hi]; simp [hc]) (all_oneCell_toArray h1) ?_
  exact k (w.setCells b 0 cs) (h.setAll (by omega)) (Only.setCells b cs 0 w)

/-- One cell is stored. -/
theorem Blk.opset {P : Program} {w : World} {b i : Nat} {vs : List Value} {ty' : TypeId} (h : Blk w b vs ty') {op : Oper} {a : Act} {K : Act → World → Prop} {Q : Exit → Act → World → Prop} {ty : TypeId} {x y : Operand} {v : Value}
    (ho : op.op = .store ty x y) (hx : a.eval x = .pointer (some ⟨b, i, none⟩)) (hy : a.eval y = v) (hs : (P.info? ty).map (·.size) = some 1) (hv : v.cells = #[v]) (h1 : v.oneCell' = true) (hi : i < vs.length)
    (k : ∀ w', Blk w' b (vs.set i v) ty' → Only b w w' → K (a.put op.dst undef) w') : op.wp P a w K Q := by
  have hk := k _ (h.set i v) (Only.setCell w ⟨b, i, none⟩ v)
  have hrun := run_storeCells_cells (P := P) b i [v] 0 w (fun j hj => by
      have : j = 0 := by simpa using hj
      subst this
      have := ((h.there i 1 (by omega)) 0 (by omega)).1
      simpa using this) (fun j _ => h.free _) (by simpa using h1)
  cases hq : P.info? ty with
  | none => rw [hq] at hs; cases hs
  | some t =>
    have ht : t.size = 1 := by rw [hq] at hs; simpa using hs
    unfold Oper.wp
    simp only [Nat.add_zero, World.setCells] at hrun
    simp [execOp, ho, hx, hy, Instr.storeAt, Instr.sureAddr, storeVar, sizeOf, typeInfo, hq, ht, hv, hrun]
    exact hk

theorem Blk.opcopy {P : Program} {w : World} {g : Nat} {cur : List Value} {t : TypeId} (h : Blk w g cur t) {o : Oper} {a : Act} {K : Act → World → Prop} {Q : Exit → Act → World → Prop} {d s : Operand} {dT sT elem : TypeId}
    {dp sp : Option Addr} {dLen dCap sLen sCap : Nat} (off : Nat) (cs : List Value)
    (ho : o.op = .call { callee := .builtin .copy, args := #[d, s], argTypes := #[dT, sT] }) (hd : a.eval d = .slice dp dLen dCap) (hs : a.eval s = .slice sp sLen sCap)
    (hu : P.underlying dT = some (.slice elem)) (hsz : (P.info? elem).map (·.size) = some 1)
    (hdp : 0 < cs.length → dp = some ⟨g, off, none⟩) (hsrc : Lies w sp cs) (hn : cs.length = Nat.min sLen dLen) (hfit : off + cs.length ≤ cur.length) (h1 : ∀ v ∈ cs, v.oneCell' = true)
    (k : ∀ w', Blk w' g (splice cur off cs) t → Only g w w' → K (a.put o.dst (goInt cs.length)) w') : o.wp P a w K Q := by
  by_cases h0 : cs.length = 0
  · obtain rfl : cs = [] := List.eq_nil_of_length_eq_zero h0
    have hrun := run_copy_none (P := P) w dT sT o.type elem dp sp dLen dCap sLen sCap hu hsz (by simpa using hn.symm)
    unfold Oper.wp
    simp [execOp, ho, resolve, invoke, builtin, hd, hs, hrun, Result.andThen]
    exact k w (by simpa [splice] using h) (Only.refl _ _)
  · obtain rfl := hdp (by omega)
    obtain ⟨b, off', rfl, _, hc⟩ := hsrc.at (by intro e; simp [e] at h0)
    have hrun := run_copy_cells (P := P) w dT sT o.type elem g off dLen dCap ⟨b, off', none⟩ sLen sCap cs hu hsz hn (fun j v hv => by rw [add_eq]; exact hc j v hv)
      (fun j hj => ((h.there off cs.length hfit) j hj).1) (fun j hj => h.free _) h1
    unfold Oper.wp
    simp [execOp, ho, resolve, invoke, builtin, hd, hs, hrun, Result.andThen]
    refine k _ ?_ (Only.setCells g cs off w)
    have := Blk.setCells cs cur off w hfit h
    rwa [List.append_assoc] at this

/-- The one result is a variable of an array or a struct. -/
theorem Blk.result {P : Program} {w : World} {b n : Nat} {vs : List Value} {ty' : TypeId} (h : Blk w b vs ty') {fn : Func} {R : Ending → World → Prop} {a : Act} {p : Tmp} {ty : TypeId}
    (hf : fn.results = #[.cell p ty]) (hd : a.defers = []) (hp : a.tmps.getD p undef = .pointer (some ⟨b, 0, none⟩)) (hr : Row P ty n) (hn : vs.length = n)
    (k : R (.returned (.agg vs.toArray)) w) : bodyPost P fn R .ret a w := by
  obtain ⟨d, hu, hd', hi⟩ := hr.open
  exact bodyPost_ret (results_cell_row hf _ _ _ _ _ _ _ hp h hu (by cases d <;> simp_all [TypeDesc.isRow]) (by rw [hi]; simp [hn])) hd k

/-- A cut of an array's variable, from an element on. -/
theorem run_sliceAt_low {P : Program} (w : World) (t e : TypeId) (n : Nat) (ht : P.underlying t = some (.array n e)) (hs : (P.info? e).map (·.size) = some 1) (b o lo : Nat) (i : Int) (hi : i = lo) (h : lo < n) :
    (Instr.sliceAt t (.pointer (some ⟨b, o, none⟩)) (some (.int .i64 i)) none none).run P w = .ok (.slice (some ⟨b, o + lo, none⟩) (n - lo) (n - lo)) w := by
  subst hi
  cases hq : P.info? e with
  | none => rw [hq] at hs; cases hs
  | some x =>
    have hx : x.size = 1 := by rw [hq] at hs; simpa using hs
    have hz : (sizeOf e).run P w = .ok 1 w := by simp [sizeOf, typeInfo, hq, hx]
    have hne : n ≠ lo := by omega
    simp [Instr.sliceAt, run_underlying ht, Instr.sureAddr, Instr.sliceBounds, Instr.sliceBound, asIntOf, hz, show lo ≤ n by omega, hne, add_eq]

/-- An element of an array by value; the element is one cell. -/
theorem run_index_one {P : Program} (w : World) (t e : TypeId) (n : Nat) (cs : Array Value) (k : IntKind) (i : Nat) (v : Value) (ht : P.underlying t = some (.array n e)) (he : (P.underlying e).map (·.isRow) = some false) (hs : (P.info? e).map (·.size) = some 1)
    (hi : cs[i]? = some v) (hlt : i < n) : (Instr.index t (.agg cs) (.int k (i : Int))).run P w = .ok v w := by
  cases hq : P.info? e with
  | none => rw [hq] at hs; cases hs
  | some x =>
    have hx : x.size = 1 := by rw [hq] at hs; simpa using hs
    cases hd : P.underlying e with
    | none => rw [hd] at he; cases he
    | some d =>
      have hagg : (isAgg e).run P w = .ok false w := by
        unfold isAgg
        rw [Sem.run_bind, run_underlying hd w]
        rw [hd] at he
        cases d <;> simp_all [TypeDesc.isRow]
      simp [Instr.index, asIntOf, run_underlying ht, hlt, sizeOf, typeInfo, hq, hx, part, hagg, hi]

end Go.Cells
