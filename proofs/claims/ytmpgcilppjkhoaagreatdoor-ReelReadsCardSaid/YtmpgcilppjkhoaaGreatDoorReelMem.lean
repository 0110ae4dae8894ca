/-
  Plain facts on memory: commands as rows of seven cells. No program.
-/
import Derived.Test.YtmpgcilppjkhoaaGreatDoorReelPlain
import Derived.Test.YtmpgcilppjkhoaaGreatDoorAppend
import Derived.Deep.Slices
import Derived.ChangeArms
import Derived.ChangeSlices
import Derived.ChangeShapes
namespace Go.Reel
open Go.RowKit Go.Mem Go.Ops Go.Cells Go.Oct Go.ChangeShapes Go.WideShapes
set_option linter.unusedSimpArgs false
set_option linter.unusedVariables false

/-- Rows of n values behind an address. -/
structure VRows (n : Nat) (w : World) (ao : Option Addr) (vs : List (List Value)) : Prop where
  each : ∀ v ∈ vs, v.length = n
  lies : Lies w ao vs.flatten

theorem vflat_at (n : Nat) : ∀ (vs : List (List Value)) (i j : Nat) (v : List Value), (∀ v ∈ vs, v.length = n) → vs[i]? = some v → j < n → vs.flatten[n * i + j]? = v[j]?
  | [], i, j, v, _, hi, _ => by cases hi
  | x :: vs, 0, j, v, hv, hi, hj => by
    simp at hi; subst hi
    have := hv x (by simp)
    rw [List.flatten_cons, Nat.mul_zero, Nat.zero_add, List.getElem?_append_left (by omega)]
  | x :: vs, i + 1, j, v, hv, hi, hj => by
    have := hv x (by simp)
    rw [List.getElem?_cons_succ] at hi
    rw [List.flatten_cons, List.getElem?_append_right (by rw [Nat.mul_succ]; omega), this, show n * (i + 1) + j - n = n * i + j by rw [Nat.mul_succ]; omega]
    exact vflat_at n vs i j v (fun u hu => hv u (List.mem_cons_of_mem _ hu)) hi hj

theorem vflat_length (n : Nat) : ∀ vs : List (List Value), (∀ v ∈ vs, v.length = n) → vs.flatten.length = vs.length * n
  | [], _ => by simp
  | x :: vs, hv => by
    rw [List.flatten_cons, List.length_append, hv x (by simp), vflat_length n vs (fun u hu => hv u (List.mem_cons_of_mem _ hu)), List.length_cons, Nat.add_mul]
    omega

theorem VRows.below {n : Nat} {w w' : World} {ao : Option Addr} {vs : List (List Value)} (h : VRows n w ao vs) (hb : Below w.heap.size w w') : VRows n w' ao vs := ⟨h.each, h.lies.below hb⟩
theorem VRows.nil (n : Nat) (w : World) (ao : Option Addr) : VRows n w ao [] := ⟨by simp, Lies.nil _ _⟩
theorem VRows.range {n : Nat} {w : World} {ao : Option Addr} {vs : List (List Value)} (h : VRows n w ao vs) (hn : 0 < n) {i : Nat} {v : List Value} (hi : vs[i]? = some v) :
    ∃ b off, ao = some ⟨b, off, none⟩ ∧ b < w.heap.size ∧ w.rangeAt b (off + i * n) v := by
  have hk := h.each v (List.mem_of_getElem? hi)
  have hat : ∀ j u, v[j]? = some u → vs.flatten[n * i + j]? = some u := fun j u hu => by
    have hj : j < n := by
      rcases Nat.lt_or_ge j n with h | h
      · exact h
      · rw [List.getElem?_eq_none (by omega)] at hu; cases hu
    rw [vflat_at n vs i j v h.each hi hj]
    exact hu
  obtain ⟨b, off, rfl, hc⟩ := h.lies _ _ (hat 0 (v[0]'(by omega)) (by simp))
  refine ⟨b, off, rfl, block_lt_of_cell hc, fun j u hu => ?_⟩
  obtain ⟨b', off', e, hc'⟩ := h.lies _ _ (hat j u hu)
  cases e
  rw [show off + i * n + j = off + (n * i + j) by rw [Nat.mul_comm i n]; omega]
  exact hc'

/-- A slice of structs whose fields are one cell each, opened. -/
theorem open_rows {H : Type} {enc : TypeId × Value → H} {P : Program} {w : World} {base : Nat} {spare : Nat → Bool} {held : Bool} {t e : TypeId} {fs : Array Field} {fuel C : Nat} {cs : List Value} {x : DataW H × List MemPlace}
    (ht : P.underlying t = some (.slice e)) (he : P.underlying e = some (.struct fs)) (hC : P.cellsOf e = C) (hC0 : 0 < C) (h : DataW.trod enc P w base spare held fuel t cs = some x) :
    ∃ (ao : Option Addr) (len cap : Nat) (vs : List (List Value)), cs = [.slice ao len cap] ∧ vs.length = len ∧ len ≤ cap ∧ cap ≤ maxLen ∧ VRows C w ao vs ∧
      ∀ v ∈ vs, ∃ n, ∀ (i : Nat) (f : Field), fs[i]? = some f → ∃ y, DataW.trod enc P w base spare held n f.type ((v.drop f.offset).take (P.cellsOf f.type)) = some y := by
  rcases Go.Deep.open_slice ht h with ⟨rfl, _⟩ | ⟨a, len, cap, m, n, D, Pl, rfl, hb, hl, hm, hmm, rfl, hx⟩
  · exact ⟨none, 0, 0, [], rfl, rfl, Nat.le_refl _, by simp [maxLen], VRows.nil _ _ _, by simp⟩
  have hlm : len ≤ m := by rw [hmm]; split <;> omega
  have each : ∀ i, i < len → ∃ v : List Value, v.length = C ∧ (∀ j u, v[j]? = some u → w.cell? (a.add (i * C + j)) = some u) ∧
      ∃ n, ∀ (i : Nat) (f : Field), fs[i]? = some f → ∃ y, DataW.trod enc P w base spare held n f.type ((v.drop f.offset).take (P.cellsOf f.type)) = some y := by
    intro i hi
    obtain ⟨cs', h1, h2⟩ := hx i (by omega)
    rw [hC] at h1
    obtain ⟨_, hlen, hcell⟩ := World.cells?_some h1
    obtain ⟨xs, k, hk, hxy, _, hxl, hf⟩ := DataW.trod_struct he h2
    refine ⟨cs', hlen, fun j u hu => ?_, k, fun i f hfi => ?_⟩
    · have hj : j < C := by
        rcases Nat.lt_or_ge j C with h | h
        · exact h
        · rw [List.getElem?_eq_none (by omega)] at hu; cases hu
      have := hcell j hj
      rw [Go.Deep.add_add] at this
      rw [this, hu]
    · have hi' : i < xs.length := by
        rw [hxl]
        exact (Array.getElem?_eq_some_iff.1 hfi).1
      refine ⟨xs[i], ?_⟩
      rw [hf i f hfi]
      simp [hi']
  obtain ⟨V, hV⟩ := Go.Deep.choose_lt each
  refine ⟨some a, len, cap, (List.range len).map V, rfl, by simp, hl, hm, ⟨?_, ?_⟩, ?_⟩
  · intro v hv
    obtain ⟨i, hi, rfl⟩ := List.mem_map.1 hv
    exact (hV i (List.mem_range.1 hi)).1
  · intro j u hu
    have hev : ∀ v ∈ (List.range len).map V, v.length = C := by
      intro v hv
      obtain ⟨i, hi, rfl⟩ := List.mem_map.1 hv
      exact (hV i (List.mem_range.1 hi)).1
    have hfl : ((List.range len).map V).flatten.length = len * C := by
      rw [vflat_length C _ hev]
      simp
    have hj : j < len * C := by
      rcases Nat.lt_or_ge j (len * C) with h | h
      · exact h
      · rw [List.getElem?_eq_none (by omega)] at hu; cases hu
    have hi : j / C < len := Nat.div_lt_of_lt_mul (by rw [Nat.mul_comm]; exact hj)
    have hm' : j % C < C := Nat.mod_lt _ hC0
    have hat := vflat_at C _ (j / C) (j % C) (V (j / C)) hev (by simp [hi]) hm'
    rw [Nat.div_add_mod] at hat
    rw [hat] at hu
    have h2 := (hV _ hi).2.1 _ _ hu
    rw [show j / C * C + j % C = j by rw [Nat.mul_comm]; exact Nat.div_add_mod j C] at h2
    have hlen0 : 0 < len := Nat.lt_of_le_of_lt (Nat.zero_le _) hi
    have hl0 := (hV 0 hlen0).1
    have h0 := (hV 0 hlen0).2.1 0 ((V 0)[0]'(by rw [hl0]; exact hC0)) (by simp)
    rw [Nat.zero_mul] at h0
    have hs := World.cell?_spot h0
    obtain ⟨b, off, sp⟩ := a
    have hs' : sp = none := by simpa [Addr.add] using hs
    subst hs'
    exact ⟨b, off, rfl, by rw [add_eq] at h2; exact h2⟩
  · intro v hv
    obtain ⟨i, hi, rfl⟩ := List.mem_map.1 hv
    exact (hV i (List.mem_range.1 hi)).2.2

/-- A command in memory. -/
structure Opr where
  c : Cmd
  ko : Option Addr
  kc : Nat
  bo : Option Addr
  bc : Nat

def Opr.vals (x : Opr) : List Value :=
  [.int .i64 x.c.kind, .int .i64 x.c.a, .int .i64 x.c.n, .int .i64 x.c.m, .slice x.ko x.c.key.length x.kc, .slice x.bo x.c.b.length x.bc, .string (str x.c.name)]

def Fit (n : Int) : Prop := -9223372036854775808 ≤ n ∧ n ≤ 9223372036854775807

structure Opr.In (w : World) (x : Opr) : Prop where
  kind : Fit x.c.kind
  a : Fit x.c.a
  n : Fit x.c.n
  m : Fit x.c.m
  key : Lies w x.ko (x.c.key.map B)
  b : Lies w x.bo (x.c.b.map B)
  kc : x.c.key.length ≤ x.kc ∧ x.kc ≤ maxLen
  bc : x.c.b.length ≤ x.bc ∧ x.bc ≤ maxLen
  name : x.c.name.length ≤ maxLen

theorem Opr.In.below {w w' : World} {x : Opr} (h : x.In w) (hb : Below w.heap.size w w') : x.In w' :=
  ⟨h.kind, h.a, h.n, h.m, h.key.below hb, h.b.below hb, h.kc, h.bc, h.name⟩

theorem Opr.vals_length (x : Opr) : x.vals.length = 7 := rfl
theorem Opr.vals_one (x : Opr) : ∀ v ∈ x.vals, v.oneCell' = true := by
  intro v hv
  simp only [Opr.vals, List.mem_cons, List.not_mem_nil, or_false] at hv
  rcases hv with rfl | rfl | rfl | rfl | rfl | rfl | rfl <;> rfl

/-- Commands in memory. -/
structure OpsIn (w : World) (ao : Option Addr) (xs : List Opr) : Prop where
  rows : VRows 7 w ao (xs.map Opr.vals)
  each : ∀ x ∈ xs, x.In w

theorem OpsIn.below {w w' : World} {ao : Option Addr} {xs : List Opr} (h : OpsIn w ao xs) (hb : Below w.heap.size w w') : OpsIn w' ao xs :=
  ⟨h.rows.below hb, fun x hx => (h.each x hx).below hb⟩
theorem OpsIn.at {w : World} {ao : Option Addr} {xs : List Opr} (h : OpsIn w ao xs) {i : Nat} {x : Opr} (hi : xs[i]? = some x) :
    x.In w ∧ ∃ b off, ao = some ⟨b, off, none⟩ ∧ b < w.heap.size ∧ w.rangeAt b (off + i * 7) x.vals :=
  ⟨h.each x (List.mem_of_getElem? hi), h.rows.range (by omega) (by simp [hi])⟩

theorem fit_of_wf {n : Int} (h : (Lit.int .i64 n).wf = true) : Fit n := by
  have : -9223372036854775808 ≤ n ∧ n ≤ 9223372036854775807 := by simpa [Lit.wf, IntKind.min, IntKind.max, IntKind.signed, IntKind.bits] using h
  exact this

/-- Bytes of a slice that can be read. -/
theorem open_bytes {H : Type} {enc : TypeId × Value → H} {P : Program} {w : World} {base : Nat} {spare : Nat → Bool} {held : Bool} {t e : TypeId} {fuel : Nat} {cs : List Value} {x : DataW H × List MemPlace}
    (ht : P.underlying t = some (.slice e)) (he : P.underlying e = some (.int .u8)) (hc : P.cellsOf e = 1) (h : DataW.trod enc P w base spare held fuel t cs = some x) :
    ∃ (ao : Option Addr) (cap : Nat) (bs : List UInt8), cs = [.slice ao bs.length cap] ∧ bs.length ≤ cap ∧ cap ≤ maxLen ∧ Lies w ao (bs.map B) := by
  rcases open_ints ht he hc h with ⟨rfl, _⟩ | ⟨x, l, c, zs, rfl, _, hl, hm, hz, _, hcell, hwz⟩
  · exact ⟨none, 0, [], rfl, Nat.le_refl _, by simp [maxLen], Lies.nil _ _⟩
  · have hz' : l ≤ zs.length := by rw [hz]; split <;> omega
    obtain ⟨bs, h1, h2, h3, h4⟩ := Go.Mem.bytes_of_row (w := w) (a := some x) (len := l) (cap := zs.length) (zs := zs)
      (.inr ⟨x, rfl, hz', by rw [hz]; split <;> omega, rfl, hcell, hwz⟩)
    exact ⟨some x, c, bs, by rw [h1], by omega, hm, h4⟩

/-- Commands that came in. -/
theorem open_ops {H : Type} {enc : TypeId × Value → H} {P : Program} {w : World} {base : Nat} {spare : Nat → Bool} {held : Bool} {t e ti ts tb ty : TypeId} {fs : Array Field} {fuel : Nat} {cs : List Value} {x : DataW H × List MemPlace}
    (ht : P.underlying t = some (.slice e)) (he : P.underlying e = some (.struct fs)) (hC : P.cellsOf e = 7) (hfs : fs.toList.map (fun f => (f.type, f.offset)) = [(ti, 0), (ti, 1), (ti, 2), (ti, 3), (ts, 4), (ts, 5), (tb, 6)])
    (hi : P.underlying ti = some (.int .i64)) (hs : P.underlying ts = some (.slice ty)) (hy : P.underlying ty = some (.int .u8)) (hb : P.underlying tb = some .string)
    (ci : P.cellsOf ti = 1) (cs' : P.cellsOf ts = 1) (cy : P.cellsOf ty = 1) (cb : P.cellsOf tb = 1)
    (h : DataW.trod enc P w base spare held fuel t cs = some x) :
    ∃ (ao : Option Addr) (cap : Nat) (xs : List Opr), cs = [.slice ao xs.length cap] ∧ xs.length ≤ cap ∧ cap ≤ maxLen ∧ OpsIn w ao xs := by
  obtain ⟨ao, len, cap, vs, rfl, hl, hlc, hcm, hrows, hv⟩ := open_rows ht he hC (by omega) h
  have each : ∀ v ∈ vs, ∃ x : Opr, v = x.vals ∧ x.In w := by
    intro v hvm
    have hlen := hrows.each v hvm
    obtain ⟨n, hf⟩ := hv v hvm
    obtain ⟨l⟩ := fs
    simp only at hfs
    have hln : l.length = 7 := by have := congrArg List.length hfs; simpa using this
    match l, hln, hfs with
    | [f0, f1, f2, f3, f4, f5, f6], _, hfs =>
      simp only [List.map_cons, List.map_nil, List.cons.injEq, Prod.mk.injEq, and_true] at hfs
      obtain ⟨⟨t0, o0⟩, ⟨t1, o1⟩, ⟨t2, o2⟩, ⟨t3, o3⟩, ⟨t4, o4⟩, ⟨t5, o5⟩, ⟨t6, o6⟩⟩ := hfs
      match v, hlen with
      | [v0, v1, v2, v3, v4, v5, v6], _ =>
        obtain ⟨y0, g0⟩ := hf 0 f0 rfl
        obtain ⟨y1, g1⟩ := hf 1 f1 rfl
        obtain ⟨y2, g2⟩ := hf 2 f2 rfl
        obtain ⟨y3, g3⟩ := hf 3 f3 rfl
        obtain ⟨y4, g4⟩ := hf 4 f4 rfl
        obtain ⟨y5, g5⟩ := hf 5 f5 rfl
        obtain ⟨y6, g6⟩ := hf 6 f6 rfl
        simp only [t0, t1, t2, t3, t4, t5, t6, o0, o1, o2, o3, o4, o5, o6, ci, cs', cb, List.drop_succ_cons, List.drop_zero, List.take_succ_cons, List.take_zero] at g0 g1 g2 g3 g4 g5 g6
        obtain ⟨n0, e0, _, w0⟩ := DataW.trod_int hi g0
        obtain ⟨n1, e1, _, w1⟩ := DataW.trod_int hi g1
        obtain ⟨n2, e2, _, w2⟩ := DataW.trod_int hi g2
        obtain ⟨n3, e3, _, w3⟩ := DataW.trod_int hi g3
        obtain ⟨ko, kc, key, e4, l4, m4, q4⟩ := open_bytes hs hy cy g4
        obtain ⟨bo, bc, b, e5, l5, m5, q5⟩ := open_bytes hs hy cy g5
        obtain ⟨s, e6, _, m6⟩ := DataW.trod_string hb g6
        simp only [List.cons.injEq, and_true] at e0 e1 e2 e3 e4 e5 e6
        refine ⟨⟨⟨n0, n1, n2, n3, key, b, s.data.toList⟩, ko, kc, bo, bc⟩, ?_, ⟨fit_of_wf w0, fit_of_wf w1, fit_of_wf w2, fit_of_wf w3, q4, q5, ⟨l4, m4⟩, ⟨l5, m5⟩, ?_⟩⟩
        · simp only [Opr.vals, e0, e1, e2, e3, e4, e5, e6, str]
        · simpa using m6
  have : ∃ xs : List Opr, vs = xs.map Opr.vals ∧ ∀ x ∈ xs, x.In w := by
    clear hrows hv hl h
    induction vs with
    | nil => exact ⟨[], rfl, by simp⟩
    | cons v vs ih =>
      obtain ⟨x, rfl, hx⟩ := each v (by simp)
      obtain ⟨xs, rfl, hxs⟩ := ih (fun u hu => each u (List.mem_cons_of_mem _ hu))
      refine ⟨x :: xs, rfl, fun y hy => ?_⟩
      rcases List.mem_cons.1 hy with rfl | hy
      · exact hx
      · exact hxs y hy
  obtain ⟨xs, rfl, hxs⟩ := this
  rw [List.length_map] at hl
  subst hl
  exact ⟨ao, cap, xs, rfl, hlc, hcm, hrows, hxs⟩

/-- What is told of a command, in memory. -/
structure Oute where
  e : Int
  n : Int
  bo : Option Addr
  bc : Nat
  b : List UInt8

def Oute.vals (x : Oute) : List Value := [.int .i64 x.e, .int .i64 x.n, .slice x.bo x.b.length x.bc]
def Oute.bytes (x : Oute) : List UInt8 := tellB x.e x.n x.b

structure Oute.In (w : World) (x : Oute) : Prop where
  e : Fit x.e
  n : Fit x.n
  b : Lies w x.bo (x.b.map B)
  bc : x.b.length ≤ x.bc ∧ x.bc ≤ maxLen

theorem Oute.In.below {w w' : World} {x : Oute} (h : x.In w) (hb : Below w.heap.size w w') : x.In w' := ⟨h.e, h.n, h.b.below hb, h.bc⟩
theorem Oute.vals_length (x : Oute) : x.vals.length = 3 := rfl
theorem Oute.vals_one (x : Oute) : ∀ v ∈ x.vals, v.oneCell' = true := by
  intro v hv
  simp only [Oute.vals, List.mem_cons, List.not_mem_nil, or_false] at hv
  rcases hv with rfl | rfl | rfl <;> rfl

structure OutsIn (w : World) (ao : Option Addr) (xs : List Oute) : Prop where
  rows : VRows 3 w ao (xs.map Oute.vals)
  each : ∀ x ∈ xs, x.In w
theorem OutsIn.below {w w' : World} {ao : Option Addr} {xs : List Oute} (h : OutsIn w ao xs) (hb : Below w.heap.size w w') : OutsIn w' ao xs :=
  ⟨h.rows.below hb, fun x hx => (h.each x hx).below hb⟩
theorem OutsIn.at {w : World} {ao : Option Addr} {xs : List Oute} (h : OutsIn w ao xs) {i : Nat} {x : Oute} (hi : xs[i]? = some x) :
    x.In w ∧ ∃ b off, ao = some ⟨b, off, none⟩ ∧ b < w.heap.size ∧ w.rangeAt b (off + i * 3) x.vals :=
  ⟨h.each x (List.mem_of_getElem? hi), h.rows.range (by omega) (by simp [hi])⟩

theorem open_outs {H : Type} {enc : TypeId × Value → H} {P : Program} {w : World} {base : Nat} {spare : Nat → Bool} {held : Bool} {t e ti ts ty : TypeId} {fs : Array Field} {fuel : Nat} {cs : List Value} {x : DataW H × List MemPlace}
    (ht : P.underlying t = some (.slice e)) (he : P.underlying e = some (.struct fs)) (hC : P.cellsOf e = 3) (hfs : fs.toList.map (fun f => (f.type, f.offset)) = [(ti, 0), (ti, 1), (ts, 2)])
    (hi : P.underlying ti = some (.int .i64)) (hs : P.underlying ts = some (.slice ty)) (hy : P.underlying ty = some (.int .u8))
    (ci : P.cellsOf ti = 1) (cs' : P.cellsOf ts = 1) (cy : P.cellsOf ty = 1)
    (h : DataW.trod enc P w base spare held fuel t cs = some x) :
    ∃ (ao : Option Addr) (cap : Nat) (xs : List Oute), cs = [.slice ao xs.length cap] ∧ xs.length ≤ cap ∧ cap ≤ maxLen ∧ OutsIn w ao xs := by
  obtain ⟨ao, len, cap, vs, rfl, hl, hlc, hcm, hrows, hv⟩ := open_rows ht he hC (by omega) h
  have each : ∀ v ∈ vs, ∃ x : Oute, v = x.vals ∧ x.In w := by
    intro v hvm
    have hlen := hrows.each v hvm
    obtain ⟨n, hf⟩ := hv v hvm
    obtain ⟨l⟩ := fs
    simp only at hfs
    have hln : l.length = 3 := by have := congrArg List.length hfs; simpa using this
    match l, hln, hfs with
    | [f0, f1, f2], _, hfs =>
      simp only [List.map_cons, List.map_nil, List.cons.injEq, Prod.mk.injEq, and_true] at hfs
      obtain ⟨⟨t0, o0⟩, ⟨t1, o1⟩, ⟨t2, o2⟩⟩ := hfs
      match v, hlen with
      | [v0, v1, v2], _ =>
        obtain ⟨y0, g0⟩ := hf 0 f0 rfl
        obtain ⟨y1, g1⟩ := hf 1 f1 rfl
        obtain ⟨y2, g2⟩ := hf 2 f2 rfl
        simp only [t0, t1, t2, o0, o1, o2, ci, cs', List.drop_succ_cons, List.drop_zero, List.take_succ_cons, List.take_zero] at g0 g1 g2
        obtain ⟨n0, e0, _, w0⟩ := DataW.trod_int hi g0
        obtain ⟨n1, e1, _, w1⟩ := DataW.trod_int hi g1
        obtain ⟨bo, bc, b, e2, l5, m5, q5⟩ := open_bytes hs hy cy g2
        simp only [List.cons.injEq, and_true] at e0 e1 e2
        refine ⟨⟨n0, n1, bo, bc, b⟩, ?_, ⟨fit_of_wf w0, fit_of_wf w1, q5, ⟨l5, m5⟩⟩⟩
        simp only [Oute.vals, e0, e1, e2]
  have : ∃ xs : List Oute, vs = xs.map Oute.vals ∧ ∀ x ∈ xs, x.In w := by
    clear hrows hv hl h
    induction vs with
    | nil => exact ⟨[], rfl, by simp⟩
    | cons v vs ih =>
      obtain ⟨x, rfl, hx⟩ := each v (by simp)
      obtain ⟨xs, rfl, hxs⟩ := ih (fun u hu => each u (List.mem_cons_of_mem _ hu))
      refine ⟨x :: xs, rfl, fun y hy => ?_⟩
      rcases List.mem_cons.1 hy with rfl | hy
      · exact hx
      · exact hxs y hy
  obtain ⟨xs, rfl, hxs⟩ := this
  rw [List.length_map] at hl
  subst hl
  exact ⟨ao, cap, xs, rfl, hlc, hcm, hrows, hxs⟩

end Go.Reel
