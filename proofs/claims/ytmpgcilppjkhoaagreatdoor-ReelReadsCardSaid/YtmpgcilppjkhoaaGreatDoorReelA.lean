/-
  The walks of reel: a number's bytes, and whether a command can be written.
-/
import Derived.Test.YtmpgcilppjkhoaaGreatDoorOctA
import Derived.Test.YtmpgcilppjkhoaaGreatDoorReelMem
import Derived.Test.YtmpgcilppjkhoaaGreatDoorRegionK
import Derived.Lib.AppendStr
namespace Go.Reel
set_option linter.unusedSimpArgs false
set_option linter.unusedVariables false
open Go.RowKit Go.Mem Go.Ops Go.Cells Go.Oct

/-- Below the base, and in one block, all is as it was. -/
structure Keeps (base tx : Nat) (w w' : World) : Prop where
  bel : Below base w w'
  blk : w'.heap[tx]? = w.heap[tx]?
theorem Keeps.refl (base tx : Nat) (w : World) : Keeps base tx w w := ⟨Below.refl _ _, rfl⟩
theorem Keeps.trans {base tx : Nat} {a b c : World} (h : Keeps base tx a b) (k : Keeps base tx b c) : Keeps base tx a c := ⟨h.bel.trans k.bel, k.blk.trans h.blk⟩
instance (base tx : Nat) (w : World) : Nonempty (AfterK (Keeps base tx) w) := ⟨⟨w, Keeps.refl _ _ w⟩⟩
theorem Keeps.block {base tx : Nat} {w w' : World} (h : Keeps base tx w w') {vs : List Value} {ty : TypeId} (hb : Blk w tx vs ty) : Blk w' tx vs ty := h.blk.trans hb
theorem Keeps.below {base tx : Nat} {w w' : World} (h : Below w.heap.size w w') (hb : base ≤ w.heap.size) (ht : tx < w.heap.size) : Keeps base tx w w' := ⟨h.mono hb, h.block tx ht⟩

theorem own_ne' {w : World} {base n size b : Nat} {v : Value} {e ty : TypeId} {xs vs : List Value} (h : w.ownsRow base e size v n xs) (hb : Blk w b vs ty) (hne : e ≠ ty) : ∀ k, v.ownBlock = some k → k ≠ b := by
  intro k hk hkb
  subst hkb
  rcases h.2 with ⟨rfl, _⟩ | ⟨g', cap, cur, rfl, _, hg, _⟩
  · simp [Value.ownBlock] at hk
  · simp [Value.ownBlock] at hk
    subst hk
    unfold Blk at hb
    rw [hb] at hg
    simp at hg
    exact hne hg.2.symm

theorem Keeps.grown {base tx n size : Nat} {v : Value} {e ty : TypeId} {xs vs : List Value} {w w' : World} (ho : w.ownsRow base e size v n xs) (hb : Blk w tx vs ty) (hne : e ≠ ty) (hg : w.grownBy w' v.ownBlock) (hbase : base ≤ w.heap.size) : Keeps base tx w w' := by
  refine ⟨below_append (Below.refl _ _) ho hg (Nat.le_refl _) hbase, hg.block tx hb.lt ?_⟩
  intro h
  exact own_ne' ho hb hne tx h.symm rfl

theorem grown_after {w w1 w' : World} {o : Option Nat} (h : Below w.heap.size w w1) (hg : w1.grownBy w' o) : w.grownBy w' o :=
  ⟨hg.os.trans h.os, hg.tape.trans h.tape, hg.output.trans h.output, Nat.le_trans h.size hg.size, fun k hk hne => (hg.block k (Nat.lt_of_lt_of_le hk h.size) hne).trans (h.block k hk)⟩
theorem grown_below {w w1 w' : World} {o : Option Nat} (hg : w.grownBy w1 o) (h : Below w1.heap.size w1 w') : w.grownBy w' o :=
  ⟨h.os.trans hg.os, h.tape.trans hg.tape, h.output.trans hg.output, Nat.le_trans hg.size h.size, fun k hk hne => (h.block k (Nat.lt_of_lt_of_le hk hg.size)).trans (hg.block k hk hne)⟩

/-- The value owns these bytes. -/
def OwnB (e : TypeId) (w : World) (base : Nat) (v : Value) (bs : List UInt8) : Prop := w.ownsRow base e 1 v bs.length (bs.map B)

section
variable {P : Program} {e : TypeId} {w w' : World} {base : Nat} {v : Value} {bs : List UInt8}
theorem OwnB.nil (e : TypeId) (w : World) (base : Nat) : OwnB e w base (.slice none 0 0) [] := nil_owns _ _ _ _
theorem OwnB.form (h : OwnB e w base v bs) : ∃ ao cap, v = .slice ao bs.length cap ∧ bs.length ≤ cap ∧ cap ≤ maxLen ∧ Lies w ao (bs.map B) := own_form h
theorem OwnB.later (h : OwnB e w base v bs) (hb : Below w.heap.size w w') : OwnB e w' base v bs := own_below h hb
theorem OwnB.only {b : Nat} {ty : TypeId} {vs : List Value} (h : OwnB e w base v bs) (ho : Only b w w') (hb : Blk w b vs ty) (hne : e ≠ ty) : OwnB e w' base v bs := by
  refine ⟨h.1, h.2.imp id ?_⟩
  rintro ⟨g, cap, cur, hv, hg, hh, rest⟩
  refine ⟨g, cap, cur, hv, hg, ?_, rest⟩
  rw [ho.block g (own_ne' h hb hne g (by rw [hv]; rfl))]
  exact hh
theorem OwnB.grows {base tx : Nat} {ty : TypeId} {vs : List Value} (ho : OwnB e w base v bs) (hb : Blk w tx vs ty) (hne : e ≠ ty) (hg : w.grownBy w' v.ownBlock) (hbase : base ≤ w.heap.size) : Keeps base tx w w' := Keeps.grown ho hb hne hg hbase
theorem OwnB.belowGrown {B0 : Nat} {a : World} (ho : OwnB e w base v bs) (h : Below B0 a w) (hg : w.grownBy w' v.ownBlock) (hb : B0 ≤ base) (hB : B0 ≤ w.heap.size) : Below B0 a w' := below_append h ho hg hb hB
theorem OwnB.base_le (h : OwnB e w base v bs) {base' : Nat} (hb : base' ≤ base) : OwnB e w base' v bs :=
  ⟨h.1, h.2.imp id (fun ⟨g, cap, cur, a, b, c⟩ => ⟨g, cap, cur, a, Nat.le_trans hb b, c⟩)⟩

theorem OwnB.drew (h : OwnB e w base v bs) : OwnB e w.drew base v bs := h

/-- Bytes that are put together, beside a variable. -/
structure App (e ty : TypeId) (w0 : World) (tx : Nat) (xv : List Value) (w : World) (v : Value) (bs : List UInt8) : Prop where
  own : OwnB e w w0.heap.size v bs
  blk : Blk w tx xv ty
  bel : Below w0.heap.size w0 w
theorem App.drew {e ty : TypeId} {w0 w : World} {tx : Nat} {xv : List Value} {v : Value} {bs : List UInt8} (h : App e ty w0 tx xv w v bs) : App e ty w0 tx xv w.drew v bs := ⟨h.own.drew, h.blk.drew, h.bel.drew⟩
theorem App.keeps {e ty : TypeId} {w0 w w' : World} {tx : Nat} {xv : List Value} {v : Value} {bs : List UInt8} (h : App e ty w0 tx xv w v bs) (hne : e ≠ ty) (hg : w.grownBy w' v.ownBlock) : Keeps w0.heap.size tx w w' :=
  h.own.grows h.blk hne hg h.bel.size
theorem App.step {e ty : TypeId} {w0 w w' : World} {tx : Nat} {xv : List Value} {v v' : Value} {bs bs' : List UInt8} (h : App e ty w0 tx xv w v bs) (hne : e ≠ ty) (ho : OwnB e w' w0.heap.size v' bs') (hg : w.grownBy w' v.ownBlock) : App e ty w0 tx xv w' v' bs' :=
  ⟨ho, (h.keeps hne hg).block h.blk, h.own.belowGrown h.bel hg (Nat.le_refl _) h.bel.size⟩

theorem op_append_bytes {o : Oper} {a : Act} {K : Act → World → Prop} {Q : Exit → Act → World → Prop} (t : TypeId) (s x : Operand)
    (ho : o.op = .call { callee := .builtin .append, args := #[s, x], argTypes := #[t, t] }) (ht : P.underlying t = some (.slice e)) (hi : (P.info? e).map (fun i => (i.zero, i.size, i.bytes)) = some (some (.int .u8 0), 1, 1))
    (hs : a.eval s = v) (hown : OwnB e w base v bs) (ao : Option Addr) (m c : Nat) (news : List UInt8) (hx : a.eval x = .slice ao m c) (hl : news.length = m) (hlies : Lies w ao (news.map B))
    (hn : bs.length + m ≤ 1099511627776) (hbase : base ≤ w.heap.size)
    (h : ∀ v' w', OwnB e w' base v' (bs ++ news) → w.grownBy w' v.ownBlock → K (a.put o.dst v') w') : o.wp P a w K Q := by
  obtain ⟨i0, hi0, hz0, hz1, hz2⟩ := info_parts hi
  refine wp_append_any s x t ho base e i0 (.int .u8 0) 1 ht hi0 hz0 hz1 hz2 rfl v bs.length (bs.map B) hs hown ao m c (news.map B) hx (by rw [List.length_map]; exact hl) hlies (B_one _) (by unfold maxLen; omega) (by omega) hbase fun v' w' h1 h2 => ?_
  refine h v' w' ?_ h2
  unfold OwnB
  rw [List.length_append, hl, List.map_append]
  exact h1

theorem wpList_append_bytes {ops : Array Oper} {rest : List Oper} {o : Oper} {a : Act} {Q : Exit → Act → World → Prop} (hgd : o.guard = none) (t : TypeId) (s x : Operand)
    (ho : o.op = .call { callee := .builtin .append, args := #[s, x], argTypes := #[t, t] }) (ht : P.underlying t = some (.slice e)) (hi : (P.info? e).map (fun i => (i.zero, i.size, i.bytes)) = some (some (.int .u8 0), 1, 1))
    (hs : a.eval s = v) (hown : OwnB e w base v bs) (ao : Option Addr) (m c : Nat) (news : List UInt8) (hx : a.eval x = .slice ao m c) (hl : news.length = m) (hlies : Lies w ao (news.map B))
    (hn : bs.length + m ≤ 1099511627776) (hbase : base ≤ w.heap.size)
    (h : ∀ v' w', OwnB e w' base v' (bs ++ news) → w.grownBy w' v.ownBlock → wpList P ops Q rest (a.put o.dst v') w') : wpList P ops Q (o :: rest) a w :=
  wpList_plain hgd fun _ hK => op_append_bytes t s x ho ht hi hs hown ao m c news hx hl hlies hn hbase fun v' w' h2 h3 => hK _ _ (h v' w' h2 h3)

theorem op_append_str {o : Oper} {a : Act} {K : Act → World → Prop} {Q : Exit → Act → World → Prop} (t u : TypeId) (s x : Operand)
    (ho : o.op = .call { callee := .builtin .append, args := #[s, x], argTypes := #[t, u] }) (ht : P.underlying t = some (.slice e)) (hu : P.underlying u = some .string) (hi : (P.info? e).map (fun i => (i.zero, i.size, i.bytes)) = some (some (.int .u8 0), 1, 1))
    (hs : a.eval s = v) (hown : OwnB e w base v bs) (news : List UInt8) (hx : a.eval x = .string (str news))
    (hn : bs.length + news.length ≤ 1099511627776) (hbase : base ≤ w.heap.size)
    (h : ∀ v' w', OwnB e w' base v' (bs ++ news) → w.grownBy w' v.ownBlock → K (a.put o.dst v') w') : o.wp P a w K Q := by
  obtain ⟨i0, hi0, hz0, hz1, hz2⟩ := info_parts hi
  have hsz : (str news).size = news.length := by simp [str, ByteArray.size]
  obtain ⟨v', w', hr, h2, h3, _⟩ := Lib.run_append_own_string (P := P) w base t u o.type e i0 ht hu hi0 hz0 hz1 hz2 v bs.length (bs.map B) hown (str news) (by rw [hsz]; unfold maxLen; omega) (by rw [hsz]; omega) hbase
  unfold Oper.wp execOp
  simp only [ho, resolve, invoke, builtin, Sem.run_bind, Sem.run_pure, Result.andThen_ok, List.map_toArray, List.map_cons, List.map_nil, hs, hx, hr]
  refine h v' w' ?_ h3
  unfold OwnB
  rw [List.length_append, List.map_append, ← hsz]
  have : Lib.strCells (str news) = news.map B := by simp [Lib.strCells, str]
  rw [← this]
  exact h2

end

/-- An empty slice. -/
theorem wpList_build0 {P : Program} {e : TypeId} {w : World} {ops : Array Oper} {rest : List Oper} {o : Oper} {a : Act} {Q : Exit → Act → World → Prop} (hgd : o.guard = none) (t : TypeId)
    (ho : o.op = .buildSlice t 0 #[]) (ht : P.underlying t = some (.slice e)) (hi : (P.info? e).map (fun i => (i.zero, i.size, i.bytes)) = some (some (.int .u8 0), 1, 1))
    (h : ∀ w' v, OwnB e w' w.heap.size v [] → Below w.heap.size w w' → wpList P ops Q rest (a.put o.dst v) w') : wpList P ops Q (o :: rest) a w := by
  refine wpList_plain hgd fun K hK => ?_
  obtain ⟨i0, hi0, hz0, hz1, hz2⟩ := info_parts hi
  have hk := h (w.alloc (.cells #[] e)) (.slice (some ⟨w.heap.size, 0, none⟩) 0 0) ⟨by simp, .inr ⟨w.heap.size, 0, #[], rfl, Nat.le_refl _, heap_alloc_new w _, Nat.le_refl _, by simp [maxLen], rfl, rfl⟩⟩ (later_alloc w _)
  unfold Oper.wp execOp
  simp [ho, Instr.buildSlice, run_underlying ht, sizeOf, typeInfo, hi0, hz1, zeroValue, hz0, newRow]
  have e0 : Array.range 0 = #[] := by rfl
  simp only [e0, Array.map_empty]
  exact hK _ _ hk

theorem _root_.Go.Cells.Blk.wset {P : Program} {w : World} {b i : Nat} {vs : List Value} {ty' : TypeId} (h : Blk w b vs ty') {ops : Array Oper} {rest : List Oper} {op : Oper} {a : Act} {Q : Exit → Act → World → Prop} {ty : TypeId} {x y : Operand} {v : Value}
    (hgd : op.guard = none) (ho : op.op = .store ty x y) (hx : a.eval x = .pointer (some ⟨b, i, none⟩)) (hy : a.eval y = v) (hs : (P.info? ty).map (·.size) = some 1) (hv : v.cells = #[v]) (h1 : v.oneCell' = true) (hi : i < vs.length)
    (k : ∀ w', Blk w' b (vs.set i v) ty' → Only b w w' → wpList P ops Q rest (a.put op.dst undef) w') : wpList P ops Q (op :: rest) a w :=
  wpList_plain hgd fun _ hK => h.opset ho hx hy hs hv h1 hi fun w' hb hw => hK _ _ (k w' hb hw)

/-- A cut of an array's variable, up to an element. -/
theorem run_sliceAt_high {P : Program} (w : World) (t e : TypeId) (n : Nat) (ht : P.underlying t = some (.array n e)) (hs : (P.info? e).map (·.size) = some 1) (b o hi : Nat) (i : Int) (h : i = hi) (h2 : hi ≤ n) (h3 : 0 < n) :
    (Instr.sliceAt t (.pointer (some ⟨b, o, none⟩)) none (some (.int .i64 i)) none).run P w = .ok (.slice (some ⟨b, o, none⟩) hi n) w := by
  subst h
  cases hq : P.info? e with
  | none => rw [hq] at hs; cases hs
  | some x =>
    have hx : x.size = 1 := by rw [hq] at hs; simpa using hs
    have hz : (sizeOf e).run P w = .ok 1 w := by simp [sizeOf, typeInfo, hq, hx]
    have hne : n ≠ 0 := by omega
    simp [Instr.sliceAt, run_underlying ht, Instr.sureAddr, Instr.sliceBounds, Instr.sliceBound, asIntOf, hz, h2, hne, add_eq, show ¬ n < hi by omega]
    try simp [Addr.add]

end Go.Reel
namespace Go.Proofs.YtmpgcilppjkhoaaGreatDoor
open Go.RowKit Go.Mem Go.Ops Go.Cells Go.Oct Go.Reel
set_option linter.unusedSimpArgs false
set_option linter.unusedVariables false
set_option maxRecDepth 100000

theorem Tryz.infoByteR : (Tryz.prog.info? 5).map (fun i => (i.zero, i.size, i.bytes)) = some (some (.int .u8 0), 1, 1) := by kernel_rfl

set_option maxHeartbeats 1000000 in
theorem rput_ok (base : Nat) (v : Value) (bs : List UInt8) (many : Nat) (k : Int) (w : World) (hm : many ≤ 8) (hown : OwnB 5 w base v bs) (hbase : base ≤ w.heap.size) (hn : bs.length ≤ 1000000000000) :
    Calls Tryz.prog 20 #[v, .int .i64 k, .int .i64 many] w fun e w' => ∃ v', e = .returned v' ∧ OwnB 5 w' base v' (bs ++ putN k many) ∧ w.grownBy w' v.ownBlock := by
  have HOWN := Lib.hid hown
  have HL8 := Lib.hid (putLong_length (u64 k))
  have hsl := fun (w : World) (b : Nat) => run_sliceAt_high (P := Tryz.prog) w 71 5 8 Tryz.underlying71 Tryz.sizeByte b 0 many many rfl hm (by omega)
  clear hown
  go_enter Tryz.func20, Tryz.ntmps20
  go_wp2_with fail
  rw [wrap_u64]
  refine (putlong_ok (u64 k) _).mono ?_
  rintro e w1 ⟨rfl, hbel1⟩
  have HB1 := Lib.hid hbel1
  have HOWN := Lib.hid (HOWN.out.later hbel1)
  clear hbel1
  go_wp2_with (refine wpList_var 71 ((zeros 8).map B) _ rfl rfl Tryz.zero8 rfl ?_)
  intro w2 hb hbel2
  have hpw : w.heap.size ≤ w1.heap.size := HB1.out.size
  have HB1 := Lib.hid (HB1.out.trans (hbel2.mono HB1.out.size))
  have HOWN := Lib.hid (HOWN.out.later hbel2)
  have HSZ := HB1.out.size
  clear hbel2
  generalize hp : w1.heap.size = p at *
  go_wp2_with (refine hb.wstore rfl rfl rfl rfl Tryz.row8 (by rw [List.length_map]; exact zeros_length 8) (by rw [List.length_map]; exact HL8.out) (oneCell_B _) ?_)
  intro w3 hb3 ho3
  have HB1 := Lib.hid (below_only HB1.out ho3 hpw)
  have HOWN := Lib.hid (HOWN.out.only ho3 hb (by decide))
  have HB3 := Lib.hid hb3
  have HSZ := HB1.out.size
  clear hb hb3 ho3
  go_wp2_with (at_builtin; refine wpList_append_bytes rfl 24 (.tmp 11) (.tmp 13) rfl Tryz.underlying24 Tryz.infoByteR rfl HOWN.out (some ⟨p, 0, none⟩) many 8 (putN k many) rfl (putN_length k many hm) ?hl (by omega) (Nat.le_trans hbase HSZ) ?_)
  case hl =>
    have := HB3.out.lies.take many
    rw [← List.map_take] at this
    exact this
  intro v4 w4 hown4 hg4
  have HOWN4 := Lib.hid hown4
  have HG4 := Lib.hid (grown_after HB1.out hg4)
  clear hown4 hg4
  go_wp2
  go_ret
  exact ⟨_, rfl, HOWN4.out, HG4.out⟩

set_option maxHeartbeats 1000000 in
theorem rputerr_ok (base : Nat) (v : Value) (bs : List UInt8) (many : Nat) (k : Int) (w : World) (hm : many ≤ 8) (hown : OwnB 5 w base v bs) (hbase : base ≤ w.heap.size) (hn : bs.length ≤ 1000000000000) :
    Calls Tryz.prog 29 #[v, .int .i64 k, .int .i64 many] w fun e w' => ∃ v', e = .returned v' ∧ OwnB 5 w' base v' (bs ++ putN k many) ∧ w.grownBy w' v.ownBlock := by
  have HOWN := Lib.hid hown
  have HL8 := Lib.hid (putLong_length (u64 k))
  have hsl := fun (w : World) (b : Nat) => run_sliceAt_high (P := Tryz.prog) w 71 5 8 Tryz.underlying71 Tryz.sizeByte b 0 many many rfl hm (by omega)
  clear hown
  go_enter Tryz.func29, Tryz.ntmps29
  go_wp2_with fail
  rw [wrap_u64]
  refine (putlong_ok (u64 k) _).mono ?_
  rintro e w1 ⟨rfl, hbel1⟩
  have HB1 := Lib.hid hbel1
  have HOWN := Lib.hid (HOWN.out.later hbel1)
  clear hbel1
  go_wp2_with (refine wpList_var 71 ((zeros 8).map B) _ rfl rfl Tryz.zero8 rfl ?_)
  intro w2 hb hbel2
  have hpw : w.heap.size ≤ w1.heap.size := HB1.out.size
  have HB1 := Lib.hid (HB1.out.trans (hbel2.mono HB1.out.size))
  have HOWN := Lib.hid (HOWN.out.later hbel2)
  have HSZ := HB1.out.size
  clear hbel2
  generalize hp : w1.heap.size = p at *
  go_wp2_with (refine hb.wstore rfl rfl rfl rfl Tryz.row8 (by rw [List.length_map]; exact zeros_length 8) (by rw [List.length_map]; exact HL8.out) (oneCell_B _) ?_)
  intro w3 hb3 ho3
  have HB1 := Lib.hid (below_only HB1.out ho3 hpw)
  have HOWN := Lib.hid (HOWN.out.only ho3 hb (by decide))
  have HB3 := Lib.hid hb3
  have HSZ := HB1.out.size
  clear hb hb3 ho3
  go_wp2_with (at_builtin; refine wpList_append_bytes rfl 24 (.tmp 11) (.tmp 13) rfl Tryz.underlying24 Tryz.infoByteR rfl HOWN.out (some ⟨p, 0, none⟩) many 8 (putN k many) rfl (putN_length k many hm) ?hl (by omega) (Nat.le_trans hbase HSZ) ?_)
  case hl =>
    have := HB3.out.lies.take many
    rw [← List.map_take] at this
    exact this
  intro v4 w4 hown4 hg4
  have HOWN4 := Lib.hid hown4
  have HG4 := Lib.hid (grown_after HB1.out hg4)
  clear hown4 hg4
  go_wp2
  go_ret
  exact ⟨_, rfl, HOWN4.out, HG4.out⟩

theorem fits1_ok (n : Int) (b : Bool) (w : World) (hb : b = decide (0 ≤ n ∧ n < 256)) : Calls Tryz.prog 30 #[.int .i64 n, .int .i64 1] w fun e w' => e = .returned (.bool b) ∧ w = w' := by
  subst hb
  by_cases h0 : 0 ≤ n
  · have hd : decide (n ≥ 0) = true := by simpa using h0
    have he : decide (0 ≤ n ∧ n < 256) = decide (n < 256) := by simp [h0]
    rw [he]
    go_enter Tryz.func30, Tryz.ntmps30
    go_wp2
    go_ret
    exact ⟨rfl, rfl⟩
  · have hd : decide (n ≥ 0) = false := by simpa using h0
    have he : decide (0 ≤ n ∧ n < 256) = false := by simp [h0]
    rw [he]
    go_enter Tryz.func30, Tryz.ntmps30
    go_wp2
    go_ret
    exact ⟨rfl, rfl⟩

theorem fits2_ok (n : Int) (b : Bool) (w : World) (hb : b = decide (0 ≤ n ∧ n < 65536)) : Calls Tryz.prog 30 #[.int .i64 n, .int .i64 2] w fun e w' => e = .returned (.bool b) ∧ w = w' := by
  subst hb
  by_cases h0 : 0 ≤ n
  · have hd : decide (n ≥ 0) = true := by simpa using h0
    have he : decide (0 ≤ n ∧ n < 65536) = decide (n < 65536) := by simp [h0]
    rw [he]
    go_enter Tryz.func30, Tryz.ntmps30
    go_wp2
    go_ret
    exact ⟨rfl, rfl⟩
  · have hd : decide (n ≥ 0) = false := by simpa using h0
    have he : decide (0 ≤ n ∧ n < 65536) = false := by simp [h0]
    rw [he]
    go_enter Tryz.func30, Tryz.ntmps30
    go_wp2
    go_ret
    exact ⟨rfl, rfl⟩

theorem fits4_ok (n : Int) (b : Bool) (w : World) (hb : b = decide (0 ≤ n ∧ n < 4294967296)) : Calls Tryz.prog 30 #[.int .i64 n, .int .i64 4] w fun e w' => e = .returned (.bool b) ∧ w = w' := by
  subst hb
  by_cases h0 : 0 ≤ n
  · have hd : decide (n ≥ 0) = true := by simpa using h0
    have he : decide (0 ≤ n ∧ n < 4294967296) = decide (n < 4294967296) := by simp [h0]
    rw [he]
    go_enter Tryz.func30, Tryz.ntmps30
    go_wp2
    go_ret
    exact ⟨rfl, rfl⟩
  · have hd : decide (n ≥ 0) = false := by simpa using h0
    have he : decide (0 ≤ n ∧ n < 4294967296) = false := by simp [h0]
    rw [he]
    go_enter Tryz.func30, Tryz.ntmps30
    go_wp2
    go_ret
    exact ⟨rfl, rfl⟩

end Go.Proofs.YtmpgcilppjkhoaaGreatDoor
