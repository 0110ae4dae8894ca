/-
  Texts of this claim, one behind the other: RegionR Kind0.
-/
import Derived.OrdersHeld
import Derived.Deep.RegionHeld3
import Derived.WalkKit
import Derived.Deep.QuietTactic
import Derived.BigQuiet
/-
  A region that draws its order, walked ONCE: what only computes or reads is taken as soon as it may come up, if it yields the same in every later world; what changes the world comes up alone. No program.
-/
namespace Go
open Go.RowKit

/-- What a later world keeps: all blocks that there are. -/
def Later (w w' : World) : Prop := Below w.heap.size w w'
theorem Later.refl (w : World) : Later w w := Below.refl _ _
theorem Later.trans {a b c : World} (h : Later a b) (k : Later b c) : Later a c := Below.trans h (Below.mono k h.size)

theorem RowKit.Below.later {B : Nat} {w w1 w' : World} (h : Below B w w1) (hB : B ≤ w.heap.size) (k : Later w1 w') : Below B w w' := h.trans (Below.mono k (Nat.le_trans hB h.size))
theorem RowKit.Below.laterD {B : Nat} {w w1 w' : World} (h : Below B w w1) (hB : B ≤ w.heap.size) (k : Later w1.drew w') : Below B w w' := h.drew.trans (Below.mono k (Nat.le_trans hB h.size))

/-- The kinds of operations: 0: it computes, or reads; 1: it makes memory, or is a call; 2: it may change what there is. -/
def Oper.kindR (o : Oper) : Nat :=
  match o.op with
  | .move _ | .assign _ | .pick .. | .load .. | .nilCheck _ | .binOp .. | .unOp .. | .fieldAddr .. | .field .. | .indexAddr .. | .index .. | .extract .. | .slice .. | .makeFunc .. | .makeInterface .. | .build .. | .typeAssert .. => 0
  | .convert .. | .sliceToArrayPointer .. => 0
  | .call c => match c.callee with
    | .builtin .len | .builtin .cap | .builtin .real | .builtin .imag | .builtin .complex | .builtin .min | .builtin .max => 0
    | .builtin .append | .builtin .copy => 2
    | .builtin _ => 2
    | _ => 1
  | .alloc _ | .box .. | .buildSlice .. | .makeSlice .. => 1
  | _ => 2

section
variable {P : Program} {ops : Array Oper} {Q : Exit → Act → World → Prop} {md : Region.Mode}

/-- Whatever order is picked; behind each operation that is not of kind 2 the world is a later one. -/
def wpAnyR (P : Program) (md : Region.Mode) (ops : Array Oper) (Q : Exit → Act → World → Prop) : Nat → Array Bool → Act → World → Prop
  | 0, listed, a, w => Region.ready md ops listed = [] ∧ Q .normal a w
  | fuel + 1, listed, a, w =>
    (Region.ready md ops listed = [] → Q .normal a w) ∧
    ∀ i ∈ Region.ready md ops listed, wpOp P ops Q i (fun a' w' => ((ops[i]?).map Oper.kindR ≠ some 2 → Later w w') ∧ wpAnyR P md ops Q fuel (listed.setIfInBounds i true) a' w') a w

theorem wpAny_of_R : ∀ (fuel : Nat) (listed : Array Bool) (a : Act) (w : World), wpAnyR P md ops Q fuel listed a w → wpAny P md ops Q fuel listed a w
  | 0, _, _, _, h => h
  | fuel + 1, _, _, _, h => ⟨h.1, fun i hi => wpOp_mono (fun a' w' h' => wpAny_of_R fuel _ a' w' h'.2) (h.2 i hi)⟩

theorem YieldsIf.later {o : Oper} {v : Value} {a : Act} {w w' : World} (h : YieldsIf P ops (Later w) o v a) (hw : Later w w') : YieldsIf P ops (Later w') o v a :=
  h.imp (fun ⟨h1, h2⟩ => ⟨h1, fun x hx => h2 x (hw.trans hx)⟩) id

theorem wpAnyR_first {i : Nat} {oi : Oper} {v : Value} (hi : ops[i]? = some oi) (hsel : ∀ (j : Nat) (o : Oper) cs b, ops[j]? = some o → o.op ≠ .select cs b)
    (hQ : ∀ c a w, Q (.panic c) (a.put oi.dst v) w → Q (.panic c) a w) (D : Nat → Bool) (hDi : D i = false)
    (hD : ∀ d, D d = true → ∃ od, ops[d]? = some od ∧ ∃ e ∈ od.after, Region.binds md e = true ∧ (e.on = i ∨ D e.on = true)) :
    ∀ (fuel : Nat) (listed : Array Bool) (a : Act) (w : World),
      (∀ d, D d = true → listed.getD d true = false) →
      (∀ j oj, ops[j]? = some oj → j ≠ i → listed.getD j true = false → D j = false → oi.apart ops oj = true ∧ oj.kindR ≠ 2) →
      i ∈ Region.ready md ops listed → YieldsIf P ops (Later w) oi v a →
      wpAnyR P md ops Q fuel (listed.setIfInBounds i true) (a.put oi.dst v) w → wpAnyR P md ops Q (fuel + 1) listed a w := by
  intro fuel
  induction fuel with
  | zero =>
    intro listed a w _ _ hr hy H
    refine ⟨fun h => (by rw [h] at hr; cases hr), fun j hj => ?_⟩
    by_cases hji : j = i
    · subst hji; exact hy.wpOp hi (Later.refl w) ⟨fun _ => Later.refl w, H⟩
    · have := ready_mono hj hji
      rw [H.1] at this
      cases this
  | succ fuel ih =>
    intro listed a w hun hfree hr hy H
    refine ⟨fun h => (by rw [h] at hr; cases hr), fun j hj => ?_⟩
    by_cases hji : j = i
    · subst hji; exact hy.wpOp hi (Later.refl w) ⟨fun _ => Later.refl w, H⟩
    · have h1 := H.2 j (ready_mono hj hji)
      obtain ⟨hjun, oj, hoj, hall⟩ := mem_ready.1 hj
      have hget : ∀ k, listed.getD k true = false → (listed[k]?).getD true = false := fun k hk => by
        rcases Nat.lt_or_ge k listed.size with h' | h'
        · simpa [Array.getD, h'] using hk
        · simp [Array.getD, Nat.not_lt.2 h'] at hk
      have hDj : D j = false := by
        cases hdj : D j with
        | false => rfl
        | true =>
          obtain ⟨od, hod, e, he, hb, hon⟩ := hD j hdj
          rw [hoj] at hod
          cases hod
          have h1 := hall e he hb
          have h0 : listed.getD e.on true = false := by
            rcases hon with h | h
            · rw [h]; exact (mem_ready.1 hr).1
            · exact hun _ h
          rcases Nat.lt_or_ge e.on listed.size with h' | h'
          · simp [h'] at h0 h1; rw [h0] at h1; cases h1
          · simp [Array.getElem?_eq_none h'] at h1
      have hfj := hfree j oj hoj hji hjun hDj
      have hkj : (ops[j]?).map Oper.kindR ≠ some 2 := by rw [hoj]; simpa using hfj.2
      have h2 := wpOp_putIf hoj hfj.1 (fun cs b => hsel i oi cs b hi) (fun cs b => hsel j oj cs b hoj) hQ hy h1
      have hun' : ∀ d, D d = true → (listed.setIfInBounds j true).getD d true = false := fun d hd => by
        have hne : j ≠ d := by rintro rfl; rw [hDj] at hd; cases hd
        rw [getD_set_ne true hne]
        exact hun d hd
      have hfree' : ∀ k ok, ops[k]? = some ok → k ≠ i → (listed.setIfInBounds j true).getD k true = false →
          D k = false → oi.apart ops ok = true ∧ ok.kindR ≠ 2 := fun k ok hk hki hun hno => by
        refine hfree k ok hk hki ?_ hno
        by_cases hjk : j = k
        · subst hjk; exact hjun
        · rw [getD_set_ne true hjk] at hun; exact hun
      refine wpOp_mono (fun a' w' h3 => ⟨h3.2.1, ih (listed.setIfInBounds j true) a' w' hun' hfree' (ready_mono hr (Ne.symm hji)) (h3.1.later (h3.2.1 hkj)) ?_⟩) h2
      rw [Array.setIfInBounds_comm _ _ hji]
      exact h3.2.2

/-- What stands behind number i: it waits for i, or for what waits for i. -/
def Region.behindR (md : Region.Mode) (ops : Array Oper) (listed : Array Bool) (i : Nat) : List Nat :=
  (List.range ops.size).foldl (fun D j => if listed.getD j true || j == i then D else match ops[j]? with
    | none => D
    | some oj => if oj.after.any (fun e => Region.binds md e && (e.on == i || D.contains e.on)) then j :: D else D) []

/-- The test on that list. -/
def Region.heldR (md : Region.Mode) (ops : Array Oper) (listed : Array Bool) (i : Nat) (oi : Oper) (D : List Nat) : Bool :=
  !D.contains i &&
  D.all (fun d => !(listed.getD d true) && match ops[d]? with
    | some od => od.after.any (fun e => Region.binds md e && (e.on == i || D.contains e.on))
    | none => false) &&
  (List.range ops.size).all fun j => j == i || listed.getD j true || D.contains j || match ops[j]? with
    | some oj => oi.apart ops oj && oj.kindR != 2
    | none => true

/-- Number i may be taken first. -/
def Region.freeR (md : Region.Mode) (ops : Array Oper) (listed : Array Bool) (i : Nat) : Bool :=
  match ops[i]? with
  | none => false
  | some oi => Region.heldR md ops listed i oi (Region.behindR md ops listed i)

theorem Region.freeR_spec {i : Nat} {oi : Oper} {listed : Array Bool} (hi : ops[i]? = some oi) (h : Region.freeR md ops listed i = true) :
    ∃ D : Nat → Bool, D i = false ∧ (∀ d, D d = true → ∃ od, ops[d]? = some od ∧ ∃ e ∈ od.after, Region.binds md e = true ∧ (e.on = i ∨ D e.on = true)) ∧
      (∀ d, D d = true → listed.getD d true = false) ∧
      (∀ j oj, ops[j]? = some oj → j ≠ i → listed.getD j true = false → D j = false → oi.apart ops oj = true ∧ oj.kindR ≠ 2) := by
  unfold Region.freeR at h
  simp only [hi] at h
  generalize Region.behindR md ops listed i = L at h
  unfold Region.heldR at h
  rw [Bool.and_eq_true, Bool.and_eq_true] at h
  obtain ⟨⟨h1, h2⟩, h3⟩ := h
  rw [List.all_eq_true] at h2 h3
  refine ⟨fun d => L.contains d, by simpa using h1, fun d hd => ?_, fun d hd => ?_, fun j oj hj hne hun hnd => ?_⟩
  · have := h2 d (by simpa using hd)
    rw [Bool.and_eq_true] at this
    cases hod : ops[d]? with
    | none => simp [hod] at this
    | some od =>
      have h4 := this.2
      simp only [hod] at h4
      obtain ⟨e, he, hb⟩ := Array.any_eq_true'.1 h4
      rw [Bool.and_eq_true, Bool.or_eq_true] at hb
      exact ⟨od, rfl, e, he, hb.1, hb.2.imp (fun h => by simpa using h) id⟩
  · have := h2 d (by simpa using hd)
    rw [Bool.and_eq_true] at this
    simpa using this.1
  · have hlt : j < ops.size := (Array.getElem?_eq_some_iff.1 hj).1
    have := h3 j (List.mem_range.2 hlt)
    have e1 : (j == i) = false := by simpa using hne
    simp only at hnd
    rw [e1, hun, hnd, Bool.false_or, Bool.false_or, Bool.false_or] at this
    simp only [hj, Bool.and_eq_true] at this
    exact ⟨this.1, by simpa using this.2⟩

/-- The order fits: what is of kind 0 may be taken first, what is not comes up alone; at the end all have come up. -/
def Region.checkR (md : Region.Mode) (ops : Array Oper) : List Nat → Array Bool → Bool
  | [], listed => Region.ready md ops listed == []
  | i :: r, listed =>
    (match ops[i]? with
     | none => false
     | some o => if o.kindR = 0 then (Region.ready md ops listed).contains i && Region.freeR md ops listed i else Region.ready md ops listed == [i]) &&
    Region.checkR md ops r (listed.setIfInBounds i true)

/-- THE WALK, in the order that is given. -/
def walkR (P : Program) (ops : Array Oper) (Q : Exit → Act → World → Prop) : List Nat → Act → World → Prop
  | [], a, w => Q .normal a w
  | i :: r, a, w =>
    match ops[i]? with
    | none => False
    | some o =>
      if Region.wanted o (yielded ops a.tmps) = true then
        (if o.kindR = 0 then ∃ v, (∀ w', Later w w' → (execOp a.eval o).run P w' = .ok (.value v) w') ∧ walkR P ops Q r (a.put o.dst v) w
         else o.wp P a w (fun a' w' => (o.kindR ≠ 2 → Later w w') ∧ walkR P ops Q r a' w') Q)
      else walkR P ops Q r (a.put o.dst undef) w

theorem wpAnyR_of_walk (hs : Region.noSelect ops = true) (hQ : ∀ c a w, ¬ Q (.panic c) a w) : ∀ (order : List Nat) (listed : Array Bool) (a : Act) (w : World),
    Region.checkR md ops order listed = true → walkR P ops Q order a w → wpAnyR P md ops Q order.length listed a w
  | [], listed, a, w, hB, h => by
    simp only [Region.checkR, beq_iff_eq] at hB
    exact ⟨hB, h⟩
  | i :: r, listed, a, w, hB, h => by
    simp only [Region.checkR, Bool.and_eq_true] at hB
    obtain ⟨hB1, hB2⟩ := hB
    cases ho : ops[i]? with
    | none => simp [ho] at hB1
    | some o =>
      simp only [ho] at hB1
      simp only [walkR, ho] at h
      by_cases hk : o.kindR = 0
      · simp only [hk, if_true, Bool.and_eq_true] at hB1 h
        by_cases hw : Region.wanted o (yielded ops a.tmps) = true
        · rw [if_pos hw] at h
          obtain ⟨v, hv, hr⟩ := h
          obtain ⟨D, hDi, hD, hDu, hDf⟩ := Region.freeR_spec ho hB1.2
          exact wpAnyR_first ho (Region.noSelect_spec hs) (fun c a w hq => absurd hq (hQ _ _ _)) D hDi hD r.length listed a w hDu hDf (by simpa using hB1.1) (.inl ⟨hw, hv⟩)
            (wpAnyR_of_walk hs hQ r _ _ _ hB2 hr)
        · rw [if_neg hw] at h
          obtain ⟨D, hDi, hD, hDu, hDf⟩ := Region.freeR_spec ho hB1.2
          exact wpAnyR_first ho (Region.noSelect_spec hs) (fun c a w hq => absurd hq (hQ _ _ _)) D hDi hD r.length listed a w hDu hDf (by simpa using hB1.1) (.inr ⟨by simpa using hw, rfl⟩)
            (wpAnyR_of_walk hs hQ r _ _ _ hB2 h)
      · simp only [hk, if_false, beq_iff_eq] at hB1 h
        refine ⟨fun h0 => (by rw [hB1] at h0; cases h0), fun j hj => ?_⟩
        rw [hB1] at hj
        obtain rfl : j = i := by simpa using hj
        unfold wpOp
        simp only [ho]
        by_cases hw : Region.wanted o (yielded ops a.tmps) = true
        · rw [if_pos hw] at h ⊢
          refine .inl (Oper.wp_mono ?_ h)
          intro a' w' h'
          refine ⟨fun hne => h'.1 (by simpa using hne), wpAnyR_of_walk hs hQ r _ _ _ hB2 h'.2⟩
        · rw [if_neg hw] at h ⊢
          exact ⟨fun _ => Later.refl w, wpAnyR_of_walk hs hQ r _ _ _ hB2 h⟩

/-- THE LAW. -/
theorem wp_region_R {id : Nat} {l : List Oper} {a : Act} {w : World} (order : List Nat) (hm : P.follows .mixedOrders = true)
    (hB : (Region.noSelect l.toArray && (order.length == l.length) && Region.checkR .any l.toArray order (Array.replicate l.length false)) = true)
    (h : ∀ w', w' = w.drew → walkR P l.toArray (NoPanic Q) order a w') : (Code.region id l.toArray true).wp P Q a w := by
  simp only [Bool.and_eq_true, beq_iff_eq] at hB
  obtain ⟨⟨hs, hl⟩, hB⟩ := hB
  refine wp_region_noPanic (wp_region_any hm (wpAny_of_R _ _ _ _ ?_))
  have := wpAnyR_of_walk (P := P) (Q := NoPanic Q) hs (fun c a w hq => hq) order _ a w.drew hB (h _ rfl)
  rw [hl] at this
  exact this

/-! The moves of the walk. -/
theorem walkR_nil {a : Act} {w : World} (h : Q .normal a w) : walkR P ops (NoPanic Q) [] a w := h

theorem walkR_yes {i : Nat} {r : List Nat} {o : Oper} {a : Act} {w : World} {v : Value} (ho : ops[i]? = some o) (hk : o.kindR = 0) (hw : Region.wanted o (yielded ops a.tmps) = true)
    (hv : ∀ w', Later w w' → (execOp a.eval o).run P w' = .ok (.value v) w') (h : ∀ K : Act → Prop, (∀ a', walkR P ops Q r a' w → K a') → K (a.put o.dst v)) : walkR P ops Q (i :: r) a w := by
  simp only [walkR, ho, hk, hw, if_true]
  exact ⟨v, hv, h _ fun _ h => h⟩

theorem walkR_no {i : Nat} {r : List Nat} {o : Oper} {a : Act} {w : World} (ho : ops[i]? = some o) (hw : Region.wanted o (yielded ops a.tmps) = false)
    (h : ∀ K : Act → Prop, (∀ a', walkR P ops Q r a' w → K a') → K (a.put o.dst undef)) : walkR P ops Q (i :: r) a w := by
  simp only [walkR, ho, hw, Bool.false_eq_true, if_false]
  exact h _ fun _ h => h

theorem walkR_call {i : Nat} {r : List Nat} {o : Oper} {a : Act} {w : World} (ho : ops[i]? = some o) (hk : o.kindR = 1) (hw : Region.wanted o (yielded ops a.tmps) = true)
    (h : ∀ K : Act → World → Prop, (∀ a' w', Later w w' → walkR P ops Q r a' w' → K a' w') → o.wp P a w K Q) : walkR P ops Q (i :: r) a w := by
  simp only [walkR, ho, hk, hw, if_true]
  exact h _ fun _ _ h1 h2 => ⟨fun _ => h1, h2⟩

theorem walkR_free {i : Nat} {r : List Nat} {o : Oper} {a : Act} {w : World} (ho : ops[i]? = some o) (hk : o.kindR = 2) (hw : Region.wanted o (yielded ops a.tmps) = true)
    (h : ∀ K : Act → World → Prop, (∀ a' w', walkR P ops Q r a' w' → K a' w') → o.wp P a w K Q) : walkR P ops Q (i :: r) a w := by
  simp only [walkR, ho, hk, hw, if_true]
  exact h _ fun _ _ h2 => ⟨fun h1 => absurd rfl h1, h2⟩

end
end Go
/-
  What only computes or reads yields a value. No program.
-/
namespace Go
open Go.RowKit

section
variable {P : Program} {ops : Array Oper} {Q : Exit → Act → World → Prop}

/-- A later world. -/
structure After (w : World) where
  val : World
  later : Later w val
/-- The class of the later worlds, in the form that the library's quiet walk sees through. -/
abbrev Afters (w : World) : World → Prop := fun w' => ∃ x : After w, w' = x.val

instance (w : World) : Nonempty (After w) := ⟨⟨w, Later.refl w⟩⟩

theorem value_bind (s : Sem Value) (w w' : World) (n : Next) (h : Sem.run P (do let x ← s; pure (Next.value x)) w = .ok n w') : ∃ u, n = .value u := by
  rw [Sem.run_bind] at h
  cases hs : s.run P w with
  | ok x w1 =>
    rw [hs] at h
    simp only [Result.andThen, Sem.run_pure] at h
    cases h
    exact ⟨x, rfl⟩
  | halt x w1 => rw [hs] at h; cases h

theorem value_of_kind0 {o : Oper} {ρ : Operand → Value} {w w' : World} {n : Next} (hk : o.kindR = 0) (h : (execOp ρ o).run P w = .ok n w') : ∃ u, n = .value u := by
  unfold Oper.kindR at hk
  unfold execOp at h
  cases hop : o.op
  case call c =>
    simp only [hop] at hk h
    cases hc : c.callee with
    | builtin b =>
      simp only [hc] at hk
      cases b <;> simp only [reduceCtorEq] at hk <;> first
        | (cases hk; done)
        | (simp only [resolve, hc, Sem.run_bind, Sem.run_pure, Result.andThen_ok, invoke, builtin] at h
           exact value_bind _ _ _ _ (by simpa only [Sem.run_bind, Sem.run_pure] using h))
    | value f => simp only [hc] at hk; cases hk
    | invoke r m => simp only [hc] at hk; cases hk
  case pick c a b =>
    simp only [hop] at h
    rw [Sem.run_bind] at h
    cases hp : (asBool (ρ c)).run P w with
    | halt x w1 => rw [hp] at h; cases h
    | ok p w1 =>
      rw [hp] at h
      simp only [Result.andThen, Sem.run_pure] at h
      cases h
      exact ⟨_, rfl⟩
  case nilCheck x =>
    simp only [hop] at h
    split at h
    all_goals try (simp [runtimePanic, goPanic] at h; done)
    all_goals try (rw [Sem.run_pure] at h; cases h; exact ⟨_, rfl⟩)
    all_goals try split at h
    all_goals try (simp [runtimePanic, goPanic] at h; done)
    all_goals try (rw [Sem.run_pure] at h; cases h; exact ⟨_, rfl⟩)
    rw [Sem.run_bind] at h
    cases hp : (program).run P w with
    | halt x w1 => rw [hp] at h; cases h
    | ok p w1 =>
      rw [hp] at h
      simp only [Result.andThen, Sem.run_bind] at h
      split at h
      · split at h
        · simp [unsupported] at h
        · simp only [Sem.run_pure] at h
          cases h
          exact ⟨_, rfl⟩
      · cases h
  all_goals
    simp only [hop] at hk h
    first
      | (cases hk; done)
      | exact value_bind _ _ _ _ h
      | (rw [Sem.run_pure] at h; cases h; exact ⟨_, rfl⟩)

theorem run_of_quietAt {C : World → Prop} {o : Oper} {a : Act} {w : World} {v : Value} (hk : o.kindR = 0) (h : o.quietAt P a C w v) : (execOp a.eval o).run P w = .ok (.value v) w := by
  unfold Oper.quietAt at h
  cases hr : (execOp a.eval o).run P w with
  | halt x w' => rw [hr] at h; exact h.elim
  | ok n w' =>
    obtain ⟨u, rfl⟩ := value_of_kind0 hk hr
    rw [hr] at h
    simp only [Oper.quietUpon] at h
    rw [h.1, h.2]

/-- One operation that only computes or reads, by the library's quiet walk. -/
theorem walkR_one {i : Nat} {r : List Nat} {o : Oper} {tl : List Oper} {a : Act} {w : World} (hd : ops.toList.drop i = o :: tl) (hk : o.kindR = 0)
    (hh : ∀ K : Act → Prop, (∀ a', walkR P ops Q r a' w → K a') → wpQuiet P ops (Afters w) K [o] a) : walkR P ops Q (i :: r) a w := by
  have h := hh (fun a' => walkR P ops Q r a' w) (fun _ h => h)
  have ho : ops[i]? = some o := by
    have := congrArg (·[0]?) hd
    simpa using this
  simp only [wpQuiet] at h
  simp only [walkR, ho, hk, if_true]
  by_cases hw : Region.wanted o (yielded ops a.tmps) = true
  · rw [if_pos hw] at h ⊢
    obtain ⟨v, hv, hn⟩ := h
    exact ⟨v, fun w' hw' => run_of_quietAt hk (hv w' ⟨⟨w', hw'⟩, rfl⟩), hn⟩
  · rw [if_neg hw] at h ⊢
    exact h

end
end Go
