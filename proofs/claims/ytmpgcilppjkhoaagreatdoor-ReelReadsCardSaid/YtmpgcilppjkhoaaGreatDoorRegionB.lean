/-
  A region that draws its order, walked ONCE, with changes to memory that the region made itself: what only computes or reads is taken early, if it yields the same in every world that keeps the blocks below B; all else comes up alone and keeps the blocks below B. No program.
-/
import Derived.Test.YtmpgcilppjkhoaaGreatDoorKind0
namespace Go
open Go.RowKit

section
variable {P : Program} {ops : Array Oper} {Q : Exit → Act → World → Prop} {md : Region.Mode} {B : Nat}

/-- Whatever order is picked; behind each operation the blocks below B are as they were. -/
def wpAnyB (B : Nat) (P : Program) (md : Region.Mode) (ops : Array Oper) (Q : Exit → Act → World → Prop) : Nat → Array Bool → Act → World → Prop
  | 0, listed, a, w => Region.ready md ops listed = [] ∧ Q .normal a w
  | fuel + 1, listed, a, w =>
    (Region.ready md ops listed = [] → Q .normal a w) ∧
    ∀ i ∈ Region.ready md ops listed, wpOp P ops Q i (fun a' w' => Below B w w' ∧ wpAnyB B P md ops Q fuel (listed.setIfInBounds i true) a' w') a w

theorem wpAny_of_B : ∀ (fuel : Nat) (listed : Array Bool) (a : Act) (w : World), wpAnyB B P md ops Q fuel listed a w → wpAny P md ops Q fuel listed a w
  | 0, _, _, _, h => h
  | fuel + 1, _, _, _, h => ⟨h.1, fun i hi => wpOp_mono (fun a' w' h' => wpAny_of_B fuel _ a' w' h'.2) (h.2 i hi)⟩

theorem YieldsIf.laterB {o : Oper} {v : Value} {a : Act} {w w' : World} (h : YieldsIf P ops (Below B w) o v a) (hw : Below B w w') : YieldsIf P ops (Below B w') o v a :=
  h.imp (fun ⟨h1, h2⟩ => ⟨h1, fun x hx => h2 x (hw.trans hx)⟩) id

theorem wpAnyB_first {i : Nat} {oi : Oper} {v : Value} (hi : ops[i]? = some oi) (hsel : ∀ (j : Nat) (o : Oper) cs b, ops[j]? = some o → o.op ≠ .select cs b)
    (hQ : ∀ c a w, Q (.panic c) (a.put oi.dst v) w → Q (.panic c) a w) (D : Nat → Bool) (hDi : D i = false)
    (hD : ∀ d, D d = true → ∃ od, ops[d]? = some od ∧ ∃ e ∈ od.after, Region.binds md e = true ∧ (e.on = i ∨ D e.on = true)) :
    ∀ (fuel : Nat) (listed : Array Bool) (a : Act) (w : World),
      (∀ d, D d = true → listed.getD d true = false) →
      (∀ j oj, ops[j]? = some oj → j ≠ i → listed.getD j true = false → D j = false → oi.apart ops oj = true) →
      i ∈ Region.ready md ops listed → YieldsIf P ops (Below B w) oi v a →
      wpAnyB B P md ops Q fuel (listed.setIfInBounds i true) (a.put oi.dst v) w → wpAnyB B P md ops Q (fuel + 1) listed a w := by
  intro fuel
  induction fuel with
  | zero =>
    intro listed a w _ _ hr hy H
    refine ⟨fun h => (by rw [h] at hr; cases hr), fun j hj => ?_⟩
    by_cases hji : j = i
    · subst hji; exact hy.wpOp hi (Below.refl _ w) ⟨Below.refl _ w, H⟩
    · have := ready_mono hj hji
      rw [H.1] at this
      cases this
  | succ fuel ih =>
    intro listed a w hun hfree hr hy H
    refine ⟨fun h => (by rw [h] at hr; cases hr), fun j hj => ?_⟩
    by_cases hji : j = i
    · subst hji; exact hy.wpOp hi (Below.refl _ w) ⟨Below.refl _ w, H⟩
    · have h1 := H.2 j (ready_mono hj hji)
      obtain ⟨hjun, oj, hoj, hall⟩ := mem_ready.1 hj
      have hget : ∀ k, listed.getD k true = false → (listed[k]?).getD true = false := fun k hk => by
        rcases Nat.lt_or_ge k listed.size with h' | h'
        · simpa [Array.getD, h'] using hk
        · simp [Array.getD, Nat.not_lt.2 h'] at hk
      have hDj : D j = false := by
        cases hdj : D j with
        | false => rfl
        | true =>
          obtain ⟨od, hod, e, he, hb, hon⟩ := hD j hdj
          rw [hoj] at hod
          cases hod
          have h1 := hall e he hb
          have h0 : listed.getD e.on true = false := by
            rcases hon with h | h
            · rw [h]; exact (mem_ready.1 hr).1
            · exact hun _ h
          rcases Nat.lt_or_ge e.on listed.size with h' | h'
          · simp [h'] at h0 h1; rw [h0] at h1; cases h1
          · simp [Array.getElem?_eq_none h'] at h1
      have hfj := hfree j oj hoj hji hjun hDj
      have h2 := wpOp_putIf hoj hfj (fun cs b => hsel i oi cs b hi) (fun cs b => hsel j oj cs b hoj) hQ hy h1
      have hun' : ∀ d, D d = true → (listed.setIfInBounds j true).getD d true = false := fun d hd => by
        have hne : j ≠ d := by rintro rfl; rw [hDj] at hd; cases hd
        rw [getD_set_ne true hne]
        exact hun d hd
      have hfree' : ∀ k ok, ops[k]? = some ok → k ≠ i → (listed.setIfInBounds j true).getD k true = false →
          D k = false → oi.apart ops ok = true := fun k ok hk hki hun hno => by
        refine hfree k ok hk hki ?_ hno
        by_cases hjk : j = k
        · subst hjk; exact hjun
        · rw [getD_set_ne true hjk] at hun; exact hun
      refine wpOp_mono (fun a' w' h3 => ⟨h3.2.1, ih (listed.setIfInBounds j true) a' w' hun' hfree' (ready_mono hr (Ne.symm hji)) (h3.1.laterB h3.2.1) ?_⟩) h2
      rw [Array.setIfInBounds_comm _ _ hji]
      exact h3.2.2

/-- The test on what stands behind number i. -/
def Region.heldB (md : Region.Mode) (ops : Array Oper) (listed : Array Bool) (i : Nat) (oi : Oper) (D : List Nat) : Bool :=
  !D.contains i &&
  D.all (fun d => !(listed.getD d true) && match ops[d]? with
    | some od => od.after.any (fun e => Region.binds md e && (e.on == i || D.contains e.on))
    | none => false) &&
  (List.range ops.size).all fun j => j == i || listed.getD j true || D.contains j || match ops[j]? with
    | some oj => oi.apart ops oj
    | none => true

/-- Number i may be taken first. -/
def Region.freeB (md : Region.Mode) (ops : Array Oper) (listed : Array Bool) (i : Nat) : Bool :=
  match ops[i]? with
  | none => false
  | some oi => Region.heldB md ops listed i oi (Region.behindR md ops listed i)

theorem Region.freeB_spec {i : Nat} {oi : Oper} {listed : Array Bool} (hi : ops[i]? = some oi) (h : Region.freeB md ops listed i = true) :
    ∃ D : Nat → Bool, D i = false ∧ (∀ d, D d = true → ∃ od, ops[d]? = some od ∧ ∃ e ∈ od.after, Region.binds md e = true ∧ (e.on = i ∨ D e.on = true)) ∧
      (∀ d, D d = true → listed.getD d true = false) ∧
      (∀ j oj, ops[j]? = some oj → j ≠ i → listed.getD j true = false → D j = false → oi.apart ops oj = true) := by
  unfold Region.freeB at h
  simp only [hi] at h
  generalize Region.behindR md ops listed i = L at h
  unfold Region.heldB at h
  rw [Bool.and_eq_true, Bool.and_eq_true] at h
  obtain ⟨⟨h1, h2⟩, h3⟩ := h
  rw [List.all_eq_true] at h2 h3
  refine ⟨fun d => L.contains d, by simpa using h1, fun d hd => ?_, fun d hd => ?_, fun j oj hj hne hun hnd => ?_⟩
  · have := h2 d (by simpa using hd)
    rw [Bool.and_eq_true] at this
    cases hod : ops[d]? with
    | none => simp [hod] at this
    | some od =>
      have h4 := this.2
      simp only [hod] at h4
      obtain ⟨e, he, hb⟩ := Array.any_eq_true'.1 h4
      rw [Bool.and_eq_true, Bool.or_eq_true] at hb
      exact ⟨od, rfl, e, he, hb.1, hb.2.imp (fun h => by simpa using h) id⟩
  · have := h2 d (by simpa using hd)
    rw [Bool.and_eq_true] at this
    simpa using this.1
  · have hlt : j < ops.size := (Array.getElem?_eq_some_iff.1 hj).1
    have := h3 j (List.mem_range.2 hlt)
    have e1 : (j == i) = false := by simpa using hne
    simp only at hnd
    rw [e1, hun, hnd, Bool.false_or, Bool.false_or, Bool.false_or] at this
    simpa only [hj] using this

/-- The order fits: what is taken early may be taken first, all else comes up alone; at the end all have come up. -/
def Region.checkB (md : Region.Mode) (ops : Array Oper) : List (Nat × Bool) → Array Bool → Bool
  | [], listed => Region.ready md ops listed == []
  | (i, q) :: r, listed =>
    (match ops[i]? with
     | none => false
     | some _ => if q then (Region.ready md ops listed).contains i && Region.freeB md ops listed i else Region.ready md ops listed == [i]) &&
    Region.checkB md ops r (listed.setIfInBounds i true)

/-- THE WALK, in the order that is given. -/
def walkB (B : Nat) (P : Program) (ops : Array Oper) (Q : Exit → Act → World → Prop) : List (Nat × Bool) → Act → World → Prop
  | [], a, w => Q .normal a w
  | (i, q) :: r, a, w =>
    match ops[i]? with
    | none => False
    | some o =>
      if Region.wanted o (yielded ops a.tmps) = true then
        (if q then ∃ v, (∀ w', Below B w w' → (execOp a.eval o).run P w' = .ok (.value v) w') ∧ walkB B P ops Q r (a.put o.dst v) w
         else o.wp P a w (fun a' w' => Below B w w' ∧ walkB B P ops Q r a' w') Q)
      else walkB B P ops Q r (a.put o.dst undef) w

theorem wpAnyB_of_walk (hs : Region.noSelect ops = true) (hQ : ∀ c a w, ¬ Q (.panic c) a w) : ∀ (order : List (Nat × Bool)) (listed : Array Bool) (a : Act) (w : World),
    Region.checkB md ops order listed = true → walkB B P ops Q order a w → wpAnyB B P md ops Q order.length listed a w
  | [], listed, a, w, hB, h => by
    simp only [Region.checkB, beq_iff_eq] at hB
    exact ⟨hB, h⟩
  | (i, q) :: r, listed, a, w, hB, h => by
    simp only [Region.checkB, Bool.and_eq_true] at hB
    obtain ⟨hB1, hB2⟩ := hB
    cases ho : ops[i]? with
    | none => simp [ho] at hB1
    | some o =>
      simp only [ho] at hB1
      simp only [walkB, ho] at h
      cases q with
      | true =>
        simp only [if_true, Bool.and_eq_true] at hB1 h
        by_cases hw : Region.wanted o (yielded ops a.tmps) = true
        · rw [if_pos hw] at h
          obtain ⟨v, hv, hr⟩ := h
          obtain ⟨D, hDi, hD, hDu, hDf⟩ := Region.freeB_spec ho hB1.2
          exact wpAnyB_first ho (Region.noSelect_spec hs) (fun c a w hq => absurd hq (hQ _ _ _)) D hDi hD r.length listed a w hDu hDf (by simpa using hB1.1) (.inl ⟨hw, hv⟩)
            (wpAnyB_of_walk hs hQ r _ _ _ hB2 hr)
        · rw [if_neg hw] at h
          obtain ⟨D, hDi, hD, hDu, hDf⟩ := Region.freeB_spec ho hB1.2
          exact wpAnyB_first ho (Region.noSelect_spec hs) (fun c a w hq => absurd hq (hQ _ _ _)) D hDi hD r.length listed a w hDu hDf (by simpa using hB1.1) (.inr ⟨by simpa using hw, rfl⟩)
            (wpAnyB_of_walk hs hQ r _ _ _ hB2 h)
      | false =>
        simp only [Bool.false_eq_true, if_false, beq_iff_eq] at hB1 h
        refine ⟨fun h0 => (by rw [hB1] at h0; cases h0), fun j hj => ?_⟩
        rw [hB1] at hj
        obtain rfl : j = i := by simpa using hj
        unfold wpOp
        simp only [ho]
        by_cases hw : Region.wanted o (yielded ops a.tmps) = true
        · rw [if_pos hw] at h ⊢
          refine .inl (Oper.wp_mono ?_ h)
          intro a' w' h'
          refine ⟨h'.1, wpAnyB_of_walk hs hQ r _ _ _ hB2 h'.2⟩
        · rw [if_neg hw] at h ⊢
          exact ⟨Below.refl _ w, wpAnyB_of_walk hs hQ r _ _ _ hB2 h⟩

/-- THE LAW. -/
theorem wp_region_B {id : Nat} {l : List Oper} {a : Act} {w : World} (B : Nat) (order : List (Nat × Bool)) (hm : P.follows .mixedOrders = true)
    (hB : (Region.noSelect l.toArray && (order.length == l.length) && Region.checkB .any l.toArray order (Array.replicate l.length false)) = true)
    (h : ∀ w', w' = w.drew → walkB B P l.toArray (NoPanic Q) order a w') : (Code.region id l.toArray true).wp P Q a w := by
  simp only [Bool.and_eq_true, beq_iff_eq] at hB
  obtain ⟨⟨hs, hl⟩, hB⟩ := hB
  refine wp_region_noPanic (wp_region_any hm (wpAny_of_B (B := B) _ _ _ _ ?_))
  have := wpAnyB_of_walk (B := B) (P := P) (Q := NoPanic Q) hs (fun c a w hq => hq) order _ a w.drew hB (h _ rfl)
  rw [hl] at this
  exact this

/-! The moves of the walk. -/
theorem walkB_nil {a : Act} {w : World} (h : Q .normal a w) : walkB B P ops (NoPanic Q) [] a w := h

theorem walkB_no {i : Nat} {q : Bool} {r : List (Nat × Bool)} {o : Oper} {a : Act} {w : World} (ho : ops[i]? = some o) (hw : Region.wanted o (yielded ops a.tmps) = false)
    (h : ∀ K : Act → Prop, (∀ a', walkB B P ops Q r a' w → K a') → K (a.put o.dst undef)) : walkB B P ops Q ((i, q) :: r) a w := by
  simp only [walkB, ho, hw, Bool.false_eq_true, if_false]
  exact h _ fun _ h => h

theorem walkB_free {i : Nat} {r : List (Nat × Bool)} {o : Oper} {a : Act} {w : World} (ho : ops[i]? = some o) (hw : Region.wanted o (yielded ops a.tmps) = true)
    (h : ∀ K : Act → World → Prop, (∀ a' w', Below B w w' → walkB B P ops Q r a' w' → K a' w') → o.wp P a w K Q) : walkB B P ops Q ((i, false) :: r) a w := by
  simp only [walkB, ho, hw, if_true, Bool.false_eq_true, if_false]
  exact h _ fun _ _ h1 h2 => ⟨h1, h2⟩

/-- The worlds that keep what lies below B. -/
structure AfterB (B : Nat) (w : World) where
  val : World
  below : Below B w val
instance (B : Nat) (w : World) : Nonempty (AfterB B w) := ⟨⟨w, Below.refl _ w⟩⟩
abbrev AftersB (B : Nat) (w : World) : World → Prop := fun w' => ∃ x : AfterB B w, w' = x.val

/-- One operation, taken early. -/
theorem walkB_one {i : Nat} {r : List (Nat × Bool)} {o : Oper} {tl : List Oper} {a : Act} {w : World} (hd : ops.toList.drop i = o :: tl) (hk : o.kindR = 0)
    (hh : ∀ K : Act → Prop, (∀ a', walkB B P ops Q r a' w → K a') → wpQuiet P ops (AftersB B w) K [o] a) : walkB B P ops Q ((i, true) :: r) a w := by
  have h := hh (fun a' => walkB B P ops Q r a' w) (fun _ h => h)
  have ho : ops[i]? = some o := by
    have := congrArg (·[0]?) hd
    simpa using this
  simp only [wpQuiet] at h
  simp only [walkB, ho, if_true]
  by_cases hw : Region.wanted o (yielded ops a.tmps) = true
  · rw [if_pos hw] at h ⊢
    obtain ⟨v, hv, hn⟩ := h
    exact ⟨v, fun w' hw' => run_of_quietAt hk (hv w' ⟨⟨w', hw'⟩, rfl⟩), hn⟩
  · rw [if_neg hw] at h ⊢
    exact h

/-- One operation that computes or reads, where it comes up alone. -/
theorem walkB_alone {i : Nat} {r : List (Nat × Bool)} {o : Oper} {tl : List Oper} {a : Act} {w : World} (hd : ops.toList.drop i = o :: tl) (hk : o.kindR = 0)
    (hh : ∀ K : Act → Prop, (∀ a', walkB B P ops Q r a' w → K a') → wpQuiet P ops (Afters w) K [o] a) : walkB B P ops Q ((i, false) :: r) a w := by
  have h := hh (fun a' => walkB B P ops Q r a' w) (fun _ h => h)
  have ho : ops[i]? = some o := by
    have := congrArg (·[0]?) hd
    simpa using this
  simp only [wpQuiet] at h
  simp only [walkB, ho, Bool.false_eq_true, if_false]
  by_cases hw : Region.wanted o (yielded ops a.tmps) = true
  · rw [if_pos hw] at h ⊢
    obtain ⟨v, hv, hn⟩ := h
    unfold Oper.wp
    rw [run_of_quietAt hk (hv w ⟨⟨w, Later.refl w⟩, rfl⟩), Oper.upon_value]
    exact ⟨Below.refl _ w, hn⟩
  · rw [if_neg hw] at h ⊢
    exact h

end
end Go
