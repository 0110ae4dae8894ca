/-
  Texts of this claim, one behind the other: RegionK AesD.
-/
import Derived.Test.YtbpghohkhngdfaaGreatDoorM3
import Derived.Test.YtbpghohkhngdfaaGreatDoorM7
import Derived.Deep.DeepCutAuto
import Derived.Deep.CutBlock
/-
  A region that draws its order, walked ONCE, with changes to memory that the region made itself: what only computes or reads is taken early, if it yields the same in every world that stands in the relation R to this one; all else comes up alone and keeps R, but for the operations of a list, which come up behind all that is taken early ahead of them. No program.
-/
namespace Go
open Go.RowKit

section
variable {P : Program} {ops : Array Oper} {Q : Exit → Act → World → Prop} {md : Region.Mode} {R : World → World → Prop} {brk : List Nat}

/-- Whatever order is picked; behind each operation the blocks below B are as they were. -/
def wpAnyK (R : World → World → Prop) (brk : List Nat) (P : Program) (md : Region.Mode) (ops : Array Oper) (Q : Exit → Act → World → Prop) : Nat → Array Bool → Act → World → Prop
  | 0, listed, a, w => Region.ready md ops listed = [] ∧ Q .normal a w
  | fuel + 1, listed, a, w =>
    (Region.ready md ops listed = [] → Q .normal a w) ∧
    ∀ i ∈ Region.ready md ops listed, wpOp P ops Q i (fun a' w' => (brk.contains i = false → R w w') ∧ wpAnyK R brk P md ops Q fuel (listed.setIfInBounds i true) a' w') a w

theorem wpAny_of_K : ∀ (fuel : Nat) (listed : Array Bool) (a : Act) (w : World), wpAnyK R brk P md ops Q fuel listed a w → wpAny P md ops Q fuel listed a w
  | 0, _, _, _, h => h
  | fuel + 1, _, _, _, h => ⟨h.1, fun i hi => wpOp_mono (fun a' w' h' => wpAny_of_K fuel _ a' w' h'.2) (h.2 i hi)⟩

theorem YieldsIf.laterK {o : Oper} {v : Value} {a : Act} {w w' : World} (ht : ∀ a b c, R a b → R b c → R a c) (h : YieldsIf P ops (R w) o v a) (hw : R w w') : YieldsIf P ops (R w') o v a :=
  h.imp (fun ⟨h1, h2⟩ => ⟨h1, fun x hx => h2 x (ht _ _ _ hw hx)⟩) id

theorem wpAnyK_first (hrf : ∀ a, R a a) (ht : ∀ a b c, R a b → R b c → R a c) {i : Nat} {oi : Oper} {v : Value} (hi : ops[i]? = some oi) (hsel : ∀ (j : Nat) (o : Oper) cs b, ops[j]? = some o → o.op ≠ .select cs b)
    (hQ : ∀ c a w, Q (.panic c) (a.put oi.dst v) w → Q (.panic c) a w) (D : Nat → Bool) (hDi : D i = false)
    (hD : ∀ d, D d = true → ∃ od, ops[d]? = some od ∧ ∃ e ∈ od.after, Region.binds md e = true ∧ (e.on = i ∨ D e.on = true)) :
    ∀ (fuel : Nat) (listed : Array Bool) (a : Act) (w : World),
      (∀ d, D d = true → listed.getD d true = false) →
      (∀ j oj, ops[j]? = some oj → j ≠ i → listed.getD j true = false → D j = false → oi.apart ops oj = true ∧ brk.contains j = false) →
      i ∈ Region.ready md ops listed → YieldsIf P ops (R w) oi v a →
      wpAnyK R brk P md ops Q fuel (listed.setIfInBounds i true) (a.put oi.dst v) w → wpAnyK R brk P md ops Q (fuel + 1) listed a w := by
  intro fuel
  induction fuel with
  | zero =>
    intro listed a w _ _ hr hy H
    refine ⟨fun h => (by rw [h] at hr; cases hr), fun j hj => ?_⟩
    by_cases hji : j = i
    · subst hji; exact hy.wpOp hi (hrf w) ⟨fun _ => hrf w, H⟩
    · have := ready_mono hj hji
      rw [H.1] at this
      cases this
  | succ fuel ih =>
    intro listed a w hun hfree hr hy H
    refine ⟨fun h => (by rw [h] at hr; cases hr), fun j hj => ?_⟩
    by_cases hji : j = i
    · subst hji; exact hy.wpOp hi (hrf w) ⟨fun _ => hrf w, H⟩
    · have h1 := H.2 j (ready_mono hj hji)
      obtain ⟨hjun, oj, hoj, hall⟩ := mem_ready.1 hj
      have hget : ∀ k, listed.getD k true = false → (listed[k]?).getD true = false := fun k hk => by
        rcases Nat.lt_or_ge k listed.size with h' | h'
        · simpa [Array.getD, h'] using hk
        · simp [Array.getD, Nat.not_lt.2 h'] at hk
      have hDj : D j = false := by
        cases hdj : D j with
        | false => rfl
        | true =>
          obtain ⟨od, hod, e, he, hb, hon⟩ := hD j hdj
          rw [hoj] at hod
          cases hod
          have h1 := hall e he hb
          have h0 : listed.getD e.on true = false := by
            rcases hon with h | h
            · rw [h]; exact (mem_ready.1 hr).1
            · exact hun _ h
          rcases Nat.lt_or_ge e.on listed.size with h' | h'
          · simp [h'] at h0 h1; rw [h0] at h1; cases h1
          · simp [Array.getElem?_eq_none h'] at h1
      have hfj := hfree j oj hoj hji hjun hDj
      have h2 := wpOp_putIf hoj hfj.1 (fun cs b => hsel i oi cs b hi) (fun cs b => hsel j oj cs b hoj) hQ hy h1
      have hun' : ∀ d, D d = true → (listed.setIfInBounds j true).getD d true = false := fun d hd => by
        have hne : j ≠ d := by rintro rfl; rw [hDj] at hd; cases hd
        rw [getD_set_ne true hne]
        exact hun d hd
      have hfree' : ∀ k ok, ops[k]? = some ok → k ≠ i → (listed.setIfInBounds j true).getD k true = false →
          D k = false → oi.apart ops ok = true ∧ brk.contains k = false := fun k ok hk hki hun hno => by
        refine hfree k ok hk hki ?_ hno
        by_cases hjk : j = k
        · subst hjk; exact hjun
        · rw [getD_set_ne true hjk] at hun; exact hun
      refine wpOp_mono (fun a' w' h3 => ⟨h3.2.1, ih (listed.setIfInBounds j true) a' w' hun' hfree' (ready_mono hr (Ne.symm hji)) (YieldsIf.laterK ht h3.1 (h3.2.1 hfj.2)) ?_⟩) h2
      rw [Array.setIfInBounds_comm _ _ hji]
      exact h3.2.2

/-- The test on what stands behind number i. -/
def Region.heldK (brk : List Nat) (md : Region.Mode) (ops : Array Oper) (listed : Array Bool) (i : Nat) (oi : Oper) (D : List Nat) : Bool :=
  !D.contains i &&
  D.all (fun d => !(listed.getD d true) && match ops[d]? with
    | some od => od.after.any (fun e => Region.binds md e && (e.on == i || D.contains e.on))
    | none => false) &&
  (List.range ops.size).all fun j => j == i || listed.getD j true || D.contains j || match ops[j]? with
    | some oj => oi.apart ops oj && !brk.contains j
    | none => true

/-- Number i may be taken first. -/
def Region.freeK (brk : List Nat) (md : Region.Mode) (ops : Array Oper) (listed : Array Bool) (i : Nat) : Bool :=
  match ops[i]? with
  | none => false
  | some oi => Region.heldK brk md ops listed i oi (Region.behindR md ops listed i)

theorem Region.freeK_spec {i : Nat} {oi : Oper} {listed : Array Bool} (hi : ops[i]? = some oi) (h : Region.freeK brk md ops listed i = true) :
    ∃ D : Nat → Bool, D i = false ∧ (∀ d, D d = true → ∃ od, ops[d]? = some od ∧ ∃ e ∈ od.after, Region.binds md e = true ∧ (e.on = i ∨ D e.on = true)) ∧
      (∀ d, D d = true → listed.getD d true = false) ∧
      (∀ j oj, ops[j]? = some oj → j ≠ i → listed.getD j true = false → D j = false → oi.apart ops oj = true ∧ brk.contains j = false) := by
  unfold Region.freeK at h
  simp only [hi] at h
  generalize Region.behindR md ops listed i = L at h
  unfold Region.heldK at h
  rw [Bool.and_eq_true, Bool.and_eq_true] at h
  obtain ⟨⟨h1, h2⟩, h3⟩ := h
  rw [List.all_eq_true] at h2 h3
  refine ⟨fun d => L.contains d, by simpa using h1, fun d hd => ?_, fun d hd => ?_, fun j oj hj hne hun hnd => ?_⟩
  · have := h2 d (by simpa using hd)
    rw [Bool.and_eq_true] at this
    cases hod : ops[d]? with
    | none => simp [hod] at this
    | some od =>
      have h4 := this.2
      simp only [hod] at h4
      obtain ⟨e, he, hb⟩ := Array.any_eq_true'.1 h4
      rw [Bool.and_eq_true, Bool.or_eq_true] at hb
      exact ⟨od, rfl, e, he, hb.1, hb.2.imp (fun h => by simpa using h) id⟩
  · have := h2 d (by simpa using hd)
    rw [Bool.and_eq_true] at this
    simpa using this.1
  · have hlt : j < ops.size := (Array.getElem?_eq_some_iff.1 hj).1
    have := h3 j (List.mem_range.2 hlt)
    have e1 : (j == i) = false := by simpa using hne
    simp only at hnd
    rw [e1, hun, hnd, Bool.false_or, Bool.false_or, Bool.false_or] at this
    simp only [hj, Bool.and_eq_true, Bool.not_eq_true'] at this
    exact this

/-- The order fits: what is taken early may be taken first, all else comes up alone; at the end all have come up. -/
def Region.checkK (brk : List Nat) (md : Region.Mode) (ops : Array Oper) : List (Nat × Bool) → Array Bool → Bool
  | [], listed => Region.ready md ops listed == []
  | (i, q) :: r, listed =>
    (match ops[i]? with
     | none => false
     | some _ => if q then (Region.ready md ops listed).contains i && Region.freeK brk md ops listed i else Region.ready md ops listed == [i]) &&
    Region.checkK brk md ops r (listed.setIfInBounds i true)

/-- THE WALK, in the order that is given. -/
def walkK (R : World → World → Prop) (brk : List Nat) (P : Program) (ops : Array Oper) (Q : Exit → Act → World → Prop) : List (Nat × Bool) → Act → World → Prop
  | [], a, w => Q .normal a w
  | (i, q) :: r, a, w =>
    match ops[i]? with
    | none => False
    | some o =>
      if Region.wanted o (yielded ops a.tmps) = true then
        (if q then ∃ v, (∀ w', R w w' → (execOp a.eval o).run P w' = .ok (.value v) w') ∧ walkK R brk P ops Q r (a.put o.dst v) w
         else o.wp P a w (fun a' w' => (brk.contains i = false → R w w') ∧ walkK R brk P ops Q r a' w') Q)
      else walkK R brk P ops Q r (a.put o.dst undef) w

theorem wpAnyK_of_walk (hrf : ∀ a, R a a) (ht : ∀ a b c, R a b → R b c → R a c) (hs : Region.noSelect ops = true) (hQ : ∀ c a w, ¬ Q (.panic c) a w) : ∀ (order : List (Nat × Bool)) (listed : Array Bool) (a : Act) (w : World),
    Region.checkK brk md ops order listed = true → walkK R brk P ops Q order a w → wpAnyK R brk P md ops Q order.length listed a w
  | [], listed, a, w, hB, h => by
    simp only [Region.checkK, beq_iff_eq] at hB
    exact ⟨hB, h⟩
  | (i, q) :: r, listed, a, w, hB, h => by
    simp only [Region.checkK, Bool.and_eq_true] at hB
    obtain ⟨hB1, hB2⟩ := hB
    cases ho : ops[i]? with
    | none => simp [ho] at hB1
    | some o =>
      simp only [ho] at hB1
      simp only [walkK, ho] at h
      cases q with
      | true =>
        simp only [if_true, Bool.and_eq_true] at hB1 h
        by_cases hw : Region.wanted o (yielded ops a.tmps) = true
        · rw [if_pos hw] at h
          obtain ⟨v, hv, hr⟩ := h
          obtain ⟨D, hDi, hD, hDu, hDf⟩ := Region.freeK_spec ho hB1.2
          exact wpAnyK_first hrf ht ho (Region.noSelect_spec hs) (fun c a w hq => absurd hq (hQ _ _ _)) D hDi hD r.length listed a w hDu hDf (by simpa using hB1.1) (.inl ⟨hw, hv⟩)
            (wpAnyK_of_walk hrf ht hs hQ r _ _ _ hB2 hr)
        · rw [if_neg hw] at h
          obtain ⟨D, hDi, hD, hDu, hDf⟩ := Region.freeK_spec ho hB1.2
          exact wpAnyK_first hrf ht ho (Region.noSelect_spec hs) (fun c a w hq => absurd hq (hQ _ _ _)) D hDi hD r.length listed a w hDu hDf (by simpa using hB1.1) (.inr ⟨by simpa using hw, rfl⟩)
            (wpAnyK_of_walk hrf ht hs hQ r _ _ _ hB2 h)
      | false =>
        simp only [Bool.false_eq_true, if_false, beq_iff_eq] at hB1 h
        refine ⟨fun h0 => (by rw [hB1] at h0; cases h0), fun j hj => ?_⟩
        rw [hB1] at hj
        obtain rfl : j = i := by simpa using hj
        unfold wpOp
        simp only [ho]
        by_cases hw : Region.wanted o (yielded ops a.tmps) = true
        · rw [if_pos hw] at h ⊢
          refine .inl (Oper.wp_mono ?_ h)
          intro a' w' h'
          refine ⟨h'.1, wpAnyK_of_walk hrf ht hs hQ r _ _ _ hB2 h'.2⟩
        · rw [if_neg hw] at h ⊢
          exact ⟨fun _ => hrf w, wpAnyK_of_walk hrf ht hs hQ r _ _ _ hB2 h⟩

/-- THE LAW. -/
theorem wp_region_K {id : Nat} {l : List Oper} {a : Act} {w : World} (R : World → World → Prop) (brk : List Nat) (order : List (Nat × Bool)) (hrf : ∀ a, R a a) (ht : ∀ a b c, R a b → R b c → R a c) (hm : P.follows .mixedOrders = true)
    (hB : (Region.noSelect l.toArray && (order.length == l.length) && Region.checkK brk .any l.toArray order (Array.replicate l.length false)) = true)
    (h : ∀ w', w' = w.drew → walkK R brk P l.toArray (NoPanic Q) order a w') : (Code.region id l.toArray true).wp P Q a w := by
  simp only [Bool.and_eq_true, beq_iff_eq] at hB
  obtain ⟨⟨hs, hl⟩, hB⟩ := hB
  refine wp_region_noPanic (wp_region_any hm (wpAny_of_K (R := R) (brk := brk) _ _ _ _ ?_))
  have := wpAnyK_of_walk (R := R) (brk := brk) (P := P) (Q := NoPanic Q) hrf ht hs (fun c a w hq => hq) order _ a w.drew hB (h _ rfl)
  rw [hl] at this
  exact this

/-! The moves of the walk. -/
theorem walkK_nil {a : Act} {w : World} (h : Q .normal a w) : walkK R brk P ops (NoPanic Q) [] a w := h

theorem walkK_no {i : Nat} {q : Bool} {r : List (Nat × Bool)} {o : Oper} {a : Act} {w : World} (ho : ops[i]? = some o) (hw : Region.wanted o (yielded ops a.tmps) = false)
    (h : ∀ K : Act → Prop, (∀ a', walkK R brk P ops Q r a' w → K a') → K (a.put o.dst undef)) : walkK R brk P ops Q ((i, q) :: r) a w := by
  simp only [walkK, ho, hw, Bool.false_eq_true, if_false]
  exact h _ fun _ h => h

theorem walkK_free {i : Nat} {r : List (Nat × Bool)} {o : Oper} {a : Act} {w : World} (ho : ops[i]? = some o) (hw : Region.wanted o (yielded ops a.tmps) = true)
    (h : ∀ K : Act → World → Prop, (∀ a' w', (brk.contains i = false → R w w') → walkK R brk P ops Q r a' w' → K a' w') → o.wp P a w K Q) : walkK R brk P ops Q ((i, false) :: r) a w := by
  simp only [walkK, ho, hw, if_true, Bool.false_eq_true, if_false]
  exact h _ fun _ _ h1 h2 => ⟨h1, h2⟩

/-- The worlds that stand in the relation. -/
structure AfterK (R : World → World → Prop) (w : World) where
  val : World
  rel : R w val
instance (B : Nat) (w : World) : Nonempty (AfterK (Below B) w) := ⟨⟨w, Below.refl _ w⟩⟩
abbrev AftersK (R : World → World → Prop) (w : World) : World → Prop := fun w' => ∃ x : AfterK R w, w' = x.val

/-- One operation, taken early. -/
theorem walkK_one {i : Nat} {r : List (Nat × Bool)} {o : Oper} {tl : List Oper} {a : Act} {w : World} (hd : ops.toList.drop i = o :: tl) (hk : o.kindR = 0)
    (hh : ∀ K : Act → Prop, (∀ a', walkK R brk P ops Q r a' w → K a') → wpQuiet P ops (AftersK R w) K [o] a) : walkK R brk P ops Q ((i, true) :: r) a w := by
  have h := hh (fun a' => walkK R brk P ops Q r a' w) (fun _ h => h)
  have ho : ops[i]? = some o := by
    have := congrArg (·[0]?) hd
    simpa using this
  simp only [wpQuiet] at h
  simp only [walkK, ho, if_true]
  by_cases hw : Region.wanted o (yielded ops a.tmps) = true
  · rw [if_pos hw] at h ⊢
    obtain ⟨v, hv, hn⟩ := h
    exact ⟨v, fun w' hw' => run_of_quietAt hk (hv w' ⟨⟨w', hw'⟩, rfl⟩), hn⟩
  · rw [if_neg hw] at h ⊢
    exact h

/-- One operation that computes or reads, where it comes up alone. -/
theorem walkK_alone (hrf : ∀ a, R a a) {i : Nat} {r : List (Nat × Bool)} {o : Oper} {tl : List Oper} {a : Act} {w : World} (hd : ops.toList.drop i = o :: tl) (hk : o.kindR = 0)
    (hh : ∀ K : Act → Prop, (∀ a', walkK R brk P ops Q r a' w → K a') → wpQuiet P ops (Afters w) K [o] a) : walkK R brk P ops Q ((i, false) :: r) a w := by
  have h := hh (fun a' => walkK R brk P ops Q r a' w) (fun _ h => h)
  have ho : ops[i]? = some o := by
    have := congrArg (·[0]?) hd
    simpa using this
  simp only [wpQuiet] at h
  simp only [walkK, ho, Bool.false_eq_true, if_false]
  by_cases hw : Region.wanted o (yielded ops a.tmps) = true
  · rw [if_pos hw] at h ⊢
    obtain ⟨v, hv, hn⟩ := h
    unfold Oper.wp
    rw [run_of_quietAt hk (hv w ⟨⟨w, Later.refl w⟩, rfl⟩), Oper.upon_value]
    exact ⟨fun _ => hrf w, hn⟩
  · rw [if_neg hw] at h ⊢
    exact h

end
end Go
/-
  The walks of aes: a key's round keys.
-/
namespace Go.Proofs.YtbpghohkhngdfaaGreatDoor
open Go.RowKit Go.Mem Go.Ops Go.Cells Go.Oct Go.Gf Go.Trn Go.Aes
set_option linter.unusedSimpArgs false
set_option linter.unusedVariables false
set_option maxRecDepth 100000
attribute [local irreducible] walkR walkP walk0 walkB

theorem Tryz.infoWord : (Tryz.prog.info? 231).map (fun i => (i.zero, i.size, i.bytes)) = some (some (.agg ((zeros 4).map B).toArray), 4, 4) := by kernel_rfl
theorem Tryz.infoBlock : (Tryz.prog.info? 52).map (fun i => (i.zero, i.size, i.bytes)) = some (some (.agg ((zeros 16).map B).toArray), 16, 16) := by kernel_rfl

theorem Tryz.sizeWord : (Tryz.prog.info? 231).map (·.size) = some 4 := by kernel_rfl
theorem Tryz.sizeRows : (Tryz.prog.info? 49).map (·.size) = some 1 := by kernel_rfl
theorem Tryz.zsWord : (Tryz.prog.info? 231).map (fun i => (i.zero, i.size)) = some (some (.agg ((zeros 4).map B).toArray), 4) := by kernel_rfl
theorem Tryz.zsBlock : (Tryz.prog.info? 52).map (fun i => (i.zero, i.size)) = some (some (.agg ((zeros 16).map B).toArray), 16) := by kernel_rfl

theorem own_only {w w' : World} {b base g n c size : Nat} {e : TypeId} {xs : List Value} (h : w.ownsRow base e size (.slice (some ⟨g, 0, none⟩) n c) n xs) (ho : Only b w w') (hne : g ≠ b) : w'.ownsRow base e size (.slice (some ⟨g, 0, none⟩) n c) n xs := by
  refine ⟨h.1, h.2.imp id ?_⟩
  rintro ⟨g', cap, cur, hv, hg, hh, rest⟩
  cases hv
  exact ⟨g, c, cur, rfl, hg, by rw [ho.block g hne]; exact hh, rest⟩

theorem own_capLe {w : World} {base g n c size : Nat} {e : TypeId} {xs : List Value} (h : w.ownsRow base e size (.slice (some ⟨g, 0, none⟩) n c) n xs) : n ≤ c ∧ c ≤ maxLen := by
  rcases h.2 with ⟨hv, _⟩ | ⟨g', cap, cur, hv, hb, hg, h1, h2, _⟩
  · cases hv
  · cases hv; exact ⟨h1, h2⟩

/-- An own row does not lie in a block of another type. -/
theorem own_ne {w : World} {base n size b : Nat} {v : Value} {e ty : TypeId} {xs vs : List Value} (h : w.ownsRow base e size v n xs) (hb : Blk w b vs ty) (hne : e ≠ ty) : ∀ k, v.ownBlock = some k → k ≠ b := by
  intro k hk hkb
  subst hkb
  rcases h.2 with ⟨rfl, _⟩ | ⟨g', cap, cur, rfl, _, hg, _⟩
  · simp [Value.ownBlock] at hk
  · simp [Value.ownBlock] at hk
    subst hk
    unfold Blk at hb
    rw [hb] at hg
    simp at hg
    exact hne hg.2.symm
theorem own_ne_own {w : World} {base base' n n' size size' : Nat} {v v' : Value} {e e' : TypeId} {xs xs' : List Value} (h : w.ownsRow base e size v n xs) (h' : w.ownsRow base' e' size' v' n' xs') (hne : e ≠ e') : ∀ k, v.ownBlock = some k → v'.ownBlock ≠ some k := by
  intro k hk hk'
  rcases h.2 with ⟨rfl, _⟩ | ⟨g, cap, cur, rfl, _, hg, _⟩
  · simp [Value.ownBlock] at hk
  rcases h'.2 with ⟨rfl, _⟩ | ⟨g', cap', cur', rfl, _, hg', _⟩
  · simp [Value.ownBlock] at hk'
  simp [Value.ownBlock] at hk hk'
  subst hk; subst hk'
  rw [hg] at hg'
  simp at hg'
  exact hne hg'.2

theorem expand_each (n : Nat) (long : Bool) (k : List UInt8) : ∀ x ∈ expand n long k, x.length = 16 := by
  intro x hx
  simp only [expand, List.mem_map, List.mem_range] at hx
  obtain ⟨i, hi, rfl⟩ := hx
  rw [flatten_length 4 _ (fun k' hk => expWords_each n long k k' (List.mem_of_mem_drop (List.mem_of_mem_take hk))), List.length_take, List.length_drop, expWords_length]
  omega

/-- The words so far. -/
def flat (ws : List (List UInt8)) : List Value := ws.flatten.map B
theorem flat_snoc (ws : List (List UInt8)) (x : List UInt8) : flat (ws ++ [x]) = flat ws ++ x.map B := by simp [flat]

theorem expand_bad (q : Nat) (ao : Option Addr) (len cap : Nat) (w : World) (h : len ≠ 32 ∧ len ≠ 16 ∧ len ≠ 24) :
    Calls Tryz.prog 115 #[.pointer (some ⟨q, 0, none⟩), .slice ao len cap] w fun e w' => e = .returned (.tuple #[.pointer none, .int .i64 2]) ∧ w = w' := by
  go_enter Tryz.func115, Tryz.ntmps115
  go_wp2_with fail
  refine wp_scope_label 0 (fun _ _ => False) (fun _ _ => 0) rfl ?_ (fun _ _ h => h.elim)
  simp only [wpPre]
  go_wp2_with fail
  refine (shape_no len _ (by omega)).mono ?_
  rintro e w1 ⟨rfl, rfl⟩
  go_wp2
  rw [Exit.jump_ret]
  go_ret2
  exact ⟨rfl, rfl⟩

/-- The frame at the label. -/
abbrev ExpFrame (q : Nat) (ao : Option Addr) (len cap n : Nat) (long : Bool) (v : Value) (pw : UInt8) (us : Nat → Value) : Act := { tmps := #[.pointer (some ⟨q, 0, none⟩), .slice ao len cap, us 2, us 3, us 4, us 5, .int .i64 n, .bool long, us 8, v, us 10, B pw, us 12, us 13, us 14, us 15, us 16, us 17, us 18, us 19, us 20, us 21, us 22, us 23, us 24, us 25, us 26, us 27, us 28, us 29, us 30, us 31, us 32, us 33, us 34, us 35, us 36, us 37, us 38, us 39, us 40, us 41, us 42, us 43, us 44, us 45, us 46, us 47, us 48, us 49, us 50, us 51, us 52, us 53, us 54, us 55, us 56, us 57, us 58, us 59, us 60, us 61, us 62, us 63, us 64, us 65, us 66, us 67, us 68, us 69, us 70, us 71, us 72, us 73, us 74, us 75, us 76, us 77, us 78, us 79, us 80, us 81, us 82, us 83, us 84, us 85, us 86, us 87, us 88, us 89, us 90, us 91, us 92, us 93, us 94, us 95, us 96, us 97, us 98, us 99, us 100, us 101, us 102, us 103, us 104, us 105, us 106, us 107, us 108, us 109, us 110, us 111, us 112, us 113, us 114, us 115, us 116, us 117, us 118, us 119, us 120, us 121, us 122, us 123, us 124, us 125, us 126, us 127, us 128, us 129, us 130, us 131, us 132, us 133], defers := [] }

/-- What stands at the label: so many words have been made. -/
def ExpAt (q p : Nat) (ao : Option Addr) (len cap : Nat) (bs : List UInt8) (n : Nat) (long : Bool) (w : World) (x : Act) (wr : World) : Prop :=
  ∃ (us : Nat → Value) (m : Nat) (v : Value) (pw : UInt8) (ws : List (List UInt8)), x = ExpFrame q ao len cap n long v pw us ∧ n ≤ m ∧ m < 4 * (n + 7) ∧ Hid (expGo n long bs (m - n) = (ws, pw)) ∧ Hid (wr.ownsRow w.heap.size 231 4 v m (flat ws)) ∧ Hid (Below w.heap.size w wr)

theorem ExpAt.intro {q p : Nat} {ao : Option Addr} {len cap : Nat} {bs : List UInt8} {n : Nat} {long : Bool} {w : World} {x : Act} {wr : World} (m : Nat) (v : Value) (pw : UInt8) (ws : List (List UInt8))
    (hx : x = ExpFrame q ao len cap n long v pw (fun i => x.tmps.getD i undef)) (h1 : n ≤ m) (h2 : m < 4 * (n + 7)) (h3 : expGo n long bs (m - n) = (ws, pw)) (h4 : wr.ownsRow w.heap.size 231 4 v m (flat ws)) (h5 : Below w.heap.size w wr) : ExpAt q p ao len cap bs n long w x wr :=
  ⟨_, m, v, pw, ws, hx, h1, h2, h3, h4, h5⟩

set_option maxHeartbeats 1000000 in
theorem expand_any (q p : Nat) (ao : Option Addr) (len cap : Nat) (bs : List UInt8) (n : Nat) (long : Bool) (w : World) (ht : Tab w q p) (hlen : bs.length = len) (hl : Lies w ao (bs.map B)) (hn : 4 ≤ n ∧ n ≤ 8) (hnl : len = 4 * n)
    (hsh : ∀ w, Calls Tryz.prog 175 #[.int .i64 len] w fun e w' => e = .returned (.tuple #[.int .i64 n, .bool long, .int .i64 0]) ∧ w = w') :
    Calls Tryz.prog 115 #[.pointer (some ⟨q, 0, none⟩), .slice ao len cap] w fun e w' => ∃ kp kb koff kcap, e = .returned (.tuple #[.pointer (some ⟨kp, 0, none⟩), .int .i64 0]) ∧ AKey w' kp q p (expand n long bs) kb koff (n + 7) kcap ∧ Below w.heap.size w w' := by
  obtain ⟨i0, hi, hz0, hz1, hz2⟩ := info_parts Tryz.infoWord
  have HI := Lib.hid (And.intro hi (And.intro hz0 (And.intro hz1 hz2)))
  have HT := Lib.hid ht
  have HLEN := Lib.hid hlen
  have HL := Lib.hid hl
  have HSH := Lib.hid hsh
  have HNL := Lib.hid hnl
  have hl32 : len ≤ 32 := by omega
  obtain ⟨hn4, hn8⟩ := hn
  clear ht hlen hl hsh hi hz0 hz1 hz2 hnl
  go_enter Tryz.func115, Tryz.ntmps115
  go_wp2_with fail
  refine wp_scope_label 0 (ExpAt q p ao len cap bs n long w) (fun x _ => 4 * (n + 7) - (match x.tmps.getD 9 undef with | .slice _ m _ => m | _ => 0)) rfl ?_ ?_
  · simp only [wpPre]
    go_wp2_with fail
    refine (HSH.out _).mono ?_
    rintro e w1 ⟨rfl, rfl⟩
    go_wp2_with (at_make; refine wpList_make_own _ rfl _ _ 230 rfl w.heap.size 231 i0 (.agg ((zeros 4).map B).toArray) 4 Tryz.underlying230 HI.out.1 HI.out.2.1 HI.out.2.2.1 _ _ _ (4 * (n + 7)) rfl rfl ?m1 ?m2 ?m3 (Nat.le_refl _) ?_)
    case m1 => simp; omega
    case m2 => rw [HI.out.2.2.2]; omega
    case m3 => unfold maxLen; omega
    intro w1 hown1 hgrow1
    have HOWN := Lib.hid hown1
    have HBEL := Lib.hid ((Below.refl w.heap.size w).grown hgrow1 (Nat.le_refl _) (fun k h => by cases h))
    clear hown1 hgrow1
    go_wp2
    go_loopw [9, 33] (fun v c wr => ∃ i : Nat, i ≤ n ∧ c = .int .i64 i ∧ wr.ownsRow w.heap.size 231 4 v i (flat ((expStart n bs).take i)) ∧ Below w.heap.size w wr) (fun _ c _ => n - (intOf c).toNat)
    case atStart => exact ⟨0, Nat.zero_le _, rfl, HOWN.out, HBEL.out⟩
    case round =>
      clear HOWN HBEL
      obtain ⟨i, hin, rfl, hown, hbel⟩ := hrel
      by_cases hlt : i < n
      · have HOWN := Lib.hid hown
        have HBEL := Lib.hid hbel
        clear hown hbel
        go_wp2_with fail
        refine (word_ok ao len cap (4 * i) bs _ HLEN.out (by omega) (by omega) (HL.out.below HBEL.out)).mono ?_
        rintro e w2 ⟨rfl, hbel2⟩
        have HOWN := Lib.hid (own_below HOWN.out hbel2)
        have HBEL := Lib.hid (HBEL.out.trans (hbel2.mono HBEL.out.size))
        clear hbel2
        go_wp2_with fail
        refine (putword_ok _ _).mono ?_
        rintro e w3 ⟨rfl, hbel3⟩
        have HOWN := Lib.hid (own_below HOWN.out hbel3)
        have HBEL := Lib.hid (HBEL.out.trans (hbel3.mono HBEL.out.size))
        clear hbel3
        have HX := Lib.hid (putWord_length (wordL bs (4 * i)))
        have HSTEP := Lib.hid (show flat ((expStart n bs).take (i + 1)) = flat ((expStart n bs).take i) ++ (putWord (wordL bs (4 * i))).map B by
          rw [← flat_snoc]
          congr 1
          rw [List.take_add_one]
          simp [expStart, hlt])
        generalize putWord (wordL bs (4 * i)) = x at *
        go_wp2_with (refine wpList_rows 230 231 4 1 _ [x.map B] rfl rfl rfl Tryz.underlying230 Tryz.zsWord rfl (by omega) rfl (by omega) (by omega) (by intro v hv; simp at hv; subst hv; rw [List.length_map]; exact HX.out) ?_)
        intro w4 hb4 hbel4
        try rw [show ([x.map B] : List (List Value)).flatten = x.map B by simp] at hb4
        have HB4 := Lib.hid hb4
        have HOWN := Lib.hid (own_below HOWN.out hbel4)
        have HBEL := Lib.hid (HBEL.out.trans (hbel4.mono HBEL.out.size))
        clear hb4 hbel4
        go_wp2_with (at_builtin; refine wpList_append_own _ rfl (.tmp 36) (.tmp 42) 230 rfl w.heap.size 231 i0 (.agg ((zeros 4).map B).toArray) 4 4 Tryz.underlying230 HI.out.1 HI.out.2.1 HI.out.2.2.1 HI.out.2.2.2 rfl (by decide) _ _ _ rfl HOWN.out ⟨w3.heap.size, 0, none⟩ 1 1 (x.map B) rfl ?c0 HB4.out.lies.news (oneCell_B x) ?c3 ?c4 HBEL.out.size ?_)
        case c0 => rw [List.length_map, HX.out]
        case c3 => unfold maxLen; omega
        case c4 => omega
        intro v5 w5 hown5 hgr5 _
        rw [← HSTEP.out] at hown5
        have hbel5 := below_append HBEL.out HOWN.out hgr5 (Nat.le_refl _) HBEL.out.size
        have HOWN5 := Lib.hid hown5
        clear hgr5 hown5
        go_wp2
        go_roundw
        case rel => exact ⟨i + 1, by omega, by go_num, HOWN5.out, hbel5⟩
        case measure => simp [intOf]; omega
      · obtain rfl : i = n := by omega
        rw [List.take_of_length_le (by simp [expStart])] at hown
        have HOWN := Lib.hid hown
        have HBEL := Lib.hid hbel
        clear hown hbel
        go_wp2
        exact ExpAt.intro i _ 1 _ rfl (by omega) (by omega) (by rw [Nat.sub_self]; rfl) HOWN.out HBEL.out
  · rintro x wr ⟨us, m, v, pw, ws, rfl, hnm, hm, HE, HO, HB⟩
    have hwl : ws.length = m := by have := expGo_length n long bs (m - n); rw [HE.out] at this; simp only at this; omega
    have hwe : ∀ y ∈ ws, y.length = 4 := by have := expGo_each n long bs (m - n); rw [HE.out] at this; exact this
    obtain ⟨g, gcap, rfl, hbg, hgl⟩ := HO.out.form (by omega)
    have hrows : RowsN 4 wr (some ⟨g, 0, none⟩) ws := ⟨hwe, Lies.of_own HO.out⟩
    obtain ⟨b1, o1, e1, _, hr1⟩ := hrows.range (by omega) (key_get (ks := ws) (i := m - 1) (by omega))
    cases e1
    rw [Nat.zero_add] at hr1
    have HR1 := Lib.hid hr1
    have HROWS := Lib.hid hrows
    have HL1 := Lib.hid (show ((key ws (m - 1)).map B).length = 4 by rw [List.length_map]; exact hwe _ (List.mem_of_getElem? (key_get (by omega))))
    have HWL := Lib.hid hwl
    have HWE := Lib.hid hwe
    clear hr1 hrows hwl hwe
    go_wp2_with (first | (refine wpList_load_mid rfl 231 (.tmp 49) rfl g ((m - 1) * 4) rfl _ _ HR1.out Tryz.underlying231 rfl (by rw [HL1.out]; exact Tryz.rowWord.2) ?_) | (refine wpList_var 231 ((zeros 4).map B) _ rfl rfl Tryz.zeroWord rfl ?_))
    intro w2 hb2 hbel2
    have HO := Lib.hid (own_below HO.out hbel2)
    have HB := Lib.hid (HB.out.trans (hbel2.mono HB.out.size))
    have hszb := HB.out.size
    have htb := hb2.lt
    clear hbel2
    generalize htbe : wr.heap.size = tb at *
    go_wp2_with (refine hb2.wstore rfl rfl rfl rfl Tryz.rowWord (by rw [List.length_map]; exact zeros_length 4) HL1.out (oneCell_B _) ?_)
    intro w3 hb3 ho3
    have HO := Lib.hid (own_only HO.out ho3 (by omega))
    have HB := Lib.hid (below_only HB.out ho3 (by omega))
    have HB3 := Lib.hid hb3
    clear hb2 hb3 ho3
    go_upto_block 2 with fail
    go_cut [11] (fun s11 wx => s11 = B (if m % n = 0 then dbl pw else pw) ∧ Hid (Blk wx tb ((turned n long m (key ws (m - 1)) pw).map B) 231) ∧ Hid (Below w.heap.size w wx) ∧ Hid (wx.ownsRow w.heap.size 231 4 (.slice (some ⟨g, 0, none⟩) m gcap) m (flat ws)))
    case first =>
      generalize hx : key ws (m - 1) = x at *
      have HXX := Lib.hid hx
      clear hx
      have hx4 : x.length = 4 := by have := HL1.out; rwa [List.length_map] at this
      obtain ⟨x0, x1, x2, x3, rfl⟩ : ∃ x0 x1 x2 x3, x = [x0, x1, x2, x3] := by
        match x, hx4 with
        | [a, b, c, d], _ => exact ⟨a, b, c, d, rfl⟩
      clear hx4
      have HTX := Lib.hid (HT.out.below HB.out (Nat.le_refl _))
      by_cases h0 : m % n = 0
      · have hd : ((m : Int) % (n : Int) == 0) = true := by rw [beq_iff_eq]; omega
        have HT1 := Lib.hid (show turned n long m [x0, x1, x2, x3] pw = (subW [x1, x2, x3, x0]).set 0 (xor8 (at8 (subW [x1, x2, x3, x0]) 0) pw) by unfold turned; rw [if_pos h0]; rfl)
        have HT2 := Lib.hid (show (if m % n = 0 then dbl pw else pw) = dbl pw by rw [if_pos h0])
        have c0 := HB3.out.cell 0 _ rfl
        have c1 := HB3.out.cell 1 _ rfl
        have c2 := HB3.out.cell 2 _ rfl
        have c3 := HB3.out.cell 3 _ rfl
        clear h0
        go_wp2_with fail
        refine (boxed_ok q p [x1, x2, x3, x0] _ HTX.out rfl).mono ?_
        rintro e w4 ⟨rfl, hbel4⟩
        have HO := Lib.hid (own_below HO.out hbel4)
        have HB := Lib.hid (HB.out.trans (hbel4.mono HB.out.size))
        have HB3 := Lib.hid (HB3.out.below hbel4 HB3.out.lt)
        clear hbel4 c0 c1 c2 c3
        have HSL := Lib.hid (subW_length [x1, x2, x3, x0])
        generalize subW [x1, x2, x3, x0] = y at *
        go_wp2_with (refine HB3.out.wstore rfl rfl rfl rfl Tryz.rowWord HL1.out (by rw [List.length_map]; exact HSL.out) (oneCell_B _) ?_)
        intro w5 hb5 ho5
        have HO := Lib.hid (own_only HO.out ho5 (by omega))
        have HB := Lib.hid (below_only HB.out ho5 (by omega))
        have HB3 := Lib.hid hb5
        clear hb5 ho5
        have c0 := HB3.out.cell 0 _ (mapB_at (at8_get (b := y) (i := 0) (by rw [HSL.out]; omega)))
        have hf := HB3.out.free 0
        go_wp2_with fail
        refine (double_ok pw _).mono ?_
        rintro e w6 ⟨rfl, rfl⟩
        have hst := HB3.out.set 0 (B (xor8 (at8 y 0) pw))
        rw [mapB_set, ← HT1.out] at hst
        have ho6 : Only tb _ _ := Only.setCell w5 ⟨tb, 0, none⟩ (B (xor8 (at8 y 0) pw))
        have HO := Lib.hid (own_only HO.out ho6 (by omega))
        have HB := Lib.hid (below_only HB.out ho6 (by omega))
        have HB3 := Lib.hid hst
        clear hst ho6 c0 hf
        go_wp2_with fail
        go_meet
        case rel => exact ⟨by rw [HT2.out], HB3, HB, HO⟩
      · have hd : ((m : Int) % (n : Int) == 0) = false := by rw [beq_eq_false_iff_ne]; omega
        have HT2 := Lib.hid (show (if m % n = 0 then dbl pw else pw) = pw by rw [if_neg h0])
        by_cases h1 : long = true ∧ m % n = 4
        · have hd1 : ((m : Int) % (n : Int) == 4) = true := by rw [beq_iff_eq]; omega
          have HT1 := Lib.hid (show turned n long m [x0, x1, x2, x3] pw = subW [x0, x1, x2, x3] by unfold turned; rw [if_neg h0, if_pos h1])
          obtain rfl := h1.1
          clear h0 h1
          go_wp2_with (refine HB3.out.wload rfl rfl rfl Tryz.rowWord HL1.out ?_)
          refine (boxed_ok q p [x0, x1, x2, x3] _ HTX.out rfl).mono ?_
          rintro e w4 ⟨rfl, hbel4⟩
          have HO := Lib.hid (own_below HO.out hbel4)
          have HB := Lib.hid (HB.out.trans (hbel4.mono HB.out.size))
          have HB3 := Lib.hid (HB3.out.below hbel4 HB3.out.lt)
          clear hbel4
          have HSL := Lib.hid (subW_length [x0, x1, x2, x3])
          generalize subW [x0, x1, x2, x3] = y at *
          go_wp2_with (refine HB3.out.wstore rfl rfl rfl rfl Tryz.rowWord HL1.out (by rw [List.length_map]; exact HSL.out) (oneCell_B _) ?_)
          intro w5 hb5 ho5
          have HO := Lib.hid (own_only HO.out ho5 (by omega))
          have HB := Lib.hid (below_only HB.out ho5 (by omega))
          rw [← HT1.out] at hb5
          have HB3 := Lib.hid hb5
          clear hb5 ho5
          go_wp2_with fail
          go_meet
          case rel => exact ⟨by rw [HT2.out], HB3, HB, HO⟩
        · have HT1 := Lib.hid (show turned n long m [x0, x1, x2, x3] pw = [x0, x1, x2, x3] by unfold turned; rw [if_neg h0, if_neg h1])
          have HB3 := Lib.hid (show Blk w3 tb ((turned n long m [x0, x1, x2, x3] pw).map B) 231 by rw [HT1.out]; exact HB3.out)
          cases long with
          | false =>
            clear h0 h1
            go_wp2_with fail
            go_meet
            case rel => exact ⟨by rw [HT2.out], HB3, HB, HO⟩
          | true =>
            have hd1 : ((m : Int) % (n : Int) == 4) = false := by rw [beq_eq_false_iff_ne]; simp at h1; omega
            clear h0 h1
            go_wp2_with fail
            go_meet
            case rel => exact ⟨by rw [HT2.out], HB3, HB, HO⟩
    case rest =>
      obtain ⟨rfl, HB3, HB, HO⟩ := hcut
      have htl := turned_length n long m (key ws (m - 1)) pw (by have := HL1.out; rwa [List.length_map] at this)
      have HGO := Lib.hid (show expGo n long bs (m + 1 - n) = (ws ++ [plusW (key ws (m - n)) (turned n long m (key ws (m - 1)) pw)], if m % n = 0 then dbl pw else pw) by
        rw [show m + 1 - n = (m - n) + 1 by omega, expGo, HE.out, expStep]
        simp only [HWL.out])
      generalize turned n long m (key ws (m - 1)) pw = tr at *
      generalize (if m % n = 0 then dbl pw else pw) = pw2 at *
      have HTL := Lib.hid htl
      have HTLM := Lib.hid (show (tr.map B).length = 4 by rw [List.length_map]; exact htl)
      clear htl
      have hnn : (m : Int) - n = ((m - n : Nat) : Int) := by omega
      have hrows : RowsN 4 wc (some ⟨g, 0, none⟩) ws := ⟨HWE.out, Lies.of_own HO.out⟩
      obtain ⟨b1, o1, e1, hlg, hr1⟩ := hrows.range (by omega) (key_get (ks := ws) (i := m - n) (by have := HWL.out; omega))
      cases e1
      rw [Nat.zero_add] at hr1
      have HRN := Lib.hid hr1
      have HLG := Lib.hid hlg
      have HKL := Lib.hid (show (key ws (m - n)).length = 4 from HWE.out _ (List.mem_of_getElem? (key_get (by have := HWL.out; omega))))
      have HKLM := Lib.hid (show ((key ws (m - n)).map B).length = 4 by rw [List.length_map]; exact HKL.out)
      generalize key ws (m - n) = x at *
      clear hr1 hlg hrows
      go_wp2_with fail
      refine wp_region_R [0, 1, 2, 3, 4, 5, 6, 7, 8, 9, 10, 11, 12] (by kernel_rfl) (by kernel_rfl) ?_
      rintro w4 rfl
      (refine walkR_one rfl rfl (fun K hK => ?_); go_big_quiet_step (fail); refine wpQuiet_nil (hK _ ?_); clear hK K); (refine walkR_one rfl rfl (fun K hK => ?_); go_big_quiet_step (fail); refine wpQuiet_nil (hK _ ?_); clear hK K); (refine walkR_one rfl rfl (fun K hK => ?_); go_big_quiet_step (fail); refine wpQuiet_nil (hK _ ?_); clear hK K); (refine walkR_one rfl rfl (fun K hK => ?_); go_big_quiet_step (fail); refine wpQuiet_nil (hK _ ?_); clear hK K); (refine walkR_one rfl rfl (fun K hK => ?_); go_big_quiet_step (fail); refine wpQuiet_nil (hK _ ?_); clear hK K); (refine walkR_one rfl rfl (fun K hK => ?_); go_big_quiet_step (fail); refine wpQuiet_nil (hK _ ?_); clear hK K); (refine walkR_one rfl rfl (fun K hK => ?_); go_big_quiet_step (fail); refine wpQuiet_nil (hK _ ?_); clear hK K)
      refine walkR_load (off := (m - n) * 4) HRN.out HLG.out Tryz.rowWord HKLM.out rfl rfl rfl rfl (fun K hK => ?_)
      go_simp; refine hK _ ?_; clear hK K
      refine walkR_load HB3.out.drew.range HB3.out.drew.lt Tryz.rowWord HTLM.out rfl rfl rfl rfl (fun K hK => ?_)
      go_simp; refine hK _ ?_; clear hK K
      refine walkR_call rfl rfl (by rfl) (fun K hK => ?_)
      go_simp
      refine (plus4_ok x tr _ HKL.out HTL.out).mono ?_
      rintro e w5 ⟨rfl, hbel5⟩
      have HO := Lib.hid (own_below (w := wc.drew) HO.out hbel5)
      have HB := Lib.hid (HB.out.drew.trans (hbel5.mono HB.out.size))
      have HXL := Lib.hid (plusW_length x tr)
      generalize plusW x tr = z at *
      go_simp
      refine hK _ _ hbel5 ?_
      clear hK K hbel5
      refine walkR_call rfl rfl (by rfl) (fun K hK => ?_)
      refine oprows 230 231 4 1 _ [z.map B] rfl rfl Tryz.underlying230 Tryz.zsWord rfl (by omega) rfl (by omega) (by omega) (by intro v hv; simp at hv; subst hv; rw [List.length_map]; exact HXL.out) ?_
      intro w6 hb6 hbel6
      refine hK _ _ hbel6 ?_
      clear hK K
      try rw [show ([z.map B] : List (List Value)).flatten = z.map B by simp] at hb6
      have HO := Lib.hid (own_below HO.out hbel6)
      have HB := Lib.hid (HB.out.trans (hbel6.mono HB.out.size))
      have HB6 := Lib.hid hb6
      clear hb6 hbel6
      go_simp
      obtain ⟨i0, hi0, hz0, hz1, hz2⟩ := info_parts Tryz.infoWord
      refine walkR_free rfl rfl (by rfl) (fun K hK => ?_)
      refine wp_append_own _ (.tmp 87) (.tmp 97) 230 rfl w.heap.size 231 i0 (.agg ((zeros 4).map B).toArray) 4 4 Tryz.underlying230 hi0 hz0 hz1 hz2 rfl (by decide) _ _ _ rfl HO.out ⟨w5.heap.size, 0, none⟩ 1 1 (z.map B) rfl (by rw [List.length_map]; exact HXL.out) HB6.out.lies.news (oneCell_B z) (by unfold maxLen; omega) (by omega) HB.out.size ?_
      intro v7 w7 hown7 hgr7 _
      refine hK _ _ ?_
      clear hK K
      rw [← flat_snoc] at hown7
      have hbel7 := below_append HB.out HO.out hgr7 (Nat.le_refl _) HB.out.size
      have HO := Lib.hid hown7
      have HB := Lib.hid hbel7
      clear hown7 hbel7 hgr7 hi0 hz0 hz1 hz2
      go_simp
      repeat (refine walkR_one rfl rfl (fun K hK => ?_); go_big_quiet_step (fail); refine wpQuiet_nil (hK _ ?_); clear hK K)
      refine walkR_nil ?_
      obtain ⟨g7, gcap7, rfl, hbg7, hgl7⟩ := HO.out.form (by omega)
      by_cases hlast : m + 1 < 4 * (n + 7)
      · go_wp2_with fail
        refine wp_goto ⟨rfl, ExpAt.intro (m + 1) _ pw2 (ws ++ [z]) rfl (by omega) hlast HGO.out HO.out HB.out, ?_⟩
        show 4 * (n + 7) - (m + 1) < 4 * (n + 7) - m
        omega
      · obtain rfl : m = 4 * (n + 7) - 1 := by omega
        have HWS := Lib.hid (show expWords n long bs = ws ++ [z] by unfold expWords; rw [show 4 * (n + 7) - n = 4 * (n + 7) - 1 + 1 - n by omega, HGO.out])
        have HWL2 := Lib.hid (show (ws ++ [z]).length = 4 * (n + 7) by rw [List.length_append, HWL.out]; simp; omega)
        have HWE2 := Lib.hid (show ∀ y ∈ ws ++ [z], y.length = 4 by rw [← HWS.out]; exact expWords_each n long bs)
        generalize ws ++ [z] = wz at *
        clear HRN HR1 HROWS HKL HKLM HLG HTL HTLM HL1 hnn HE HGO HWL HWE HB3 HB6 HXL
        go_wp2_with (refine wpList_box 237 _ [.pointer (some ⟨q, 0, none⟩), .slice none 0 0] _ rfl rfl rfl rfl ?_)
        intro w8 hb8 hbel8
        have HO := Lib.hid (own_below HO.out hbel8)
        have HB := Lib.hid (HB.out.trans (hbel8.mono HB.out.size))
        have hgk : g7 < w7.heap.size := hgl7
        have hkb : w.heap.size ≤ w7.heap.size := Nat.le_of_lt (Nat.lt_of_le_of_lt hbg7 hgl7)
        generalize w7.heap.size = kb at *
        have HB8 := Lib.hid hb8
        clear hb8 hbel8
        go_wp2
        have HKO := Lib.hid (nil_owns w8 w.heap.size 52 16)
        clear HKO
        go_loopw [14, 112] (fun _ c wr => ∃ (i : Nat) (v : Value), i ≤ n + 7 ∧ c = .int .i64 i ∧ Hid (wr.ownsRow (kb + 1) 52 16 v i (flat ((expand n long bs).take i))) ∧ Hid (Blk wr kb [.pointer (some ⟨q, 0, none⟩), v] 237) ∧ Hid (wr.ownsRow w.heap.size 231 4 (.slice (some ⟨g7, 0, none⟩) (4 * (n + 7) - 1 + 1) gcap7) (4 * (n + 7) - 1 + 1) (flat wz)) ∧ Hid (Below w.heap.size w wr)) (fun _ c _ => n + 7 - (intOf c).toNat)
        case atStart => exact ⟨0, .slice none 0 0, by omega, rfl, nil_owns _ _ _ _, HB8, HO, HB⟩
        case round =>
          clear HO HB HB8
          obtain ⟨i, v, hin, rfl, HV, HKB, HO, HB⟩ := hrel
          by_cases hlt : i < n + 7
          · have hsl : ∀ w', (Instr.slice 230 (.slice (some ⟨g7, 0, none⟩) (4 * (n + 7) - 1 + 1) gcap7) (some (.int .i64 (4 * (i : Int)))) (some (.int .i64 (4 * (i : Int) + 4))) none).run Tryz.prog w' = .ok (.slice (cutAddrN (some ⟨g7, 0, none⟩) gcap7 (4 * i) 4) 4 (gcap7 - 4 * i)) w' := by
              intro w'
              have := run_cutN (P := Tryz.prog) w' 230 231 4 Tryz.underlying230 Tryz.sizeWord (some ⟨g7, 0, none⟩) (4 * (n + 7) - 1 + 1) gcap7 (4 * i) (4 * i + 4) (4 * (i : Int)) (4 * (i : Int) + 4) (by omega) (by omega) (by omega) (by have := (own_capLe HO.out).1; omega)
              rwa [show 4 * i + 4 - 4 * i = 4 by omega] at this
            have hc1 := fun (x : AfterK (Below (kb + 1)) wr.drew) => (HKB.out.drew.below x.rel (Nat.lt_succ_self kb)).cell 1 _ rfl
            have hrows : RowsN 4 wr (some ⟨g7, 0, none⟩) wz := ⟨HWE2.out, Lies.of_own HO.out⟩
            have HCUT := Lib.hid (hrows.cut (cap := gcap7) (by rw [HWL2.out]; have := (own_capLe HO.out).1; omega) (4 * i) 4)
            have HEX := Lib.hid (show (expand n long bs).take (i + 1) = (expand n long bs).take i ++ [((wz.drop (4 * i)).take 4).flatten] by
              rw [List.take_add_one, ← HWS.out]
              congr 1
              simp [expand, hlt])
            have HN4 := Lib.hid (show ((wz.drop (4 * i)).take 4).length = 4 by rw [List.length_take, List.length_drop, HWL2.out]; omega)
            have HN16 := Lib.hid (show ((wz.drop (4 * i)).take 4).flatten.length = 16 by
              rw [flatten_length 4 _ (fun k hk => HWE2.out k (List.mem_of_mem_drop (List.mem_of_mem_take hk))), HN4.out])
            generalize (wz.drop (4 * i)).take 4 = x at *
            clear hrows
            go_wp2_with fail
            refine wp_region_K (Below (kb + 1)) [17] [(0, true), (1, true), (2, true), (3, true), (4, true), (5, true), (6, true), (7, true), (8, true), (9, true), (10, true), (11, true), (12, false), (13, false), (14, false), (15, true), (16, true), (17, false)] (fun a => Below.refl _ a) (fun _ _ _ h1 h2 => h1.trans h2) (by kernel_rfl) (by kernel_rfl) ?_
            rintro w4 rfl
            repeat ((first | refine walkK_one rfl rfl (fun K hK => ?_) | refine walkK_alone Below.refl rfl rfl (fun K hK => ?_)); go_big_quiet_step (fail); refine wpQuiet_nil (hK _ ?_); clear hK K)
            refine walkK_free rfl (by rfl) (fun K hK => ?_)
            go_simp
            refine (joined_ok _ _ x _ HN4.out (HCUT.out.below (Below.refl _ wr).drew)).mono ?_
            rintro e w5 ⟨rfl, hbel5⟩
            have hkl := HKB.out.lt
            have HV := Lib.hid (own_below (w := wr.drew) HV.out hbel5)
            have HO := Lib.hid (own_below (w := wr.drew) HO.out hbel5)
            have HKB := Lib.hid (HKB.out.drew.below hbel5 hkl)
            have HB := Lib.hid (HB.out.drew.trans (hbel5.mono HB.out.size))
            generalize x.flatten = y at *
            go_simp
            refine hK _ _ (fun _ => hbel5.mono hkl) ?_
            clear hK K hbel5 hc1
            refine walkK_free rfl (by rfl) (fun K hK => ?_)
            refine oprows 49 52 16 1 _ [y.map B] rfl rfl Tryz.underlying49 Tryz.zsBlock rfl (by omega) rfl (by omega) (by omega) (by intro v hv; simp at hv; subst hv; rw [List.length_map]; exact HN16.out) ?_
            intro w6 hb6 hbel6
            have hkl5 := HKB.out.lt
            refine hK _ _ (fun _ => hbel6.mono hkl5) ?_
            clear hK K
            try rw [show ([y.map B] : List (List Value)).flatten = y.map B by simp] at hb6
            have HV := Lib.hid (own_below HV.out hbel6)
            have HO := Lib.hid (own_below HO.out hbel6)
            have HKB := Lib.hid (HKB.out.below hbel6 HKB.out.lt)
            have HB := Lib.hid (HB.out.trans (hbel6.mono HB.out.size))
            have HB6 := Lib.hid hb6
            clear hb6 hbel6
            go_simp
            obtain ⟨i0, hi0, hz0, hz1, hz2⟩ := info_parts Tryz.infoBlock
            refine walkK_free rfl (by rfl) (fun K hK => ?_)
            refine wp_append_own _ (.tmp 119) (.tmp 128) 49 rfl (kb + 1) 52 i0 (.agg ((zeros 16).map B).toArray) 16 16 Tryz.underlying49 hi0 hz0 hz1 hz2 rfl (by decide) _ _ _ rfl HV.out ⟨w5.heap.size, 0, none⟩ 1 1 (y.map B) rfl (by rw [List.length_map]; exact HN16.out) HB6.out.lies.news (oneCell_B y) (by unfold maxLen; omega) (by omega) HKB.out.lt ?_
            intro v7 w7 hown7 hgr7 _
            have hkl6 := HKB.out.lt
            have hbel7 : Below (kb + 1) w6 w7 := below_append (Below.refl _ _) HV.out hgr7 (Nat.le_refl _) hkl6
            refine hK _ _ (fun _ => hbel7) ?_
            clear hK K
            rw [← flat_snoc, ← HEX.out] at hown7
            have hne := own_ne_own HO.out HV.out (by decide) g7 rfl
            have HO := Lib.hid (HO.out.kept hgr7 (Or.inr (fun h => hne h.symm)))
            have HV := Lib.hid hown7
            have HKB := Lib.hid (HKB.out.below hbel7 (Nat.lt_succ_self kb))
            have HB := Lib.hid (HB.out.trans (hbel7.mono (by omega)))
            clear hgr7 hown7 hi0 hz0 hz1 hz2 hbel7 hne
            go_simp
            repeat ((first | refine walkK_one rfl rfl (fun K hK => ?_) | refine walkK_alone Below.refl rfl rfl (fun K hK => ?_)); go_big_quiet_step (fail); refine wpQuiet_nil (hK _ ?_); clear hK K)
            obtain ⟨gv, gvcap, rfl, hgv1, hgv2⟩ := HV.out.form (by omega)
            refine walkK_free rfl (by rfl) (fun K hK => ?_)
            refine HKB.out.opset (i := 1) (v := .slice (some ⟨gv, 0, none⟩) (i + 1) gvcap) rfl rfl rfl Tryz.sizeRows rfl rfl (by simp) (fun w8 hb8 ho8 => hK _ _ (fun h => by simp at h) ?_)
            clear hK K
            have hne := own_ne HO.out HKB.out (by decide) g7 rfl
            have HO := Lib.hid (own_only HO.out ho8 hne)
            have HV := Lib.hid (own_only HV.out ho8 (by omega))
            have HB := Lib.hid (below_only HB.out ho8 hkb)
            have HKB := Lib.hid hb8
            clear hb8 ho8
            go_simp
            refine walkK_nil ?_
            go_wp2_with fail
            go_roundw
            case rel => exact ⟨i + 1, _, by omega, by go_num, HV, HKB, HO, HB⟩
            case measure => simp [intOf]; omega
          · obtain rfl : i = n + 7 := by omega
            obtain ⟨gv, gvcap, rfl, hgv1, hgv2⟩ := HV.out.form (by omega)
            have hexl := expand_length n long bs
            have HEA := Lib.hid (show (expand n long bs).take (n + 7) = expand n long bs from List.take_of_length_le (by omega))
            have hv := HV.out
            rw [HEA.out] at hv
            have HV := Lib.hid hv
            clear hv
            have HEL := Lib.hid hexl
            clear hexl
            go_wp2_with fail
            go_ret2
            refine ⟨kb, gv, 0, gvcap, rfl, ?_, HB.out⟩
            have hcap := own_capLe HV.out
            exact ⟨HT.out.below HB.out (Nat.le_refl _), HEL.out, by omega, hcap.1, by omega, ⟨expand_each n long bs, Lies.of_own HV.out⟩, HKB.out⟩

theorem expand32_ok (q p : Nat) (ao : Option Addr) (cap : Nat) (bs : List UInt8) (w : World) (ht : Tab w q p) (hlen : bs.length = 32) (hl : Lies w ao (bs.map B)) :
    Calls Tryz.prog 115 #[.pointer (some ⟨q, 0, none⟩), .slice ao 32 cap] w fun e w' => ∃ kp kb koff kcap, e = .returned (.tuple #[.pointer (some ⟨kp, 0, none⟩), .int .i64 0]) ∧ AKey w' kp q p (expand 8 true bs) kb koff 15 kcap ∧ Below w.heap.size w w' :=
  expand_any q p ao 32 cap bs 8 true w ht hlen hl (by omega) (by omega) shape_32
theorem expand16_ok (q p : Nat) (ao : Option Addr) (cap : Nat) (bs : List UInt8) (w : World) (ht : Tab w q p) (hlen : bs.length = 16) (hl : Lies w ao (bs.map B)) :
    Calls Tryz.prog 115 #[.pointer (some ⟨q, 0, none⟩), .slice ao 16 cap] w fun e w' => ∃ kp kb koff kcap, e = .returned (.tuple #[.pointer (some ⟨kp, 0, none⟩), .int .i64 0]) ∧ AKey w' kp q p (expand 4 false bs) kb koff 11 kcap ∧ Below w.heap.size w w' :=
  expand_any q p ao 16 cap bs 4 false w ht hlen hl (by omega) (by omega) shape_16
theorem expand24_ok (q p : Nat) (ao : Option Addr) (cap : Nat) (bs : List UInt8) (w : World) (ht : Tab w q p) (hlen : bs.length = 24) (hl : Lies w ao (bs.map B)) :
    Calls Tryz.prog 115 #[.pointer (some ⟨q, 0, none⟩), .slice ao 24 cap] w fun e w' => ∃ kp kb koff kcap, e = .returned (.tuple #[.pointer (some ⟨kp, 0, none⟩), .int .i64 0]) ∧ AKey w' kp q p (expand 6 false bs) kb koff 13 kcap ∧ Below w.heap.size w w' :=
  expand_any q p ao 24 cap bs 6 false w ht hlen hl (by omega) (by omega) shape_24

end Go.Proofs.YtbpghohkhngdfaaGreatDoor
