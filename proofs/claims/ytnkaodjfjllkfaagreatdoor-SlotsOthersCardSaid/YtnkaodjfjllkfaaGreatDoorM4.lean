/-
  Texts of this claim, one behind the other: Scope GfA RegionB GfB GfC TurnA RegionL TurnB TurnC.
-/
import Derived.Test.YtnkaodjfjllkfaaGreatDoorM3
import Derived.Test.YtnkaodjfjllkfaaGreatDoorM2
import Derived.Test.YtnkaodjfjllkfaaGreatDoorM1
import Derived.ScopeJumps
import Derived.WalkKit
/-
  A scope in which the run comes to a label, from ahead or by a jump back: what stands behind the label is proved once. No program.
-/
namespace Go

/-- What stands behind a label of a row of statements. -/
def afterLabel : Code → Nat → Option Code
  | .seq (.label l') y, l => if l' == l then some y else afterLabel y l
  | .seq x y, l => if (findLabel x l).isNone then afterLabel y l else none
  | _, _ => none

theorem findLabel_after : ∀ (c : Code) (l : Nat) (y : Code), afterLabel c l = some y → findLabel c l = some (.seq .skip y) := by
  intro c l
  fun_induction afterLabel c l with
  | case1 l' y0 l h => intro y hy; simp at hy; subst hy; simp [findLabel, h]
  | case2 l' y0 l h ih => intro y hy; simp [findLabel, h]; exact ih y hy
  | case3 x y0 l hx h ih => intro y hy; simp [findLabel, Option.isNone_iff_eq_none.1 h]; exact ih y hy
  | case4 => intro y hy; cases hy
  | case5 => intro y hy; cases hy

/-- The way to the label: each statement ahead of it; J at it. -/
def wpPre (P : Program) (l : Nat) (J : Act → World → Prop) (Q : Exit → Act → World → Prop) : Code → Act → World → Prop
  | .seq (.label l') y, a, w => if l' == l then J a w else wpPre P l J Q y a w
  | .seq x y, a, w => x.wp P (Exit.then (wpPre P l J Q y) (Exit.jump l J Q)) a w
  | _, _, _ => False

section
variable {P : Program} {a : Act} {w : World} {Q : Exit → Act → World → Prop}

theorem wp_of_pre (l : Nat) (J : Act → World → Prop) : ∀ (c y : Code), afterLabel c l = some y → (∀ a w, J a w → y.wp P (Exit.jump l J Q) a w) → ∀ a w, wpPre P l J Q c a w → c.wp P (Exit.jump l J Q) a w := by
  intro c
  fun_induction afterLabel c l with
  | case1 l' y0 l h =>
    intro y hy hJ a w hp
    simp at hy; subst hy
    simp only [wpPre, h, if_true] at hp
    exact wp_seq (wp_label (hJ _ _ hp))
  | case2 l' y0 l h ih =>
    intro y hy hJ a w hp
    simp only [wpPre, h, Bool.false_eq_true, if_false] at hp
    exact wp_seq (wp_label (ih y hy hJ _ _ hp))
  | case3 x y0 l hx h ih =>
    intro y hy hJ a w hp
    have hp' : x.wp P (Exit.then (wpPre P l J Q y0) (Exit.jump l J Q)) a w := by
      cases x <;> first | exact hp | exact absurd rfl (hx _)
    refine wp_seq (wp_mono hp' ?_)
    intro e a' w' hq
    cases e with
    | normal => exact ih y hy hJ _ _ hq
    | _ => exact hq
  | case4 => intro y hy; cases hy
  | case5 => intro y hy; cases hy

theorem wp_scope_label {c y : Code} (l : Nat) (J : Act → World → Prop) (μ : Act → World → Nat) (hf : afterLabel c l = some y)
    (first : wpPre P l J Q c a w)
    (pass : ∀ a w, J a w → y.wp P (Exit.jump l (fun a' w' => J a' w' ∧ μ a' w' < μ a w) Q) a w) : (Code.scope c).wp P Q a w := by
  have weak : ∀ a w, J a w → y.wp P (Exit.jump l J Q) a w := by
    intro a w hJ
    refine wp_mono (pass a w hJ) ?_
    intro e a' w' hq
    cases e with
    | goto l' => exact ⟨hq.1, hq.2.1⟩
    | _ => exact hq
  refine wp_scope_jumps l J μ (findLabel_after c l y hf) (wp_of_pre l J c y hf weak a w first) ?_
  intro a' w' hJ
  exact wp_seq (wp_skip (pass a' w' hJ))

@[go_sem] theorem Exit.jump_normal (l : Nat) (J : Act → World → Prop) (a : Act) (w : World) : Exit.jump l J Q .normal a w = Q .normal a w := rfl
@[go_sem] theorem Exit.jump_exit (l : Nat) (J : Act → World → Prop) (id : Nat) (a : Act) (w : World) : Exit.jump l J Q (.exit id) a w = Q (.exit id) a w := rfl
@[go_sem] theorem Exit.jump_ret (l : Nat) (J : Act → World → Prop) (a : Act) (w : World) : Exit.jump l J Q .ret a w = Q .ret a w := rfl
@[go_sem] theorem Exit.jump_panic (l : Nat) (J : Act → World → Prop) (ch : List PanicEntry) (a : Act) (w : World) : Exit.jump l J Q (.panic ch) a w = Q (.panic ch) a w := rfl

end
end Go
/-
  The walks of gf: products.
-/
namespace Go.Proofs.YtnkaodjfjllkfaaGreatDoor
open Go.RowKit Go.Mem Go.Ops Go.Cells Go.Oct Go.Gf
set_option linter.unusedSimpArgs false
set_option linter.unusedVariables false
set_option maxRecDepth 100000
attribute [local irreducible] walkR walkP walk0

theorem double_ok (a : UInt8) (w : World) : Calls Tryz.prog 47 #[B a] w fun e w' => e = .returned (B (dbl a)) ∧ w = w' := by
  go_enter Tryz.func47, Tryz.ntmps47
  go_wp2
  go_ret
  exact ⟨rfl, rfl⟩

def TimesAt (a b : UInt8) (w : World) (x : Act) (w' : World) : Prop :=
  ∃ (n : Nat) (a' b' s : UInt8), ∃ u2 u3 u4 u6 u7 u8 u9 u10 u11 u12 u13 u14 u15 u16 u17 u18 : Value, x = { tmps := #[B a', B b', u2, u3, u4, B s, u6, u7, u8, u9, u10, u11, u12, u13, u14, u15, u16, u17, u18], defers := [] } ∧ Hid (timesGo n a' b' s = times a b) ∧ b'.toNat < 2 ^ n ∧ w = w'

theorem times_ok (a b : UInt8) (w : World) : Calls Tryz.prog 65 #[B a, B b] w fun e w' => e = .returned (B (times a b)) ∧ w = w' := by
  go_enter Tryz.func65, Tryz.ntmps65
  go_wp2
  refine wp_scope_label 0 (TimesAt a b w) (fun a' _ => (intOf (a'.tmps.getD 1 undef)).toNat) rfl ?_ ?_
  · simp only [wpPre]
    go_wp2
    exact ⟨8, a, b, 0, _, _, _, _, _, _, _, _, _, _, _, _, _, _, _, _, rfl, rfl, lt8 b, rfl⟩
  · rintro x w' ⟨n, a', b', s, u2, u3, u4, u6, u7, u8, u9, u10, u11, u12, u13, u14, u15, u16, u17, u18, rfl, HT, hb, rfl⟩
    by_cases h0 : b' = 0
    · subst h0
      have HT := Lib.hid ((timesGo_zero n a' s).symm.trans HT.out)
      go_wp2
      go_ret
      exact ⟨by rw [← HT.out]; rfl, rfl⟩
    · have h0' : b'.toNat ≠ 0 := fun h => h0 (zero_of_toNat h)
      have hd : ((b'.toNat : Int) == 0) = false := beq_eq_false_iff_ne.2 (by omega)
      obtain ⟨n, rfl⟩ : ∃ m, n = m + 1 := ⟨n - 1, by cases n with | zero => simp at hb; omega | succ n => rfl⟩
      have hs := shr8_lt b' n hb
      have hs2 : (shr8 b' 1).toNat < b'.toNat := by unfold shr8; rw [UInt8.toNat_ofNat_of_lt' (by have := lt8 b'; show _ < 256; omega)]; omega
      have HT := Lib.hid (show timesGo n (dbl a') (shr8 b' 1) (xor8 s (mul8 a' (and8 b' 1))) = times a b by have := HT.out; simpa [timesGo, h0] using this)
      go_wp2_with fail
      refine (double_ok a' _).mono ?_
      rintro e w1 ⟨rfl, rfl⟩
      go_wp2
      refine wp_goto ⟨rfl, ⟨n, _, _, _, _, _, _, _, _, _, _, _, _, _, _, _, _, _, _, _, rfl, HT, hs, rfl⟩, ?_⟩
      simpa [intOf] using hs2

end Go.Proofs.YtnkaodjfjllkfaaGreatDoor
/-
  A region that draws its order, walked ONCE, with changes to memory that the region made itself: what only computes or reads is taken early, if it yields the same in every world that keeps the blocks below B; all else comes up alone and keeps the blocks below B. No program.
-/
namespace Go
open Go.RowKit

section
variable {P : Program} {ops : Array Oper} {Q : Exit → Act → World → Prop} {md : Region.Mode} {B : Nat}

/-- Whatever order is picked; behind each operation the blocks below B are as they were. -/
def wpAnyB (B : Nat) (P : Program) (md : Region.Mode) (ops : Array Oper) (Q : Exit → Act → World → Prop) : Nat → Array Bool → Act → World → Prop
  | 0, listed, a, w => Region.ready md ops listed = [] ∧ Q .normal a w
  | fuel + 1, listed, a, w =>
    (Region.ready md ops listed = [] → Q .normal a w) ∧
    ∀ i ∈ Region.ready md ops listed, wpOp P ops Q i (fun a' w' => Below B w w' ∧ wpAnyB B P md ops Q fuel (listed.setIfInBounds i true) a' w') a w

theorem wpAny_of_B : ∀ (fuel : Nat) (listed : Array Bool) (a : Act) (w : World), wpAnyB B P md ops Q fuel listed a w → wpAny P md ops Q fuel listed a w
  | 0, _, _, _, h => h
  | fuel + 1, _, _, _, h => ⟨h.1, fun i hi => wpOp_mono (fun a' w' h' => wpAny_of_B fuel _ a' w' h'.2) (h.2 i hi)⟩

theorem YieldsIf.laterB {o : Oper} {v : Value} {a : Act} {w w' : World} (h : YieldsIf P ops (Below B w) o v a) (hw : Below B w w') : YieldsIf P ops (Below B w') o v a :=
  h.imp (fun ⟨h1, h2⟩ => ⟨h1, fun x hx => h2 x (hw.trans hx)⟩) id

theorem wpAnyB_first {i : Nat} {oi : Oper} {v : Value} (hi : ops[i]? = some oi) (hsel : ∀ (j : Nat) (o : Oper) cs b, ops[j]? = some o → o.op ≠ .select cs b)
    (hQ : ∀ c a w, Q (.panic c) (a.put oi.dst v) w → Q (.panic c) a w) (D : Nat → Bool) (hDi : D i = false)
    (hD : ∀ d, D d = true → ∃ od, ops[d]? = some od ∧ ∃ e ∈ od.after, Region.binds md e = true ∧ (e.on = i ∨ D e.on = true)) :
    ∀ (fuel : Nat) (listed : Array Bool) (a : Act) (w : World),
      (∀ d, D d = true → listed.getD d true = false) →
      (∀ j oj, ops[j]? = some oj → j ≠ i → listed.getD j true = false → D j = false → oi.apart ops oj = true) →
      i ∈ Region.ready md ops listed → YieldsIf P ops (Below B w) oi v a →
      wpAnyB B P md ops Q fuel (listed.setIfInBounds i true) (a.put oi.dst v) w → wpAnyB B P md ops Q (fuel + 1) listed a w := by
  intro fuel
  induction fuel with
  | zero =>
    intro listed a w _ _ hr hy H
    refine ⟨fun h => (by rw [h] at hr; cases hr), fun j hj => ?_⟩
    by_cases hji : j = i
    · subst hji; exact hy.wpOp hi (Below.refl _ w) ⟨Below.refl _ w, H⟩
    · have := ready_mono hj hji
      rw [H.1] at this
      cases this
  | succ fuel ih =>
    intro listed a w hun hfree hr hy H
    refine ⟨fun h => (by rw [h] at hr; cases hr), fun j hj => ?_⟩
    by_cases hji : j = i
    · subst hji; exact hy.wpOp hi (Below.refl _ w) ⟨Below.refl _ w, H⟩
    · have h1 := H.2 j (ready_mono hj hji)
      obtain ⟨hjun, oj, hoj, hall⟩ := mem_ready.1 hj
      have hget : ∀ k, listed.getD k true = false → (listed[k]?).getD true = false := fun k hk => by
        rcases Nat.lt_or_ge k listed.size with h' | h'
        · simpa [Array.getD, h'] using hk
        · simp [Array.getD, Nat.not_lt.2 h'] at hk
      have hDj : D j = false := by
        cases hdj : D j with
        | false => rfl
        | true =>
          obtain ⟨od, hod, e, he, hb, hon⟩ := hD j hdj
          rw [hoj] at hod
          cases hod
          have h1 := hall e he hb
          have h0 : listed.getD e.on true = false := by
            rcases hon with h | h
            · rw [h]; exact (mem_ready.1 hr).1
            · exact hun _ h
          rcases Nat.lt_or_ge e.on listed.size with h' | h'
          · simp [h'] at h0 h1; rw [h0] at h1; cases h1
          · simp [Array.getElem?_eq_none h'] at h1
      have hfj := hfree j oj hoj hji hjun hDj
      have h2 := wpOp_putIf hoj hfj (fun cs b => hsel i oi cs b hi) (fun cs b => hsel j oj cs b hoj) hQ hy h1
      have hun' : ∀ d, D d = true → (listed.setIfInBounds j true).getD d true = false := fun d hd => by
        have hne : j ≠ d := by rintro rfl; rw [hDj] at hd; cases hd
        rw [getD_set_ne true hne]
        exact hun d hd
      have hfree' : ∀ k ok, ops[k]? = some ok → k ≠ i → (listed.setIfInBounds j true).getD k true = false →
          D k = false → oi.apart ops ok = true := fun k ok hk hki hun hno => by
        refine hfree k ok hk hki ?_ hno
        by_cases hjk : j = k
        · subst hjk; exact hjun
        · rw [getD_set_ne true hjk] at hun; exact hun
      refine wpOp_mono (fun a' w' h3 => ⟨h3.2.1, ih (listed.setIfInBounds j true) a' w' hun' hfree' (ready_mono hr (Ne.symm hji)) (h3.1.laterB h3.2.1) ?_⟩) h2
      rw [Array.setIfInBounds_comm _ _ hji]
      exact h3.2.2

/-- The test on what stands behind number i. -/
def Region.heldB (md : Region.Mode) (ops : Array Oper) (listed : Array Bool) (i : Nat) (oi : Oper) (D : List Nat) : Bool :=
  !D.contains i &&
  D.all (fun d => !(listed.getD d true) && match ops[d]? with
    | some od => od.after.any (fun e => Region.binds md e && (e.on == i || D.contains e.on))
    | none => false) &&
  (List.range ops.size).all fun j => j == i || listed.getD j true || D.contains j || match ops[j]? with
    | some oj => oi.apart ops oj
    | none => true

/-- Number i may be taken first. -/
def Region.freeB (md : Region.Mode) (ops : Array Oper) (listed : Array Bool) (i : Nat) : Bool :=
  match ops[i]? with
  | none => false
  | some oi => Region.heldB md ops listed i oi (Region.behindR md ops listed i)

theorem Region.freeB_spec {i : Nat} {oi : Oper} {listed : Array Bool} (hi : ops[i]? = some oi) (h : Region.freeB md ops listed i = true) :
    ∃ D : Nat → Bool, D i = false ∧ (∀ d, D d = true → ∃ od, ops[d]? = some od ∧ ∃ e ∈ od.after, Region.binds md e = true ∧ (e.on = i ∨ D e.on = true)) ∧
      (∀ d, D d = true → listed.getD d true = false) ∧
      (∀ j oj, ops[j]? = some oj → j ≠ i → listed.getD j true = false → D j = false → oi.apart ops oj = true) := by
  unfold Region.freeB at h
  simp only [hi] at h
  generalize Region.behindR md ops listed i = L at h
  unfold Region.heldB at h
  rw [Bool.and_eq_true, Bool.and_eq_true] at h
  obtain ⟨⟨h1, h2⟩, h3⟩ := h
  rw [List.all_eq_true] at h2 h3
  refine ⟨fun d => L.contains d, by simpa using h1, fun d hd => ?_, fun d hd => ?_, fun j oj hj hne hun hnd => ?_⟩
  · have := h2 d (by simpa using hd)
    rw [Bool.and_eq_true] at this
    cases hod : ops[d]? with
    | none => simp [hod] at this
    | some od =>
      have h4 := this.2
      simp only [hod] at h4
      obtain ⟨e, he, hb⟩ := Array.any_eq_true'.1 h4
      rw [Bool.and_eq_true, Bool.or_eq_true] at hb
      exact ⟨od, rfl, e, he, hb.1, hb.2.imp (fun h => by simpa using h) id⟩
  · have := h2 d (by simpa using hd)
    rw [Bool.and_eq_true] at this
    simpa using this.1
  · have hlt : j < ops.size := (Array.getElem?_eq_some_iff.1 hj).1
    have := h3 j (List.mem_range.2 hlt)
    have e1 : (j == i) = false := by simpa using hne
    simp only at hnd
    rw [e1, hun, hnd, Bool.false_or, Bool.false_or, Bool.false_or] at this
    simpa only [hj] using this

/-- The order fits: what is taken early may be taken first, all else comes up alone; at the end all have come up. -/
def Region.checkB (md : Region.Mode) (ops : Array Oper) : List (Nat × Bool) → Array Bool → Bool
  | [], listed => Region.ready md ops listed == []
  | (i, q) :: r, listed =>
    (match ops[i]? with
     | none => false
     | some _ => if q then (Region.ready md ops listed).contains i && Region.freeB md ops listed i else Region.ready md ops listed == [i]) &&
    Region.checkB md ops r (listed.setIfInBounds i true)

/-- THE WALK, in the order that is given. -/
def walkB (B : Nat) (P : Program) (ops : Array Oper) (Q : Exit → Act → World → Prop) : List (Nat × Bool) → Act → World → Prop
  | [], a, w => Q .normal a w
  | (i, q) :: r, a, w =>
    match ops[i]? with
    | none => False
    | some o =>
      if Region.wanted o (yielded ops a.tmps) = true then
        (if q then ∃ v, (∀ w', Below B w w' → (execOp a.eval o).run P w' = .ok (.value v) w') ∧ walkB B P ops Q r (a.put o.dst v) w
         else o.wp P a w (fun a' w' => Below B w w' ∧ walkB B P ops Q r a' w') Q)
      else walkB B P ops Q r (a.put o.dst undef) w

theorem wpAnyB_of_walk (hs : Region.noSelect ops = true) (hQ : ∀ c a w, ¬ Q (.panic c) a w) : ∀ (order : List (Nat × Bool)) (listed : Array Bool) (a : Act) (w : World),
    Region.checkB md ops order listed = true → walkB B P ops Q order a w → wpAnyB B P md ops Q order.length listed a w
  | [], listed, a, w, hB, h => by
    simp only [Region.checkB, beq_iff_eq] at hB
    exact ⟨hB, h⟩
  | (i, q) :: r, listed, a, w, hB, h => by
    simp only [Region.checkB, Bool.and_eq_true] at hB
    obtain ⟨hB1, hB2⟩ := hB
    cases ho : ops[i]? with
    | none => simp [ho] at hB1
    | some o =>
      simp only [ho] at hB1
      simp only [walkB, ho] at h
      cases q with
      | true =>
        simp only [if_true, Bool.and_eq_true] at hB1 h
        by_cases hw : Region.wanted o (yielded ops a.tmps) = true
        · rw [if_pos hw] at h
          obtain ⟨v, hv, hr⟩ := h
          obtain ⟨D, hDi, hD, hDu, hDf⟩ := Region.freeB_spec ho hB1.2
          exact wpAnyB_first ho (Region.noSelect_spec hs) (fun c a w hq => absurd hq (hQ _ _ _)) D hDi hD r.length listed a w hDu hDf (by simpa using hB1.1) (.inl ⟨hw, hv⟩)
            (wpAnyB_of_walk hs hQ r _ _ _ hB2 hr)
        · rw [if_neg hw] at h
          obtain ⟨D, hDi, hD, hDu, hDf⟩ := Region.freeB_spec ho hB1.2
          exact wpAnyB_first ho (Region.noSelect_spec hs) (fun c a w hq => absurd hq (hQ _ _ _)) D hDi hD r.length listed a w hDu hDf (by simpa using hB1.1) (.inr ⟨by simpa using hw, rfl⟩)
            (wpAnyB_of_walk hs hQ r _ _ _ hB2 h)
      | false =>
        simp only [Bool.false_eq_true, if_false, beq_iff_eq] at hB1 h
        refine ⟨fun h0 => (by rw [hB1] at h0; cases h0), fun j hj => ?_⟩
        rw [hB1] at hj
        obtain rfl : j = i := by simpa using hj
        unfold wpOp
        simp only [ho]
        by_cases hw : Region.wanted o (yielded ops a.tmps) = true
        · rw [if_pos hw] at h ⊢
          refine .inl (Oper.wp_mono ?_ h)
          intro a' w' h'
          refine ⟨h'.1, wpAnyB_of_walk hs hQ r _ _ _ hB2 h'.2⟩
        · rw [if_neg hw] at h ⊢
          exact ⟨Below.refl _ w, wpAnyB_of_walk hs hQ r _ _ _ hB2 h⟩

/-- THE LAW. -/
theorem wp_region_B {id : Nat} {l : List Oper} {a : Act} {w : World} (B : Nat) (order : List (Nat × Bool)) (hm : P.follows .mixedOrders = true)
    (hB : (Region.noSelect l.toArray && (order.length == l.length) && Region.checkB .any l.toArray order (Array.replicate l.length false)) = true)
    (h : ∀ w', w' = w.drew → walkB B P l.toArray (NoPanic Q) order a w') : (Code.region id l.toArray true).wp P Q a w := by
  simp only [Bool.and_eq_true, beq_iff_eq] at hB
  obtain ⟨⟨hs, hl⟩, hB⟩ := hB
  refine wp_region_noPanic (wp_region_any hm (wpAny_of_B (B := B) _ _ _ _ ?_))
  have := wpAnyB_of_walk (B := B) (P := P) (Q := NoPanic Q) hs (fun c a w hq => hq) order _ a w.drew hB (h _ rfl)
  rw [hl] at this
  exact this

/-! The moves of the walk. -/
theorem walkB_nil {a : Act} {w : World} (h : Q .normal a w) : walkB B P ops (NoPanic Q) [] a w := h

theorem walkB_no {i : Nat} {q : Bool} {r : List (Nat × Bool)} {o : Oper} {a : Act} {w : World} (ho : ops[i]? = some o) (hw : Region.wanted o (yielded ops a.tmps) = false)
    (h : ∀ K : Act → Prop, (∀ a', walkB B P ops Q r a' w → K a') → K (a.put o.dst undef)) : walkB B P ops Q ((i, q) :: r) a w := by
  simp only [walkB, ho, hw, Bool.false_eq_true, if_false]
  exact h _ fun _ h => h

theorem walkB_free {i : Nat} {r : List (Nat × Bool)} {o : Oper} {a : Act} {w : World} (ho : ops[i]? = some o) (hw : Region.wanted o (yielded ops a.tmps) = true)
    (h : ∀ K : Act → World → Prop, (∀ a' w', Below B w w' → walkB B P ops Q r a' w' → K a' w') → o.wp P a w K Q) : walkB B P ops Q ((i, false) :: r) a w := by
  simp only [walkB, ho, hw, if_true, Bool.false_eq_true, if_false]
  exact h _ fun _ _ h1 h2 => ⟨h1, h2⟩

/-- The worlds that keep what lies below B. -/
structure AfterB (B : Nat) (w : World) where
  val : World
  below : Below B w val
instance (B : Nat) (w : World) : Nonempty (AfterB B w) := ⟨⟨w, Below.refl _ w⟩⟩
abbrev AftersB (B : Nat) (w : World) : World → Prop := fun w' => ∃ x : AfterB B w, w' = x.val

/-- One operation, taken early. -/
theorem walkB_one {i : Nat} {r : List (Nat × Bool)} {o : Oper} {tl : List Oper} {a : Act} {w : World} (hd : ops.toList.drop i = o :: tl) (hk : o.kindR = 0)
    (hh : ∀ K : Act → Prop, (∀ a', walkB B P ops Q r a' w → K a') → wpQuiet P ops (AftersB B w) K [o] a) : walkB B P ops Q ((i, true) :: r) a w := by
  have h := hh (fun a' => walkB B P ops Q r a' w) (fun _ h => h)
  have ho : ops[i]? = some o := by
    have := congrArg (·[0]?) hd
    simpa using this
  simp only [wpQuiet] at h
  simp only [walkB, ho, if_true]
  by_cases hw : Region.wanted o (yielded ops a.tmps) = true
  · rw [if_pos hw] at h ⊢
    obtain ⟨v, hv, hn⟩ := h
    exact ⟨v, fun w' hw' => run_of_quietAt hk (hv w' ⟨⟨w', hw'⟩, rfl⟩), hn⟩
  · rw [if_neg hw] at h ⊢
    exact h

/-- One operation that computes or reads, where it comes up alone. -/
theorem walkB_alone {i : Nat} {r : List (Nat × Bool)} {o : Oper} {tl : List Oper} {a : Act} {w : World} (hd : ops.toList.drop i = o :: tl) (hk : o.kindR = 0)
    (hh : ∀ K : Act → Prop, (∀ a', walkB B P ops Q r a' w → K a') → wpQuiet P ops (Afters w) K [o] a) : walkB B P ops Q ((i, false) :: r) a w := by
  have h := hh (fun a' => walkB B P ops Q r a' w) (fun _ h => h)
  have ho : ops[i]? = some o := by
    have := congrArg (·[0]?) hd
    simpa using this
  simp only [wpQuiet] at h
  simp only [walkB, ho, Bool.false_eq_true, if_false]
  by_cases hw : Region.wanted o (yielded ops a.tmps) = true
  · rw [if_pos hw] at h ⊢
    obtain ⟨v, hv, hn⟩ := h
    unfold Oper.wp
    rw [run_of_quietAt hk (hv w ⟨⟨w, Later.refl w⟩, rfl⟩), Oper.upon_value]
    exact ⟨Below.refl _ w, hn⟩
  · rw [if_neg hw] at h ⊢
    exact h

end
end Go
/-
  The walks of gf: AES's boxes.
-/
namespace Go.Proofs.YtnkaodjfjllkfaaGreatDoor
open Go.RowKit Go.Mem Go.Ops Go.Cells Go.Oct Go.Gf
set_option linter.unusedSimpArgs false
set_option linter.unusedVariables false
set_option maxRecDepth 100000
attribute [local irreducible] walkR walkP walk0 walkB

theorem and7 : ∀ k : Fin 8, bits .and .u64 ((k.val : Nat) : Int) 7 = ((k.val : Nat) : Int) := by decide

theorem rot8_ok (x : UInt8) (k : Nat) (hk : k < 8) (w : World) : Calls Tryz.prog 66 #[B x, .int .i64 k] w fun e w' => e = .returned (B (rot8 x k)) ∧ w = w' := by
  have h7 := and7 ⟨k, hk⟩
  simp only at h7
  go_enter Tryz.func66, Tryz.ntmps66
  go_wp2
  go_ret
  exact ⟨rfl, rfl⟩

theorem box_ok (i : UInt8) (w : World) : Calls Tryz.prog 49 #[B i] w fun e w' => e = .returned (B (box i)) ∧ w = w' := by
  go_enter Tryz.func49, Tryz.ntmps49
  go_wp2
  go_loopw [3, 5] (fun s c wr => ∃ k : Nat, k ≤ 5 ∧ c = .int .i64 k ∧ s = B (boxGo i k) ∧ w = wr) (fun _ c _ => 5 - (intOf c).toNat)
  case atStart => exact ⟨0, by omega, rfl, rfl, rfl⟩
  case round =>
    obtain ⟨k, hk, rfl, rfl, rfl⟩ := hrel
    by_cases hlt : k < 5
    · go_wp2_with fail
      refine (rot8_ok i k (by omega) _).mono ?_
      rintro e w1 ⟨rfl, rfl⟩
      go_wp2
      go_roundw
      case rel => exact ⟨k + 1, by omega, rfl, rfl, by trivial⟩
      case measure => simp [intOf]; omega
    · obtain rfl : k = 5 := by omega
      go_wp2
      go_ret
      exact ⟨rfl, by trivial⟩

theorem Tryz.rowBoxes : Row Tryz.prog 111 512 := ⟨by kernel_rfl, by kernel_rfl⟩

theorem put_ok (p : Nat) (l : List UInt8) (a b : UInt8) (w : World) (hl : l.length = 512) (hb : Blk w p (l.map B) 111) :
    Calls Tryz.prog 48 #[.pointer (some ⟨p, 0, none⟩), B a, B b] w fun e w' => e = .returned (.tuple #[]) ∧ Blk w' p ((putL l a b).map B) 111 ∧ Only p w w' := by
  have ha8 := lt8 a
  have hb8 := lt8 b
  have HB := Lib.hid hb
  have HL := Lib.hid hl
  clear hb hl
  go_enter Tryz.func48, Tryz.ntmps48
  go_wp2_with fail
  refine wp_region_B p [(0, true), (1, true), (2, true), (3, true), (4, true), (5, true), (6, true), (7, true), (8, true), (10, true), (11, true), (9, false), (12, false), (13, false)] (by kernel_rfl) (by kernel_rfl) ?_
  rintro w1 rfl
  repeat ((first | refine walkB_one rfl rfl (fun K hK => ?_) | refine walkB_alone rfl rfl (fun K hK => ?_)); go_big_quiet_step (fail); refine wpQuiet_nil (hK _ ?_); clear hK K)
  refine walkB_free rfl (by rfl) (fun K hK => ?_)
  refine HB.out.drew.opset (v := B b) rfl rfl rfl Tryz.sizeByte rfl rfl (by rw [List.length_map, HL.out]; omega) (fun w3 hb3 ho3 => hK _ _ (below_only (Below.refl _ _) ho3 (Nat.le_refl _)) ?_)
  clear hK K
  rw [mapB_set] at hb3
  have HB3 := Lib.hid hb3
  have HO3 := Lib.hid ho3
  clear hb3 ho3
  go_simp
  repeat ((first | refine walkB_one rfl rfl (fun K hK => ?_) | refine walkB_alone rfl rfl (fun K hK => ?_)); go_big_quiet_step (fail); refine wpQuiet_nil (hK _ ?_); clear hK K)
  refine walkB_free rfl (by rfl) (fun K hK => ?_)
  refine HB3.out.opset (v := B a) rfl rfl rfl Tryz.sizeByte rfl rfl (by rw [List.length_map, List.length_set, HL.out]; omega) (fun w4 hb4 ho4 => hK _ _ (below_only (Below.refl _ _) ho4 (Nat.le_refl _)) ?_)
  clear hK K
  rw [mapB_set] at hb4
  refine walkB_nil ?_
  go_wp2
  go_end0
  exact ⟨rfl, hb4, (show Only p w w3 from ⟨HO3.out.os, HO3.out.tape, HO3.out.output, HO3.out.size, HO3.out.block⟩).trans ho4⟩

theorem to_ok (p : Nat) (l : List UInt8) (a : UInt8) (w : World) (hl : l.length = 512) (hb : Blk w p (l.map B) 111) :
    Calls Tryz.prog 46 #[.pointer (some ⟨p, 0, none⟩), B a] w fun e w' => e = .returned (B (at8 l a.toNat)) ∧ w = w' := by
  have ha8 := lt8 a
  have hc := hb.cell a.toNat _ (mapB_at (at8_get (b := l) (i := a.toNat) (by omega)))
  clear hb hl
  go_enter Tryz.func46, Tryz.ntmps46
  go_wp2
  go_ret
  exact ⟨rfl, by trivial⟩

theorem back_ok (p : Nat) (l : List UInt8) (a : UInt8) (w : World) (hl : l.length = 512) (hb : Blk w p (l.map B) 111) :
    Calls Tryz.prog 285 #[.pointer (some ⟨p, 0, none⟩), B a] w fun e w' => e = .returned (B (at8 l (256 + a.toNat))) ∧ w = w' := by
  have ha8 := lt8 a
  have hc := hb.cell (256 + a.toNat) _ (mapB_at (at8_get (b := l) (i := 256 + a.toNat) (by omega)))
  clear hb hl
  go_enter Tryz.func285, Tryz.ntmps285
  go_wp2
  go_ret
  exact ⟨rfl, by trivial⟩

end Go.Proofs.YtnkaodjfjllkfaaGreatDoor
/-
  The walks of gf: AES's boxes made.
-/
namespace Go.Proofs.YtnkaodjfjllkfaaGreatDoor
open Go.RowKit Go.Mem Go.Ops Go.Cells Go.Oct Go.Gf
set_option linter.unusedSimpArgs false
set_option linter.unusedVariables false
set_option maxRecDepth 100000
attribute [local irreducible] walkR walkP walk0 walkB

theorem Tryz.zero255 : (Tryz.prog.info? 109).map (·.zero) = some (some (.agg ((zeros 255).map B).toArray)) := by kernel_rfl
theorem Tryz.zeroBoxes : (Tryz.prog.info? 111).map (·.zero) = some (some (.agg ((zeros 512).map B).toArray)) := by kernel_rfl

theorem Tryz.cellsBoxes : (Value.agg Tryz.zeroCells111).cells = ((zeros 512).map B).toArray := by kernel_rfl

theorem make_ok (w : World) : Calls Tryz.prog 32 #[] w fun e w' => ∃ p, e = .returned (.pointer (some ⟨p, 0, none⟩)) ∧ w.heap.size ≤ p ∧ Blk w' p (boxes.map B) 111 ∧ Below w.heap.size w w' := by
  go_enter Tryz.func32, Tryz.ntmps32
  go_wp2_with (refine wpList_var 109 ((zeros 255).map B) _ rfl rfl Tryz.zero255 rfl ?_)
  intro w1 hb1 hbel1
  have HB1 := Lib.hid hb1
  have HBEL1 := Lib.hid hbel1
  have hlt1 := hb1.lt
  clear hb1 hbel1
  go_wp2
  go_loopw [2, 6] (fun e c wr => ∃ (k : Nat) (l : List UInt8), k ≤ 255 ∧ c = .int .i64 k ∧ e = B (powGo k) ∧ Filled powGo 255 k l ∧ Blk wr w.heap.size (l.map B) 109 ∧ Below w.heap.size w wr) (fun _ c _ => 255 - (intOf c).toNat)
  case atStart => exact ⟨0, zeros 255, by omega, rfl, rfl, Filled.zero (zeros_length _), HB1.out, HBEL1.out⟩
  case round =>
    obtain ⟨k, l, hk, rfl, rfl, hF, hb, hbel⟩ := hrel
    by_cases hlt : k < 255
    · obtain ⟨x, hx⟩ := hF.at hlt
      have hc := hb.cell k _ (mapB_at hx)
      have hf := hb.free k
      have HB := Lib.hid hb
      have HF := Lib.hid hF
      clear hb hx hF
      go_wp2_with fail
      refine (double_ok (powGo k) _).mono ?_
      rintro e w2 ⟨rfl, rfl⟩
      go_wp2
      go_roundw
      case rel => exact ⟨k + 1, _, by omega, rfl, rfl, HF.out.step hlt, mapB_set _ _ _ ▸ HB.out.set k _, hbel.setCell (by simp) _⟩
      case measure => simp [intOf]; omega
    · obtain rfl : k = 255 := by omega
      have HBP := Lib.hid hb
      have HPW := Lib.hid (show ∀ i, i < 255 → l[i]? = some (powGo i) from hF.2)
      have hltp := hb.lt
      clear hb hF
      go_wp2_with (refine wpList_box 111 _ ((zeros 512).map B) _ rfl rfl rfl Tryz.cellsBoxes ?_)
      intro w3 hb3 hbel3
      have HBP := Lib.hid (HBP.out.below hbel3 HBP.out.lt)
      have HB3 := Lib.hid hb3
      have HBEL := Lib.hid (hbel.trans (hbel3.mono hbel.size))
      clear hb3 hbel3
      generalize hq : wr.heap.size = q at *
      have hwq : w.heap.size < q := by omega
      have HQ := Lib.hid hq
      clear hq
      go_wp2_with fail
      refine (box_ok 0 _).mono ?_
      rintro e w4 ⟨rfl, rfl⟩
      go_wp2_with fail
      refine (put_ok q (zeros 512) 0 (box 0) _ (zeros_length _) HB3.out).mono ?_
      rintro e w5 ⟨rfl, hb5, ho5⟩
      have HBP := Lib.hid (HBP.out.only ho5 (by omega))
      have HBEL := Lib.hid (below_only HBEL.out ho5 (by omega))
      have HB5 := Lib.hid hb5
      clear hb5 ho5 HB3
      have hwq2 : w.heap.size < q := by have := HB5.out.lt; have := HQ.out; omega
      go_wp2
      go_loopw [22] (fun c wr => ∃ k : Nat, k ≤ 255 ∧ c = .int .i64 k ∧ Blk wr w.heap.size (l.map B) 109 ∧ Blk wr q ((makeGo k).map B) 111 ∧ Below w.heap.size w wr) (fun c _ => 255 - (intOf c).toNat)
      case atStart => exact ⟨0, by omega, rfl, HBP.out, HB5.out, HBEL.out⟩
      case round =>
        obtain ⟨k, hk, rfl, hbp, hb, hbel⟩ := hrel
        by_cases hlt : k < 255
        · have hc1 := fun (x : AfterB q wr.drew) => (hbp.drew.below x.below hwq2).cell k _ (mapB_at (HPW.out k hlt))
          have hc2 : ∀ (x : AfterB q wr.drew), x.val.cell? ⟨w.heap.size, (-(k : Int) % 255).toNat, none⟩ = some (B (powGo ((255 - k) % 255))) := by
            intro x
            rw [show (-(k : Int) % 255).toNat = (255 - k) % 255 by omega]
            exact (hbp.drew.below x.below hwq2).cell ((255 - k) % 255) _ (mapB_at (HPW.out ((255 - k) % 255) (Nat.mod_lt _ (by omega))))
          have HBP := Lib.hid hbp
          have HB := Lib.hid hb
          clear hbp hb
          go_wp2_with fail
          refine wp_region_B q [(0, true), (1, true), (2, true), (3, true), (4, true), (5, true), (6, true), (7, true), (8, true), (9, false), (10, false)] (by kernel_rfl) (by kernel_rfl) ?_
          rintro w6 rfl
          repeat ((first | refine walkB_one rfl rfl (fun K hK => ?_) | refine walkB_alone rfl rfl (fun K hK => ?_)); go_big_quiet_step (fail); refine wpQuiet_nil (hK _ ?_); clear hK K)
          clear hc1 hc2
          refine walkB_free rfl (by rfl) (fun K hK => ?_)
          go_simp
          refine (box_ok _ _).mono ?_
          rintro e w7 ⟨rfl, rfl⟩
          go_simp
          refine hK _ _ (Below.refl _ _) ?_
          clear hK K
          refine walkB_free rfl (by rfl) (fun K hK => ?_)
          go_simp
          refine (put_ok q (makeGo k) (powGo k) (box (powGo ((255 - k) % 255))) _ (makeGo_length k) HB.out.drew).mono ?_
          rintro e w8 ⟨rfl, hb8, ho8⟩
          go_simp
          refine hK _ _ (below_only (Below.refl _ _) ho8 (Nat.le_refl _)) ?_
          clear hK K
          refine walkB_nil ?_
          have hbp8 := HBP.out.drew.only ho8 (by omega)
          have hbel8 := below_only hbel.drew ho8 (by omega)
          have HB8 := Lib.hid (show Blk w8 q ((makeGo (k + 1)).map B) 111 from hb8)
          clear hb8 ho8
          go_wp2
          go_roundw
          case rel => exact ⟨k + 1, by omega, rfl, hbp8, HB8.out, hbel8⟩
          case measure => simp [intOf]; omega
        · obtain rfl : k = 255 := by omega
          have HB := Lib.hid hb
          clear hb
          go_wp2
          go_ret
          exact ⟨q, rfl, Nat.le_of_lt hwq2, HB.out, hbel⟩

end Go.Proofs.YtnkaodjfjllkfaaGreatDoor
/-
  The walks of turn: what a byte brings to a column.
-/
namespace Go.Proofs.YtnkaodjfjllkfaaGreatDoor
open Go.RowKit Go.Mem Go.Ops Go.Cells Go.Oct Go.Gf Go.Trn
set_option linter.unusedSimpArgs false
set_option linter.unusedVariables false
set_option maxRecDepth 100000
attribute [local irreducible] walkR walkP walk0 walkB

theorem shifted_ok (row column : Nat) (w : World) (h1 : row < 4) (h2 : column < 4) : Calls Tryz.prog 188 #[.int .i64 row, .int .i64 column] w fun e w' => e = .returned (.int .i64 (shifted row column)) ∧ w = w' := by
  have hs : (row : Int) + 4 * (((column : Int) + row) % 4) = ((shifted row column : Nat) : Int) := by unfold shifted; omega
  have HS := Lib.hid hs
  clear hs
  go_enter Tryz.func188, Tryz.ntmps188
  go_wp2
  go_ret
  exact ⟨by rw [← HS.out]; rfl, rfl⟩

theorem brings_ok (by' : List UInt8) (row : Nat) (a : UInt8) (w : World) (hl : by'.length = 4) (h1 : row < 4) : Calls Tryz.prog 45 #[.agg (by'.map B).toArray, .int .i64 row, B a] w fun e w' => e = .returned (W (brings by' row a)) ∧ Below w.heap.size w w' := by
  go_enter Tryz.func45, Tryz.ntmps45
  go_wp2_with (refine wpList_box 107 _ (by'.map B) _ rfl rfl rfl rfl ?_)
  intro w1 hb1 hbel1
  have HB1 := Lib.hid hb1
  have HL := Lib.hid hl
  clear hb1 hl
  go_wp2
  go_loopw [7, 9] (fun n c wr => ∃ r : Nat, r ≤ 4 ∧ c = .int .i64 r ∧ n = W (bringsGo by' row a r) ∧ w1 = wr) (fun _ c _ => 4 - (intOf c).toNat)
  case atStart => exact ⟨0, by omega, rfl, rfl, rfl⟩
  case round =>
    obtain ⟨r, hr, rfl, rfl, rfl⟩ := hrel
    by_cases hlt : r < 4
    · obtain ⟨x, hx⟩ : ∃ x, x = at8 by' ((row + 4 - r) % 4) := ⟨_, rfl⟩
      have hc := HB1.out.cell ((row + 4 - r) % 4) _ (mapB_at (at8_get (b := by') (i := (row + 4 - r) % 4) (by rw [HL.out]; omega)))
      rw [← hx, show (row + 4 - r) % 4 = (((row : Int) - r) % 4).toNat by omega] at hc
      have HX := Lib.hid (show or32 (bringsGo by' row a r) (shl32 (up8_32 (times x a)) (8 * r)) = bringsGo by' row a (r + 1) by rw [hx]; rfl)
      clear hx
      go_wp2_with fail
      refine (times_ok x a _).mono ?_
      rintro e w2 ⟨rfl, rfl⟩
      go_wp2
      go_roundw
      case rel => exact ⟨r + 1, by omega, rfl, by rw [← HX.out], by trivial⟩
      case measure => simp [intOf]; omega
    · obtain rfl : r = 4 := by omega
      go_wp2
      go_ret
      exact ⟨rfl, hbel1⟩

theorem both_ok (a b : List UInt8) (w : World) (ha : a.length = 16) (hb : b.length = 16) : Calls Tryz.prog 189 #[.agg (a.map B).toArray, .agg (b.map B).toArray] w fun e w' => e = .returned (.agg ((both a b).map B).toArray) ∧ Below w.heap.size w w' := by
  have HLA := Lib.hid ha
  have HLB := Lib.hid hb
  have hfin : ∀ l : List UInt8, Filled (fun i => xor8 (at8 a i) (at8 b i)) 16 16 l → l = both a b := fun l h => h.all
  have HFIN := Lib.hid hfin
  clear ha hb hfin
  go_enter Tryz.func189, Tryz.ntmps189
  go_wp2_with (refine wpList_box 88 _ (a.map B) _ rfl rfl rfl rfl ?_)
  intro w1 hb1 hbel1
  go_wp2_with (refine wpList_box 88 _ (b.map B) _ rfl rfl rfl rfl ?_)
  intro w2 hb2 hbel2
  go_wp2_with (refine wpList_var 88 ((zeros 16).map B) _ rfl rfl Tryz.zero16 rfl ?_)
  intro w3 hb3 hbel3
  have hlt1 := hb1.lt
  have hlt2 := hb2.lt
  have hlt3 := hb3.lt
  have HBA := Lib.hid ((hb1.below hbel2 hb1.lt).below hbel3 (by omega))
  have HBB := Lib.hid (hb2.below hbel3 hb2.lt)
  have HBR := Lib.hid hb3
  have HBEL := Lib.hid ((hbel1.trans (hbel2.mono hbel1.size)).trans (hbel3.mono (Nat.le_trans hbel1.size hbel2.size)))
  clear hb1 hb2 hb3 hbel1 hbel2 hbel3
  go_wp2
  go_loopw [6] (fun c wr => ∃ (j : Nat) (l : List UInt8), j ≤ 16 ∧ c = .int .i64 j ∧ l.length = 16 ∧ (∀ i, i < j → l[i]? = some (xor8 (at8 a i) (at8 b i))) ∧ (∀ i, j ≤ i → l[i]? = a[i]?) ∧ Blk wr w.heap.size (l.map B) 88 ∧ Blk wr w1.heap.size (b.map B) 88 ∧ Blk wr w2.heap.size ((zeros 16).map B) 88 ∧ Below w.heap.size w wr) (fun c _ => 16 - (intOf c).toNat)
  case atStart => exact ⟨0, a, by omega, rfl, HLA.out, fun i hi => absurd hi (by omega), fun i _ => rfl, HBA.out, HBB.out, HBR.out, HBEL.out⟩
  case round =>
    obtain ⟨j, l, hj, rfl, hll, hl1, hl2, hba, hbb, hbr, hbel⟩ := hrel
    by_cases hlt : j < 16
    · have hx : l[j]? = some (at8 a j) := by rw [hl2 j (Nat.le_refl _)]; exact at8_get (by rw [HLA.out]; omega)
      have hc1 := fun (x : After wr.drew) => (hba.drew.below x.later hba.lt).cell j _ (mapB_at hx)
      have hc2 := fun (x : After wr.drew) => (hbb.drew.below x.later hbb.lt).cell j _ (mapB_at (at8_get (b := b) (i := j) (by rw [HLB.out]; omega)))
      have HBA := Lib.hid hba
      have HBB := Lib.hid hbb
      have HBR := Lib.hid hbr
      have HLL := Lib.hid hll
      have HL1 := Lib.hid hl1
      have HL2 := Lib.hid hl2
      clear hba hbb hbr hll hl1 hl2 hx
      go_wp2_with fail
      refine wp_region_R [0, 1, 2, 3, 4, 5, 6, 7, 8] (by kernel_rfl) (by kernel_rfl) ?_
      rintro w4 rfl
      repeat (refine walkR_one rfl rfl (fun K hK => ?_); go_big_quiet_step (fail); refine wpQuiet_nil (hK _ ?_); clear hK K)
      clear hc1 hc2
      refine walkR_free rfl rfl (by rfl) (fun K hK => ?_)
      refine HBA.out.drew.opset (v := B (xor8 (at8 a j) (at8 b j))) rfl rfl rfl Tryz.sizeByte rfl rfl (by rw [List.length_map, HLL.out]; omega) (fun w5 hb5 ho5 => hK _ _ ?_)
      clear hK K
      rw [mapB_set] at hb5
      have hbb5 := HBB.out.drew.only ho5 (by omega)
      have hbr5 := HBR.out.drew.only ho5 (by omega)
      have hbel5 := below_only hbel.drew ho5 (Nat.le_refl _)
      clear ho5
      refine walkR_nil ?_
      have HB5 := Lib.hid hb5
      have HBB5 := Lib.hid hbb5
      have HBR5 := Lib.hid hbr5
      clear hb5 hbb5 hbr5
      go_wp2
      go_roundw
      case rel =>
        refine ⟨j + 1, _, by omega, rfl, by simpa using HLL.out, fun i hi => ?_, fun i hi => ?_, HB5.out, HBB5.out, HBR5.out, hbel5⟩
        · rw [List.getElem?_set]
          by_cases e : j = i
          · subst e; simp [HLL.out, hlt]
          · rw [if_neg e]; exact HL1.out i (by omega)
        · rw [List.getElem?_set_ne (by omega)]
          exact HL2.out i (by omega)
      case measure => simp [intOf]; omega
    · obtain rfl : j = 16 := by omega
      obtain rfl := HFIN.out l ⟨hll, hl1⟩
      have HBA := Lib.hid hba
      have HBR := Lib.hid hbr
      have HLL := Lib.hid hll
      clear hba hbr hll hl1 hl2 hbb HFIN
      go_wp2_with (first | (refine HBA.out.wload rfl rfl rfl Tryz.row16 (by rw [List.length_map, HLL.out]) ?_) | (refine HBR.out.wstore rfl rfl rfl rfl Tryz.row16 (by simp [zeros_length]) (by rw [List.length_map, HLL.out]) (oneCell_B _) ?_))
      intro w6 hb6 ho6
      go_wp2
      refine hb6.result rfl rfl rfl Tryz.row16 (by rw [List.length_map, HLL.out]) ⟨rfl, below_only hbel ho6 (by omega)⟩

end Go.Proofs.YtnkaodjfjllkfaaGreatDoor
/-
  An array or a struct by value, loaded whole in a region that draws its order. No program.
-/
namespace Go
open Go.RowKit Go.Cells

section
variable {P : Program} {ops : Array Oper} {Q : Exit → Act → World → Prop}

theorem run_load_op {o : Oper} {a : Act} {w : World} {ty : TypeId} {x : Operand} {b off n : Nat} {vs : List Value} (hop : o.op = .load ty x) (hx : a.eval x = .pointer (some ⟨b, off, none⟩)) (hr : Row P ty n) (hn : vs.length = n) (h : w.rangeAt b off vs) :
    (execOp a.eval o).run P w = .ok (.value (.agg vs.toArray)) w := by
  obtain ⟨d, hu, hd, hi⟩ := hr.open
  simp [execOp, hop, hx, run_loadAt_mid w b off ty vs d h hu hd (by rw [hi, hn])]

theorem rangeAt_below {w w' : World} {B b off : Nat} {vs : List Value} (h : w.rangeAt b off vs) (hb : Below B w w') (hB : b < B) : w'.rangeAt b off vs := fun j v hv => (hb.cell (p := ⟨b, off + j, none⟩) hB).trans (h j v hv)

theorem walkR_load {i : Nat} {r : List Nat} {o : Oper} {a : Act} {w : World} {ty : TypeId} {x : Operand} {b off n : Nat} {vs : List Value} (h : w.rangeAt b off vs) (hb : b < w.heap.size) (hr : Row P ty n) (hn : vs.length = n)
    (ho : ops[i]? = some o) (hg : o.guard = none) (hop : o.op = .load ty x) (hx : a.eval x = .pointer (some ⟨b, off, none⟩))
    (k : ∀ K : Act → Prop, (∀ a', walkR P ops Q r a' w → K a') → K (a.put o.dst (.agg vs.toArray))) : walkR P ops Q (i :: r) a w :=
  walkR_yes ho (by unfold Oper.kindR; rw [hop]) (by simp [Region.wanted, hg]) (fun w' hw' => run_load_op hop hx hr hn (rangeAt_below h hw' hb)) k

theorem walk0_load {k0 : Act → World → Prop} {i : Nat} {r : List Nat} {o : Oper} {a : Act} {w : World} {ty : TypeId} {x : Operand} {b off n : Nat} {vs : List Value} (h : w.rangeAt b off vs) (hb : b < w.heap.size) (hr : Row P ty n) (hn : vs.length = n)
    (ho : ops[i]? = some o) (hop : o.op = .load ty x) (hx : a.eval x = .pointer (some ⟨b, off, none⟩))
    (k : ∀ K : Act → Prop, (∀ a', walk0 P ops k0 r a' w → K a') → K (a.put o.dst (.agg vs.toArray))) : walk0 P ops k0 (i :: r) a w := by
  simp only [walk0, ho]
  exact ⟨_, fun w' hw' => run_load_op hop hx hr hn (rangeAt_below h hw' hb), k _ fun _ h => h⟩

theorem walkP_load {F : List Floater} {base : Nat} {k0 : Act → World → Prop} {i : Nat} {r : List Nat} {o : Oper} {a : Act} {w : World} {ty : TypeId} {x : Operand} {b off n : Nat} {vs : List Value} (h : w.rangeAt b off vs) (hb : b < w.heap.size) (hr : Row P ty n) (hn : vs.length = n)
    (ho : ops[i]? = some o) (hop : o.op = .load ty x) (hx : a.eval x = .pointer (some ⟨b, off, none⟩))
    (k : ∀ K : Act → Prop, (∀ a', walkP P ops Q F base k0 r a' w → K a') → K (a.put o.dst (.agg vs.toArray))) : walkP P ops Q F base k0 (i :: r) a w := by
  have hk : o.kindR = 0 := by unfold Oper.kindR; rw [hop]
  simp only [walkP, ho, hk, if_true]
  exact ⟨_, fun w' hw' => run_load_op hop hx hr hn (rangeAt_below h hw' hb), k _ fun _ h => h⟩

theorem walkB_load {B i : Nat} {r : List (Nat × Bool)} {o : Oper} {a : Act} {w : World} {ty : TypeId} {x : Operand} {b off n : Nat} {vs : List Value} (h : w.rangeAt b off vs) (hb : b < B) (hr : Row P ty n) (hn : vs.length = n)
    (ho : ops[i]? = some o) (hg : o.guard = none) (hop : o.op = .load ty x) (hx : a.eval x = .pointer (some ⟨b, off, none⟩))
    (k : ∀ K : Act → Prop, (∀ a', walkB B P ops Q r a' w → K a') → K (a.put o.dst (.agg vs.toArray))) : walkB B P ops Q ((i, true) :: r) a w := by
  have hw : Region.wanted o (yielded ops a.tmps) = true := by simp [Region.wanted, hg]
  simp only [walkB, ho, hw, if_true]
  exact ⟨_, fun w' hw' => run_load_op hop hx hr hn (rangeAt_below h hw' hb), k _ fun _ h => h⟩

theorem Blk.rangeIn {w : World} {b : Nat} {vs : List Value} {ty : TypeId} (h : Blk w b vs ty) (off n : Nat) (us : List Value) (hu : (vs.drop off).take n = us) : w.rangeAt b off us := by
  intro j v hv
  subst hu
  rw [List.getElem?_take] at hv
  split at hv
  · rw [List.getElem?_drop] at hv
    exact h.cell _ _ hv
  · cases hv

end
end Go
/-
  The walks of turn: tables made.
-/
namespace Go.Proofs.YtnkaodjfjllkfaaGreatDoor
open Go.RowKit Go.Mem Go.Ops Go.Cells Go.Oct Go.Gf Go.Trn
set_option linter.unusedSimpArgs false
set_option linter.unusedVariables false
set_option maxRecDepth 100000
attribute [local irreducible] walkR walkP walk0 walkB

/-- The type of a block. -/
def tyAt (w : World) (g : Nat) : TypeId := match w.heap[g]? with
  | some (.cells _ t _) => t
  | _ => 0
/-- The program's variables. -/
structure Globals (w : World) : Prop where
  mixes : Blk w 0 (Trn.mixes.map B) (tyAt w 0)
  unmixes : Blk w 1 (Trn.unmixes.map B) (tyAt w 1)

def word0 : List UInt32 := List.replicate 2048 0
theorem word0_length : word0.length = 2048 := by simp [word0]

theorem Tryz.cellsTables0 : Tryz.zeroCells105 = (.pointer none :: word0.map W).toArray := by kernel_rfl
theorem Tryz.cellsTables (p : Nat) : (Value.agg (Tryz.zeroCells105.setIfInBounds 0 (.pointer (some ⟨p, 0, none⟩)))).cells = (.pointer (some ⟨p, 0, none⟩) :: word0.map W).toArray := by
  rw [Tryz.cellsTables0]
  show Array.setIfInBounds _ _ _ = _
  rw [List.setIfInBounds_toArray, List.set_cons_zero]
theorem Tryz.size32 : (Tryz.prog.info? 101).map (·.size) = some 1 := by kernel_rfl

theorem new_ok (p : Nat) (T : List UInt8) (w : World) (hT : T.length = 512) (hb : Blk w p (T.map B) 111) (hg : Globals w) : Calls Tryz.prog 31 #[.pointer (some ⟨p, 0, none⟩)] w fun e w' =>
    ∃ q, e = .returned (.pointer (some ⟨q, 0, none⟩)) ∧ w.heap.size ≤ q ∧ Blk w' q (.pointer (some ⟨p, 0, none⟩) :: (entries T).map W) 105 ∧ Below w.heap.size w w' := by
  have HB := Lib.hid hb
  have HT := Lib.hid hT
  have HG := Lib.hid hg
  clear hb hT hg
  go_enter Tryz.func31, Tryz.ntmps31
  go_wp2_with (refine wpList_box 105 _ (.pointer (some ⟨p, 0, none⟩) :: word0.map W) _ rfl rfl rfl (Tryz.cellsTables p) ?_)
  intro w1 hb1 hbel1
  have hlt1 := hb1.lt
  have HB1 := Lib.hid hb1
  have HBEL1 := Lib.hid hbel1
  have hpw := HB.out.lt
  have hg1 := HG.out.unmixes.lt
  clear hb1 hbel1
  generalize hq : w.heap.size = q at *
  have HQ := Lib.hid hq
  clear hq
  go_wp2
  go_loopw [11] (fun c wr => ∃ (r : Nat) (l : List UInt32), r ≤ 4 ∧ c = .int .i64 r ∧ Laid T (256 * r) l ∧ Blk wr q (.pointer (some ⟨p, 0, none⟩) :: l.map W) 105 ∧ Below q w wr) (fun c _ => 4 - (intOf c).toNat)
  case atStart => exact ⟨0, word0, by omega, rfl, Laid.zero word0_length, HB1.out, HBEL1.out⟩
  case round =>
    obtain ⟨r, l, hr, rfl, hl, hb, hbel⟩ := hrel
    by_cases hlt : r < 4
    · have HBR := Lib.hid hb
      have HLR := Lib.hid hl
      have HBELR := Lib.hid hbel
      have hd : decide ((r : Int) < 4) = true := by simp; omega
      clear hb hl hbel
      go_wp2
      go_loopw [14] (fun c ws => ∃ (a : Nat) (l : List UInt32), a ≤ 256 ∧ c = .int .i64 a ∧ Laid T (256 * r + a) l ∧ Blk ws q (.pointer (some ⟨p, 0, none⟩) :: l.map W) 105 ∧ Below q w ws) (fun c _ => 256 - (intOf c).toNat)
      case atStart => exact ⟨0, l, by omega, rfl, HLR.out, HBR.out, HBELR.out⟩
      case round =>
        obtain ⟨a, l2, ha, rfl, hl2, hb2, hbel2⟩ := hrel
        by_cases hlt2 : a < 256
        · obtain ⟨x, rfl⟩ : ∃ x : UInt8, a = x.toNat := ⟨UInt8.ofNat a, by rw [UInt8.toNat_ofNat_of_lt' (by show _ < 256; omega)]⟩
          have e1 : entry T (256 * r + x.toNat) = brings mixes r (at8 T x.toNat) := by
            unfold entry
            rw [if_pos (by omega), show (256 * r + x.toNat) / 256 = r by omega, show (256 * r + x.toNat) % 256 = x.toNat by omega]
          have e2 : entry T (1024 + (256 * r + x.toNat)) = brings unmixes r x := by
            unfold entry
            rw [if_neg (by omega), show (1024 + (256 * r + x.toNat) - 1024) / 256 = r by omega, show (1024 + (256 * r + x.toNat)) % 256 = x.toNat by omega, UInt8.ofNat_toNat]
          have E1 := Lib.hid e1
          have E2 := Lib.hid e2
          have HB2 := Lib.hid hb2
          have HL2 := Lib.hid hl2
          have HBEL2 := Lib.hid hbel2
          have HG2 := Lib.hid (Blk.below HG.out.mixes hbel2 (by omega)).drew
          clear hb2 hl2 hbel2 e1 e2
          go_wp2_with fail
          refine wp_region_R [0, 1, 2, 3, 4, 5, 6, 7, 10, 11, 12, 8, 9, 13, 14] (by kernel_rfl) (by kernel_rfl) ?_
          rintro w6 rfl
          refine walkR_one rfl rfl (fun K hK => ?_); go_big_quiet_step (fail); refine wpQuiet_nil (hK _ ?_); clear hK K
          refine walkR_one rfl rfl (fun K hK => ?_); go_big_quiet_step (fail); refine wpQuiet_nil (hK _ ?_); clear hK K
          refine walkR_one rfl rfl (fun K hK => ?_); go_big_quiet_step (fail); refine wpQuiet_nil (hK _ ?_); clear hK K
          refine walkR_load (HG2.out.range) HG2.out.lt Tryz.row4 rfl rfl rfl rfl rfl (fun K hK => ?_)
          go_simp
          refine hK _ ?_
          clear hK K
          repeat (refine walkR_one rfl rfl (fun K hK => ?_); go_big_quiet_step (fail); refine wpQuiet_nil (hK _ ?_); clear hK K)
          refine walkR_call rfl rfl (by rfl) (fun K hK => ?_)
          go_simp
          refine (to_ok p T x _ HT.out (HB.out.below (HBEL2.out.drew) hpw)).mono ?_
          rintro e w7 ⟨rfl, rfl⟩
          go_simp
          refine hK _ _ (Later.refl _) ?_
          clear hK K
          refine walkR_call rfl rfl (by rfl) (fun K hK => ?_)
          go_simp
          refine (brings_ok mixes r (at8 T x.toNat) _ rfl hlt).mono ?_
          rintro e w8 ⟨rfl, hbel8⟩
          go_simp
          rw [← E1.out]
          refine hK _ _ hbel8 ?_
          clear hK K
          repeat (refine walkR_one rfl rfl (fun K hK => ?_); go_big_quiet_step (fail); refine wpQuiet_nil (hK _ ?_); clear hK K)
          have HB8 := Lib.hid (HB2.out.drew.below hbel8 HB2.out.lt)
          have HBEL8 := Lib.hid (HBEL2.out.drew.trans (Below.mono hbel8 (Nat.le_of_lt HB2.out.lt)))
          have hi8 : 1 + r * 256 + x.toNat < (.pointer (some ⟨p, 0, none⟩) :: l2.map W : List Value).length := by rw [List.length_cons, List.length_map, HL2.out.1]; omega
          clear hbel8
          refine walkR_free rfl rfl (by rfl) (fun K hK => ?_)
          refine HB8.out.opset (v := W (entry T (256 * r + x.toNat))) rfl rfl rfl Tryz.size32 rfl rfl hi8 (fun w9 hb9 ho9 => hK _ _ ?_)
          clear hK K
          rw [show 1 + r * 256 + x.toNat = (256 * r + x.toNat) + 1 by omega, List.set_cons_succ, mapW_set] at hb9
          have HB9 := Lib.hid hb9
          have HBEL9 := Lib.hid (below_only HBEL8.out ho9 (Nat.le_refl _))
          have HG9 := Lib.hid (Blk.below HG.out.unmixes HBEL9.out (by omega)).drew
          clear hb9 ho9 hi8
          go_simp
          refine walkR_nil ?_
          go_wp2_with fail
          refine wp_region_R [0, 1, 2, 3, 4, 5, 6, 8, 9, 10, 7, 11, 12] (by kernel_rfl) (by kernel_rfl) ?_
          rintro w6 rfl
          refine walkR_one rfl rfl (fun K hK => ?_); go_big_quiet_step (fail); refine wpQuiet_nil (hK _ ?_); clear hK K
          refine walkR_one rfl rfl (fun K hK => ?_); go_big_quiet_step (fail); refine wpQuiet_nil (hK _ ?_); clear hK K
          refine walkR_one rfl rfl (fun K hK => ?_); go_big_quiet_step (fail); refine wpQuiet_nil (hK _ ?_); clear hK K
          refine walkR_load (HG9.out.range) HG9.out.lt Tryz.row4 rfl rfl rfl rfl rfl (fun K hK => ?_)
          go_simp
          refine hK _ ?_
          clear hK K
          repeat (refine walkR_one rfl rfl (fun K hK => ?_); go_big_quiet_step (fail); refine wpQuiet_nil (hK _ ?_); clear hK K)
          refine walkR_call rfl rfl (by rfl) (fun K hK => ?_)
          go_simp
          refine (brings_ok unmixes r x _ rfl hlt).mono ?_
          rintro e w10 ⟨rfl, hbel10⟩
          go_simp
          rw [← E2.out]
          refine hK _ _ hbel10 ?_
          clear hK K
          repeat (refine walkR_one rfl rfl (fun K hK => ?_); go_big_quiet_step (fail); refine wpQuiet_nil (hK _ ?_); clear hK K)
          have HB10 := Lib.hid (HB9.out.drew.below hbel10 HB9.out.lt)
          have HBEL10 := Lib.hid (HBEL9.out.drew.trans (Below.mono hbel10 (Nat.le_of_lt HB9.out.lt)))
          have hi10 : 1025 + r * 256 + x.toNat < (.pointer (some ⟨p, 0, none⟩) :: (l2.set (256 * r + x.toNat) (entry T (256 * r + x.toNat))).map W : List Value).length := by rw [List.length_cons, List.length_map, List.length_set, HL2.out.1]; omega
          clear hbel10
          refine walkR_free rfl rfl (by rfl) (fun K hK => ?_)
          refine HB10.out.opset (v := W (entry T (1024 + (256 * r + x.toNat)))) rfl rfl rfl Tryz.size32 rfl rfl hi10 (fun w11 hb11 ho11 => hK _ _ ?_)
          clear hK K
          rw [show 1025 + r * 256 + x.toNat = (1024 + (256 * r + x.toNat)) + 1 by omega, List.set_cons_succ, mapW_set] at hb11
          have HB11 := Lib.hid hb11
          have HBEL11 := Lib.hid (below_only HBEL10.out ho11 (Nat.le_refl _))
          clear hb11 ho11 hi10
          go_simp
          refine walkR_nil ?_
          go_wp2
          go_roundw
          case rel => exact ⟨x.toNat + 1, _, by omega, rfl, HL2.out.step (by omega), HB11.out, HBEL11.out⟩
          case measure => simp [intOf]; omega
        · obtain rfl : a = 256 := by omega
          have HB2 := Lib.hid hb2
          have HL2 := Lib.hid (show Laid T (256 * (r + 1)) l2 by rw [show 256 * (r + 1) = 256 * r + 256 by omega]; exact hl2)
          have HBEL2 := Lib.hid hbel2
          clear hb2 hl2 hbel2
          go_wp2
          go_roundw
          case rel => exact ⟨r + 1, _, by omega, rfl, HL2.out, HB2.out, HBEL2.out⟩
          case measure => simp [intOf]; omega
    · obtain rfl : r = 4 := by omega
      obtain rfl := Laid.all (T := T) (l := l) hl
      have HB2 := Lib.hid hb
      clear hb hl
      go_wp2
      go_ret
      obtain rfl := HQ.out
      exact ⟨_, rfl, Nat.le_refl _, HB2.out, hbel⟩

end Go.Proofs.YtnkaodjfjllkfaaGreatDoor
/-
  The walks of turn: a round.
-/
namespace Go.Proofs.YtnkaodjfjllkfaaGreatDoor
open Go.RowKit Go.Mem Go.Ops Go.Cells Go.Oct Go.Gf Go.Trn
set_option linter.unusedSimpArgs false
set_option linter.unusedVariables false
set_option maxRecDepth 100000
attribute [local irreducible] walkR walkP walk0 walkB

/-- The tables lie behind the address. -/
structure Tab (w : World) (q p : Nat) : Prop where
  boxes : Blk w p (boxes.map B) 111
  tab : Blk w q (.pointer (some ⟨p, 0, none⟩) :: (entries Gf.boxes).map W) 105

theorem Tab.below {w w' : World} {q p : Nat} (h : Tab w q p) {B : Nat} (hb : Below B w w') (hB : w.heap.size ≤ B) : Tab w' q p :=
  ⟨h.boxes.below hb (Nat.lt_of_lt_of_le h.boxes.lt hB), h.tab.below hb (Nat.lt_of_lt_of_le h.tab.lt hB)⟩
theorem Tab.drew {w : World} {q p : Nat} (h : Tab w q p) : Tab w.drew q p := ⟨h.boxes.drew, h.tab.drew⟩
theorem Tab.only {w w' : World} {q p b : Nat} (h : Tab w q p) (ho : Only b w w') (h1 : p ≠ b) (h2 : q ≠ b) : Tab w' q p := ⟨h.boxes.only ho h1, h.tab.only ho h2⟩
theorem Tab.mix {w : World} {q p : Nat} (h : Tab w q p) (r : Nat) (x : UInt8) (hr : r < 4) : w.cell? ⟨q, 1 + r * 256 + x.toNat, none⟩ = some (W (Trn.tab r x)) := by
  have := lt8 x
  have hx := at32_get (l := entries Gf.boxes) (i := 256 * r + x.toNat) (by rw [entries_length]; omega)
  refine h.tab.cell _ _ ?_
  rw [show 1 + r * 256 + x.toNat = (256 * r + x.toNat) + 1 by omega, List.getElem?_cons_succ]
  exact mapW_at hx
theorem Tab.unmix {w : World} {q p : Nat} (h : Tab w q p) (r : Nat) (x : UInt8) (hr : r < 4) : w.cell? ⟨q, 1025 + r * 256 + x.toNat, none⟩ = some (W (Trn.untab r x)) := by
  have := lt8 x
  have hx := at32_get (l := entries Gf.boxes) (i := 1024 + 256 * r + x.toNat) (by rw [entries_length]; omega)
  refine h.tab.cell _ _ ?_
  rw [show 1025 + r * 256 + x.toNat = (1024 + 256 * r + x.toNat) + 1 by omega, List.getElem?_cons_succ]
  exact mapW_at hx

theorem round_ok (q p : Nat) (b key : List UInt8) (w : World) (ht : Tab w q p) (hlb : b.length = 16) (hlk : key.length = 16) :
    Calls Tryz.prog 187 #[.pointer (some ⟨q, 0, none⟩), .agg (b.map B).toArray, .agg (key.map B).toArray] w fun e w' => e = .returned (.agg ((round b key).map B).toArray) ∧ Below w.heap.size w w' := by
  have HT := Lib.hid ht
  have HLB := Lib.hid hlb
  have HLK := Lib.hid hlk
  clear ht hlb hlk
  go_enter Tryz.func187, Tryz.ntmps187
  go_wp2_with (refine wpList_box 88 _ (b.map B) _ rfl rfl rfl rfl ?_)
  intro w1 hb1 hbel1
  go_wp2_with (refine wpList_box 88 _ (key.map B) _ rfl rfl rfl rfl ?_)
  intro w2 hb2 hbel2
  go_wp2_with (refine wpList_var 88 ((zeros 16).map B) _ rfl rfl Tryz.zero16 rfl ?_)
  intro w3 hb3 hbel3
  go_wp2_with (refine wpList_var 88 ((zeros 16).map B) _ rfl rfl Tryz.zero16 rfl ?_)
  intro w4 hb4 hbel4
  have hlt1 := hb1.lt
  have hlt2 := hb2.lt
  have hlt3 := hb3.lt
  have hlt4 := hb4.lt
  have hlq := HT.out.tab.lt
  have hlp := HT.out.boxes.lt
  have h12 := hbel1.trans (hbel2.mono hbel1.size)
  have h13 := h12.trans (hbel3.mono h12.size)
  have h14 := h13.trans (hbel4.mono h13.size)
  have HB := Lib.hid (((hb1.below hbel2 hlt1).below hbel3 (by omega)).below hbel4 (by omega))
  have HK := Lib.hid ((hb2.below hbel3 hlt2).below hbel4 (by omega))
  have HR := Lib.hid (hb3.below hbel4 hlt3)
  have HO := Lib.hid hb4
  have HBEL := Lib.hid h14
  have HT := Lib.hid (HT.out.below h14 (Nat.le_refl _))
  clear hb1 hb2 hb3 hb4 hbel1 hbel2 hbel3 hbel4 h12 h13 h14
  generalize hbb : w.heap.size = bb at *
  generalize w1.heap.size = bk at *
  generalize w2.heap.size = br at *
  generalize w3.heap.size = bo at *
  have HBB := Lib.hid hbb
  clear hbb
  go_wp2
  go_loopw [15] (fun c wr => ∃ (k : Nat) (l : List UInt8), k ≤ 4 ∧ c = .int .i64 k ∧ Filled (roundAt b key) 16 (4 * k) l ∧ Blk wr bb (b.map B) 88 ∧ Blk wr bk (key.map B) 88 ∧ Blk wr br ((zeros 16).map B) 88 ∧ Blk wr bo (l.map B) 88 ∧ Tab wr q p ∧ Below bb w wr) (fun c _ => 4 - (intOf c).toNat)
  case atStart => exact ⟨0, zeros 16, by omega, rfl, Filled.zero (zeros_length _), HB.out, HK.out, HR.out, HO.out, HT.out, HBEL.out⟩
  case round =>
    clear HB HK HR HO HBEL HT
    obtain ⟨k, l, hk, rfl, hF, hb, hkk, hr, ho, ht, hbel⟩ := hrel
    have HF := Lib.hid hF
    have HB := Lib.hid hb
    have HK := Lib.hid hkk
    have HR := Lib.hid hr
    have HO := Lib.hid ho
    have HT := Lib.hid ht
    have HBEL := Lib.hid hbel
    clear hF hb hkk hr ho ht hbel
    by_cases hlt : k < 4
    · have hd : decide ((k : Int) < 4) = true := by simp; omega
      go_wp2_with fail
      refine (word_ok _ 16 16 (4 * k) key _ HLK.out (by omega) (by omega) HK.out.lies).mono ?_
      rintro e w5 ⟨rfl, hbel5⟩
      have hbw := HB.out.lt
      have HB := Lib.hid (HB.out.below hbel5 HB.out.lt)
      have HK := Lib.hid (HK.out.below hbel5 HK.out.lt)
      have HR := Lib.hid (HR.out.below hbel5 HR.out.lt)
      have HO := Lib.hid (HO.out.below hbel5 HO.out.lt)
      have HT := Lib.hid (HT.out.below hbel5 (Nat.le_refl _))
      have HBEL := Lib.hid (HBEL.out.trans (hbel5.mono (Nat.le_of_lt hbw)))
      have hbw5 := Nat.le_trans (Nat.le_of_lt hbw) hbel5.size
      clear hbel5
      go_wp2
      go_loopw [9, 22] (fun n c ws => ∃ r : Nat, r ≤ 4 ∧ c = .int .i64 r ∧ n = W (roundGo b key k r) ∧ Later w5 ws) (fun _ c _ => 4 - (intOf c).toNat)
      case atStart => exact ⟨0, by omega, rfl, rfl, Later.refl _⟩
      case round =>
        obtain ⟨r, hr, rfl, rfl, hlat⟩ := hrel
        by_cases hlt2 : r < 4
        · have hs : shifted r k < 16 := by unfold shifted; omega
          have hc1 := fun (x : After wr.drew) => (HB.out.below (hlat.drew.trans (Below.mono x.later hlat.size)) HB.out.lt).cell _ _ (mapB_at (at8_get (b := b) (i := shifted r k) (by rw [HLB.out]; exact hs)))
          have hc2 := fun (x : After wr.drew) => (HT.out.below (hlat.drew.trans (Below.mono x.later hlat.size)) (Nat.le_refl _)).mix r (at8 b (shifted r k)) hlt2
          have h8 := lt8 (at8 b (shifted r k))
          go_wp2_with fail
          refine wp_region_R [0, 1, 2, 3, 4, 8, 9, 10, 5, 6, 7, 11, 12, 13, 14] (by kernel_rfl) (by kernel_rfl) ?_
          rintro w6 rfl
          repeat (refine walkR_one rfl rfl (fun K hK => ?_); go_big_quiet_step (fail); refine wpQuiet_nil (hK _ ?_); clear hK K)
          refine walkR_call rfl rfl (by rfl) (fun K hK => ?_)
          go_simp
          refine (shifted_ok r k _ hlt2 hlt).mono ?_
          rintro e w7 ⟨rfl, rfl⟩
          go_simp
          refine hK _ _ (Later.refl _) ?_
          clear hK K
          repeat (refine walkR_one rfl rfl (fun K hK => ?_); go_big_quiet_step (fail); refine wpQuiet_nil (hK _ ?_); clear hK K)
          clear hc1 hc2 hs h8
          refine walkR_nil ?_
          go_wp2
          go_roundw
          case rel => exact ⟨r + 1, by omega, rfl, rfl, hlat.drew⟩
          case measure => simp [intOf]; omega
        · obtain rfl : r = 4 := by omega
          have HB := Lib.hid (HB.out.below hlat HB.out.lt)
          have HK := Lib.hid (HK.out.below hlat HK.out.lt)
          have HR := Lib.hid (HR.out.below hlat HR.out.lt)
          have HO := Lib.hid (HO.out.below hlat HO.out.lt)
          have HT := Lib.hid (HT.out.below hlat (Nat.le_refl _))
          have HBEL := Lib.hid (HBEL.out.trans (Below.mono hlat hbw5))
          have hbw6 := Nat.le_trans hbw5 hlat.size
          clear hlat
          go_wp2_with fail
          refine (putword_ok _ _).mono ?_
          rintro e w8 ⟨rfl, hbel8⟩
          have HB := Lib.hid (HB.out.below hbel8 HB.out.lt)
          have HK := Lib.hid (HK.out.below hbel8 HK.out.lt)
          have HR := Lib.hid (HR.out.below hbel8 HR.out.lt)
          have HO := Lib.hid (HO.out.below hbel8 HO.out.lt)
          have HT := Lib.hid (HT.out.below hbel8 (Nat.le_refl _))
          have HBEL := Lib.hid (HBEL.out.trans (Below.mono hbel8 hbw6))
          have hbw8 := Nat.le_trans hbw6 hbel8.size
          clear hbel8
          go_wp2_with (refine wpList_var 107 ((zeros 4).map B) _ rfl rfl Tryz.zero4 rfl ?_)
          intro w9 hb9 hbel9
          have HB := Lib.hid (HB.out.below hbel9 HB.out.lt)
          have HK := Lib.hid (HK.out.below hbel9 HK.out.lt)
          have HR := Lib.hid (HR.out.below hbel9 HR.out.lt)
          have hol := HO.out.lt
          have HO := Lib.hid (HO.out.below hbel9 HO.out.lt)
          have hbrl := HR.out.lt
          have HT := Lib.hid (HT.out.below hbel9 (Nat.le_refl _))
          have HBEL := Lib.hid (HBEL.out.trans (Below.mono hbel9 hbw8))
          have HW := Lib.hid hb9
          clear hbel9 hb9
          go_wp2_with (refine HW.out.wstore rfl rfl rfl (cs := (putWord (roundGo b key k 4)).map B) rfl Tryz.row4 (by simp [zeros_length]) (by simp [putWord_length]) (oneCell_B _) ?_)
          intro w10 hb10 ho10
          have HB := Lib.hid (HB.out.only ho10 (by omega))
          have HK := Lib.hid (HK.out.only ho10 (by omega))
          have HR := Lib.hid (HR.out.only ho10 (by omega))
          have HO := Lib.hid (HO.out.only ho10 (by omega))
          have HT := Lib.hid (HT.out.only ho10 (by omega) (by omega))
          have HBEL := Lib.hid (below_only HBEL.out ho10 (by omega))
          have HW := Lib.hid hb10
          clear ho10 hb10
          have hsl := fun (w' : World) => run_sliceAt_low (P := Tryz.prog) w' 88 5 16 Tryz.underlying88 Tryz.sizeByte bo 0 (4 * k) (4 * (k : Int)) rfl (by omega)
          rw [Nat.zero_add] at hsl
          go_wp2_with fail
          refine wp_region_R [0, 1, 2, 3, 4] (by kernel_rfl) (by kernel_rfl) ?_
          rintro w11 rfl
          repeat (refine walkR_one rfl rfl (fun K hK => ?_); go_big_quiet_step (fail); refine wpQuiet_nil (hK _ ?_); clear hK K)
          refine walkR_free rfl rfl (by rfl) (fun K hK => ?_)
          refine HO.out.drew.opcopy (4 * k) ((putWord (roundGo b key k 4)).map B) rfl rfl rfl Tryz.underlying22 Tryz.sizeByte (fun _ => rfl) HW.out.drew.lies (by rw [List.length_map, putWord_length]; exact (Nat.min_eq_left (by omega)).symm) (by rw [List.length_map, List.length_map, putWord_length, HF.out.1]; omega) (oneCell_B _) (fun w12 hb12 ho12 => hK _ _ ?_)
          clear hK K hsl
          rw [splice_map] at hb12
          have hF12 := HF.out.splice (m := 4) (cs := putWord (roundGo b key k 4)) (by omega) (putWord_length _) (fun j hj => roundAt_at b key k j hj)
          have HF := Lib.hid (show Filled (roundAt b key) 16 (4 * (k + 1)) (splice l (4 * k) (putWord (roundGo b key k 4))) from hF12)
          have HB := Lib.hid (HB.out.drew.only ho12 (by omega))
          have HK := Lib.hid (HK.out.drew.only ho12 (by omega))
          have HR := Lib.hid (HR.out.drew.only ho12 (by omega))
          have HT := Lib.hid (HT.out.drew.only ho12 (by omega) (by omega))
          have HBEL := Lib.hid (below_only HBEL.out.drew ho12 (by omega))
          have HO := Lib.hid hb12
          clear ho12 hb12 hF12
          go_simp
          refine walkR_nil ?_
          go_wp2
          go_roundw
          case rel => exact ⟨k + 1, _, by omega, rfl, HF.out, HB.out, HK.out, HR.out, HO.out, HT.out, HBEL.out⟩
          case measure => simp [intOf]; omega
    · obtain rfl : k = 4 := by omega
      have e := HF.out.all
      have HE := Lib.hid (show l = round b key from e)
      clear e
      have hl16 := HF.out.1
      go_wp2_with (first | (refine HO.out.wload rfl rfl rfl Tryz.row16 (by rw [List.length_map]; exact hl16) ?_) | (refine HR.out.wstore rfl rfl rfl rfl Tryz.row16 (by simp [zeros_length]) (by rw [List.length_map]; exact hl16) (oneCell_B _) ?_))
      intro w6 hb6 ho6
      have hbel6 := below_only HBEL.out ho6 (by omega)
      go_wp2
      refine hb6.result rfl rfl rfl Tryz.row16 (by rw [List.length_map]; exact hl16) ⟨by rw [HE.out], ?_⟩
      rw [HBB.out]
      exact hbel6

end Go.Proofs.YtnkaodjfjllkfaaGreatDoor
