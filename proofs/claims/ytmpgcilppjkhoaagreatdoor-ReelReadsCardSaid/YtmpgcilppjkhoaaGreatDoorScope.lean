/-
  A scope in which the run comes to a label, from ahead or by a jump back: what stands behind the label is proved once. No program.
-/
import Derived.ScopeJumps
import Derived.WalkKit
namespace Go

/-- What stands behind a label of a row of statements. -/
def afterLabel : Code → Nat → Option Code
  | .seq (.label l') y, l => if l' == l then some y else afterLabel y l
  | .seq x y, l => if (findLabel x l).isNone then afterLabel y l else none
  | _, _ => none

theorem findLabel_after : ∀ (c : Code) (l : Nat) (y : Code), afterLabel c l = some y → findLabel c l = some (.seq .skip y) := by
  intro c l
  fun_induction afterLabel c l with
  | case1 l' y0 l h => intro y hy; simp at hy; subst hy; simp [findLabel, h]
  | case2 l' y0 l h ih => intro y hy; simp [findLabel, h]; exact ih y hy
  | case3 x y0 l hx h ih => intro y hy; simp [findLabel, Option.isNone_iff_eq_none.1 h]; exact ih y hy
  | case4 => intro y hy; cases hy
  | case5 => intro y hy; cases hy

/-- The way to the label: each statement ahead of it; J at it. -/
def wpPre (P : Program) (l : Nat) (J : Act → World → Prop) (Q : Exit → Act → World → Prop) : Code → Act → World → Prop
  | .seq (.label l') y, a, w => if l' == l then J a w else wpPre P l J Q y a w
  | .seq x y, a, w => x.wp P (Exit.then (wpPre P l J Q y) (Exit.jump l J Q)) a w
  | _, _, _ => False

section
variable {P : Program} {a : Act} {w : World} {Q : Exit → Act → World → Prop}

theorem wp_of_pre (l : Nat) (J : Act → World → Prop) : ∀ (c y : Code), afterLabel c l = some y → (∀ a w, J a w → y.wp P (Exit.jump l J Q) a w) → ∀ a w, wpPre P l J Q c a w → c.wp P (Exit.jump l J Q) a w := by
  intro c
  fun_induction afterLabel c l with
  | case1 l' y0 l h =>
    intro y hy hJ a w hp
    simp at hy; subst hy
    simp only [wpPre, h, if_true] at hp
    exact wp_seq (wp_label (hJ _ _ hp))
  | case2 l' y0 l h ih =>
    intro y hy hJ a w hp
    simp only [wpPre, h, Bool.false_eq_true, if_false] at hp
    exact wp_seq (wp_label (ih y hy hJ _ _ hp))
  | case3 x y0 l hx h ih =>
    intro y hy hJ a w hp
    have hp' : x.wp P (Exit.then (wpPre P l J Q y0) (Exit.jump l J Q)) a w := by
      cases x <;> first | exact hp | exact absurd rfl (hx _)
    refine wp_seq (wp_mono hp' ?_)
    intro e a' w' hq
    cases e with
    | normal => exact ih y hy hJ _ _ hq
    | _ => exact hq
  | case4 => intro y hy; cases hy
  | case5 => intro y hy; cases hy

theorem wp_scope_label {c y : Code} (l : Nat) (J : Act → World → Prop) (μ : Act → World → Nat) (hf : afterLabel c l = some y)
    (first : wpPre P l J Q c a w)
    (pass : ∀ a w, J a w → y.wp P (Exit.jump l (fun a' w' => J a' w' ∧ μ a' w' < μ a w) Q) a w) : (Code.scope c).wp P Q a w := by
  have weak : ∀ a w, J a w → y.wp P (Exit.jump l J Q) a w := by
    intro a w hJ
    refine wp_mono (pass a w hJ) ?_
    intro e a' w' hq
    cases e with
    | goto l' => exact ⟨hq.1, hq.2.1⟩
    | _ => exact hq
  refine wp_scope_jumps l J μ (findLabel_after c l y hf) (wp_of_pre l J c y hf weak a w first) ?_
  intro a' w' hJ
  exact wp_seq (wp_skip (pass a' w' hJ))

@[go_sem] theorem Exit.jump_normal (l : Nat) (J : Act → World → Prop) (a : Act) (w : World) : Exit.jump l J Q .normal a w = Q .normal a w := rfl
@[go_sem] theorem Exit.jump_exit (l : Nat) (J : Act → World → Prop) (id : Nat) (a : Act) (w : World) : Exit.jump l J Q (.exit id) a w = Q (.exit id) a w := rfl
@[go_sem] theorem Exit.jump_ret (l : Nat) (J : Act → World → Prop) (a : Act) (w : World) : Exit.jump l J Q .ret a w = Q .ret a w := rfl
@[go_sem] theorem Exit.jump_panic (l : Nat) (J : Act → World → Prop) (ch : List PanicEntry) (a : Act) (w : World) : Exit.jump l J Q (.panic ch) a w = Q (.panic ch) a w := rfl

end
end Go
