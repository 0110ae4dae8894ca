/-
  What only computes or reads yields a value. No program.
-/
import Derived.Test.YtmpgcilppjkhoaaGreatDoorRegionR
import Derived.Deep.QuietTactic
import Derived.BigQuiet
namespace Go
open Go.RowKit

section
variable {P : Program} {ops : Array Oper} {Q : Exit → Act → World → Prop}

/-- A later world. -/
structure After (w : World) where
  val : World
  later : Later w val
/-- The class of the later worlds, in the form that the library's quiet walk sees through. -/
abbrev Afters (w : World) : World → Prop := fun w' => ∃ x : After w, w' = x.val

instance (w : World) : Nonempty (After w) := ⟨⟨w, Later.refl w⟩⟩

theorem value_bind (s : Sem Value) (w w' : World) (n : Next) (h : Sem.run P (do let x ← s; pure (Next.value x)) w = .ok n w') : ∃ u, n = .value u := by
  rw [Sem.run_bind] at h
  cases hs : s.run P w with
  | ok x w1 =>
    rw [hs] at h
    simp only [Result.andThen, Sem.run_pure] at h
    cases h
    exact ⟨x, rfl⟩
  | halt x w1 => rw [hs] at h; cases h

theorem value_of_kind0 {o : Oper} {ρ : Operand → Value} {w w' : World} {n : Next} (hk : o.kindR = 0) (h : (execOp ρ o).run P w = .ok n w') : ∃ u, n = .value u := by
  unfold Oper.kindR at hk
  unfold execOp at h
  cases hop : o.op
  case call c =>
    simp only [hop] at hk h
    cases hc : c.callee with
    | builtin b =>
      simp only [hc] at hk
      cases b <;> simp only [reduceCtorEq] at hk <;> first
        | (cases hk; done)
        | (simp only [resolve, hc, Sem.run_bind, Sem.run_pure, Result.andThen_ok, invoke, builtin] at h
           exact value_bind _ _ _ _ (by simpa only [Sem.run_bind, Sem.run_pure] using h))
    | value f => simp only [hc] at hk; cases hk
    | invoke r m => simp only [hc] at hk; cases hk
  case pick c a b =>
    simp only [hop] at h
    rw [Sem.run_bind] at h
    cases hp : (asBool (ρ c)).run P w with
    | halt x w1 => rw [hp] at h; cases h
    | ok p w1 =>
      rw [hp] at h
      simp only [Result.andThen, Sem.run_pure] at h
      cases h
      exact ⟨_, rfl⟩
  case nilCheck x =>
    simp only [hop] at h
    split at h
    all_goals try (simp [runtimePanic, goPanic] at h; done)
    all_goals try (rw [Sem.run_pure] at h; cases h; exact ⟨_, rfl⟩)
    all_goals try split at h
    all_goals try (simp [runtimePanic, goPanic] at h; done)
    all_goals try (rw [Sem.run_pure] at h; cases h; exact ⟨_, rfl⟩)
    rw [Sem.run_bind] at h
    cases hp : (program).run P w with
    | halt x w1 => rw [hp] at h; cases h
    | ok p w1 =>
      rw [hp] at h
      simp only [Result.andThen, Sem.run_bind] at h
      split at h
      · split at h
        · simp [unsupported] at h
        · simp only [Sem.run_pure] at h
          cases h
          exact ⟨_, rfl⟩
      · cases h
  all_goals
    simp only [hop] at hk h
    first
      | (cases hk; done)
      | exact value_bind _ _ _ _ h
      | (rw [Sem.run_pure] at h; cases h; exact ⟨_, rfl⟩)

theorem run_of_quietAt {C : World → Prop} {o : Oper} {a : Act} {w : World} {v : Value} (hk : o.kindR = 0) (h : o.quietAt P a C w v) : (execOp a.eval o).run P w = .ok (.value v) w := by
  unfold Oper.quietAt at h
  cases hr : (execOp a.eval o).run P w with
  | halt x w' => rw [hr] at h; exact h.elim
  | ok n w' =>
    obtain ⟨u, rfl⟩ := value_of_kind0 hk hr
    rw [hr] at h
    simp only [Oper.quietUpon] at h
    rw [h.1, h.2]

/-- One operation that only computes or reads, by the library's quiet walk. -/
theorem walkR_one {i : Nat} {r : List Nat} {o : Oper} {tl : List Oper} {a : Act} {w : World} (hd : ops.toList.drop i = o :: tl) (hk : o.kindR = 0)
    (hh : ∀ K : Act → Prop, (∀ a', walkR P ops Q r a' w → K a') → wpQuiet P ops (Afters w) K [o] a) : walkR P ops Q (i :: r) a w := by
  have h := hh (fun a' => walkR P ops Q r a' w) (fun _ h => h)
  have ho : ops[i]? = some o := by
    have := congrArg (·[0]?) hd
    simpa using this
  simp only [wpQuiet] at h
  simp only [walkR, ho, hk, if_true]
  by_cases hw : Region.wanted o (yielded ops a.tmps) = true
  · rw [if_pos hw] at h ⊢
    obtain ⟨v, hv, hn⟩ := h
    exact ⟨v, fun w' hw' => run_of_quietAt hk (hv w' ⟨⟨w', hw'⟩, rfl⟩), hn⟩
  · rw [if_neg hw] at h ⊢
    exact h

end
end Go
