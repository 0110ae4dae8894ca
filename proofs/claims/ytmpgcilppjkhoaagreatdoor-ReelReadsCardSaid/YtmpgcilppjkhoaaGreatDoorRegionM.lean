/-
  A region that draws its order, walked once up to a place where two operations are ready: there each of them is met by hand.
-/
import Derived.Test.YtmpgcilppjkhoaaGreatDoorRegionK
namespace Go
open Go.RowKit

/-- What has come up behind an order. -/
def Region.after : List Nat → Array Bool → Array Bool
  | [], l => l
  | i :: r, l => Region.after r (l.setIfInBounds i true)

/-- The order fits: each may be taken first. -/
def Region.checkM (brk : List Nat) (md : Region.Mode) (ops : Array Oper) : List Nat → Array Bool → Bool
  | [], _ => true
  | i :: r, listed =>
    (match ops[i]? with
     | none => false
     | some _ => (Region.ready md ops listed).contains i && Region.freeK brk md ops listed i) &&
    Region.checkM brk md ops r (listed.setIfInBounds i true)

section
variable {P : Program} {ops : Array Oper} {Q : Exit → Act → World → Prop} {md : Region.Mode} {R : World → World → Prop} {brk : List Nat} {C : Act → World → Prop}

def walkM (R : World → World → Prop) (P : Program) (ops : Array Oper) (C : Act → World → Prop) : List Nat → Act → World → Prop
  | [], a, w => C a w
  | i :: r, a, w =>
    match ops[i]? with
    | none => False
    | some o =>
      if Region.wanted o (yielded ops a.tmps) = true then ∃ v, (∀ w', R w w' → (execOp a.eval o).run P w' = .ok (.value v) w') ∧ walkM R P ops C r (a.put o.dst v) w
      else walkM R P ops C r (a.put o.dst undef) w

theorem wpAnyK_prefix (fuel : Nat) (hrf : ∀ a, R a a) (ht : ∀ a b c, R a b → R b c → R a c) (hs : Region.noSelect ops = true) (hQ : ∀ c a w, ¬ Q (.panic c) a w) : ∀ (order : List Nat) (listed : Array Bool) (a : Act) (w : World),
    Region.checkM brk md ops order listed = true → walkM R P ops (wpAnyK R brk P md ops Q fuel (Region.after order listed)) order a w → wpAnyK R brk P md ops Q (order.length + fuel) listed a w
  | [], listed, a, w, _, h => by
    simp only [List.length_nil, Nat.zero_add]
    exact h
  | i :: r, listed, a, w, hB, h => by
    simp only [Region.checkM, Bool.and_eq_true] at hB
    obtain ⟨hB1, hB2⟩ := hB
    have hfu : (i :: r).length + fuel = (r.length + fuel) + 1 := by simp only [List.length_cons]; omega
    rw [hfu]
    cases ho : ops[i]? with
    | none => simp [ho] at hB1
    | some o =>
      simp only [ho, Bool.and_eq_true] at hB1
      simp only [walkM, ho, Region.after] at h
      by_cases hw : Region.wanted o (yielded ops a.tmps) = true
      · rw [if_pos hw] at h
        obtain ⟨v, hv, hr⟩ := h
        obtain ⟨D, hDi, hD, hDu, hDf⟩ := Region.freeK_spec ho hB1.2
        exact wpAnyK_first hrf ht ho (Region.noSelect_spec hs) (fun c a w hq => absurd hq (hQ _ _ _)) D hDi hD (r.length + fuel) listed a w hDu hDf (by simpa using hB1.1) (.inl ⟨hw, hv⟩)
          (wpAnyK_prefix fuel hrf ht hs hQ r _ _ _ hB2 hr)
      · rw [if_neg hw] at h
        obtain ⟨D, hDi, hD, hDu, hDf⟩ := Region.freeK_spec ho hB1.2
        exact wpAnyK_first hrf ht ho (Region.noSelect_spec hs) (fun c a w hq => absurd hq (hQ _ _ _)) D hDi hD (r.length + fuel) listed a w hDu hDf (by simpa using hB1.1) (.inr ⟨by simpa using hw, rfl⟩)
          (wpAnyK_prefix fuel hrf ht hs hQ r _ _ _ hB2 h)

/-- THE LAW: up to the fork. -/
theorem wp_region_M {id : Nat} {l : List Oper} {a : Act} {w : World} (R : World → World → Prop) (brk : List Nat) (order : List Nat) (fuel : Nat) (hrf : ∀ a, R a a) (ht : ∀ a b c, R a b → R b c → R a c) (hm : P.follows .mixedOrders = true)
    (hB : (Region.noSelect l.toArray && (order.length + fuel == l.length) && Region.checkM brk .any l.toArray order (Array.replicate l.length false)) = true)
    (h : ∀ w', w' = w.drew → walkM R P l.toArray (wpAnyK R brk P .any l.toArray (NoPanic Q) fuel (Region.after order (Array.replicate l.length false))) order a w') : (Code.region id l.toArray true).wp P Q a w := by
  simp only [Bool.and_eq_true, beq_iff_eq] at hB
  obtain ⟨⟨hs, hl⟩, hB⟩ := hB
  refine wp_region_noPanic (wp_region_any hm (wpAny_of_K (R := R) (brk := brk) _ _ _ _ ?_))
  have := wpAnyK_prefix (R := R) (brk := brk) (P := P) (Q := NoPanic Q) fuel hrf ht hs (fun c a w hq => hq) order _ a w.drew hB (h _ rfl)
  rw [hl] at this
  exact this

/-- THE FORK: two are ready. -/
theorem wpAnyK_two {fuel i j : Nat} {oi oj : Oper} {listed : Array Bool} {a : Act} {w : World} (hr : Region.ready md ops listed = [i, j]) (hoi : ops[i]? = some oi) (hoj : ops[j]? = some oj)
    (hwi : Region.wanted oi (yielded ops a.tmps) = true) (hwj : Region.wanted oj (yielded ops a.tmps) = true)
    (h1 : ∀ K : Act → World → Prop, (∀ a' w', (brk.contains i = false → R w w') → wpAnyK R brk P md ops Q fuel (listed.setIfInBounds i true) a' w' → K a' w') → oi.wp P a w K Q)
    (h2 : ∀ K : Act → World → Prop, (∀ a' w', (brk.contains j = false → R w w') → wpAnyK R brk P md ops Q fuel (listed.setIfInBounds j true) a' w' → K a' w') → oj.wp P a w K Q) :
    wpAnyK R brk P md ops Q (fuel + 1) listed a w := by
  refine ⟨fun h => (by rw [hr] at h; cases h), fun k hk => ?_⟩
  rw [hr] at hk
  simp only [List.mem_cons, List.not_mem_nil, or_false] at hk
  rcases hk with rfl | rfl
  · unfold wpOp
    simp only [hoi]
    rw [if_pos hwi]
    exact .inl (h1 _ fun _ _ ha hb => ⟨ha, hb⟩)
  · unfold wpOp
    simp only [hoj]
    rw [if_pos hwj]
    exact .inl (h2 _ fun _ _ ha hb => ⟨ha, hb⟩)

/-- Behind the fork. -/
theorem wpAnyK_rest {listed : Array Bool} {a : Act} {w : World} (order : List (Nat × Bool)) (hrf : ∀ a, R a a) (ht : ∀ a b c, R a b → R b c → R a c)
    (hB : (Region.noSelect ops && Region.checkK brk md ops order listed) = true) (h : walkK R brk P ops (NoPanic Q) order a w) : wpAnyK R brk P md ops (NoPanic Q) order.length listed a w := by
  simp only [Bool.and_eq_true] at hB
  exact wpAnyK_of_walk hrf ht hB.1 (fun c a w hq => hq) order listed a w hB.2 h

theorem walkM_nil {a : Act} {w : World} (h : C a w) : walkM R P ops C [] a w := h

theorem walkM_one {i : Nat} {r : List Nat} {o : Oper} {tl : List Oper} {a : Act} {w : World} (hd : ops.toList.drop i = o :: tl) (hk : o.kindR = 0)
    (hh : ∀ K : Act → Prop, (∀ a', walkM R P ops C r a' w → K a') → wpQuiet P ops (AftersK R w) K [o] a) : walkM R P ops C (i :: r) a w := by
  have h := hh (fun a' => walkM R P ops C r a' w) (fun _ h => h)
  have ho : ops[i]? = some o := by
    have := congrArg (·[0]?) hd
    simpa using this
  simp only [wpQuiet] at h
  simp only [walkM, ho]
  by_cases hw : Region.wanted o (yielded ops a.tmps) = true
  · rw [if_pos hw] at h ⊢
    obtain ⟨v, hv, hn⟩ := h
    exact ⟨v, fun w' hw' => run_of_quietAt hk (hv w' ⟨⟨w', hw'⟩, rfl⟩), hn⟩
  · rw [if_neg hw] at h ⊢
    exact h

end
end Go
