/-
  Texts of this claim, one behind the other: RegionM RegionJ EzcF.
-/
import Derived.Test.YtnkaodjfjllkfaaGreatDoorM6
import Derived.Test.YtnkaodjfjllkfaaGreatDoorM15
/-
  A region that draws its order, walked once up to a place where two operations are ready: there each of them is met by hand.
-/
namespace Go
open Go.RowKit

/-- What has come up behind an order. -/
def Region.after : List Nat → Array Bool → Array Bool
  | [], l => l
  | i :: r, l => Region.after r (l.setIfInBounds i true)

/-- The order fits: each may be taken first. -/
def Region.checkM (brk : List Nat) (md : Region.Mode) (ops : Array Oper) : List Nat → Array Bool → Bool
  | [], _ => true
  | i :: r, listed =>
    (match ops[i]? with
     | none => false
     | some _ => (Region.ready md ops listed).contains i && Region.freeK brk md ops listed i) &&
    Region.checkM brk md ops r (listed.setIfInBounds i true)

section
variable {P : Program} {ops : Array Oper} {Q : Exit → Act → World → Prop} {md : Region.Mode} {R : World → World → Prop} {brk : List Nat} {C : Act → World → Prop}

def walkM (R : World → World → Prop) (P : Program) (ops : Array Oper) (C : Act → World → Prop) : List Nat → Act → World → Prop
  | [], a, w => C a w
  | i :: r, a, w =>
    match ops[i]? with
    | none => False
    | some o =>
      if Region.wanted o (yielded ops a.tmps) = true then ∃ v, (∀ w', R w w' → (execOp a.eval o).run P w' = .ok (.value v) w') ∧ walkM R P ops C r (a.put o.dst v) w
      else walkM R P ops C r (a.put o.dst undef) w

theorem wpAnyK_prefix (fuel : Nat) (hrf : ∀ a, R a a) (ht : ∀ a b c, R a b → R b c → R a c) (hs : Region.noSelect ops = true) (hQ : ∀ c a w, ¬ Q (.panic c) a w) : ∀ (order : List Nat) (listed : Array Bool) (a : Act) (w : World),
    Region.checkM brk md ops order listed = true → walkM R P ops (wpAnyK R brk P md ops Q fuel (Region.after order listed)) order a w → wpAnyK R brk P md ops Q (order.length + fuel) listed a w
  | [], listed, a, w, _, h => by
    simp only [List.length_nil, Nat.zero_add]
    exact h
  | i :: r, listed, a, w, hB, h => by
    simp only [Region.checkM, Bool.and_eq_true] at hB
    obtain ⟨hB1, hB2⟩ := hB
    have hfu : (i :: r).length + fuel = (r.length + fuel) + 1 := by simp only [List.length_cons]; omega
    rw [hfu]
    cases ho : ops[i]? with
    | none => simp [ho] at hB1
    | some o =>
      simp only [ho, Bool.and_eq_true] at hB1
      simp only [walkM, ho, Region.after] at h
      by_cases hw : Region.wanted o (yielded ops a.tmps) = true
      · rw [if_pos hw] at h
        obtain ⟨v, hv, hr⟩ := h
        obtain ⟨D, hDi, hD, hDu, hDf⟩ := Region.freeK_spec ho hB1.2
        exact wpAnyK_first hrf ht ho (Region.noSelect_spec hs) (fun c a w hq => absurd hq (hQ _ _ _)) D hDi hD (r.length + fuel) listed a w hDu hDf (by simpa using hB1.1) (.inl ⟨hw, hv⟩)
          (wpAnyK_prefix fuel hrf ht hs hQ r _ _ _ hB2 hr)
      · rw [if_neg hw] at h
        obtain ⟨D, hDi, hD, hDu, hDf⟩ := Region.freeK_spec ho hB1.2
        exact wpAnyK_first hrf ht ho (Region.noSelect_spec hs) (fun c a w hq => absurd hq (hQ _ _ _)) D hDi hD (r.length + fuel) listed a w hDu hDf (by simpa using hB1.1) (.inr ⟨by simpa using hw, rfl⟩)
          (wpAnyK_prefix fuel hrf ht hs hQ r _ _ _ hB2 h)

/-- THE LAW: up to the fork. -/
theorem wp_region_M {id : Nat} {l : List Oper} {a : Act} {w : World} (R : World → World → Prop) (brk : List Nat) (order : List Nat) (fuel : Nat) (hrf : ∀ a, R a a) (ht : ∀ a b c, R a b → R b c → R a c) (hm : P.follows .mixedOrders = true)
    (hB : (Region.noSelect l.toArray && (order.length + fuel == l.length) && Region.checkM brk .any l.toArray order (Array.replicate l.length false)) = true)
    (h : ∀ w', w' = w.drew → walkM R P l.toArray (wpAnyK R brk P .any l.toArray (NoPanic Q) fuel (Region.after order (Array.replicate l.length false))) order a w') : (Code.region id l.toArray true).wp P Q a w := by
  simp only [Bool.and_eq_true, beq_iff_eq] at hB
  obtain ⟨⟨hs, hl⟩, hB⟩ := hB
  refine wp_region_noPanic (wp_region_any hm (wpAny_of_K (R := R) (brk := brk) _ _ _ _ ?_))
  have := wpAnyK_prefix (R := R) (brk := brk) (P := P) (Q := NoPanic Q) fuel hrf ht hs (fun c a w hq => hq) order _ a w.drew hB (h _ rfl)
  rw [hl] at this
  exact this

/-- THE FORK: two are ready. -/
theorem wpAnyK_two {fuel i j : Nat} {oi oj : Oper} {listed : Array Bool} {a : Act} {w : World} (hr : Region.ready md ops listed = [i, j]) (hoi : ops[i]? = some oi) (hoj : ops[j]? = some oj)
    (hwi : Region.wanted oi (yielded ops a.tmps) = true) (hwj : Region.wanted oj (yielded ops a.tmps) = true)
    (h1 : ∀ K : Act → World → Prop, (∀ a' w', (brk.contains i = false → R w w') → wpAnyK R brk P md ops Q fuel (listed.setIfInBounds i true) a' w' → K a' w') → oi.wp P a w K Q)
    (h2 : ∀ K : Act → World → Prop, (∀ a' w', (brk.contains j = false → R w w') → wpAnyK R brk P md ops Q fuel (listed.setIfInBounds j true) a' w' → K a' w') → oj.wp P a w K Q) :
    wpAnyK R brk P md ops Q (fuel + 1) listed a w := by
  refine ⟨fun h => (by rw [hr] at h; cases h), fun k hk => ?_⟩
  rw [hr] at hk
  simp only [List.mem_cons, List.not_mem_nil, or_false] at hk
  rcases hk with rfl | rfl
  · unfold wpOp
    simp only [hoi]
    rw [if_pos hwi]
    exact .inl (h1 _ fun _ _ ha hb => ⟨ha, hb⟩)
  · unfold wpOp
    simp only [hoj]
    rw [if_pos hwj]
    exact .inl (h2 _ fun _ _ ha hb => ⟨ha, hb⟩)

/-- Behind the fork. -/
theorem wpAnyK_rest {listed : Array Bool} {a : Act} {w : World} (order : List (Nat × Bool)) (hrf : ∀ a, R a a) (ht : ∀ a b c, R a b → R b c → R a c)
    (hB : (Region.noSelect ops && Region.checkK brk md ops order listed) = true) (h : walkK R brk P ops (NoPanic Q) order a w) : wpAnyK R brk P md ops (NoPanic Q) order.length listed a w := by
  simp only [Bool.and_eq_true] at hB
  exact wpAnyK_of_walk hrf ht hB.1 (fun c a w hq => hq) order listed a w hB.2 h

theorem walkM_nil {a : Act} {w : World} (h : C a w) : walkM R P ops C [] a w := h

theorem walkM_one {i : Nat} {r : List Nat} {o : Oper} {tl : List Oper} {a : Act} {w : World} (hd : ops.toList.drop i = o :: tl) (hk : o.kindR = 0)
    (hh : ∀ K : Act → Prop, (∀ a', walkM R P ops C r a' w → K a') → wpQuiet P ops (AftersK R w) K [o] a) : walkM R P ops C (i :: r) a w := by
  have h := hh (fun a' => walkM R P ops C r a' w) (fun _ h => h)
  have ho : ops[i]? = some o := by
    have := congrArg (·[0]?) hd
    simpa using this
  simp only [wpQuiet] at h
  simp only [walkM, ho]
  by_cases hw : Region.wanted o (yielded ops a.tmps) = true
  · rw [if_pos hw] at h ⊢
    obtain ⟨v, hv, hn⟩ := h
    exact ⟨v, fun w' hw' => run_of_quietAt hk (hv w' ⟨⟨w', hw'⟩, rfl⟩), hn⟩
  · rw [if_neg hw] at h ⊢
    exact h

end
end Go
/-
  A region that draws its order and changes memory of its own: part of it is met by an invariant, whatever of M has come up. No program.
-/
set_option linter.unusedVariables false
namespace Go
open Go.RowKit
section
variable {P : Program} {ops : Array Oper} {Q : Exit → Act → World → Prop} {md : Region.Mode} {R : World → World → Prop} {brk : List Nat}

theorem wpAnyK_fuel : ∀ (n m : Nat) (listed : Array Bool) (a : Act) (w : World), n ≤ m → wpAnyK R brk P md ops Q n listed a w → wpAnyK R brk P md ops Q m listed a w
  | 0, 0, _, _, _, _, h => h
  | 0, m + 1, _, _, _, _, h => ⟨fun _ => h.2, fun i hi => by rw [h.1] at hi; cases hi⟩
  | n + 1, 0, _, _, _, hm, _ => absurd hm (by omega)
  | n + 1, m + 1, _, _, _, hm, h => ⟨h.1, fun i hi => wpOp_mono (fun a w h' => ⟨h'.1, wpAnyK_fuel n m _ a w (by omega) h'.2⟩) (h.2 i hi)⟩
theorem walkM_mono {C C' : Act → World → Prop} (hc : ∀ a w, C a w → C' a w) : ∀ (order : List Nat) (a : Act) (w : World), walkM R P ops C order a w → walkM R P ops C' order a w
  | [], a, w, h => hc a w h
  | i :: r, a, w, h => by
    unfold walkM at h ⊢
    cases ho : ops[i]? with
    | none => rw [ho] at h; exact h
    | some o =>
      simp only [ho] at h ⊢
      by_cases hw : Region.wanted o (yielded ops a.tmps) = true
      · rw [if_pos hw] at h ⊢
        obtain ⟨v, hv, hr⟩ := h
        exact ⟨v, hv, walkM_mono hc r _ _ hr⟩
      · rw [if_neg hw] at h ⊢
        exact walkM_mono hc r _ _ h
theorem wpAnyK_of_I (M : List Nat) (need : List (Nat × List Nat)) (I : (Nat → Bool) → Act → World → Prop) (listed : Array Bool) (N : Nat) (hc : Region.checkI md ops M need listed = true)
    (hstep : ∀ D a w k, k ∈ M → D k = false → (∀ d ∈ needOf need k, D d = true) → I D a w → wpOp P ops Q k (fun a' w' => (brk.contains k = false → R w w') ∧ I (fun j => D j || j == k) a' w') a w)
    (hend : ∀ a w fuel, N ≤ fuel → I (fun j => M.contains j) a w → wpAnyK R brk P md ops Q fuel (Region.plus listed M) a w) :
    ∀ (n : Nat) (D : Nat → Bool) (a : Act) (w : World) (fuel : Nat), (M.filter fun j => !D j).length ≤ n → (∀ j, D j = true → j ∈ M) → (∀ j, D j = true → ∀ d ∈ needOf need j, D d = true) → I D a w → n + N ≤ fuel → wpAnyK R brk P md ops Q fuel (Region.plus listed (M.filter D)) a w
  | 0, D, a, w, fuel, hn, hD, hcl, hI, hf => by
    have hall : ∀ j ∈ M, D j = true := by
      intro j hj
      have h0 := List.eq_nil_of_length_eq_zero (Nat.le_zero.1 hn)
      rw [List.filter_eq_nil_iff] at h0
      have := h0 j hj
      simpa using this
    have e1 : M.filter D = M := List.filter_eq_self.2 hall
    have e2 : D = fun j => M.contains j := by
      funext j
      rw [Bool.eq_iff_iff, List.contains_iff_mem]
      exact ⟨hD j, hall j⟩
    rw [e1]
    exact hend a w fuel (by omega) (e2 ▸ hI)
  | n + 1, D, a, w, fuel, hn, hD, hcl, hI, hf => by
    by_cases h0 : (M.filter fun j => !D j).length = 0
    · exact wpAnyK_of_I M need I listed N hc hstep hend 0 D a w fuel (by omega) hD hcl hI (by omega)
    obtain ⟨f, rfl⟩ : ∃ f, fuel = f + 1 := ⟨fuel - 1, by omega⟩
    unfold Region.checkI at hc
    rw [List.all_eq_true] at hc
    have hS := hc _ (filter_sub D M)
    rw [Bool.or_eq_true, Bool.or_eq_true] at hS
    rcases hS with (hS | hS) | hS
    · exfalso
      have e : M.filter D = M := by simpa using hS
      have hall := List.filter_eq_self.1 e
      have h1 : M.filter (fun j => !D j) = [] := by
        rw [List.filter_eq_nil_iff]
        intro j hj
        simp [hall j hj]
      exact h0 (by rw [h1]; rfl)
    · exfalso
      have : ((M.filter D).all fun k => (needOf need k).all fun d => (M.filter D).contains d) = true := by
        rw [List.all_eq_true]
        intro k hk
        rw [List.all_eq_true]
        intro d hd
        have hk' := (List.mem_filter.1 hk).2
        have hd' := hcl k hk' d hd
        rw [List.contains_iff_mem]
        exact List.mem_filter.2 ⟨hD d hd', hd'⟩
      rw [this] at hS
      cases hS
    · rw [Bool.and_eq_true, List.all_eq_true] at hS
      obtain ⟨h1, h2⟩ := hS
      refine ⟨fun h => (by rw [h] at h1; simp at h1), fun k hk => ?_⟩
      have hk2 := h2 k hk
      simp only [Bool.and_eq_true, List.contains_iff_mem, List.all_eq_true, Bool.not_eq_true'] at hk2
      obtain ⟨⟨hkM, hkS⟩, hneed⟩ := hk2
      have hDk : D k = false := by
        cases hd : D k with
        | false => rfl
        | true => rw [← List.contains_iff_mem] at hkM; have : (M.filter D).contains k = true := by simp [hd]; simpa using hkM
                  rw [this] at hkS; cases hkS
      refine wpOp_mono (fun a' w' h' => ⟨h'.1, ?_⟩) (hstep D a w k hkM hDk (fun d hd => by have := hneed d hd; rw [List.mem_filter] at this; exact this.2) hI)
      rw [← plus_step listed M D k hkM]
      refine wpAnyK_of_I M need I listed N (by unfold Region.checkI; rw [List.all_eq_true]; exact hc) hstep hend n _ a' w' f ?_ ?_ ?_ h'.2 (by omega)
      · -- one less
        have key : ∀ (l : List Nat), k ∈ l → (l.filter fun j => !(D j || j == k)).length < (l.filter fun j => !D j).length := by
          intro l
          induction l with
          | nil => intro h; cases h
          | cons x r ih =>
            intro hm
            have hle : ∀ (l : List Nat), (l.filter fun j => !(D j || j == k)).length ≤ (l.filter fun j => !D j).length := by
              intro l
              induction l with
              | nil => simp
              | cons y s ih2 =>
                by_cases hy : D y = true
                · rw [List.filter_cons_of_neg (by simp [hy]), List.filter_cons_of_neg (by simp [hy])]; exact ih2
                · by_cases hyk : y = k
                  · rw [List.filter_cons_of_neg (by simp [hyk]), List.filter_cons_of_pos (by simp [hy])]; simp only [List.length_cons]; omega
                  · rw [List.filter_cons_of_pos (by simp [hy, hyk]), List.filter_cons_of_pos (by simp [hy])]; simp only [List.length_cons]; omega
            by_cases hx : x = k
            · subst hx
              rw [List.filter_cons_of_neg (by simp), List.filter_cons_of_pos (by simp [hDk]), List.length_cons]
              exact Nat.lt_succ_of_le (hle r)
            · have hr : k ∈ r := by
                rcases List.mem_cons.1 hm with h | h
                · exact absurd h.symm hx
                · exact h
              have := ih hr
              by_cases hdx : D x = true
              · rw [List.filter_cons_of_neg (by simp [hdx]), List.filter_cons_of_neg (by simp [hdx])]; exact this
              · rw [List.filter_cons_of_pos (by simp [hdx, hx]), List.filter_cons_of_pos (by simp [hdx])]; simp only [List.length_cons]; omega
        have := key M hkM
        omega
      · intro j hj
        simp only [Bool.or_eq_true, beq_iff_eq] at hj
        rcases hj with hj | rfl
        · exact hD j hj
        · exact hkM
      · intro j hj d hd
        simp only [Bool.or_eq_true, beq_iff_eq] at hj ⊢
        left
        rcases hj with hj | rfl
        · exact hcl j hj d hd
        · have := hneed d hd
          rw [List.mem_filter] at this
          exact this.2


/-- THE LAW: first the order s0 of what only computes or reads, then M in any order, met by the invariant, then the order s2. -/
theorem wp_region_J {id : Nat} {l : List Oper} {a : Act} {w : World} (R : World → World → Prop) (brk : List Nat) (s0 M : List Nat) (s2 : List (Nat × Bool)) (need : List (Nat × List Nat)) (I : (Nat → Bool) → Act → World → Prop) (hrf : ∀ a, R a a) (ht : ∀ a b c, R a b → R b c → R a c) (hm : P.follows .mixedOrders = true)
    (hB : (Region.noSelect l.toArray && (s0.length + (M.length + s2.length) == l.length) && Region.checkM brk .any l.toArray s0 (Array.replicate l.length false) && Region.checkI .any l.toArray M need (Region.after s0 (Array.replicate l.length false)) &&
      Region.checkK brk .any l.toArray s2 (Region.plus (Region.after s0 (Array.replicate l.length false)) M)) = true)
    (h : ∀ w', w' = w.drew → walkM R P l.toArray (fun a w1 => I (fun _ => false) a w1) s0 a w')
    (hstep : ∀ D a w k, k ∈ M → D k = false → (∀ d ∈ needOf need k, D d = true) → I D a w → wpOp P l.toArray (NoPanic Q) k (fun a' w' => (brk.contains k = false → R w w') ∧ I (fun j => D j || j == k) a' w') a w)
    (hend : ∀ a w, I (fun j => M.contains j) a w → walkK R brk P l.toArray (NoPanic Q) s2 a w) : (Code.region id l.toArray true).wp P Q a w := by
  simp only [Bool.and_eq_true, beq_iff_eq] at hB
  obtain ⟨⟨⟨⟨hs, hl⟩, h0⟩, hI⟩, hR⟩ := hB
  refine wp_region_M R brk s0 (M.length + s2.length) hrf ht hm (by simp only [Bool.and_eq_true, beq_iff_eq]; exact ⟨⟨hs, hl⟩, h0⟩) (fun w' hw' => ?_)
  refine walkM_mono ?_ _ _ _ (h w' hw')
  intro a1 w1 h1
  have := wpAnyK_of_I (R := R) (brk := brk) (P := P) (Q := NoPanic Q) M need I _ s2.length hI hstep (fun a w fuel hf hk => wpAnyK_fuel _ _ _ _ _ hf (wpAnyK_of_walk hrf ht hs (fun c a w hq => hq) s2 _ a w hR (hend a w hk))) M.length (fun _ => false) a1 w1 (M.length + s2.length) (List.length_filter_le _ _) (by simp) (by simp) h1 (Nat.le_refl _)
  rw [show M.filter (fun _ => false) = [] from List.filter_eq_nil_iff.2 (by simp)] at this
  exact this
end
end Go
/-
  What ezcore's Turn needs: the pairs in memory, empty or not; the sum of two calls in a region that draws its order.
-/
set_option linter.unusedSimpArgs false
set_option linter.unusedVariables false
namespace Go
open Go.RowKit Go.Mem Go.Cells
section
variable {P : Program} {ops : Array Oper} {Q : Exit → Act → World → Prop} {R : World → World → Prop} {C : Act → World → Prop}
theorem walkM_load {i : Nat} {r : List Nat} {o : Oper} {a : Act} {w : World} {ty : TypeId} {x : Operand} {b off n : Nat} {vs : List Value} (h : ∀ w', R w w' → w'.rangeAt b off vs) (hr : Row P ty n) (hn : vs.length = n)
    (ho : ops[i]? = some o) (hg : o.guard = none) (hop : o.op = .load ty x) (hx : a.eval x = .pointer (some ⟨b, off, none⟩))
    (k : ∀ K : Act → Prop, (∀ a', walkM R P ops C r a' w → K a') → K (a.put o.dst (.agg vs.toArray))) : walkM R P ops C (i :: r) a w := by
  have hw : Region.wanted o (yielded ops a.tmps) = true := by simp [Region.wanted, hg]
  simp only [walkM, ho, hw, if_true]
  exact ⟨_, fun w' hw' => run_load_op hop hx hr hn (h w' hw'), k _ fun _ h => h⟩
end
end Go
namespace Go.Cells
open Go.RowKit Go.Mem
theorem Blk.grown {w w' : World} {o : Option Nat} {c : Nat} {vs : List Value} {ty : TypeId} (h : Blk w c vs ty) (hg : w.grownBy w' o) (hne : some c ≠ o) : Blk w' c vs ty := (hg.block c h.lt hne).trans h
theorem grown_below {w w' : World} {o : Option Nat} (h : Below w.heap.size w w') : w.grownBy w' o := ⟨h.os, h.tape, h.output, h.size, fun k hk _ => h.block k hk⟩
theorem grown_only {w w' : World} {c : Nat} (h : Only c w w') : w.grownBy w' (some c) := ⟨h.os, h.tape, h.output, by rw [h.size]; exact Nat.le_refl _, fun k _ hne => h.block k (fun e => hne (by rw [e]))⟩
theorem grown_onlyB {w w' : World} {c : Nat} (h : OnlyB c w w') : w.grownBy w' (some c) := ⟨h.os, h.tape, h.output, h.size, fun k hk hne => h.block k hk (fun e => hne (by rw [e]))⟩
theorem St.restart {w0 w : World} {base : Nat} {L : List (Nat × List Value × TypeId)} (h : St w0 base w L) : St w base w L := ⟨Nat.le_trans h.base_le h.bel.size, Below.refl _ _, h.all⟩
theorem St.rebase {w0 w : World} {base : Nat} {L : List (Nat × List Value × TypeId)} (h : St w0 base w L) {B : Nat} (hB : B ≤ w.heap.size) : St w B w L := ⟨hB, Below.refl _ _, h.all⟩
theorem St.restartAt {w0 w : World} {base : Nat} {L : List (Nat × List Value × TypeId)} (h : St w0 base w L) : St w w.heap.size w L := ⟨Nat.le_refl _, Below.refl _ _, h.all⟩
theorem St.grown {w0 w w' : World} {base : Nat} {o : Option Nat} {L : List (Nat × List Value × TypeId)} (h : St w0 base w L) (hg : w.grownBy w' o) (hob : ∀ g, o = some g → base ≤ g) (hne : ∀ e ∈ L, some e.1 ≠ o) : St w0 base w' L :=
  ⟨h.base_le, h.bel.grown hg h.size (fun k hk => hob k hk), fun e he => (h.all e he).grown hg (hne e he)⟩
end Go.Cells
namespace Go.Proofs.YtnkaodjfjllkfaaGreatDoor
open Go.RowKit Go.Mem Go.Ops Go.Cells Go.Oct Go.Gf Go.Trn Go.Aes Go.Ring Go.Ezk Go.Ezh Go.Ezt Go.Ezc Go.CutP Go.Fl
set_option maxRecDepth 100000
attribute [local irreducible] walkR walkP walk0 walkB walkK walkM

/-- The pairs in memory; o is their block, if there is one. -/
def PM (w : World) (pv : Value) (ps : Pairs) (o : Option Nat) : Prop :=
  (∀ p ∈ ps, PairFit p) ∧ ((pv = .slice none 0 0 ∧ ps = [] ∧ o = none) ∨ ∃ g cp tl, o = some g ∧ pv = .slice (some ⟨g, 0, none⟩) ps.length cp ∧ Blk w g ((flatP ps).map B ++ tl) 312)
theorem PM.later {w w' : World} {pv : Value} {ps : Pairs} {o : Option Nat} (h : PM w pv ps o) (hb : Below w.heap.size w w') : PM w' pv ps o :=
  ⟨h.1, h.2.imp id fun ⟨g, cp, tl, e1, e2, e3⟩ => ⟨g, cp, tl, e1, e2, e3.below hb e3.lt⟩⟩
theorem PM.only {w w' : World} {pv : Value} {ps : Pairs} {o : Option Nat} {c : Nat} {vs : List Value} {ty : TypeId} (h : PM w pv ps o) (hc : Blk w c vs ty) (hne : (312 : TypeId) ≠ ty) (ho : Only c w w') : PM w' pv ps o :=
  ⟨h.1, h.2.imp id fun ⟨g, cp, tl, e1, e2, e3⟩ => ⟨g, cp, tl, e1, e2, e3.only ho (e3.ne' hc hne)⟩⟩
theorem PM.rows {w : World} {pv : Value} {ps : Pairs} {o : Option Nat} (h : PM w pv ps o) : ∃ ap cp, pv = .slice ap ps.length cp ∧ RowsN 32 w ap (ps.map pcat) := by
  obtain ⟨hf, ⟨rfl, rfl, _⟩ | ⟨g, cp, tl, _, rfl, hb⟩⟩ := h
  · exact ⟨none, 0, rfl, ⟨by simp, Lies.nil _ _⟩⟩
  · refine ⟨_, cp, rfl, rows_pairs hf ?_⟩
    have := hb.lies.take ((flatP ps).map B).length
    rwa [List.take_left] at this
theorem PM.one {w : World} {pv : Value} {ps : Pairs} {o : Option Nat} (h : PM w pv ps o) : pv.oneCell' = true := by
  obtain ⟨_, ⟨rfl, _⟩ | ⟨g, cp, tl, _, rfl, _⟩⟩ := h <;> rfl
theorem pm_of_own {w : World} {base : Nat} {pv : Value} {ps : Pairs} (hf : ∀ p ∈ ps, PairFit p) (h : w.ownsRow base 312 32 pv ps.length ((flatP ps).map B)) :
    ∃ o, PM w pv ps o ∧ ∀ g, o = some g → base ≤ g ∧ g < w.heap.size := by
  rcases h.2 with ⟨rfl, hn⟩ | ⟨g, cap, cur, rfl, hb, hg, h1, h2, h3, ht⟩
  · exact ⟨none, ⟨hf, .inl ⟨rfl, List.eq_nil_of_length_eq_zero hn, rfl⟩⟩, fun g e => by cases e⟩
  · have hbl : Blk w g ((flatP ps).map B ++ cur.toList.drop (ps.length * 32)) 312 := by
      rw [← ht, List.take_append_drop]
      unfold Blk; rw [hg]
    exact ⟨some g, ⟨hf, .inr ⟨g, cap, _, rfl, rfl, hbl⟩⟩, fun g' e => by cases e; exact ⟨hb, hbl.lt⟩⟩

theorem own_grownBy {w w' : World} {pv v : Value} {ps : Pairs} {o : Option Nat} {base size n : Nat} {e : TypeId} {xs : List Value} (h : w.ownsRow base e size v n xs) (hp : PM w pv ps o) (hne : e ≠ 312) (hg : w.grownBy w' o) : w'.ownsRow base e size v n xs := by
  refine ⟨h.1, h.2.imp id ?_⟩
  rintro ⟨g, cap, cur, hv, hb, hh, rest⟩
  refine ⟨g, cap, cur, hv, hb, (hg.block g (Array.getElem?_eq_some_iff.1 hh).1 (fun e' => ?_)).trans hh, rest⟩
  obtain ⟨_, ⟨_, _, rfl⟩ | ⟨g', cp, tl, rfl, _, hb'⟩⟩ := hp
  · cases e'
  · cases e'
    unfold Blk at hb'
    rw [hh] at hb'
    cases hb'
    exact hne rfl
theorem msgV_setY {pv uv vv : Value} {x y y' : List UInt8} (hx : x.length = 16) (hy : y.length = 16) (hy' : y'.length = 16) : (msgV pv uv vv x y).take 19 ++ y'.map B ++ (msgV pv uv vv x y).drop (19 + (y'.map B).length) = msgV pv uv vv x y' := by
  have e1 : (msgV pv uv vv x y).take 19 = pv :: uv :: vv :: x.map B := by
    show pv :: uv :: vv :: (x.map B ++ y.map B).take 16 = _
    rw [show (16 : Nat) = (x.map B).length by simp [hx], List.take_left]
  rw [e1, List.drop_eq_nil_of_le (by rw [msgV_length hx hy]; simp [hy'])]
  simp [msgV]
theorem msgV_setX {pv uv vv : Value} {x y x' : List UInt8} (hx : x.length = 16) (hx' : x'.length = 16) : (msgV pv uv vv x y).take 3 ++ x'.map B ++ (msgV pv uv vv x y).drop (3 + (x'.map B).length) = msgV pv uv vv x' y := by
  have e1 : (msgV pv uv vv x y).drop (3 + (x'.map B).length) = y.map B := by
    rw [show 3 + (x'.map B).length = 16 + 1 + 1 + 1 by simp [hx']]
    show (x.map B ++ y.map B).drop 16 = _
    rw [show (16 : Nat) = (x.map B).length by simp [hx], List.drop_left]
  rw [e1]
  rfl

theorem ahead_nil (kp : Nat) (k : Parts) (uv vv : Value) (x y : List UInt8) (w : World) :
    Calls Tryz.prog 199 #[.agg (msgV (.slice none 0 0) uv vv x y).toArray, .pointer (some ⟨kp, 0, none⟩)] w fun e w' => e = .returned (.agg ((zeros 16).map B).toArray) ∧ Below w.heap.size w w' := by
  have HS := Lib.hid (St.start w)
  obtain ⟨V, hV⟩ : ∃ V, V = msgV (.slice none 0 0) uv vv x y := ⟨_, rfl⟩
  have HVV := Lib.hid (show V = msgV (.slice none 0 0) uv vv x y ∧ True from ⟨hV, trivial⟩)
  rw [← hV]
  clear hV
  go_enter Tryz.func199, Tryz.ntmps199
  go_wp2_with (refine wpList_box 283 _ (V) _ rfl rfl rfl rfl ?_)
  intro w1 hb hbel; have HS := Lib.hid (HS.out.push hb hbel); have hlt1 := hb.lt; clear hb hbel
  go_wp2_with (refine wpList_var 88 ((zeros 16).map B) _ rfl rfl Tryz.zero16 rfl ?_)
  intro w2 hb hbel; have HS := Lib.hid (HS.out.push hb hbel); have hlt2 := hb.lt; clear hb hbel
  go_wp2_with (refine wpList_var 88 ((zeros 16).map B) _ rfl rfl Tryz.zero16 rfl ?_)
  intro w3 hb hbel; have HS := Lib.hid (HS.out.push hb hbel); have hlt3 := hb.lt; clear hb hbel
  generalize hbb : w.heap.size = bb at *
  generalize w1.heap.size = bw1 at *
  generalize w2.heap.size = bw2 at *
  have HBB := Lib.hid hbb
  clear hbb
  have hc0 := (HS.out.get 2 rfl).cell 0 (.slice none 0 0) (by rw [HVV.out.1]; rfl)
  go_wp2
  go_loopw [12] (fun c wr => c = .int .i64 0 ∧ Hid (St w bb wr [(bw2, (zeros 16).map B, 88), (bw1, (zeros 16).map B, 88), (bb, V, 283)])) (fun c _ => 0)
  case atStart => exact ⟨rfl, HS⟩
  case round =>
    clear HS hc0
    obtain ⟨rfl, HS⟩ := hrel
    go_wp2_with (first | (refine (HS.out.get 0 rfl).wload rfl rfl rfl Tryz.row16 (by simp [zeros_length]) ?_) | (refine (HS.out.get 1 rfl).wstore rfl rfl rfl (cs := (zeros 16).map B) rfl Tryz.row16 (by rw [List.length_map]; exact zeros_length 16) (by rw [List.length_map]; exact zeros_length 16) (oneCell_B _) ?_))
    intro w6 hb6 ho6
    have hbel6 := below_only HS.out.bel ho6 (by omega)
    go_wp2
    refine hb6.result rfl rfl rfl Tryz.row16 (by rw [List.length_map]; exact zeros_length 16) ⟨rfl, by rw [HBB.out]; exact hbel6⟩

theorem behind_nil (kp : Nat) (k : Parts) (uv vv : Value) (x y z : List UInt8) (w : World) (hz : z.length = 16) :
    Calls Tryz.prog 201 #[.agg (msgV (.slice none 0 0) uv vv x y).toArray, .pointer (some ⟨kp, 0, none⟩), .agg (z.map B).toArray] w fun e w' => e = .returned (.agg ((zeros 16).map B).toArray) ∧ Below w.heap.size w w' := by
  have HS := Lib.hid (St.start w)
  obtain ⟨V, hV⟩ : ∃ V, V = msgV (.slice none 0 0) uv vv x y := ⟨_, rfl⟩
  have HVV := Lib.hid (show V = msgV (.slice none 0 0) uv vv x y ∧ True from ⟨hV, trivial⟩)
  rw [← hV]
  clear hV hz
  go_enter Tryz.func201, Tryz.ntmps201
  go_wp2_with (refine wpList_box 283 _ (V) _ rfl rfl rfl rfl ?_)
  intro w1 hb hbel; have HS := Lib.hid (HS.out.push hb hbel); have hlt1 := hb.lt; clear hb hbel
  go_wp2_with (refine wpList_box 88 _ (z.map B) _ rfl rfl rfl rfl ?_)
  intro w2 hb hbel; have HS := Lib.hid (HS.out.push hb hbel); have hlt2 := hb.lt; clear hb hbel
  go_wp2_with (refine wpList_var 88 ((zeros 16).map B) _ rfl rfl Tryz.zero16 rfl ?_)
  intro w3 hb hbel; have HS := Lib.hid (HS.out.push hb hbel); have hlt3 := hb.lt; clear hb hbel
  go_wp2_with (refine wpList_var 88 ((zeros 16).map B) _ rfl rfl Tryz.zero16 rfl ?_)
  intro w4 hb hbel; have HS := Lib.hid (HS.out.push hb hbel); have hlt4 := hb.lt; clear hb hbel
  generalize hbb : w.heap.size = bb at *
  generalize w1.heap.size = bw1 at *
  generalize w2.heap.size = bw2 at *
  generalize w3.heap.size = bw3 at *
  have HBB := Lib.hid hbb
  clear hbb
  have hc0 := (HS.out.get 3 rfl).cell 0 (.slice none 0 0) (by rw [HVV.out.1]; rfl)
  go_wp2
  go_loopw [16] (fun c wr => c = .int .i64 0 ∧ Hid (St w bb wr [(bw3, (zeros 16).map B, 88), (bw2, (zeros 16).map B, 88), (bw1, z.map B, 88), (bb, V, 283)])) (fun c _ => 0)
  case atStart => exact ⟨rfl, HS⟩
  case round =>
    clear HS hc0
    obtain ⟨rfl, HS⟩ := hrel
    go_wp2_with (first | (refine (HS.out.get 0 rfl).wload rfl rfl rfl Tryz.row16 (by simp [zeros_length]) ?_) | (refine (HS.out.get 1 rfl).wstore rfl rfl rfl (cs := (zeros 16).map B) rfl Tryz.row16 (by rw [List.length_map]; exact zeros_length 16) (by rw [List.length_map]; exact zeros_length 16) (oneCell_B _) ?_))
    intro w6 hb6 ho6
    have hbel6 := below_only HS.out.bel ho6 (by omega)
    go_wp2
    refine hb6.result rfl rfl rfl Tryz.row16 (by rw [List.length_map]; exact zeros_length 16) ⟨rfl, by rw [HBB.out]; exact hbel6⟩

theorem ahead_any (kp q p : Nat) (k : Parts) (pv : Value) (ps : Pairs) (o : Option Nat) (uv vv : Value) (x y : List UInt8) (w : World) (hk : EKey w kp q p k) (h : PM w pv ps o) (hb : ps.length ≤ 900) :
    Calls Tryz.prog 199 #[.agg (msgV pv uv vv x y).toArray, .pointer (some ⟨kp, 0, none⟩)] w fun e w' => e = .returned (.agg ((aheadS k 0 (zeros 16) ps).map B).toArray) ∧ PM w' pv (aheadP k 0 ps) o ∧ w.grownBy w' o := by
  obtain ⟨hf, ⟨rfl, rfl, rfl⟩ | ⟨g, cp, tl, rfl, rfl, hp⟩⟩ := h
  · refine (ahead_nil kp k uv vv x y w).mono ?_
    rintro e w' ⟨rfl, hbel⟩
    exact ⟨rfl, ⟨by simp [aheadP], .inl ⟨rfl, rfl, rfl⟩⟩, grown_below hbel⟩
  · refine (ahead_ok kp q p k g ps.length cp ps tl uv vv x y w hk rfl hf hp hb).mono ?_
    rintro e w' ⟨rfl, hb, ho⟩
    exact ⟨rfl, ⟨aheadP_fit k _ _, .inr ⟨g, cp, tl, rfl, by rw [aheadP_length], hb⟩⟩, grown_onlyB ho⟩
theorem behind_any (kp q p : Nat) (k : Parts) (pv : Value) (ps : Pairs) (o : Option Nat) (uv vv : Value) (x y z : List UInt8) (w : World) (hk : EKey w kp q p k) (h : PM w pv ps o) (hb : ps.length ≤ 900) (hz : z.length = 16) :
    Calls Tryz.prog 201 #[.agg (msgV pv uv vv x y).toArray, .pointer (some ⟨kp, 0, none⟩), .agg (z.map B).toArray] w fun e w' => e = .returned (.agg ((behindS k z 0 (zeros 16) ps).map B).toArray) ∧ PM w' pv (behindP k z 0 ps) o ∧ w.grownBy w' o := by
  obtain ⟨hf, ⟨rfl, rfl, rfl⟩ | ⟨g, cp, tl, rfl, rfl, hp⟩⟩ := h
  · refine (behind_nil kp k uv vv x y z w hz).mono ?_
    rintro e w' ⟨rfl, hbel⟩
    exact ⟨rfl, ⟨by simp [behindP], .inl ⟨rfl, rfl, rfl⟩⟩, grown_below hbel⟩
  · refine (behind_ok kp q p k g ps.length cp ps tl uv vv x y z w hk rfl hf hz hp hb).mono ?_
    rintro e w' ⟨rfl, hb, ho⟩
    exact ⟨rfl, ⟨behindP_fit k z _ _, .inr ⟨g, cp, tl, rfl, by rw [behindP_length], hb⟩⟩, grown_onlyB ho⟩
theorem aheadS_length (k : Parts) : ∀ (n : Nat) (s : List UInt8) (ps : Pairs), s.length = 16 → (aheadS k n s ps).length = 16
  | _, _, [], h => h
  | n, s, p :: r, _ => aheadS_length k (n + 1) _ r (plusB_length _)
theorem behindS_length (k : Parts) (z : List UInt8) : ∀ (n : Nat) (s : List UInt8) (ps : Pairs), s.length = 16 → (behindS k z n s ps).length = 16
  | _, _, [], h => h
  | n, s, p :: r, _ => behindS_length k z (n + 1) _ r (plusB_length _)
theorem tailC_length (k : Parts) (u v : List UInt8) : (tailC k u v).length = 16 := by
  unfold tailC
  split
  · exact zeros_length 16
  · split
    · exact plusB_length _
    · exact eBlk_length _ _ _ _

/-- What has come up of a sum of two calls, the first of which writes the block g. -/
structure TI (d2 d5 d6 d7 d8 : Bool) (base : Nat) (w : World) (v2 v5 v6 v7 v8 : Value) (A T S : List UInt8) : Prop where
  r2 : d2 = true → v2 = .agg (A.map B).toArray
  r5 : d5 = true → v5 = .agg (T.map B).toArray
  r6 : d6 = true → ∃ n, v6 = .slice (some ⟨n, 0, none⟩) 2 2 ∧ RowsN 16 w (some ⟨n, 0, none⟩) [A, T] ∧ d2 = true
  r7 : d7 = true → v7 = .agg (S.map B).toArray
  r8 : d8 = true → ∃ n, v8 = .pointer (some ⟨n, 0, none⟩) ∧ base ≤ n ∧ Blk w n ((zeros 16).map B) 88
section
variable {d2 d5 d6 d7 d8 : Bool} {base : Nat} {w w' : World} {v2 v5 v6 v7 v8 : Value} {A T S : List UInt8}
theorem TI.nought : TI false false false false false base w v2 v5 v6 v7 v8 A T S := ⟨fun h => (by cases h), fun h => (by cases h), fun h => (by cases h), fun h => (by cases h), fun h => (by cases h)⟩
theorem TI.later (h : TI d2 d5 d6 d7 d8 base w v2 v5 v6 v7 v8 A T S) (hb : Below w.heap.size w w') : TI d2 d5 d6 d7 d8 base w' v2 v5 v6 v7 v8 A T S :=
  ⟨h.r2, h.r5, fun x => by obtain ⟨n, e, r, s⟩ := h.r6 x; exact ⟨n, e, r.below hb, s⟩, h.r7, fun x => by obtain ⟨n, e, r, s⟩ := h.r8 x; exact ⟨n, e, r, s.below hb s.lt⟩⟩
theorem TI.s2 (h : TI false d5 d6 d7 d8 base w v2 v5 v6 v7 v8 A T S) {o : Option Nat} (ho : w.grownBy w' o) (hg : ∀ g, o = some g → g < base) : TI true d5 d6 d7 d8 base w' (.agg (A.map B).toArray) v5 v6 v7 v8 A T S :=
  ⟨fun _ => rfl, h.r5, fun x => (by obtain ⟨n, e, r, s⟩ := h.r6 x; cases s), h.r7, fun x => (by obtain ⟨n, e, r, s⟩ := h.r8 x; exact ⟨n, e, r, s.grown ho (fun e' => by have := hg n e'.symm; omega)⟩)⟩
theorem TI.s5 (h : TI d2 d5 d6 d7 d8 base w v2 v5 v6 v7 v8 A T S) : TI d2 true d6 d7 d8 base w v2 (.agg (T.map B).toArray) v6 v7 v8 A T S := ⟨h.r2, fun _ => rfl, h.r6, h.r7, h.r8⟩
theorem TI.s6 (h : TI d2 d5 d6 d7 d8 base w v2 v5 v6 v7 v8 A T S) {n : Nat} (hr : RowsN 16 w (some ⟨n, 0, none⟩) [A, T]) (hd : d2 = true) : TI d2 d5 true d7 d8 base w v2 v5 (.slice (some ⟨n, 0, none⟩) 2 2) v7 v8 A T S := ⟨h.r2, h.r5, fun _ => ⟨n, rfl, hr, hd⟩, h.r7, h.r8⟩
theorem TI.s7 (h : TI d2 d5 d6 d7 d8 base w v2 v5 v6 v7 v8 A T S) : TI d2 d5 d6 true d8 base w v2 v5 v6 (.agg (S.map B).toArray) v8 A T S := ⟨h.r2, h.r5, h.r6, fun _ => rfl, h.r8⟩
theorem TI.s8 (h : TI d2 d5 d6 d7 d8 base w v2 v5 v6 v7 v8 A T S) (hB : base ≤ w.heap.size) (hbl : Blk w' w.heap.size ((zeros 16).map B) 88) (hb : Below w.heap.size w w') : TI d2 d5 d6 d7 true base w' v2 v5 v6 v7 (.pointer (some ⟨w.heap.size, 0, none⟩)) A T S := by
  have h' := h.later hb
  exact ⟨h'.r2, h'.r5, h'.r6, h'.r7, fun _ => ⟨_, rfl, hB, hbl⟩⟩
end

end Go.Proofs.YtnkaodjfjllkfaaGreatDoor
