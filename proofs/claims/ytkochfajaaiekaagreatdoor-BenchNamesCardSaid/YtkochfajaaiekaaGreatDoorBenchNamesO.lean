/-
  BenchNames: for every input the call returns true, and each argument reads behind the call as it read before; the four listed variables are tied to the program's text. No condition.
-/
import Derived.Test.YtkochfajaaiekaaGreatDoorY34
import Derived.Test.YtkochfajaaiekaaGreatDoorY18
import Derived.Test.YtkochfajaaiekaaGreatDoorY32
import Derived.Test.YtkochfajaaiekaaGreatDoorY8
import Derived.Test.YtkochfajaaiekaaGreatDoorTie
import Derived.Test.YtkochfajaaiekaaGreatDoorCards
import Derived.WalkKit
import Derived.ProofKit
import Derived.OpenShut
import Derived.ChangeOld
import Derived.Below
import Derived.LaidMore
import Derived.Lib.SmallJoins
import Derived.Stop.Joined
import Derived.SevenTiedAt
import Derived.JoinedOf
import Derived.ChangeArms
namespace Go.Proofs.YtkochfajaaiekaaGreatDoor.benchNames
open Go.ChangeShapes Go.WideShapes Go.ChangeAt Go.RowKit
set_option linter.unusedVariables false

theorem own : ownKnob Tryz.prog.godebug = none := by kernel_rfl
theorem laidOut : laidOutB Tryz.prog = true := by kernel_rfl

set_option maxRecDepth 100000 in
theorem lifted (os : Os) (started : os.Started) (H : Type) (enc : TypeId × Value → H) :
    ReturnsInHanded {} Tryz.checked os 5 .any (fun w args => (Rows.benchNamesSpec.pre enc Tryz.prog Tryz.f5 [] false w args ∧ laidMetH Tryz.prog laid4 w) ∧ sizedMet enc Tryz.prog Tryz.f5 (OpenSpec.ofChange Rows.benchNamesSpec) false w args)
      (Rows.benchNamesSpec.post enc Tryz.prog Tryz.f5 false true false false) := by
  refine returnsInHanded_of_change_and (C := Tryz.checked) (X := fun w _ => laidMetH Tryz.prog laid4 w) (fun _ _ _ hh h => h.of_heap hh) own started (by kernel_rfl) Tryz.func5
    (ChangeSpec.witness_shaped (enc := enc) (C := Tryz.checked) (os := os) (X := fun w _ => laidMetH Tryz.prog laid4 w) false (World.doorLaid Tryz.prog 300 os) #[.agg #[.slice none 0 0, .slice none 0 0, .int .i64 0, .string ⟨#[]⟩]] 8 rfl (World.shaped_of_RefB (by kernel_rfl) (by kernel_rfl)) (by kernel_rfl) (by kernel_rfl) (by kernel_rfl) (door_met os _)) ?_
  intro W base args ds gs before hval0 hW _ _ hL _
  have hval : ∀ (j : Nat) t v, Tryz.f5.params[j]? = some t → args[j]? = some v → Value.okWide Tryz.prog W .any base t v := hval0
  have hW' := hW
  obtain ⟨p, q, hA0, hV, rfl, hfz, hnd⟩ := hW
  have hA : DataW.TrodAll enc Tryz.prog W 0 (fun _ => true) true Tryz.f5.params.toList args.toList ds p := hA0
  rw [Tryz.params5] at hA hval
  obtain ⟨v0, vs0, d0, ds0, p0, q0, hargs0, hds0, hps0, h0, r0⟩ := trodAll_cons hA
  obtain ⟨hn1, hn2, hn3⟩ := trodAll_nil r0
  subst hn1 hn2 hn3
  obtain rfl : args = #[v0] := by cases args; simp_all
  subst hds0 hps0
  obtain ⟨rfl, rfl⟩ := trodVars_none hV
  have k0 := h0
  have lt0 : ∀ x ∈ p0, x.block < W.heap.size := by obtain ⟨m, hm⟩ := k0; exact DataW.trod_lt m _ _ _ hm
  obtain ⟨c0, c1, c2, c3, y0, y1, y2, y3, n, rfl, _, _, g0, g1, g2, g3⟩ := Go.Joins.open_agg4 Tryz.underlying45 (by kernel_rfl) (by kernel_rfl) (hval 0 45 v0 rfl rfl) h0
  obtain ⟨a0_1, k0_1, xs0_1, e0, hc0_1, hm0_1, hr0_1⟩ := open_ops Tryz.underlying22 Tryz.underlying40 (by kernel_rfl) rfl Tryz.underlying3 Tryz.underlying23 Tryz.underlying5 Tryz.underlying9 (by kernel_rfl) (by kernel_rfl) (by kernel_rfl) (by kernel_rfl) g0
  obtain rfl : c0 = .slice a0_1 xs0_1.length k0_1 := by simpa using e0
  obtain ⟨a0_2, k0_2, xs0_2, e1, hc0_2, hm0_2, hr0_2⟩ := open_ops Tryz.underlying22 Tryz.underlying40 (by kernel_rfl) rfl Tryz.underlying3 Tryz.underlying23 Tryz.underlying5 Tryz.underlying9 (by kernel_rfl) (by kernel_rfl) (by kernel_rfl) (by kernel_rfl) g1
  obtain rfl : c1 = .slice a0_2 xs0_2.length k0_2 := by simpa using e1
  obtain ⟨n0, e2, _, wf0⟩ := DataW.trod_int Tryz.underlying3 g2
  obtain rfl : c2 = .int .i64 n0 := by simpa using e2
  obtain ⟨s0, e3, _, m0⟩ := DataW.trod_string Tryz.underlying9 g3
  obtain rfl : c3 = .string s0 := by simpa using e3
  obtain ⟨t0, hs0⟩ : ∃ l : List UInt8, s0 = str l := ⟨s0.data.toList, rfl⟩
  subst hs0
  have ⟨hg, hbg⟩ := DA hL
  clear hA0 hval0
  have walk : Calls Tryz.prog 5 #[.agg #[.slice a0_1 xs0_1.length k0_1, .slice a0_2 xs0_2.length k0_2, .int .i64 n0, .string (str t0)]] W fun e w' => e = .returned (.bool true) ∧ Below W.heap.size W w' := bnames_law a0_1 _ k0_1 xs0_1 a0_2 _ k0_2 xs0_2 n0 t0 W rfl hr0_1 (Nat.le_trans hc0_1 hm0_1) rfl hr0_2 (Nat.le_trans hc0_2 hm0_2) (YZ wf0) (by simpa [str, ByteArray.size] using m0) hg hbg
  refine walk.mono fun e W' ⟨he, bel⟩ => ?_
  subst he
  exact ⟨_, rfl, _, _, _, [], _, [], hW', trodAll_mk1 (shut_bool Tryz.underlying4 _), (trodAll_cons_mk (Below.trod laidOut (by kernel_rfl) (of_decide_eq_true (by kernel_rfl)) k0 bel lt0) trodAll_mk0), rfl, bel.frame _, fun h => by cases h⟩

theorem and2 {a b : Bool} (h : a = true) (k : b = true) : (a && b) = true := by rw [h, k]; rfl
theorem joined_of (P : Program) (f : FuncId) (fn : Func) (s : ChangeSpec) (c : OpenClaim) (h1 : c.wf (OpenSpec.ofChange s) = true) (h2 : laidOutB P = true) (h3 : mapsRowed P = true) (h4 : fn.params.all (P.readableRec ·) = true) (h5 : namedTie P c.named s.vars = true)
    (h6 : ((c.stops == []) && (P.stops == []) && (c.knobs == []) && (P.stopKnobs == [])) = true) (h7 : (c.inPlace == P.inPlace f) = true) (h8 : (c.unfollowed == P.unfollowed f) = true) (h9 : (c.recurses == P.recurses f) = true) (h10 : (c.named == P.varsNamed f) = true)
    (h11 : (c.maps == (fn.params.toList ++ s.plain.varTypes P).any (P.mapsRec ·)) = true) (h12 : (c.ifaces == (fn.params.toList ++ s.plain.varTypes P).any (P.ifacesRec ·)) = true) (h13 : (c.mapsOut == P.mapsAmong fn.resultTypes.toList) = true)
    (h14 : (c.loops == (fn.params.toList ++ s.plain.varTypes P).any (P.loopsFrom ·)) = true) (h15 : (c.wideKeys == (fn.params.toList ++ s.plain.varTypes P ++ fn.resultTypes.toList).any (P.wideKeysFrom ·)) = true)
    (h16 : s.vars.all (P.varReadable ·) = true) (h17 : fn.resultTypes.all (fun t => P.readableRec t && decide (t < P.types.size)) = true) (h18 : (c.ifacesOut == fn.resultTypes.toList.any (P.ifacesRec ·)) = true) (h19 : (c.loopsOut == fn.resultTypes.toList.any (P.loopsFrom ·)) = true) (h20 : (c.plainKeys == P.plainKeys) = true) (h21 : c.shortTexts.isNone = true)
    (h22 : P.stopsHeard = true) (h23 : P.mayEnter = true) (h24 : (c.lifted == P.liftsFinal) = true) (h25 : (P.make == some c.make) = true) (h26 : (c.kinds == (if c.domain.isEmpty then [] else fn.params.toList.map fun t => match P.underlying t with | some (.int k) => some k | _ => none)) = true) (h27 : (c.pinned == c.pinnedBy) = true)
    (h28 : (c.veiled == (fn.params.toList ++ s.plain.varTypes P ++ fn.resultTypes.toList).any (P.veiledRec ·)) = true) (h29 : c.veiledFits P fn.params.toList (fn.params.toList ++ s.plain.varTypes P ++ fn.resultTypes.toList) = true) : joinedFacts P f fn s c = true := by
  simp only [Bool.and_eq_true] at h6
  obtain ⟨⟨⟨h6a, h6b⟩, h6c⟩, h6d⟩ := h6
  exact (and2 (and2 (and2 (and2 (and2 (and2 (and2 (and2 (and2 (and2 (and2 (and2 (and2 (and2 (and2 (and2 (and2 (and2 (and2 (and2 (and2 (and2 (and2 (and2 (and2 (and2 (and2 (and2 (and2 (and2 (and2 h1 h2) h3) h4) h5) h6a) h6b) h6c) h6d) h7) h8) h9) h10) h11) h12) h13) h14) h15) h16) h17) h18) h19) h20) h21) h22) h23) h24) h25) h26) h27) h28) h29)

set_option maxHeartbeats 4000000 in
theorem closed : joinedFacts Tryz.pinned.checked.prog 5 Tryz.f5 Rows.benchNamesSpec Rows.benchNamesRow = true :=
  joined_of Tryz.pinned.checked.prog 5 Tryz.f5 Rows.benchNamesSpec Rows.benchNamesRow (by as_aux_lemma => kernel_rfl) (by as_aux_lemma => kernel_rfl) (by as_aux_lemma => kernel_rfl) (by as_aux_lemma => kernel_rfl) (by as_aux_lemma => kernel_rfl) (by as_aux_lemma => kernel_rfl) (by as_aux_lemma => kernel_rfl) (by as_aux_lemma => kernel_rfl) (by as_aux_lemma => kernel_rfl) (by as_aux_lemma => kernel_rfl) (by as_aux_lemma => kernel_rfl) (by as_aux_lemma => kernel_rfl) (by as_aux_lemma => kernel_rfl) (by as_aux_lemma => kernel_rfl) (by as_aux_lemma => kernel_rfl) (by as_aux_lemma => kernel_rfl) (by as_aux_lemma => kernel_rfl) (by as_aux_lemma => kernel_rfl) (by as_aux_lemma => kernel_rfl) (by as_aux_lemma => kernel_rfl) (by as_aux_lemma => kernel_rfl) (by as_aux_lemma => kernel_rfl) (by as_aux_lemma => kernel_rfl) (by as_aux_lemma => kernel_rfl) (by as_aux_lemma => kernel_rfl) (by as_aux_lemma => kernel_rfl) (by as_aux_lemma => kernel_rfl) (by as_aux_lemma => kernel_rfl) (by as_aux_lemma => kernel_rfl)

theorem over : Rows.benchNamesRow.holds Tryz.pinned (OpenSpec.ofChange Rows.benchNamesSpec) :=
  OpenClaim.holds_of_wide 5 Tryz.f5 rfl rfl rfl rfl rfl rfl rfl ⟨rfl, rfl, rfl, rfl, rfl⟩ rfl rfl rfl rfl rfl (by as_aux_lemma => kernel_rfl) Tryz.func5 closed
    (of_decide_eq_true (by as_aux_lemma => kernel_rfl)) (by unfold Func.isWrapper; first | (rw [if_pos (by decide +kernel)]; kernel_rfl) | (rw [if_neg (by decide +kernel)]; exact ⟨rfl, rfl⟩))
    (fun os started H enc _ => lifted os started H enc)

end Go.Proofs.YtkochfajaaiekaaGreatDoor.benchNames
