/-
  CutSides: for every input the call returns true, and each argument reads behind the call as it read before. No condition.
  The frame was written by the kit's proof-skeleton; the walk is joined in.
-/
import Derived.Test.YtkgckhmfhpnoaaaRows
import Derived.Test.YtkgckhmfhpnoaaaCutAC
import Derived.WalkKit
import Derived.ProofKit
import Derived.OpenShut
import Derived.ShutString
import Derived.ChangeOld
import Derived.Below
import Derived.Lib.SmallJoins
namespace Go.Proofs.Ytkgckhmfhpnoaaa.cutSides
open Go.ChangeShapes Go.WideShapes Go.ChangeAt Go.RowKit
open Go.ChangeMaps (open_string shut_string)
set_option linter.unusedVariables false

theorem own : ownKnob Try.prog.godebug = none := by kernel_rfl
theorem laidOut : laidOutB Try.prog = true := by kernel_rfl

def IsRow (k : IntKind) (w : World) (a : Option Addr) (len cap : Nat) (zs : List Int) : Prop :=
  (a = none ∧ len = 0 ∧ cap = 0 ∧ zs = []) ∨
  ∃ x, a = some x ∧ len ≤ cap ∧ cap ≤ maxLen ∧ zs.length = cap ∧ (∀ i, i < zs.length → w.cell? (x.add i) = some (.int k (zs.getD i 0))) ∧ ∀ n ∈ zs, (Lit.int k n).wf = true

theorem wfU8 {n : Int} (h : (Lit.int .u8 n).wf = true) : ∃ m : Nat, n = m ∧ m ≤ 255 := by
  have h : 0 ≤ n ∧ n ≤ 255 := by simpa [Lit.wf, IntKind.min, IntKind.max, IntKind.signed, IntKind.bits] using h
  exact ⟨n.toNat, by omega, by omega⟩

theorem walk (a0 : Option Addr) (len0 cap0 : Nat) (p q r : Int) (z0 : List Int) (w : World) (w0 : IsRow .u8 w a0 len0 cap0 z0) (w1 : (Lit.int .u8 p).wf = true) (w2 : (Lit.int .u8 q).wf = true) (w3 : (Lit.int .u8 r).wf = true) :
    Calls Try.prog 8 #[.agg #[.slice a0 len0 cap0, .int .u8 p, .int .u8 q, .int .u8 r]] w fun e w' => e = .returned (.bool true) ∧ Below w.heap.size w w' := by
  obtain ⟨bs, h1, h2, h3, h4⟩ := Go.Mem.bytes_of_row w0
  obtain ⟨p, rfl, hp⟩ := wfU8 w1
  obtain ⟨q, rfl, hq⟩ := wfU8 w2
  obtain ⟨r, rfl, hr⟩ := wfU8 w3
  exact sides_law a0 len0 cap0 p q r bs w h1 h3 h2 h4 hp hq hr

set_option maxRecDepth 100000 in
theorem lifted (os : Os) (started : os.Started) (H : Type) (enc : TypeId × Value → H) :
    ReturnsInHanded {} Try.checked os 8 .any (Rows.cutSidesSpec.pre6 enc Try.prog Try.f8 Rows.cutSidesRow.domain false) (Rows.cutSidesSpec.post enc Try.prog Try.f8 false true false false) := by
  refine returnsInHanded_of_change (C := Try.checked) own started (by kernel_rfl) Try.func8
    (ChangeSpec.witness6 (enc := enc) (C := Try.checked) false ⟨#[], #[.agg #[.slice none 0 0, .int .u8 0, .int .u8 0, .int .u8 0]], []⟩ 8 (by kernel_rfl) (by kernel_rfl) (by kernel_rfl) (by kernel_rfl)) ?_
  intro W base args ds gs before hval0 hW hcnd _
  have hval : ∀ (j : Nat) t v, Try.f8.params[j]? = some t → args[j]? = some v → Value.okWide Try.prog W .any base t v := hval0
  have hW' := hW
  obtain ⟨p, q, hA0, hV, rfl, hfz, hnd⟩ := hW
  have hA : DataW.TrodAll enc Try.prog W 0 (fun _ => true) true Try.f8.params.toList args.toList ds p := hA0
  rw [Try.params8] at hA hval
  obtain ⟨v0, vs0, d0, ds0, p0, q0, hargs, rfl, rfl, h0, r0⟩ := trodAll_cons hA
  obtain ⟨rfl, rfl, rfl⟩ := trodAll_nil r0
  obtain rfl : args = #[v0] := by cases args; simp_all
  obtain ⟨rfl, rfl⟩ := trodVars_none hV
  have k0 := h0
  have lt0 : ∀ x ∈ p0, x.block < W.heap.size := by obtain ⟨m, hm⟩ := k0; exact DataW.trod_lt m _ _ _ hm
  obtain ⟨c0, c1, c2, c3, y0, y1, y2, y3, n, rfl, _, _, g0, g1, g2, g3⟩ := Go.Joins.open_agg4 Try.underlying48 (by kernel_rfl) (by kernel_rfl) (hval 0 48 v0 rfl rfl) h0
  obtain ⟨n1, e1, _, w1⟩ := DataW.trod_int Try.underlying5 g1
  obtain ⟨n2, e2, _, w2⟩ := DataW.trod_int Try.underlying5 g2
  obtain ⟨n3, e3, _, w3⟩ := DataW.trod_int Try.underlying5 g3
  obtain rfl : c1 = .int .u8 n1 := by simpa using e1
  obtain rfl : c2 = .int .u8 n2 := by simpa using e2
  obtain rfl : c3 = .int .u8 n3 := by simpa using e3
  obtain ⟨a0, len0, cap0, z0, rfl, w0⟩ : ∃ a0 len0 cap0 zs, c0 = .slice a0 len0 cap0 ∧ IsRow .u8 W a0 len0 cap0 zs := by
    rcases open_ints Try.underlying39 Try.underlying5 (by kernel_rfl) g0 with ⟨hcs, _⟩ | ⟨x, l, c, zs, hcs, _, hl, hm, hz, _, hcell, hwz⟩
    · exact ⟨none, 0, 0, [], by simpa using hcs, .inl ⟨rfl, rfl, rfl, rfl⟩⟩
    · exact ⟨some x, l, c, zs, by simpa using hcs, .inr ⟨_, rfl, hl, hm, by simpa using hz, hcell, hwz⟩⟩
  clear hA0 hval0
  refine (walk a0 len0 cap0 n1 n2 n3 z0 W w0 w1 w2 w3).mono fun e W' ⟨he, bel⟩ => ?_
  subst he
  exact ⟨_, rfl, _, _, _, [], _, [], hW', trodAll_mk1 (shut_bool Try.underlying4 _), (trodAll_cons_mk (Below.trod laidOut (by kernel_rfl) (of_decide_eq_true (by kernel_rfl)) k0 bel lt0) trodAll_mk0), rfl, bel.frame _, fun h => by cases h⟩

theorem over : Rows.cutSidesRow.holds Try.pinned (OpenSpec.ofChange Rows.cutSidesSpec) :=
  OpenClaim.holds_of_wide 8 Try.f8 rfl rfl rfl rfl rfl rfl rfl ⟨rfl, rfl, rfl, rfl, rfl⟩ rfl rfl rfl rfl rfl (by kernel_rfl) Try.func8 (by kernel_rfl)
    (of_decide_eq_true (by kernel_rfl)) (by unfold Func.isWrapper; first | (rw [if_pos (by decide +kernel)]; kernel_rfl) | (rw [if_neg (by decide +kernel)]; exact ⟨rfl, rfl⟩))
    (fun os started H enc _ => lifted os started H enc)

theorem proved : Rows.CutSidesSaid := over
#print axioms proved
end Go.Proofs.Ytkgckhmfhpnoaaa.cutSides
