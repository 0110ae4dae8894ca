/-
  The walks of reel: commands of a reader, and the deferred closure.
-/
import Derived.Test.YtmpgcilppjkhoaaGreatDoorReelD
import Derived.Recover
namespace Go.Proofs.YtmpgcilppjkhoaaGreatDoor
open Go.RowKit Go.Mem Go.Ops Go.Cells Go.Oct Go.Reel
set_option linter.unusedSimpArgs false
set_option linter.unusedVariables false
set_option maxRecDepth 100000

theorem op_none (w0 w : World) (rb : Nat) (bs : List UInt8) (hr : Rd w0 w rb bs) (hrb : rb < w.heap.size) (h : opP bs = none) :
    Calls Tryz.prog 26 #[.pointer (some ⟨rb, 0, none⟩)] w fun e w' => e = .panicked Short ∧ w.grownBy w' (some rb) := by
  unfold opP at h
  cases h0 : numP 1 bs with
  | none => exact op_short0 w0 w rb bs hr hrb h0
  | some p =>
  obtain ⟨k, b1⟩ := p
  rw [h0] at h; simp only at h
  cases h1 : numP 1 b1 with
  | none => exact op_short1 w0 w rb bs k b1 hr hrb h0 h1
  | some p =>
  obtain ⟨a, b2⟩ := p
  rw [h1] at h; simp only at h
  cases h2 : numP 4 b2 with
  | none => exact op_short2 w0 w rb bs k b1 a b2 hr hrb h0 h1 h2
  | some p =>
  obtain ⟨n, b3⟩ := p
  rw [h2] at h; simp only at h
  cases h3 : numP 4 b3 with
  | none => exact op_short3 w0 w rb bs k b1 a b2 n b3 hr hrb h0 h1 h2 h3
  | some p =>
  obtain ⟨m, b4⟩ := p
  rw [h3] at h; simp only at h
  cases h4 : bytesP 1 b4 with
  | none => exact op_short4 w0 w rb bs k b1 a b2 n b3 m b4 hr hrb h0 h1 h2 h3 h4
  | some p =>
  obtain ⟨key, b5⟩ := p
  rw [h4] at h; simp only at h
  cases h5 : bytesP 2 b5 with
  | none => exact op_short5 w0 w rb bs k b1 a b2 n b3 m b4 key b5 hr hrb h0 h1 h2 h3 h4 h5
  | some p =>
  obtain ⟨b, b6⟩ := p
  rw [h5] at h; simp only at h
  cases h6 : bytesP 2 b6 with
  | none => exact op_short6 w0 w rb bs k b1 a b2 n b3 m b4 key b5 b b6 hr hrb h0 h1 h2 h3 h4 h5 h6
  | some p =>
    obtain ⟨name, b7⟩ := p
    rw [h6] at h; cases h

theorem op_some (w0 w : World) (rb : Nat) (bs : List UInt8) (c : Cmd) (r : List UInt8) (hr : Rd w0 w rb bs) (hrb : rb < w.heap.size) (h : opP bs = some (c, r)) :
    Calls Tryz.prog 26 #[.pointer (some ⟨rb, 0, none⟩)] w fun e w' => ∃ x : Opr, x.c = c ∧ e = .returned (.agg x.vals.toArray) ∧ NewOp w' w0.heap.size x ∧ Rd w0 w' rb r ∧ w.grownBy w' (some rb) := by
  have herr := (opP_some h).2
  unfold opP at h
  cases h0 : numP 1 bs with
  | none => rw [h0] at h; cases h
  | some p =>
  obtain ⟨k, b1⟩ := p
  rw [h0] at h; simp only at h
  cases h1 : numP 1 b1 with
  | none => rw [h1] at h; cases h
  | some p =>
  obtain ⟨a, b2⟩ := p
  rw [h1] at h; simp only at h
  cases h2 : numP 4 b2 with
  | none => rw [h2] at h; cases h
  | some p =>
  obtain ⟨n, b3⟩ := p
  rw [h2] at h; simp only at h
  cases h3 : numP 4 b3 with
  | none => rw [h3] at h; cases h
  | some p =>
  obtain ⟨m, b4⟩ := p
  rw [h3] at h; simp only at h
  cases h4 : bytesP 1 b4 with
  | none => rw [h4] at h; cases h
  | some p =>
  obtain ⟨key, b5⟩ := p
  rw [h4] at h; simp only at h
  cases h5 : bytesP 2 b5 with
  | none => rw [h5] at h; cases h
  | some p =>
  obtain ⟨b, b6⟩ := p
  rw [h5] at h; simp only at h
  cases h6 : bytesP 2 b6 with
  | none => rw [h6] at h; cases h
  | some p =>
    obtain ⟨name, b7⟩ := p
    rw [h6] at h
    simp only [Option.some.injEq, Prod.mk.injEq] at h
    obtain ⟨rfl, rfl⟩ := h
    exact op_parts w0 w rb bs k b1 a b2 n b3 m b4 key b5 b b6 name b7 hr hrb h0 h1 h2 h3 h4 h5 h6 herr

/-! The deferred closure. -/
theorem catch_idle (p q : Addr) (w : World) :
    CallsD Tryz.prog 25 #[.pointer (some p), .pointer (some q)] .returning w fun e u' w' => e = .returned (.tuple #[]) ∧ u' = .returning ∧ w' = w := by
  refine callsD_of_wpS Tryz.func25 rfl fun c₀ cs hu => ?_
  apply wpS_seq
  apply wpS_region
  simp [wpOpsS, go_sem, recoverD, hu, Tryz.ntmps25, Exit.thenS]
  apply wpS_seq
  apply wpS_region
  simp [wpOpsS, go_sem, Exit.thenS]
  refine wpS_cond (t := false) (by simp [Act.eval, Array.replicate]) ?_
  simp only [Bool.false_eq_true, if_false]
  refine wpS_of_wp (wp_skip ?_)
  cases c₀
  simp_all [bodyPostS, results, Tryz.results25]

theorem Tryz.zeroShort : (Tryz.prog.info? 61).map (·.zero) = some (some (.agg ([] : List Value).toArray)) := by kernel_rfl
theorem Tryz.size_ops : (Tryz.prog.info? 28).map (·.size) = some 1 := by kernel_rfl
theorem Tryz.size_errno : (Tryz.prog.info? 25).map (·.size) = some 1 := by kernel_rfl

theorem catch_short (pb qb base : Nat) (x y : Value) (older : List PanicEntry) (w : World) (hp : Blk w pb [x] 28) (hq : Blk w qb [y] 25) (hne : pb ≠ qb) (hb1 : base ≤ pb) (hb2 : base ≤ qb) :
    CallsD Tryz.prog 25 #[.pointer (some ⟨pb, 0, none⟩), .pointer (some ⟨qb, 0, none⟩)] (.panicking ({ v := .iface 61 (.agg #[]), recovered := false } :: older)) w fun e u' w' =>
      e = .returned (.tuple #[]) ∧ u' = .panicking ({ v := .iface 61 (.agg #[]), recovered := true } :: older) ∧
        Blk w' pb [.slice none 0 0] 28 ∧ Blk w' qb [.int .i64 7] 25 ∧ Below base w w' := by
  have hta : ∀ w : World, (Instr.typeAssert (.iface 61 (.agg #[])) 20 61 true).run Tryz.prog w = .ok (.tuple #[.agg #[], .bool true]) w := fun _ => by kernel_rfl
  have hpl := hp.lt
  have HP := Lib.hid hp
  have HQ := Lib.hid hq
  clear hp hq
  refine callsD_of_wpS Tryz.func25 rfl fun c₀ cs hu => ?_
  have HU := Lib.hid hu
  apply wpS_seq
  apply wpS_region
  simp [wpOpsS, go_sem, recoverD, hu, Tryz.ntmps25, Exit.thenS]
  clear hu
  apply wpS_seq
  apply wpS_region
  simp [wpOpsS, go_sem, Exit.thenS]
  refine wpS_cond (t := true) (by simp [Act.eval, Array.replicate]) ?_
  simp only [if_true]
  refine wpS_of_wp ?_
  simp [Array.replicate]
  go_wp2_with (refine wpList_var 61 [] _ rfl rfl Tryz.zeroShort rfl ?_)
  intro w1 hb hbel
  have HP := Lib.hid (HP.out.below hbel HP.out.lt)
  have HQ := Lib.hid (HQ.out.below hbel HQ.out.lt)
  have HB := Lib.hid (hbel.mono (show base ≤ w.heap.size by omega))
  clear hb hbel
  go_wp2_with (refine HP.out.wset (i := 0) (v := .slice none 0 0) rfl rfl rfl rfl Tryz.size_ops rfl rfl (by simp) ?_)
  intro w2 hb ho
  have HQ := Lib.hid (HQ.out.only ho (Ne.symm hne))
  have HB := Lib.hid (below_only HB.out ho hb1)
  have HP := Lib.hid hb
  clear hb ho
  go_wp2_with (refine HQ.out.wset (i := 0) (v := .int .i64 7) rfl rfl rfl rfl Tryz.size_errno rfl rfl (by simp) ?_)
  intro w3 hb ho
  have HP := Lib.hid (HP.out.only ho hne)
  have HB := Lib.hid (below_only HB.out ho hb2)
  have HQ := Lib.hid hb
  clear hb ho
  go_wp2
  cases c₀
  simp [bodyPostS, results, Tryz.results25]
  exact ⟨HP.out, HQ.out, HB.out⟩

end Go.Proofs.YtmpgcilppjkhoaaGreatDoor
