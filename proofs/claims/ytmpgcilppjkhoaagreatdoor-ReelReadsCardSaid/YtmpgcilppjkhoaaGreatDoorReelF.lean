/-
  The walk of reel.Read.
-/
import Derived.Test.YtmpgcilppjkhoaaGreatDoorReelE
import Derived.Test.YtmpgcilppjkhoaaGreatDoorBuild
import Derived.Deep.RegionWith
namespace Go.Proofs.YtmpgcilppjkhoaaGreatDoor
open Go.RowKit Go.Mem Go.Ops Go.Cells Go.Oct Go.Reel
set_option linter.unusedSimpArgs false
set_option linter.unusedVariables false
set_option maxRecDepth 100000
attribute [local irreducible] walkK

theorem Tryz.zeroOps : (Tryz.prog.info? 28).map (·.zero) = some (some (.slice none 0 0)) := by kernel_rfl
theorem Tryz.zeroErrno : (Tryz.prog.info? 25).map (·.zero) = some (some (.int .i64 0)) := by kernel_rfl
theorem Tryz.infoOp : (Tryz.prog.info? 39).map (fun i => (i.zero, i.size, i.bytes)) = some (some (.agg (Go.Proofs.YtmpgcilppjkhoaaGreatDoor.zeroOp).toArray), 7, 96) := by kernel_rfl
theorem Tryz.zsOp : (Tryz.prog.info? 39).map (fun i => (i.zero, i.size)) = some (some (.agg (Go.Proofs.YtmpgcilppjkhoaaGreatDoor.zeroOp).toArray), 7) := by kernel_rfl

/-- One block is as it was. -/
def SameAt (b : Nat) (w w' : World) : Prop := w'.heap[b]? = w.heap[b]?
instance (b : Nat) (w : World) : Nonempty (AfterK (SameAt b) w) := ⟨⟨w, rfl⟩⟩

/-- The commands so far. -/
def opsV (xs : List Opr) : List Value := (xs.map Opr.vals).flatten
theorem opsV_snoc (xs : List Opr) (x : Opr) : opsV (xs ++ [x]) = opsV xs ++ x.vals := by simp [opsV]

theorem NewOp.later {w w' : World} {base : Nat} {x : Opr} (h : NewOp w base x) (hb : Below w.heap.size w w') : NewOp w' base x := ⟨h.key.later hb, h.b.later hb, h.err⟩
theorem NewOp.only {w w' : World} {base b : Nat} {x : Opr} {vs : List Value} {ty : TypeId} (h : NewOp w base x) (ho : Only b w w') (hb : Blk w b vs ty) (hne : 5 ≠ ty) : NewOp w' base x := ⟨h.key.only ho hb hne, h.b.only ho hb hne, h.err⟩
theorem NewOp.grown {w0 w w' : World} {base rb : Nat} {q : List UInt8} {x : Opr} (h : NewOp w base x) (hr : Rd w0 w rb q) (hg : w.grownBy w' (some rb)) : NewOp w' base x := ⟨own_grown (w0 := w0) h.key hr hg, own_grown (w0 := w0) h.b hr hg, h.err⟩
theorem own_apart {w : World} {base base' n n' size size' : Nat} {v v' : Value} {e e' : TypeId} {xs xs' : List Value} (h : w.ownsRow base e size v n xs) (h' : w.ownsRow base' e' size' v' n' xs') (hne : e ≠ e') : v.ownBlock = none ∨ v.ownBlock ≠ v'.ownBlock := by
  cases hk : v.ownBlock with
  | none => exact .inl rfl
  | some k =>
    right
    intro hk'
    rcases h.2 with ⟨rfl, _⟩ | ⟨g, cap, cur, rfl, _, hg, _⟩
    · simp [Value.ownBlock] at hk
    rcases h'.2 with ⟨rfl, _⟩ | ⟨g', cap', cur', rfl, _, hg', _⟩
    · simp [Value.ownBlock] at hk'
    simp [Value.ownBlock] at hk hk'
    subst hk; subst hk'
    rw [hg] at hg'
    simp at hg'
    exact hne hg'.2
theorem NewOp.beside {w w' : World} {base base' n : Nat} {x : Opr} {v : Value} {vs : List Value} (h : NewOp w base x) (ho : w.ownsRow base' 39 7 v n vs) (hg : w.grownBy w' v.ownBlock) : NewOp w' base x :=
  ⟨World.ownsRow.kept h.key hg (own_apart h.key ho (by decide)), World.ownsRow.kept h.b hg (own_apart h.b ho (by decide)), h.err⟩
theorem row_only {w w' : World} {base b n size : Nat} {e ty : TypeId} {v : Value} {xs vs : List Value} (h : w.ownsRow base e size v n xs) (ho : Only b w w') (hb : Blk w b vs ty) (hne : e ≠ ty) : w'.ownsRow base e size v n xs := by
  refine ⟨h.1, h.2.imp id ?_⟩
  rintro ⟨g, cap, cur, hv, hg, hh, rest⟩
  refine ⟨g, cap, cur, hv, hg, ?_, rest⟩
  rw [ho.block g (own_ne' h hb hne g (by rw [hv]; rfl))]
  exact hh
theorem row_grown {w0 w w' : World} {base rb n size : Nat} {e : TypeId} {v : Value} {xs : List Value} {q : List UInt8} (h : w.ownsRow base e size v n xs) (hr : Rd w0 w rb q) (hg : w.grownBy w' (some rb)) (hne : e ≠ 65) : w'.ownsRow base e size v n xs := by
  obtain ⟨ao, cap, hb, _⟩ := hr.ex
  refine World.ownsRow.kept h hg (.inr ?_)
  intro e
  exact own_ne' h hb hne rb e rfl

/-- What stands at the head of the loop. -/
structure ReadAt (w w' : World) (ob eb rb : Nat) (bs : List UInt8) (rest : List UInt8) (v : Value) (xs : List Opr) : Prop where
  rd : Rd w w' rb rest
  out : Blk w' ob [v] 28
  e : Blk w' eb [.int .i64 0] 25
  own : w'.ownsRow w.heap.size 39 7 v xs.length (opsV xs)
  each : ∀ x ∈ xs, NewOp w' w.heap.size x
  parse : parse bs = (parse rest).map (xs.map (·.c) ++ ·)
  cnt : xs.length * 15 + rest.length ≤ bs.length
  obr : ob < rb
  ebr : eb < rb
  oeb : ob < eb
  ow : w.heap.size ≤ ob

theorem results_read (tmps : Array Value) (ob eb : Nat) (v : Value) (k : Int) (w : World) (h2 : tmps.getD 2 undef = .pointer (some ⟨ob, 0, none⟩)) (h3 : tmps.getD 3 undef = .pointer (some ⟨eb, 0, none⟩))
    (ho : Blk w ob [v] 28) (he : Blk w eb [.int .i64 k] 25) : (results Tryz.f14 tmps).run Tryz.prog w = .ok (.tuple #[v, .int .i64 k]) w := by
  have c0 := ho.cell 0 _ rfl
  have c1 := he.cell 0 _ rfl
  clear ho he
  have h2' : tmps[2]?.getD undef = .pointer (some ⟨ob, 0, none⟩) := by simpa using h2
  have h3' : tmps[3]?.getD undef = .pointer (some ⟨eb, 0, none⟩) := by simpa using h3
  simp [results, Tryz.results14, h2', h3', go_sem, c0, c1]

theorem read_panics (tmps : Array Value) (ob eb base : Nat) (v : Value) (w : World) (R : Ending → World → Prop) (h2 : tmps.getD 2 undef = .pointer (some ⟨ob, 0, none⟩)) (h3 : tmps.getD 3 undef = .pointer (some ⟨eb, 0, none⟩))
    (ho : Blk w ob [v] 28) (he : Blk w eb [.int .i64 0] 25) (hne : ob ≠ eb) (hb1 : base ≤ ob) (hb2 : base ≤ eb)
    (hR : ∀ w', Below base w w' → R (.returned (.tuple #[.slice none 0 0, .int .i64 7])) w') :
    Leaves Tryz.prog Tryz.f14 tmps R [{ target := .fn (.func 25) #[.pointer (some ⟨ob, 0, none⟩), .pointer (some ⟨eb, 0, none⟩)], args := #[] }] (.panicking Short) w := by
  refine leaves_cons (f := 25) (args := #[.pointer (some ⟨ob, 0, none⟩), .pointer (some ⟨eb, 0, none⟩)]) (by simp) (by simp [go_sem]) ?_
  refine (catch_short ob eb base v _ [] w ho he hne hb1 hb2).mono ?_
  rintro e u' w'' ⟨rfl, rfl, h4, h5, h6⟩
  simp only [settle, List.dropWhile_nil, Leaves]
  exact ⟨_, results_read tmps ob eb _ _ _ h2 h3 h4 h5, hR _ h6⟩

theorem read_returns (tmps : Array Value) (ob eb : Nat) (v : Value) (w : World) (R : Ending → World → Prop) (h2 : tmps.getD 2 undef = .pointer (some ⟨ob, 0, none⟩)) (h3 : tmps.getD 3 undef = .pointer (some ⟨eb, 0, none⟩))
    (ho : Blk w ob [v] 28) (he : Blk w eb [.int .i64 0] 25) (hR : R (.returned (.tuple #[v, .int .i64 0])) w) :
    Leaves Tryz.prog Tryz.f14 tmps R [{ target := .fn (.func 25) #[.pointer (some ⟨ob, 0, none⟩), .pointer (some ⟨eb, 0, none⟩)], args := #[] }] .returning w := by
  refine leaves_cons (f := 25) (args := #[.pointer (some ⟨ob, 0, none⟩), .pointer (some ⟨eb, 0, none⟩)]) (by simp) (by simp [go_sem]) ?_
  refine (catch_idle _ _ w).mono ?_
  rintro e u' w'' ⟨rfl, rfl, rfl⟩
  simp only [settle, Leaves]
  exact ⟨_, results_read tmps ob eb _ _ _ h2 h3 ho he, hR⟩

/-- What comes back. -/
def ReadR (bs : List UInt8) (w : World) : Ending → World → Prop := fun e w' => (parse bs = none → e = .returned (.tuple #[.slice none 0 0, .int .i64 7])) ∧
      (∀ l, parse bs = some l → ∃ v xs, e = .returned (.tuple #[v, .int .i64 0]) ∧ xs.map (·.c) = l ∧ w'.ownsRow w.heap.size 39 7 v xs.length (opsV xs) ∧ ∀ x ∈ xs, NewOp w' w.heap.size x) ∧ Below w.heap.size w w'

set_option maxHeartbeats 4000000 in
theorem read_walk (ao : Option Addr) (n cap : Nat) (bs : List UInt8) (w : World) (hn : bs.length = n) (hc : n ≤ cap) (hcm : cap ≤ maxLen) (hn2 : n ≤ 100000) (hl : Lies w ao (bs.map B)) :
    Calls Tryz.prog 14 #[.slice ao n cap] w (ReadR bs w) := by
  have hmf : ∀ (fn : Fn) (first cap : Array Value) (w : World), (Instr.makeFunc fn first cap).run Tryz.prog w = .ok (.func fn first cap) w := fun _ _ _ _ => rfl
  have HL := Lib.hid hl
  have HN := Lib.hid hn
  clear hl hn
  go_enter_defers Tryz.func14, Tryz.ntmps14
  go_wp2_with (refine wpList_var 28 [.slice none 0 0] _ rfl rfl Tryz.zeroOps rfl ?_)
  intro w1 hb1 hbel1
  have HO := Lib.hid hb1
  have HB := Lib.hid hbel1
  clear hb1 hbel1
  go_wp2_with (refine wpList_var 25 [.int .i64 0] _ rfl rfl Tryz.zeroErrno rfl ?_)
  intro w2 hb2 hbel2
  have hlt1 := HO.out.lt
  have HO := Lib.hid (HO.out.below hbel2 HO.out.lt)
  have HE := Lib.hid hb2
  have HB := Lib.hid (HB.out.trans (hbel2.mono HB.out.size))
  clear hb2 hbel2
  go_wp2_with (refine wpList_box 65 _ [.slice ao n cap] _ rfl rfl rfl rfl ?_)
  intro w3 hb3 hbel3
  have hlt2 := HE.out.lt
  have HI := Lib.hid (show ReadAt w w3 w.heap.size w1.heap.size w2.heap.size bs bs (.slice none 0 0) [] from
    ⟨⟨⟨ao, cap, by rw [HN.out]; exact hb3, by rw [HN.out]; exact hc, hcm, HL.out⟩, HB.out.trans (hbel3.mono HB.out.size), HB.out.size⟩, HO.out.below hbel3 HO.out.lt, HE.out.below hbel3 HE.out.lt, nil_owns _ _ _ _, (fun _ h => by cases h), by simp, by simp, Nat.lt_trans hlt1 hlt2, hlt2, hlt1, Nat.le_refl _⟩)
  clear HO HE HB hb3 hbel3
  generalize w1.heap.size = eb at *
  generalize w2.heap.size = rb at *
  generalize hob : w.heap.size = ob at *
  have HOB := Lib.hid hob
  clear hob
  go_wp2
  go_loopw [15] (fun _ wr => ∃ rest v xs, Hid (ReadAt w wr ob eb rb bs rest v xs)) (fun _ wr => match wr.cell? ⟨rb, 0, none⟩ with | some (.slice _ m _) => m | _ => 0)
  case atStart => exact ⟨bs, .slice none 0 0, [], HI⟩
  case round =>
    clear HI
    obtain ⟨rest, v, xs, HI⟩ := hrel
    obtain ⟨ra, rcap, hrd, hrc, hrm, hrl⟩ := HI.out.rd.ex
    have c0 := hrd.cell 0 _ rfl
    have HRL := Lib.hid hrd
    clear hrd hrl
    by_cases hlt : 0 < rest.length
    · have ht : decide ((rest.length : Int) > 0) = true := by simp; omega
      have hrb := HI.out.rd.ge
      have hrbl := HRL.out.lt
      cases hop : opP rest with
      | none =>
        have o0 := HI.out.out.drew.cell 0 _ rfl
        have HOP := Lib.hid hop
        clear hop ht
        go_wp2_with fail
        refine wp_region_any (by kernel_rfl) ?_
        have HPA := Lib.hid (show parse bs = none by rw [HI.out.parse, parse_none (by intro h; rw [h] at hlt; simp at hlt) HOP.out]; rfl)
        have FIN : ∀ (x : Act) (w4 : World), x.defers = [{ target := .fn (.func 25) #[.pointer (some ⟨ob, 0, none⟩), .pointer (some ⟨eb, 0, none⟩)], args := #[] }] → x.tmps.getD 2 undef = .pointer (some ⟨ob, 0, none⟩) → x.tmps.getD 3 undef = .pointer (some ⟨eb, 0, none⟩) →
            wr.drew.grownBy w4 (some rb) → Leaves Tryz.prog Tryz.f14 x.tmps (ReadR bs w) x.defers (.panicking Short) w4 := by
          intro x w4 hd h2 h3 hg
          have h4 := HI.out.obr
          have h5 := HI.out.ebr
          have h6 := HI.out.ow
          have h7 := HI.out.oeb
          rw [hd]
          refine read_panics x.tmps ob eb w.heap.size v w4 _ h2 h3 (blk_grown HI.out.out.drew hg (by omega)) (blk_grown HI.out.e.drew hg (by omega)) (by omega) (by omega) (by omega) (fun w' hbw => ?_)
          refine ⟨fun _ => rfl, fun l hl => ?_, ?_⟩
          · rw [HPA.out] at hl; cases hl
          · exact (HI.out.rd.bel.drew.grown hg HI.out.rd.bel.drew.size (fun k hk => by cases hk; exact hrb)).trans hbw
        refine wpAny_ready (rs := [0, 1]) (by kernel_rfl) (by simp) (AllReady.cons rfl ?_ (AllReady.cons rfl ?_ AllReady.nil))
        · intro K hK
          rw [if_pos (by rfl)]
          go_simp
          refine hK _ _ ?_
          clear hK K
          refine wpAny_ready (rs := [1]) (by kernel_rfl) (by simp) (AllReady.cons rfl ?_ AllReady.nil)
          intro K hK
          rw [if_pos (by rfl)]
          go_simp
          refine hK _ _ ?_
          clear hK K
          refine wpAny_ready (rs := [2]) (by kernel_rfl) (by simp) (AllReady.cons rfl ?_ AllReady.nil)
          intro K hK
          rw [if_pos (by rfl)]
          go_simp
          refine (op_none w _ rb rest HI.out.rd.drew hrbl HOP.out).mono ?_
          rintro e w4 ⟨rfl, hg⟩
          go_simp
          exact FIN _ w4 rfl rfl rfl hg
        · intro K hK
          rw [if_pos (by rfl)]
          go_simp
          refine hK _ _ ?_
          clear hK K
          refine wpAny_ready (rs := [0, 2]) (by kernel_rfl) (by simp) (AllReady.cons rfl ?_ (AllReady.cons rfl ?_ AllReady.nil))
          · intro K hK
            rw [if_pos (by rfl)]
            go_simp
            refine hK _ _ ?_
            clear hK K
            refine wpAny_ready (rs := [2]) (by kernel_rfl) (by simp) (AllReady.cons rfl ?_ AllReady.nil)
            intro K hK
            rw [if_pos (by rfl)]
            go_simp
            refine (op_none w _ rb rest HI.out.rd.drew hrbl HOP.out).mono ?_
            rintro e w4 ⟨rfl, hg⟩
            go_simp
            exact FIN _ w4 rfl rfl rfl hg
          · intro K hK
            rw [if_pos (by rfl)]
            go_simp
            refine (op_none w _ rb rest HI.out.rd.drew hrbl HOP.out).mono ?_
            rintro e w4 ⟨rfl, hg⟩
            go_simp
            exact FIN _ w4 rfl rfl rfl hg
      | some p =>
        obtain ⟨c, r⟩ := p
        have HOP := Lib.hid hop
        obtain ⟨i0, hi0, hz0, hz1, hz2⟩ := info_parts Tryz.infoOp
        have HI0 := Lib.hid (And.intro hi0 (And.intro hz0 (And.intro hz1 hz2)))
        have h4 := HI.out.obr
        have h5 := HI.out.ebr
        have h6 := HI.out.ow
        have h7 := HI.out.oeb
        have hcnt := HI.out.cnt
        have hnb : bs.length ≤ 100000 := by rw [HN.out]; exact hn2
        have C0 := Lib.hid c0
        have hrl2 : rest.length = 15 + c.key.length + c.b.length + c.name.length + r.length := by
          have := congrArg List.length (opP_some hop).1
          rw [List.length_append, c.bytes_length] at this
          exact this
        have k0 := fun (x' : AfterK (SameAt ob) wr.drew) => (show Blk x'.val ob [v] 28 from x'.rel.trans HI.out.out).cell 0 _ rfl
        clear hop hi0 hz0 hz1 hz2
        go_wp2_with fail
        refine wp_region_K (SameAt ob) [5] [(0, true), (1, true), (2, false), (3, false), (4, false), (5, false)] (fun _ => rfl) (fun _ _ _ h g => g.trans h) (by kernel_rfl) (by kernel_rfl) ?_
        rintro wA rfl
        repeat ((first | refine walkK_one rfl rfl (fun K hK => ?_) | refine walkK_alone (Keeps.refl _ _) rfl rfl (fun K hK => ?_) | refine walkK_alone (Same2.refl _ _) rfl rfl (fun K hK => ?_)); go_big_quiet_step (fail); refine wpQuiet_nil (hK _ ?_); clear hK K)
        clear k0 ht
        refine walkK_free rfl (by rfl) (fun K hK => ?_)
        go_simp
        refine (op_some w _ rb rest c r HI.out.rd.drew hrbl HOP.out).mono ?_
        rintro e w4 ⟨x, hxc, rfl, hnew, hrd, hg⟩
        have HNEW := Lib.hid hnew
        have HRD := Lib.hid hrd
        have HO := Lib.hid (blk_grown HI.out.out.drew hg (show ob ≠ rb by omega))
        have HE := Lib.hid (blk_grown HI.out.e.drew hg (show eb ≠ rb by omega))
        have HOWN := Lib.hid (row_grown (show wr.drew.ownsRow w.heap.size 39 7 v xs.length (opsV xs) from HI.out.own) HI.out.rd.drew hg (by decide))
        have HEACH := Lib.hid (fun y hy => NewOp.grown (show NewOp wr.drew w.heap.size y from ⟨(HI.out.each y hy).key, (HI.out.each y hy).b, (HI.out.each y hy).err⟩) HI.out.rd.drew hg)
        have HG := Lib.hid (show SameAt ob wr.drew w4 from hg.block ob HI.out.out.lt (by simp; omega))
        clear hnew hrd hg
        go_simp
        refine hK _ _ (fun _ => HG.out) ?_
        clear hK K
        refine walkK_free rfl (by rfl) (fun K hK => ?_)
        refine oprows 28 39 7 1 _ [x.vals] rfl rfl Tryz.underlying28 Tryz.zsOp rfl (by omega) rfl (by omega) (by omega) (by simp [x.vals_length]) ?_
        intro w5 hb5 hbel5
        have HB5 := Lib.hid (show Lies w5 (some ⟨w4.heap.size, 0, none⟩) x.vals by have := hb5.lies; simpa using this)
        have HNEW := Lib.hid (HNEW.out.later hbel5)
        have HRD := Lib.hid (HRD.out.later hbel5)
        have hol := HO.out.lt
        have HO := Lib.hid (HO.out.below hbel5 HO.out.lt)
        have HE := Lib.hid (HE.out.below hbel5 HE.out.lt)
        have HOWN := Lib.hid (own_below HOWN.out hbel5)
        have HEACH := Lib.hid (fun y hy => (HEACH.out y hy).later hbel5)
        refine hK _ _ (fun _ => hbel5.block ob hol) ?_
        clear hK K hb5 hbel5
        go_simp
        refine walkK_free rfl (by rfl) (fun K hK => ?_)
        refine wp_append_own _ (.tmp 15) (.tmp 18) 28 rfl w.heap.size 39 i0 (.agg (Go.Proofs.YtmpgcilppjkhoaaGreatDoor.zeroOp).toArray) 7 96 Tryz.underlying28 HI0.out.1 HI0.out.2.1 HI0.out.2.2.1 HI0.out.2.2.2 rfl (by decide) _ _ _ rfl HOWN.out ⟨w4.heap.size, 0, none⟩ 1 1 x.vals rfl rfl HB5.out.news x.vals_one (by unfold maxLen; omega) (by omega) HRD.out.bel.size ?_
        intro v6 w6 hown6 hg6 _
        rw [← opsV_snoc] at hown6
        have hne6 := own_ne' HOWN.out HO.out (by decide)
        have hne6e := own_ne' HOWN.out HE.out (by decide)
        obtain ⟨ra2, rcap2, hrb2, hra2⟩ := HRD.out.ex
        have hne6r := own_ne' HOWN.out hrb2 (by decide)
        have hbel6 := below_append HRD.out.bel HOWN.out hg6 (Nat.le_refl _) HRD.out.bel.size
        have HRD := Lib.hid (show Rd w w6 rb r from ⟨⟨ra2, rcap2, (hg6.block rb hrb2.lt (fun h => hne6r rb h.symm rfl)).trans hrb2, hra2⟩, hbel6, HRD.out.ge⟩)
        have HG6 := Lib.hid (show SameAt ob w5 w6 from hg6.block ob HO.out.lt (fun h => hne6 ob h.symm rfl))
        have HE := Lib.hid (show Blk w6 eb _ _ from (hg6.block eb HE.out.lt (fun h => hne6e eb h.symm rfl)).trans HE.out)
        have HNEW := Lib.hid (HNEW.out.beside HOWN.out hg6)
        have HEACH := Lib.hid (fun y hy => (HEACH.out y hy).beside HOWN.out hg6)
        have HO := Lib.hid (show Blk w6 ob _ _ from HG6.out.trans HO.out)
        have HOWN := Lib.hid hown6
        refine hK _ _ (fun _ => HG6.out) ?_
        clear hK K hown6 hg6 hne6 hne6e hne6r hbel6 hrb2 hra2 HG6 HB5
        go_simp
        obtain ⟨va, vcap, rfl, _, _, _⟩ := own_form HOWN.out
        refine walkK_free rfl (by rfl) (fun K hK => ?_)
        refine HO.out.opset (i := 0) (v := .slice va (xs.length + 1) vcap) rfl rfl rfl Tryz.size_ops rfl rfl (by simp) (fun w7 hb7 ho7 => hK _ _ (fun h => by simp at h) ?_)
        clear hK K
        have HI2 := Lib.hid (show ReadAt w w7 ob eb rb bs r (.slice va (xs.length + 1) vcap) (xs ++ [x]) from
          ⟨HRD.out.only ho7 (by omega) (by omega), hb7, HE.out.only ho7 (by omega), by rw [List.length_append]; exact row_only HOWN.out ho7 HO.out (by decide), fun y hy => by
            rcases List.mem_append.1 hy with hy | hy
            · exact (HEACH.out y hy).only ho7 HO.out (by decide)
            · simp at hy; subst hy; exact HNEW.out.only ho7 HO.out (by decide),
          by
            rw [HI.out.parse, parse_some HOP.out]
            cases parse r with
            | none => rfl
            | some l => simp [hxc], by simp; omega, HI.out.obr, HI.out.ebr, HI.out.oeb, HI.out.ow⟩)
        obtain ⟨ra3, rcap3, hrb3, _⟩ := HI2.out.rd.ex
        have C1 := Lib.hid (hrb3.cell 0 _ rfl)
        clear hb7 ho7 hrb3
        go_simp
        refine walkK_nil ?_
        go_wp2_with fail
        go_roundw
        case rel => exact ⟨r, _, xs ++ [x], HI2⟩
        case measure => rw [C0.out, C1.out]; simp only; omega
    · have hre : rest = [] := List.eq_nil_of_length_eq_zero (by omega)
      have ht : decide ((rest.length : Int) > 0) = false := by rw [hre]; rfl
      obtain ⟨oa, ocap, rfl, _, _, _⟩ := own_form HI.out.own
      have o0 := HI.out.out.cell 0 _ rfl
      have HRE := Lib.hid hre
      clear hre
      go_wp2_with (refine HI.out.out.wset (i := 0) (v := .slice oa xs.length ocap) rfl rfl rfl rfl Tryz.size_ops rfl rfl (by simp) ?_)
      intro w4 hb4 ho4
      have HB4 := Lib.hid hb4
      have h1 := HI.out.oeb
      have h2 := HI.out.ow
      have HE4 := Lib.hid (HI.out.e.only ho4 (by omega))
      clear hb4 c0 o0
      go_wp2_with (refine HE4.out.wset (i := 0) (v := .int .i64 0) rfl rfl rfl rfl Tryz.size_errno rfl rfl (by simp) ?_)
      intro w5 hb5 ho5
      have HO5 := Lib.hid (HB4.out.only ho5 (by omega))
      have HE5 := Lib.hid hb5
      clear hb5
      go_wp2
      show Leaves Tryz.prog Tryz.f14 _ _ _ .returning w5
      refine read_returns _ ob eb (.slice oa xs.length ocap) w5 _ rfl rfl HO5.out HE5.out ?_
      have h3 := HI.out.ebr
      have hbel := below_only (below_only HI.out.rd.bel ho4 h2) ho5 (by omega)
      have hparse := HI.out.parse
      rw [HRE.out, parse_nil] at hparse
      refine ⟨fun hp => ?_, fun l hl => ⟨_, xs, rfl, ?_, ?_, ?_⟩, hbel⟩
      · rw [hparse] at hp; cases hp
      · rw [hparse] at hl
        simpa using hl
      · exact row_only (row_only HI.out.own ho4 HI.out.out (by decide)) ho5 HE4.out (by decide)
      · exact fun x hx => ((HI.out.each x hx).only ho4 HI.out.out (by decide)).only ho5 HE4.out (by decide)

end Go.Proofs.YtmpgcilppjkhoaaGreatDoor
