/-
  The walk of the document's answer: the commands of bytes.
-/
import Derived.Test.YtmpgcilppjkhoaaGreatDoorReelV
import Derived.Test.YtmpgcilppjkhoaaGreatDoorReelF
import Derived.Test.YtmpgcilppjkhoaaGreatDoorRegionM
namespace Go.Reel
open Go.Ops Go.Oct

theorem opP_lt10 {bs : List UInt8} (h : bs.length < 10) : opP bs = none := by
  cases ho : opP bs with
  | none => rfl
  | some p =>
    obtain ⟨c, r⟩ := p
    have := congrArg List.length (opP_some ho).1
    rw [List.length_append, c.bytes_length] at this
    omega
theorem numP_ge {many : Nat} {bs : List UInt8} (h : many ≤ bs.length) : numP many bs = some (numOf (bs.take many), bs.drop many) := by
  unfold numP
  rw [if_neg (by omega)]
/-- The first four numbers of a command. -/
def headP (bs : List UInt8) (key b name : List UInt8) : Cmd := ⟨(numOf (bs.take 1) : Nat), (numOf ((bs.drop 1).take 1) : Nat), (numOf ((bs.drop 2).take 4) : Nat), (numOf ((bs.drop 6).take 4) : Nat), key, b, name⟩
theorem opP_ten {bs : List UInt8} (h : 10 ≤ bs.length) : opP bs =
    match bytesP 1 (bs.drop 10) with
    | none => none
    | some (key, b5) => match bytesP 2 b5 with
    | none => none
    | some (b, b6) => match bytesP 2 b6 with
    | none => none
    | some (name, b7) => some (headP bs key b name, b7) := by
  unfold opP
  rw [numP_ge (by omega)]
  simp only
  rw [numP_ge (by rw [List.length_drop]; omega)]
  simp only
  rw [numP_ge (by rw [List.length_drop, List.length_drop]; omega)]
  simp only
  rw [numP_ge (by rw [List.length_drop, List.length_drop, List.length_drop]; omega)]
  simp only [List.drop_drop]
  rfl
theorem numOf_one {bs : List UInt8} {x : UInt8} {i : Nat} (h : bs[i]? = some x) : numOf ((bs.drop i).take 1) = x.toNat := by
  have hi : i < bs.length := (List.getElem?_eq_some_iff.1 h).1
  have he : bs[i] = x := (List.getElem?_eq_some_iff.1 h).2
  rw [List.drop_eq_getElem_cons hi, he]
  simp [numOf]
end Go.Reel
namespace Go.Proofs.YtmpgcilppjkhoaaGreatDoor
open Go.RowKit Go.Mem Go.Ops Go.Cells Go.Oct Go.Reel
set_option linter.unusedSimpArgs false
set_option linter.unusedVariables false
set_option maxRecDepth 100000
attribute [local irreducible] walkK walkM

theorem refnum_i (ao : Option Addr) (len cap at' many : Nat) (i : Int) (bs : List UInt8) (w : World) (hi : i = (at' : Int)) (hlen : bs.length = len) (hk : at' + many ≤ len) (hm : many ≤ 4) (hb : len ≤ 1099511627776) (hl : Lies w ao (bs.map B)) :
    Calls Tryz.prog 27 #[.slice ao len cap, .int .i64 i, .int .i64 many] w fun e w' => ∃ z : UInt64, e = .returned (L z) ∧ z.toNat = numOf ((bs.drop at').take many) ∧ IntKind.i64.wrap (z.toNat : Int) = (z.toNat : Int) ∧ w = w' := by
  subst hi
  refine (refnum_ok ao len cap at' many bs w hlen hk hm hb hl).mono ?_
  rintro e w1 ⟨z, rfl, hz, rfl⟩
  have hz4 : z.toNat < 4294967296 := by
    rw [hz]
    have := numOf_lt ((bs.drop at').take many)
    have h2 : 256 ^ ((bs.drop at').take many).length ≤ 256 ^ 4 := Nat.pow_le_pow_right (by omega) (by rw [List.length_take]; omega)
    omega
  exact ⟨z, rfl, hz, IntWalk.i64_in _ (by omega), rfl⟩

theorem Tryz.zsROp : (Tryz.prog.info? 40).map (fun i => (i.zero, i.size)) = some (some (.agg (Go.Proofs.YtmpgcilppjkhoaaGreatDoor.zeroOp).toArray), 7) := by kernel_rfl
theorem Tryz.infoROp : (Tryz.prog.info? 40).map (fun i => (i.zero, i.size, i.bytes)) = some (some (.agg (Go.Proofs.YtmpgcilppjkhoaaGreatDoor.zeroOp).toArray), 7, 96) := by kernel_rfl

theorem op_varX {P : Program} {w : World} {o : Oper} {a : Act} {K : Act → World → Prop} {Q : Exit → Act → World → Prop} (t : TypeId) (vs : List Value) (z : Value)
    (ho : o.op = .alloc t) (hz : (P.info? t).map (·.zero) = some (some z)) (hv : z.cells = vs.toArray)
    (k : ∀ w', Blk w' w.heap.size vs t → Below w.heap.size w w' → K (a.put o.dst (.pointer (some ⟨w.heap.size, 0, none⟩))) w') : o.wp P a w K Q := by
  have hk := k (w.alloc (.cells vs.toArray t)) (Blk.new w vs t) (later_alloc w _)
  cases hq : P.info? t with
  | none => rw [hq] at hz; cases hz
  | some x =>
    rw [hq] at hz
    have hx : x.zero = some z := by simpa using hz
    unfold Oper.wp
    simp [execOp, ho, Instr.alloc, zeroValue, typeInfo, hq, hx, newVar, newRow, hv]
    exact hk
theorem row_only2x {w w' : World} {base b n size : Nat} {e : TypeId} {v : Value} {xs : List Value} (h : w.ownsRow base e size v n xs) (ho : Only b w w') (hne : ∀ k, v.ownBlock = some k → k ≠ b) : w'.ownsRow base e size v n xs := by
  refine ⟨h.1, h.2.imp id ?_⟩
  rintro ⟨g, cap, cur, hv, hg, hh, rest⟩
  refine ⟨g, cap, cur, hv, hg, ?_, rest⟩
  rw [ho.block g (hne g (by rw [hv]; rfl))]
  exact hh

/-- What comes back. -/
def RefReadR (bs : List UInt8) (w : World) : Ending → World → Prop := fun e w' => (parse bs = none → e = .returned (.tuple #[.slice none 0 0, .bool false])) ∧
  (∀ l, parse bs = some l → ∃ v ys, e = .returned (.tuple #[v, .bool true]) ∧ ys.map Opr.c = l ∧ w'.ownsRow w.heap.size 40 7 v ys.length (opsV ys) ∧ ∀ y ∈ ys, NewOp w' w.heap.size y) ∧ Below w.heap.size w w'

set_option maxHeartbeats 8000000 in
theorem refread_ok (ao : Option Addr) (n cap : Nat) (bs : List UInt8) (w : World) (hn : bs.length = n) (hc : n ≤ cap) (hb : n ≤ 2000) (hl : Lies w ao (bs.map B)) :
    Calls Tryz.prog 15 #[.slice ao n cap] w (RefReadR bs w) := by
  obtain ⟨i0, hi0, hz0, hz1, hz2⟩ := info_parts Tryz.infoROp
  have HI0 := Lib.hid (And.intro hi0 (And.intro hz0 (And.intro hz1 hz2)))
  have HN := Lib.hid hn
  have HL := Lib.hid hl
  clear hn hl hi0 hz0 hz1 hz2
  go_enter Tryz.func15, Tryz.ntmps15
  go_wp2
  go_loopw [4, 5] (fun v c wr => ∃ (a : Nat) (ys : List Opr), a ≤ n ∧ c = .int .i64 a ∧ Hid (wr.ownsRow w.heap.size 40 7 v ys.length (opsV ys)) ∧ Hid (∀ y ∈ ys, NewOp wr w.heap.size y) ∧ Hid (parse bs = (parse (bs.drop a)).map (ys.map Opr.c ++ ·)) ∧ ys.length * 15 ≤ a ∧ Hid (Below w.heap.size w wr)) (fun _ c _ => n - (intOf c).toNat)
  case atStart => exact ⟨0, [], by omega, rfl, nil_owns _ _ _ _, (fun _ h => by cases h), by show parse bs = _; simp, by simp, Below.refl _ _⟩
  case round =>
    obtain ⟨a, ys, ha, rfl, HV, HE, HP, hcnt, HB⟩ := hrel
    by_cases hlt : a < n
    · have hrl : (bs.drop a).length = n - a := by rw [List.length_drop, HN.out]
      have hne : bs.drop a ≠ [] := by intro h; rw [h] at hrl; simp at hrl; omega
      by_cases h10 : n - a < 10
      · have hd : decide ((n : Int) - (a : Int) < 10) = true := by simp; omega
        have HNONE := Lib.hid (show parse bs = none by rw [HP.out, parse_none hne (opP_lt10 (by omega))]; rfl)
        clear hne hrl
        go_wp2
        go_ret2
        refine ⟨fun _ => rfl, fun l h => ?_, HB.out⟩
        rw [HNONE.out] at h
        cases h
      have hd : decide ((n : Int) - (a : Int) < 10) = false := by simp; omega
      have hop := opP_ten (bs := bs.drop a) (by omega)
      obtain ⟨x0, hx0⟩ : ∃ x, bs[a]? = some x := ⟨bs[a]'(by rw [HN.out]; omega), by simp⟩
      obtain ⟨x1, hx1⟩ : ∃ x, bs[a + 1]? = some x := ⟨bs[a + 1]'(by rw [HN.out]; omega), by simp⟩
      obtain ⟨b0, o0, rfl, c0⟩ := (HL.out.below HB.out) _ _ (mapB_at hx0)
      obtain ⟨_, _, e1, c1⟩ := (HL.out.below HB.out) _ _ (mapB_at hx1)
      cases e1
      have HX0 := Lib.hid hx0
      have HX1 := Lib.hid hx1
      have HOP := Lib.hid hop
      have HNE := Lib.hid hne
      clear hx0 hx1 hop hne hrl
      -- MARKX
      have HVLT := Lib.hid (fun k hk => (HV.out.lt k hk).2)
      have hb0 := block_lt_of_cell c0
      have k0 := fun (x' : AfterK (SameAt b0) wr.drew) => (World.cell?_of_block (w := wr) (w' := x'.val) (a := ⟨b0, o0 + a, none⟩) x'.rel).trans c0
      have k1 := fun (x' : AfterK (SameAt b0) wr.drew) => (World.cell?_of_block (w := wr) (w' := x'.val) (a := ⟨b0, o0 + (a + 1), none⟩) x'.rel).trans c1
      have hlt0 : (a : Int) < (n : Int) := by omega
      have hlt1 : (a : Int) + 1 < (n : Int) := by omega
      have hx0w : RowKit.wrap64 (x0.toNat : Int) = (x0.toNat : Int) := IntWalk.wrap64_in _ (by have := x0.toNat_lt; omega)
      have hx1w : RowKit.wrap64 (x1.toNat : Int) = (x1.toNat : Int) := IntWalk.wrap64_in _ (by have := x1.toNat_lt; omega)
      clear c0 c1
      go_wp2_with fail
      refine wp_region_M (SameAt b0) [] [0, 1, 2, 3, 4, 5, 6, 7, 8, 9, 10, 11, 12, 13, 16, 17, 18] 7 (fun _ => rfl) (fun _ _ _ h g => g.trans h) (by kernel_rfl) (by kernel_rfl) ?_
      rintro wA rfl
      repeat (refine walkM_one rfl rfl (fun K hK => ?_); go_big_quiet_step (fail); refine wpQuiet_nil (hK _ ?_); clear hK K)
      refine walkM_nil ?_
      clear k0 k1
      refine wpAnyK_two (i := 14) (j := 22) (by kernel_rfl) rfl rfl (by rfl) (by rfl) ?_ ?_
      · intro K hK
        go_simp
        refine (refnum_i (some ⟨b0, o0, none⟩) n cap (a + 2) 4 ((a : Int) + 2) bs _ (by omega) HN.out (by omega) (by omega) (by omega) ((HL.out.below HB.out).below (Below.refl _ wr).drew)).mono ?_
        rintro e w1 ⟨z1, rfl, hz1, hwz1, rfl⟩
        have HZ1 := Lib.hid hz1
        have hwz1' : RowKit.wrap64 (z1.toNat : Int) = (z1.toNat : Int) := (IntWalk.i64_left (z1.toNat : Int)).symm.trans hwz1
        clear hz1
        go_simp
        refine hK _ _ (fun _ => rfl) ?_
        clear hK K
        refine wpAnyK_prefix (R := SameAt b0) (Q := NoPanic _) 5 (fun _ => rfl) (fun _ _ _ h g => g.trans h) (by kernel_rfl) (fun c a w hq => hq) [15] _ _ _ (by kernel_rfl) ?_
        repeat (refine walkM_one rfl rfl (fun K hK => ?_); go_big_quiet_step (fail); refine wpQuiet_nil (hK _ ?_); clear hK K)
        refine walkM_nil ?_
        refine wpAnyK_two (i := 19) (j := 22) (by kernel_rfl) rfl rfl (by rfl) (by rfl) ?_ ?_
        · intro K hK
          go_simp
          refine (refnum_i (some ⟨b0, o0, none⟩) n cap (a + 6) 4 ((a : Int) + 6) bs _ (by omega) HN.out (by omega) (by omega) (by omega) ((HL.out.below HB.out).below (Below.refl _ wr).drew)).mono ?_
          rintro e w1 ⟨z2, rfl, hz2, hwz2, rfl⟩
          have HZ2 := Lib.hid hz2
          have hwz2' : RowKit.wrap64 (z2.toNat : Int) = (z2.toNat : Int) := (IntWalk.i64_left (z2.toNat : Int)).symm.trans hwz2
          clear hz2
          go_simp
          refine hK _ _ (fun _ => rfl) ?_
          clear hK K
          refine wpAnyK_rest [(20, true), (21, true), (22, false), (23, false)] (fun _ => rfl) (fun _ _ _ h g => g.trans h) (by kernel_rfl) ?_
          repeat ((first | refine walkK_one rfl rfl (fun K hK => ?_) | refine walkK_alone (fun _ => rfl) rfl rfl (fun K hK => ?_)); go_big_quiet_step (fail); refine wpQuiet_nil (hK _ ?_); clear hK K)
          refine walkK_free rfl (by rfl) (fun K hK => ?_)
          refine op_varX 40 zeroOp _ rfl Tryz.zeroROp rfl (fun w2 hb2 hbel2 => ?_)
          have hb2' : Blk w2 wr.heap.size zeroOp 40 := hb2
          have htx := HB.out.size
          have HV2 := Lib.hid (own_below (show wr.drew.ownsRow w.heap.size 40 7 _ _ _ from HV.out) hbel2)
          have HE2 := Lib.hid (fun y hy => NewOp.later (show NewOp wr.drew w.heap.size y from ⟨(HE.out y hy).key, (HE.out y hy).b, (HE.out y hy).err⟩) hbel2)
          have HB2 := Lib.hid (HB.out.drew.trans (hbel2.mono HB.out.drew.size))
          have hs2 : SameAt b0 wr.drew w2 := hbel2.block b0 hb0
          refine hK _ _ (fun _ => hs2) ?_
          clear hK K hbel2 hs2 hb2
          generalize htxe : wr.heap.size = tx at *
          go_simp
          refine walkK_free rfl (by rfl) (fun K hK => ?_)
          try simp only [hx0w, hx1w, hwz1', hwz2']
          refine hb2'.opstore (cs := [.int .i64 (x0.toNat : Int), .int .i64 (x1.toNat : Int), .int .i64 (z1.toNat : Int), .int .i64 (z2.toNat : Int), .slice none 0 0, .slice none 0 0, .string (str [])]) rfl rfl rfl Tryz.rowROp rfl rfl (by intro v hv; simp at hv; rcases hv with rfl | rfl | rfl | rfl | rfl | rfl <;> rfl) (fun w3 hb3 ho3 => hK _ _ (fun _ => ho3.block b0 (by omega)) ?_)
          clear hK K
          have HV := Lib.hid (row_only2x HV2.out ho3 (fun k hk => Nat.ne_of_lt (HVLT.out k hk)))
          have HE := Lib.hid (fun y hy => (HE2.out y hy).only ho3 hb2' (by decide))
          have HB := Lib.hid (below_only HB2.out ho3 htx)
          have HT := Lib.hid hb3
          clear hb2' hb3 ho3 HV2 HE2 HB2
          go_simp
          refine walkK_nil ?_
          have HX := Lib.hid (show headP (bs.drop a) = fun key b name => ⟨(x0.toNat : Nat), (x1.toNat : Nat), (z1.toNat : Nat), (z2.toNat : Nat), key, b, name⟩ by
            funext key b name
            unfold headP
            rw [numOf_one HX0.out, List.drop_drop, List.drop_drop, List.drop_drop, numOf_one HX1.out, ← HZ1.out, ← HZ2.out])
          have HOP := Lib.hid (show opP (bs.drop a) = _ from HOP.out)
          rw [List.drop_drop, HX.out] at HOP
          clear HZ1 HZ2
          cases hp1 : bytesP 1 (bs.drop (a + 10)) with
          | none =>
            have HNONE := Lib.hid (show parse bs = none by rw [HP.out, parse_none HNE.out (by rw [HOP.out, hp1])]; rfl)
            go_wp2_with fail
            refine (piece_none_i (some ⟨b0, o0, none⟩) n cap (a + 10) 1 _ bs _ (by omega) HN.out (by omega) (by omega) (by omega) (HL.out.below HB.out) hp1).mono ?_
            rintro e w4 ⟨rfl, rfl⟩
            clear hp1
            go_wp2_with (refine HT.out.wset (i := 4) (v := .slice none 0 0) rfl rfl rfl rfl Tryz.size_bytes rfl rfl (by simp) ?_)
            intro w5 hb5 ho5
            have HB := Lib.hid (below_only HB.out ho5 htx)
            have HT := Lib.hid hb5
            clear hb5 ho5
            go_wp2_with fail
            refine (piece_neg (some ⟨b0, o0, none⟩) n cap 2 _).mono ?_
            rintro e w6 ⟨rfl, rfl⟩
            go_wp2_with (refine HT.out.wset (i := 5) (v := .slice none 0 0) rfl rfl rfl rfl Tryz.size_bytes rfl rfl (by simp) ?_)
            intro w7 hb7 ho7
            have HB := Lib.hid (below_only HB.out ho7 htx)
            clear hb7 ho7
            go_wp2_with fail
            refine (piece_neg (some ⟨b0, o0, none⟩) n cap 2 _).mono ?_
            rintro e w8 ⟨rfl, rfl⟩
            go_wp2
            go_ret2
            refine ⟨fun _ => rfl, fun l h => ?_, HB.out⟩
            rw [HNONE.out] at h
            cases h
          | some p1 =>
          obtain ⟨key, r5⟩ := p1
          go_wp2_with fail
          refine (piece_some_i (some ⟨b0, o0, none⟩) n cap (a + 10) 1 _ bs key r5 _ (by omega) HN.out hc (by omega) (by omega) (by omega) (HL.out.below HB.out) hp1).mono ?_
          rintro e w4 ⟨v4, a5, rfl, ha5, hk4, hle5, hd5, hbel4⟩
          obtain ⟨ka, kc, rfl, _, _, _⟩ := hk4.form
          have HK := Lib.hid (hk4.base_le HB.out.size)
          have HV := Lib.hid (own_below HV.out hbel4)
          have HE := Lib.hid (fun y hy => (HE.out y hy).later hbel4)
          have HT := Lib.hid (HT.out.below hbel4 HT.out.lt)
          have HB := Lib.hid (HB.out.trans (hbel4.mono HB.out.size))
          have HP1 := Lib.hid hp1
          clear hk4 hbel4 hp1
          go_wp2_with (refine HT.out.wset (i := 4) (v := .slice ka key.length kc) rfl rfl rfl rfl Tryz.size_bytes rfl rfl (by simp) ?_)
          intro w5 hb5 ho5
          have HK := Lib.hid (HK.out.only ho5 HT.out (by decide))
          have HV := Lib.hid (row_only2x HV.out ho5 (fun k hk => Nat.ne_of_lt (HVLT.out k hk)))
          have HE := Lib.hid (fun y hy => (HE.out y hy).only ho5 HT.out (by decide))
          have HB := Lib.hid (below_only HB.out ho5 htx)
          have HT := Lib.hid hb5
          clear hb5 ho5
          cases hp2 : bytesP 2 r5 with
          | none =>
            have HNONE := Lib.hid (show parse bs = none by rw [HP.out, parse_none HNE.out (by rw [HOP.out, HP1.out]; simp only; rw [hp2])]; rfl)
            go_wp2_with fail
            refine (piece_none_i (some ⟨b0, o0, none⟩) n cap a5 2 _ bs _ (by omega) HN.out (by omega) (by omega) (by omega) (HL.out.below HB.out) (by rw [hd5]; exact hp2)).mono ?_
            rintro e w6 ⟨rfl, rfl⟩
            clear hp2
            go_wp2_with (refine HT.out.wset (i := 5) (v := .slice none 0 0) rfl rfl rfl rfl Tryz.size_bytes rfl rfl (by simp) ?_)
            intro w7 hb7 ho7
            have HB := Lib.hid (below_only HB.out ho7 htx)
            clear hb7 ho7
            go_wp2_with fail
            refine (piece_neg (some ⟨b0, o0, none⟩) n cap 2 _).mono ?_
            rintro e w8 ⟨rfl, rfl⟩
            go_wp2
            go_ret2
            refine ⟨fun _ => rfl, fun l h => ?_, HB.out⟩
            rw [HNONE.out] at h
            cases h
          | some p2 =>
          obtain ⟨b, r6⟩ := p2
          go_wp2_with fail
          refine (piece_some_i (some ⟨b0, o0, none⟩) n cap a5 2 _ bs b r6 _ (by omega) HN.out hc (by omega) (by omega) (by omega) (HL.out.below HB.out) (by rw [hd5]; exact hp2)).mono ?_
          rintro e w6 ⟨v6, a6, rfl, ha6, hk6, hle6, hd6, hbel6⟩
          obtain ⟨ba, bc, rfl, _, _, _⟩ := hk6.form
          have HKB := Lib.hid (hk6.base_le HB.out.size)
          have HK := Lib.hid (HK.out.later hbel6)
          have HV := Lib.hid (own_below HV.out hbel6)
          have HE := Lib.hid (fun y hy => (HE.out y hy).later hbel6)
          have HT := Lib.hid (HT.out.below hbel6 HT.out.lt)
          have HB := Lib.hid (HB.out.trans (hbel6.mono HB.out.size))
          have HP2 := Lib.hid hp2
          clear hk6 hbel6 hp2
          go_wp2_with (refine HT.out.wset (i := 5) (v := .slice ba b.length bc) rfl rfl rfl rfl Tryz.size_bytes rfl rfl (by simp) ?_)
          intro w7 hb7 ho7
          have HKB := Lib.hid (HKB.out.only ho7 HT.out (by decide))
          have HK := Lib.hid (HK.out.only ho7 HT.out (by decide))
          have HV := Lib.hid (row_only2x HV.out ho7 (fun k hk => Nat.ne_of_lt (HVLT.out k hk)))
          have HE := Lib.hid (fun y hy => (HE.out y hy).only ho7 HT.out (by decide))
          have HB := Lib.hid (below_only HB.out ho7 htx)
          have HT := Lib.hid hb7
          clear hb7 ho7
          cases hp3 : bytesP 2 r6 with
          | none =>
            have HNONE := Lib.hid (show parse bs = none by rw [HP.out, parse_none HNE.out (by rw [HOP.out, HP1.out]; simp only; rw [HP2.out]; simp only; rw [hp3])]; rfl)
            go_wp2_with fail
            refine (piece_none_i (some ⟨b0, o0, none⟩) n cap a6 2 _ bs _ (by omega) HN.out (by omega) (by omega) (by omega) (HL.out.below HB.out) (by rw [hd6]; exact hp3)).mono ?_
            rintro e w8 ⟨rfl, rfl⟩
            clear hp3
            go_wp2
            go_ret2
            refine ⟨fun _ => rfl, fun l h => ?_, HB.out⟩
            rw [HNONE.out] at h
            cases h
          | some p3 =>
          obtain ⟨name, r7⟩ := p3
          go_wp2_with fail
          refine (piece_some_i (some ⟨b0, o0, none⟩) n cap a6 2 _ bs name r7 _ (by omega) HN.out hc (by omega) (by omega) (by omega) (HL.out.below HB.out) (by rw [hd6]; exact hp3)).mono ?_
          rintro e w8 ⟨v8, a7, rfl, ha7, hk8, hle7, hd7, hbel8⟩
          obtain ⟨na, nc, rfl, _, _, hnl⟩ := hk8.form
          have HKB := Lib.hid (HKB.out.later hbel8)
          have HK := Lib.hid (HK.out.later hbel8)
          have HV := Lib.hid (own_below HV.out hbel8)
          have HE := Lib.hid (fun y hy => (HE.out y hy).later hbel8)
          have HT := Lib.hid (HT.out.below hbel8 HT.out.lt)
          have HB := Lib.hid (HB.out.trans (hbel8.mono HB.out.size))
          have hstr := run_string (P := Tryz.prog) w8 24 9 5 Tryz.underlying24 Tryz.underlying5 Tryz.underlying9 na name.length nc name rfl hnl
          have HOPS := Lib.hid (show opP (bs.drop a) = some (⟨(x0.toNat : Nat), (x1.toNat : Nat), (z1.toNat : Nat), (z2.toNat : Nat), key, b, name⟩, r7) by rw [HOP.out, HP1.out]; simp only; rw [HP2.out]; simp only; rw [hp3])
          have ha7n : decide ((a7 : Int) < 0) = false := by simp
          clear hk8 hbel8 hnl hp3 HOP HP1 HP2
          go_wp2_with (refine HT.out.wset (i := 6) (v := .string (str name)) rfl rfl rfl rfl Tryz.size_string rfl rfl (by simp) ?_)
          intro w9 hb9 ho9
          have HKB := Lib.hid (HKB.out.only ho9 HT.out (by decide))
          have HK := Lib.hid (HK.out.only ho9 HT.out (by decide))
          have HV := Lib.hid (row_only2x HV.out ho9 (fun k hk => Nat.ne_of_lt (HVLT.out k hk)))
          have HE := Lib.hid (fun y hy => (HE.out y hy).only ho9 HT.out (by decide))
          have HB := Lib.hid (below_only HB.out ho9 htx)
          obtain ⟨x, hxe⟩ : ∃ x : Opr, x = ⟨⟨(x0.toNat : Nat), (x1.toNat : Nat), (z1.toNat : Nat), (z2.toNat : Nat), key, b, name⟩, ka, kc, ba, bc⟩ := ⟨_, rfl⟩
          have HT := Lib.hid (show Blk w9 tx x.vals 40 by rw [hxe]; exact hb9)
          have HNEW := Lib.hid (show NewOp w9 w.heap.size x by rw [hxe]; exact ⟨HK.out, HKB.out, (opP_some HOPS.out).2⟩)
          have HXC := Lib.hid (show opP (bs.drop a) = some (x.c, r7) by rw [hxe]; exact HOPS.out)
          have HL7 := Lib.hid x.vals_length
          clear hb9 ho9 hstr hxe HOPS HK HKB
          go_wp2_with (first | (refine HT.out.wload rfl rfl rfl Tryz.rowROp HL7.out ?_) | (refine wpList_rows 22 40 7 1 _ [x.vals] rfl rfl rfl Tryz.underlying22 Tryz.zsROp rfl (by omega) rfl (by omega) (by omega) (by simp [x.vals_length]) ?_))
          intro w10 hb10 hbel10
          have HB10 := Lib.hid (show Lies w10 (some ⟨w9.heap.size, 0, none⟩) x.vals by have := hb10.lies; simpa using this)
          have HV := Lib.hid (own_below HV.out hbel10)
          have HE := Lib.hid (fun y hy => (HE.out y hy).later hbel10)
          have HNEW := Lib.hid (HNEW.out.later hbel10)
          have HB := Lib.hid (HB.out.trans (hbel10.mono HB.out.size))
          clear hb10 hbel10
          go_wp2_with (at_builtin; refine wpList_append_own _ rfl (.tmp 65) (.tmp 67) 22 rfl w.heap.size 40 i0 (.agg (Go.Proofs.YtmpgcilppjkhoaaGreatDoor.zeroOp).toArray) 7 96 Tryz.underlying22 HI0.out.1 HI0.out.2.1 HI0.out.2.2.1 HI0.out.2.2.2 rfl (by decide) _ _ _ rfl HV.out ⟨w9.heap.size, 0, none⟩ 1 1 x.vals rfl rfl HB10.out.news x.vals_one (by unfold maxLen; omega) (by omega) HB.out.size ?_)
          intro v11 w11 hown11 hg11 _
          rw [← opsV_snoc] at hown11
          have HB11 := Lib.hid (below_append HB.out HV.out hg11 (Nat.le_refl _) HB.out.size)
          have HE11 := Lib.hid (fun y (hy : y ∈ ys ++ [x]) => (show NewOp w11 w.heap.size y from by
            have hk : NewOp w10 w.heap.size y := by
              rcases List.mem_append.1 hy with hy | hy
              · exact HE.out y hy
              · simp at hy; subst hy; exact HNEW.out
            exact ⟨World.ownsRow.kept hk.key hg11 (own_apart hk.key HV.out (by decide)), World.ownsRow.kept hk.b hg11 (own_apart hk.b HV.out (by decide)), hk.err⟩))
          have HV11 := Lib.hid (show w11.ownsRow w.heap.size 40 7 v11 (ys ++ [x]).length (opsV (ys ++ [x])) by rw [List.length_append]; exact hown11)
          have HP11 := Lib.hid (show parse bs = (parse (bs.drop a7)).map ((ys ++ [x]).map Opr.c ++ ·) by
            rw [HP.out, parse_some HXC.out, hd7]
            cases parse r7 with
            | none => rfl
            | some l => simp)
          clear hown11 hg11 HB10
          go_wp2
          go_roundw
          case rel => exact ⟨a7, ys ++ [x], by omega, by go_num, HV11, HE11, HP11, by simp; omega, HB11⟩
          case measure => simp [intOf]; omega
        · intro K hK
          refine op_varX 40 zeroOp _ rfl Tryz.zeroROp rfl (fun w2 hb2 hbel2 => ?_)
          have hb2' : Blk w2 wr.heap.size zeroOp 40 := hb2
          have htx := HB.out.size
          have HV2 := Lib.hid (own_below (show wr.drew.ownsRow w.heap.size 40 7 _ _ _ from HV.out) hbel2)
          have HE2 := Lib.hid (fun y hy => NewOp.later (show NewOp wr.drew w.heap.size y from ⟨(HE.out y hy).key, (HE.out y hy).b, (HE.out y hy).err⟩) hbel2)
          have HB2 := Lib.hid (HB.out.drew.trans (hbel2.mono HB.out.drew.size))
          have hs2 : SameAt b0 wr.drew w2 := hbel2.block b0 hb0
          refine hK _ _ (fun _ => hs2) ?_
          clear hK K hbel2 hs2 hb2
          generalize htxe : wr.heap.size = tx at *
          go_simp
          refine wpAnyK_rest [(19, false), (20, true), (21, true), (23, false)] (fun _ => rfl) (fun _ _ _ h g => g.trans h) (by kernel_rfl) ?_
          refine walkK_free rfl (by rfl) (fun K hK => ?_)
          go_simp
          refine (refnum_i (some ⟨b0, o0, none⟩) n cap (a + 6) 4 ((a : Int) + 6) bs _ (by omega) HN.out (by omega) (by omega) (by omega) (HL.out.below HB2.out)).mono ?_
          rintro e w1 ⟨z2, rfl, hz2, hwz2, rfl⟩
          have HZ2 := Lib.hid hz2
          have hwz2' : RowKit.wrap64 (z2.toNat : Int) = (z2.toNat : Int) := (IntWalk.i64_left (z2.toNat : Int)).symm.trans hwz2
          clear hz2
          go_simp
          refine hK _ _ (fun _ => rfl) ?_
          clear hK K
          repeat ((first | refine walkK_one rfl rfl (fun K hK => ?_) | refine walkK_alone (fun _ => rfl) rfl rfl (fun K hK => ?_)); go_big_quiet_step (fail); refine wpQuiet_nil (hK _ ?_); clear hK K)
          refine walkK_free rfl (by rfl) (fun K hK => ?_)
          try simp only [hx0w, hx1w, hwz1', hwz2']
          refine hb2'.opstore (cs := [.int .i64 (x0.toNat : Int), .int .i64 (x1.toNat : Int), .int .i64 (z1.toNat : Int), .int .i64 (z2.toNat : Int), .slice none 0 0, .slice none 0 0, .string (str [])]) rfl rfl rfl Tryz.rowROp rfl rfl (by intro v hv; simp at hv; rcases hv with rfl | rfl | rfl | rfl | rfl | rfl <;> rfl) (fun w3 hb3 ho3 => hK _ _ (fun _ => ho3.block b0 (by omega)) ?_)
          clear hK K
          have HV := Lib.hid (row_only2x HV2.out ho3 (fun k hk => Nat.ne_of_lt (HVLT.out k hk)))
          have HE := Lib.hid (fun y hy => (HE2.out y hy).only ho3 hb2' (by decide))
          have HB := Lib.hid (below_only HB2.out ho3 htx)
          have HT := Lib.hid hb3
          clear hb2' hb3 ho3 HV2 HE2 HB2
          go_simp
          refine walkK_nil ?_
          have HX := Lib.hid (show headP (bs.drop a) = fun key b name => ⟨(x0.toNat : Nat), (x1.toNat : Nat), (z1.toNat : Nat), (z2.toNat : Nat), key, b, name⟩ by
            funext key b name
            unfold headP
            rw [numOf_one HX0.out, List.drop_drop, List.drop_drop, List.drop_drop, numOf_one HX1.out, ← HZ1.out, ← HZ2.out])
          have HOP := Lib.hid (show opP (bs.drop a) = _ from HOP.out)
          rw [List.drop_drop, HX.out] at HOP
          clear HZ1 HZ2
          cases hp1 : bytesP 1 (bs.drop (a + 10)) with
          | none =>
            have HNONE := Lib.hid (show parse bs = none by rw [HP.out, parse_none HNE.out (by rw [HOP.out, hp1])]; rfl)
            go_wp2_with fail
            refine (piece_none_i (some ⟨b0, o0, none⟩) n cap (a + 10) 1 _ bs _ (by omega) HN.out (by omega) (by omega) (by omega) (HL.out.below HB.out) hp1).mono ?_
            rintro e w4 ⟨rfl, rfl⟩
            clear hp1
            go_wp2_with (refine HT.out.wset (i := 4) (v := .slice none 0 0) rfl rfl rfl rfl Tryz.size_bytes rfl rfl (by simp) ?_)
            intro w5 hb5 ho5
            have HB := Lib.hid (below_only HB.out ho5 htx)
            have HT := Lib.hid hb5
            clear hb5 ho5
            go_wp2_with fail
            refine (piece_neg (some ⟨b0, o0, none⟩) n cap 2 _).mono ?_
            rintro e w6 ⟨rfl, rfl⟩
            go_wp2_with (refine HT.out.wset (i := 5) (v := .slice none 0 0) rfl rfl rfl rfl Tryz.size_bytes rfl rfl (by simp) ?_)
            intro w7 hb7 ho7
            have HB := Lib.hid (below_only HB.out ho7 htx)
            clear hb7 ho7
            go_wp2_with fail
            refine (piece_neg (some ⟨b0, o0, none⟩) n cap 2 _).mono ?_
            rintro e w8 ⟨rfl, rfl⟩
            go_wp2
            go_ret2
            refine ⟨fun _ => rfl, fun l h => ?_, HB.out⟩
            rw [HNONE.out] at h
            cases h
          | some p1 =>
          obtain ⟨key, r5⟩ := p1
          go_wp2_with fail
          refine (piece_some_i (some ⟨b0, o0, none⟩) n cap (a + 10) 1 _ bs key r5 _ (by omega) HN.out hc (by omega) (by omega) (by omega) (HL.out.below HB.out) hp1).mono ?_
          rintro e w4 ⟨v4, a5, rfl, ha5, hk4, hle5, hd5, hbel4⟩
          obtain ⟨ka, kc, rfl, _, _, _⟩ := hk4.form
          have HK := Lib.hid (hk4.base_le HB.out.size)
          have HV := Lib.hid (own_below HV.out hbel4)
          have HE := Lib.hid (fun y hy => (HE.out y hy).later hbel4)
          have HT := Lib.hid (HT.out.below hbel4 HT.out.lt)
          have HB := Lib.hid (HB.out.trans (hbel4.mono HB.out.size))
          have HP1 := Lib.hid hp1
          clear hk4 hbel4 hp1
          go_wp2_with (refine HT.out.wset (i := 4) (v := .slice ka key.length kc) rfl rfl rfl rfl Tryz.size_bytes rfl rfl (by simp) ?_)
          intro w5 hb5 ho5
          have HK := Lib.hid (HK.out.only ho5 HT.out (by decide))
          have HV := Lib.hid (row_only2x HV.out ho5 (fun k hk => Nat.ne_of_lt (HVLT.out k hk)))
          have HE := Lib.hid (fun y hy => (HE.out y hy).only ho5 HT.out (by decide))
          have HB := Lib.hid (below_only HB.out ho5 htx)
          have HT := Lib.hid hb5
          clear hb5 ho5
          cases hp2 : bytesP 2 r5 with
          | none =>
            have HNONE := Lib.hid (show parse bs = none by rw [HP.out, parse_none HNE.out (by rw [HOP.out, HP1.out]; simp only; rw [hp2])]; rfl)
            go_wp2_with fail
            refine (piece_none_i (some ⟨b0, o0, none⟩) n cap a5 2 _ bs _ (by omega) HN.out (by omega) (by omega) (by omega) (HL.out.below HB.out) (by rw [hd5]; exact hp2)).mono ?_
            rintro e w6 ⟨rfl, rfl⟩
            clear hp2
            go_wp2_with (refine HT.out.wset (i := 5) (v := .slice none 0 0) rfl rfl rfl rfl Tryz.size_bytes rfl rfl (by simp) ?_)
            intro w7 hb7 ho7
            have HB := Lib.hid (below_only HB.out ho7 htx)
            clear hb7 ho7
            go_wp2_with fail
            refine (piece_neg (some ⟨b0, o0, none⟩) n cap 2 _).mono ?_
            rintro e w8 ⟨rfl, rfl⟩
            go_wp2
            go_ret2
            refine ⟨fun _ => rfl, fun l h => ?_, HB.out⟩
            rw [HNONE.out] at h
            cases h
          | some p2 =>
          obtain ⟨b, r6⟩ := p2
          go_wp2_with fail
          refine (piece_some_i (some ⟨b0, o0, none⟩) n cap a5 2 _ bs b r6 _ (by omega) HN.out hc (by omega) (by omega) (by omega) (HL.out.below HB.out) (by rw [hd5]; exact hp2)).mono ?_
          rintro e w6 ⟨v6, a6, rfl, ha6, hk6, hle6, hd6, hbel6⟩
          obtain ⟨ba, bc, rfl, _, _, _⟩ := hk6.form
          have HKB := Lib.hid (hk6.base_le HB.out.size)
          have HK := Lib.hid (HK.out.later hbel6)
          have HV := Lib.hid (own_below HV.out hbel6)
          have HE := Lib.hid (fun y hy => (HE.out y hy).later hbel6)
          have HT := Lib.hid (HT.out.below hbel6 HT.out.lt)
          have HB := Lib.hid (HB.out.trans (hbel6.mono HB.out.size))
          have HP2 := Lib.hid hp2
          clear hk6 hbel6 hp2
          go_wp2_with (refine HT.out.wset (i := 5) (v := .slice ba b.length bc) rfl rfl rfl rfl Tryz.size_bytes rfl rfl (by simp) ?_)
          intro w7 hb7 ho7
          have HKB := Lib.hid (HKB.out.only ho7 HT.out (by decide))
          have HK := Lib.hid (HK.out.only ho7 HT.out (by decide))
          have HV := Lib.hid (row_only2x HV.out ho7 (fun k hk => Nat.ne_of_lt (HVLT.out k hk)))
          have HE := Lib.hid (fun y hy => (HE.out y hy).only ho7 HT.out (by decide))
          have HB := Lib.hid (below_only HB.out ho7 htx)
          have HT := Lib.hid hb7
          clear hb7 ho7
          cases hp3 : bytesP 2 r6 with
          | none =>
            have HNONE := Lib.hid (show parse bs = none by rw [HP.out, parse_none HNE.out (by rw [HOP.out, HP1.out]; simp only; rw [HP2.out]; simp only; rw [hp3])]; rfl)
            go_wp2_with fail
            refine (piece_none_i (some ⟨b0, o0, none⟩) n cap a6 2 _ bs _ (by omega) HN.out (by omega) (by omega) (by omega) (HL.out.below HB.out) (by rw [hd6]; exact hp3)).mono ?_
            rintro e w8 ⟨rfl, rfl⟩
            clear hp3
            go_wp2
            go_ret2
            refine ⟨fun _ => rfl, fun l h => ?_, HB.out⟩
            rw [HNONE.out] at h
            cases h
          | some p3 =>
          obtain ⟨name, r7⟩ := p3
          go_wp2_with fail
          refine (piece_some_i (some ⟨b0, o0, none⟩) n cap a6 2 _ bs name r7 _ (by omega) HN.out hc (by omega) (by omega) (by omega) (HL.out.below HB.out) (by rw [hd6]; exact hp3)).mono ?_
          rintro e w8 ⟨v8, a7, rfl, ha7, hk8, hle7, hd7, hbel8⟩
          obtain ⟨na, nc, rfl, _, _, hnl⟩ := hk8.form
          have HKB := Lib.hid (HKB.out.later hbel8)
          have HK := Lib.hid (HK.out.later hbel8)
          have HV := Lib.hid (own_below HV.out hbel8)
          have HE := Lib.hid (fun y hy => (HE.out y hy).later hbel8)
          have HT := Lib.hid (HT.out.below hbel8 HT.out.lt)
          have HB := Lib.hid (HB.out.trans (hbel8.mono HB.out.size))
          have hstr := run_string (P := Tryz.prog) w8 24 9 5 Tryz.underlying24 Tryz.underlying5 Tryz.underlying9 na name.length nc name rfl hnl
          have HOPS := Lib.hid (show opP (bs.drop a) = some (⟨(x0.toNat : Nat), (x1.toNat : Nat), (z1.toNat : Nat), (z2.toNat : Nat), key, b, name⟩, r7) by rw [HOP.out, HP1.out]; simp only; rw [HP2.out]; simp only; rw [hp3])
          have ha7n : decide ((a7 : Int) < 0) = false := by simp
          clear hk8 hbel8 hnl hp3 HOP HP1 HP2
          go_wp2_with (refine HT.out.wset (i := 6) (v := .string (str name)) rfl rfl rfl rfl Tryz.size_string rfl rfl (by simp) ?_)
          intro w9 hb9 ho9
          have HKB := Lib.hid (HKB.out.only ho9 HT.out (by decide))
          have HK := Lib.hid (HK.out.only ho9 HT.out (by decide))
          have HV := Lib.hid (row_only2x HV.out ho9 (fun k hk => Nat.ne_of_lt (HVLT.out k hk)))
          have HE := Lib.hid (fun y hy => (HE.out y hy).only ho9 HT.out (by decide))
          have HB := Lib.hid (below_only HB.out ho9 htx)
          obtain ⟨x, hxe⟩ : ∃ x : Opr, x = ⟨⟨(x0.toNat : Nat), (x1.toNat : Nat), (z1.toNat : Nat), (z2.toNat : Nat), key, b, name⟩, ka, kc, ba, bc⟩ := ⟨_, rfl⟩
          have HT := Lib.hid (show Blk w9 tx x.vals 40 by rw [hxe]; exact hb9)
          have HNEW := Lib.hid (show NewOp w9 w.heap.size x by rw [hxe]; exact ⟨HK.out, HKB.out, (opP_some HOPS.out).2⟩)
          have HXC := Lib.hid (show opP (bs.drop a) = some (x.c, r7) by rw [hxe]; exact HOPS.out)
          have HL7 := Lib.hid x.vals_length
          clear hb9 ho9 hstr hxe HOPS HK HKB
          go_wp2_with (first | (refine HT.out.wload rfl rfl rfl Tryz.rowROp HL7.out ?_) | (refine wpList_rows 22 40 7 1 _ [x.vals] rfl rfl rfl Tryz.underlying22 Tryz.zsROp rfl (by omega) rfl (by omega) (by omega) (by simp [x.vals_length]) ?_))
          intro w10 hb10 hbel10
          have HB10 := Lib.hid (show Lies w10 (some ⟨w9.heap.size, 0, none⟩) x.vals by have := hb10.lies; simpa using this)
          have HV := Lib.hid (own_below HV.out hbel10)
          have HE := Lib.hid (fun y hy => (HE.out y hy).later hbel10)
          have HNEW := Lib.hid (HNEW.out.later hbel10)
          have HB := Lib.hid (HB.out.trans (hbel10.mono HB.out.size))
          clear hb10 hbel10
          go_wp2_with (at_builtin; refine wpList_append_own _ rfl (.tmp 65) (.tmp 67) 22 rfl w.heap.size 40 i0 (.agg (Go.Proofs.YtmpgcilppjkhoaaGreatDoor.zeroOp).toArray) 7 96 Tryz.underlying22 HI0.out.1 HI0.out.2.1 HI0.out.2.2.1 HI0.out.2.2.2 rfl (by decide) _ _ _ rfl HV.out ⟨w9.heap.size, 0, none⟩ 1 1 x.vals rfl rfl HB10.out.news x.vals_one (by unfold maxLen; omega) (by omega) HB.out.size ?_)
          intro v11 w11 hown11 hg11 _
          rw [← opsV_snoc] at hown11
          have HB11 := Lib.hid (below_append HB.out HV.out hg11 (Nat.le_refl _) HB.out.size)
          have HE11 := Lib.hid (fun y (hy : y ∈ ys ++ [x]) => (show NewOp w11 w.heap.size y from by
            have hk : NewOp w10 w.heap.size y := by
              rcases List.mem_append.1 hy with hy | hy
              · exact HE.out y hy
              · simp at hy; subst hy; exact HNEW.out
            exact ⟨World.ownsRow.kept hk.key hg11 (own_apart hk.key HV.out (by decide)), World.ownsRow.kept hk.b hg11 (own_apart hk.b HV.out (by decide)), hk.err⟩))
          have HV11 := Lib.hid (show w11.ownsRow w.heap.size 40 7 v11 (ys ++ [x]).length (opsV (ys ++ [x])) by rw [List.length_append]; exact hown11)
          have HP11 := Lib.hid (show parse bs = (parse (bs.drop a7)).map ((ys ++ [x]).map Opr.c ++ ·) by
            rw [HP.out, parse_some HXC.out, hd7]
            cases parse r7 with
            | none => rfl
            | some l => simp)
          clear hown11 hg11 HB10
          go_wp2
          go_roundw
          case rel => exact ⟨a7, ys ++ [x], by omega, by go_num, HV11, HE11, HP11, by simp; omega, HB11⟩
          case measure => simp [intOf]; omega
      · intro K hK
        refine op_varX 40 zeroOp _ rfl Tryz.zeroROp rfl (fun w2 hb2 hbel2 => ?_)
        have hb2' : Blk w2 wr.heap.size zeroOp 40 := hb2
        have htx := HB.out.size
        have HV2 := Lib.hid (own_below (show wr.drew.ownsRow w.heap.size 40 7 _ _ _ from HV.out) hbel2)
        have HE2 := Lib.hid (fun y hy => NewOp.later (show NewOp wr.drew w.heap.size y from ⟨(HE.out y hy).key, (HE.out y hy).b, (HE.out y hy).err⟩) hbel2)
        have HB2 := Lib.hid (HB.out.drew.trans (hbel2.mono HB.out.drew.size))
        have hs2 : SameAt b0 wr.drew w2 := hbel2.block b0 hb0
        refine hK _ _ (fun _ => hs2) ?_
        clear hK K hbel2 hs2 hb2
        generalize htxe : wr.heap.size = tx at *
        go_simp
        refine wpAnyK_rest [(14, false), (15, true), (19, false), (20, true), (21, true), (23, false)] (fun _ => rfl) (fun _ _ _ h g => g.trans h) (by kernel_rfl) ?_
        refine walkK_free rfl (by rfl) (fun K hK => ?_)
        go_simp
        refine (refnum_i (some ⟨b0, o0, none⟩) n cap (a + 2) 4 ((a : Int) + 2) bs _ (by omega) HN.out (by omega) (by omega) (by omega) (HL.out.below HB2.out)).mono ?_
        rintro e w1 ⟨z1, rfl, hz1, hwz1, rfl⟩
        have HZ1 := Lib.hid hz1
        have hwz1' : RowKit.wrap64 (z1.toNat : Int) = (z1.toNat : Int) := (IntWalk.i64_left (z1.toNat : Int)).symm.trans hwz1
        clear hz1
        go_simp
        refine hK _ _ (fun _ => rfl) ?_
        clear hK K
        repeat ((first | refine walkK_one rfl rfl (fun K hK => ?_) | refine walkK_alone (fun _ => rfl) rfl rfl (fun K hK => ?_)); go_big_quiet_step (fail); refine wpQuiet_nil (hK _ ?_); clear hK K)
        refine walkK_free rfl (by rfl) (fun K hK => ?_)
        go_simp
        refine (refnum_i (some ⟨b0, o0, none⟩) n cap (a + 6) 4 ((a : Int) + 6) bs _ (by omega) HN.out (by omega) (by omega) (by omega) (HL.out.below HB2.out)).mono ?_
        rintro e w1 ⟨z2, rfl, hz2, hwz2, rfl⟩
        have HZ2 := Lib.hid hz2
        have hwz2' : RowKit.wrap64 (z2.toNat : Int) = (z2.toNat : Int) := (IntWalk.i64_left (z2.toNat : Int)).symm.trans hwz2
        clear hz2
        go_simp
        refine hK _ _ (fun _ => rfl) ?_
        clear hK K
        repeat ((first | refine walkK_one rfl rfl (fun K hK => ?_) | refine walkK_alone (fun _ => rfl) rfl rfl (fun K hK => ?_)); go_big_quiet_step (fail); refine wpQuiet_nil (hK _ ?_); clear hK K)
        refine walkK_free rfl (by rfl) (fun K hK => ?_)
        try simp only [hx0w, hx1w, hwz1', hwz2']
        refine hb2'.opstore (cs := [.int .i64 (x0.toNat : Int), .int .i64 (x1.toNat : Int), .int .i64 (z1.toNat : Int), .int .i64 (z2.toNat : Int), .slice none 0 0, .slice none 0 0, .string (str [])]) rfl rfl rfl Tryz.rowROp rfl rfl (by intro v hv; simp at hv; rcases hv with rfl | rfl | rfl | rfl | rfl | rfl <;> rfl) (fun w3 hb3 ho3 => hK _ _ (fun _ => ho3.block b0 (by omega)) ?_)
        clear hK K
        have HV := Lib.hid (row_only2x HV2.out ho3 (fun k hk => Nat.ne_of_lt (HVLT.out k hk)))
        have HE := Lib.hid (fun y hy => (HE2.out y hy).only ho3 hb2' (by decide))
        have HB := Lib.hid (below_only HB2.out ho3 htx)
        have HT := Lib.hid hb3
        clear hb2' hb3 ho3 HV2 HE2 HB2
        go_simp
        refine walkK_nil ?_
        have HX := Lib.hid (show headP (bs.drop a) = fun key b name => ⟨(x0.toNat : Nat), (x1.toNat : Nat), (z1.toNat : Nat), (z2.toNat : Nat), key, b, name⟩ by
          funext key b name
          unfold headP
          rw [numOf_one HX0.out, List.drop_drop, List.drop_drop, List.drop_drop, numOf_one HX1.out, ← HZ1.out, ← HZ2.out])
        have HOP := Lib.hid (show opP (bs.drop a) = _ from HOP.out)
        rw [List.drop_drop, HX.out] at HOP
        clear HZ1 HZ2
        cases hp1 : bytesP 1 (bs.drop (a + 10)) with
        | none =>
          have HNONE := Lib.hid (show parse bs = none by rw [HP.out, parse_none HNE.out (by rw [HOP.out, hp1])]; rfl)
          go_wp2_with fail
          refine (piece_none_i (some ⟨b0, o0, none⟩) n cap (a + 10) 1 _ bs _ (by omega) HN.out (by omega) (by omega) (by omega) (HL.out.below HB.out) hp1).mono ?_
          rintro e w4 ⟨rfl, rfl⟩
          clear hp1
          go_wp2_with (refine HT.out.wset (i := 4) (v := .slice none 0 0) rfl rfl rfl rfl Tryz.size_bytes rfl rfl (by simp) ?_)
          intro w5 hb5 ho5
          have HB := Lib.hid (below_only HB.out ho5 htx)
          have HT := Lib.hid hb5
          clear hb5 ho5
          go_wp2_with fail
          refine (piece_neg (some ⟨b0, o0, none⟩) n cap 2 _).mono ?_
          rintro e w6 ⟨rfl, rfl⟩
          go_wp2_with (refine HT.out.wset (i := 5) (v := .slice none 0 0) rfl rfl rfl rfl Tryz.size_bytes rfl rfl (by simp) ?_)
          intro w7 hb7 ho7
          have HB := Lib.hid (below_only HB.out ho7 htx)
          clear hb7 ho7
          go_wp2_with fail
          refine (piece_neg (some ⟨b0, o0, none⟩) n cap 2 _).mono ?_
          rintro e w8 ⟨rfl, rfl⟩
          go_wp2
          go_ret2
          refine ⟨fun _ => rfl, fun l h => ?_, HB.out⟩
          rw [HNONE.out] at h
          cases h
        | some p1 =>
        obtain ⟨key, r5⟩ := p1
        go_wp2_with fail
        refine (piece_some_i (some ⟨b0, o0, none⟩) n cap (a + 10) 1 _ bs key r5 _ (by omega) HN.out hc (by omega) (by omega) (by omega) (HL.out.below HB.out) hp1).mono ?_
        rintro e w4 ⟨v4, a5, rfl, ha5, hk4, hle5, hd5, hbel4⟩
        obtain ⟨ka, kc, rfl, _, _, _⟩ := hk4.form
        have HK := Lib.hid (hk4.base_le HB.out.size)
        have HV := Lib.hid (own_below HV.out hbel4)
        have HE := Lib.hid (fun y hy => (HE.out y hy).later hbel4)
        have HT := Lib.hid (HT.out.below hbel4 HT.out.lt)
        have HB := Lib.hid (HB.out.trans (hbel4.mono HB.out.size))
        have HP1 := Lib.hid hp1
        clear hk4 hbel4 hp1
        go_wp2_with (refine HT.out.wset (i := 4) (v := .slice ka key.length kc) rfl rfl rfl rfl Tryz.size_bytes rfl rfl (by simp) ?_)
        intro w5 hb5 ho5
        have HK := Lib.hid (HK.out.only ho5 HT.out (by decide))
        have HV := Lib.hid (row_only2x HV.out ho5 (fun k hk => Nat.ne_of_lt (HVLT.out k hk)))
        have HE := Lib.hid (fun y hy => (HE.out y hy).only ho5 HT.out (by decide))
        have HB := Lib.hid (below_only HB.out ho5 htx)
        have HT := Lib.hid hb5
        clear hb5 ho5
        cases hp2 : bytesP 2 r5 with
        | none =>
          have HNONE := Lib.hid (show parse bs = none by rw [HP.out, parse_none HNE.out (by rw [HOP.out, HP1.out]; simp only; rw [hp2])]; rfl)
          go_wp2_with fail
          refine (piece_none_i (some ⟨b0, o0, none⟩) n cap a5 2 _ bs _ (by omega) HN.out (by omega) (by omega) (by omega) (HL.out.below HB.out) (by rw [hd5]; exact hp2)).mono ?_
          rintro e w6 ⟨rfl, rfl⟩
          clear hp2
          go_wp2_with (refine HT.out.wset (i := 5) (v := .slice none 0 0) rfl rfl rfl rfl Tryz.size_bytes rfl rfl (by simp) ?_)
          intro w7 hb7 ho7
          have HB := Lib.hid (below_only HB.out ho7 htx)
          clear hb7 ho7
          go_wp2_with fail
          refine (piece_neg (some ⟨b0, o0, none⟩) n cap 2 _).mono ?_
          rintro e w8 ⟨rfl, rfl⟩
          go_wp2
          go_ret2
          refine ⟨fun _ => rfl, fun l h => ?_, HB.out⟩
          rw [HNONE.out] at h
          cases h
        | some p2 =>
        obtain ⟨b, r6⟩ := p2
        go_wp2_with fail
        refine (piece_some_i (some ⟨b0, o0, none⟩) n cap a5 2 _ bs b r6 _ (by omega) HN.out hc (by omega) (by omega) (by omega) (HL.out.below HB.out) (by rw [hd5]; exact hp2)).mono ?_
        rintro e w6 ⟨v6, a6, rfl, ha6, hk6, hle6, hd6, hbel6⟩
        obtain ⟨ba, bc, rfl, _, _, _⟩ := hk6.form
        have HKB := Lib.hid (hk6.base_le HB.out.size)
        have HK := Lib.hid (HK.out.later hbel6)
        have HV := Lib.hid (own_below HV.out hbel6)
        have HE := Lib.hid (fun y hy => (HE.out y hy).later hbel6)
        have HT := Lib.hid (HT.out.below hbel6 HT.out.lt)
        have HB := Lib.hid (HB.out.trans (hbel6.mono HB.out.size))
        have HP2 := Lib.hid hp2
        clear hk6 hbel6 hp2
        go_wp2_with (refine HT.out.wset (i := 5) (v := .slice ba b.length bc) rfl rfl rfl rfl Tryz.size_bytes rfl rfl (by simp) ?_)
        intro w7 hb7 ho7
        have HKB := Lib.hid (HKB.out.only ho7 HT.out (by decide))
        have HK := Lib.hid (HK.out.only ho7 HT.out (by decide))
        have HV := Lib.hid (row_only2x HV.out ho7 (fun k hk => Nat.ne_of_lt (HVLT.out k hk)))
        have HE := Lib.hid (fun y hy => (HE.out y hy).only ho7 HT.out (by decide))
        have HB := Lib.hid (below_only HB.out ho7 htx)
        have HT := Lib.hid hb7
        clear hb7 ho7
        cases hp3 : bytesP 2 r6 with
        | none =>
          have HNONE := Lib.hid (show parse bs = none by rw [HP.out, parse_none HNE.out (by rw [HOP.out, HP1.out]; simp only; rw [HP2.out]; simp only; rw [hp3])]; rfl)
          go_wp2_with fail
          refine (piece_none_i (some ⟨b0, o0, none⟩) n cap a6 2 _ bs _ (by omega) HN.out (by omega) (by omega) (by omega) (HL.out.below HB.out) (by rw [hd6]; exact hp3)).mono ?_
          rintro e w8 ⟨rfl, rfl⟩
          clear hp3
          go_wp2
          go_ret2
          refine ⟨fun _ => rfl, fun l h => ?_, HB.out⟩
          rw [HNONE.out] at h
          cases h
        | some p3 =>
        obtain ⟨name, r7⟩ := p3
        go_wp2_with fail
        refine (piece_some_i (some ⟨b0, o0, none⟩) n cap a6 2 _ bs name r7 _ (by omega) HN.out hc (by omega) (by omega) (by omega) (HL.out.below HB.out) (by rw [hd6]; exact hp3)).mono ?_
        rintro e w8 ⟨v8, a7, rfl, ha7, hk8, hle7, hd7, hbel8⟩
        obtain ⟨na, nc, rfl, _, _, hnl⟩ := hk8.form
        have HKB := Lib.hid (HKB.out.later hbel8)
        have HK := Lib.hid (HK.out.later hbel8)
        have HV := Lib.hid (own_below HV.out hbel8)
        have HE := Lib.hid (fun y hy => (HE.out y hy).later hbel8)
        have HT := Lib.hid (HT.out.below hbel8 HT.out.lt)
        have HB := Lib.hid (HB.out.trans (hbel8.mono HB.out.size))
        have hstr := run_string (P := Tryz.prog) w8 24 9 5 Tryz.underlying24 Tryz.underlying5 Tryz.underlying9 na name.length nc name rfl hnl
        have HOPS := Lib.hid (show opP (bs.drop a) = some (⟨(x0.toNat : Nat), (x1.toNat : Nat), (z1.toNat : Nat), (z2.toNat : Nat), key, b, name⟩, r7) by rw [HOP.out, HP1.out]; simp only; rw [HP2.out]; simp only; rw [hp3])
        have ha7n : decide ((a7 : Int) < 0) = false := by simp
        clear hk8 hbel8 hnl hp3 HOP HP1 HP2
        go_wp2_with (refine HT.out.wset (i := 6) (v := .string (str name)) rfl rfl rfl rfl Tryz.size_string rfl rfl (by simp) ?_)
        intro w9 hb9 ho9
        have HKB := Lib.hid (HKB.out.only ho9 HT.out (by decide))
        have HK := Lib.hid (HK.out.only ho9 HT.out (by decide))
        have HV := Lib.hid (row_only2x HV.out ho9 (fun k hk => Nat.ne_of_lt (HVLT.out k hk)))
        have HE := Lib.hid (fun y hy => (HE.out y hy).only ho9 HT.out (by decide))
        have HB := Lib.hid (below_only HB.out ho9 htx)
        obtain ⟨x, hxe⟩ : ∃ x : Opr, x = ⟨⟨(x0.toNat : Nat), (x1.toNat : Nat), (z1.toNat : Nat), (z2.toNat : Nat), key, b, name⟩, ka, kc, ba, bc⟩ := ⟨_, rfl⟩
        have HT := Lib.hid (show Blk w9 tx x.vals 40 by rw [hxe]; exact hb9)
        have HNEW := Lib.hid (show NewOp w9 w.heap.size x by rw [hxe]; exact ⟨HK.out, HKB.out, (opP_some HOPS.out).2⟩)
        have HXC := Lib.hid (show opP (bs.drop a) = some (x.c, r7) by rw [hxe]; exact HOPS.out)
        have HL7 := Lib.hid x.vals_length
        clear hb9 ho9 hstr hxe HOPS HK HKB
        go_wp2_with (first | (refine HT.out.wload rfl rfl rfl Tryz.rowROp HL7.out ?_) | (refine wpList_rows 22 40 7 1 _ [x.vals] rfl rfl rfl Tryz.underlying22 Tryz.zsROp rfl (by omega) rfl (by omega) (by omega) (by simp [x.vals_length]) ?_))
        intro w10 hb10 hbel10
        have HB10 := Lib.hid (show Lies w10 (some ⟨w9.heap.size, 0, none⟩) x.vals by have := hb10.lies; simpa using this)
        have HV := Lib.hid (own_below HV.out hbel10)
        have HE := Lib.hid (fun y hy => (HE.out y hy).later hbel10)
        have HNEW := Lib.hid (HNEW.out.later hbel10)
        have HB := Lib.hid (HB.out.trans (hbel10.mono HB.out.size))
        clear hb10 hbel10
        go_wp2_with (at_builtin; refine wpList_append_own _ rfl (.tmp 65) (.tmp 67) 22 rfl w.heap.size 40 i0 (.agg (Go.Proofs.YtmpgcilppjkhoaaGreatDoor.zeroOp).toArray) 7 96 Tryz.underlying22 HI0.out.1 HI0.out.2.1 HI0.out.2.2.1 HI0.out.2.2.2 rfl (by decide) _ _ _ rfl HV.out ⟨w9.heap.size, 0, none⟩ 1 1 x.vals rfl rfl HB10.out.news x.vals_one (by unfold maxLen; omega) (by omega) HB.out.size ?_)
        intro v11 w11 hown11 hg11 _
        rw [← opsV_snoc] at hown11
        have HB11 := Lib.hid (below_append HB.out HV.out hg11 (Nat.le_refl _) HB.out.size)
        have HE11 := Lib.hid (fun y (hy : y ∈ ys ++ [x]) => (show NewOp w11 w.heap.size y from by
          have hk : NewOp w10 w.heap.size y := by
            rcases List.mem_append.1 hy with hy | hy
            · exact HE.out y hy
            · simp at hy; subst hy; exact HNEW.out
          exact ⟨World.ownsRow.kept hk.key hg11 (own_apart hk.key HV.out (by decide)), World.ownsRow.kept hk.b hg11 (own_apart hk.b HV.out (by decide)), hk.err⟩))
        have HV11 := Lib.hid (show w11.ownsRow w.heap.size 40 7 v11 (ys ++ [x]).length (opsV (ys ++ [x])) by rw [List.length_append]; exact hown11)
        have HP11 := Lib.hid (show parse bs = (parse (bs.drop a7)).map ((ys ++ [x]).map Opr.c ++ ·) by
          rw [HP.out, parse_some HXC.out, hd7]
          cases parse r7 with
          | none => rfl
          | some l => simp)
        clear hown11 hg11 HB10
        go_wp2
        go_roundw
        case rel => exact ⟨a7, ys ++ [x], by omega, by go_num, HV11, HE11, HP11, by simp; omega, HB11⟩
        case measure => simp [intOf]; omega
    · obtain rfl : a = n := by omega
      rw [List.drop_of_length_le (Nat.le_of_eq HN.out), parse_nil] at HP
      go_wp2
      go_ret2
      refine ⟨fun h => ?_, fun l h => ⟨_, ys, rfl, ?_, HV.out, HE.out⟩, HB.out⟩
      · rw [HP.out] at h; cases h
      · rw [HP.out] at h
        simpa using h

end Go.Proofs.YtmpgcilppjkhoaaGreatDoor
