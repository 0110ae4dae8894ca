/-
  The walk of ReelTells.
-/
import Derived.Test.YtmpgcilppjkhoaaGreatDoorReelL
import Derived.Test.YtmpgcilppjkhoaaGreatDoorReelS
namespace Go.Mem
/-- 's[i:]', of elements of one cell. -/
theorem run_cut_from {P : Program} (w : World) (t e : TypeId) (ht : P.underlying t = some (.slice e)) (hs : ∀ w : World, (sizeOf e).run P w = .ok 1 w) (ao : Option Addr) (len cap lo : Nat) (i : Int) (hi : i = lo) (h1 : lo ≤ len) :
    (Instr.slice t (.slice ao len cap) (some (.int .i64 i)) none none).run P w = .ok (.slice (cutAddr ao cap lo) (len - lo) (cap - lo)) w := by
  subst hi
  simp [Instr.slice, Instr.sliceBounds, Instr.sliceBound, run_underlying ht, hs, asIntOf, h1, cutAddr]
end Go.Mem
namespace Go.Proofs.YtmpgcilppjkhoaaGreatDoor
open Go.RowKit Go.Mem Go.Ops Go.Cells Go.Oct Go.Reel Go.Trn
set_option linter.unusedSimpArgs false
set_option linter.unusedVariables false
set_option maxRecDepth 100000
attribute [local irreducible] walkR

theorem op_var {P : Program} {w : World} {o : Oper} {a : Act} {K : Act → World → Prop} {Q : Exit → Act → World → Prop} (t : TypeId) (vs : List Value) (z : Value)
    (ho : o.op = .alloc t) (hz : (P.info? t).map (·.zero) = some (some z)) (hv : z.cells = vs.toArray)
    (k : ∀ w', Blk w' w.heap.size vs t → Below w.heap.size w w' → K (a.put o.dst (.pointer (some ⟨w.heap.size, 0, none⟩))) w') : o.wp P a w K Q := by
  have hk := k (w.alloc (.cells vs.toArray t)) (Blk.new w vs t) (later_alloc w _)
  cases hq : P.info? t with
  | none => rw [hq] at hz; cases hz
  | some x =>
    rw [hq] at hz
    have hx : x.zero = some z := by simpa using hz
    unfold Oper.wp
    simp [execOp, ho, Instr.alloc, zeroValue, typeInfo, hq, hx, newVar, newRow, hv]
    exact hk

/-- What is told, in memory. -/
def outsV (xs : List Oute) : List Value := (xs.map Oute.vals).flatten
theorem outsV_snoc (xs : List Oute) (x : Oute) : outsV (xs ++ [x]) = outsV xs ++ x.vals := by simp [outsV]
theorem outs_of_own {w : World} {base n : Nat} {ao : Option Addr} {cap : Nat} {xs : List Oute} (h : w.ownsRow base 48 3 (.slice ao n cap) n (outsV xs)) (he : ∀ x ∈ xs, x.In w) : OutsIn w ao xs :=
  ⟨⟨by intro v hv; obtain ⟨x, _, rfl⟩ := List.mem_map.1 hv; exact x.vals_length, Lies.of_own h⟩, he⟩
theorem tellsB_one (x : Oute) : tellsB [x] = x.bytes := by simp [tellsB]
theorem bytes_cons (x : Oute) (h : x.b.length ≤ 1000000000) : x.bytes = byteOf x.e :: (putN x.n 4 ++ putN x.b.length 4 ++ x.b) := by
  have := x.bytes_put [] h
  rw [putN_one] at this
  simpa using this.symm
theorem bytes_drop (x : Oute) : x.bytes.drop 9 = x.b := by
  unfold Oute.bytes tellB
  rw [← List.append_assoc, ← List.append_assoc, List.drop_left' (by simp [bytesOf_length])]

theorem row_only2 {w w' : World} {base b n size : Nat} {e : TypeId} {v : Value} {xs : List Value} (h : w.ownsRow base e size v n xs) (ho : Only b w w') (hne : ∀ k, v.ownBlock = some k → k ≠ b) : w'.ownsRow base e size v n xs := by
  refine ⟨h.1, h.2.imp id ?_⟩
  rintro ⟨g, cap, cur, hv, hg, hh, rest⟩
  refine ⟨g, cap, cur, hv, hg, ?_, rest⟩
  rw [ho.block g (hne g (by rw [hv]; rfl))]
  exact hh

set_option maxHeartbeats 8000000 in
theorem tells_law (ao : Option Addr) (n cap : Nat) (xs : List Oute) (w : World) (hn : xs.length = n) (hc : n ≤ cap) (hcm : cap ≤ maxLen) (hx : OutsIn w ao xs) (hg : Globals w) :
    Calls Tryz.prog 8 #[.slice ao n cap] w fun e w' => e = .returned (.bool true) ∧ Below w.heap.size w w' := by
  obtain ⟨i0, hi0, hz0, hz1, hz2⟩ := info_parts Tryz.infoOut
  have HI0 := Lib.hid (And.intro hi0 (And.intro hz0 (And.intro hz1 hz2)))
  have HN := Lib.hid hn
  have HX := Lib.hid hx
  have HG := Lib.hid hg
  have hmax : n ≤ 9223372036854775807 := by unfold maxLen at hcm; omega
  clear hn hx hg hc hcm hi0 hz0 hz1 hz2
  by_cases hbig : n > 20
  · have ht : decide ((n : Int) > 20) = true := by simp; omega
    go_enter Tryz.func8, Tryz.ntmps8
    go_wp2
    go_ret
    exact ⟨rfl, Below.refl _ _⟩
  have ht : decide ((n : Int) > 20) = false := by simp; omega
  go_enter Tryz.func8, Tryz.ntmps8
  go_wp2
  go_loopw [3, 4, 5] (fun v u c wr => ∃ j : Nat, j ≤ n ∧ c = .int .i64 j ∧ Hid (wr.ownsRow w.heap.size 48 3 v j (outsV (xs.take j))) ∧ Hid (OwnB 5 wr w.heap.size u (tellsB (xs.take j))) ∧ Hid (Below w.heap.size w wr) ∧ Hid (∀ x ∈ xs.take j, x.b.length ≤ 300)) (fun _ _ c _ => n - (intOf c).toNat)
  case atStart => exact ⟨0, by omega, rfl, nil_owns _ _ _ _, OwnB.nil _ _ _, Below.refl _ _, by intro x hx; simp at hx⟩
  case round =>
    obtain ⟨j, hj, rfl, HV, HO, HB, HS⟩ := hrel
    by_cases hlt : j < n
    · obtain ⟨x, hget⟩ : ∃ x, xs[j]? = some x := ⟨xs[j]'(by rw [HN.out]; exact hlt), by simp⟩
      have HOT := Lib.hid (tellsB_take hget)
      have HVT := Lib.hid (show outsV (xs.take (j + 1)) = outsV (xs.take j) ++ x.vals by rw [List.take_add_one, hget]; exact outsV_snoc _ _)
      have HXI := Lib.hid (HX.out.each x (List.mem_of_getElem? hget))
      obtain ⟨hin, xb, xoff, rfl, hxb, hr⟩ := HX.out.at hget
      have HR := Lib.hid (fun (w' : World) (h : Below w.heap.size w w') => rangeAt_below hr h hxb)
      have hjn : (j : Int) < (n : Int) := by omega
      have hjn20 : j ≤ 20 := by omega
      clear hin hr
      by_cases hlong : x.b.length > 300
      · have hl : decide ((x.b.length : Int) > 300) = true := by simp; omega
        have c2 := HR.out _ HB.out 2 _ rfl
        clear hget
        go_wp2
        go_ret
        exact ⟨rfl, HB.out⟩
      have hl : decide ((x.b.length : Int) > 300) = false := by simp; omega
      have hb300 : x.b.length ≤ 300 := by omega
      have HS2 := Lib.hid (show ∀ y ∈ xs.take (j + 1), y.b.length ≤ 300 by
        rw [List.take_add_one, hget]
        intro y hy
        rcases List.mem_append.1 hy with hy | hy
        · exact HS.out y hy
        · simp at hy; subst hy; exact hb300)
      have HLEN := Lib.hid (show (tellsB (xs.take j)).length ≤ 2100000 by
        have := tellsB_length (xs.take j) (fun c hc => by have := HS.out c hc; omega)
        rw [List.length_take] at this
        omega)
      have HVLT := Lib.hid (fun k hk => (HV.out.lt k hk).2)
      have c2 := HR.out _ HB.out 2 _ rfl
      clear hget hlong
      go_wp2_with fail
      clear c2
      have f0 := fun (x' : After wr.drew) => (show x'.val.cell? ⟨xb, xoff + j * 3, none⟩ = some (.int .i64 x.e) from HR.out _ ((HB.out.drew).trans (x'.later.mono HB.out.drew.size)) 0 _ rfl)
      have f1 := fun (x' : After wr.drew) => HR.out _ ((HB.out.drew).trans (x'.later.mono HB.out.drew.size)) 1 _ rfl
      have f2 := fun (x' : After wr.drew) => HR.out _ ((HB.out.drew).trans (x'.later.mono HB.out.drew.size)) 2 _ rfl
      refine wp_region_R [0, 1, 2, 3, 4, 5, 6, 7, 8, 9, 10, 11, 12, 13, 14, 15, 16, 17] (by kernel_rfl) (by kernel_rfl) ?_
      rintro wA rfl
      repeat (refine walkR_one rfl rfl (fun K hK => ?_); go_big_quiet_step (fail); refine wpQuiet_nil (hK _ ?_); clear hK K)
      clear f0 f1 f2
      refine walkR_call rfl rfl (by rfl) (fun K hK => ?_)
      refine op_var 48 zeroOut _ rfl Tryz.zeroOut rfl (fun w2 hb2 hbel2 => ?_)
      have HV := Lib.hid (own_below (show wr.drew.ownsRow _ _ _ _ _ _ from HV.out) hbel2)
      have HO := Lib.hid (HO.out.drew.later hbel2)
      have hb2' : Blk w2 wr.heap.size zeroOut 48 := hb2
      clear hb2
      have hb2 := hb2'
      clear hb2'
      have htx := HB.out.size
      have HB := Lib.hid (HB.out.drew.trans (hbel2.mono HB.out.drew.size))
      generalize htxe : wr.heap.size = tx at *
      refine hK _ _ hbel2 ?_
      clear hK K hbel2
      go_simp
      refine walkR_free rfl rfl (by rfl) (fun K hK => ?_)
      refine hb2.opstore (cs := x.vals) rfl rfl rfl Tryz.rowOut rfl x.vals_length x.vals_one (fun w3 hb3 ho3 => hK _ _ ?_)
      clear hK K
      have HV := Lib.hid (row_only2 HV.out ho3 (fun k hk => Nat.ne_of_lt (HVLT.out k hk)))
      have HO := Lib.hid (HO.out.only ho3 hb2 (by decide))
      have HB := Lib.hid (below_only HB.out ho3 htx)
      have HT := Lib.hid hb3
      clear hb2 hb3 ho3
      go_simp
      refine walkR_nil ?_
      have HL3 := Lib.hid x.vals_length
      go_wp2_with (first | (refine HT.out.wload rfl rfl rfl Tryz.rowOut HL3.out ?_) | (refine wpList_rows 44 48 3 1 _ [x.vals] rfl rfl rfl Tryz.underlying44 Tryz.zsOut rfl (by omega) rfl (by omega) (by omega) (by simp [x.vals_length]) ?_))
      intro w4 hb4 hbel4
      have HB4 := Lib.hid (show Lies w4 (some ⟨w3.heap.size, 0, none⟩) x.vals by have := hb4.lies; simpa using this)
      have HV := Lib.hid (own_below HV.out hbel4)
      have HO := Lib.hid (HO.out.later hbel4)
      have HT := Lib.hid (HT.out.below hbel4 HT.out.lt)
      have HB := Lib.hid (HB.out.trans (hbel4.mono HB.out.size))
      clear hb4 hbel4
      go_wp2_with (at_builtin; refine wpList_append_own _ rfl (.tmp 40) (.tmp 42) 44 rfl w.heap.size 48 i0 (.agg zeroOut'.toArray) 3 40 Tryz.underlying44 HI0.out.1 HI0.out.2.1 HI0.out.2.2.1 HI0.out.2.2.2 rfl (by decide) _ _ _ rfl HV.out ⟨w3.heap.size, 0, none⟩ 1 1 x.vals rfl rfl HB4.out.news x.vals_one (by unfold maxLen; omega) (by omega) HB.out.size ?_)
      intro v5 w5 hown5 hg5 _
      rw [← HVT.out] at hown5
      have HB5 := Lib.hid (below_append HB.out HV.out hg5 (Nat.le_refl _) HB.out.size)
      have HO := Lib.hid (show OwnB 5 w5 w.heap.size _ _ from World.ownsRow.kept HO.out hg5 (own_apart HO.out HV.out (by decide)))
      have HT := Lib.hid (show Blk w5 tx x.vals 48 from (hg5.block tx HT.out.lt (fun h => absurd (HVLT.out tx h.symm) (Nat.lt_irrefl _))).trans HT.out)
      have HV := Lib.hid hown5
      have HB := HB5
      clear hown5 hg5 HB4 HVLT
      go_wp2_with (first | (refine HT.out.wload rfl rfl rfl Tryz.rowOut HL3.out ?_) | (refine wpList_rows 44 48 3 1 _ [x.vals] rfl rfl rfl Tryz.underlying44 Tryz.zsOut rfl (by omega) rfl (by omega) (by omega) (by simp [x.vals_length]) ?_))
      intro w6 hb6 hbel6
      have HV := Lib.hid (own_below HV.out hbel6)
      have HO := Lib.hid (HO.out.later hbel6)
      have HB := Lib.hid (HB.out.trans (hbel6.mono HB.out.size))
      have HO6 := Lib.hid (show OutsIn w6 (some ⟨w5.heap.size, 0, none⟩) [x] from ⟨⟨by simp [x.vals_length], by have := hb6.lies; simpa using this⟩, by intro y hy; simp at hy; subst hy; exact HXI.out.below HB.out⟩)
      clear hb6 hbel6 HT
      go_wp2_with fail
      refine (tell_ok _ 1 _ [x] _ rfl HO6.out (by omega) (by intro y hy; simp at hy; subst hy; omega)).mono ?_
      rintro e w7 ⟨v7, rfl, hown7, hbel7⟩
      rw [tellsB_one] at hown7
      obtain ⟨a7, c7, rfl, hc7, hm7, hl7⟩ := hown7.form
      have hl7b := hl7
      rw [bytes_cons x (by omega)] at hl7b
      obtain ⟨b7, o7, rfl, hc0⟩ := hl7b 0 _ rfl
      rw [byteOf_val, Nat.add_zero] at hc0
      have hb7 := block_lt_of_cell hc0
      rw [x.bytes_length] at hc7 ⊢
      have HV := Lib.hid (own_below HV.out hbel7)
      have HO := Lib.hid (HO.out.later hbel7)
      have HB := Lib.hid (HB.out.trans (hbel7.mono HB.out.size))
      have HL7 := Lib.hid hl7
      have HC0 := Lib.hid hc0
      have HBD := Lib.hid (show Lies w7 (cutAddr (some ⟨b7, o7, none⟩) c7 9) (x.b.map B) by
        have := hl7.cutA (cap := c7) (by rw [List.length_map, x.bytes_length]; exact hc7) 9 x.b.length
        rw [← List.map_drop, bytes_drop, ← List.map_take, List.take_of_length_le (Nat.le_refl _)] at this
        exact this)
      clear hown7 hl7 hl7b hc0 HO6
      go_wp2_with fail
      have LAT := fun (x' : After w7.drew) => (Below.refl w7.heap.size w7).drew.trans x'.later
      have g1 := fun (x' : After w7.drew) => ((LAT x').cell (p := ⟨b7, o7, none⟩) hb7).trans HC0.out
      have f0 := fun (x' : After w7.drew) => (show x'.val.cell? ⟨xb, xoff + j * 3, none⟩ = some (.int .i64 x.e) from HR.out _ (HB.out.trans ((LAT x').mono HB.out.size)) 0 _ rfl)
      have f2 := fun (x' : After w7.drew) => HR.out _ (HB.out.trans ((LAT x').mono HB.out.size)) 2 _ rfl
      have s1 := fun (x' : After w7.drew) => string_ok x'.val (cutAddr (some ⟨b7, o7, none⟩) c7 9) x.b.length (c7 - 9) x.b rfl (HBD.out.below (LAT x'))
      have s2 := fun (x' : After w7.drew) => string_ok x'.val x.bo _ x.bc x.b rfl (HXI.out.b.below (HB.out.trans ((LAT x').mono HB.out.size)))
      have hcut := fun (w' : World) => (show (Instr.slice 24 (.slice (some ⟨b7, o7, none⟩) (9 + x.b.length) c7) (some (.int .i64 9)) none none).run Tryz.prog w' = .ok (.slice (cutAddr (some ⟨b7, o7, none⟩) c7 9) x.b.length (c7 - 9)) w' by
        have := run_cut_from (P := Tryz.prog) w' 24 5 Tryz.underlying24 (fun w => by kernel_rfl) (some ⟨b7, o7, none⟩) (9 + x.b.length) c7 9 9 rfl (by omega)
        rwa [Nat.add_sub_cancel_left] at this)
      have hw : IntKind.i64.wrap (9 + (x.b.length : Int)) = 9 + (x.b.length : Int) := IntWalk.i64_in _ (by omega)
      have hlt0 : (0 : Int) < 9 + (x.b.length : Int) := by omega
      generalize str x.b = sb at *
      clear LAT
      refine wp_region_R [0, 1, 2, 3, 4, 5, 6, 7, 8, 9, 10, 11, 12, 13, 14, 15, 16, 17, 18, 19, 20, 21, 22, 23, 24, 25, 26, 27, 28, 29, 30, 31, 32, 33] (by kernel_rfl) (by kernel_rfl) ?_
      rintro wA rfl
      repeat (refine walkR_one rfl rfl (fun K hK => ?_); go_big_quiet_step (fail); refine wpQuiet_nil (hK _ ?_); clear hK K)
      clear g1 f0 f2 s1 s2 hcut hw hlt0
      refine walkR_nil ?_
      go_wp2_with (at_builtin; refine wpList_append_bytes rfl 24 (.tmp 81) (.tmp 82) rfl Tryz.underlying24 Tryz.infoByteR rfl HO.out.drew (some ⟨b7, o7, none⟩) (9 + x.b.length) c7 x.bytes rfl x.bytes_length (show Lies w7.drew _ _ from HL7.out) (by have := HLEN.out; omega) HB.out.drew.size ?_)
      intro v8 w8 hown8 hg8
      rw [← HOT.out] at hown8
      have HB8 := Lib.hid (HO.out.drew.belowGrown HB.out.drew hg8 (Nat.le_refl _) HB.out.drew.size)
      have HV8 := Lib.hid (show w8.ownsRow w.heap.size 48 3 _ _ _ from World.ownsRow.kept (show w7.drew.ownsRow w.heap.size 48 3 _ _ _ from HV.out) hg8 (own_apart (show w7.drew.ownsRow w.heap.size 48 3 _ _ _ from HV.out) HO.out.drew (by decide)))
      have HO8 := Lib.hid hown8
      clear hown8 hg8 HL7 HC0 HBD
      go_wp2
      go_roundw
      case rel => exact ⟨j + 1, by omega, by go_num, HV8, HO8, HB8, HS2⟩
      case measure => simp [intOf]; omega
    · obtain rfl : j = n := by omega
      rw [List.take_of_length_le (Nat.le_of_eq HN.out)] at HV HO HS
      obtain ⟨va, vcap, rfl, _, _, _⟩ := own_form HV.out
      obtain ⟨ua, ucap, rfl, _, _, hul⟩ := HO.out.form
      have HOUT := Lib.hid (outs_of_own HV.out (fun y hy => (HX.out.each y hy).below HB.out))
      have HUL := Lib.hid hul
      have hj20 : j ≤ 20 := by omega
      have HM := Lib.hid (show ∀ y ∈ xs, y.b.length ≤ 100000 from fun y hy => by have := HS.out y hy; omega)
      clear hul HV HO HS
      go_wp2_with fail
      have s1 := fun (x' : After wr.drew) => string_ok x'.val ua _ ucap (tellsB xs) rfl (HUL.out.below (((Below.refl wr.heap.size wr).drew).trans x'.later))
      refine wp_region_R [0, 3, 4, 1, 2, 5, 6, 7, 8, 9, 10, 11, 12, 13, 14, 15, 16, 17] (by kernel_rfl) (by kernel_rfl) ?_
      rintro wA rfl
      repeat (refine walkR_one rfl rfl (fun K hK => ?_); go_big_quiet_step (fail); refine wpQuiet_nil (hK _ ?_); clear hK K)
      clear s1
      refine walkR_call rfl rfl (by rfl) (fun K hK => ?_)
      go_simp
      refine (tell_ok va j vcap xs _ HN.out (HOUT.out.below (Below.refl _ wr).drew) (by omega) HM.out).mono ?_
      rintro e w1 ⟨v1, rfl, hown1, hbel1⟩
      obtain ⟨a1, c1, rfl, _, _, hl1⟩ := hown1.form
      have HL1 := Lib.hid hl1
      have HUL := Lib.hid (HUL.out.below ((Below.refl _ wr).drew.trans hbel1))
      have HB := Lib.hid (HB.out.trans (((Below.refl wr.heap.size wr).drew.trans hbel1).mono HB.out.size))
      go_simp
      refine hK _ _ hbel1 ?_
      clear hK K hown1 hl1 hbel1
      have s2 := fun (x' : After w1) => string_ok x'.val a1 _ c1 (tellsB xs) rfl (HL1.out.below x'.later)
      have s3 := fun (x' : After w1) => string_ok x'.val ua _ ucap (tellsB xs) rfl (HUL.out.below x'.later)
      repeat (refine walkR_one rfl rfl (fun K hK => ?_); go_big_quiet_step (fail); refine wpQuiet_nil (hK _ ?_); clear hK K)
      clear s2 s3
      refine walkR_call rfl rfl (by rfl) (fun K hK => ?_)
      go_simp
      refine (reftell_ok ao j cap xs _ HN.out (HX.out.below HB.out) (by omega) HM.out).mono ?_
      rintro e w2 ⟨v2, rfl, hown2, hbel2⟩
      obtain ⟨a2, c2, rfl, _, _, hl2⟩ := hown2.form
      have HL2 := Lib.hid hl2
      have HB := Lib.hid (HB.out.trans (hbel2.mono HB.out.size))
      go_simp
      refine hK _ _ hbel2 ?_
      clear hK K hown2 hl2 hbel2
      have s4 := fun (x' : After w2) => string_ok x'.val a2 _ c2 (tellsB xs) rfl (HL2.out.below x'.later)
      repeat (refine walkR_one rfl rfl (fun K hK => ?_); go_big_quiet_step (fail); refine wpQuiet_nil (hK _ ?_); clear hK K)
      clear s4
      refine walkR_call rfl rfl (by rfl) (fun K hK => ?_)
      go_simp
      refine (awake_ok _ (HG.out.below HB.out)).mono ?_
      rintro e w3 ⟨rfl, hbel3⟩
      have HB := Lib.hid (HB.out.trans (hbel3.mono HB.out.size))
      go_simp
      refine hK _ _ hbel3 ?_
      clear hK K hbel3
      repeat (refine walkR_one rfl rfl (fun K hK => ?_); go_big_quiet_step (fail); refine wpQuiet_nil (hK _ ?_); clear hK K)
      refine walkR_nil ?_
      go_wp2
      go_ret
      exact ⟨rfl, HB.out⟩

end Go.Proofs.YtmpgcilppjkhoaaGreatDoor
