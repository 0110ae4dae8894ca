/-
  Texts of this claim, one behind the other: AesD RingA EzkA EzkPlain.
-/
import Derived.Test.YtnkaodjfjllkfaaGreatDoorM6
import Derived.Test.YtnkaodjfjllkfaaGreatDoorM2
import Derived.Deep.DeepCutAuto
import Derived.Deep.CutBlock
/-
  The walks of aes: a key's round keys.
-/
namespace Go.Proofs.YtnkaodjfjllkfaaGreatDoor
open Go.RowKit Go.Mem Go.Ops Go.Cells Go.Oct Go.Gf Go.Trn Go.Aes
set_option linter.unusedSimpArgs false
set_option linter.unusedVariables false
set_option maxRecDepth 100000
attribute [local irreducible] walkR walkP walk0 walkB

theorem Tryz.infoWord : (Tryz.prog.info? 212).map (fun i => (i.zero, i.size, i.bytes)) = some (some (.agg ((zeros 4).map B).toArray), 4, 4) := by kernel_rfl
theorem Tryz.infoBlock : (Tryz.prog.info? 88).map (fun i => (i.zero, i.size, i.bytes)) = some (some (.agg ((zeros 16).map B).toArray), 16, 16) := by kernel_rfl

theorem Tryz.sizeWord : (Tryz.prog.info? 212).map (·.size) = some 4 := by kernel_rfl
theorem Tryz.sizeRows : (Tryz.prog.info? 85).map (·.size) = some 1 := by kernel_rfl
theorem Tryz.zsWord : (Tryz.prog.info? 212).map (fun i => (i.zero, i.size)) = some (some (.agg ((zeros 4).map B).toArray), 4) := by kernel_rfl
theorem Tryz.zsBlock : (Tryz.prog.info? 88).map (fun i => (i.zero, i.size)) = some (some (.agg ((zeros 16).map B).toArray), 16) := by kernel_rfl

theorem own_only {w w' : World} {b base g n c size : Nat} {e : TypeId} {xs : List Value} (h : w.ownsRow base e size (.slice (some ⟨g, 0, none⟩) n c) n xs) (ho : Only b w w') (hne : g ≠ b) : w'.ownsRow base e size (.slice (some ⟨g, 0, none⟩) n c) n xs := by
  refine ⟨h.1, h.2.imp id ?_⟩
  rintro ⟨g', cap, cur, hv, hg, hh, rest⟩
  cases hv
  exact ⟨g, c, cur, rfl, hg, by rw [ho.block g hne]; exact hh, rest⟩

theorem own_capLe {w : World} {base g n c size : Nat} {e : TypeId} {xs : List Value} (h : w.ownsRow base e size (.slice (some ⟨g, 0, none⟩) n c) n xs) : n ≤ c ∧ c ≤ maxLen := by
  rcases h.2 with ⟨hv, _⟩ | ⟨g', cap, cur, hv, hb, hg, h1, h2, _⟩
  · cases hv
  · cases hv; exact ⟨h1, h2⟩

/-- An own row does not lie in a block of another type. -/
theorem own_ne {w : World} {base n size b : Nat} {v : Value} {e ty : TypeId} {xs vs : List Value} (h : w.ownsRow base e size v n xs) (hb : Blk w b vs ty) (hne : e ≠ ty) : ∀ k, v.ownBlock = some k → k ≠ b := by
  intro k hk hkb
  subst hkb
  rcases h.2 with ⟨rfl, _⟩ | ⟨g', cap, cur, rfl, _, hg, _⟩
  · simp [Value.ownBlock] at hk
  · simp [Value.ownBlock] at hk
    subst hk
    unfold Blk at hb
    rw [hb] at hg
    simp at hg
    exact hne hg.2.symm
theorem own_ne_own {w : World} {base base' n n' size size' : Nat} {v v' : Value} {e e' : TypeId} {xs xs' : List Value} (h : w.ownsRow base e size v n xs) (h' : w.ownsRow base' e' size' v' n' xs') (hne : e ≠ e') : ∀ k, v.ownBlock = some k → v'.ownBlock ≠ some k := by
  intro k hk hk'
  rcases h.2 with ⟨rfl, _⟩ | ⟨g, cap, cur, rfl, _, hg, _⟩
  · simp [Value.ownBlock] at hk
  rcases h'.2 with ⟨rfl, _⟩ | ⟨g', cap', cur', rfl, _, hg', _⟩
  · simp [Value.ownBlock] at hk'
  simp [Value.ownBlock] at hk hk'
  subst hk; subst hk'
  rw [hg] at hg'
  simp at hg'
  exact hne hg'.2

theorem expand_each (n : Nat) (long : Bool) (k : List UInt8) : ∀ x ∈ expand n long k, x.length = 16 := by
  intro x hx
  simp only [expand, List.mem_map, List.mem_range] at hx
  obtain ⟨i, hi, rfl⟩ := hx
  rw [flatten_length 4 _ (fun k' hk => expWords_each n long k k' (List.mem_of_mem_drop (List.mem_of_mem_take hk))), List.length_take, List.length_drop, expWords_length]
  omega

/-- The words so far. -/
def flat (ws : List (List UInt8)) : List Value := ws.flatten.map B
theorem flat_snoc (ws : List (List UInt8)) (x : List UInt8) : flat (ws ++ [x]) = flat ws ++ x.map B := by simp [flat]

theorem expand_bad (q : Nat) (ao : Option Addr) (len cap : Nat) (w : World) (h : len ≠ 32 ∧ len ≠ 16 ∧ len ≠ 24) :
    Calls Tryz.prog 96 #[.pointer (some ⟨q, 0, none⟩), .slice ao len cap] w fun e w' => e = .returned (.tuple #[.pointer none, .int .i64 2]) ∧ w = w' := by
  go_enter Tryz.func96, Tryz.ntmps96
  go_wp2_with fail
  refine wp_scope_label 0 (fun _ _ => False) (fun _ _ => 0) rfl ?_ (fun _ _ h => h.elim)
  simp only [wpPre]
  go_wp2_with fail
  refine (shape_no len _ (by omega)).mono ?_
  rintro e w1 ⟨rfl, rfl⟩
  go_wp2
  rw [Exit.jump_ret]
  go_ret2
  exact ⟨rfl, rfl⟩

/-- The frame at the label. -/
abbrev ExpFrame (q : Nat) (ao : Option Addr) (len cap n : Nat) (long : Bool) (v : Value) (pw : UInt8) (us : Nat → Value) : Act := { tmps := #[.pointer (some ⟨q, 0, none⟩), .slice ao len cap, us 2, us 3, us 4, us 5, .int .i64 n, .bool long, us 8, v, us 10, B pw, us 12, us 13, us 14, us 15, us 16, us 17, us 18, us 19, us 20, us 21, us 22, us 23, us 24, us 25, us 26, us 27, us 28, us 29, us 30, us 31, us 32, us 33, us 34, us 35, us 36, us 37, us 38, us 39, us 40, us 41, us 42, us 43, us 44, us 45, us 46, us 47, us 48, us 49, us 50, us 51, us 52, us 53, us 54, us 55, us 56, us 57, us 58, us 59, us 60, us 61, us 62, us 63, us 64, us 65, us 66, us 67, us 68, us 69, us 70, us 71, us 72, us 73, us 74, us 75, us 76, us 77, us 78, us 79, us 80, us 81, us 82, us 83, us 84, us 85, us 86, us 87, us 88, us 89, us 90, us 91, us 92, us 93, us 94, us 95, us 96, us 97, us 98, us 99, us 100, us 101, us 102, us 103, us 104, us 105, us 106, us 107, us 108, us 109, us 110, us 111, us 112, us 113, us 114, us 115, us 116, us 117, us 118, us 119, us 120, us 121, us 122, us 123, us 124, us 125, us 126, us 127, us 128, us 129, us 130, us 131, us 132, us 133], defers := [] }

/-- What stands at the label: so many words have been made. -/
def ExpAt (q p : Nat) (ao : Option Addr) (len cap : Nat) (bs : List UInt8) (n : Nat) (long : Bool) (w : World) (x : Act) (wr : World) : Prop :=
  ∃ (us : Nat → Value) (m : Nat) (v : Value) (pw : UInt8) (ws : List (List UInt8)), x = ExpFrame q ao len cap n long v pw us ∧ n ≤ m ∧ m < 4 * (n + 7) ∧ Hid (expGo n long bs (m - n) = (ws, pw)) ∧ Hid (wr.ownsRow w.heap.size 212 4 v m (flat ws)) ∧ Hid (Below w.heap.size w wr)

theorem ExpAt.intro {q p : Nat} {ao : Option Addr} {len cap : Nat} {bs : List UInt8} {n : Nat} {long : Bool} {w : World} {x : Act} {wr : World} (m : Nat) (v : Value) (pw : UInt8) (ws : List (List UInt8))
    (hx : x = ExpFrame q ao len cap n long v pw (fun i => x.tmps.getD i undef)) (h1 : n ≤ m) (h2 : m < 4 * (n + 7)) (h3 : expGo n long bs (m - n) = (ws, pw)) (h4 : wr.ownsRow w.heap.size 212 4 v m (flat ws)) (h5 : Below w.heap.size w wr) : ExpAt q p ao len cap bs n long w x wr :=
  ⟨_, m, v, pw, ws, hx, h1, h2, h3, h4, h5⟩

set_option maxHeartbeats 1000000 in
theorem expand_any (q p : Nat) (ao : Option Addr) (len cap : Nat) (bs : List UInt8) (n : Nat) (long : Bool) (w : World) (ht : Tab w q p) (hlen : bs.length = len) (hl : Lies w ao (bs.map B)) (hn : 4 ≤ n ∧ n ≤ 8) (hnl : len = 4 * n)
    (hsh : ∀ w, Calls Tryz.prog 132 #[.int .i64 len] w fun e w' => e = .returned (.tuple #[.int .i64 n, .bool long, .int .i64 0]) ∧ w = w') :
    Calls Tryz.prog 96 #[.pointer (some ⟨q, 0, none⟩), .slice ao len cap] w fun e w' => ∃ kp kb koff kcap, e = .returned (.tuple #[.pointer (some ⟨kp, 0, none⟩), .int .i64 0]) ∧ AKey w' kp q p (expand n long bs) kb koff (n + 7) kcap ∧ Below w.heap.size w w' := by
  obtain ⟨i0, hi, hz0, hz1, hz2⟩ := info_parts Tryz.infoWord
  have HI := Lib.hid (And.intro hi (And.intro hz0 (And.intro hz1 hz2)))
  have HT := Lib.hid ht
  have HLEN := Lib.hid hlen
  have HL := Lib.hid hl
  have HSH := Lib.hid hsh
  have HNL := Lib.hid hnl
  have hl32 : len ≤ 32 := by omega
  obtain ⟨hn4, hn8⟩ := hn
  clear ht hlen hl hsh hi hz0 hz1 hz2 hnl
  go_enter Tryz.func96, Tryz.ntmps96
  go_wp2_with fail
  refine wp_scope_label 0 (ExpAt q p ao len cap bs n long w) (fun x _ => 4 * (n + 7) - (match x.tmps.getD 9 undef with | .slice _ m _ => m | _ => 0)) rfl ?_ ?_
  · simp only [wpPre]
    go_wp2_with fail
    refine (HSH.out _).mono ?_
    rintro e w1 ⟨rfl, rfl⟩
    go_wp2_with (at_make; refine wpList_make_own _ rfl _ _ 211 rfl w.heap.size 212 i0 (.agg ((zeros 4).map B).toArray) 4 Tryz.underlying211 HI.out.1 HI.out.2.1 HI.out.2.2.1 _ _ _ (4 * (n + 7)) rfl rfl ?m1 ?m2 ?m3 (Nat.le_refl _) ?_)
    case m1 => simp; omega
    case m2 => rw [HI.out.2.2.2]; omega
    case m3 => unfold maxLen; omega
    intro w1 hown1 hgrow1
    have HOWN := Lib.hid hown1
    have HBEL := Lib.hid ((Below.refl w.heap.size w).grown hgrow1 (Nat.le_refl _) (fun k h => by cases h))
    clear hown1 hgrow1
    go_wp2
    go_loopw [9, 33] (fun v c wr => ∃ i : Nat, i ≤ n ∧ c = .int .i64 i ∧ wr.ownsRow w.heap.size 212 4 v i (flat ((expStart n bs).take i)) ∧ Below w.heap.size w wr) (fun _ c _ => n - (intOf c).toNat)
    case atStart => exact ⟨0, Nat.zero_le _, rfl, HOWN.out, HBEL.out⟩
    case round =>
      clear HOWN HBEL
      obtain ⟨i, hin, rfl, hown, hbel⟩ := hrel
      by_cases hlt : i < n
      · have HOWN := Lib.hid hown
        have HBEL := Lib.hid hbel
        clear hown hbel
        go_wp2_with fail
        refine (word_ok ao len cap (4 * i) bs _ HLEN.out (by omega) (by omega) (HL.out.below HBEL.out)).mono ?_
        rintro e w2 ⟨rfl, hbel2⟩
        have HOWN := Lib.hid (own_below HOWN.out hbel2)
        have HBEL := Lib.hid (HBEL.out.trans (hbel2.mono HBEL.out.size))
        clear hbel2
        go_wp2_with fail
        refine (putword_ok _ _).mono ?_
        rintro e w3 ⟨rfl, hbel3⟩
        have HOWN := Lib.hid (own_below HOWN.out hbel3)
        have HBEL := Lib.hid (HBEL.out.trans (hbel3.mono HBEL.out.size))
        clear hbel3
        have HX := Lib.hid (putWord_length (wordL bs (4 * i)))
        have HSTEP := Lib.hid (show flat ((expStart n bs).take (i + 1)) = flat ((expStart n bs).take i) ++ (putWord (wordL bs (4 * i))).map B by
          rw [← flat_snoc]
          congr 1
          rw [List.take_add_one]
          simp [expStart, hlt])
        generalize putWord (wordL bs (4 * i)) = x at *
        go_wp2_with (refine wpList_rows 211 212 4 1 _ [x.map B] rfl rfl rfl Tryz.underlying211 Tryz.zsWord rfl (by omega) rfl (by omega) (by omega) (by intro v hv; simp at hv; subst hv; rw [List.length_map]; exact HX.out) ?_)
        intro w4 hb4 hbel4
        try rw [show ([x.map B] : List (List Value)).flatten = x.map B by simp] at hb4
        have HB4 := Lib.hid hb4
        have HOWN := Lib.hid (own_below HOWN.out hbel4)
        have HBEL := Lib.hid (HBEL.out.trans (hbel4.mono HBEL.out.size))
        clear hb4 hbel4
        go_wp2_with (at_builtin; refine wpList_append_own _ rfl (.tmp 36) (.tmp 42) 211 rfl w.heap.size 212 i0 (.agg ((zeros 4).map B).toArray) 4 4 Tryz.underlying211 HI.out.1 HI.out.2.1 HI.out.2.2.1 HI.out.2.2.2 rfl (by decide) _ _ _ rfl HOWN.out ⟨w3.heap.size, 0, none⟩ 1 1 (x.map B) rfl ?c0 HB4.out.lies.news (oneCell_B x) ?c3 ?c4 HBEL.out.size ?_)
        case c0 => rw [List.length_map, HX.out]
        case c3 => unfold maxLen; omega
        case c4 => omega
        intro v5 w5 hown5 hgr5 _
        rw [← HSTEP.out] at hown5
        have hbel5 := below_append HBEL.out HOWN.out hgr5 (Nat.le_refl _) HBEL.out.size
        have HOWN5 := Lib.hid hown5
        clear hgr5 hown5
        go_wp2
        go_roundw
        case rel => exact ⟨i + 1, by omega, by go_num, HOWN5.out, hbel5⟩
        case measure => simp [intOf]; omega
      · obtain rfl : i = n := by omega
        rw [List.take_of_length_le (by simp [expStart])] at hown
        have HOWN := Lib.hid hown
        have HBEL := Lib.hid hbel
        clear hown hbel
        go_wp2
        exact ExpAt.intro i _ 1 _ rfl (by omega) (by omega) (by rw [Nat.sub_self]; rfl) HOWN.out HBEL.out
  · rintro x wr ⟨us, m, v, pw, ws, rfl, hnm, hm, HE, HO, HB⟩
    have hwl : ws.length = m := by have := expGo_length n long bs (m - n); rw [HE.out] at this; simp only at this; omega
    have hwe : ∀ y ∈ ws, y.length = 4 := by have := expGo_each n long bs (m - n); rw [HE.out] at this; exact this
    obtain ⟨g, gcap, rfl, hbg, hgl⟩ := HO.out.form (by omega)
    have hrows : RowsN 4 wr (some ⟨g, 0, none⟩) ws := ⟨hwe, Lies.of_own HO.out⟩
    obtain ⟨b1, o1, e1, _, hr1⟩ := hrows.range (by omega) (key_get (ks := ws) (i := m - 1) (by omega))
    cases e1
    rw [Nat.zero_add] at hr1
    have HR1 := Lib.hid hr1
    have HROWS := Lib.hid hrows
    have HL1 := Lib.hid (show ((key ws (m - 1)).map B).length = 4 by rw [List.length_map]; exact hwe _ (List.mem_of_getElem? (key_get (by omega))))
    have HWL := Lib.hid hwl
    have HWE := Lib.hid hwe
    clear hr1 hrows hwl hwe
    go_wp2_with (first | (refine wpList_load_mid rfl 212 (.tmp 49) rfl g ((m - 1) * 4) rfl _ _ HR1.out Tryz.underlying212 rfl (by rw [HL1.out]; exact Tryz.rowWord.2) ?_) | (refine wpList_var 212 ((zeros 4).map B) _ rfl rfl Tryz.zeroWord rfl ?_))
    intro w2 hb2 hbel2
    have HO := Lib.hid (own_below HO.out hbel2)
    have HB := Lib.hid (HB.out.trans (hbel2.mono HB.out.size))
    have hszb := HB.out.size
    have htb := hb2.lt
    clear hbel2
    generalize htbe : wr.heap.size = tb at *
    go_wp2_with (refine hb2.wstore rfl rfl rfl rfl Tryz.rowWord (by rw [List.length_map]; exact zeros_length 4) HL1.out (oneCell_B _) ?_)
    intro w3 hb3 ho3
    have HO := Lib.hid (own_only HO.out ho3 (by omega))
    have HB := Lib.hid (below_only HB.out ho3 (by omega))
    have HB3 := Lib.hid hb3
    clear hb2 hb3 ho3
    go_upto_block 2 with fail
    go_cut [11] (fun s11 wx => s11 = B (if m % n = 0 then dbl pw else pw) ∧ Hid (Blk wx tb ((turned n long m (key ws (m - 1)) pw).map B) 212) ∧ Hid (Below w.heap.size w wx) ∧ Hid (wx.ownsRow w.heap.size 212 4 (.slice (some ⟨g, 0, none⟩) m gcap) m (flat ws)))
    case first =>
      generalize hx : key ws (m - 1) = x at *
      have HXX := Lib.hid hx
      clear hx
      have hx4 : x.length = 4 := by have := HL1.out; rwa [List.length_map] at this
      obtain ⟨x0, x1, x2, x3, rfl⟩ : ∃ x0 x1 x2 x3, x = [x0, x1, x2, x3] := by
        match x, hx4 with
        | [a, b, c, d], _ => exact ⟨a, b, c, d, rfl⟩
      clear hx4
      have HTX := Lib.hid (HT.out.below HB.out (Nat.le_refl _))
      by_cases h0 : m % n = 0
      · have hd : ((m : Int) % (n : Int) == 0) = true := by rw [beq_iff_eq]; omega
        have HT1 := Lib.hid (show turned n long m [x0, x1, x2, x3] pw = (subW [x1, x2, x3, x0]).set 0 (xor8 (at8 (subW [x1, x2, x3, x0]) 0) pw) by unfold turned; rw [if_pos h0]; rfl)
        have HT2 := Lib.hid (show (if m % n = 0 then dbl pw else pw) = dbl pw by rw [if_pos h0])
        have c0 := HB3.out.cell 0 _ rfl
        have c1 := HB3.out.cell 1 _ rfl
        have c2 := HB3.out.cell 2 _ rfl
        have c3 := HB3.out.cell 3 _ rfl
        clear h0
        go_wp2_with fail
        refine (boxed_ok q p [x1, x2, x3, x0] _ HTX.out rfl).mono ?_
        rintro e w4 ⟨rfl, hbel4⟩
        have HO := Lib.hid (own_below HO.out hbel4)
        have HB := Lib.hid (HB.out.trans (hbel4.mono HB.out.size))
        have HB3 := Lib.hid (HB3.out.below hbel4 HB3.out.lt)
        clear hbel4 c0 c1 c2 c3
        have HSL := Lib.hid (subW_length [x1, x2, x3, x0])
        generalize subW [x1, x2, x3, x0] = y at *
        go_wp2_with (refine HB3.out.wstore rfl rfl rfl rfl Tryz.rowWord HL1.out (by rw [List.length_map]; exact HSL.out) (oneCell_B _) ?_)
        intro w5 hb5 ho5
        have HO := Lib.hid (own_only HO.out ho5 (by omega))
        have HB := Lib.hid (below_only HB.out ho5 (by omega))
        have HB3 := Lib.hid hb5
        clear hb5 ho5
        have c0 := HB3.out.cell 0 _ (mapB_at (at8_get (b := y) (i := 0) (by rw [HSL.out]; omega)))
        have hf := HB3.out.free 0
        go_wp2_with fail
        refine (double_ok pw _).mono ?_
        rintro e w6 ⟨rfl, rfl⟩
        have hst := HB3.out.set 0 (B (xor8 (at8 y 0) pw))
        rw [mapB_set, ← HT1.out] at hst
        have ho6 : Only tb _ _ := Only.setCell w5 ⟨tb, 0, none⟩ (B (xor8 (at8 y 0) pw))
        have HO := Lib.hid (own_only HO.out ho6 (by omega))
        have HB := Lib.hid (below_only HB.out ho6 (by omega))
        have HB3 := Lib.hid hst
        clear hst ho6 c0 hf
        go_wp2_with fail
        go_meet
        case rel => exact ⟨by rw [HT2.out], HB3, HB, HO⟩
      · have hd : ((m : Int) % (n : Int) == 0) = false := by rw [beq_eq_false_iff_ne]; omega
        have HT2 := Lib.hid (show (if m % n = 0 then dbl pw else pw) = pw by rw [if_neg h0])
        by_cases h1 : long = true ∧ m % n = 4
        · have hd1 : ((m : Int) % (n : Int) == 4) = true := by rw [beq_iff_eq]; omega
          have HT1 := Lib.hid (show turned n long m [x0, x1, x2, x3] pw = subW [x0, x1, x2, x3] by unfold turned; rw [if_neg h0, if_pos h1])
          obtain rfl := h1.1
          clear h0 h1
          go_wp2_with (refine HB3.out.wload rfl rfl rfl Tryz.rowWord HL1.out ?_)
          refine (boxed_ok q p [x0, x1, x2, x3] _ HTX.out rfl).mono ?_
          rintro e w4 ⟨rfl, hbel4⟩
          have HO := Lib.hid (own_below HO.out hbel4)
          have HB := Lib.hid (HB.out.trans (hbel4.mono HB.out.size))
          have HB3 := Lib.hid (HB3.out.below hbel4 HB3.out.lt)
          clear hbel4
          have HSL := Lib.hid (subW_length [x0, x1, x2, x3])
          generalize subW [x0, x1, x2, x3] = y at *
          go_wp2_with (refine HB3.out.wstore rfl rfl rfl rfl Tryz.rowWord HL1.out (by rw [List.length_map]; exact HSL.out) (oneCell_B _) ?_)
          intro w5 hb5 ho5
          have HO := Lib.hid (own_only HO.out ho5 (by omega))
          have HB := Lib.hid (below_only HB.out ho5 (by omega))
          rw [← HT1.out] at hb5
          have HB3 := Lib.hid hb5
          clear hb5 ho5
          go_wp2_with fail
          go_meet
          case rel => exact ⟨by rw [HT2.out], HB3, HB, HO⟩
        · have HT1 := Lib.hid (show turned n long m [x0, x1, x2, x3] pw = [x0, x1, x2, x3] by unfold turned; rw [if_neg h0, if_neg h1])
          have HB3 := Lib.hid (show Blk w3 tb ((turned n long m [x0, x1, x2, x3] pw).map B) 212 by rw [HT1.out]; exact HB3.out)
          cases long with
          | false =>
            clear h0 h1
            go_wp2_with fail
            go_meet
            case rel => exact ⟨by rw [HT2.out], HB3, HB, HO⟩
          | true =>
            have hd1 : ((m : Int) % (n : Int) == 4) = false := by rw [beq_eq_false_iff_ne]; simp at h1; omega
            clear h0 h1
            go_wp2_with fail
            go_meet
            case rel => exact ⟨by rw [HT2.out], HB3, HB, HO⟩
    case rest =>
      obtain ⟨rfl, HB3, HB, HO⟩ := hcut
      have htl := turned_length n long m (key ws (m - 1)) pw (by have := HL1.out; rwa [List.length_map] at this)
      have HGO := Lib.hid (show expGo n long bs (m + 1 - n) = (ws ++ [plusW (key ws (m - n)) (turned n long m (key ws (m - 1)) pw)], if m % n = 0 then dbl pw else pw) by
        rw [show m + 1 - n = (m - n) + 1 by omega, expGo, HE.out, expStep]
        simp only [HWL.out])
      generalize turned n long m (key ws (m - 1)) pw = tr at *
      generalize (if m % n = 0 then dbl pw else pw) = pw2 at *
      have HTL := Lib.hid htl
      have HTLM := Lib.hid (show (tr.map B).length = 4 by rw [List.length_map]; exact htl)
      clear htl
      have hnn : (m : Int) - n = ((m - n : Nat) : Int) := by omega
      have hrows : RowsN 4 wc (some ⟨g, 0, none⟩) ws := ⟨HWE.out, Lies.of_own HO.out⟩
      obtain ⟨b1, o1, e1, hlg, hr1⟩ := hrows.range (by omega) (key_get (ks := ws) (i := m - n) (by have := HWL.out; omega))
      cases e1
      rw [Nat.zero_add] at hr1
      have HRN := Lib.hid hr1
      have HLG := Lib.hid hlg
      have HKL := Lib.hid (show (key ws (m - n)).length = 4 from HWE.out _ (List.mem_of_getElem? (key_get (by have := HWL.out; omega))))
      have HKLM := Lib.hid (show ((key ws (m - n)).map B).length = 4 by rw [List.length_map]; exact HKL.out)
      generalize key ws (m - n) = x at *
      clear hr1 hlg hrows
      go_wp2_with fail
      refine wp_region_R [0, 1, 2, 3, 4, 5, 6, 7, 8, 9, 10, 11, 12] (by kernel_rfl) (by kernel_rfl) ?_
      rintro w4 rfl
      (refine walkR_one rfl rfl (fun K hK => ?_); go_big_quiet_step (fail); refine wpQuiet_nil (hK _ ?_); clear hK K); (refine walkR_one rfl rfl (fun K hK => ?_); go_big_quiet_step (fail); refine wpQuiet_nil (hK _ ?_); clear hK K); (refine walkR_one rfl rfl (fun K hK => ?_); go_big_quiet_step (fail); refine wpQuiet_nil (hK _ ?_); clear hK K); (refine walkR_one rfl rfl (fun K hK => ?_); go_big_quiet_step (fail); refine wpQuiet_nil (hK _ ?_); clear hK K); (refine walkR_one rfl rfl (fun K hK => ?_); go_big_quiet_step (fail); refine wpQuiet_nil (hK _ ?_); clear hK K); (refine walkR_one rfl rfl (fun K hK => ?_); go_big_quiet_step (fail); refine wpQuiet_nil (hK _ ?_); clear hK K); (refine walkR_one rfl rfl (fun K hK => ?_); go_big_quiet_step (fail); refine wpQuiet_nil (hK _ ?_); clear hK K)
      refine walkR_load (off := (m - n) * 4) HRN.out HLG.out Tryz.rowWord HKLM.out rfl rfl rfl rfl (fun K hK => ?_)
      go_simp; refine hK _ ?_; clear hK K
      refine walkR_load HB3.out.drew.range HB3.out.drew.lt Tryz.rowWord HTLM.out rfl rfl rfl rfl (fun K hK => ?_)
      go_simp; refine hK _ ?_; clear hK K
      refine walkR_call rfl rfl (by rfl) (fun K hK => ?_)
      go_simp
      refine (plus4_ok x tr _ HKL.out HTL.out).mono ?_
      rintro e w5 ⟨rfl, hbel5⟩
      have HO := Lib.hid (own_below (w := wc.drew) HO.out hbel5)
      have HB := Lib.hid (HB.out.drew.trans (hbel5.mono HB.out.size))
      have HXL := Lib.hid (plusW_length x tr)
      generalize plusW x tr = z at *
      go_simp
      refine hK _ _ hbel5 ?_
      clear hK K hbel5
      refine walkR_call rfl rfl (by rfl) (fun K hK => ?_)
      refine oprows 211 212 4 1 _ [z.map B] rfl rfl Tryz.underlying211 Tryz.zsWord rfl (by omega) rfl (by omega) (by omega) (by intro v hv; simp at hv; subst hv; rw [List.length_map]; exact HXL.out) ?_
      intro w6 hb6 hbel6
      refine hK _ _ hbel6 ?_
      clear hK K
      try rw [show ([z.map B] : List (List Value)).flatten = z.map B by simp] at hb6
      have HO := Lib.hid (own_below HO.out hbel6)
      have HB := Lib.hid (HB.out.trans (hbel6.mono HB.out.size))
      have HB6 := Lib.hid hb6
      clear hb6 hbel6
      go_simp
      obtain ⟨i0, hi0, hz0, hz1, hz2⟩ := info_parts Tryz.infoWord
      refine walkR_free rfl rfl (by rfl) (fun K hK => ?_)
      refine wp_append_own _ (.tmp 87) (.tmp 97) 211 rfl w.heap.size 212 i0 (.agg ((zeros 4).map B).toArray) 4 4 Tryz.underlying211 hi0 hz0 hz1 hz2 rfl (by decide) _ _ _ rfl HO.out ⟨w5.heap.size, 0, none⟩ 1 1 (z.map B) rfl (by rw [List.length_map]; exact HXL.out) HB6.out.lies.news (oneCell_B z) (by unfold maxLen; omega) (by omega) HB.out.size ?_
      intro v7 w7 hown7 hgr7 _
      refine hK _ _ ?_
      clear hK K
      rw [← flat_snoc] at hown7
      have hbel7 := below_append HB.out HO.out hgr7 (Nat.le_refl _) HB.out.size
      have HO := Lib.hid hown7
      have HB := Lib.hid hbel7
      clear hown7 hbel7 hgr7 hi0 hz0 hz1 hz2
      go_simp
      repeat (refine walkR_one rfl rfl (fun K hK => ?_); go_big_quiet_step (fail); refine wpQuiet_nil (hK _ ?_); clear hK K)
      refine walkR_nil ?_
      obtain ⟨g7, gcap7, rfl, hbg7, hgl7⟩ := HO.out.form (by omega)
      by_cases hlast : m + 1 < 4 * (n + 7)
      · go_wp2_with fail
        refine wp_goto ⟨rfl, ExpAt.intro (m + 1) _ pw2 (ws ++ [z]) rfl (by omega) hlast HGO.out HO.out HB.out, ?_⟩
        show 4 * (n + 7) - (m + 1) < 4 * (n + 7) - m
        omega
      · obtain rfl : m = 4 * (n + 7) - 1 := by omega
        have HWS := Lib.hid (show expWords n long bs = ws ++ [z] by unfold expWords; rw [show 4 * (n + 7) - n = 4 * (n + 7) - 1 + 1 - n by omega, HGO.out])
        have HWL2 := Lib.hid (show (ws ++ [z]).length = 4 * (n + 7) by rw [List.length_append, HWL.out]; simp; omega)
        have HWE2 := Lib.hid (show ∀ y ∈ ws ++ [z], y.length = 4 by rw [← HWS.out]; exact expWords_each n long bs)
        generalize ws ++ [z] = wz at *
        clear HRN HR1 HROWS HKL HKLM HLG HTL HTLM HL1 hnn HE HGO HWL HWE HB3 HB6 HXL
        go_wp2_with (refine wpList_box 218 _ [.pointer (some ⟨q, 0, none⟩), .slice none 0 0] _ rfl rfl rfl rfl ?_)
        intro w8 hb8 hbel8
        have HO := Lib.hid (own_below HO.out hbel8)
        have HB := Lib.hid (HB.out.trans (hbel8.mono HB.out.size))
        have hgk : g7 < w7.heap.size := hgl7
        have hkb : w.heap.size ≤ w7.heap.size := Nat.le_of_lt (Nat.lt_of_le_of_lt hbg7 hgl7)
        generalize w7.heap.size = kb at *
        have HB8 := Lib.hid hb8
        clear hb8 hbel8
        go_wp2
        have HKO := Lib.hid (nil_owns w8 w.heap.size 88 16)
        clear HKO
        go_loopw [14, 112] (fun _ c wr => ∃ (i : Nat) (v : Value), i ≤ n + 7 ∧ c = .int .i64 i ∧ Hid (wr.ownsRow (kb + 1) 88 16 v i (flat ((expand n long bs).take i))) ∧ Hid (Blk wr kb [.pointer (some ⟨q, 0, none⟩), v] 218) ∧ Hid (wr.ownsRow w.heap.size 212 4 (.slice (some ⟨g7, 0, none⟩) (4 * (n + 7) - 1 + 1) gcap7) (4 * (n + 7) - 1 + 1) (flat wz)) ∧ Hid (Below w.heap.size w wr)) (fun _ c _ => n + 7 - (intOf c).toNat)
        case atStart => exact ⟨0, .slice none 0 0, by omega, rfl, nil_owns _ _ _ _, HB8, HO, HB⟩
        case round =>
          clear HO HB HB8
          obtain ⟨i, v, hin, rfl, HV, HKB, HO, HB⟩ := hrel
          by_cases hlt : i < n + 7
          · have hsl : ∀ w', (Instr.slice 211 (.slice (some ⟨g7, 0, none⟩) (4 * (n + 7) - 1 + 1) gcap7) (some (.int .i64 (4 * (i : Int)))) (some (.int .i64 (4 * (i : Int) + 4))) none).run Tryz.prog w' = .ok (.slice (cutAddrN (some ⟨g7, 0, none⟩) gcap7 (4 * i) 4) 4 (gcap7 - 4 * i)) w' := by
              intro w'
              have := run_cutN (P := Tryz.prog) w' 211 212 4 Tryz.underlying211 Tryz.sizeWord (some ⟨g7, 0, none⟩) (4 * (n + 7) - 1 + 1) gcap7 (4 * i) (4 * i + 4) (4 * (i : Int)) (4 * (i : Int) + 4) (by omega) (by omega) (by omega) (by have := (own_capLe HO.out).1; omega)
              rwa [show 4 * i + 4 - 4 * i = 4 by omega] at this
            have hc1 := fun (x : AfterK (Below (kb + 1)) wr.drew) => (HKB.out.drew.below x.rel (Nat.lt_succ_self kb)).cell 1 _ rfl
            have hrows : RowsN 4 wr (some ⟨g7, 0, none⟩) wz := ⟨HWE2.out, Lies.of_own HO.out⟩
            have HCUT := Lib.hid (hrows.cut (cap := gcap7) (by rw [HWL2.out]; have := (own_capLe HO.out).1; omega) (4 * i) 4)
            have HEX := Lib.hid (show (expand n long bs).take (i + 1) = (expand n long bs).take i ++ [((wz.drop (4 * i)).take 4).flatten] by
              rw [List.take_add_one, ← HWS.out]
              congr 1
              simp [expand, hlt])
            have HN4 := Lib.hid (show ((wz.drop (4 * i)).take 4).length = 4 by rw [List.length_take, List.length_drop, HWL2.out]; omega)
            have HN16 := Lib.hid (show ((wz.drop (4 * i)).take 4).flatten.length = 16 by
              rw [flatten_length 4 _ (fun k hk => HWE2.out k (List.mem_of_mem_drop (List.mem_of_mem_take hk))), HN4.out])
            generalize (wz.drop (4 * i)).take 4 = x at *
            clear hrows
            go_wp2_with fail
            refine wp_region_K (Below (kb + 1)) [17] [(0, true), (1, true), (2, true), (3, true), (4, true), (5, true), (6, true), (7, true), (8, true), (9, true), (10, true), (11, true), (12, false), (13, false), (14, false), (15, true), (16, true), (17, false)] (fun a => Below.refl _ a) (fun _ _ _ h1 h2 => h1.trans h2) (by kernel_rfl) (by kernel_rfl) ?_
            rintro w4 rfl
            repeat ((first | refine walkK_one rfl rfl (fun K hK => ?_) | refine walkK_alone Below.refl rfl rfl (fun K hK => ?_)); go_big_quiet_step (fail); refine wpQuiet_nil (hK _ ?_); clear hK K)
            refine walkK_free rfl (by rfl) (fun K hK => ?_)
            go_simp
            refine (joined_ok _ _ x _ HN4.out (HCUT.out.below (Below.refl _ wr).drew)).mono ?_
            rintro e w5 ⟨rfl, hbel5⟩
            have hkl := HKB.out.lt
            have HV := Lib.hid (own_below (w := wr.drew) HV.out hbel5)
            have HO := Lib.hid (own_below (w := wr.drew) HO.out hbel5)
            have HKB := Lib.hid (HKB.out.drew.below hbel5 hkl)
            have HB := Lib.hid (HB.out.drew.trans (hbel5.mono HB.out.size))
            generalize x.flatten = y at *
            go_simp
            refine hK _ _ (fun _ => hbel5.mono hkl) ?_
            clear hK K hbel5 hc1
            refine walkK_free rfl (by rfl) (fun K hK => ?_)
            refine oprows 85 88 16 1 _ [y.map B] rfl rfl Tryz.underlying85 Tryz.zsBlock rfl (by omega) rfl (by omega) (by omega) (by intro v hv; simp at hv; subst hv; rw [List.length_map]; exact HN16.out) ?_
            intro w6 hb6 hbel6
            have hkl5 := HKB.out.lt
            refine hK _ _ (fun _ => hbel6.mono hkl5) ?_
            clear hK K
            try rw [show ([y.map B] : List (List Value)).flatten = y.map B by simp] at hb6
            have HV := Lib.hid (own_below HV.out hbel6)
            have HO := Lib.hid (own_below HO.out hbel6)
            have HKB := Lib.hid (HKB.out.below hbel6 HKB.out.lt)
            have HB := Lib.hid (HB.out.trans (hbel6.mono HB.out.size))
            have HB6 := Lib.hid hb6
            clear hb6 hbel6
            go_simp
            obtain ⟨i0, hi0, hz0, hz1, hz2⟩ := info_parts Tryz.infoBlock
            refine walkK_free rfl (by rfl) (fun K hK => ?_)
            refine wp_append_own _ (.tmp 119) (.tmp 128) 85 rfl (kb + 1) 88 i0 (.agg ((zeros 16).map B).toArray) 16 16 Tryz.underlying85 hi0 hz0 hz1 hz2 rfl (by decide) _ _ _ rfl HV.out ⟨w5.heap.size, 0, none⟩ 1 1 (y.map B) rfl (by rw [List.length_map]; exact HN16.out) HB6.out.lies.news (oneCell_B y) (by unfold maxLen; omega) (by omega) HKB.out.lt ?_
            intro v7 w7 hown7 hgr7 _
            have hkl6 := HKB.out.lt
            have hbel7 : Below (kb + 1) w6 w7 := below_append (Below.refl _ _) HV.out hgr7 (Nat.le_refl _) hkl6
            refine hK _ _ (fun _ => hbel7) ?_
            clear hK K
            rw [← flat_snoc, ← HEX.out] at hown7
            have hne := own_ne_own HO.out HV.out (by decide) g7 rfl
            have HO := Lib.hid (HO.out.kept hgr7 (Or.inr (fun h => hne h.symm)))
            have HV := Lib.hid hown7
            have HKB := Lib.hid (HKB.out.below hbel7 (Nat.lt_succ_self kb))
            have HB := Lib.hid (HB.out.trans (hbel7.mono (by omega)))
            clear hgr7 hown7 hi0 hz0 hz1 hz2 hbel7 hne
            go_simp
            repeat ((first | refine walkK_one rfl rfl (fun K hK => ?_) | refine walkK_alone Below.refl rfl rfl (fun K hK => ?_)); go_big_quiet_step (fail); refine wpQuiet_nil (hK _ ?_); clear hK K)
            obtain ⟨gv, gvcap, rfl, hgv1, hgv2⟩ := HV.out.form (by omega)
            refine walkK_free rfl (by rfl) (fun K hK => ?_)
            refine HKB.out.opset (i := 1) (v := .slice (some ⟨gv, 0, none⟩) (i + 1) gvcap) rfl rfl rfl Tryz.sizeRows rfl rfl (by simp) (fun w8 hb8 ho8 => hK _ _ (fun h => by simp at h) ?_)
            clear hK K
            have hne := own_ne HO.out HKB.out (by decide) g7 rfl
            have HO := Lib.hid (own_only HO.out ho8 hne)
            have HV := Lib.hid (own_only HV.out ho8 (by omega))
            have HB := Lib.hid (below_only HB.out ho8 hkb)
            have HKB := Lib.hid hb8
            clear hb8 ho8
            go_simp
            refine walkK_nil ?_
            go_wp2_with fail
            go_roundw
            case rel => exact ⟨i + 1, _, by omega, by go_num, HV, HKB, HO, HB⟩
            case measure => simp [intOf]; omega
          · obtain rfl : i = n + 7 := by omega
            obtain ⟨gv, gvcap, rfl, hgv1, hgv2⟩ := HV.out.form (by omega)
            have hexl := expand_length n long bs
            have HEA := Lib.hid (show (expand n long bs).take (n + 7) = expand n long bs from List.take_of_length_le (by omega))
            have hv := HV.out
            rw [HEA.out] at hv
            have HV := Lib.hid hv
            clear hv
            have HEL := Lib.hid hexl
            clear hexl
            go_wp2_with fail
            go_ret2
            refine ⟨kb, gv, 0, gvcap, rfl, ?_, HB.out⟩
            have hcap := own_capLe HV.out
            exact ⟨HT.out.below HB.out (Nat.le_refl _), HEL.out, by omega, hcap.1, by omega, ⟨expand_each n long bs, Lies.of_own HV.out⟩, HKB.out⟩

theorem expand32_ok (q p : Nat) (ao : Option Addr) (cap : Nat) (bs : List UInt8) (w : World) (ht : Tab w q p) (hlen : bs.length = 32) (hl : Lies w ao (bs.map B)) :
    Calls Tryz.prog 96 #[.pointer (some ⟨q, 0, none⟩), .slice ao 32 cap] w fun e w' => ∃ kp kb koff kcap, e = .returned (.tuple #[.pointer (some ⟨kp, 0, none⟩), .int .i64 0]) ∧ AKey w' kp q p (expand 8 true bs) kb koff 15 kcap ∧ Below w.heap.size w w' :=
  expand_any q p ao 32 cap bs 8 true w ht hlen hl (by omega) (by omega) shape_32
theorem expand16_ok (q p : Nat) (ao : Option Addr) (cap : Nat) (bs : List UInt8) (w : World) (ht : Tab w q p) (hlen : bs.length = 16) (hl : Lies w ao (bs.map B)) :
    Calls Tryz.prog 96 #[.pointer (some ⟨q, 0, none⟩), .slice ao 16 cap] w fun e w' => ∃ kp kb koff kcap, e = .returned (.tuple #[.pointer (some ⟨kp, 0, none⟩), .int .i64 0]) ∧ AKey w' kp q p (expand 4 false bs) kb koff 11 kcap ∧ Below w.heap.size w w' :=
  expand_any q p ao 16 cap bs 4 false w ht hlen hl (by omega) (by omega) shape_16
theorem expand24_ok (q p : Nat) (ao : Option Addr) (cap : Nat) (bs : List UInt8) (w : World) (ht : Tab w q p) (hlen : bs.length = 24) (hl : Lies w ao (bs.map B)) :
    Calls Tryz.prog 96 #[.pointer (some ⟨q, 0, none⟩), .slice ao 24 cap] w fun e w' => ∃ kp kb koff kcap, e = .returned (.tuple #[.pointer (some ⟨kp, 0, none⟩), .int .i64 0]) ∧ AKey w' kp q p (expand 6 false bs) kb koff 13 kcap ∧ Below w.heap.size w w' :=
  expand_any q p ao 24 cap bs 6 false w ht hlen hl (by omega) (by omega) shape_24

end Go.Proofs.YtnkaodjfjllkfaaGreatDoor
/-
  The walks of ring: doubled, and so many times.
-/
namespace Go.Proofs.YtnkaodjfjllkfaaGreatDoor
open Go.RowKit Go.Mem Go.Ops Go.Cells Go.Oct Go.Gf Go.Trn Go.Aes Go.Ring
set_option linter.unusedSimpArgs false
set_option linter.unusedVariables false
set_option maxRecDepth 100000
attribute [local irreducible] walkR walkP walk0 walkB walkK

theorem toNat_shr64_one (m : UInt64) : (shr64 m 1).toNat = m.toNat / 2 := by
  have h := shr_eq64 m 1
  omega

theorem double16_ok (a : List UInt8) (w : World) (ha : a.length = 16) : Calls Tryz.prog 234 #[.agg (a.map B).toArray] w fun e w' => e = .returned (.agg ((dbl16 a).map B).toArray) ∧ Below w.heap.size w w' := by
  have HLA := Lib.hid ha
  have HLM := Lib.hid (show (a.map B).length = 16 by rw [List.length_map]; exact ha)
  have HS := Lib.hid (St.start w)
  clear ha
  go_enter Tryz.func234, Tryz.ntmps234
  go_wp2_with (refine wpList_box 88 _ (a.map B) _ rfl rfl rfl rfl ?_)
  intro w1 hb hbel; have HS := Lib.hid (HS.out.push hb hbel); have hlt1 := hb.lt; clear hb hbel
  go_wp2_with (refine wpList_var 88 ((zeros 16).map B) _ rfl rfl Tryz.zero16 rfl ?_)
  intro w2 hb hbel; have HS := Lib.hid (HS.out.push hb hbel); have hlt2 := hb.lt; clear hb hbel
  go_wp2_with (refine wpList_var 88 ((zeros 16).map B) _ rfl rfl Tryz.zero16 rfl ?_)
  intro w3 hb hbel; have HS := Lib.hid (HS.out.push hb hbel); have hlt3 := hb.lt; clear hb hbel
  generalize hbb : w.heap.size = bb at *
  generalize w1.heap.size = br at *
  generalize w2.heap.size = bo at *
  have HBB := Lib.hid hbb
  clear hbb
  go_wp2
  go_loopw [4, 5] (fun _ c wr => ∃ (k : Nat) (l : List UInt8), k ≤ 15 ∧ c = .int .i64 k ∧ Hid (Filled (dblAt a) 16 k l) ∧ Hid (St w bb wr [(bo, l.map B, 88), (br, (zeros 16).map B, 88), (bb, a.map B, 88)])) (fun _ c _ => 15 - (intOf c).toNat)
  case atStart => exact ⟨0, zeros 16, by omega, rfl, Filled.zero (zeros_length 16), HS⟩
  case round =>
    clear HS
    obtain ⟨k, l, hk, rfl, HF, HS⟩ := hrel
    by_cases hlt : k < 15
    · have hd : decide ((k : Int) < 15) = true := by simp; omega
      have c0 := fun (x : After wr.drew) => (HS.out.drew.later x.later).get 2 rfl |>.cell k _ (mapB_at (at8_get (b := a) (i := k) (by rw [HLA.out]; omega)))
      have c1 := fun (x : After wr.drew) => (HS.out.drew.later x.later).get 2 rfl |>.cell (k + 1) _ (mapB_at (at8_get (b := a) (i := k + 1) (by rw [HLA.out]; omega)))
      go_wp2_with fail
      refine wp_region_R [0, 1, 2, 3, 4, 5, 6, 7, 8, 9, 10, 11, 12] (by kernel_rfl) (by kernel_rfl) ?_
      rintro w4 rfl
      repeat (refine walkR_one rfl rfl (fun K hK => ?_); go_big_quiet_step (fail); refine wpQuiet_nil (hK _ ?_); clear hK K)
      have HE := Lib.hid (show or8 (shl8 (at8 a k) 1) (shr8 (at8 a (k + 1)) 7) = dblAt a k by unfold dblAt; rw [if_pos hlt])
      refine walkR_free rfl rfl (by rfl) (fun K hK => ?_)
      refine (HS.out.drew.get 0 rfl).opset (i := k) (v := B (or8 (shl8 (at8 a k) 1) (shr8 (at8 a (k + 1)) 7))) rfl rfl rfl Tryz.sizeByte rfl rfl (by rw [List.length_map, HF.out.1]; omega) (fun w5 hb5 ho5 => hK _ _ ?_)
      clear hK K c0 c1
      rw [mapB_set, HE.out] at hb5
      have HS := Lib.hid (HS.out.drew.change 0 hb5 ho5 (by omega) (by simp; omega))
      clear hb5 ho5
      go_simp
      refine walkR_nil ?_
      go_wp2
      go_roundw
      case rel => exact ⟨k + 1, _, by omega, by go_num, HF.out.step (by omega), HS⟩
      case measure => simp [intOf]; omega
    · obtain rfl : k = 15 := by omega
      have c0 := (HS.out.get 2 rfl).cell 15 _ (mapB_at (at8_get (b := a) (i := 15) (by rw [HLA.out]; omega)))
      have c1 := (HS.out.get 2 rfl).cell 0 _ (mapB_at (at8_get (b := a) (i := 0) (by rw [HLA.out]; omega)))
      obtain ⟨w4, hw4⟩ : ∃ w4, w4 = wr.setCell ⟨bo, 15, none⟩ (.int .u8 ((xor8 (shl8 (at8 a 15) 1) (mul8 (shr8 (at8 a 0) 7) 135)).toNat : Int)) := ⟨_, rfl⟩
      have hst := (HS.out.get 0 rfl).set 15 (B (xor8 (shl8 (at8 a 15) 1) (mul8 (shr8 (at8 a 0) 7) 135)))
      have ho : Only bo wr w4 := by rw [hw4]; exact Only.setCell wr ⟨bo, 15, none⟩ _
      have HE := Lib.hid (show xor8 (shl8 (at8 a 15) 1) (mul8 (shr8 (at8 a 0) 7) 135) = dblAt a 15 by rfl)
      obtain ⟨u, hu⟩ := HF.out.at (i := 15) (by omega)
      have c2 := (HS.out.get 0 rfl).cell 15 _ (mapB_at hu)
      have hf := (HS.out.get 0 rfl).free 15
      rw [mapB_set] at hst
      have HST := Lib.hid (show Blk w4 bo ((l.set 15 (xor8 (shl8 (at8 a 15) 1) (mul8 (shr8 (at8 a 0) 7) 135))).map B) 88 by rw [hw4]; exact hst)
      have HO := Lib.hid ho
      have HW4 := Lib.hid hw4
      clear hst ho hu hw4
      have HALL := (show l.set 15 (xor8 (shl8 (at8 a 15) 1) (mul8 (shr8 (at8 a 0) 7) 135)) = dbl16 a by rw [HE.out]; exact (HF.out.step (by omega)).all)
      rw [HALL] at HST
      clear HALL
      have HLL := Lib.hid (show ((dbl16 a).map B).length = 16 by rw [List.length_map]; exact dbl16_length a)
      have HRS := Lib.hid ((HS.out.get 1 rfl).only HO.out (by omega))
      go_upto_region 8 with fail
      rw [← HW4.out]
      clear c0 c1 c2 hf
      go_wp2_with (first | (refine HST.out.wload rfl rfl rfl Tryz.row16 HLL.out ?_) | (refine HRS.out.wstore rfl rfl rfl rfl Tryz.row16 (by simp [zeros_length]) HLL.out (oneCell_B _) ?_))
      intro w5 hb5 ho5
      go_wp2
      refine hb5.result rfl rfl rfl Tryz.row16 HLL.out ⟨rfl, ?_⟩
      rw [HBB.out]
      exact below_only (below_only HS.out.bel HO.out (by omega)) ho5 (by omega)

theorem sum16_ok (a b : List UInt8) (wanted : Bool) (w : World) (ha : a.length = 16) (hb : b.length = 16) : Calls Tryz.prog 233 #[.agg (a.map B).toArray, .agg (b.map B).toArray, .bool wanted] w fun e w' => e = .returned (.agg ((sum16 a b wanted).map B).toArray) ∧ Below w.heap.size w w' := by
  have HLA := Lib.hid ha
  have HLB := Lib.hid hb
  have HLM := Lib.hid (show (a.map B).length = 16 by rw [List.length_map]; exact ha)
  have HS := Lib.hid (St.start w)
  have HBX := Lib.hid (block_xor a b ha hb)
  clear ha hb
  go_enter Tryz.func233, Tryz.ntmps233
  go_wp2_with (refine wpList_box 88 _ (a.map B) _ rfl rfl rfl rfl ?_)
  intro w1 hb hbel; have HS := Lib.hid (HS.out.push hb hbel); have hlt1 := hb.lt; clear hb hbel
  go_wp2_with (refine wpList_box 88 _ (b.map B) _ rfl rfl rfl rfl ?_)
  intro w2 hb hbel; have HS := Lib.hid (HS.out.push hb hbel); have hlt2 := hb.lt; clear hb hbel
  go_wp2_with (refine wpList_var 88 ((zeros 16).map B) _ rfl rfl Tryz.zero16 rfl ?_)
  intro w3 hb hbel; have HS := Lib.hid (HS.out.push hb hbel); have hlt3 := hb.lt; clear hb hbel
  generalize hbb : w.heap.size = bb at *
  generalize w1.heap.size = bk at *
  generalize w2.heap.size = br at *
  have HBB := Lib.hid hbb
  clear hbb
  cases wanted with
  | false =>
    go_wp2_with (first | (refine (HS.out.get 2 rfl).wload rfl rfl rfl Tryz.row16 HLM.out ?_) | (refine (HS.out.get 0 rfl).wstore rfl rfl rfl rfl Tryz.row16 (by simp [zeros_length]) HLM.out (oneCell_B _) ?_))
    intro w4 hb4 ho4
    go_wp2
    refine hb4.result rfl rfl rfl Tryz.row16 HLM.out ⟨rfl, ?_⟩
    rw [HBB.out]
    exact below_only HS.out.bel ho4 (by omega)
  | true =>
    go_wp2_with fail
    refine wp_region_R [0, 1, 2, 3, 4] (by kernel_rfl) (by kernel_rfl) ?_
    rintro w4 rfl
    repeat (refine walkR_one rfl rfl (fun K hK => ?_); go_big_quiet_step (fail); refine wpQuiet_nil (hK _ ?_); clear hK K)
    refine walkR_call rfl rfl (by rfl) (fun K hK => ?_)
    go_simp
    refine (xor_ok _ _ 16 16 16 16 a b _ HLA.out HLB.out (by omega) (by omega) (HS.out.drew.get 2 rfl).lies (HS.out.drew.get 1 rfl).lies).mono ?_
    rintro e w5 ⟨v5, rfl, hown5, hbel5⟩
    obtain ⟨ao5, cap5, rfl, _, _, hl5⟩ := own_form hown5
    have HS := Lib.hid (HS.out.drew.later hbel5)
    have HL5 := Lib.hid hl5
    clear hown5 hl5
    simp only [id]
    go_simp
    refine hK _ _ hbel5 ?_
    clear hK K hbel5
    refine walkR_call rfl rfl (by rfl) (fun K hK => ?_)
    go_simp
    refine (block_ok ao5 (min 16 16) cap5 (xorL a b) _ (by rw [xorL_length, HLA.out, HLB.out]) HL5.out).mono ?_
    rintro e w6 ⟨rfl, hbel6⟩
    have HS := Lib.hid (HS.out.later hbel6)
    rw [HBX.out]
    go_simp
    refine hK _ _ hbel6 ?_
    clear hK K hbel6
    refine walkR_free rfl rfl (by rfl) (fun K hK => ?_)
    refine (HS.out.get 0 rfl).opstore rfl rfl rfl Tryz.row16 (by rw [List.length_map]; exact zeros_length 16) (by rw [List.length_map]; exact both_length _ _) (oneCell_B _) (fun w7 hb7 ho7 => hK _ _ ?_)
    clear hK K
    have hbel7 := below_only HS.out.bel ho7 (by omega)
    go_simp
    refine walkR_nil ?_
    go_wp2
    refine hb7.result rfl rfl rfl Tryz.row16 (by rw [List.length_map]; exact both_length _ _) ⟨rfl, ?_⟩
    rw [HBB.out]
    exact hbel7

theorem multiple_ok (n : UInt64) (a : List UInt8) (w : World) (ha : a.length = 16) : Calls Tryz.prog 209 #[L n, .agg (a.map B).toArray] w fun e w' => e = .returned (.agg ((multiple n a).map B).toArray) ∧ Below w.heap.size w w' := by
  have HLA := Lib.hid ha
  have HLM := Lib.hid (show (a.map B).length = 16 by rw [List.length_map]; exact ha)
  have HS := Lib.hid (St.start w)
  clear ha
  go_enter Tryz.func209, Tryz.ntmps209
  go_wp2_with (refine wpList_box 88 _ (a.map B) _ rfl rfl rfl rfl ?_)
  intro w1 hb hbel; have HS := Lib.hid (HS.out.push hb hbel); have hlt1 := hb.lt; clear hb hbel
  go_wp2_with (refine wpList_var 88 ((zeros 16).map B) _ rfl rfl Tryz.zero16 rfl ?_)
  intro w2 hb hbel; have HS := Lib.hid (HS.out.push hb hbel); have hlt2 := hb.lt; clear hb hbel
  go_wp2_with (refine wpList_var 88 ((zeros 16).map B) _ rfl rfl Tryz.zero16 rfl ?_)
  intro w3 hb hbel; have HS := Lib.hid (HS.out.push hb hbel); have hlt3 := hb.lt; clear hb hbel
  generalize hbb : w.heap.size = bb at *
  generalize w1.heap.size = br at *
  generalize w2.heap.size = bo at *
  have HBB := Lib.hid hbb
  clear hbb
  have HN := Lib.hid (show n.toNat < 2 ^ 64 from n.toNat_lt)
  go_wp2
  go_loopw [0] (fun c wr => ∃ (k : Nat) (m : UInt64) (out x : List UInt8), c = L m ∧ Hid (m.toNat < 2 ^ k) ∧ Hid (out.length = 16) ∧ Hid (x.length = 16) ∧ Hid (mulGo k m out x = multiple n a) ∧ Hid (St w bb wr [(bo, out.map B, 88), (br, (zeros 16).map B, 88), (bb, x.map B, 88)])) (fun c _ => (intOf c).toNat)
  case atStart => exact ⟨64, n, zeros 16, a, rfl, HN, zeros_length 16, HLA, rfl, HS⟩
  case round =>
    clear HS HLA HLM HN
    obtain ⟨k, m, out, x, rfl, HK, HO, HX, HE, HS⟩ := hrel
    have HOM := Lib.hid (show (out.map B).length = 16 by rw [List.length_map]; exact HO.out)
    have HXM := Lib.hid (show (x.map B).length = 16 by rw [List.length_map]; exact HX.out)
    by_cases h0 : m.toNat = 0
    · have hd : m.toNat ≤ 0 := by omega
      have HMN := Lib.hid (show out = multiple n a by
        rw [← HE.out]
        cases k with
        | zero => rfl
        | succ k => unfold mulGo; rw [if_pos h0])
      clear h0
      go_wp2_with (first | (refine (HS.out.get 0 rfl).wload rfl rfl rfl Tryz.row16 HOM.out ?_) | (refine (HS.out.get 1 rfl).wstore rfl rfl rfl rfl Tryz.row16 (by simp [zeros_length]) HOM.out (oneCell_B _) ?_))
      intro w5 hb5 ho5
      go_wp2
      refine hb5.result rfl rfl rfl Tryz.row16 HOM.out ⟨by rw [HMN.out], ?_⟩
      rw [HBB.out]
      exact below_only HS.out.bel ho5 (by omega)
    · have hd : 0 < m.toNat := by omega
      have HN0 := Lib.hid h0
      clear h0
      go_wp2_with (first | (refine (HS.out.get 0 rfl).wload rfl rfl rfl Tryz.row16 HOM.out ?_) | (refine (HS.out.get 2 rfl).wload rfl rfl rfl Tryz.row16 HXM.out ?_))
      refine (sum16_ok out x (((and64 m 1).toNat : Int) == 1) _ HO.out HX.out).mono ?_
      rintro e w4 ⟨rfl, hbel4⟩
      have HS := Lib.hid (HS.out.later hbel4)
      have HSL := Lib.hid (sum16_length out x (((and64 m 1).toNat : Int) == 1) HO.out)
      have HSLM := Lib.hid (show ((sum16 out x (((and64 m 1).toNat : Int) == 1)).map B).length = 16 by rw [List.length_map]; exact HSL.out)
      obtain ⟨j, rfl⟩ : ∃ j, k = j + 1 := ⟨k - 1, by have := HK.out; have h := HN0.out; rcases k with _ | k; · simp at this; omega
                                                     · omega⟩
      have HE := Lib.hid (show mulGo j (shr64 m 1) (sum16 out x (((and64 m 1).toNat : Int) == 1)) (dbl16 x) = multiple n a by rw [← HE.out, mulGo, if_neg HN0.out])
      generalize sum16 out x (((and64 m 1).toNat : Int) == 1) = out2 at *
      clear hbel4
      go_wp2_with (refine (HS.out.get 0 rfl).wstore rfl rfl rfl rfl Tryz.row16 HOM.out HSLM.out (oneCell_B _) ?_)
      intro w5 hb5 ho5
      have HS := Lib.hid (HS.out.change 0 hb5 ho5 (by omega) (by simp; omega))
      clear hb5 ho5
      go_wp2_with (refine (HS.out.get 2 rfl).wload rfl rfl rfl Tryz.row16 HXM.out ?_)
      refine (double16_ok x _ HX.out).mono ?_
      rintro e w6 ⟨rfl, hbel6⟩
      have HS := Lib.hid (HS.out.later hbel6)
      have HDL := Lib.hid (dbl16_length x)
      have HDLM := Lib.hid (show ((dbl16 x).map B).length = 16 by rw [List.length_map]; exact HDL.out)
      generalize dbl16 x = x2 at *
      clear hbel6
      go_wp2_with (refine (HS.out.get 2 rfl).wstore rfl rfl rfl rfl Tryz.row16 HXM.out HDLM.out (oneCell_B _) ?_)
      intro w7 hb7 ho7
      have HS := Lib.hid (HS.out.change 2 hb7 ho7 (by omega) (by simp; omega))
      clear hb7 ho7
      have hsh : (shr64 m 1).toNat = m.toNat / 2 := toNat_shr64_one m
      have HK2 := Lib.hid (show (shr64 m 1).toNat < 2 ^ j by rw [hsh]; have := HK.out; rw [Nat.pow_succ] at this; omega)
      have HLT := Lib.hid (show (shr64 m 1).toNat < m.toNat by omega)
      clear hsh
      go_wp2_with fail
      go_roundw
      case rel => exact ⟨j, shr64 m 1, out2, x2, rfl, HK2, HSL, HDL, HE, HS⟩
      case measure => have := HLT.out; simp [intOf, L]; omega

abbrev RaiseFrame (bb br bo : Nat) (us : Nat → Value) : Act := { tmps := #[.int .i64 0, us 1, us 2, .pointer (some ⟨bb, 0, none⟩), .pointer (some ⟨br, 0, none⟩), .pointer (some ⟨bo, 0, none⟩), us 6, us 7, us 8, us 9, us 10, us 11, us 12, us 13, us 14, us 15, us 16, us 17, us 18, us 19, us 20, us 21, us 22, us 23, us 24, us 25, us 26, us 27, us 28, us 29, us 30, us 31, us 32], defers := [] }
def RaiseAt (n : Nat) (a : List UInt8) (bb br : Nat) (w : World) (x : Act) (wr : World) : Prop :=
  ∃ (us : Nat → Value) (bo : Nat), x = RaiseFrame bb br bo us ∧ Hid (Below bb w wr) ∧ Hid (Blk wr bb ((raiseGo n a).map B) 88) ∧ Hid (Blk wr br ((zeros 16).map B) 88)
theorem RaiseAt.intro {n : Nat} {a : List UInt8} {bb br : Nat} {w : World} {x : Act} {wr : World} (bo : Nat) (hx : x = RaiseFrame bb br bo (fun i => x.tmps.getD i undef)) (h1 : Below bb w wr) (h2 : Blk wr bb ((raiseGo n a).map B) 88) (h3 : Blk wr br ((zeros 16).map B) 88) : RaiseAt n a bb br w x wr :=
  ⟨_, bo, hx, h1, h2, h3⟩

theorem raised_ok (n : Nat) (a : List UInt8) (w : World) (ha : a.length = 16) (hn : n < 128) : Calls Tryz.prog 232 #[.int .i64 n, .agg (a.map B).toArray] w fun e w' => e = .returned (.agg ((raiseGo n a).map B).toArray) ∧ Below w.heap.size w w' := by
  have HLA := Lib.hid ha
  have HLM := Lib.hid (show (a.map B).length = 16 by rw [List.length_map]; exact ha)
  have HS := Lib.hid (St.start w)
  clear ha
  go_enter Tryz.func232, Tryz.ntmps232
  go_wp2_with (refine wpList_box 88 _ (a.map B) _ rfl rfl rfl rfl ?_)
  intro w1 hb hbel; have HS := Lib.hid (HS.out.push hb hbel); have hlt1 := hb.lt; clear hb hbel
  go_wp2_with (refine wpList_var 88 ((zeros 16).map B) _ rfl rfl Tryz.zero16 rfl ?_)
  intro w2 hb hbel; have HS := Lib.hid (HS.out.push hb hbel); have hlt2 := hb.lt; clear hb hbel
  generalize hbb : w.heap.size = bb at *
  generalize w1.heap.size = br at *
  have HBB := Lib.hid hbb
  clear hbb
  have hm : (n : Int) % 128 = n := by omega
  have hd0 : decide ((n : Int) < 0) = false := by simp
  go_wp2_with fail
  refine wp_scope_label 0 (RaiseAt n a bb br w) (fun _ _ => 0) rfl ?_ ?_
  · simp only [wpPre]
    go_wp2_with fail
    rw [hm]
    go_loopw [11] (fun c wr => ∃ (k : Nat) (x : List UInt8), k ≤ n ∧ c = .int .i64 k ∧ Hid (x.length = 16) ∧ Hid (raiseGo (n - k) x = raiseGo n a) ∧ Hid (St w bb wr [(br, (zeros 16).map B, 88), (bb, x.map B, 88)])) (fun c _ => n - (intOf c).toNat)
    case atStart => exact ⟨0, a, by omega, rfl, HLA, rfl, HS⟩
    case round =>
      clear HS HLA HLM
      obtain ⟨k, x, hk, rfl, HX, HE, HS⟩ := hrel
      have HXM := Lib.hid (show (x.map B).length = 16 by rw [List.length_map]; exact HX.out)
      by_cases hlt : k < n
      · go_wp2_with (refine (HS.out.get 1 rfl).wload rfl rfl rfl Tryz.row16 HXM.out ?_)
        refine (double16_ok x _ HX.out).mono ?_
        rintro e w6 ⟨rfl, hbel6⟩
        have HS := Lib.hid (HS.out.later hbel6)
        have HDL := Lib.hid (dbl16_length x)
        have HDLM := Lib.hid (show ((dbl16 x).map B).length = 16 by rw [List.length_map]; exact HDL.out)
        have HE := Lib.hid (show raiseGo (n - (k + 1)) (dbl16 x) = raiseGo n a by rw [← HE.out, show n - k = (n - (k + 1)) + 1 by omega, raiseGo])
        generalize dbl16 x = x2 at *
        clear hbel6
        go_wp2_with (refine (HS.out.get 1 rfl).wstore rfl rfl rfl rfl Tryz.row16 HXM.out HDLM.out (oneCell_B _) ?_)
        intro w7 hb7 ho7
        have HS := Lib.hid (HS.out.change 1 hb7 ho7 (by omega) (by simp; omega))
        clear hb7 ho7
        go_wp2_with fail
        go_roundw
        case rel => exact ⟨k + 1, x2, by omega, by go_num, HDL, HE, HS⟩
        case measure => simp [intOf]; omega
      · obtain rfl : k = n := by omega
        have HE := Lib.hid (show x = raiseGo k a by rw [← HE.out, Nat.sub_self]; rfl)
        have hq : (k : Int) / 128 = 0 := by omega
        go_wp2_with (refine wpList_var 88 ((zeros 16).map B) _ rfl rfl Tryz.zero16 rfl ?_)
        intro w3 hb hbel; have hz1 := (HS.out.get 0 rfl).lt; have hz0 := (HS.out.get 1 rfl).lt; have HS := Lib.hid (HS.out.push hb hbel); have hlt3 := hb.lt; clear hb hbel
        generalize wr.heap.size = bo at *
        go_wp2_with (refine (HS.out.get 0 rfl).wstore rfl rfl rfl (cs := (zeros 15 ++ [135]).map B) rfl Tryz.row16 (by simp [zeros_length]) (by simp [zeros_length]) (oneCell_B _) ?_)
        intro w4 hb4 ho4
        have HS := Lib.hid (HS.out.change 0 hb4 ho4 (by omega) (by simp; omega))
        clear hb4 ho4
        go_wp2_with fail
        rw [HE.out] at HS
        exact RaiseAt.intro bo rfl HS.out.bel (HS.out.get 2 rfl) (HS.out.get 1 rfl)
  · rintro x wr ⟨us, bo, rfl, HB, HX, HR⟩
    have HXM := Lib.hid (show ((raiseGo n a).map B).length = 16 by rw [List.length_map]; exact raiseGo_length _ _ HLA.out)
    go_wp2_with (first | (refine HX.out.wload rfl rfl rfl Tryz.row16 HXM.out ?_) | (refine HR.out.wstore rfl rfl rfl rfl Tryz.row16 (by simp [zeros_length]) HXM.out (oneCell_B _) ?_))
    intro w5 hb5 ho5
    go_wp2
    rw [Exit.jump_ret]
    refine hb5.result rfl rfl rfl Tryz.row16 HXM.out ⟨rfl, ?_⟩
    rw [HBB.out]
    exact below_only HB.out ho5 (by omega)

end Go.Proofs.YtnkaodjfjllkfaaGreatDoor
/-
  The walks of ezkey: the sum of blocks, a part, the offset.
-/
namespace Go.Cells
/-- Less is known of a walk. -/
theorem St.tail {w0 w : World} {base : Nat} {e : Nat × List Value × TypeId} {L : List (Nat × List Value × TypeId)} (h : St w0 base w (e :: L)) : St w0 base w L := ⟨h.base_le, h.bel, fun x hx => h.all x (List.mem_cons_of_mem _ hx)⟩
theorem St.sub {w0 w : World} {base : Nat} {L L' : List (Nat × List Value × TypeId)} (h : St w0 base w L) (hs : ∀ e ∈ L', e ∈ L) : St w0 base w L' := ⟨h.base_le, h.bel, fun x hx => h.all x (hs x hx)⟩
end Go.Cells
namespace Go.Proofs.YtnkaodjfjllkfaaGreatDoor
open Go.RowKit Go.Mem Go.Ops Go.Cells Go.Oct Go.Gf Go.Trn Go.Aes Go.Ring
set_option linter.unusedSimpArgs false
set_option linter.unusedVariables false
set_option maxRecDepth 100000
attribute [local irreducible] walkR walkP walk0 walkB walkK

theorem both_step {a b l : List UInt8} {j : Nat} (hlt : j < 16) (hl : l.length = 16) (h1 : ∀ i, i < j → l[i]? = some (xor8 (at8 a i) (at8 b i))) (h2 : ∀ i, j ≤ i → l[i]? = a[i]?) :
    (∀ i, i < j + 1 → (l.set j (xor8 (at8 a j) (at8 b j)))[i]? = some (xor8 (at8 a i) (at8 b i))) ∧ (∀ i, j + 1 ≤ i → (l.set j (xor8 (at8 a j) (at8 b j)))[i]? = a[i]?) := by
  refine ⟨fun i hi => ?_, fun i hi => ?_⟩
  · rw [List.getElem?_set]
    by_cases e : j = i
    · subst e; simp [hl, hlt]
    · rw [if_neg e]; exact h1 i (by omega)
  · rw [List.getElem?_set_ne (by omega)]
    exact h2 i (by omega)
theorem both_done {a b l : List UInt8} (hl : l.length = 16) (h1 : ∀ i, i < 16 → l[i]? = some (xor8 (at8 a i) (at8 b i))) : l = both a b := Filled.all (f := fun i => xor8 (at8 a i) (at8 b i)) ⟨hl, h1⟩
theorem foldl_both_length (ks : List (List UInt8)) (x : List UInt8) (hx : x.length = 16) : (ks.foldl both x).length = 16 := by
  induction ks generalizing x with
  | nil => exact hx
  | cons k r ih => exact ih _ (both_length _ _)

theorem ezplus_ok (x : List UInt8) (ao : Option Addr) (n cap : Nat) (ks : List (List UInt8)) (w : World) (hx : x.length = 16) (hn : ks.length = n) (hnb : n ≤ 1099511627776) (hk : RowsN 16 w ao ks) :
    Calls Tryz.prog 206 #[.agg (x.map B).toArray, .slice ao n cap] w fun e w' => e = .returned (.agg ((ks.foldl both x).map B).toArray) ∧ Below w.heap.size w w' := by
  have HX := Lib.hid hx
  have HXM := Lib.hid (show (x.map B).length = 16 by rw [List.length_map]; exact hx)
  have HN := Lib.hid hn
  have HK := Lib.hid hk
  have HS := Lib.hid (St.start w)
  clear hx hn hk
  go_enter Tryz.func206, Tryz.ntmps206
  go_wp2_with (refine wpList_box 88 _ (x.map B) _ rfl rfl rfl rfl ?_)
  intro w1 hb hbel; have HS := Lib.hid (HS.out.push hb hbel); have hlt1 := hb.lt; clear hb hbel
  go_wp2_with (refine wpList_var 88 ((zeros 16).map B) _ rfl rfl Tryz.zero16 rfl ?_)
  intro w2 hb hbel; have HS := Lib.hid (HS.out.push hb hbel); have hlt2 := hb.lt; clear hb hbel
  generalize hbb : w.heap.size = bb at *
  generalize w1.heap.size = br at *
  have HBB := Lib.hid hbb
  clear hbb
  go_wp2
  go_loopw [10] (fun c wr => ∃ (i : Nat) (y : List UInt8), i ≤ n ∧ c = .int .i64 i ∧ Hid (y.length = 16) ∧ Hid ((ks.drop i).foldl both y = ks.foldl both x) ∧ Hid (St w bb wr [(br, (zeros 16).map B, 88), (bb, y.map B, 88)])) (fun c _ => n - (intOf c).toNat)
  case atStart => exact ⟨0, x, by omega, rfl, HX, rfl, HS⟩
  case round =>
    clear HS HX HXM
    obtain ⟨i, y, hi, rfl, HY, HE, HS⟩ := hrel
    have HYM := Lib.hid (show (y.map B).length = 16 by rw [List.length_map]; exact HY.out)
    by_cases hlt : i < n
    · have hget : ks[i]? = some (key ks i) := key_get (by rw [HN.out]; exact hlt)
      obtain ⟨kb, koff, rfl, hkb, hr⟩ := (HK.out.below (by rw [HBB.out]; exact HS.out.bel)).range (by omega) hget
      have HKL := Lib.hid (show (key ks i).length = 16 from HK.out.each _ (List.mem_of_getElem? hget))
      have HKLM := Lib.hid (show ((key ks i).map B).length = 16 by rw [List.length_map]; exact HKL.out)
      have HE := Lib.hid (show (ks.drop (i + 1)).foldl both (both y (key ks i)) = ks.foldl both x by
        rw [← HE.out, List.drop_eq_getElem_cons (l := ks) (i := i) (by rw [HN.out]; exact hlt), List.foldl_cons]
        congr 2
        have := List.getElem?_eq_getElem (l := ks) (i := i) (by rw [HN.out]; exact hlt)
        rw [hget] at this
        exact Option.some.inj this)
      have HR := Lib.hid hr
      generalize key ks i = k at *
      clear hget hr
      go_wp2_with (first | (refine wpList_load_mid rfl 88 (.tmp 12) rfl kb (koff + i * 16) rfl _ _ HR.out Tryz.underlying88 rfl (by rw [HKLM.out]; exact Tryz.row16.2) ?_) | (refine wpList_var 88 ((zeros 16).map B) _ rfl rfl Tryz.zero16 rfl ?_))
      intro w3 hb hbel; have hz1 := (HS.out.get 0 rfl).lt; have hz0 := (HS.out.get 1 rfl).lt; have HS := Lib.hid (HS.out.push hb hbel); have hlt3 := hb.lt; clear hb hbel
      generalize wr.heap.size = bk at *
      go_wp2_with (refine (HS.out.get 0 rfl).wstore rfl rfl rfl rfl Tryz.row16 (by simp [zeros_length]) HKLM.out (oneCell_B _) ?_)
      intro w4 hb4 ho4
      have HS := Lib.hid (HS.out.change 0 hb4 ho4 (by omega) (by simp; omega))
      clear hb4 ho4
      go_wp2
      go_loopw [14] (fun c wr => ∃ (j : Nat) (l : List UInt8), j ≤ 16 ∧ c = .int .i64 j ∧ Hid (l.length = 16) ∧ Hid (∀ i, i < j → l[i]? = some (xor8 (at8 y i) (at8 k i))) ∧ Hid (∀ i, j ≤ i → l[i]? = y[i]?) ∧ Hid (St w bb wr [(bk, k.map B, 88), (br, (zeros 16).map B, 88), (bb, l.map B, 88)])) (fun c _ => 16 - (intOf c).toNat)
      case atStart => exact ⟨0, y, by omega, rfl, HY, fun i hi => absurd hi (by omega), fun i _ => rfl, HS⟩
      case round =>
        clear HS
        obtain ⟨j, l, hj, rfl, HLL, HL1, HL2, HS⟩ := hrel
        by_cases hlt2 : j < 16
        · have hd : decide ((j : Int) < 16) = true := by simp; omega
          have hx : l[j]? = some (at8 y j) := by rw [HL2.out j (Nat.le_refl _)]; exact at8_get (by rw [HY.out]; omega)
          have hc1 := fun (x : After wr.drew) => ((HS.out.drew.later x.later).get 2 rfl).cell j _ (mapB_at hx)
          have hc2 := fun (x : After wr.drew) => ((HS.out.drew.later x.later).get 0 rfl).cell j _ (mapB_at (at8_get (b := k) (i := j) (by rw [HKL.out]; omega)))
          clear hx
          go_wp2_with fail
          refine wp_region_R [0, 1, 2, 3, 4, 5, 6, 7, 8] (by kernel_rfl) (by kernel_rfl) ?_
          rintro w5 rfl
          repeat (refine walkR_one rfl rfl (fun K hK => ?_); go_big_quiet_step (fail); refine wpQuiet_nil (hK _ ?_); clear hK K)
          clear hc1 hc2
          refine walkR_free rfl rfl (by rfl) (fun K hK => ?_)
          refine (HS.out.drew.get 2 rfl).opset (v := B (xor8 (at8 y j) (at8 k j))) rfl rfl rfl Tryz.sizeByte rfl rfl (by rw [List.length_map, HLL.out]; omega) (fun w6 hb6 ho6 => hK _ _ ?_)
          clear hK K
          rw [mapB_set] at hb6
          have HS := Lib.hid (HS.out.drew.change 2 hb6 ho6 (by omega) (by simp; omega))
          clear ho6 hb6
          go_simp
          refine walkR_nil ?_
          go_wp2
          go_roundw
          case rel => exact ⟨j + 1, _, by omega, rfl, (by rw [List.length_set]; exact HLL.out), (both_step hlt2 HLL.out HL1.out HL2.out).1, (both_step hlt2 HLL.out HL1.out HL2.out).2, HS⟩
          case measure => simp [intOf]; omega
        · obtain rfl : j = 16 := by omega
          have hle := both_done HLL.out HL1.out
          rw [hle] at HS
          have HS := Lib.hid HS.out.tail
          clear hle
          go_wp2
          go_roundw
          case rel => exact ⟨i + 1, _, by omega, by go_num, both_length _ _, HE, HS⟩
          case measure => simp [intOf]; omega
    · obtain rfl : i = n := by omega
      have HE := Lib.hid (show y = ks.foldl both x by rw [← HE.out, List.drop_eq_nil_of_le (by rw [HN.out]; omega)]; rfl)
      go_wp2_with (first | (refine (HS.out.get 1 rfl).wload rfl rfl rfl Tryz.row16 HYM.out ?_) | (refine (HS.out.get 0 rfl).wstore rfl rfl rfl rfl Tryz.row16 (by rw [List.length_map]; exact zeros_length 16) HYM.out (oneCell_B _) ?_))
      intro w6 hb6 ho6
      have hbel6 := below_only HS.out.bel ho6 (by omega)
      go_wp2
      refine hb6.result rfl rfl rfl Tryz.row16 HYM.out ⟨by rw [HE.out], ?_⟩
      rw [HBB.out]
      exact hbel6

end Go.Proofs.YtnkaodjfjllkfaaGreatDoor
/-
  What ezkey's functions compute. No program.
-/
set_option linter.unusedVariables false
namespace Go.Ezk
open Go.Ops Go.Oct Go.Gf Go.Trn Go.Aes Go.Ring

/-- A key's parts. -/
structure Parts where
  i : List UInt8
  j : List UInt8
  l : List UInt8
def partK (k : Parts) (n : Nat) : List UInt8 := if n = 0 then k.i else if n = 1 then k.j else k.l
def upOf (i : Nat) : Nat := i / 8 + min (i % 8) 1
def offset (k : Parts) (j i : Nat) : List UInt8 := [raiseGo (upOf i) k.i, multiple (UInt64.ofNat (i % 8)) k.l].foldl both (multiple (UInt64.ofNat j) k.j)
/-- The tweaked block function. -/
def eBlk (k : Parts) (j i : Nat) (x : List UInt8) : List UInt8 := rounds (both x (offset k j i)) [k.j, k.i, k.l, zeros 16]
def eRows (k : Parts) (n : Nat) : List (List UInt8) := (List.range n).map fun m => partK k (m % 3)
/-- .. of the number -1. -/
def eTen (k : Parts) (i : Nat) (x : List UInt8) : List UInt8 := rounds (both x (multiple (UInt64.ofNat i) k.l)) (eRows k 10)

structure Parts.Fit (k : Parts) : Prop where
  li : k.i.length = 16
  lj : k.j.length = 16
  ll : k.l.length = 16
theorem partK_length {k : Parts} (h : k.Fit) (n : Nat) : (partK k n).length = 16 := by
  unfold partK
  split
  · exact h.li
  · split
    · exact h.lj
    · exact h.ll
theorem offset_length (k : Parts) (j i : Nat) : (offset k j i).length = 16 := by
  simp only [offset, List.foldl_cons, List.foldl_nil]
  exact both_length _ _
theorem eBlk_length (k : Parts) (j i : Nat) (x : List UInt8) : (eBlk k j i x).length = 16 := rounds_length _ _ (both_length _ _)
theorem eTen_length (k : Parts) (i : Nat) (x : List UInt8) : (eTen k i x).length = 16 := rounds_length _ _ (both_length _ _)
theorem eRows_succ (k : Parts) (n : Nat) : eRows k (n + 1) = eRows k n ++ [partK k (n % 3)] := by simp [eRows, List.range_succ]
theorem eRows_length (k : Parts) (n : Nat) : (eRows k n).length = n := by simp [eRows]
theorem eRows_each {k : Parts} (h : k.Fit) (n : Nat) : ∀ x ∈ eRows k n, x.length = 16 := by
  intro x hx
  simp only [eRows, List.mem_map] at hx
  obtain ⟨m, _, rfl⟩ := hx
  exact partK_length h _

end Go.Ezk
