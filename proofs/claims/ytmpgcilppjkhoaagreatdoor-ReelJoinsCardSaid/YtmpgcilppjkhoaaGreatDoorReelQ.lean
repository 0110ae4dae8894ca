/-
  The walk of ReelJoins.
-/
import Derived.Test.YtmpgcilppjkhoaaGreatDoorReelP
namespace Go.Proofs.YtmpgcilppjkhoaaGreatDoor
open Go.RowKit Go.Mem Go.Ops Go.Cells Go.Oct Go.Reel Go.Trn
set_option linter.unusedSimpArgs false
set_option linter.unusedVariables false
set_option maxRecDepth 100000

theorem opsV_append (xs ys : List Opr) : opsV (xs ++ ys) = opsV xs ++ opsV ys := by simp [opsV]
theorem opsV_one (xs : List Opr) : ∀ v ∈ opsV xs, v.oneCell' = true := by
  intro v hv
  simp only [opsV, List.mem_flatten, List.mem_map] at hv
  obtain ⟨l, ⟨x, _, rfl⟩, hv⟩ := hv
  exact x.vals_one v hv
theorem opsV_length (xs : List Opr) : (opsV xs).length = xs.length * 7 := by
  have := vflat_length 7 (xs.map Opr.vals) (by intro v hv; obtain ⟨x, _, rfl⟩ := List.mem_map.1 hv; exact x.vals_length)
  rw [List.length_map] at this
  exact this

theorem outP_small {xs : List Opr} (h : smallB xs = true) : (outP (xs.map (·.c))).length ≤ 18300 := by
  have h1 := (smallB_yes h).1
  have : ∀ l : List Cmd, (∀ c ∈ l, c.key.length ≤ 300 ∧ c.b.length ≤ 300 ∧ c.name.length ≤ 300) → (outP l).length ≤ l.length * 915 := by
    intro l
    induction l with
    | nil => intro _; simp [outP]
    | cons c r ih =>
      intro h
      have h1 := ih (fun d hd => h d (List.mem_cons_of_mem _ hd))
      obtain ⟨a, b, d⟩ := h c (by simp)
      rw [outP_cons, List.length_append, c.bytes_length, List.length_cons, Nat.add_mul]
      omega
  have h2 := this (xs.map (·.c)) (fun c hc => by
    obtain ⟨x, hx, rfl⟩ := List.mem_map.1 hc
    exact (smallB_yes h).2 x hx)
  rw [List.length_map] at h2
  omega

/-- append of commands onto commands. -/
theorem wpList_append_ops {w : World} {ops : Array Oper} {rest : List Oper} {o : Oper} {a : Act} {Q : Exit → Act → World → Prop} (hgd : o.guard = none) (s x : Operand)
    (ho : o.op = .call { callee := .builtin .append, args := #[s, x], argTypes := #[28, 28] })
    (base : Nat) (v : Value) (xs ys : List Opr) (hs : a.eval s = v) (hown : w.ownsRow base 39 7 v xs.length (opsV xs))
    (ao : Option Addr) (m c : Nat) (hx : a.eval x = .slice ao m c) (hl : ys.length = m) (hlies : Lies w ao (opsV ys))
    (hn : xs.length + m ≤ 100000) (hbase : base ≤ w.heap.size)
    (h : ∀ v' w', w'.ownsRow base 39 7 v' (xs ++ ys).length (opsV (xs ++ ys)) → w.grownBy w' v.ownBlock → wpList Tryz.prog ops Q rest (a.put o.dst v') w') : wpList Tryz.prog ops Q (o :: rest) a w := by
  obtain ⟨i0, hi0, hz0, hz1, hz2⟩ := info_parts Tryz.infoOp
  refine wpList_plain hgd fun K hK => ?_
  by_cases hm : m = 0
  · subst hm
    obtain rfl : ys = [] := List.eq_nil_of_length_eq_zero hl
    have hrun := run_append_empty (P := Tryz.prog) (w := w) base 28 o.type 39 i0 7 Tryz.underlying28 hi0 v xs.length (opsV xs) hown ao c
    unfold Oper.wp
    simp [execOp, ho, resolve, invoke, builtin, hs, hx, hrun, Result.andThen]
    exact hK _ _ (h v w (by simpa using hown) (World.grownBy.refl _ _))
  · have hne : opsV ys ≠ [] := by intro e; have := opsV_length ys; rw [e] at this; simp at this; omega
    obtain ⟨b, off, rfl, _, hc⟩ := hlies.at hne
    refine wp_append_own _ s x 28 ho base 39 i0 (.agg (Go.Proofs.YtmpgcilppjkhoaaGreatDoor.zeroOp).toArray) 7 96 Tryz.underlying28 hi0 hz0 hz1 hz2 rfl (by decide) v xs.length (opsV xs) hs hown ⟨b, off, none⟩ m c (opsV ys) hx (by rw [opsV_length, hl]) hlies.news (opsV_one ys) (by unfold maxLen; omega) (by omega) hbase ?_
    intro v' w' hown' hg' _
    refine hK _ _ (h v' w' ?_ hg')
    rw [List.length_append, hl, opsV_append]
    exact hown'

theorem OpsIn.append_in {w : World} {xs ys : List Opr} (hx : ∀ x ∈ xs, x.In w) (hy : ∀ x ∈ ys, x.In w) : ∀ x ∈ xs ++ ys, x.In w := fun x h => by
  rcases List.mem_append.1 h with h | h
  · exact hx x h
  · exact hy x h

set_option maxHeartbeats 8000000 in
theorem joins_law (ao bo : Option Addr) (n m cap dap : Nat) (xs ys : List Opr) (w : World) (hn : xs.length = n) (hc : n ≤ cap) (hcm : cap ≤ maxLen) (hx : OpsIn w ao xs) (hm : ys.length = m) (hd : m ≤ dap) (hdm : dap ≤ maxLen) (hy : OpsIn w bo ys) (hg : Globals w) :
    Calls Tryz.prog 7 #[.slice ao n cap, .slice bo m dap] w fun e w' => e = .returned (.bool true) ∧ Below w.heap.size w w' := by
  have HN := Lib.hid hn
  have HNY := Lib.hid hm
  have HX := Lib.hid hx
  have HY := Lib.hid hy
  have HG := Lib.hid hg
  have HM := Lib.hid (Nat.le_trans hc hcm)
  have HMY := Lib.hid (Nat.le_trans hd hdm)
  clear hn hm hx hy hg hc hcm hd hdm
  by_cases hs : smallB xs = true
  case neg =>
    have HS := Lib.hid (show smallB xs = false by simpa using hs)
    clear hs
    go_enter Tryz.func7, Tryz.ntmps7
    go_wp2_with fail
    refine (small_ok ao n cap xs _ HN.out HX.out HM.out).mono ?_
    rintro e w1 ⟨rfl, rfl⟩
    rw [HS.out]
    go_wp2
    go_ret
    exact ⟨rfl, Below.refl _ _⟩
  by_cases ht : smallB ys = true
  case neg =>
    have HS := Lib.hid hs
    have HT := Lib.hid (show smallB ys = false by simpa using ht)
    clear hs ht
    go_enter Tryz.func7, Tryz.ntmps7
    go_wp2_with fail
    refine (small_ok ao n cap xs _ HN.out HX.out HM.out).mono ?_
    rintro e w1 ⟨rfl, rfl⟩
    rw [HS.out]
    go_wp2_with fail
    refine (small_ok bo m dap ys _ HNY.out HY.out HMY.out).mono ?_
    rintro e w1 ⟨rfl, rfl⟩
    rw [HT.out]
    go_wp2
    go_ret
    exact ⟨rfl, Below.refl _ _⟩
  have HS := Lib.hid hs
  have HT := Lib.hid ht
  have hn20 : n ≤ 20 := by rw [← HN.out]; exact (smallB_yes hs).1
  have hm20 : m ≤ 20 := by rw [← HNY.out]; exact (smallB_yes ht).1
  have HMI := Lib.hid (mild_small hs)
  have HMJ := Lib.hid (mild_small ht)
  have HLX := Lib.hid (outP_small hs)
  have HLY := Lib.hid (outP_small ht)
  clear hs ht
  go_enter Tryz.func7, Tryz.ntmps7
  go_wp2_with fail
  refine (small_ok ao n cap xs _ HN.out HX.out HM.out).mono ?_
  rintro e w1 ⟨rfl, rfl⟩
  rw [HS.out]
  go_wp2_with fail
  refine (small_ok bo m dap ys _ HNY.out HY.out HMY.out).mono ?_
  rintro e w1 ⟨rfl, rfl⟩
  rw [HT.out]
  -- the bytes of the first
  go_wp2_with fail
  refine (ops_ok ao n cap xs _ HN.out HX.out (by omega)).mono ?_
  rintro e w2 ⟨v2, rfl, hown2, hbel2⟩
  obtain ⟨a2, cap2, rfl, _, _, _⟩ := own_form hown2
  have HO2 := Lib.hid (ops_of_own hown2 (fun y hy => (HX.out.each y hy).below hbel2))
  have HB := Lib.hid hbel2
  clear hown2 hbel2
  go_wp2_with fail
  refine (write_ok a2 n cap2 xs _ HN.out HO2.out (by omega) HMI.out).mono ?_
  rintro e w3 ⟨v3, rfl, hok3, hno3, hbel3⟩
  have HB := Lib.hid (HB.out.trans (hbel3.mono HB.out.size))
  have HOK3 := Lib.hid hok3
  have HNO3 := Lib.hid hno3
  clear hok3 hno3 hbel3 HO2
  -- of the second
  go_wp2_with fail
  refine (ops_ok bo m dap ys _ HNY.out (HY.out.below HB.out) (by omega)).mono ?_
  rintro e w4 ⟨v4, rfl, hown4, hbel4⟩
  obtain ⟨a4, cap4, rfl, _, _, _⟩ := own_form hown4
  have HO4 := Lib.hid (ops_of_own hown4 (fun y hy => ((HY.out.each y hy).below HB.out).below hbel4))
  have HB := Lib.hid (HB.out.trans (hbel4.mono HB.out.size))
  have HOK3 := Lib.hid (fun h => (HOK3.out h).later hbel4)
  clear hown4 hbel4
  go_wp2_with fail
  refine (write_ok a4 m cap4 ys _ HNY.out HO4.out (by omega) HMJ.out).mono ?_
  rintro e w5 ⟨v5, rfl, hok5, hno5, hbel5⟩
  have HB := Lib.hid (HB.out.trans (hbel5.mono HB.out.size))
  have HOK3 := Lib.hid (fun h => (HOK3.out h).later hbel5)
  have HOK5 := Lib.hid hok5
  have HNO5 := Lib.hid hno5
  clear hok5 hno5 hbel5 HO4
  -- of both
  go_wp2_with fail
  refine (ops_ok ao n cap xs _ HN.out (HX.out.below HB.out) (by omega)).mono ?_
  rintro e w6 ⟨v6, rfl, hown6, hbel6⟩
  have HW6 := Lib.hid hown6
  have HB0 := Lib.hid HB.out
  have HB56 := Lib.hid hbel6
  have HB := Lib.hid (HB.out.trans (hbel6.mono HB.out.size))
  have HOK3 := Lib.hid (fun h => (HOK3.out h).later hbel6)
  have HOK5 := Lib.hid (fun h => (HOK5.out h).later hbel6)
  clear hown6 hbel6
  go_wp2_with fail
  refine (ops_ok bo m dap ys _ HNY.out (HY.out.below HB.out) (by omega)).mono ?_
  rintro e w7 ⟨v7, rfl, hown7, hbel7⟩
  obtain ⟨a7, cap7, rfl, _, _, hl7⟩ := own_form hown7
  have HL7 := Lib.hid hl7
  have HW6 := Lib.hid (own_below HW6.out hbel7)
  have HB := Lib.hid (HB.out.trans (hbel7.mono HB.out.size))
  have HOK3 := Lib.hid (fun h => (HOK3.out h).later hbel7)
  have HOK5 := Lib.hid (fun h => (HOK5.out h).later hbel7)
  have HB57 := Lib.hid (HB56.out.trans (hbel7.mono HB56.out.size))
  clear hown7 hbel7 hl7
  go_wp2_with (at_builtin; refine wpList_append_ops rfl (.tmp 34) (.tmp 36) rfl w5.heap.size v6 xs ys rfl (by rw [HN.out]; exact HW6.out) a7 m cap7 rfl HNY.out HL7.out (by rw [HN.out]; omega) HB57.out.size ?_)
  intro v8 w8 hown8 hg8
  rw [HN.out, HNY.out] at hown8
  have hbel58 := below_append HB57.out HW6.out hg8 (Nat.le_refl _) HB57.out.size
  have HB8 := Lib.hid (HB0.out.trans (hbel58.mono HB0.out.size))
  have HI8 := Lib.hid (OpsIn.append_in (fun x h => (HX.out.each x h).below HB8.out) (fun x h => (HY.out.each x h).below HB8.out))
  obtain ⟨a8, cap8, rfl, _, _, _⟩ := own_form hown8
  have HO8 := Lib.hid (ops_of_own hown8 HI8.out)
  have HOK3 := Lib.hid (fun h => World.ownsRow.kept (HOK3.out h) hg8 (own_apart (HOK3.out h) HW6.out (by decide)))
  have HOK5 := Lib.hid (fun h => World.ownsRow.kept (HOK5.out h) hg8 (own_apart (HOK5.out h) HW6.out (by decide)))
  clear hown8 hg8 hbel58 HB HB0 HB56 HB57 HW6 HL7 HI8
  go_wp2_with fail
  refine (write_ok a8 (n + m) cap8 (xs ++ ys) _ (by rw [List.length_append, HN.out, HNY.out]) HO8.out (by omega) (fun x h => by
    rcases List.mem_append.1 h with h | h
    · exact HMI.out x h
    · exact HMJ.out x h)).mono ?_
  rintro e w9 ⟨v9, rfl, hok9, hno9, hbel9⟩
  have HB := Lib.hid (HB8.out.trans (hbel9.mono HB8.out.size))
  have HOK3 := Lib.hid (fun h => (show OwnB _ w8 _ v3 _ from HOK3.out h).later hbel9)
  have HOK5 := Lib.hid (fun h => (show OwnB _ w8 _ v5 _ from HOK5.out h).later hbel9)
  have HOK9 := Lib.hid hok9
  have HNO9 := Lib.hid hno9
  clear hok9 hno9 hbel9 HO8 HB8
  rw [List.map_append, errP_append, outP_append] at HOK9
  rw [List.map_append, errP_append] at HNO9
  rw [List.map_append, errP_append]
  generalize hk : errP (xs.map (·.c)) = k at *
  generalize hj : errP (ys.map (·.c)) = j at *
  generalize outP (xs.map (·.c)) = out at *
  generalize outP (ys.map (·.c)) = out2 at *
  clear hk hj
  by_cases h0 : k = 0
  · subst h0
    by_cases h1 : j = 0
    · subst h1
      obtain ⟨a3, c3, rfl, _, _, l3⟩ := (HOK3.out rfl).form
      obtain ⟨a5, c5, rfl, _, _, l5⟩ := (HOK5.out rfl).form
      obtain ⟨a9, c9, rfl, _, _, l9⟩ := (HOK9.out rfl).form
      have F3 := string_ok w9 a3 _ c3 out rfl l3
      have F5 := string_ok w9 a5 _ c5 out2 rfl l5
      have F9 := string_ok w9 a9 _ c9 (out ++ out2) rfl l9
      have FC : str (out ++ out2) = str out ++ str out2 := by
        apply ByteArray.ext
        simp [str]
      rw [FC, List.length_append] at F9
      have hsum : ¬ ((str out).size + (str out2).size > 9223372036854775807) := by
        rw [str_size, str_size]
        have := HLX.out
        have := HLY.out
        omega
      clear HOK3 HOK5 HOK9 HNO3 HNO5 HNO9 l3 l5 l9 FC
      generalize str out = s1 at *
      generalize str out2 = s2 at *
      go_wp2_with fail
      refine (awake_ok _ (HG.out.below HB.out)).mono ?_
      rintro e w10 ⟨rfl, hbel10⟩
      have HB := Lib.hid (HB.out.trans (hbel10.mono HB.out.size))
      clear hbel10 F3 F5 F9
      go_wp2
      go_ret
      exact ⟨rfl, HB.out⟩
    · obtain rfl := HNO9.out (by simpa using h1)
      have hne : (((j : Nat) : Int) != 0) = true := by simp; omega
      clear HOK3 HOK5 HOK9 HNO3 HNO5 HNO9
      simp only [if_true]
      go_wp2_with fail
      refine (awake_ok _ (HG.out.below HB.out)).mono ?_
      rintro e w10 ⟨rfl, hbel10⟩
      have HB := Lib.hid (HB.out.trans (hbel10.mono HB.out.size))
      clear hbel10
      go_wp2
      go_ret
      exact ⟨rfl, HB.out⟩
  · obtain rfl := HNO9.out (by rw [if_neg h0]; exact h0)
    have hne : (((k : Nat) : Int) != 0) = true := by simp; omega
    have hne2 : (((k : Nat) : Int) == 0) = false := by simp; omega
    clear HOK3 HOK5 HOK9 HNO3 HNO5 HNO9
    rw [if_neg h0]
    go_wp2_with fail
    refine (awake_ok _ (HG.out.below HB.out)).mono ?_
    rintro e w10 ⟨rfl, hbel10⟩
    have HB := Lib.hid (HB.out.trans (hbel10.mono HB.out.size))
    clear hbel10
    go_wp2
    go_ret
    exact ⟨rfl, HB.out⟩

end Go.Proofs.YtmpgcilppjkhoaaGreatDoor
