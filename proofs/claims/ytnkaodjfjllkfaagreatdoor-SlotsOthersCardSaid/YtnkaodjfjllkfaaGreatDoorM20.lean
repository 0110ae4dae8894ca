/-
  Texts of this claim, one behind the other: SlotC SlotD SlotE OpenB.
-/
import Derived.Test.YtnkaodjfjllkfaaGreatDoorM19
import Derived.Test.YtnkaodjfjllkfaaGreatDoorM6
import Derived.Test.YtnkaodjfjllkfaaGreatDoorM1
import Derived.Lib.SmallJoins
import Derived.Laws.IdiomStrings
import Derived.Deep.Slices
import Derived.ChangeArms
import Derived.ChangeSlices
import Derived.ChangeShapes
/-
  The walks of a header's Lay and Find.
-/
set_option linter.unusedSimpArgs false
set_option linter.unusedVariables false
namespace Go.Cells
open Go.RowKit
/-- New memory, and then one block written. -/
def Wrote (b : Nat) (w w' : World) : Prop := ∃ w1, Below w.heap.size w w1 ∧ Only b w1 w'
theorem Wrote.below {b B : Nat} {u w w' : World} (h : Wrote b w w') (hu : Below B u w) (hB : B ≤ b) (hz : B ≤ w.heap.size) : Below B u w' := by
  obtain ⟨w1, h1, h2⟩ := h
  exact below_only (hu.trans (h1.mono hz)) h2 hB
end Go.Cells
namespace Go.Proofs.YtnkaodjfjllkfaaGreatDoor
open Go.RowKit Go.Mem Go.Ops Go.Cells Go.Oct Go.Gf Go.Trn Go.Aes Go.Ring Go.Ezk Go.Ezh Go.Ezt Go.Aez Go.Blake Go.CutP Go.Fl Go.Slot
set_option linter.unusedSimpArgs false
set_option linter.unusedVariables false
set_option maxRecDepth 100000
attribute [local irreducible] walkR walkP walk0 walkB walkK

theorem there_ok (hp n : Nat) (w : World) (hn : n < 8) : Calls Tryz.prog 33 #[.pointer (some ⟨hp, 0, none⟩), .int .i64 n] w fun e w' => e = .returned (.bool true) ∧ w = w' := by
  have d0 : decide ((n : Int) ≥ 0) = true := by simp
  have d1 : decide ((n : Int) < 8) = true := by simp; omega
  go_enter Tryz.func33, Tryz.ntmps33
  go_wp2
  go_ret
  exact ⟨rfl, rfl⟩

theorem nonceS_length (n : Nat) : (nonceS n).length = 8 := putLong_length _

set_option maxHeartbeats 1000000 in
theorem lay_far (hp q p : Nat) (ss : List Str) (n : Nat) (ao : Option Addr) (np cp : Nat) (b : List UInt8) (so : Option Addr) (ns cs : Nat) (m : List UInt8) (w : World) (hh : Head w hp q p ss) (hg : BGlob w) (hn : n < 8)
    (hb : b.length = np) (h0 : 0 < np) (h1 : np ≤ 128) (hc : np ≤ cp) (hl : Lies w ao (b.map B)) (hm : m.length = ns) (hm0 : 1 ≤ ns) (hm1 : ns ≤ 64) (hmc : ns ≤ cs) (hlm : Lies w so (m.map B)) :
    Calls Tryz.prog 13 #[.pointer (some ⟨hp, 0, none⟩), .int .i64 n, .slice ao np cp, .slice so ns cs] w fun e w' => e = .returned (.int .i64 0) ∧ (∃ s, Head w' hp q p (ss.set n s) ∧ s.bs = sealS n b m ∧ ∀ a, s.a = some a → w.heap.size ≤ a.block ∧ a.block < w'.heap.size) ∧ Wrote hp w w' := by
  have HH := Lib.hid hh
  have HG := Lib.hid hg
  have HNB := Lib.hid hb
  have HL := Lib.hid hl
  have HM := Lib.hid hm
  have HLM := Lib.hid hlm
  have d0 : ((ns : Int) == 0) = false := by simp; omega
  have d1 : decide ((ns : Int) > 64) = false := by simp; omega
  have hcq := hh.cellq
  clear hh hg hb hl hm hlm
  go_enter Tryz.func13, Tryz.ntmps13
  go_wp2_with fail
  refine (there_ok hp n _ hn).mono ?_
  rintro e w1 ⟨rfl, rfl⟩
  go_wp2_with fail
  refine (wnew_ok q p ao np cp b _ HNB.out h0 h1 hc HL.out HH.out.tab HG.out).mono ?_
  rintro e w2 ⟨ci, kp, rfl, hci, hbel⟩
  have HC := Lib.hid hci
  have HB := Lib.hid hbel
  clear hci hbel hcq
  go_wp2_with fail
  refine (nonce_ok n _ hn).mono ?_
  rintro e w3 ⟨na, rfl, hln, hbel⟩
  have HC := Lib.hid (HC.out.later hbel)
  have HLN := Lib.hid hln
  have HB := Lib.hid (HB.out.trans (hbel.mono HB.out.size))
  clear hln hbel
  go_wp2_with fail
  refine (seal_ok ci kp q p (keyParts b) (some na) 8 8 (nonceS n) so ns cs m _ HC.out (nonceS_length n) (by omega) HLN.out HM.out hm0 (by omega) hmc (HLM.out.below HB.out)).mono ?_
  rintro e w4 ⟨v4, rfl, hown4, hbel4⟩
  obtain ⟨a4, c4, rfl, hc4, _, hl4⟩ := own_form hown4
  have HF4 := Lib.hid (show ∀ a, a4 = some a → w.heap.size ≤ a.block ∧ a.block < w4.heap.size from fun a e => by
    subst e
    obtain ⟨h1, h2⟩ := hown4.lt a.block rfl
    exact ⟨Nat.le_trans HB.out.size h1, h2⟩)
  have HB := Lib.hid (HB.out.trans (hbel4.mono HB.out.size))
  have HSL := Lib.hid (show (sealS n b m).length = ns + 16 by rw [sealS_length, HM.out])
  have HSI := Lib.hid (show Str.In w4 ⟨a4, c4, sealS n b m⟩ from ⟨by rw [HSL.out]; exact hc4, hl4⟩)
  have HH := Lib.hid (HH.out.later HB.out)
  clear hown4 hl4 hbel4
  go_wp2_with (refine HH.out.blk.wset (i := 1 + n) (v := .slice a4 (ns + 16) c4) rfl rfl rfl rfl Tryz.size22 rfl rfl (by simp [headV, HH.out.len]; omega) ?_)
  intro w5 hb5 ho5
  have HH5 := Lib.hid (HH.out.set n ⟨a4, c4, sealS n b m⟩ HSI.out (by intro h; exfalso; rw [HSL.out] at h; omega) (by rw [show Str.val ⟨a4, c4, sealS n b m⟩ = .slice a4 (ns + 16) c4 by simp [Str.val, HSL.out]]; exact hb5) ho5)
  have HW := Lib.hid (show Wrote hp w w5 from ⟨w4, HB.out, ho5⟩)
  have hsz5 := ho5.size
  clear hb5 ho5
  go_wp2
  go_ret
  exact ⟨rfl, ⟨_, HH5.out, rfl, fun a e => by have := HF4.out a e; rw [hsz5]; exact this⟩, HW.out⟩

theorem lay_ok (hp q p : Nat) (ss : List Str) (n : Nat) (ao : Option Addr) (np cp : Nat) (b : List UInt8) (so : Option Addr) (ns cs : Nat) (m : List UInt8) (w : World) (hh : Head w hp q p ss) (hg : BGlob w) (hn : n < 8)
    (hb : b.length = np) (h0 : 0 < np) (h1 : np ≤ 128) (hc : np ≤ cp) (hl : Lies w ao (b.map B)) (hm : m.length = ns) (hm0 : 1 ≤ ns) (hm1 : ns ≤ 64) (hmc : ns ≤ cs) (hlm : Lies w so (m.map B)) :
    Calls Tryz.prog 13 #[.pointer (some ⟨hp, 0, none⟩), .int .i64 n, .slice ao np cp, .slice so ns cs] w fun e w' => e = .returned (.int .i64 0) ∧ (∃ s, Head w' hp q p (ss.set n s) ∧ s.bs = sealS n b m) ∧ Wrote hp w w' := by
  refine (lay_far hp q p ss n ao np cp b so ns cs m w hh hg hn hb h0 h1 hc hl hm hm0 hm1 hmc hlm).mono ?_
  rintro e w' ⟨h2, ⟨s, h3, h4, _⟩, h5⟩
  exact ⟨h2, ⟨s, h3, h4⟩, h5⟩

/-- What a slot opens to, as a result. -/
def Opens (w' : World) (o : Option (List UInt8)) (e : Ending) : Prop := match o with
  | some m => ∃ ao, e = .returned (.tuple #[.slice ao m.length m.length, .bool true]) ∧ Lies w' ao (m.map B)
  | none => e = .returned (.tuple #[.slice none 0 0, .bool false])
set_option maxHeartbeats 1000000 in
theorem find1_ok (bc bh ci kp hp q p n : Nat) (b : List UInt8) (ss : List Str) (s : Str) (w : World) (hci : Ciph w ci kp q p (keyParts b)) (hh : Head w hp q p ss) (hn : n < 8) (hs : ss[n]? = some s) (h1 : 17 ≤ s.bs.length) (h2 : s.bs.length ≤ 80)
    (hbc : Blk w bc [.pointer (some ⟨ci, 0, none⟩)] 73) (hbh : Blk w bh [.pointer (some ⟨hp, 0, none⟩)] 24) :
    Calls Tryz.prog 37 #[.int .i64 n, .pointer (some ⟨bc, 0, none⟩), .pointer (some ⟨bh, 0, none⟩)] w fun e w' => Opens w' (openS n b s.bs) e ∧ Below w.heap.size w w' := by
  have HC := Lib.hid hci
  have HI := Lib.hid (hh.each s (List.mem_of_getElem? hs))
  have hc1 := fun (y : After w.drew) => (y.later.cell (p := ⟨bc, 0, none⟩) hbc.drew.lt).trans (hbc.drew.cell 0 _ rfl)
  have hc2 := fun (y : After w.drew) => (y.later.cell (p := ⟨bh, 0, none⟩) hbh.drew.lt).trans (hbh.drew.cell 0 _ rfl)
  have hc3 := fun (y : After w.drew) => (y.later.cell (p := ⟨hp, 1 + n, none⟩) hh.drew.blk.lt).trans (hh.drew.cells n s hs)
  unfold Str.val at hc3
  have HB := Lib.hid (Below.refl w.heap.size w)
  obtain ⟨o, ho⟩ : ∃ o, o = openS n b s.bs := ⟨_, rfl⟩
  have HO := Lib.hid (show openA (keyParts b) (stringsV 16 (nonceS n) []) 16 s.bs = o ∧ True from ⟨ho.symm, trivial⟩)
  rw [← ho]
  clear hci hh hs hbc hbh ho
  go_enter Tryz.func37, Tryz.ntmps37
  go_wp2_with fail
  refine wp_region_R [0, 1, 3, 4, 5, 6, 7, 8, 2, 9, 10, 11, 12, 13, 14] (by kernel_rfl) (by kernel_rfl) ?_
  rintro w2 rfl
  repeat (refine walkR_one rfl rfl (fun K hK => ?_); go_big_quiet_step (fail); refine wpQuiet_nil (hK _ ?_); clear hK K)
  have HB := Lib.hid HB.out.drew
  clear hc1 hc2 hc3
  refine walkR_call rfl rfl (by rfl) (fun K hK => ?_)
  go_simp
  refine (nonce_ok n _ hn).mono ?_
  rintro e w3 ⟨na, rfl, hln, hbel⟩
  have HLN := Lib.hid hln
  have HB := Lib.hid (HB.out.trans (hbel.mono HB.out.size))
  go_simp
  refine hK _ _ hbel ?_
  clear hK K hln hbel
  repeat (refine walkR_one rfl rfl (fun K hK => ?_); go_big_quiet_step (fail); refine wpQuiet_nil (hK _ ?_); clear hK K)
  refine walkR_call rfl rfl (by rfl) (fun K hK => ?_)
  go_simp
  refine (open_ok ci kp q p (keyParts b) (some na) 8 8 (nonceS n) s.a s.bs.length s.cap s.bs _ (HC.out.later HB.out) (nonceS_length n) (by omega) HLN.out rfl h1 (by omega) (HI.out.below HB.out).le ((HI.out.below HB.out).lies)).mono ?_
  rintro e w4 ⟨hop, hbel⟩
  have HB := Lib.hid (HB.out.trans (hbel.mono HB.out.size))
  rw [HO.out.1] at hop
  clear HO
  cases o with
  | none =>
    obtain rfl : e = _ := hop
    go_simp
    refine hK _ _ hbel ?_
    clear hK K hbel
    repeat (refine walkR_one rfl rfl (fun K hK => ?_); go_big_quiet_step (fail); refine wpQuiet_nil (hK _ ?_); clear hK K)
    refine walkR_nil ?_
    go_wp2
    go_ret2
    exact ⟨rfl, HB.out⟩
  | some m =>
    obtain ⟨ao, rfl, hlm⟩ := hop
    have HLM := Lib.hid hlm
    go_simp
    refine hK _ _ hbel ?_
    clear hK K hbel hlm
    repeat (refine walkR_one rfl rfl (fun K hK => ?_); go_big_quiet_step (fail); refine wpQuiet_nil (hK _ ?_); clear hK K)
    refine walkR_nil ?_
    go_wp2
    go_ret2
    exact ⟨⟨ao, rfl, HLM.out⟩, HB.out⟩

abbrev FindFrame (bh bc : Nat) (us : Nat → Value) : Act := { tmps := #[us 0, us 1, .pointer (some ⟨bh, 0, none⟩), us 3, us 4, us 5, us 6, .pointer (some ⟨bc, 0, none⟩), .func (.func 37) #[] #[.pointer (some ⟨bc, 0, none⟩), .pointer (some ⟨bh, 0, none⟩)], us 9, us 10, us 11, us 12, us 13, us 14, us 15, us 16, us 17, us 18, us 19, us 20, us 21, us 22, us 23, us 24, us 25, us 26, us 27, us 28, us 29, us 30, us 31, us 32, us 33, us 34, us 35, us 36, us 37, us 38, us 39, us 40, us 41, us 42, us 43, us 44, us 45, us 46, us 47], defers := [] }
/-- The state at the label. -/
def FindAt (ci kp hp q p : Nat) (b : List UInt8) (ss : List Str) (w : World) (x : Act) (wr : World) : Prop :=
  ∃ (us : Nat → Value) (bh bc : Nat), x = FindFrame bh bc us ∧ Hid (Ciph wr ci kp q p (keyParts b)) ∧ Hid (Head wr hp q p ss) ∧ Hid (Blk wr bc [.pointer (some ⟨ci, 0, none⟩)] 73) ∧ Hid (Blk wr bh [.pointer (some ⟨hp, 0, none⟩)] 24) ∧ Hid (Below w.heap.size w wr)
theorem FindAt.intro {ci kp hp q p : Nat} {b : List UInt8} {ss : List Str} {w : World} {x : Act} {wr : World} (bh bc : Nat) (hx : x = FindFrame bh bc (fun i => x.tmps.getD i undef)) (h1 : Ciph wr ci kp q p (keyParts b)) (h2 : Head wr hp q p ss) (h3 : Blk wr bc [.pointer (some ⟨ci, 0, none⟩)] 73) (h4 : Blk wr bh [.pointer (some ⟨hp, 0, none⟩)] 24) (h5 : Below w.heap.size w wr) : FindAt ci kp hp q p b ss w x wr :=
  ⟨_, bh, bc, hx, h1, h2, h3, h4, h5⟩
theorem rowOf_drop {ss : List Str} {i : Nat} {s : Str} (h : ss[i]? = some s) : (rowOf ss).drop i = s.bs :: (rowOf ss).drop (i + 1) := by
  have h1 := (List.getElem?_eq_some_iff.1 h).1
  rw [List.drop_eq_getElem_cons (by simpa [rowOf] using h1)]
  simp [rowOf, (List.getElem?_eq_some_iff.1 h).2]
/-- What a password finds, as a result. -/
def Finds (w' : World) (o : Option (List UInt8 × Nat)) (e : Ending) : Prop := match o with
  | some (m, n) => ∃ ao, e = .returned (.tuple #[.slice ao m.length m.length, .int .i64 (n : Int), .int .i64 0]) ∧ Lies w' ao (m.map B)
  | none => e = .returned (.tuple #[.slice none 0 0, .int .i64 0, .int .i64 17])
theorem Tryz.zeroPC : (Tryz.prog.info? 73).map (·.zero) = some (some (.pointer none)) := by kernel_rfl
theorem Tryz.sizePC : (Tryz.prog.info? 73).map (·.size) = some 1 := by kernel_rfl

attribute [local go_sem] Option.isNone_none
set_option maxHeartbeats 4000000 in
theorem find_ok (hp q p : Nat) (ss : List Str) (ao : Option Addr) (np cp : Nat) (b : List UInt8) (w : World) (hh : Head w hp q p ss) (hg : BGlob w) (hlen : ∀ s ∈ ss, s.bs.length = 0 ∨ 17 ≤ s.bs.length ∧ s.bs.length ≤ 80)
    (hb : b.length = np) (h0 : 0 < np) (h1 : np ≤ 128) (hc : np ≤ cp) (hl : Lies w ao (b.map B)) :
    Calls Tryz.prog 15 #[.pointer (some ⟨hp, 0, none⟩), .slice ao np cp] w fun e w' => Finds w' (findH b (rowOf ss)) e ∧ Below w.heap.size w w' := by
  obtain ⟨fo, hfo⟩ : ∃ fo, fo = findH b (rowOf ss) := ⟨_, rfl⟩
  have HFO := Lib.hid (show findGo b 0 (rowOf ss) = fo ∧ True from ⟨hfo.symm, trivial⟩)
  rw [← hfo]
  have HH := Lib.hid hh
  have HG := Lib.hid hg
  have HLEN := Lib.hid hlen
  have HNB := Lib.hid hb
  have HL := Lib.hid hl
  have HS := Lib.hid (St.start w)
  clear hh hg hlen hb hl hfo
  go_enter Tryz.func15, Tryz.ntmps15
  go_wp2_with (refine wpList_box 24 _ ([.pointer (some ⟨hp, 0, none⟩)]) _ rfl rfl rfl rfl ?_)
  intro w1 hb hbel; have HS := Lib.hid (HS.out.push hb hbel); have hlt1 := hb.lt; clear hb hbel
  generalize hbb : w.heap.size = bb at *
  have HBB := Lib.hid hbb
  clear hbb
  have hc1 := (HS.out.get 0 rfl).cell 0 _ rfl
  have hcq := (HH.out.later (HS.out.old HBB.out)).cellq
  go_wp2_with fail
  refine wp_scope_label 0 (fun x wr => ∃ ci kp, FindAt ci kp hp q p b ss w x wr) (fun _ _ => 0) rfl ?_ ?_
  · simp only [wpPre]
    go_wp2_with fail
    refine (wnew_ok q p ao np cp b _ HNB.out h0 h1 hc (HL.out.below (HS.out.old HBB.out)) (HH.out.later (HS.out.old HBB.out)).tab (HG.out.below (HS.out.old HBB.out))).mono ?_
    rintro e w2 ⟨ci, kp, rfl, hci, hbel⟩
    have HC := Lib.hid hci
    have HS := Lib.hid (HS.out.later hbel)
    have hz2 : bb < w2.heap.size := (HS.out.get 0 rfl).lt
    clear hci hbel hc1 hcq
    go_wp2_with (refine wpList_var 73 [.pointer none] _ rfl rfl Tryz.zeroPC rfl ?_)
    intro w3 hb hbel; have HS := Lib.hid (HS.out.push hb hbel); have HB3 := Lib.hid hbel; have hlt3 := hb.lt; clear hb hbel
    go_wp2_with (refine (HS.out.get 0 rfl).wset (v := .pointer (some ⟨ci, 0, none⟩)) rfl rfl rfl rfl Tryz.sizePC rfl rfl (by simp) ?_)
    intro w4 hb4 ho4
    have HC := Lib.hid (HC.out.later (below_only HB3.out ho4 (Nat.le_refl _)))
    have HS := Lib.hid (show St w bb w4 [(w2.heap.size, [.pointer (some ⟨ci, 0, none⟩)], 73), (bb, [.pointer (some ⟨hp, 0, none⟩)], 24)] from HS.out.change 0 hb4 ho4 (by omega) (by simp; omega))
    clear hb4 ho4 HB3
    go_wp2
    exact ⟨ci, kp, FindAt.intro bb w2.heap.size rfl HC.out (HH.out.later (HS.out.old HBB.out)) (HS.out.get 0 rfl) (HS.out.get 1 rfl) (HS.out.old HBB.out)⟩
  · clear HS HL HNB HH hc1 hcq
    rintro x wl ⟨ci, kp, us, bh, bc, rfl, HC, HH, HBC, HBH, HBL⟩
    have hbh0 := HBH.out.cell 0 _ rfl
    have hix := fun (w : World) (i : Nat) (s : Str) (hs : ss[i]? = some s) (hlt : i < 8) => run_index_one (P := Tryz.prog) w 46 22 8 (ss.map Str.val).toArray .i64 i s.val Tryz.underlying46 Tryz.noRowSl Tryz.size22 (vals_at hs) hlt
    have HIX := Lib.hid hix
    have HSZ := Lib.hid (show (ss.map Str.val).toArray.size = 8 by simp [HH.out.len])
    have HR := Lib.hid HH.out.range
    obtain ⟨V, hV⟩ : ∃ V, V = (ss.map Str.val).toArray := ⟨_, rfl⟩
    rw [← hV] at HIX HSZ
    clear hix
    simp only [FindFrame]
    go_wp2_with (refine wpList_load_mid rfl 46 (.tmp 30) rfl hp 1 rfl (ss.map Str.val) _ HR.out Tryz.underlying46 rfl (by rw [Tryz.sizeSlots]; simp [HH.out.len]) ?_)
    rw [← hV]
    clear hV hbh0
    go_wp2
    go_loopw [32] (fun c wr => ∃ i : Nat, i ≤ 8 ∧ c = .int .i64 i ∧ Hid (findGo b i ((rowOf ss).drop i) = fo ∧ True) ∧ Hid (Below wl.heap.size wl wr)) (fun c _ => 8 - (intOf c).toNat)
    case atStart => exact ⟨0, by omega, rfl, HFO, Lib.hid (Below.refl _ _)⟩
    case round =>
      clear HFO
      obtain ⟨i, hi, rfl, HFO, HB⟩ := hrel
      by_cases hlt : i < 8
      · obtain ⟨s, hs⟩ : ∃ s, ss[i]? = some s := ⟨ss[i]'(by rw [HH.out.len]; exact hlt), by simp⟩
        have hx := fun w => HIX.out w i s hs hlt
        unfold Str.val at hx
        have hq := fun (w : World) => eql_slice_nil (P := Tryz.prog) w 22 5 s.a s.bs.length s.cap Tryz.underlying22
        have hfd : (rowOf ss).drop i = s.bs :: (rowOf ss).drop (i + 1) := rowOf_drop hs
        rw [hfd, findGo] at HFO
        have hnil := HH.out.nil s (List.mem_of_getElem? hs)
        have hle := HLEN.out s (List.mem_of_getElem? hs)
        have HIN := Lib.hid (HH.out.each s (List.mem_of_getElem? hs))
        have HSI := Lib.hid hs
        by_cases h0 : s.bs.length = 0
        · rw [hnil h0, h0] at hx hq
          simp only [Option.isNone_none] at hq
          rw [if_pos h0] at HFO
          clear hs hnil hfd
          go_wp2
          go_roundw
          case rel => exact ⟨i + 1, by omega, by go_num, HFO, HB⟩
          case measure => simp [intOf]; omega
        · obtain ⟨sb, so, hsa, _, _⟩ := HIN.out.lies.at (by intro e; simp at e; rw [e] at h0; exact h0 rfl)
          rw [hsa] at hx hq
          simp only [Option.isNone_some] at hq
          rw [if_neg h0] at HFO
          have HLE := Lib.hid (show 17 ≤ s.bs.length ∧ s.bs.length ≤ 80 by omega)
          clear hs hnil hfd hsa hle
          go_wp2_with fail
          refine (find1_ok bc bh ci kp hp q p i b ss s _ (HC.out.later HB.out) (HH.out.later HB.out) hlt HSI.out HLE.out.1 HLE.out.2 (HBC.out.below HB.out HBC.out.lt) (HBH.out.below HB.out HBH.out.lt)).mono ?_
          rintro e w5 ⟨hop, hbel⟩
          have HB := Lib.hid (HB.out.trans (hbel.mono HB.out.size))
          obtain ⟨o, ho⟩ : ∃ o, o = openS i b s.bs := ⟨_, rfl⟩
          rw [← ho] at hop HFO
          clear ho hbel
          cases o with
          | none =>
            obtain rfl : e = _ := hop
            have HFO := Lib.hid (show findGo b (i + 1) ((rowOf ss).drop (i + 1)) = fo ∧ True from HFO.out)
            go_wp2
            go_roundw
            case rel => exact ⟨i + 1, by omega, by go_num, HFO, HB⟩
            case measure => simp [intOf]; omega
          | some m =>
            obtain ⟨am, rfl, hlm⟩ := hop
            have HLM := Lib.hid hlm
            have HFO := Lib.hid (show some (m, i) = fo ∧ True from HFO.out)
            clear hlm
            go_wp2
            rw [Exit.jump_ret]
            go_ret3
            rw [← HFO.out.1]
            exact ⟨⟨am, rfl, HLM.out⟩, by first | exact HBL.out.trans (HB.out.mono HBL.out.size) | (rw [← HBB.out]; exact HBL.out.trans (HB.out.mono HBL.out.size))⟩
      · obtain rfl : i = 8 := by omega
        have HFO := Lib.hid (show none = fo ∧ True from ⟨by rw [← HFO.out.1, List.drop_of_length_le (by simp [rowOf, HH.out.len])]; rfl, trivial⟩)
        go_wp2
        rw [Exit.jump_ret]
        go_ret3
        rw [← HFO.out.1]
        exact ⟨rfl, by first | exact HBL.out.trans (HB.out.mono HBL.out.size) | (rw [← HBB.out]; exact HBL.out.trans (HB.out.mono HBL.out.size))⟩

end Go.Proofs.YtnkaodjfjllkfaaGreatDoor
/-
  The walks of the reference header: Read, Used.
-/
set_option linter.unusedSimpArgs false
set_option linter.unusedVariables false
namespace Go.Slot
theorem readGo_step (k : Nat) (acc : Hdr) (x : UInt8) (r : List UInt8) : readGo (k + 1) acc (x :: r) = if (x.toNat ≠ 0 ∧ (x.toNat < 17 ∨ 80 < x.toNat)) ∨ r.length < x.toNat then none else readGo k (acc ++ [r.take x.toNat]) (r.drop x.toNat) := by
  rw [readGo]
  by_cases h0 : x.toNat = 0
  · rw [if_pos h0, h0, if_neg (by omega), List.take_zero, List.drop_zero]
  · rw [if_neg h0]
    by_cases h1 : x.toNat < 17 ∨ 80 < x.toNat ∨ r.length < x.toNat
    · rw [if_pos h1, if_pos (by omega)]
    · rw [if_neg h1, if_neg (by omega)]
end Go.Slot
namespace Go.Proofs.YtnkaodjfjllkfaaGreatDoor
open Go.RowKit Go.Mem Go.Ops Go.Cells Go.Oct Go.Gf Go.Trn Go.Aes Go.Ring Go.Ezk Go.Ezh Go.Ezt Go.Aez Go.Blake Go.CutP Go.Fl Go.Slot
set_option linter.unusedSimpArgs false
set_option linter.unusedVariables false
set_option maxRecDepth 100000
attribute [local irreducible] walkR walkP walk0 walkB walkK

theorem Tryz.zeroSlots : (Tryz.prog.info? 46).map (·.zero) = some (some (.agg ((List.replicate 8 nilS).map Str.val).toArray)) := by kernel_rfl
theorem vals_one (ss : List Str) : ∀ v ∈ ss.map Str.val, v.oneCell' = true := by
  intro v hv
  obtain ⟨s, _, rfl⟩ := List.mem_map.1 hv
  rfl
theorem B_vals (ss : List Str) (x : UInt8) : B x ∉ ss.map Str.val := by
  intro hx
  obtain ⟨s, _, hs⟩ := List.mem_map.1 hx
  exact val_ne_B s x hs.symm
theorem built_slots : Tryz.prog.built 46 [] = some ((List.replicate 8 nilS).map Str.val).toArray := by kernel_rfl

/-- What is read of bytes, as a result of the reference. -/
def RReadR (w' : World) (o : Option Hdr) (e : Ending) : Prop := match o with
  | some s => ∃ ss : List Str, e = .returned (.tuple #[.agg (ss.map Str.val).toArray, .bool true]) ∧ ss.length = 8 ∧ rowOf ss = s ∧ ∀ s ∈ ss, s.In w'
  | none => e = .returned (.tuple #[.agg ((List.replicate 8 nilS).map Str.val).toArray, .bool false])
structure RGot (wr : World) (i t : Nat) (b : List UInt8) (done : List Str) : Prop where
  len : done.length = i
  go : readGo (8 - i) (rowOf done) (b.drop t) = readH b
  each : ∀ s ∈ done, s.In wr

set_option maxHeartbeats 4000000 in
theorem rread_ok (ao : Option Addr) (n cap : Nat) (b : List UInt8) (w : World) (hb : b.length = n) (hc : n ≤ cap) (hn : n ≤ 700) (hl : Lies w ao (b.map B)) :
    Calls Tryz.prog 30 #[.slice ao n cap] w fun e w' => RReadR w' (readH b) e ∧ Below w.heap.size w w' := by
  obtain ⟨i0, hi, hz0, hz1, hz2⟩ := info_parts Tryz.infoB
  have HI := Lib.hid (And.intro hi (And.intro hz0 (And.intro hz1 hz2)))
  have HN := Lib.hid hb
  have HL := Lib.hid hl
  have HS := Lib.hid (St.start w)
  have hbs := built_slots
  clear hb hl hi hz0 hz1 hz2
  go_enter Tryz.func30, Tryz.ntmps30
  go_wp2_with (refine wpList_var 46 ((List.replicate 8 nilS).map Str.val) _ rfl rfl Tryz.zeroSlots rfl ?_)
  intro w1 hb hbel; have HS := Lib.hid (HS.out.push hb hbel); have hlt1 := hb.lt; clear hb hbel
  go_wp2_with (refine wpList_var 46 ((List.replicate 8 nilS).map Str.val) _ rfl rfl Tryz.zeroSlots rfl ?_)
  intro w2 hb hbel; have HS := Lib.hid (HS.out.push hb hbel); have hlt2 := hb.lt; clear hb hbel
  generalize hbb : w.heap.size = bb at *
  generalize w1.heap.size = bw1 at *
  have HBB := Lib.hid hbb
  clear hbb
  go_wp2
  go_loopw [5, 6] (fun a c wr => ∃ (i t : Nat) (done : List Str), i ≤ 8 ∧ c = .int .i64 i ∧ a = .int .i64 t ∧ t ≤ n ∧ Hid (RGot wr i t b done) ∧ Hid (St w bb wr [(bw1, (done ++ List.replicate (8 - i) nilS).map Str.val, 46), (bb, (List.replicate 8 nilS).map Str.val, 46)])) (fun _ c _ => 8 - (intOf c).toNat)
  case atStart => exact ⟨0, 0, [], by omega, rfl, rfl, by omega, Lib.hid ⟨rfl, rfl, by simp⟩, HS⟩
  case round =>
    clear HS
    obtain ⟨i, t, done, hi, rfl, rfl, htn, HG, HS⟩ := hrel
    by_cases hlt : i < 8
    · obtain ⟨k, hk⟩ : ∃ k, 8 - i = k + 1 := ⟨7 - i, by omega⟩
      by_cases hend : n ≤ t
      · have HR := Lib.hid (show none = readH b ∧ True from ⟨by rw [← HG.out.go, hk, List.drop_of_length_le (by rw [HN.out]; exact hend)]; rfl, trivial⟩)
        have dE : decide ((t : Int) ≥ (n : Int)) = true := by simp; omega
        clear hk
        go_wp2_with (first | (refine wpList_built 46 _ _ _ rfl rfl rfl hbs ?_) | (refine (HS.out.get 1 rfl).wstore rfl rfl rfl (cs := (List.replicate 8 nilS).map Str.val) rfl Tryz.rowSlots rfl rfl (vals_one _) ?_))
        intro w4 hb4 ho4
        have HB := Lib.hid (below_only HS.out.bel ho4 (by omega))
        go_wp2
        refine hb4.result2 rfl rfl rfl rfl Tryz.rowSlots rfl ?_
        rw [← HR.out.1]
        exact ⟨rfl, by first | exact HB.out | (rw [HBB.out]; exact HB.out)⟩
      · have dE : decide ((t : Int) ≥ (n : Int)) = false := by simp; omega
        obtain ⟨x, hx⟩ : ∃ x, b[t]? = some x := ⟨b[t]'(by rw [HN.out]; omega), by simp⟩
        obtain ⟨xb, xo, rfl, hxc⟩ := (HL.out.below (HS.out.old HBB.out)) t (B x) (mapB_at hx)
        obtain ⟨r, hr⟩ : ∃ r, r = b.drop (t + 1) := ⟨_, rfl⟩
        have hdr : b.drop t = x :: r := by
          rw [hr, List.drop_eq_getElem_cons (by rw [HN.out]; omega)]
          congr 1
          exact (List.getElem?_eq_some_iff.1 hx).2
        obtain ⟨m, hm⟩ : ∃ m, m = x.toNat := ⟨_, rfl⟩
        have hm8 : m < 256 := by rw [hm]; exact x.toNat_lt
        have hmi : ((x.toNat : Nat) : Int) = (m : Int) := by rw [hm]
        obtain ⟨d, hd⟩ : ∃ d, d = n - t - 1 := ⟨_, rfl⟩
        have HRL := Lib.hid (show r.length = d by rw [hr, List.length_drop, HN.out]; omega)
        have HGO := Lib.hid (show (if (m ≠ 0 ∧ (m < 17 ∨ 80 < m)) ∨ d < m then none else readGo k (rowOf done ++ [r.take m]) (r.drop m)) = readH b ∧ True from ⟨by rw [← HG.out.go, hk, hdr, readGo_step, ← hm, HRL.out], trivial⟩)
        obtain ⟨t1, ht1⟩ : ∃ t1, t1 = t + 1 := ⟨_, rfl⟩
        have eA : (t : Int) + 1 = (t1 : Int) := by omega
        have eB : (n : Int) - (t : Int) = ((d + 1 : Nat) : Int) := by omega
        have eC : ((d + 1 : Nat) : Int) - 1 = (d : Int) := by omega
        have HRD := Lib.hid (show r = b.drop t1 ∧ True from ⟨by rw [hr, ht1], trivial⟩)
        have hd1 : d + t + 1 ≤ n := by omega
        have hd2 : n ≤ d + t + 1 := by omega
        have ht1a : t1 ≤ t + 1 := by omega
        have ht1b : t + 1 ≤ t1 := by omega
        clear hx hr hdr hm hd ht1
        by_cases hA : 0 < m ∧ m < 17
        · have dP : decide (0 < m) = true := by simp; omega
          have dA : decide ((m : Int) < 17) = true := by simp; omega
          have HR := Lib.hid (show none = readH b ∧ True from ⟨by rw [← HGO.out.1, if_pos (by omega)], trivial⟩)
          clear hk HGO
          go_wp2_with (first | (refine wpList_built 46 _ _ _ rfl rfl rfl hbs ?_) | (refine (HS.out.get 1 rfl).wstore rfl rfl rfl (cs := (List.replicate 8 nilS).map Str.val) rfl Tryz.rowSlots rfl rfl (vals_one _) ?_))
          intro w4 hb4 ho4
          have HB := Lib.hid (below_only HS.out.bel ho4 (by omega))
          go_wp2
          refine hb4.result2 rfl rfl rfl rfl Tryz.rowSlots rfl ?_
          rw [← HR.out.1]
          exact ⟨rfl, by first | exact HB.out | (rw [HBB.out]; exact HB.out)⟩
        · by_cases hB : 80 < m
          · have dP : decide (0 < m) = true := by simp; omega
            have dA : decide ((m : Int) < 17) = false := by simp; omega
            have dB : decide ((m : Int) > 80) = true := by simp; omega
            have HR := Lib.hid (show none = readH b ∧ True from ⟨by rw [← HGO.out.1, if_pos (by omega)], trivial⟩)
            clear hk HGO
            go_wp2_with (first | (refine wpList_built 46 _ _ _ rfl rfl rfl hbs ?_) | (refine (HS.out.get 1 rfl).wstore rfl rfl rfl (cs := (List.replicate 8 nilS).map Str.val) rfl Tryz.rowSlots rfl rfl (vals_one _) ?_))
            intro w4 hb4 ho4
            have HB := Lib.hid (below_only HS.out.bel ho4 (by omega))
            go_wp2
            refine hb4.result2 rfl rfl rfl rfl Tryz.rowSlots rfl ?_
            rw [← HR.out.1]
            exact ⟨rfl, by first | exact HB.out | (rw [HBB.out]; exact HB.out)⟩
          · by_cases hC : d < m
            · have dP : decide (0 < m) = true := by simp; omega
              have dA : decide ((m : Int) < 17) = false := by simp; omega
              have dB : decide ((m : Int) > 80) = false := by simp; omega
              have dC : decide ((m : Int) > (d : Int)) = true := by simp; omega
              have HR := Lib.hid (show none = readH b ∧ True from ⟨by rw [← HGO.out.1, if_pos (by omega)], trivial⟩)
              clear hk HGO
              go_wp2_with (first | (refine wpList_built 46 _ _ _ rfl rfl rfl hbs ?_) | (refine (HS.out.get 1 rfl).wstore rfl rfl rfl (cs := (List.replicate 8 nilS).map Str.val) rfl Tryz.rowSlots rfl rfl (vals_one _) ?_))
              intro w4 hb4 ho4
              have HB := Lib.hid (below_only HS.out.bel ho4 (by omega))
              go_wp2
              refine hb4.result2 rfl rfl rfl rfl Tryz.rowSlots rfl ?_
              rw [← HR.out.1]
              exact ⟨rfl, by first | exact HB.out | (rw [HBB.out]; exact HB.out)⟩
            · have dB : decide ((m : Int) > 80) = false := by simp; omega
              have dC : decide ((m : Int) > (d : Int)) = false := by simp; omega
              have HGO := Lib.hid (show readGo k (rowOf done ++ [r.take m]) (r.drop m) = readH b ∧ True from ⟨by rw [← HGO.out.1, if_neg (by omega)], trivial⟩)
              have HTL := Lib.hid (show (r.take m).length = m by rw [List.length_take, HRL.out]; omega)
              obtain ⟨t2, ht2⟩ : ∃ t2, t2 = t1 + m := ⟨_, rfl⟩
              have eD : (t1 : Int) + (m : Int) = (t2 : Int) := by omega
              have hcut := fun w => run_cut (P := Tryz.prog) w 22 5 Tryz.underlying22 (run_size _ i0 1 HI.out.1 HI.out.2.2.1) (some ⟨xb, xo, none⟩) n cap t1 t2 (t1 : Int) (t2 : Int) rfl rfl (by omega) (by omega)
              rw [show t2 - t1 = m by omega] at hcut
              have HLT := Lib.hid (show Lies w (cutAddr (some ⟨xb, xo, none⟩) cap t1) ((r.take m).map B) by
                have := (Lies.dropA HL.out (by rw [HN.out]; exact hc) t1).take m
                rw [← HRD.out.1] at this
                rwa [← List.map_take] at this)
              have HTD := Lib.hid (show r.drop m = b.drop t2 ∧ True from ⟨by rw [HRD.out.1, List.drop_drop, ht2], trivial⟩)
              have ht2a : t2 ≤ t1 + m := by omega
              have ht2b : t1 + m ≤ t2 := by omega
              have HK7 := Lib.hid (show 8 - (i + 1) = k ∧ True from ⟨by omega, trivial⟩)
              clear ht2 hk
              by_cases h0 : m = 0
              · have dP : decide (0 < m) = false := by simp; omega
                clear h0
                go_wp2_with (at_builtin; refine wpList_append_any rfl (.tmp 43) (.tmp 51) 22 rfl wr.heap.size 5 i0 (.int .u8 0) 1 Tryz.underlying22 HI.out.1 HI.out.2.1 HI.out.2.2.1 HI.out.2.2.2 rfl _ _ _ rfl (World.ownsRow_made (size := 1) (e := 5) (base := wr.heap.size) wr #[] 0 (Nat.le_refl _) (by simp [maxLen]) (by simp)) (cutAddr (some ⟨xb, xo, none⟩) cap t1) m (cap - t1) ((r.take m).map B) rfl (by rw [List.length_map]; exact HTL.out) (HLT.out.below ((HS.out.old HBB.out).trans ((later_alloc wr _).mono (by rw [HBB.out]; exact HS.out.size)))) (oneCell_B _) (by unfold maxLen; omega) (by omega) (by simp) ?_)
                intro v5 w5 hown5 hg5
                have hbel5 := below_append (later_alloc wr (.cells #[] 5)) (World.ownsRow_made (size := 1) (e := 5) (base := wr.heap.size) wr #[] 0 (Nat.le_refl _) (by simp [maxLen]) (by simp)) hg5 (Nat.le_refl _) (by simp)
                have hown5 : w5.ownsRow wr.heap.size 5 1 v5 m ((r.take m).map B) := by first | simpa using hown5 | (rw [List.map_take]; simpa using hown5)
                obtain ⟨a5, c5, rfl, hc5, _, hl5⟩ := own_form hown5
                have HSI := Lib.hid (show Str.In w5 ⟨a5, c5, r.take m⟩ from ⟨by rw [HTL.out]; exact hc5, hl5⟩)
                have HG5 := Lib.hid (show ∀ s ∈ done, s.In w5 from fun s hs => (HG.out.each s hs).below hbel5)
                have HS := Lib.hid (HS.out.later hbel5)
                clear hown5 hg5 hbel5 hl5
                go_wp2_with (refine (HS.out.get 0 rfl).wset (i := i) (v := .slice a5 m c5) rfl rfl rfl rfl Tryz.size22 rfl rfl (by simp [HG.out.len]; omega) ?_)
                intro w6 hb6 ho6
                have hdl : done.length = i := HG.out.len
                have hv : Str.val (Str.mk a5 c5 (r.take m)) = .slice a5 m c5 := by unfold Str.val; rw [HTL.out]
                have hset : (done.map Str.val ++ List.replicate (8 - i) nilS.val).set i (.slice a5 m c5) = ((done ++ [Str.mk a5 c5 (r.take m)]) ++ List.replicate (8 - (i + 1)) nilS).map Str.val := by
                  rw [show 8 - i = (8 - (i + 1)) + 1 by omega, List.replicate_succ, List.set_append_right _ _ (by simp; omega), List.length_map, hdl, Nat.sub_self, List.set_cons_zero, List.map_append, List.map_append, List.map_cons, List.map_nil, hv, List.map_replicate, List.append_assoc]
                  rfl
                have hb6 : Blk w6 bw1 (((done ++ [Str.mk a5 c5 (r.take m)]) ++ List.replicate (8 - (i + 1)) nilS).map Str.val) 46 := by rw [← hset]; simpa using hb6
                clear hset hv hdl
                have HG := Lib.hid (show RGot w6 (i + 1) t2 b (done ++ [⟨a5, c5, r.take m⟩]) from ⟨by rw [List.length_append, HG.out.len]; rfl, by rw [HK7.out.1, ← HTD.out.1, ← HGO.out.1]; simp [rowOf], by
                  intro s hs
                  rcases List.mem_append.1 hs with hs | hs
                  · exact (HG5.out s hs).only (HS.out.get 0 rfl) (B_vals _) ho6
                  · obtain rfl : s = _ := List.mem_singleton.1 hs
                    exact HSI.out.only (HS.out.get 0 rfl) (B_vals _) ho6⟩)
                have HS := Lib.hid (HS.out.change 0 hb6 ho6 (by omega) (by simp; omega))
                clear hb6 ho6
                go_wp2
                go_roundw
                case rel => exact ⟨i + 1, t2, _, by omega, by go_num, rfl, by omega, HG, HS⟩
                case measure => simp [intOf]; omega
              · have dP : decide (0 < m) = true := by simp; omega
                have dA : decide ((m : Int) < 17) = false := by simp; omega
                clear h0
                go_wp2_with (at_builtin; refine wpList_append_any rfl (.tmp 43) (.tmp 51) 22 rfl wr.heap.size 5 i0 (.int .u8 0) 1 Tryz.underlying22 HI.out.1 HI.out.2.1 HI.out.2.2.1 HI.out.2.2.2 rfl _ _ _ rfl (World.ownsRow_made (size := 1) (e := 5) (base := wr.heap.size) wr #[] 0 (Nat.le_refl _) (by simp [maxLen]) (by simp)) (cutAddr (some ⟨xb, xo, none⟩) cap t1) m (cap - t1) ((r.take m).map B) rfl (by rw [List.length_map]; exact HTL.out) (HLT.out.below ((HS.out.old HBB.out).trans ((later_alloc wr _).mono (by rw [HBB.out]; exact HS.out.size)))) (oneCell_B _) (by unfold maxLen; omega) (by omega) (by simp) ?_)
                intro v5 w5 hown5 hg5
                have hbel5 := below_append (later_alloc wr (.cells #[] 5)) (World.ownsRow_made (size := 1) (e := 5) (base := wr.heap.size) wr #[] 0 (Nat.le_refl _) (by simp [maxLen]) (by simp)) hg5 (Nat.le_refl _) (by simp)
                have hown5 : w5.ownsRow wr.heap.size 5 1 v5 m ((r.take m).map B) := by first | simpa using hown5 | (rw [List.map_take]; simpa using hown5)
                obtain ⟨a5, c5, rfl, hc5, _, hl5⟩ := own_form hown5
                have HSI := Lib.hid (show Str.In w5 ⟨a5, c5, r.take m⟩ from ⟨by rw [HTL.out]; exact hc5, hl5⟩)
                have HG5 := Lib.hid (show ∀ s ∈ done, s.In w5 from fun s hs => (HG.out.each s hs).below hbel5)
                have HS := Lib.hid (HS.out.later hbel5)
                clear hown5 hg5 hbel5 hl5
                go_wp2_with (refine (HS.out.get 0 rfl).wset (i := i) (v := .slice a5 m c5) rfl rfl rfl rfl Tryz.size22 rfl rfl (by simp [HG.out.len]; omega) ?_)
                intro w6 hb6 ho6
                have hdl : done.length = i := HG.out.len
                have hv : Str.val (Str.mk a5 c5 (r.take m)) = .slice a5 m c5 := by unfold Str.val; rw [HTL.out]
                have hset : (done.map Str.val ++ List.replicate (8 - i) nilS.val).set i (.slice a5 m c5) = ((done ++ [Str.mk a5 c5 (r.take m)]) ++ List.replicate (8 - (i + 1)) nilS).map Str.val := by
                  rw [show 8 - i = (8 - (i + 1)) + 1 by omega, List.replicate_succ, List.set_append_right _ _ (by simp; omega), List.length_map, hdl, Nat.sub_self, List.set_cons_zero, List.map_append, List.map_append, List.map_cons, List.map_nil, hv, List.map_replicate, List.append_assoc]
                  rfl
                have hb6 : Blk w6 bw1 (((done ++ [Str.mk a5 c5 (r.take m)]) ++ List.replicate (8 - (i + 1)) nilS).map Str.val) 46 := by rw [← hset]; simpa using hb6
                clear hset hv hdl
                have HG := Lib.hid (show RGot w6 (i + 1) t2 b (done ++ [⟨a5, c5, r.take m⟩]) from ⟨by rw [List.length_append, HG.out.len]; rfl, by rw [HK7.out.1, ← HTD.out.1, ← HGO.out.1]; simp [rowOf], by
                  intro s hs
                  rcases List.mem_append.1 hs with hs | hs
                  · exact (HG5.out s hs).only (HS.out.get 0 rfl) (B_vals _) ho6
                  · obtain rfl : s = _ := List.mem_singleton.1 hs
                    exact HSI.out.only (HS.out.get 0 rfl) (B_vals _) ho6⟩)
                have HS := Lib.hid (HS.out.change 0 hb6 ho6 (by omega) (by simp; omega))
                clear hb6 ho6
                go_wp2
                go_roundw
                case rel => exact ⟨i + 1, t2, _, by omega, by go_num, rfl, by omega, HG, HS⟩
                case measure => simp [intOf]; omega
    · obtain rfl : i = 8 := by omega
      have HGO := Lib.hid (show (if (b.drop t).length = 0 then some (rowOf done) else none) = readH b ∧ True from ⟨by rw [← HG.out.go]; rfl, trivial⟩)
      have HS := Lib.hid (show St w bb wr [(bw1, done.map Str.val, 46), (bb, (List.replicate 8 nilS).map Str.val, 46)] from by have := HS.out; simpa using this)
      by_cases h0 : t = n
      · have d0 : ((t : Int) != (n : Int)) = false := by simp; omega
        have HML := Lib.hid (show (done.map Str.val).length = 8 by rw [List.length_map]; exact HG.out.len)
        have HR := Lib.hid (show some (rowOf done) = readH b ∧ True from ⟨by rw [← HGO.out.1, if_pos (by rw [List.length_drop, HN.out]; omega)], trivial⟩)
        go_wp2_with (first | (refine (HS.out.get 0 rfl).wload rfl rfl rfl Tryz.rowSlots HML.out ?_) | (refine (HS.out.get 1 rfl).wstore rfl rfl rfl (cs := done.map Str.val) rfl Tryz.rowSlots rfl HML.out (vals_one _) ?_))
        intro w4 hb4 ho4
        have HB := Lib.hid (below_only HS.out.bel ho4 (by omega))
        have HE := Lib.hid (show ∀ s ∈ done, s.In w4 from fun s hs => (HG.out.each s hs).only (HS.out.get 1 rfl) (B_vals _) ho4)
        go_wp2
        refine hb4.result2 rfl rfl rfl rfl Tryz.rowSlots HML.out ?_
        rw [← HR.out.1]
        exact ⟨⟨done, rfl, HG.out.len, rfl, HE.out⟩, by first | exact HB.out | (rw [HBB.out]; exact HB.out)⟩
      · have d0 : ((t : Int) != (n : Int)) = true := by simp; omega
        have HR := Lib.hid (show none = readH b ∧ True from ⟨by rw [← HGO.out.1, if_neg (by rw [List.length_drop, HN.out]; omega)], trivial⟩)
        go_wp2_with (first | (refine wpList_built 46 _ _ _ rfl rfl rfl hbs ?_) | (refine (HS.out.get 1 rfl).wstore rfl rfl rfl (cs := (List.replicate 8 nilS).map Str.val) rfl Tryz.rowSlots rfl rfl (vals_one _) ?_))
        intro w4 hb4 ho4
        have HB := Lib.hid (below_only HS.out.bel ho4 (by omega))
        go_wp2
        refine hb4.result2 rfl rfl rfl rfl Tryz.rowSlots rfl ?_
        rw [← HR.out.1]
        exact ⟨rfl, by first | exact HB.out | (rw [HBB.out]; exact HB.out)⟩

end Go.Proofs.YtnkaodjfjllkfaaGreatDoor
/-
  The walks of the reference's Used, of 'awake', of SlotsReads.
-/
set_option linter.unusedSimpArgs false
set_option linter.unusedVariables false
namespace Go.Cells
open Go.RowKit
section
variable {P : Program} {ops : Array Oper} {Q : Exit → Act → World → Prop}
/-- 'walkR_load' of an operation with a guard. -/
theorem walkR_loadG {i : Nat} {r : List Nat} {o : Oper} {a : Act} {w : World} {ty : TypeId} {x : Operand} {b off n : Nat} {vs : List Value} (h : w.rangeAt b off vs) (hb : b < w.heap.size) (hr : Row P ty n) (hn : vs.length = n)
    (ho : ops[i]? = some o) (hw : Region.wanted o (yielded ops a.tmps) = true) (hop : o.op = .load ty x) (hx : a.eval x = .pointer (some ⟨b, off, none⟩))
    (k : ∀ K : Act → Prop, (∀ a', walkR P ops Q r a' w → K a') → K (a.put o.dst (.agg vs.toArray))) : walkR P ops Q (i :: r) a w :=
  walkR_yes ho (by unfold Oper.kindR; rw [hop]) hw (fun w' hw' => run_load_op hop hx hr hn (rangeAt_below h hw' hb)) k
end
end Go.Cells
namespace Go.Proofs.YtnkaodjfjllkfaaGreatDoor
open Go.RowKit Go.Mem Go.Ops Go.Cells Go.Oct Go.Gf Go.Trn Go.Aes Go.Ring Go.Ezk Go.Ezh Go.Ezt Go.Aez Go.Blake Go.CutP Go.Fl Go.Slot
set_option linter.unusedSimpArgs false
set_option linter.unusedVariables false
set_option maxRecDepth 100000
attribute [local irreducible] walkR walkP walk0 walkB walkK

/-- A reference header's cells. -/
def refV (ss : List Str) : List Value := (zeros 512).map B ++ ss.map Str.val
theorem list8 {α : Type} {l : List α} (h : l.length = 8) : ∃ a0 a1 a2 a3 a4 a5 a6 a7, l = [a0, a1, a2, a3, a4, a5, a6, a7] := by
  match l, h with
  | [a0, a1, a2, a3, a4, a5, a6, a7], _ => exact ⟨_, _, _, _, _, _, _, _, rfl⟩
theorem built_ref (ss : List Str) (h : ss.length = 8) : Tryz.prog.built 48 [(1, .agg (ss.map Str.val).toArray)] = some (refV ss).toArray := by
  obtain ⟨a0, a1, a2, a3, a4, a5, a6, a7, rfl⟩ := list8 h
  kernel_rfl

set_option maxHeartbeats 2000000 in
theorem rused_ok (ss : List Str) (w : World) (hlen : ss.length = 8) :
    Calls Tryz.prog 28 #[.agg (refV ss).toArray] w fun e w' => ∃ v, e = .returned v ∧ w'.ownsRow w.heap.size 3 1 v (usedH (rowOf ss)).length ((usedH (rowOf ss)).map N64) ∧ Below w.heap.size w w' := by
  obtain ⟨i0, hi, hz0, hz1, hz2⟩ := info_parts Tryz.infoI
  have HI := Lib.hid (And.intro hi (And.intro hz0 (And.intro hz1 hz2)))
  have HLEN := Lib.hid hlen
  obtain ⟨V, hV⟩ : ∃ V, V = refV ss := ⟨_, rfl⟩
  have HV := Lib.hid (show V = refV ss ∧ True from ⟨hV, trivial⟩)
  rw [← hV]
  clear hlen hi hz0 hz1 hz2 hV
  go_enter Tryz.func28, Tryz.ntmps28
  go_wp2_with (refine wpList_box 48 _ V _ rfl rfl rfl rfl ?_)
  intro w1 hb1 hbel1
  have HB1 := Lib.hid hb1
  have HBE := Lib.hid hbel1
  have hz1 := hbel1.size
  clear hb1 hbel1
  go_wp2
  generalize hbb : w.heap.size = bb at *
  have HBB := Lib.hid hbb
  clear hbb
  go_loopw [3, 4] (fun v c wr => ∃ i : Nat, i ≤ 8 ∧ c = .int .i64 i ∧ Hid (wr.ownsRow w1.heap.size 3 1 v (usedH (rowOf (ss.take i))).length ((usedH (rowOf (ss.take i))).map N64)) ∧ Hid (Below w1.heap.size w1 wr)) (fun _ c _ => 8 - (intOf c).toNat)
  case atStart => exact ⟨0, by omega, rfl, Lib.hid (by simpa [usedH, usedGo, rowOf] using nil_owns w1 w1.heap.size _ 1), Lib.hid (Below.refl _ _)⟩
  case round =>
    obtain ⟨i, hi, rfl, HO, HB⟩ := hrel
    by_cases hlt : i < 8
    · obtain ⟨s, hs⟩ : ∃ s, ss[i]? = some s := ⟨ss[i]'(by rw [HLEN.out]; exact hlt), by simp⟩
      have hcell := (HB1.out.below HB.out HB1.out.lt).cell (512 + i) s.val (by rw [HV.out.1]; unfold refV; rw [List.getElem?_append_right (by simp [zeros_length])]; simp [zeros_length, hs])
      unfold Str.val at hcell
      have HST := Lib.hid (show usedH (rowOf (ss.take (i + 1))) = (if s.bs.length = 0 then usedH (rowOf (ss.take i)) else usedH (rowOf (ss.take i)) ++ [i]) ∧ True from ⟨by
        rw [rowOf_take hs]
        unfold usedH
        rw [usedGo_snoc]
        have : (rowOf (ss.take i)).length = i := by simp [rowOf, HLEN.out]; omega
        rw [this, Nat.zero_add], trivial⟩)
      have hul : (usedH (rowOf (ss.take i))).length ≤ 8 := by
        refine Nat.le_trans (usedGo_le _ 0) ?_
        simp [rowOf]; omega
      obtain ⟨n, hn⟩ : ∃ n, n = (usedH (rowOf (ss.take i))).length := ⟨_, rfl⟩
      rw [← hn] at HO hul
      obtain ⟨m, hm⟩ : ∃ m, m = s.bs.length := ⟨_, rfl⟩
      rw [← hm] at hcell HST
      by_cases h0 : m = 0
      · have d0 : decide (0 < m) = false := by simp; omega
        rw [if_pos h0] at HST
        have HO2 := Lib.hid (show wr.ownsRow w1.heap.size 3 1 u3 (usedH (rowOf (ss.take (i + 1)))).length ((usedH (rowOf (ss.take (i + 1)))).map N64) from by rw [HST.out.1, ← hn]; exact HO.out)
        clear hs hn HO h0 hm
        go_wp2
        go_roundw
        case rel => exact ⟨i + 1, by omega, by go_num, HO2, HB⟩
        case measure => simp [intOf]; omega
      · have d0 : decide (0 < m) = true := by simp; omega
        rw [if_neg h0] at HST
        have HNN := Lib.hid (show (usedH (rowOf (ss.take (i + 1)))).length = n + 1 from by rw [HST.out.1]; simp [hn])
        clear hs hn hm h0
        go_wp2_with (at_builtin; refine wpList_append_any rfl (.tmp 15) (.tmp 17) 59 rfl w1.heap.size 3 i0 (.int .i64 0) 8 Tryz.underlying59 HI.out.1 HI.out.2.1 HI.out.2.2.1 HI.out.2.2.2 rfl _ _ _ rfl (own_below HO.out (later_alloc wr _)) _ 1 1 [.int .i64 (i : Int)] rfl rfl (Blk.new wr [.int .i64 (i : Int)] 3).lies (by simp [Value.oneCell']) (by unfold maxLen; omega) (by omega) (by have := HB.out.size; simp; omega) ?_)
        intro v5 w5 hown5 hg5
        have hbA : Below w1.heap.size w1 (wr.alloc (.cells #[.int .i64 (i : Int)] 3)) := HB.out.trans ((later_alloc wr _).mono HB.out.size)
        have HB5 := Lib.hid (below_append hbA (own_below HO.out (later_alloc wr _)) hg5 (Nat.le_refl _) (by have := hbA.size; exact this))
        have HO5 := Lib.hid (show w5.ownsRow w1.heap.size 3 1 v5 (usedH (rowOf (ss.take (i + 1)))).length ((usedH (rowOf (ss.take (i + 1)))).map N64) by
          rw [HNN.out, HST.out.1, List.map_append]; exact hown5)
        clear hown5 hg5 hbA
        go_wp2
        go_roundw
        case rel => exact ⟨i + 1, by omega, by go_num, HO5, HB5⟩
        case measure => simp [intOf]; omega
    · obtain rfl : i = 8 := by omega
      rw [List.take_of_length_le (by rw [HLEN.out]; exact Nat.le_refl _)] at HO
      have HO := Lib.hid (own_le HO.out hz1)
      go_wp2
      go_ret
      exact ⟨_, rfl, by first | exact HO.out | (rw [HBB.out]; exact HO.out), by first | exact HBE.out.trans (HB.out.mono hz1) | (rw [HBB.out]; exact HBE.out.trans (HB.out.mono hz1))⟩

theorem okay_laid2 : Okay laid2 := by
  intro b hb
  have h : laid2 = [[], [], sealS 2 door five, [], [], [], [], []] := rfl
  rw [h] at hb
  simp at hb
  rcases hb with rfl | rfl | rfl
  · exact .inl rfl
  · exact .inr (by rw [sealS_length]; decide)
  · exact .inl rfl
theorem lies_mark (w : World) (xs : List Value) (ty : TypeId) (fr : Nat × Nat) : Lies (w.alloc (.cells xs.toArray ty fr)) (some ⟨w.heap.size, 0, none⟩) xs := by
  intro j u hu
  refine ⟨w.heap.size, 0, rfl, ?_⟩
  rw [World.cell?_alloc_mark, Nat.zero_add]
  simpa using hu
/-- The cells of the example's password. -/
def doorC : Array Value := #[.int .u8 100, .int .u8 111, .int .u8 111, .int .u8 114]
theorem conv_door (w : World) : (convert 22 22 (.slice (some ⟨w.heap.size, 0, none⟩) 4 4)).run Tryz.prog (w.alloc (.cells #[.int .u8 100, .int .u8 111, .int .u8 111, .int .u8 114] 5)) = .ok (.slice (some ⟨w.heap.size, 0, none⟩) 4 4) (w.alloc (.cells #[.int .u8 100, .int .u8 111, .int .u8 111, .int .u8 114] 5 (4, 5))) :=
  Joins.run_convert_bytes_const_at w 22 5 #[.int .u8 100, .int .u8 111, .int .u8 111, .int .u8 114] 4 4 w.heap.size rfl Tryz.underlying22 Tryz.underlying5

set_option maxHeartbeats 4000000 in
theorem awake_ok (w : World) (hg : Globals w) (hbg : BGlob w) : Calls Tryz.prog 16 #[] w fun e w' => e = .returned (.bool true) ∧ Below w.heap.size w w' := by
  have HG := Lib.hid hg
  have HBG := Lib.hid hbg
  clear hg hbg
  go_enter Tryz.func16, Tryz.ntmps16
  go_wp2_with fail
  refine (tables_ok _ HG.out).mono ?_
  rintro e w1 ⟨q, p, rfl, ht, hbel⟩
  have HT := Lib.hid ht
  have HB := Lib.hid hbel
  clear ht hbel
  have hcv := conv_door
  go_wp2_with fail
  refine (hnew_ok' q p _ HT.out).mono ?_
  rintro e w2 ⟨hp, rfl, hh, hle, hbel⟩
  have HH := Lib.hid hh
  have hle' : w.heap.size ≤ hp := Nat.le_trans HB.out.size hle
  have HB := Lib.hid (HB.out.trans (hbel.mono HB.out.size))
  clear hh hbel hle
  go_wp2_with fail
  generalize hw3 : w2.alloc (.cells #[.int .u8 100, .int .u8 111, .int .u8 111, .int .u8 114] 5 (4, 5)) = w3
  have hz3 : w2.heap.size + 1 = w3.heap.size := by rw [← hw3]; simp
  have HP3 := Lib.hid (show Lies w3 (some ⟨w2.heap.size, 0, none⟩) (door.map B) by rw [← hw3]; exact lies_mark w2 [.int .u8 100, .int .u8 111, .int .u8 111, .int .u8 114] 5 (4, 5))
  have HA3 := Lib.hid (show Below w2.heap.size w2 w3 by rw [← hw3]; exact later_alloc w2 _)
  rw [hz3]
  generalize hw4 : w3.alloc (.cells #[.int .u8 1, .int .u8 2, .int .u8 3, .int .u8 4, .int .u8 5] 5) = w4
  have HF4 := Lib.hid (show Lies w4 (some ⟨w3.heap.size, 0, none⟩) (five.map B) by rw [← hw4]; exact (Blk.new w3 [.int .u8 1, .int .u8 2, .int .u8 3, .int .u8 4, .int .u8 5] 5).lies)
  have HA4 := Lib.hid (show Below w3.heap.size w3 w4 by rw [← hw4]; exact later_alloc w3 _)
  have HB := Lib.hid ((HB.out.trans (HA3.out.mono HB.out.size)).trans (HA4.out.mono (Nat.le_trans HB.out.size HA3.out.size)))
  have HH := Lib.hid ((HH.out.later HA3.out).later HA4.out)
  have HP4 := Lib.hid (HP3.out.below HA4.out)
  clear hw3 hw4 HP3 HA3 HA4
  refine (lay_ok hp q p (List.replicate 8 nilS) 2 _ 4 4 door _ 5 5 five _ HH.out (HBG.out.below HB.out) (by omega) rfl (by omega) (by omega) (by omega) HP4.out rfl (by omega) (by omega) (by omega) HF4.out).mono ?_
  rintro e w5 ⟨rfl, ⟨s, hh5, hsb⟩, hwr⟩
  have HH := Lib.hid hh5
  have HRO := Lib.hid (show rowOf ((List.replicate 8 nilS).set 2 s) = laid2 ∧ True from ⟨by
    show [[], [], s.bs, [], [], [], [], []] = _
    rw [hsb]; rfl, trivial⟩)
  have HSB := Lib.hid (show s.bs.length = 21 by rw [hsb, sealS_length]; rfl)
  have HB := Lib.hid (hwr.below HB.out hle' HB.out.size)
  clear hh5 hsb hwr HP4 HF4 hz3
  go_wp2_with fail
  generalize hw6 : w5.alloc (.cells #[.int .u8 100, .int .u8 111, .int .u8 111, .int .u8 114] 5 (4, 5)) = w6
  have HP6 := Lib.hid (show Lies w6 (some ⟨w5.heap.size, 0, none⟩) (door.map B) by rw [← hw6]; exact lies_mark w5 [.int .u8 100, .int .u8 111, .int .u8 111, .int .u8 114] 5 (4, 5))
  have HA6 := Lib.hid (show Below w5.heap.size w5 w6 by rw [← hw6]; exact later_alloc w5 _)
  have HH := Lib.hid (HH.out.later HA6.out)
  have HB := Lib.hid (HB.out.trans (HA6.out.mono HB.out.size))
  clear hw6 HA6
  refine (find_ok hp q p _ _ 4 4 door _ HH.out (HBG.out.below HB.out) (by
    intro t ht
    rcases List.mem_or_eq_of_mem_set ht with ht | rfl
    · obtain rfl := List.eq_of_mem_replicate ht
      exact .inl rfl
    · exact .inr (by rw [HSB.out]; omega)) rfl (by omega) (by omega) (by omega) HP6.out).mono ?_
  rintro e w7 ⟨hfi, hbel⟩
  rw [HRO.out.1, find2] at hfi
  obtain ⟨a7, rfl, hl7⟩ := hfi
  have HL7 := Lib.hid hl7
  have HB := Lib.hid (HB.out.trans (hbel.mono HB.out.size))
  have HH := Lib.hid (HH.out.later hbel)
  rw [show five.length = 5 from rfl]
  clear hl7 hbel HP6
  go_wp2_with fail
  refine (hbytes_ok hp q p _ _ HH.out (by rw [HRO.out.1]; exact okay_laid2)).mono ?_
  rintro e w8 ⟨v8, rfl, hown8, hbel⟩
  rw [HRO.out.1, bytes2] at hown8
  obtain ⟨a8, c8, rfl, _, _, hl8⟩ := own_form hown8
  obtain ⟨b8, o8, rfl, _, hc8⟩ := hl8.at (by intro e; have := congrArg List.length e; simp [bytes2] at this)
  have hc8 := hc8 2 (B 21) (by rw [List.getElem?_map, bytes2_at]; rfl)
  have HL7 := Lib.hid (HL7.out.below hbel)
  have HB := Lib.hid (HB.out.trans (hbel.mono HB.out.size))
  clear hl8 hown8 hbel
  have F1 := string_ok w8 a7 5 5 five rfl HL7.out
  have F2 := string_ok (w8.alloc (.cells #[.int .u8 1, .int .u8 2, .int .u8 3, .int .u8 4, .int .u8 5] 5)) (some ⟨w8.heap.size, 0, none⟩) 5 5 five rfl (show Lies _ _ (five.map B) from (Blk.new w8 [.int .u8 1, .int .u8 2, .int .u8 3, .int .u8 4, .int .u8 5] 5).lies)
  have hc9 := (World.cell?_alloc_lt w8 (.cells #[.int .u8 1, .int .u8 2, .int .u8 3, .int .u8 4, .int .u8 5] 5) ⟨b8, o8 + 2, none⟩ (block_lt_of_cell hc8)).trans hc8
  generalize str five = s5 at *
  go_wp2
  go_ret
  exact ⟨rfl, HB.out.alloc HB.out.size _⟩

end Go.Proofs.YtnkaodjfjllkfaaGreatDoor
/-
  Plain facts on memory: bytes and acts of a header that came in. No program.
-/
namespace Go.Open
open Go.RowKit Go.Mem Go.Ops Go.Cells Go.Oct Go.ChangeShapes Go.WideShapes
set_option linter.unusedSimpArgs false
set_option linter.unusedVariables false

/-- Rows of n values behind an address. -/
structure VRows (n : Nat) (w : World) (ao : Option Addr) (vs : List (List Value)) : Prop where
  each : ∀ v ∈ vs, v.length = n
  lies : Lies w ao vs.flatten

theorem vflat_at (n : Nat) : ∀ (vs : List (List Value)) (i j : Nat) (v : List Value), (∀ v ∈ vs, v.length = n) → vs[i]? = some v → j < n → vs.flatten[n * i + j]? = v[j]?
  | [], i, j, v, _, hi, _ => by cases hi
  | x :: vs, 0, j, v, hv, hi, hj => by
    simp at hi; subst hi
    have := hv x (by simp)
    rw [List.flatten_cons, Nat.mul_zero, Nat.zero_add, List.getElem?_append_left (by omega)]
  | x :: vs, i + 1, j, v, hv, hi, hj => by
    have := hv x (by simp)
    rw [List.getElem?_cons_succ] at hi
    rw [List.flatten_cons, List.getElem?_append_right (by rw [Nat.mul_succ]; omega), this, show n * (i + 1) + j - n = n * i + j by rw [Nat.mul_succ]; omega]
    exact vflat_at n vs i j v (fun u hu => hv u (List.mem_cons_of_mem _ hu)) hi hj

theorem vflat_length (n : Nat) : ∀ vs : List (List Value), (∀ v ∈ vs, v.length = n) → vs.flatten.length = vs.length * n
  | [], _ => by simp
  | x :: vs, hv => by
    rw [List.flatten_cons, List.length_append, hv x (by simp), vflat_length n vs (fun u hu => hv u (List.mem_cons_of_mem _ hu)), List.length_cons, Nat.add_mul]
    omega

theorem VRows.below {n : Nat} {w w' : World} {ao : Option Addr} {vs : List (List Value)} (h : VRows n w ao vs) (hb : Below w.heap.size w w') : VRows n w' ao vs := ⟨h.each, h.lies.below hb⟩
theorem VRows.nil (n : Nat) (w : World) (ao : Option Addr) : VRows n w ao [] := ⟨by simp, Lies.nil _ _⟩
theorem VRows.range {n : Nat} {w : World} {ao : Option Addr} {vs : List (List Value)} (h : VRows n w ao vs) (hn : 0 < n) {i : Nat} {v : List Value} (hi : vs[i]? = some v) :
    ∃ b off, ao = some ⟨b, off, none⟩ ∧ b < w.heap.size ∧ w.rangeAt b (off + i * n) v := by
  have hk := h.each v (List.mem_of_getElem? hi)
  have hat : ∀ j u, v[j]? = some u → vs.flatten[n * i + j]? = some u := fun j u hu => by
    have hj : j < n := by
      rcases Nat.lt_or_ge j n with h | h
      · exact h
      · rw [List.getElem?_eq_none (by omega)] at hu; cases hu
    rw [vflat_at n vs i j v h.each hi hj]
    exact hu
  obtain ⟨b, off, rfl, hc⟩ := h.lies _ _ (hat 0 (v[0]'(by omega)) (by simp))
  refine ⟨b, off, rfl, block_lt_of_cell hc, fun j u hu => ?_⟩
  obtain ⟨b', off', e, hc'⟩ := h.lies _ _ (hat j u hu)
  cases e
  rw [show off + i * n + j = off + (n * i + j) by rw [Nat.mul_comm i n]; omega]
  exact hc'

/-- A slice of structs whose fields are one cell each, opened. -/
theorem open_rows {H : Type} {enc : TypeId × Value → H} {P : Program} {w : World} {base : Nat} {spare : Nat → Bool} {held : Bool} {t e : TypeId} {fs : Array Field} {fuel C : Nat} {cs : List Value} {x : DataW H × List MemPlace}
    (ht : P.underlying t = some (.slice e)) (he : P.underlying e = some (.struct fs)) (hC : P.cellsOf e = C) (hC0 : 0 < C) (h : DataW.trod enc P w base spare held fuel t cs = some x) :
    ∃ (ao : Option Addr) (len cap : Nat) (vs : List (List Value)), cs = [.slice ao len cap] ∧ vs.length = len ∧ len ≤ cap ∧ cap ≤ maxLen ∧ VRows C w ao vs ∧
      ∀ v ∈ vs, ∃ n, ∀ (i : Nat) (f : Field), fs[i]? = some f → ∃ y, DataW.trod enc P w base spare held n f.type ((v.drop f.offset).take (P.cellsOf f.type)) = some y := by
  rcases Go.Deep.open_slice ht h with ⟨rfl, _⟩ | ⟨a, len, cap, m, n, D, Pl, rfl, hb, hl, hm, hmm, rfl, hx⟩
  · exact ⟨none, 0, 0, [], rfl, rfl, Nat.le_refl _, by simp [maxLen], VRows.nil _ _ _, by simp⟩
  have hlm : len ≤ m := by rw [hmm]; split <;> omega
  have each : ∀ i, i < len → ∃ v : List Value, v.length = C ∧ (∀ j u, v[j]? = some u → w.cell? (a.add (i * C + j)) = some u) ∧
      ∃ n, ∀ (i : Nat) (f : Field), fs[i]? = some f → ∃ y, DataW.trod enc P w base spare held n f.type ((v.drop f.offset).take (P.cellsOf f.type)) = some y := by
    intro i hi
    obtain ⟨cs', h1, h2⟩ := hx i (by omega)
    rw [hC] at h1
    obtain ⟨_, hlen, hcell⟩ := World.cells?_some h1
    obtain ⟨xs, k, hk, hxy, _, hxl, hf⟩ := DataW.trod_struct he h2
    refine ⟨cs', hlen, fun j u hu => ?_, k, fun i f hfi => ?_⟩
    · have hj : j < C := by
        rcases Nat.lt_or_ge j C with h | h
        · exact h
        · rw [List.getElem?_eq_none (by omega)] at hu; cases hu
      have := hcell j hj
      rw [Go.Deep.add_add] at this
      rw [this, hu]
    · have hi' : i < xs.length := by
        rw [hxl]
        exact (Array.getElem?_eq_some_iff.1 hfi).1
      refine ⟨xs[i], ?_⟩
      rw [hf i f hfi]
      simp [hi']
  obtain ⟨V, hV⟩ := Go.Deep.choose_lt each
  refine ⟨some a, len, cap, (List.range len).map V, rfl, by simp, hl, hm, ⟨?_, ?_⟩, ?_⟩
  · intro v hv
    obtain ⟨i, hi, rfl⟩ := List.mem_map.1 hv
    exact (hV i (List.mem_range.1 hi)).1
  · intro j u hu
    have hev : ∀ v ∈ (List.range len).map V, v.length = C := by
      intro v hv
      obtain ⟨i, hi, rfl⟩ := List.mem_map.1 hv
      exact (hV i (List.mem_range.1 hi)).1
    have hfl : ((List.range len).map V).flatten.length = len * C := by
      rw [vflat_length C _ hev]
      simp
    have hj : j < len * C := by
      rcases Nat.lt_or_ge j (len * C) with h | h
      · exact h
      · rw [List.getElem?_eq_none (by omega)] at hu; cases hu
    have hi : j / C < len := Nat.div_lt_of_lt_mul (by rw [Nat.mul_comm]; exact hj)
    have hm' : j % C < C := Nat.mod_lt _ hC0
    have hat := vflat_at C _ (j / C) (j % C) (V (j / C)) hev (by simp [hi]) hm'
    rw [Nat.div_add_mod] at hat
    rw [hat] at hu
    have h2 := (hV _ hi).2.1 _ _ hu
    rw [show j / C * C + j % C = j by rw [Nat.mul_comm]; exact Nat.div_add_mod j C] at h2
    have hlen0 : 0 < len := Nat.lt_of_le_of_lt (Nat.zero_le _) hi
    have hl0 := (hV 0 hlen0).1
    have h0 := (hV 0 hlen0).2.1 0 ((V 0)[0]'(by rw [hl0]; exact hC0)) (by simp)
    rw [Nat.zero_mul] at h0
    have hs := World.cell?_spot h0
    obtain ⟨b, off, sp⟩ := a
    have hs' : sp = none := by simpa [Addr.add] using hs
    subst hs'
    exact ⟨b, off, rfl, by rw [add_eq] at h2; exact h2⟩
  · intro v hv
    obtain ⟨i, hi, rfl⟩ := List.mem_map.1 hv
    exact (hV i (List.mem_range.1 hi)).2.2

def Fit (n : Int) : Prop := -9223372036854775808 ≤ n ∧ n ≤ 9223372036854775807

theorem fit_of_wf {n : Int} (h : (Lit.int .i64 n).wf = true) : Fit n := by
  have : -9223372036854775808 ≤ n ∧ n ≤ 9223372036854775807 := by simpa [Lit.wf, IntKind.min, IntKind.max, IntKind.signed, IntKind.bits] using h
  exact this

/-- Bytes of a slice that can be read. -/
theorem open_bytes {H : Type} {enc : TypeId × Value → H} {P : Program} {w : World} {base : Nat} {spare : Nat → Bool} {held : Bool} {t e : TypeId} {fuel : Nat} {cs : List Value} {x : DataW H × List MemPlace}
    (ht : P.underlying t = some (.slice e)) (he : P.underlying e = some (.int .u8)) (hc : P.cellsOf e = 1) (h : DataW.trod enc P w base spare held fuel t cs = some x) :
    ∃ (ao : Option Addr) (cap : Nat) (bs : List UInt8), cs = [.slice ao bs.length cap] ∧ bs.length ≤ cap ∧ cap ≤ maxLen ∧ Lies w ao (bs.map B) := by
  rcases open_ints ht he hc h with ⟨rfl, _⟩ | ⟨x, l, c, zs, rfl, _, hl, hm, hz, _, hcell, hwz⟩
  · exact ⟨none, 0, [], rfl, Nat.le_refl _, by simp [maxLen], Lies.nil _ _⟩
  · have hz' : l ≤ zs.length := by rw [hz]; split <;> omega
    obtain ⟨bs, h1, h2, h3, h4⟩ := Go.Mem.bytes_of_row (w := w) (a := some x) (len := l) (cap := zs.length) (zs := zs)
      (.inr ⟨x, rfl, hz', by rw [hz]; split <;> omega, rfl, hcell, hwz⟩)
    exact ⟨some x, c, bs, by rw [h1], by omega, hm, h4⟩


/-- An act in memory: what it does, the number, the password, the secret. -/
structure Acte where
  d : Int
  n : Int
  po : Option Addr
  pc : Nat
  p : List UInt8
  so : Option Addr
  sc : Nat
  s : List UInt8

def Acte.vals (x : Acte) : List Value := [.int .i64 x.d, .int .i64 x.n, .slice x.po x.p.length x.pc, .slice x.so x.s.length x.sc]

structure Acte.In (w : World) (x : Acte) : Prop where
  d : Fit x.d
  n : Fit x.n
  p : Lies w x.po (x.p.map B)
  s : Lies w x.so (x.s.map B)
  pc : x.p.length ≤ x.pc ∧ x.pc ≤ maxLen
  sc : x.s.length ≤ x.sc ∧ x.sc ≤ maxLen

theorem Acte.In.below {w w' : World} {x : Acte} (h : x.In w) (hb : Below w.heap.size w w') : x.In w' :=
  ⟨h.d, h.n, h.p.below hb, h.s.below hb, h.pc, h.sc⟩
theorem Acte.vals_length (x : Acte) : x.vals.length = 4 := rfl
theorem Acte.vals_one (x : Acte) : ∀ v ∈ x.vals, v.oneCell' = true := by
  intro v hv
  simp only [Acte.vals, List.mem_cons, List.not_mem_nil, or_false] at hv
  rcases hv with rfl | rfl | rfl | rfl <;> rfl

structure ActsIn (w : World) (ao : Option Addr) (xs : List Acte) : Prop where
  rows : VRows 4 w ao (xs.map Acte.vals)
  each : ∀ x ∈ xs, x.In w
theorem ActsIn.below {w w' : World} {ao : Option Addr} {xs : List Acte} (h : ActsIn w ao xs) (hb : Below w.heap.size w w') : ActsIn w' ao xs :=
  ⟨h.rows.below hb, fun x hx => (h.each x hx).below hb⟩
theorem ActsIn.at {w : World} {ao : Option Addr} {xs : List Acte} (h : ActsIn w ao xs) {i : Nat} {x : Acte} (hi : xs[i]? = some x) :
    x.In w ∧ ∃ b off, ao = some ⟨b, off, none⟩ ∧ b < w.heap.size ∧ w.rangeAt b (off + i * 4) x.vals :=
  ⟨h.each x (List.mem_of_getElem? hi), h.rows.range (by omega) (by simp [hi])⟩

theorem open_acts {H : Type} {enc : TypeId × Value → H} {P : Program} {w : World} {base : Nat} {spare : Nat → Bool} {held : Bool} {t e ti ts ty : TypeId} {fs : Array Field} {fuel : Nat} {cs : List Value} {x : DataW H × List MemPlace}
    (ht : P.underlying t = some (.slice e)) (he : P.underlying e = some (.struct fs)) (hC : P.cellsOf e = 4) (hfs : fs.toList.map (fun f => (f.type, f.offset)) = [(ti, 0), (ti, 1), (ts, 2), (ts, 3)])
    (hi : P.underlying ti = some (.int .i64)) (hs : P.underlying ts = some (.slice ty)) (hy : P.underlying ty = some (.int .u8))
    (ci : P.cellsOf ti = 1) (cs' : P.cellsOf ts = 1) (cy : P.cellsOf ty = 1)
    (h : DataW.trod enc P w base spare held fuel t cs = some x) :
    ∃ (ao : Option Addr) (cap : Nat) (xs : List Acte), cs = [.slice ao xs.length cap] ∧ xs.length ≤ cap ∧ cap ≤ maxLen ∧ ActsIn w ao xs := by
  obtain ⟨ao, len, cap, vs, rfl, hl, hlc, hcm, hrows, hv⟩ := open_rows ht he hC (by omega) h
  have each : ∀ v ∈ vs, ∃ x : Acte, v = x.vals ∧ x.In w := by
    intro v hvm
    have hlen := hrows.each v hvm
    obtain ⟨n, hf⟩ := hv v hvm
    obtain ⟨l⟩ := fs
    simp only at hfs
    have hln : l.length = 4 := by have := congrArg List.length hfs; simpa using this
    match l, hln, hfs with
    | [f0, f1, f2, f3], _, hfs =>
      simp only [List.map_cons, List.map_nil, List.cons.injEq, Prod.mk.injEq, and_true] at hfs
      obtain ⟨⟨t0, o0⟩, ⟨t1, o1⟩, ⟨t2, o2⟩, ⟨t3, o3⟩⟩ := hfs
      match v, hlen with
      | [v0, v1, v2, v3], _ =>
        obtain ⟨y0, g0⟩ := hf 0 f0 rfl
        obtain ⟨y1, g1⟩ := hf 1 f1 rfl
        obtain ⟨y2, g2⟩ := hf 2 f2 rfl
        obtain ⟨y3, g3⟩ := hf 3 f3 rfl
        simp only [t0, t1, t2, t3, o0, o1, o2, o3, ci, cs', List.drop_succ_cons, List.drop_zero, List.take_succ_cons, List.take_zero] at g0 g1 g2 g3
        obtain ⟨n0, e0, _, w0⟩ := DataW.trod_int hi g0
        obtain ⟨n1, e1, _, w1⟩ := DataW.trod_int hi g1
        obtain ⟨po, pc, p, e2, l2, m2, q2⟩ := open_bytes hs hy cy g2
        obtain ⟨so, sc, s, e3, l3, m3, q3⟩ := open_bytes hs hy cy g3
        simp only [List.cons.injEq, and_true] at e0 e1 e2 e3
        refine ⟨⟨n0, n1, po, pc, p, so, sc, s⟩, ?_, ⟨fit_of_wf w0, fit_of_wf w1, q2, q3, ⟨l2, m2⟩, ⟨l3, m3⟩⟩⟩
        simp only [Acte.vals, e0, e1, e2, e3]
  have : ∃ xs : List Acte, vs = xs.map Acte.vals ∧ ∀ x ∈ xs, x.In w := by
    clear hrows hv hl h
    induction vs with
    | nil => exact ⟨[], rfl, by simp⟩
    | cons v vs ih =>
      obtain ⟨x, rfl, hx⟩ := each v (by simp)
      obtain ⟨xs, rfl, hxs⟩ := ih (fun u hu => each u (List.mem_cons_of_mem _ hu))
      refine ⟨x :: xs, rfl, fun y hy => ?_⟩
      rcases List.mem_cons.1 hy with rfl | hy
      · exact hx
      · exact hxs y hy
  obtain ⟨xs, rfl, hxs⟩ := this
  rw [List.length_map] at hl
  subst hl
  exact ⟨ao, cap, xs, rfl, hlc, hcm, hrows, hxs⟩
end Go.Open
