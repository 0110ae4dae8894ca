/-
  The walk of ReelOnly.
-/
import Derived.Test.YtmpgcilppjkhoaaGreatDoorReelL
namespace Go.Proofs.YtmpgcilppjkhoaaGreatDoor
open Go.RowKit Go.Mem Go.Ops Go.Cells Go.Oct Go.Reel Go.Trn
set_option linter.unusedSimpArgs false
set_option linter.unusedVariables false
set_option maxRecDepth 100000

theorem outP_mem {l : List Cmd} {c : Cmd} (h : c ∈ l) : c.bytes.length ≤ (outP l).length := by
  induction l with
  | nil => cases h
  | cons d r ih =>
    rw [outP_cons, List.length_append]
    rcases List.mem_cons.1 h with rfl | h
    · omega
    · have := ih h; omega
theorem outP_many (l : List Cmd) : l.length ≤ (outP l).length := by
  induction l with
  | nil => simp
  | cons d r ih => rw [outP_cons, List.length_append, d.bytes_length, List.length_cons]; omega
theorem mild_of (l : List Cmd) (h : (outP l).length ≤ 2000) : ∀ c ∈ l, Mild c := by
  intro c hc
  have := outP_mem hc
  rw [c.bytes_length] at this
  exact ⟨by omega, by omega, by omega⟩

set_option maxHeartbeats 4000000 in
theorem only_law (ao : Option Addr) (n cap : Nat) (bs : List UInt8) (w : World) (hn : bs.length = n) (hc : n ≤ cap) (hcm : cap ≤ maxLen) (hl : Lies w ao (bs.map B)) (hg : Globals w) :
    Calls Tryz.prog 6 #[.slice ao n cap] w fun e w' => e = .returned (.bool true) ∧ Below w.heap.size w w' := by
  have HL := Lib.hid hl
  have HN := Lib.hid hn
  have HG := Lib.hid hg
  have HCM := Lib.hid hcm
  have HC := Lib.hid hc
  clear hl hn hg hcm hc
  by_cases hbig : n > 1000
  · have ht : decide ((n : Int) > 1000) = true := by simp; omega
    go_enter Tryz.func6, Tryz.ntmps6
    go_wp2
    go_ret
    exact ⟨rfl, Below.refl _ _⟩
  · have ht : decide ((n : Int) > 1000) = false := by simp; omega
    go_enter Tryz.func6, Tryz.ntmps6
    go_wp2_with fail
    refine (read_walk ao n cap bs _ HN.out HC.out HCM.out (by omega) HL.out).mono ?_
    rintro e w1 ⟨hnone, hsome, hbel1⟩
    cases hp : parse bs with
    | none =>
      obtain rfl := hnone hp
      have HB := Lib.hid hbel1
      clear hnone hsome hp hbel1
      go_wp2_with fail
      refine (awake_ok _ (HG.out.below HB.out)).mono ?_
      rintro e w2 ⟨rfl, hbel2⟩
      have HB := Lib.hid (HB.out.trans (hbel2.mono HB.out.size))
      clear hbel2
      go_wp2
      go_ret
      exact ⟨rfl, HB.out⟩
    | some l =>
      obtain ⟨v, xs, rfl, hxs, hown, hnew⟩ := hsome l hp
      obtain ⟨herr, hout⟩ := parse_only _ bs l (Nat.le_refl _) hp
      subst hxs
      obtain ⟨va, vcap, rfl, _, _, _⟩ := own_form hown
      have hlo : (outP (xs.map (·.c))).length = n := by rw [hout]; exact HN.out
      have HOPS := Lib.hid (ops_of_own hown (fun y hy => (hnew y hy).in))
      have HM := Lib.hid (fun x (hx : x ∈ xs) => mild_of (xs.map (·.c)) (by omega) x.c (List.mem_map.2 ⟨x, hx, rfl⟩))
      have hxl : xs.length ≤ 1000 := by have := outP_many (xs.map (·.c)); rw [List.length_map] at this; omega
      have HB := Lib.hid hbel1
      have HERR := Lib.hid herr
      have HOUT := Lib.hid hout
      clear hnone hsome hp hbel1 hown hnew herr hout hlo
      go_wp2_with fail
      refine (write_ok va xs.length vcap xs _ rfl HOPS.out (by omega) HM.out).mono ?_
      rintro e w2 ⟨v2, rfl, hok, _, hbel2⟩
      obtain ⟨v2a, v2cap, rfl, _, _, hl2⟩ := (hok HERR.out).form
      rw [HOUT.out] at hl2
      rw [HERR.out, HOUT.out, HN.out]
      have HB := Lib.hid (HB.out.trans (hbel2.mono HB.out.size))
      have F1 := string_ok w2 v2a n v2cap bs HN.out hl2
      have F2 := string_ok w2 ao n cap bs HN.out (HL.out.below HB.out)
      clear hok hbel2 hl2
      generalize str bs = s at *
      go_wp2_with fail
      refine (awake_ok _ (HG.out.below HB.out)).mono ?_
      rintro e w3 ⟨rfl, hbel3⟩
      have HB := Lib.hid (HB.out.trans (hbel3.mono HB.out.size))
      clear hbel3 F1 F2
      go_wp2
      go_ret
      exact ⟨rfl, HB.out⟩

end Go.Proofs.YtmpgcilppjkhoaaGreatDoor
