/-
  Texts of this claim, one behind the other: LedPlain SlotG SlotH SlotGl.
-/
import Derived.Test.YtnkaodjfjllkfaaGreatDoorM13
import Derived.Test.YtnkaodjfjllkfaaGreatDoorM20
import Derived.Test.YtnkaodjfjllkfaaGreatDoorM4
import Derived.Test.YtnkaodjfjllkfaaGreatDoorM9
import Derived.Test.YtnkaodjfjllkfaaGreatDoorTie
import Derived.ProofKit
import Derived.LaidMore
import Derived.OpenShut
import Derived.Stop.Joined
/-
  Acts on a header: what they leave, and what is found behind them. No program.
-/
set_option linter.unusedVariables false
namespace Go.Slot
open Go.Ops Go.Oct Go.Gf Go.Trn Go.Aes Go.Ring Go.Ezk Go.Ezh Go.Ezt Go.Ezc Go.Blake Go.Aez Go.Open

def layE (n : Int) (pass secret : List UInt8) : Int :=
  if n < 0 ∨ 8 ≤ n then 16 else if pass.length = 0 ∨ 128 < pass.length then 2 else if secret.length = 0 then 7 else if 64 < secret.length then 6 else 0
def layH (s : Hdr) (n : Int) (pass secret : List UInt8) : Hdr := if layE n pass secret = 0 then s.set n.toNat (sealS n.toNat pass secret) else s
def clearE (n : Int) : Int := if n < 0 ∨ 8 ≤ n then 16 else 0
def clearH (s : Hdr) (n : Int) : Hdr := if n < 0 ∨ 8 ≤ n then s else s.set n.toNat []
def actH (s : Hdr) (x : Acte) : Hdr := if x.d = 0 then layH s x.n x.p x.s else if x.d = 1 then clearH s x.n else s
def ledH (xs : List Acte) : Hdr := xs.foldl actH emptyH

theorem Okay.set {s : Hdr} {b : List UInt8} (h : Okay s) (i : Nat) (hb : b.length = 0 ∨ 17 ≤ b.length ∧ b.length ≤ 80) : Okay (s.set i b) := by
  intro x hx
  rcases List.mem_or_eq_of_mem_set hx with hx | rfl
  · exact h x hx
  · exact hb
theorem layE_zero {n : Int} {pass secret : List UInt8} (h : layE n pass secret = 0) : 0 ≤ n ∧ n < 8 ∧ 0 < pass.length ∧ pass.length ≤ 128 ∧ 0 < secret.length ∧ secret.length ≤ 64 := by
  unfold layE at h
  split at h
  · omega
  · split at h
    · omega
    · split at h
      · omega
      · split at h
        · omega
        · omega
theorem Okay.lay {s : Hdr} (h : Okay s) (n : Int) (pass secret : List UInt8) : Okay (layH s n pass secret) := by
  unfold layH
  split
  · next h0 =>
    have := layE_zero h0
    exact h.set _ (.inr (by rw [sealS_length]; omega))
  · exact h
theorem Okay.clear {s : Hdr} (h : Okay s) (n : Int) : Okay (clearH s n) := by
  unfold clearH
  split
  · exact h
  · exact h.set _ (.inl rfl)
theorem Okay.act {s : Hdr} (h : Okay s) (x : Acte) : Okay (actH s x) := by
  unfold actH
  split
  · exact h.lay _ _ _
  · split
    · exact h.clear _
    · exact h
theorem Okay.empty : Okay emptyH := by
  intro x hx
  obtain rfl := List.eq_of_mem_replicate hx
  exact .inl rfl
theorem Okay.acts : ∀ (xs : List Acte) {s : Hdr}, Okay s → Okay (xs.foldl actH s)
  | [], _, h => h
  | x :: xs, _, h => Okay.acts xs (h.act x)
theorem Okay.led (xs : List Acte) : Okay (ledH xs) := Okay.acts xs Okay.empty
theorem layH_length (s : Hdr) (n : Int) (pass secret : List UInt8) : (layH s n pass secret).length = s.length := by unfold layH; split <;> simp
theorem clearH_length (s : Hdr) (n : Int) : (clearH s n).length = s.length := by unfold clearH; split <;> simp
theorem actH_length (s : Hdr) (x : Acte) : (actH s x).length = s.length := by
  unfold actH
  split
  · exact layH_length _ _ _ _
  · split
    · exact clearH_length _ _
    · rfl
theorem acts_length : ∀ (xs : List Acte) (s : Hdr), (xs.foldl actH s).length = s.length
  | [], _ => rfl
  | x :: xs, s => by rw [List.foldl_cons, acts_length xs, actH_length]
theorem led_length (xs : List Acte) : (ledH xs).length = 8 := by rw [ledH, acts_length]; rfl

/-- A slot that is laid is found, if none ahead of it opens. -/
theorem findGo_hit (pass secret : List UInt8) : ∀ (r : Hdr) (n j : Nat), r[j]? = some (sealS (n + j) pass secret) → ∃ m at', findGo pass n r = some (m, at') ∧ at' ≤ n + j ∧ (at' = n + j → m = secret)
  | [], n, j, h => by simp at h
  | b :: r, n, 0, h => by
    simp at h
    subst h
    refine ⟨secret, n, ?_, by omega, fun _ => rfl⟩
    rw [findGo, if_neg (by rw [sealS_length]; omega), openS_seal]
  | b :: r, n, j + 1, h => by
    simp at h
    obtain ⟨m, at', h1, h2, h3⟩ := findGo_hit pass secret r (n + 1) j (by rw [h, show n + 1 + j = n + (j + 1) by omega])
    have h2' : at' ≤ n + (j + 1) := by omega
    have h3' : at' = n + (j + 1) → m = secret := fun e => h3 (by omega)
    rw [findGo]
    by_cases h0 : b.length = 0
    · rw [if_pos h0]
      exact ⟨m, at', h1, h2', h3'⟩
    · rw [if_neg h0]
      cases ho : openS n pass b with
      | none => exact ⟨m, at', h1, h2', h3'⟩
      | some x => exact ⟨x, n, rfl, by omega, fun e => by omega⟩
theorem findH_hit {s : Hdr} {k : Nat} {pass secret : List UInt8} (h : s[k]? = some (sealS k pass secret)) : ∃ m at', findH pass s = some (m, at') ∧ at' ≤ k ∧ (at' = k → m = secret) := by
  have := findGo_hit pass secret s 0 k (by rw [Nat.zero_add]; exact h)
  rwa [Nat.zero_add] at this
theorem findGo_first (pass secret : List UInt8) : ∀ (r : Hdr) (n j : Nat), r[j]? = some (sealS (n + j) pass secret) → (∀ i, i < j → r[i]? = some []) → findGo pass n r = some (secret, n + j)
  | [], n, j, h, _ => by simp at h
  | b :: r, n, 0, h, _ => by
    simp at h
    subst h
    rw [findGo, if_neg (by rw [sealS_length]; omega), openS_seal]
    rfl
  | b :: r, n, j + 1, h, he => by
    simp at h
    have h0 := he 0 (by omega)
    simp at h0
    subst h0
    rw [findGo, if_pos (show ([] : List UInt8).length = 0 from List.length_nil), findGo_first pass secret r (n + 1) j (by rw [h, show n + 1 + j = n + (j + 1) by omega]) (fun i hi => by have := he (i + 1) (by omega); simpa using this)]
    congr 2
    omega
theorem findH_first {s : Hdr} {k : Nat} {pass secret : List UInt8} (h : s[k]? = some (sealS k pass secret)) (he : ∀ i, i < k → s[i]? = some []) : findH pass s = some (secret, k) := by
  have := findGo_first pass secret s 0 k (by rw [Nat.zero_add]; exact h) he
  rwa [Nat.zero_add] at this
theorem findGo_none (pass : List UInt8) : ∀ (r : Hdr) (n : Nat), (∀ b ∈ r, b.length = 0) → findGo pass n r = none
  | [], _, _ => rfl
  | b :: r, n, h => by rw [findGo, if_pos (h b (by simp)), findGo_none pass r (n + 1) (fun x hx => h x (by simp [hx]))]
theorem findH_empty (pass : List UInt8) : findH pass emptyH = none := findGo_none _ _ _ (by intro b hb; obtain rfl := List.eq_of_mem_replicate hb; rfl)
theorem usedH_empty : usedH emptyH = [] := rfl
theorem bytesH_empty : (bytesH emptyH).length = 8 := rfl

/-- The first so many slots cleared. -/
def clearTo (s : Hdr) : Nat → Hdr
  | 0 => s
  | i + 1 => (clearTo s i).set i []
theorem clearTo_length (s : Hdr) : ∀ i, (clearTo s i).length = s.length
  | 0 => rfl
  | i + 1 => by rw [clearTo, List.length_set, clearTo_length s i]
theorem clearTo_lt (s : Hdr) : ∀ (i j : Nat), j < i → j < s.length → (clearTo s i)[j]? = some []
  | 0, _, h, _ => by omega
  | i + 1, j, h, hl => by
    rw [clearTo, List.getElem?_set]
    by_cases e : i = j
    · subst e
      rw [if_pos rfl, if_pos (by rw [clearTo_length]; exact hl)]
    · rw [if_neg e]
      exact clearTo_lt s i j (by omega) hl
theorem clearTo_ge (s : Hdr) : ∀ (i j : Nat), i ≤ j → (clearTo s i)[j]? = s[j]?
  | 0, _, _ => rfl
  | i + 1, j, h => by
    rw [clearTo, List.getElem?_set, if_neg (by omega)]
    exact clearTo_ge s i j (by omega)
theorem clearTo_all {s : Hdr} (h : s.length = 8) : clearTo s 8 = emptyH := by
  apply List.ext_getElem?
  intro j
  rcases Nat.lt_or_ge j 8 with hj | hj
  · rw [clearTo_lt s 8 j hj (by omega), emptyH, List.getElem?_replicate, if_pos hj]
  · rw [List.getElem?_eq_none (by rw [clearTo_length]; omega), List.getElem?_eq_none (by simp [emptyH]; omega)]
/-- All but one of the first so many slots cleared. -/
def clearBut (s : Hdr) (k : Nat) : Nat → Hdr
  | 0 => s
  | i + 1 => if i = k then clearBut s k i else (clearBut s k i).set i []
theorem clearBut_length (s : Hdr) (k : Nat) : ∀ i, (clearBut s k i).length = s.length
  | 0 => rfl
  | i + 1 => by
    rw [clearBut]
    split
    · exact clearBut_length s k i
    · rw [List.length_set, clearBut_length s k i]
theorem clearBut_get (s : Hdr) (k : Nat) : ∀ (i j : Nat), j < s.length → (clearBut s k i)[j]? = if j < i ∧ j ≠ k then some [] else s[j]?
  | 0, j, h => by rw [if_neg (by omega)]; rfl
  | i + 1, j, h => by
    rw [clearBut]
    split
    · next e =>
      rw [clearBut_get s k i j h]
      congr 1
      apply propext
      omega
    · next e =>
      rw [List.getElem?_set, clearBut_length]
      by_cases e2 : i = j
      · subst e2
        rw [if_pos rfl, if_pos h, if_pos ⟨by omega, e⟩]
      · rw [if_neg e2, clearBut_get s k i j h]
        congr 1
        apply propext
        omega
theorem clearBut_same {s t : Hdr} {i k : Nat} (hs : s.length = 8) (ht : t.length = 8) (he : s[k]? = t[k]?) : clearBut s k 8 = clearBut t k 8 := by
  apply List.ext_getElem?
  intro j
  rcases Nat.lt_or_ge j 8 with hj | hj
  · rw [clearBut_get s k 8 j (by omega), clearBut_get t k 8 j (by omega)]
    by_cases e : j = k
    · subst e
      rw [if_neg (by omega), if_neg (by omega), he]
    · rw [if_pos ⟨hj, e⟩, if_pos ⟨hj, e⟩]
  · rw [List.getElem?_eq_none (by rw [clearBut_length]; omega), List.getElem?_eq_none (by rw [clearBut_length]; omega)]
theorem layH_get {s : Hdr} {n : Nat} {pass secret : List UInt8} {i : Nat} (h : i ≠ n) : (layH s (n : Int) pass secret)[i]? = s[i]? := by
  unfold layH
  split
  · rw [Int.toNat_natCast, List.getElem?_set, if_neg (by omega)]
  · rfl
theorem layH_clear {s : Hdr} {n : Nat} {pass secret : List UInt8} (hn : n < 8) : (layH s (n : Int) pass secret).set n [] = s.set n [] := by
  unfold layH
  split
  · rw [Int.toNat_natCast, List.set_set]
  · rfl
theorem layE_fit {n : Nat} {pass secret : List UInt8} (hn : n < 8) (h0 : 0 < pass.length) (h1 : pass.length ≤ 128) (h2 : 0 < secret.length) (h3 : secret.length ≤ 64) : layE (n : Int) pass secret = 0 := by
  unfold layE
  rw [if_neg (by omega), if_neg (by omega), if_neg (by omega), if_neg (by omega)]
theorem layH_fit {s : Hdr} {n : Nat} {pass secret : List UInt8} (hn : n < 8) (h0 : 0 < pass.length) (h1 : pass.length ≤ 128) (h2 : 0 < secret.length) (h3 : secret.length ≤ 64) : layH s (n : Int) pass secret = s.set n (sealS n pass secret) := by
  unfold layH
  rw [if_pos (layE_fit hn h0 h1 h2 h3), Int.toNat_natCast]
theorem clearH_fit {s : Hdr} {n : Nat} (hn : n < 8) : clearH s (n : Int) = s.set n [] := by
  unfold clearH
  rw [if_neg (by omega), Int.toNat_natCast]
end Go.Slot
/-
  The walks of slots.Lay, Clear and Find for any arguments; of the laws' 'light' and 'led'.
-/
set_option linter.unusedSimpArgs false
set_option linter.unusedVariables false
namespace Go.Proofs.YtnkaodjfjllkfaaGreatDoor
open Go.RowKit Go.Mem Go.Ops Go.Cells Go.Oct Go.Gf Go.Trn Go.Aes Go.Ring Go.Ezk Go.Ezh Go.Ezt Go.Aez Go.Blake Go.CutP Go.Fl Go.Slot Go.Open
set_option maxRecDepth 100000
attribute [local irreducible] walkR walkP walk0 walkB walkK

instance (w : World) : Nonempty (AfterK (fun u v => Below u.heap.size u v) w) := ⟨⟨w, Below.refl _ _⟩⟩
theorem there_any (hp : Nat) (n : Int) (w : World) : Calls Tryz.prog 33 #[.pointer (some ⟨hp, 0, none⟩), .int .i64 n] w fun e w' => e = .returned (.bool (decide (0 ≤ n ∧ n < 8))) ∧ w = w' := by
  by_cases h0 : n < 0
  · have d0 : decide (n ≥ 0) = false := by simp; omega
    have d1 : decide (0 ≤ n ∧ n < 8) = false := by simp; omega
    rw [d1]
    go_enter Tryz.func33, Tryz.ntmps33
    go_wp2
    go_ret
    exact ⟨rfl, rfl⟩
  · have d0 : decide (n ≥ 0) = true := by simp; omega
    by_cases h8 : n < 8
    · have d1 : decide (0 ≤ n ∧ n < 8) = true := by simp; omega
      have d2 : decide (n < 8) = true := by simp; omega
      rw [d1]
      go_enter Tryz.func33, Tryz.ntmps33
      go_wp2
      go_ret
      exact ⟨rfl, rfl⟩
    · have d1 : decide (0 ≤ n ∧ n < 8) = false := by simp; omega
      have d2 : decide (n < 8) = false := by simp; omega
      rw [d1]
      go_enter Tryz.func33, Tryz.ntmps33
      go_wp2
      go_ret
      exact ⟨rfl, rfl⟩

theorem rowOf_set (ss : List Str) (i : Nat) (s : Str) : rowOf (ss.set i s) = (rowOf ss).set i s.bs := by unfold rowOf; rw [List.map_set]
theorem Wrote.of_below {hp : Nat} {w w' : World} (h : Below w.heap.size w w') : Wrote hp w w' := ⟨w', h, Only.refl _ _⟩

theorem lay_any (hp q p : Nat) (ss : List Str) (n : Int) (ao : Option Addr) (np cp : Nat) (b : List UInt8) (so : Option Addr) (ns cs : Nat) (m : List UInt8) (w : World) (hh : Head w hp q p ss) (hg : BGlob w)
    (hb : b.length = np) (h1 : np ≤ 1000) (hc : np ≤ cp) (hl : Lies w ao (b.map B)) (hm : m.length = ns) (hm1 : ns ≤ 1000) (hmc : ns ≤ cs) (hlm : Lies w so (m.map B)) :
    Calls Tryz.prog 13 #[.pointer (some ⟨hp, 0, none⟩), .int .i64 n, .slice ao np cp, .slice so ns cs] w fun e w' => e = .returned (.int .i64 (layE n b m)) ∧ (∃ ss', Head w' hp q p ss' ∧ rowOf ss' = layH (rowOf ss) n b m) ∧ Wrote hp w w' := by
  by_cases hn : n < 0 ∨ 8 ≤ n
  · have e1 : layE n b m = 16 := by unfold layE; rw [if_pos hn]
    have e2 : layH (rowOf ss) n b m = rowOf ss := by unfold layH; rw [if_neg (by omega)]
    have d1 : decide (0 ≤ n ∧ n < 8) = false := by simp; omega
    have HH := Lib.hid hh
    rw [e1, e2]
    clear hg hl hlm hb hm e1 e2 hh
    go_enter Tryz.func13, Tryz.ntmps13
    go_wp2_with fail
    refine (there_any hp n _).mono ?_
    rintro e w1 ⟨rfl, rfl⟩
    go_wp2
    go_ret
    exact ⟨rfl, ⟨ss, HH.out, rfl⟩, Wrote.of_below (Below.refl _ _)⟩
  · have d1 : decide (0 ≤ n ∧ n < 8) = true := by simp; omega
    by_cases hp0 : np = 0 ∨ 128 < np
    · have e1 : layE n b m = 2 := by unfold layE; rw [if_neg hn, if_pos (by rw [hb]; exact hp0)]
      have e2 : layH (rowOf ss) n b m = rowOf ss := by unfold layH; rw [if_neg (by omega)]
      have HH := Lib.hid hh
      have hcq := hh.cellq
      rw [e1, e2]
      clear hg hl hlm hb hm e1 e2 hh
      go_enter Tryz.func13, Tryz.ntmps13
      go_wp2_with fail
      refine (there_any hp n _).mono ?_
      rintro e w1 ⟨rfl, rfl⟩
      go_wp2_with fail
      refine (wnew_bad q ao np cp _ hp0).mono ?_
      rintro e w1 ⟨rfl, rfl⟩
      go_wp2
      go_ret
      exact ⟨rfl, ⟨ss, HH.out, rfl⟩, Wrote.of_below (Below.refl _ _)⟩
    · by_cases hs0 : ns = 0 ∨ 64 < ns
      · have e1 : layE n b m = if ns = 0 then 7 else 6 := by
          unfold layE
          rw [if_neg hn, if_neg (by rw [hb]; exact hp0), hm]
          split
          · rfl
          · rw [if_pos (by omega)]
        have e2 : layH (rowOf ss) n b m = rowOf ss := by unfold layH; rw [if_neg (by rw [e1]; split <;> omega)]
        have HH := Lib.hid hh
        have HG := Lib.hid hg
        have HNB := Lib.hid hb
        have HL := Lib.hid hl
        have hcq := hh.cellq
        rw [e1, e2]
        clear hg hl hlm hb hm e1 e2 hh
        by_cases hz : ns = 0
        · rw [if_pos hz]
          subst hz
          go_enter Tryz.func13, Tryz.ntmps13
          go_wp2_with fail
          refine (there_any hp n _).mono ?_
          rintro e w1 ⟨rfl, rfl⟩
          go_wp2_with fail
          refine (wnew_ok q p ao np cp b _ HNB.out (by omega) (by omega) hc HL.out HH.out.tab HG.out).mono ?_
          rintro e w2 ⟨ci, kp, rfl, hci, hbel⟩
          have HB := Lib.hid hbel
          clear hci hbel hcq
          go_wp2
          go_ret
          exact ⟨rfl, ⟨ss, HH.out.later HB.out, rfl⟩, Wrote.of_below HB.out⟩
        · rw [if_neg hz]
          have d2 : ((ns : Int) == 0) = false := by simp; omega
          have d3 : decide ((ns : Int) > 64) = true := by simp; omega
          go_enter Tryz.func13, Tryz.ntmps13
          go_wp2_with fail
          refine (there_any hp n _).mono ?_
          rintro e w1 ⟨rfl, rfl⟩
          go_wp2_with fail
          refine (wnew_ok q p ao np cp b _ HNB.out (by omega) (by omega) hc HL.out HH.out.tab HG.out).mono ?_
          rintro e w2 ⟨ci, kp, rfl, hci, hbel⟩
          have HB := Lib.hid hbel
          clear hci hbel hcq
          go_wp2
          go_ret
          exact ⟨rfl, ⟨ss, HH.out.later HB.out, rfl⟩, Wrote.of_below HB.out⟩
      · have e1 : layE n b m = 0 := by
          unfold layE
          rw [if_neg hn, if_neg (by rw [hb]; exact hp0), if_neg (by omega), if_neg (by omega)]
        obtain ⟨k, rfl⟩ : ∃ k : Nat, n = k := ⟨n.toNat, by omega⟩
        have e2 : layH (rowOf ss) (k : Int) b m = (rowOf ss).set k (sealS k b m) := by unfold layH; rw [if_pos e1]; rfl
        rw [e1, e2]
        refine (lay_ok hp q p ss k ao np cp b so ns cs m w hh hg (by omega) hb (by omega) (by omega) hc hl hm (by omega) (by omega) hmc hlm).mono ?_
        rintro e w' ⟨rfl, ⟨s, h2, h3⟩, h4⟩
        exact ⟨rfl, ⟨_, h2, by rw [rowOf_set, h3]⟩, h4⟩

theorem clear_any (hp q p : Nat) (ss : List Str) (n : Int) (w : World) (hh : Head w hp q p ss) :
    Calls Tryz.prog 19 #[.pointer (some ⟨hp, 0, none⟩), .int .i64 n] w fun e w' => e = .returned (.int .i64 (clearE n)) ∧ (∃ ss', Head w' hp q p ss' ∧ rowOf ss' = clearH (rowOf ss) n) ∧ Wrote hp w w' := by
  by_cases hn : n < 0 ∨ 8 ≤ n
  · have e1 : clearE n = 16 := by unfold clearE; rw [if_pos hn]
    have e2 : clearH (rowOf ss) n = rowOf ss := by unfold clearH; rw [if_pos hn]
    have d1 : decide (0 ≤ n ∧ n < 8) = false := by simp; omega
    have HH := Lib.hid hh
    rw [e1, e2]
    clear e1 e2 hh
    go_enter Tryz.func19, Tryz.ntmps19
    go_wp2_with fail
    refine (there_any hp n _).mono ?_
    rintro e w1 ⟨rfl, rfl⟩
    go_wp2
    go_ret
    exact ⟨rfl, ⟨ss, HH.out, rfl⟩, Wrote.of_below (Below.refl _ _)⟩
  · have d1 : decide (0 ≤ n ∧ n < 8) = true := by simp; omega
    have e1 : clearE n = 0 := by unfold clearE; rw [if_neg hn]
    obtain ⟨k, rfl⟩ : ∃ k : Nat, n = k := ⟨n.toNat, by omega⟩
    have e2 : clearH (rowOf ss) (k : Int) = (rowOf ss).set k [] := by unfold clearH; rw [if_neg hn]; rfl
    have HH := Lib.hid hh
    rw [e1, e2]
    clear e1 e2 hh
    go_enter Tryz.func19, Tryz.ntmps19
    go_wp2_with fail
    refine (there_ok hp k _ (by omega)).mono ?_
    rintro e w1 ⟨rfl, rfl⟩
    go_wp2_with (refine HH.out.blk.wset (i := 1 + k) (v := .slice none 0 0) rfl rfl rfl rfl Tryz.size22 rfl rfl (by simp [headV, HH.out.len]; omega) ?_)
    intro w5 hb5 ho5
    have HH5 := Lib.hid (HH.out.set k nilS ⟨Nat.le_refl _, Lies.nil _ _⟩ (fun _ => rfl) (by rw [show nilS.val = .slice none 0 0 from rfl]; exact hb5) ho5)
    have HW := Lib.hid (show Wrote hp w w5 from ⟨w, Below.refl _ _, ho5⟩)
    clear hb5 ho5
    go_wp2
    go_ret
    exact ⟨rfl, ⟨_, HH5.out, by rw [rowOf_set]; rfl⟩, HW.out⟩

/-- What Find tells of any password. -/
def FindsE (w' : World) (b : List UInt8) (s : Hdr) (e : Ending) : Prop :=
  if b.length = 0 ∨ 128 < b.length then e = .returned (.tuple #[.slice none 0 0, .int .i64 0, .int .i64 2]) else Finds w' (findH b s) e
theorem find_any (hp q p : Nat) (ss : List Str) (ao : Option Addr) (np cp : Nat) (b : List UInt8) (w : World) (hh : Head w hp q p ss) (hg : BGlob w) (hk : Okay (rowOf ss))
    (hb : b.length = np) (h1 : np ≤ 1000) (hc : np ≤ cp) (hl : Lies w ao (b.map B)) :
    Calls Tryz.prog 15 #[.pointer (some ⟨hp, 0, none⟩), .slice ao np cp] w fun e w' => FindsE w' b (rowOf ss) e ∧ Below w.heap.size w w' := by
  by_cases hp0 : np = 0 ∨ 128 < np
  · have HH := Lib.hid hh
    have HS := Lib.hid (St.start w)
    have HE := Lib.hid (show ∀ w' e, FindsE w' b (rowOf ss) e ↔ e = .returned (.tuple #[.slice none 0 0, .int .i64 0, .int .i64 2]) from fun w' e => by unfold FindsE; rw [if_pos (by rw [hb]; exact hp0)])
    have hcq := hh.cellq
    clear hg hl hb hh hk
    go_enter Tryz.func15, Tryz.ntmps15
    go_wp2_with (refine wpList_box 24 _ ([.pointer (some ⟨hp, 0, none⟩)]) _ rfl rfl rfl rfl ?_)
    intro w1 hb hbel; have HS := Lib.hid (HS.out.push hb hbel); have hlt1 := hb.lt; clear hb hbel
    generalize hbb : w.heap.size = bb at *
    have HBB := Lib.hid hbb
    clear hbb
    have hc1 := (HS.out.get 0 rfl).cell 0 _ rfl
    have hcq := (HH.out.later (HS.out.old HBB.out)).cellq
    go_wp2_with fail
    refine wp_scope_label 0 (fun x wr => False) (fun _ _ => 0) rfl ?_ (fun _ _ h => h.elim)
    simp only [wpPre]
    go_wp2_with fail
    refine (wnew_bad q ao np cp _ hp0).mono ?_
    rintro e w2 ⟨rfl, rfl⟩
    go_wp2_with (refine wpList_var 73 [.pointer none] _ rfl rfl Tryz.zeroPC rfl ?_)
    intro w3 hb hbel; have HS := Lib.hid (HS.out.push hb hbel); have hlt3 := hb.lt; clear hb hbel
    go_wp2_with (refine (HS.out.get 0 rfl).wset (v := .pointer none) rfl rfl rfl rfl Tryz.sizePC rfl rfl (by simp) ?_)
    intro w4 hb4 ho4
    have hbel4 := below_only HS.out.bel ho4 (by omega)
    go_wp2
    first | go_ret3 | (rw [Exit.jump_ret]; go_ret3)
    exact ⟨(HE.out _ _).2 rfl, by rw [HBB.out]; exact hbel4⟩
  · refine (find_ok hp q p ss ao np cp b w hh hg (fun s hs => hk s.bs (List.mem_map.2 ⟨s, hs, rfl⟩)) hb (by omega) (by omega) hc hl).mono ?_
    rintro e w' ⟨h2, h3⟩
    refine ⟨?_, h3⟩
    unfold FindsE
    rw [if_neg (by rw [hb]; exact hp0)]
    exact h2

def kindOf (x : Acte) : Int := if x.d = 0 then 0 else if x.d = 1 then 1 else 2
theorem kind_ok (x : Acte) (w : World) : Calls Tryz.prog 21 #[.agg x.vals.toArray] w fun e w' => e = .returned (.int .i64 (kindOf x)) ∧ Below w.heap.size w w' := by
  obtain ⟨V, hV⟩ : ∃ V, V = x.vals := ⟨_, rfl⟩
  have HV := Lib.hid (show V = x.vals ∧ True from ⟨hV, trivial⟩)
  rw [← hV]
  clear hV
  by_cases h0 : x.d = 0
  · have d0 : (x.d == 0) = true := by simp [h0]
    have e1 : kindOf x = x.d := by unfold kindOf; rw [if_pos h0, h0]
    rw [e1]
    clear e1 h0
    go_enter Tryz.func21, Tryz.ntmps21
    go_wp2_with (refine wpList_box 50 _ V _ rfl rfl rfl rfl ?_)
    intro w1 hb hbel
    have hc := hb.cell 0 (.int .i64 x.d) (by rw [HV.out.1]; rfl)
    have HB := Lib.hid hbel
    clear hb hbel
    go_wp2
    go_ret
    exact ⟨rfl, HB.out⟩
  · have d0 : (x.d == 0) = false := by simp [h0]
    by_cases h1 : x.d = 1
    · have d1 : (x.d == 1) = true := by simp [h1]
      have e1 : kindOf x = x.d := by unfold kindOf; rw [if_neg h0, if_pos h1, h1]
      rw [e1]
      clear e1 h0 h1
      go_enter Tryz.func21, Tryz.ntmps21
      go_wp2_with (refine wpList_box 50 _ V _ rfl rfl rfl rfl ?_)
      intro w1 hb hbel
      have hc := hb.cell 0 (.int .i64 x.d) (by rw [HV.out.1]; rfl)
      have HB := Lib.hid hbel
      clear hb hbel
      go_wp2
      go_ret
      exact ⟨rfl, HB.out⟩
    · have d1 : (x.d == 1) = false := by simp [h1]
      have e1 : kindOf x = 2 := by unfold kindOf; rw [if_neg h0, if_neg h1]
      rw [e1]
      clear e1 h0 h1
      go_enter Tryz.func21, Tryz.ntmps21
      go_wp2_with (refine wpList_box 50 _ V _ rfl rfl rfl rfl ?_)
      intro w1 hb hbel
      have hc := hb.cell 0 (.int .i64 x.d) (by rw [HV.out.1]; rfl)
      have HB := Lib.hid hbel
      clear hb hbel
      go_wp2
      go_ret
      exact ⟨rfl, HB.out⟩

def okA (x : Acte) : Bool := decide (x.p.length ≤ 140) && decide (x.s.length ≤ 80)
def lightA (xs : List Acte) : Bool := xs.all okA && decide (xs.length ≤ 12)
theorem lightA_spec {xs : List Acte} (h : lightA xs = true) : xs.length ≤ 12 ∧ ∀ x ∈ xs, x.p.length ≤ 140 ∧ x.s.length ≤ 80 := by
  unfold lightA at h
  simp only [Bool.and_eq_true, decide_eq_true_eq, List.all_eq_true] at h
  refine ⟨h.2, fun x hx => ?_⟩
  have := h.1 x hx
  unfold okA at this
  simpa using this
theorem light_ok (ao : Option Addr) (n cap : Nat) (xs : List Acte) (w : World) (hn : xs.length = n) (hnb : n ≤ 9223372036854775807) (hx : ActsIn w ao xs) : Calls Tryz.prog 17 #[.slice ao n cap] w fun e w' => e = .returned (.bool (lightA xs)) ∧ w = w' := by
  have HN := Lib.hid hn
  have HX := Lib.hid hx
  clear hn hx
  go_enter Tryz.func17, Tryz.ntmps17
  go_wp2
  go_loopw [3] (fun c wr => ∃ i : Nat, i ≤ n ∧ c = .int .i64 i ∧ Hid ((xs.take i).all okA = true ∧ True) ∧ w = wr) (fun c _ => n - (intOf c).toNat)
  case atStart => exact ⟨0, by omega, rfl, ⟨by simp, trivial⟩, rfl⟩
  case round =>
    obtain ⟨i, hi, rfl, HA, rfl⟩ := hrel
    by_cases hlt : i < n
    · obtain ⟨x, hxi⟩ : ∃ x, xs[i]? = some x := ⟨xs[i]'(by rw [HN.out]; exact hlt), by simp⟩
      obtain ⟨hxin, b, off, rfl, hbl, hr⟩ := HX.out.at hxi
      have hc2 := hr 2 (.slice x.po x.p.length x.pc) rfl
      have hc3 := hr 3 (.slice x.so x.s.length x.sc) rfl
      have HTK := Lib.hid (show (xs.take (i + 1)).all okA = ((xs.take i).all okA && okA x) ∧ True from ⟨by rw [take_snoc' hxi, List.all_append]; simp, trivial⟩)
      have HALL := Lib.hid (show okA x = false → lightA xs = false from fun h => by
        unfold lightA
        have : xs.all okA = false := by
          rw [List.all_eq_false]
          exact ⟨x, List.mem_of_getElem? hxi, by simp [h]⟩
        rw [this]; rfl)
      obtain ⟨pl, hpl⟩ : ∃ l, l = x.p.length := ⟨_, rfl⟩
      obtain ⟨sl, hsl⟩ : ∃ l, l = x.s.length := ⟨_, rfl⟩
      have HOK := Lib.hid (show okA x = (decide (pl ≤ 140) && decide (sl ≤ 80)) ∧ True from ⟨by unfold okA; rw [hpl, hsl], trivial⟩)
      rw [← hpl] at hc2
      rw [← hsl] at hc3
      clear hxi hr hxin hpl hsl
      by_cases h1 : 140 < pl
      · have d1 : decide ((pl : Int) > 140) = true := by simp; omega
        have HF := Lib.hid (HALL.out (by rw [HOK.out.1]; simp; omega))
        go_wp2
        go_ret
        exact ⟨by rw [HF.out]; rfl, rfl⟩
      · have d1 : decide ((pl : Int) > 140) = false := by simp; omega
        by_cases h2 : 80 < sl
        · have d2 : decide ((sl : Int) > 80) = true := by simp; omega
          have HF := Lib.hid (HALL.out (by rw [HOK.out.1]; simp; omega))
          go_wp2
          go_ret
          exact ⟨by rw [HF.out]; rfl, rfl⟩
        · have d2 : decide ((sl : Int) > 80) = false := by simp; omega
          go_wp2
          go_roundw
          case rel => exact ⟨i + 1, by omega, by go_num, ⟨by rw [HTK.out.1, HA.out.1, HOK.out.1]; simp; omega, trivial⟩, by trivial⟩
          case measure => simp [intOf]; omega
    · obtain rfl : i = n := by omega
      have HL := Lib.hid (show lightA xs = decide (i ≤ 12) ∧ True from ⟨by unfold lightA; have := HA.out.1; rw [List.take_of_length_le (by rw [HN.out]; exact Nat.le_refl _)] at this; rw [this, HN.out]; simp, trivial⟩)
      have d9 : decide ((i : Int) ≤ 12) = decide (i ≤ 12) := by
        by_cases h : i ≤ 12
        · rw [decide_eq_true h]; simp; omega
        · rw [decide_eq_false h]; simp; omega
      go_wp2
      go_ret
      exact ⟨by rw [HL.out.1]; rfl, rfl⟩

theorem led_ok (ao : Option Addr) (n cap : Nat) (xs : List Acte) (w : World) (hn : xs.length = n) (hn1 : n ≤ 1000) (hx : ActsIn w ao xs) (hs : ∀ x ∈ xs, x.p.length ≤ 140 ∧ x.s.length ≤ 80) (hg : Globals w) (hbg : BGlob w) :
    Calls Tryz.prog 18 #[.slice ao n cap] w fun e w' => ∃ hp q p ss, e = .returned (.pointer (some ⟨hp, 0, none⟩)) ∧ Head w' hp q p ss ∧ rowOf ss = ledH xs ∧ w.heap.size ≤ hp ∧ Below w.heap.size w w' := by
  have HN := Lib.hid hn
  have HX := Lib.hid hx
  have HSM := Lib.hid hs
  have HG := Lib.hid hg
  have HBG := Lib.hid hbg
  clear hn hx hs hg hbg
  go_enter Tryz.func18, Tryz.ntmps18
  go_wp2_with fail
  refine (tables_ok _ HG.out).mono ?_
  rintro e w1 ⟨q, p, rfl, ht, hbel⟩
  have HT := Lib.hid ht
  have HB := Lib.hid hbel
  clear ht hbel
  go_wp2_with fail
  refine (hnew_ok' q p _ HT.out).mono ?_
  rintro e w2 ⟨hp, rfl, hh, hle, hbel⟩
  have HH := Lib.hid hh
  have hle' : w.heap.size ≤ hp := Nat.le_trans HB.out.size hle
  have HB := Lib.hid (HB.out.trans (hbel.mono HB.out.size))
  clear hh hbel hle HT
  go_wp2
  go_loopw [4] (fun c wr => ∃ (i : Nat) (ss : List Str), i ≤ n ∧ c = .int .i64 i ∧ Hid (rowOf ss = ledH (xs.take i) ∧ True) ∧ Hid (Head wr hp q p ss) ∧ Hid (Below w.heap.size w wr)) (fun c _ => n - (intOf c).toNat)
  case atStart => exact ⟨0, _, by omega, rfl, ⟨rfl, trivial⟩, HH, HB⟩
  case round =>
    clear HH HB
    obtain ⟨i, ss, hi, rfl, HRO, HH, HB⟩ := hrel
    by_cases hlt : i < n
    · obtain ⟨x, hxi⟩ : ∃ x, xs[i]? = some x := ⟨xs[i]'(by rw [HN.out]; exact hlt), by simp⟩
      obtain ⟨hxin, b, off, rfl, hbl, hr⟩ := (HX.out.below HB.out).at hxi
      have HXI := Lib.hid hxin
      have HLM := Lib.hid (HSM.out x (List.mem_of_getElem? hxi))
      have HR := Lib.hid hr
      have HSTEP := Lib.hid (show ledH (xs.take (i + 1)) = actH (rowOf ss) x ∧ True from ⟨by rw [take_snoc' hxi, HRO.out.1]; unfold ledH; rw [List.foldl_append]; rfl, trivial⟩)
      clear hxi hr hxin
      go_wp2_with (refine wpList_load_mid rfl 50 (.tmp 15) rfl b (off + i * 4) rfl x.vals _ HR.out Tryz.underlying50 rfl (by rw [Acte.vals_length]; kernel_rfl) ?_)
      go_wp2_with fail
      refine (kind_ok x _).mono ?_
      rintro e w3 ⟨rfl, hbel⟩
      have HB3 := Lib.hid hbel
      have HH := Lib.hid (HH.out.later hbel)
      have HR := Lib.hid (rangeAt_below HR.out hbel hbl)
      have hbl3 : b < w3.heap.size := Nat.lt_of_lt_of_le hbl hbel.size
      have HB := Lib.hid (HB.out.trans (hbel.mono HB.out.size))
      clear hbel
      have hc1 := fun (y : AfterK (fun u v => Below u.heap.size u v) w3.drew) => (rangeAt_below HR.out ((Below.refl _ w3).drew.trans y.rel) hbl3) 1 (.int .i64 x.n) rfl
      have hc2 := fun (y : AfterK (fun u v => Below u.heap.size u v) w3.drew) => (rangeAt_below HR.out ((Below.refl _ w3).drew.trans y.rel) hbl3) 2 (.slice x.po x.p.length x.pc) rfl
      have hc3 := fun (y : AfterK (fun u v => Below u.heap.size u v) w3.drew) => (rangeAt_below HR.out ((Below.refl _ w3).drew.trans y.rel) hbl3) 3 (.slice x.so x.s.length x.sc) rfl
      by_cases h0 : x.d = 0
      · have ek : kindOf x = 0 := by unfold kindOf; rw [if_pos h0]
        have HSTEP := Lib.hid (show ledH (xs.take (i + 1)) = layH (rowOf ss) x.n x.p x.s ∧ True from ⟨by rw [HSTEP.out.1]; unfold actH; rw [if_pos h0], trivial⟩)
        rw [ek]
        clear ek h0
        go_wp2_with fail
        refine wp_region_K (fun u v => Below u.heap.size u v) [16] [(0, true), (1, true), (2, true), (3, true), (4, true), (5, true), (6, true), (7, true), (8, true), (9, true), (10, true), (11, true), (12, true), (13, true), (14, true), (15, true), (16, false)] (fun a => Below.refl _ a) (fun _ _ _ h1 h2 => h1.trans (h2.mono h1.size)) (by kernel_rfl) (by kernel_rfl) ?_
        rintro w4 rfl
        repeat ((first | refine walkK_one rfl rfl (fun K hK => ?_) | refine walkK_alone Below.refl rfl rfl (fun K hK => ?_)); go_big_quiet_step (fail); refine wpQuiet_nil (hK _ ?_); clear hK K)
        clear hc1 hc2 hc3
        have HB := Lib.hid HB.out.drew
        have HH := Lib.hid HH.out.drew
        refine walkK_free rfl (by rfl) (fun K hK => ?_)
        go_simp
        refine (lay_any hp q p ss x.n x.po x.p.length x.pc x.p x.so x.s.length x.sc x.s _ HH.out (HBG.out.below HB.out) rfl (by have := HLM.out; omega) HXI.out.pc.1 (HXI.out.p.below (HB3.out.drew)) rfl (by have := HLM.out; omega) HXI.out.sc.1 (HXI.out.s.below (HB3.out.drew))).mono ?_
        rintro e w5 ⟨rfl, ⟨ss', hh', hro'⟩, hwr⟩
        have HH := Lib.hid hh'
        have HRO := Lib.hid (show rowOf ss' = ledH (xs.take (i + 1)) ∧ True from ⟨by rw [hro', HSTEP.out.1], trivial⟩)
        have HB := Lib.hid (hwr.below HB.out hle' HB.out.size)
        go_simp
        refine hK _ _ (fun h => by cases h) ?_
        clear hK K hh' hro' hwr
        repeat ((first | refine walkK_one rfl rfl (fun K hK => ?_) | refine walkK_alone Below.refl rfl rfl (fun K hK => ?_)); go_big_quiet_step (fail); refine wpQuiet_nil (hK _ ?_); clear hK K)
        refine walkK_nil ?_
        go_wp2
        go_roundw
        case rel => exact ⟨i + 1, ss', by omega, by go_num, HRO, HH, HB⟩
        case measure => simp [intOf]; omega
      · by_cases h1 : x.d = 1
        · have ek : kindOf x = 1 := by unfold kindOf; rw [if_neg h0, if_pos h1]
          have HSTEP := Lib.hid (show ledH (xs.take (i + 1)) = clearH (rowOf ss) x.n ∧ True from ⟨by rw [HSTEP.out.1]; unfold actH; rw [if_neg h0, if_pos h1], trivial⟩)
          have hc1' := HR.out 1 (.int .i64 x.n) rfl
          rw [ek]
          clear ek h0 h1 hc1 hc2 hc3
          go_wp2_with fail
          refine (clear_any hp q p ss x.n _ HH.out).mono ?_
          rintro e w4 ⟨rfl, ⟨ss', hh', hro'⟩, hwr⟩
          have HH := Lib.hid hh'
          have HRO := Lib.hid (show rowOf ss' = ledH (xs.take (i + 1)) ∧ True from ⟨by rw [hro', HSTEP.out.1], trivial⟩)
          have HB := Lib.hid (hwr.below HB.out hle' HB.out.size)
          clear hh' hro' hwr
          go_wp2
          go_roundw
          case rel => exact ⟨i + 1, ss', by omega, by go_num, HRO, HH, HB⟩
          case measure => simp [intOf]; omega
        · have ek : kindOf x = 2 := by unfold kindOf; rw [if_neg h0, if_neg h1]
          have HRO := Lib.hid (show rowOf ss = ledH (xs.take (i + 1)) ∧ True from ⟨by rw [HSTEP.out.1]; unfold actH; rw [if_neg h0, if_neg h1], trivial⟩)
          rw [ek]
          clear ek h0 h1 hc1 hc2 hc3
          go_wp2
          go_roundw
          case rel => exact ⟨i + 1, ss, by omega, by go_num, HRO, HH, HB⟩
          case measure => simp [intOf]; omega
    · obtain rfl : i = n := by omega
      have HRO := Lib.hid (show rowOf ss = ledH xs ∧ True from ⟨by rw [HRO.out.1, List.take_of_length_le (by rw [HN.out]; exact Nat.le_refl _)], trivial⟩)
      go_wp2
      go_ret
      exact ⟨hp, q, p, ss, rfl, HH.out, HRO.out.1, hle', HB.out⟩

end Go.Proofs.YtnkaodjfjllkfaaGreatDoor
/-
  The walk of SlotsKept.
-/
set_option linter.unusedSimpArgs false
set_option linter.unusedVariables false
namespace Go.Mem
open Go.RowKit Go.Cells Go.Ops
theorem own_blkT {w : World} {base n : Nat} {e : TypeId} {v : Value} {xs : List Value} (h : w.ownsRow base e 1 v n xs) (hn : 0 < n) : ∃ g cap tl, v = .slice (some ⟨g, 0, none⟩) n cap ∧ Blk w g (xs ++ tl) e ∧ base ≤ g ∧ n ≤ cap := by
  rcases h.2 with ⟨_, h0⟩ | ⟨g, cap, cur, rfl, hb, hg, h1, h2, h3, ht⟩
  · omega
  · refine ⟨g, cap, cur.toList.drop (n * 1), rfl, ?_, hb, h1⟩
    rw [← ht, List.take_append_drop]
    unfold Blk
    rw [hg]
theorem Lies.off {w w' : World} {ao : Option Addr} {xs : List Value} {c : Nat} (h : Lies w ao xs) (ho : Only c w w') (hf : ∀ a, ao = some a → a.block ≠ c) : Lies w' ao xs := by
  intro j u hu
  obtain ⟨b, off, e, hc⟩ := h j u hu
  exact ⟨b, off, e, (ho.cellOther (off + j) (hf _ e)).trans hc⟩
end Go.Mem
namespace Go.Cells
open Go.RowKit
theorem St.other {w0 w w' : World} {base b : Nat} {L : List (Nat × List Value × TypeId)} (h : St w0 base w L) (ho : Only b w w') (hb : base ≤ b) (hne : ∀ e ∈ L, e.1 ≠ b) : St w0 base w' L :=
  ⟨h.base_le, below_only h.bel ho hb, fun e he => (h.all e he).only ho (hne e he)⟩
end Go.Cells
namespace Go.Proofs.YtnkaodjfjllkfaaGreatDoor
open Go.RowKit Go.Mem Go.Ops Go.Cells Go.Oct Go.Gf Go.Trn Go.Aes Go.Ring Go.Ezk Go.Ezh Go.Ezt Go.Aez Go.Blake Go.CutP Go.Fl Go.Slot Go.Open
set_option maxRecDepth 100000
attribute [local irreducible] walkR walkP walk0 walkB walkK

theorem bytesH_ge : ∀ (s : Hdr), s.length ≤ (bytesH s).length
  | [] => Nat.le_refl _
  | b :: r => by
    have := bytesH_ge r
    simp only [bytesH, List.length_cons, List.length_append]
    omega
theorem Head.off {w w' : World} {hp q p c : Nat} {ss : List Str} {vs : List Value} (h : Head w hp q p ss) (hc : Blk w c vs 5) (ho : Only c w w') (hf : ∀ s ∈ ss, ∀ a, s.a = some a → a.block ≠ c) : Head w' hp q p ss :=
  ⟨h.tab.only ho (h.tab.boxes.ne' hc (by decide)) (h.tab.tab.ne' hc (by decide)), h.blk.only ho (h.blk.ne' hc (by decide)), h.len, fun s hs => ⟨(h.each s hs).le, (h.each s hs).lies.off ho (hf s hs)⟩, h.nil⟩

theorem right15_ok (ao : Option Addr) (n cap : Nat) (w : World) : Calls Tryz.prog 10 #[.slice ao n cap] w fun e w' => e = .returned (.bool (decide (0 < n ∧ n ≤ 128))) ∧ w = w' := by
  by_cases h0 : n = 0
  · subst h0
    have d1 : decide (0 < 0 ∧ 0 ≤ 128) = false := by decide
    rw [d1]
    go_enter Tryz.func10, Tryz.ntmps10
    go_wp2
    go_ret
    exact ⟨rfl, rfl⟩
  · have d0 : decide ((n : Int) > 0) = true := by simp; omega
    by_cases h1 : n ≤ 128
    · have d1 : decide (0 < n ∧ n ≤ 128) = true := by simp; omega
      have d2 : decide ((n : Int) ≤ 128) = true := by simp; omega
      rw [d1]
      go_enter Tryz.func10, Tryz.ntmps10
      go_wp2
      go_ret
      exact ⟨rfl, rfl⟩
    · have d1 : decide (0 < n ∧ n ≤ 128) = false := by simp; omega
      have d2 : decide ((n : Int) ≤ 128) = false := by simp; omega
      rw [d1]
      go_enter Tryz.func10, Tryz.ntmps10
      go_wp2
      go_ret
      exact ⟨rfl, rfl⟩

set_option maxHeartbeats 8000000 in
theorem kept_law (ao : Option Addr) (n cap : Nat) (bs : List UInt8) (bo : Option Addr) (m cb : Nat) (cs : List UInt8) (w : World) (hn : bs.length = n) (hc : n ≤ cap) (hcm : cap ≤ maxLen) (hl : Lies w ao (bs.map B)) (hm : cs.length = m) (hd : m ≤ cb) (hdm : cb ≤ maxLen) (hk : Lies w bo (cs.map B)) (hg : Globals w) (hbg : BGlob w) :
    Calls Tryz.prog 3 #[.slice ao n cap, .slice bo m cb] w fun e w' => e = .returned (.bool true) ∧ Below w.heap.size w w' := by
  obtain ⟨i0, hi0, hz0, hz1, hz2⟩ := info_parts Tryz.infoB
  have HI := Lib.hid (And.intro hi0 (And.intro hz0 (And.intro hz1 hz2)))
  have HN := Lib.hid hn
  have HM := Lib.hid hm
  have HL := Lib.hid hl
  have HK := Lib.hid hk
  have HG := Lib.hid hg
  have HBG := Lib.hid hbg
  have HS := Lib.hid (St.start w)
  clear hi0 hz0 hz1 hz2 hn hm hl hk hg hbg hcm hdm
  by_cases hr : 0 < n ∧ n ≤ 128
  · by_cases hs : m = 0 ∨ 64 < m
    · have dr : decide (0 < n ∧ n ≤ 128) = true := by simp; omega
      by_cases h0 : m = 0
      · have d0 : ((m : Int) == 0) = true := by simp; omega
        go_enter Tryz.func3, Tryz.ntmps3
        go_wp2_with fail
        refine (right15_ok ao n cap _).mono ?_
        rintro e w1 ⟨rfl, rfl⟩
        rw [dr]
        go_wp2
        go_ret
        exact ⟨rfl, HS.out.bel⟩
      · have d0 : ((m : Int) == 0) = false := by simp; omega
        have d1 : decide ((m : Int) > 64) = true := by simp; omega
        go_enter Tryz.func3, Tryz.ntmps3
        go_wp2_with fail
        refine (right15_ok ao n cap _).mono ?_
        rintro e w1 ⟨rfl, rfl⟩
        rw [dr]
        go_wp2
        go_ret
        exact ⟨rfl, HS.out.bel⟩
    · have dr : decide (0 < n ∧ n ≤ 128) = true := by simp; omega
      have d0 : ((m : Int) == 0) = false := by simp; omega
      have d1 : decide ((m : Int) > 64) = false := by simp; omega
      go_enter Tryz.func3, Tryz.ntmps3
      go_wp2_with fail
      refine (right15_ok ao n cap _).mono ?_
      rintro e w1 ⟨rfl, rfl⟩
      rw [dr]
      go_wp2_with (at_builtin; refine wpList_append_any rfl (.tmp 28) (.tmp 29) 22 rfl w.heap.size 5 i0 (.int .u8 0) 1 Tryz.underlying22 HI.out.1 HI.out.2.1 HI.out.2.2.1 HI.out.2.2.2 rfl _ 0 [] rfl (World.ownsRow_lit w #[] 0 (Nat.le_refl _) (by decide) rfl) ao n cap (bs.map B) rfl (by rw [List.length_map]; exact HN.out) (HL.out.below (later_alloc w _)) (B_one _) (by unfold maxLen; omega) (by omega) (by simp) ?_)
      intro v3 w3 hown3 hg3
      have HB := Lib.hid (below_append (later_alloc w (.cells #[] 5)) (World.ownsRow_lit (base := w.heap.size) (e := 5) (size := 1) w #[] 0 (Nat.le_refl _) (by decide) rfl) hg3 (Nat.le_refl _) (by simp))
      obtain ⟨g1, c1, t1, rfl, hb1, hge1, hcc1⟩ := own_blkT hown3 (by omega)
      have HS := Lib.hid (show St w w.heap.size w3 [(g1, bs.map B ++ t1, 5)] from ⟨Nat.le_refl _, HB.out, by intro e he; simp at he; subst he; simpa using hb1⟩)
      have hlt1 : g1 < w3.heap.size := hb1.lt
      clear hown3 hg3 hb1
      go_wp2_with (at_builtin; refine wpList_append_any rfl (.tmp 31) (.tmp 32) 22 rfl w3.heap.size 5 i0 (.int .u8 0) 1 Tryz.underlying22 HI.out.1 HI.out.2.1 HI.out.2.2.1 HI.out.2.2.2 rfl _ 0 [] rfl (World.ownsRow_lit w3 #[] 0 (Nat.le_refl _) (by decide) rfl) bo m cb (cs.map B) rfl (by rw [List.length_map]; exact HM.out) ((HK.out.below HB.out).below (later_alloc w3 _)) (B_one _) (by unfold maxLen; omega) (by omega) (by simp) ?_)
      intro v4 w4 hown4 hg4
      have hB4 := below_append (later_alloc w3 (.cells #[] 5)) (World.ownsRow_lit (base := w3.heap.size) (e := 5) (size := 1) w3 #[] 0 (Nat.le_refl _) (by decide) rfl) hg4 (Nat.le_refl _) (by simp)
      obtain ⟨g2, c2, t2, rfl, hb2, hge2, hcc2⟩ := own_blkT hown4 (by omega)
      have HS := Lib.hid (show St w w.heap.size w4 [(g2, cs.map B ++ t2, 5), (g1, bs.map B ++ t1, 5)] from (HS.out.later hB4).add (by simpa using hb2))
      have hlt2 : g2 < w4.heap.size := hb2.lt
      clear hown4 hg4 hb2 hB4 HB
      go_wp2_with fail
      refine (tables_ok _ (HG.out.below HS.out.bel)).mono ?_
      rintro e w5 ⟨q, p, rfl, ht, hbel⟩
      have HT := Lib.hid ht
      have HS := Lib.hid (HS.out.later hbel)
      have hz5 := hbel.size
      clear ht hbel
      go_wp2_with fail
      refine (hnew_ok' q p _ HT.out).mono ?_
      rintro e w6 ⟨hp, rfl, hh, hle, hbel⟩
      have HH := Lib.hid hh
      have HS := Lib.hid (HS.out.later hbel)
      have hz6 := hbel.size
      have hle' : w.heap.size ≤ hp := Nat.le_trans (by have := HS.out.size; omega) hle
      clear hh hbel HT
      go_wp2_with fail
      refine (lay_far hp q p (List.replicate 8 nilS) 0 (some ⟨g1, 0, none⟩) n c1 bs (some ⟨g2, 0, none⟩) m c2 cs _ HH.out (HBG.out.below HS.out.bel) (by omega) HN.out (by omega) (by omega) hcc1 ((HS.out.get 1 rfl).liesIn 0 (by simp)) HM.out (by omega) (by omega) hcc2 ((HS.out.get 0 rfl).liesIn 0 (by simp))).mono ?_
      rintro e w7 ⟨rfl, ⟨s, hh7, hsb, hfar⟩, hwr⟩
      have HH := Lib.hid hh7
      have HFAR := Lib.hid hfar
      have HRW := Lib.hid (show rowOf ((List.replicate 8 nilS).set 0 s) = emptyH.set 0 (sealS 0 bs cs) ∧ True from ⟨by rw [rowOf_set, hsb]; rfl, trivial⟩)
      have HOKA := Lib.hid (show Okay (rowOf ((List.replicate 8 nilS).set 0 s)) from by rw [HRW.out.1]; exact Okay.empty.set 0 (.inr (by rw [sealS_length, HM.out]; omega)))
      have HFI := Lib.hid (show findH bs (rowOf ((List.replicate 8 nilS).set 0 s)) = some (cs, 0) ∧ True from ⟨by rw [HRW.out.1]; exact findH_first (by simp [emptyH]) (fun i hi => by omega), trivial⟩)
      obtain ⟨wl, hwb, hwo⟩ := hwr
      have HS := Lib.hid ((HS.out.later hwb).other hwo (by omega) (by simp; omega))
      have hz7 : w6.heap.size ≤ w7.heap.size := by rw [hwo.size]; exact hwb.size
      clear hh7 hsb hfar hwb hwo
      have F1 := string_ok w7 (some ⟨g1, 0, none⟩) n c1 bs HN.out ((HS.out.get 1 rfl).liesIn 0 (by simp))
      have F2 := string_ok w7 ao n cap bs HN.out (HL.out.below HS.out.bel)
      have F3 := string_ok w7 (some ⟨g2, 0, none⟩) m c2 cs HM.out ((HS.out.get 0 rfl).liesIn 0 (by simp))
      have F4 := string_ok w7 bo m cb cs HM.out (HK.out.below HS.out.bel)
      generalize str bs = sb at *
      generalize str cs = sc at *
      go_wp2
      go_loopw [8] (fun c wr => ∃ (i : Nat) (ls : List UInt8), i ≤ n ∧ c = .int .i64 i ∧ Hid (ls.length = n ∧ True) ∧ Hid (St w w.heap.size wr [(g2, cs.map B ++ t2, 5), (g1, ls.map B ++ t1, 5)]) ∧ Hid (Head wr hp q p ((List.replicate 8 nilS).set 0 s)) ∧ w7.heap.size ≤ wr.heap.size) (fun c _ => n - (intOf c).toNat)
      case atStart => exact ⟨0, bs, by omega, rfl, ⟨HN.out, trivial⟩, HS, HH, by omega⟩
      case round =>
        clear HS HH
        obtain ⟨i, ls, hi, rfl, HLL, HS, HH, hw7⟩ := hrel
        by_cases hlt : i < n
        · obtain ⟨x, hx⟩ : ∃ x, ls[i]? = some x := ⟨ls[i]'(by rw [HLL.out.1]; exact hlt), by simp⟩
          have hc := (HS.out.get 1 rfl).cell i (B x) (by rw [List.getElem?_append_left (by rw [List.length_map, HLL.out.1]; exact hlt)]; exact mapB_at hx)
          have HLN := Lib.hid (show (ls.set i (xor8 x 255)).length = n ∧ True from ⟨by rw [List.length_set]; exact HLL.out.1, trivial⟩)
          have HSE := Lib.hid (show (ls.map B ++ t1).set i (B (xor8 x 255)) = (ls.set i (xor8 x 255)).map B ++ t1 ∧ True from ⟨by rw [List.set_append_left _ _ (by rw [List.length_map, HLL.out.1]; exact hlt), mapB_set], trivial⟩)
          have hfit : i < (ls.map B ++ t1).length := by rw [List.length_append, List.length_map, HLL.out.1]; omega
          clear hx
          go_wp2_with (refine (HS.out.get 1 rfl).wset (i := i) (v := B (xor8 x 255)) rfl rfl rfl rfl Tryz.sizeByte rfl rfl hfit ?_)
          intro w' hb' ho'
          rw [HSE.out.1] at hb'
          have HH := Lib.hid (HH.out.off (HS.out.get 1 rfl) ho' (by
            intro t ht a ha
            rcases List.mem_or_eq_of_mem_set ht with ht | rfl
            · obtain rfl := List.eq_of_mem_replicate ht
              cases ha
            · have := HFAR.out a ha
              omega))
          have HS := Lib.hid (HS.out.change 1 hb' ho' (by omega) (by simp; omega))
          have hsz' : w7.heap.size ≤ w'.heap.size := by rw [ho'.size]; exact hw7
          clear hb' ho' hc
          go_wp2
          go_roundw
          case rel => exact ⟨i + 1, _, by omega, by go_num, HLN, HS, HH, hsz'⟩
          case measure => simp [intOf]; omega
        · obtain rfl : n = i := by omega
          clear hlt hi
          obtain ⟨xs, hxs⟩ : ∃ xs, xs = ls := ⟨_, rfl⟩
          rw [← hxs] at HLL HS
          clear hxs
          go_wp2
          go_loopw [9] (fun c wr => ∃ (i : Nat) (ls : List UInt8), i ≤ m ∧ c = .int .i64 i ∧ Hid (ls.length = m ∧ True) ∧ Hid (St w w.heap.size wr [(g2, ls.map B ++ t2, 5), (g1, xs.map B ++ t1, 5)]) ∧ Hid (Head wr hp q p ((List.replicate 8 nilS).set 0 s)) ∧ w7.heap.size ≤ wr.heap.size) (fun c _ => m - (intOf c).toNat)
          case atStart => exact ⟨0, cs, by omega, rfl, ⟨HM.out, trivial⟩, HS, HH, by omega⟩
          case round =>
            clear HS HH
            obtain ⟨i, ls, hi, rfl, HLL, HS, HH, hw7⟩ := hrel
            by_cases hlt : i < m
            · obtain ⟨x, hx⟩ : ∃ x, ls[i]? = some x := ⟨ls[i]'(by rw [HLL.out.1]; exact hlt), by simp⟩
              have hc := (HS.out.get 0 rfl).cell i (B x) (by rw [List.getElem?_append_left (by rw [List.length_map, HLL.out.1]; exact hlt)]; exact mapB_at hx)
              have HLN := Lib.hid (show (ls.set i (xor8 x 255)).length = m ∧ True from ⟨by rw [List.length_set]; exact HLL.out.1, trivial⟩)
              have HSE := Lib.hid (show (ls.map B ++ t2).set i (B (xor8 x 255)) = (ls.set i (xor8 x 255)).map B ++ t2 ∧ True from ⟨by rw [List.set_append_left _ _ (by rw [List.length_map, HLL.out.1]; exact hlt), mapB_set], trivial⟩)
              have hfit : i < (ls.map B ++ t2).length := by rw [List.length_append, List.length_map, HLL.out.1]; omega
              clear hx
              go_wp2_with (refine (HS.out.get 0 rfl).wset (i := i) (v := B (xor8 x 255)) rfl rfl rfl rfl Tryz.sizeByte rfl rfl hfit ?_)
              intro w' hb' ho'
              rw [HSE.out.1] at hb'
              have HH := Lib.hid (HH.out.off (HS.out.get 0 rfl) ho' (by
                intro t ht a ha
                rcases List.mem_or_eq_of_mem_set ht with ht | rfl
                · obtain rfl := List.eq_of_mem_replicate ht
                  cases ha
                · have := HFAR.out a ha
                  omega))
              have HS := Lib.hid (HS.out.change 0 hb' ho' (by omega) (by simp; omega))
              have hsz' : w7.heap.size ≤ w'.heap.size := by rw [ho'.size]; exact hw7
              clear hb' ho' hc
              go_wp2
              go_roundw
              case rel => exact ⟨i + 1, _, by omega, by go_num, HLN, HS, HH, hsz'⟩
              case measure => simp [intOf]; omega
            · obtain rfl : m = i := by omega
              clear hlt hi
              obtain ⟨ys, hys⟩ : ∃ ys, ys = ls := ⟨_, rfl⟩
              rw [← hys] at HLL HS
              clear hys
              obtain ⟨rs, hrs⟩ : ∃ rs, rs = bytesH (rowOf ((List.replicate 8 nilS).set 0 s)) := ⟨_, rfl⟩
              obtain ⟨k3, hk3⟩ : ∃ k, k = rs.length := ⟨_, rfl⟩
              have HRS := Lib.hid (show bytesH (rowOf ((List.replicate 8 nilS).set 0 s)) = rs ∧ True from ⟨hrs.symm, trivial⟩)
              have HK3 := Lib.hid (show rs.length = k3 ∧ True from ⟨hk3.symm, trivial⟩)
              have hk30 : 0 < k3 := by
                rw [hk3, hrs]
                exact Nat.lt_of_lt_of_le (by simp [rowOf]) (bytesH_ge _)
              have hk3b : k3 ≤ 1000 := by
                rw [hk3, hrs]
                exact Nat.le_trans (bytesH_le _ HOKA.out) (by simp [rowOf])
              clear hrs hk3
              go_wp2_with fail
              refine (hbytes_ok hp q p _ _ HH.out HOKA.out).mono ?_
              rintro e w9 ⟨v9, rfl, hown9, hbel⟩
              rw [HRS.out.1, HK3.out.1] at hown9
              obtain ⟨g3, c3, t3, rfl, hb3, hge3, hcc3⟩ := own_blkT hown9 hk30
              have HH := Lib.hid (HH.out.later hbel)
              have HS := Lib.hid ((HS.out.later hbel).add hb3)
              have hg37 : w7.heap.size ≤ g3 := by omega
              have hg3w : w.heap.size ≤ g3 := by omega
              have hz9 := hbel.size
              clear hown9 hb3 hbel
              go_wp2
              go_loopw [11] (fun c wr => ∃ (i : Nat) (ls : List UInt8), i ≤ k3 ∧ c = .int .i64 i ∧ Hid (ls.length = k3 ∧ True) ∧ Hid (St w w.heap.size wr [(g3, ls.map B ++ t3, 5), (g2, ys.map B ++ t2, 5), (g1, xs.map B ++ t1, 5)]) ∧ Hid (Head wr hp q p ((List.replicate 8 nilS).set 0 s)) ∧ w7.heap.size ≤ wr.heap.size) (fun c _ => k3 - (intOf c).toNat)
              case atStart => exact ⟨0, rs, by omega, rfl, ⟨HK3.out.1, trivial⟩, HS, HH, by omega⟩
              case round =>
                clear HS HH
                obtain ⟨i, ls, hi, rfl, HLL, HS, HH, hw7⟩ := hrel
                by_cases hlt : i < k3
                · obtain ⟨x, hx⟩ : ∃ x, ls[i]? = some x := ⟨ls[i]'(by rw [HLL.out.1]; exact hlt), by simp⟩
                  have hc := (HS.out.get 0 rfl).cell i (B x) (by rw [List.getElem?_append_left (by rw [List.length_map, HLL.out.1]; exact hlt)]; exact mapB_at hx)
                  have HLN := Lib.hid (show (ls.set i (xor8 x 255)).length = k3 ∧ True from ⟨by rw [List.length_set]; exact HLL.out.1, trivial⟩)
                  have HSE := Lib.hid (show (ls.map B ++ t3).set i (B (xor8 x 255)) = (ls.set i (xor8 x 255)).map B ++ t3 ∧ True from ⟨by rw [List.set_append_left _ _ (by rw [List.length_map, HLL.out.1]; exact hlt), mapB_set], trivial⟩)
                  have hfit : i < (ls.map B ++ t3).length := by rw [List.length_append, List.length_map, HLL.out.1]; omega
                  clear hx
                  go_wp2_with (refine (HS.out.get 0 rfl).wset (i := i) (v := B (xor8 x 255)) rfl rfl rfl rfl Tryz.sizeByte rfl rfl hfit ?_)
                  intro w' hb' ho'
                  rw [HSE.out.1] at hb'
                  have HH := Lib.hid (HH.out.off (HS.out.get 0 rfl) ho' (by
                    intro t ht a ha
                    rcases List.mem_or_eq_of_mem_set ht with ht | rfl
                    · obtain rfl := List.eq_of_mem_replicate ht
                      cases ha
                    · have := HFAR.out a ha
                      omega))
                  have HS := Lib.hid (HS.out.change 0 hb' ho' (by omega) (by simp; omega))
                  have hsz' : w7.heap.size ≤ w'.heap.size := by rw [ho'.size]; exact hw7
                  clear hb' ho' hc
                  go_wp2
                  go_roundw
                  case rel => exact ⟨i + 1, _, by omega, by go_num, HLN, HS, HH, hsz'⟩
                  case measure => simp [intOf]; omega
                · obtain rfl : k3 = i := by omega
                  clear hlt hi
                  go_wp2_with fail
                  refine (find_ok hp q p _ ao n cap bs _ HH.out (HBG.out.below HS.out.bel) (fun t ht => HOKA.out t.bs (List.mem_map.2 ⟨t, ht, rfl⟩)) HN.out (by omega) (by omega) hc (HL.out.below HS.out.bel)).mono ?_
                  rintro e w12 ⟨hfi, hbel⟩
                  rw [HFI.out.1] at hfi
                  obtain ⟨ax, rfl, hlx⟩ := hfi
                  have HLX := Lib.hid hlx
                  have HS := Lib.hid (HS.out.later hbel)
                  clear hlx hbel
                  rw [HM.out]
                  have F1 := string_ok w12 ax m m cs HM.out HLX.out
                  have F2 := string_ok w12 bo m cb cs HM.out (HK.out.below HS.out.bel)
                  generalize str cs = sc at *
                  go_wp2_with fail
                  refine (awake_ok _ (HG.out.below HS.out.bel) (HBG.out.below HS.out.bel)).mono ?_
                  rintro e w13 ⟨rfl, hbel⟩
                  have HS := Lib.hid (HS.out.later hbel)
                  clear hbel
                  go_wp2
                  go_ret
                  exact ⟨rfl, HS.out.bel⟩
  · have dr : decide (0 < n ∧ n ≤ 128) = false := by simp; omega
    go_enter Tryz.func3, Tryz.ntmps3
    go_wp2_with fail
    refine (right15_ok ao n cap _).mono ?_
    rintro e w1 ⟨rfl, rfl⟩
    rw [dr]
    go_wp2
    go_ret
    exact ⟨rfl, HS.out.bel⟩

end Go.Proofs.YtnkaodjfjllkfaaGreatDoor
/-
  What the row's hypothesis on listed variables says of memory: turn's and blake's variables; a world that meets it.
-/
namespace Go.Proofs.YtnkaodjfjllkfaaGreatDoor
open Go.RowKit Go.Mem Go.Ops Go.Cells Go.Trn Go.Blake Go.ChangeShapes Go.WideShapes
set_option linter.unusedSimpArgs false
set_option linter.unusedVariables false
set_option maxRecDepth 100000

/-- The list of the rows. -/
def laid4 : List (String × DataW Unit) := [("wringer/blake.first", Rows.laid_wringer_blake_first), ("wringer/blake.rows", Rows.laid_wringer_blake_rows), ("wringer/turn.mixes", Rows.laid_wringer_turn_mixes), ("wringer/turn.unmixes", Rows.laid_wringer_turn_unmixes)]

theorem gMixes : Tryz.prog.globalNamed "wringer/turn.mixes" = some 0 := by kernel_rfl
theorem gUnmixes : Tryz.prog.globalNamed "wringer/turn.unmixes" = some 1 := by kernel_rfl
theorem gFirst : Tryz.prog.globalNamed "wringer/blake.first" = some 2 := by kernel_rfl
theorem gRows : Tryz.prog.globalNamed "wringer/blake.rows" = some 3 := by kernel_rfl
theorem tMixes : (Tryz.prog.globals[0]?).map (·.type) = some 107 := by kernel_rfl
theorem tUnmixes : (Tryz.prog.globals[1]?).map (·.type) = some 107 := by kernel_rfl
theorem tFirst : (Tryz.prog.globals[2]?).map (·.type) = some 199 := by kernel_rfl
theorem tRows : (Tryz.prog.globals[3]?).map (·.type) = some 329 := by kernel_rfl

section
variable {H : Type} {enc : TypeId × Value → H} {P : Program} {w : World} {base : Nat} {spare : Nat → Bool} {held : Bool}
/-- A row of numbers that reads as given numbers holds these numbers. -/
theorem ints_of_trod {t e : TypeId} {fuel n : Nat} {k : IntKind} {cs : List Value} {l : List Int} {p : List MemPlace}
    (ht : P.underlying t = some (.array n e)) (he : P.underlying e = some (.int k)) (hce : P.cellsOf e = 1) (hct : P.cellsOf t = n)
    (h : DataW.trod enc P w base spare held fuel t cs = some (.agg (l.map fun i => .lit (.int k i)), p)) : cs = l.map (.int k ·) := by
  obtain ⟨xs, m, _, hx, hlen, hn, hel⟩ := DataW.trod_array ht h
  rw [hct] at hlen
  simp only [Prod.mk.injEq, DataW.agg.injEq] at hx
  have hll : l.length = n := by have := congrArg List.length hx.1; simpa [hn] using this
  apply List.ext_getElem?
  intro i
  by_cases hi : i < n
  · have h1 := hel i hi
    have hxi : ∃ x, xs[i]? = some x := ⟨xs[i]'(by omega), by simp⟩
    obtain ⟨x, hxi⟩ := hxi
    rw [hxi, hce, Nat.mul_one] at h1
    obtain ⟨n0, e0, r0, _⟩ := DataW.trod_int he h1
    have h2 := congrArg (fun (q : List (DataW H)) => q[i]?) hx.1
    simp only [List.getElem?_map, hxi, Option.map_some, r0] at h2
    have hc : cs[i]? = some (.int k n0) := by
      have := congrArg (fun q : List Value => q[0]?) e0
      simpa [List.getElem?_take, List.getElem?_drop] using this
    rw [hc, List.getElem?_map]
    cases hli : l[i]? with
    | none => rw [hli] at h2; simp at h2
    | some y => rw [hli] at h2; simp at h2; simp [h2]
  · rw [List.getElem?_eq_none (by omega), List.getElem?_eq_none (by simp; omega)]
theorem pieces {n : Nat} {g : List Int → List Value} : ∀ (ll : List (List Int)) (cs : List Value), cs.length = ll.length * n → (∀ i l, ll[i]? = some l → (cs.drop (i * n)).take n = g l) → cs = (ll.map g).flatten
  | [], cs, h, _ => by
    have : cs = [] := List.eq_nil_of_length_eq_zero (by simpa using h)
    simp [this]
  | l :: ll, cs, h, hg => by
    have h0 := hg 0 l rfl
    simp only [Nat.zero_mul, List.drop_zero] at h0
    have hr := pieces (n := n) ll (cs.drop n) (by rw [List.length_drop, h, List.length_cons, Nat.add_mul]; omega) (fun i l' hl => by
      have := hg (i + 1) l' (by simpa using hl)
      rw [List.drop_drop]
      rw [Nat.add_mul, Nat.one_mul, Nat.add_comm] at this
      exact this)
    rw [List.map_cons, List.flatten_cons, ← hr, ← h0, List.take_append_drop]
/-- A row of rows of numbers. -/
theorem rows_of_trod {t t1 e : TypeId} {fuel m n : Nat} {k : IntKind} {cs : List Value} {ll : List (List Int)} {p : List MemPlace}
    (ht : P.underlying t = some (.array m t1)) (ht1 : P.underlying t1 = some (.array n e)) (he : P.underlying e = some (.int k)) (hce : P.cellsOf e = 1) (hct1 : P.cellsOf t1 = n) (hct : P.cellsOf t = m * n)
    (h : DataW.trod enc P w base spare held fuel t cs = some (.agg (ll.map fun l => .agg (l.map fun i => .lit (.int k i))), p)) : cs = (ll.map fun l => l.map (.int k ·)).flatten := by
  obtain ⟨xs, f, _, hx, hlen, hn, hel⟩ := DataW.trod_array ht h
  rw [hct] at hlen
  simp only [Prod.mk.injEq, DataW.agg.injEq] at hx
  have hll : ll.length = m := by have := congrArg List.length hx.1; simpa [hn] using this
  refine pieces (n := n) ll cs (by rw [hlen, hll]) fun i l hl => ?_
  have hi : i < m := by rw [← hll]; exact (List.getElem?_eq_some_iff.1 hl).1
  have h1 := hel i hi
  obtain ⟨x, hxi⟩ : ∃ x, xs[i]? = some x := ⟨xs[i]'(by omega), by simp⟩
  rw [hxi, hct1] at h1
  have h2 := congrArg (fun (q : List (DataW H)) => q[i]?) hx.1
  simp only [List.getElem?_map, hxi, Option.map_some, hl] at h2
  obtain ⟨x1, x2⟩ := x
  simp only [Option.some.injEq] at h2
  subst h2
  exact ints_of_trod ht1 he hce hct1 h1
end

theorem blk_of_var {P : Program} {w : World} {n : String} {g : Nat} {cs : Array Value} {vs : List Value} (hg : P.globalNamed n = some g) (hv : w.var? P n = some cs) (hcs : cs.toList = vs)
    (hz : ∃ c t, w.heap[g]? = some (.cells c t (0, 0))) : Blk w g vs (tyAt w g) := by
  obtain ⟨c, t, hb⟩ := hz
  have h1 : cs = c := by
    simp only [World.var?, hg, Option.bind_some, hb] at hv
    exact (Option.some.inj hv).symm
  subst h1
  unfold Blk tyAt
  rw [hb, ← hcs]

theorem globals_of_laid {W : World} (h : laidMetH Tryz.prog laid4 W) : Globals W ∧ BGlob W := by
  rw [MakeChecks.laidMetH_plain _ _ _ (by kernel_rfl)] at h
  obtain ⟨ps, ⟨g0, t0, cs0, f0, p0, q0, hg0, ht0, hv0, hd0, ⟨g1, t1, cs1, f1, p1, q1, hg1, ht1, hv1, hd1, ⟨g2, t2, cs2, f2, p2, q2, hg2, ht2, hv2, hd2, ⟨g3, t3, cs3, f3, p3, q3, hg3, ht3, hv3, hd3, _, e3⟩, e2⟩, e1⟩, e0⟩, _, hz⟩ := h
  obtain rfl := Option.some.inj (gFirst.symm.trans hg0)
  obtain rfl := Option.some.inj (gRows.symm.trans hg1)
  obtain rfl := Option.some.inj (gMixes.symm.trans hg2)
  obtain rfl := Option.some.inj (gUnmixes.symm.trans hg3)
  obtain rfl := Option.some.inj (tFirst.symm.trans ht0)
  obtain rfl := Option.some.inj (tRows.symm.trans ht1)
  obtain rfl := Option.some.inj (tMixes.symm.trans ht2)
  obtain rfl := Option.some.inj (tUnmixes.symm.trans ht3)
  have c0 : cs0.toList = firstB.map L := (ints_of_trod (n := 8) (e := 98) (k := .u64) (l := firstB.map fun x => (x.toNat : Int)) (by kernel_rfl) (by kernel_rfl) (by kernel_rfl) (by kernel_rfl) hd0).trans (by kernel_rfl)
  have c1 : cs1.toList = rowsB.map B := (rows_of_trod (m := 10) (n := 16) (t1 := 88) (e := 5) (k := .u8) (ll := (List.range 10).map fun i => ((rowsB.drop (16 * i)).take 16).map fun x => (x.toNat : Int)) (by kernel_rfl) (by kernel_rfl) (by kernel_rfl) (by kernel_rfl) (by kernel_rfl) (by kernel_rfl) hd1).trans (by kernel_rfl)
  have c2 : cs2.toList = _ := ints_of_trod (n := 4) (k := .u8) (l := [2, 3, 1, 1]) Tryz.underlying107 Tryz.underlying5 (by kernel_rfl) (by kernel_rfl) hd2
  have c3 : cs3.toList = _ := ints_of_trod (n := 4) (k := .u8) (l := [14, 11, 13, 9]) Tryz.underlying107 Tryz.underlying5 (by kernel_rfl) (by kernel_rfl) hd3
  have s0 : cs0.size = 8 := by rw [← Array.length_toList, c0]; rfl
  have s1 : cs1.size = 160 := by rw [← Array.length_toList, c1]; rfl
  have s2 : cs2.size = 4 := by rw [← Array.length_toList, c2]; rfl
  have s3 : cs3.size = 4 := by rw [← Array.length_toList, c3]; rfl
  refine ⟨⟨blk_of_var hg2 hv2 c2 (hz 0 0 ?_).1, blk_of_var hg3 hv3 c3 (hz 1 0 ?_).1⟩, ⟨blk_of_var hg0 hv0 c0 (hz 2 0 ?_).1, blk_of_var hg1 hv1 c1 (hz 3 0 ?_).1⟩⟩
  · rw [e0, e1, e2, s2]
    exact List.mem_append_right _ (List.mem_append_right _ (List.mem_append_left _ (List.mem_append_left _ (MemPlace.mem_row.2 ⟨0, by omega, rfl⟩))))
  · rw [e0, e1, e2, e3, s3]
    exact List.mem_append_right _ (List.mem_append_right _ (List.mem_append_right _ (List.mem_append_left _ (List.mem_append_left _ (MemPlace.mem_row.2 ⟨0, by omega, rfl⟩)))))
  · rw [e0, s0]
    exact List.mem_append_left _ (List.mem_append_left _ (MemPlace.mem_row.2 ⟨0, by omega, rfl⟩))
  · rw [e0, e1, s1]
    exact List.mem_append_right _ (List.mem_append_left _ (List.mem_append_left _ (MemPlace.mem_row.2 ⟨0, by omega, rfl⟩)))

/-- The door's own heap meets the condition. -/
theorem door_met (os : Os) (args : Array Value) : laidMetH Tryz.prog laid4 ((World.doorLaid Tryz.prog 39 os).forCall (fun _ _ => 0) ⟨#[], args, []⟩).memory :=
  laidMetH_of_parts3 (fuel := 8) (laidMet_of_run' 8 (by kernel_rfl) (by kernel_rfl)) (by kernel_rfl) (by kernel_rfl)

end Go.Proofs.YtnkaodjfjllkfaaGreatDoor
