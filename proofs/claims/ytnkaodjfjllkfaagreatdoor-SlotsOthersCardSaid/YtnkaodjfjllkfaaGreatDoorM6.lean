/-
  Texts of this claim, one behind the other: AesC Append Build RegionK.
-/
import Derived.Test.YtnkaodjfjllkfaaGreatDoorM5
import Derived.Test.YtnkaodjfjllkfaaGreatDoorM1
import Derived.Test.YtnkaodjfjllkfaaGreatDoorM2
import Derived.Deep.AppendLies
import Derived.Laws.OwnMore
/-
  The walks of aes: a block enciphered, and deciphered.
-/
namespace Go.Proofs.YtnkaodjfjllkfaaGreatDoor
open Go.RowKit Go.Mem Go.Ops Go.Cells Go.Oct Go.Gf Go.Trn Go.Aes
set_option linter.unusedSimpArgs false
set_option linter.unusedVariables false
set_option maxRecDepth 100000
attribute [local irreducible] walkR walkP walk0 walkB

/-- A slice expression's address, of elements of more than one cell. -/
def cutAddrN (ao : Option Addr) (cap lo size : Nat) : Option Addr := if cap = lo then ao else ao.map (·.add (lo * size))

theorem run_cutN {P : Program} (w : World) (t e : TypeId) (size : Nat) (ht : P.underlying t = some (.slice e)) (hs : (P.info? e).map (·.size) = some size) (ao : Option Addr) (len cap lo hi : Nat) (i j : Int) (hi' : i = lo) (hj : j = hi) (h1 : lo ≤ hi) (h2 : hi ≤ cap) :
    (Instr.slice t (.slice ao len cap) (some (.int .i64 i)) (some (.int .i64 j)) none).run P w = .ok (.slice (cutAddrN ao cap lo size) (hi - lo) (cap - lo)) w := by
  subst hi'; subst hj
  cases hq : P.info? e with
  | none => rw [hq] at hs; cases hs
  | some x =>
    have hx : x.size = size := by rw [hq] at hs; simpa using hs
    simp [Instr.slice, Instr.sliceBounds, Instr.sliceBound, run_underlying ht, sizeOf, typeInfo, hq, hx, asIntOf, h1, h2, cutAddrN]

theorem flatten_drop (n : Nat) : ∀ (ks : List (List UInt8)) (lo : Nat), (∀ k ∈ ks, k.length = n) → (ks.drop lo).flatten = ks.flatten.drop (lo * n)
  | [], lo, _ => by simp
  | x :: r, 0, _ => by simp
  | x :: r, lo + 1, h => by
    have hx := h x (by simp)
    rw [List.drop_succ_cons, flatten_drop n r lo (fun k hk => h k (List.mem_cons_of_mem _ hk)), List.flatten_cons, List.drop_append, hx, show x.drop ((lo + 1) * n) = [] from List.drop_eq_nil_of_le (by rw [hx, Nat.add_mul]; omega), List.nil_append, Nat.add_mul, Nat.one_mul, Nat.add_sub_cancel]
theorem flatten_take (n : Nat) : ∀ (ks : List (List UInt8)) (m : Nat), (∀ k ∈ ks, k.length = n) → (ks.take m).flatten = ks.flatten.take (m * n)
  | [], m, _ => by simp
  | x :: r, 0, _ => by simp
  | x :: r, m + 1, h => by
    rw [List.take_succ_cons, List.flatten_cons, flatten_take n r m (fun k hk => h k (List.mem_cons_of_mem _ hk)), List.flatten_cons, List.take_append, h x (by simp), show x.take ((m + 1) * n) = x from List.take_of_length_le (by rw [h x (by simp), Nat.add_mul]; omega), Nat.add_mul, Nat.one_mul, Nat.add_sub_cancel]

theorem flatten_length (n : Nat) : ∀ (ks : List (List UInt8)), (∀ k ∈ ks, k.length = n) → ks.flatten.length = ks.length * n
  | [], _ => by simp
  | x :: r, h => by
    rw [List.flatten_cons, List.length_append, h x (by simp), flatten_length n r (fun k hk => h k (List.mem_cons_of_mem _ hk)), List.length_cons, Nat.add_mul, Nat.one_mul, Nat.add_comm]

theorem RowsN.cut {n : Nat} {w : World} {ao : Option Addr} {ks : List (List UInt8)} (h : RowsN n w ao ks) {cap : Nat} (hc : ks.length ≤ cap) (lo m : Nat) : RowsN n w (cutAddrN ao cap lo n) ((ks.drop lo).take m) := by
  have hd : ∀ k ∈ ks.drop lo, k.length = n := fun k hk => h.each k (List.mem_of_mem_drop hk)
  refine ⟨fun k hk => hd k (List.mem_of_mem_take hk), ?_⟩
  rw [flatten_take n _ m hd, flatten_drop n _ lo h.each]
  unfold cutAddrN
  by_cases e : cap = lo
  · rw [if_pos e, show ks.flatten.drop (lo * n) = [] from List.drop_eq_nil_of_le (by rw [flatten_length n ks h.each]; exact Nat.mul_le_mul_right n (by omega))]
    simp only [List.take_nil, List.map_nil]
    exact Lies.nil _ _
  · rw [if_neg e]
    have := (h.lies.drop (lo * n)).take (m * n)
    rwa [← List.map_drop, ← List.map_take] at this

theorem Tryz.size16 : (Tryz.prog.info? 88).map (·.size) = some 16 := by kernel_rfl

/-- A key's round keys lie behind the address. -/
structure AKey (w : World) (kp q p : Nat) (ks : List (List UInt8)) (kb koff n cap : Nat) : Prop where
  tab : Tab w q p
  len : ks.length = n
  two : 2 ≤ n
  capLe : n ≤ cap
  most : n ≤ 1000
  rows : RowsN 16 w (some ⟨kb, koff, none⟩) ks
  blk : Blk w kp [.pointer (some ⟨q, 0, none⟩), .slice (some ⟨kb, koff, none⟩) n cap] 218

theorem AKey.later {w w' : World} {kp q p : Nat} {ks : List (List UInt8)} {kb koff n cap : Nat} (h : AKey w kp q p ks kb koff n cap) (hb : Below w.heap.size w w') : AKey w' kp q p ks kb koff n cap :=
  ⟨h.tab.below hb (Nat.le_refl _), h.len, h.two, h.capLe, h.most, h.rows.below hb, h.blk.below hb h.blk.lt⟩
theorem AKey.only {w w' : World} {kp q p : Nat} {ks : List (List UInt8)} {kb koff n cap c : Nat} (h : AKey w kp q p ks kb koff n cap) (ho : Only c w w') (h1 : kp ≠ c) (h2 : q ≠ c) (h3 : p ≠ c) (h4 : kb ≠ c) : AKey w' kp q p ks kb koff n cap := by
  refine ⟨h.tab.only ho h3 h2, h.len, h.two, h.capLe, h.most, ⟨h.rows.each, fun j u hu => ?_⟩, h.blk.only ho h1⟩
  obtain ⟨b, off, e, hc⟩ := h.rows.lies j u hu
  cases e
  refine ⟨kb, koff, rfl, ?_⟩
  have hb := ho.block kb h4
  simp only [World.cell?] at hc ⊢
  rw [hb]
  exact hc
theorem AKey.drew {w : World} {kp q p : Nat} {ks : List (List UInt8)} {kb koff n cap : Nat} (h : AKey w kp q p ks kb koff n cap) : AKey w.drew kp q p ks kb koff n cap := h.later (Below.refl _ _).drew
theorem AKey.key16 {w : World} {kp q p : Nat} {ks : List (List UInt8)} {kb koff n cap : Nat} (h : AKey w kp q p ks kb koff n cap) (i : Nat) (hi : i < n) : (key ks i).length = 16 := h.rows.each _ (List.mem_of_getElem? (key_get (by rw [h.len]; exact hi)))
theorem AKey.range {w : World} {kp q p : Nat} {ks : List (List UInt8)} {kb koff n cap : Nat} (h : AKey w kp q p ks kb koff n cap) (i : Nat) (hi : i < n) : w.rangeAt kb (koff + i * 16) ((key ks i).map B) ∧ kb < w.heap.size := by
  obtain ⟨b, off, e, hb, hr⟩ := h.rows.range (by omega) (key_get (i := i) (by rw [h.len]; exact hi))
  cases e
  exact ⟨hr, hb⟩

theorem enc_ok (kp q p : Nat) (ks : List (List UInt8)) (kb koff n cap : Nat) (b : List UInt8) (w : World) (hk : AKey w kp q p ks kb koff n cap) (hb : b.length = 16) :
    Calls Tryz.prog 98 #[.pointer (some ⟨kp, 0, none⟩), .agg (b.map B).toArray] w fun e w' => e = .returned (.agg ((enc ks b).map B).toArray) ∧ Below w.heap.size w w' := by
  have HLB := Lib.hid (show (b.map B).length = 16 by rw [List.length_map]; exact hb)
  have HLB2 := Lib.hid hb
  have HS := Lib.hid (St.start w)
  have hkl := hk.blk.lt
  have hkq := hk.tab.tab.lt
  have hkp := hk.tab.boxes.lt
  have hkk := (hk.range 0 (by have := hk.two; omega)).2
  have hn2 := hk.two
  have hnc := hk.capLe
  have hmo := hk.most
  have HK := Lib.hid hk
  have HE := Lib.hid (show enc ks b = last (rounds (both b (key ks 0)) ((ks.drop 1).take (n - 2))) (key ks (n - 1)) by rw [← hk.len]; rfl)
  clear hb hk
  go_enter Tryz.func98, Tryz.ntmps98
  go_wp2_with (refine wpList_box 88 _ (b.map B) _ rfl rfl rfl rfl ?_)
  intro w1 hb hbel; have HS := Lib.hid (HS.out.push hb hbel); have HK := Lib.hid (HK.out.later hbel); have hlt1 := hb.lt; clear hb hbel
  go_wp2_with (refine wpList_var 88 ((zeros 16).map B) _ rfl rfl Tryz.zero16 rfl ?_)
  intro w2 hb hbel; have HS := Lib.hid (HS.out.push hb hbel); have HK := Lib.hid (HK.out.later hbel); have hlt2 := hb.lt; clear hb hbel
  generalize hbb : w.heap.size = bb at *
  generalize w1.heap.size = br at *
  have HBB := Lib.hid hbb
  clear hbb
  have hc0 := fun (x : After w2.drew) => (HK.out.drew.later x.later).blk.cell 0 _ rfl
  have hc1 := fun (x : After w2.drew) => (HK.out.drew.later x.later).blk.cell 1 _ rfl
  have hd1 := HK.out.blk.cell 1 _ rfl
  have hsl := fun (w' : World) => run_cutN (P := Tryz.prog) w' 85 88 16 Tryz.underlying85 Tryz.size16 (some ⟨kb, koff, none⟩) n cap 1 (n - 1) 1 ((n : Int) - 1) rfl (by omega) (by omega) (by omega)
  go_wp2_with fail
  refine wp_region_R [0, 1, 2, 3, 4, 5, 6, 7, 8, 9, 10, 12, 13, 14, 15, 16, 17, 11, 18, 19] (by kernel_rfl) (by kernel_rfl) ?_
  rintro w4 rfl
  (refine walkR_one rfl rfl (fun K hK => ?_); go_big_quiet_step (fail); refine wpQuiet_nil (hK _ ?_); clear hK K); (refine walkR_one rfl rfl (fun K hK => ?_); go_big_quiet_step (fail); refine wpQuiet_nil (hK _ ?_); clear hK K); (refine walkR_one rfl rfl (fun K hK => ?_); go_big_quiet_step (fail); refine wpQuiet_nil (hK _ ?_); clear hK K); (refine walkR_one rfl rfl (fun K hK => ?_); go_big_quiet_step (fail); refine wpQuiet_nil (hK _ ?_); clear hK K)
  refine walkR_load (HS.out.drew.get 1 rfl).range (HS.out.drew.get 1 rfl).lt Tryz.row16 HLB.out rfl rfl rfl rfl (fun K hK => ?_)
  go_simp; refine hK _ ?_; clear hK K
  (refine walkR_one rfl rfl (fun K hK => ?_); go_big_quiet_step (fail); refine wpQuiet_nil (hK _ ?_); clear hK K); (refine walkR_one rfl rfl (fun K hK => ?_); go_big_quiet_step (fail); refine wpQuiet_nil (hK _ ?_); clear hK K); (refine walkR_one rfl rfl (fun K hK => ?_); go_big_quiet_step (fail); refine wpQuiet_nil (hK _ ?_); clear hK K); (refine walkR_one rfl rfl (fun K hK => ?_); go_big_quiet_step (fail); refine wpQuiet_nil (hK _ ?_); clear hK K); (refine walkR_one rfl rfl (fun K hK => ?_); go_big_quiet_step (fail); refine wpQuiet_nil (hK _ ?_); clear hK K)
  have hr0 := (HK.out.drew.range 0 (by omega)).1
  rw [Nat.zero_mul, Nat.add_zero] at hr0
  refine walkR_load hr0 (HK.out.drew.range 0 (by omega)).2 Tryz.row16 (by rw [List.length_map]; exact HK.out.key16 0 (by omega)) rfl rfl rfl rfl (fun K hK => ?_)
  go_simp; refine hK _ ?_; clear hK K
  (refine walkR_one rfl rfl (fun K hK => ?_); go_big_quiet_step (fail); refine wpQuiet_nil (hK _ ?_); clear hK K); (refine walkR_one rfl rfl (fun K hK => ?_); go_big_quiet_step (fail); refine wpQuiet_nil (hK _ ?_); clear hK K); (refine walkR_one rfl rfl (fun K hK => ?_); go_big_quiet_step (fail); refine wpQuiet_nil (hK _ ?_); clear hK K); (refine walkR_one rfl rfl (fun K hK => ?_); go_big_quiet_step (fail); refine wpQuiet_nil (hK _ ?_); clear hK K); (refine walkR_one rfl rfl (fun K hK => ?_); go_big_quiet_step (fail); refine wpQuiet_nil (hK _ ?_); clear hK K); (refine walkR_one rfl rfl (fun K hK => ?_); go_big_quiet_step (fail); refine wpQuiet_nil (hK _ ?_); clear hK K)
  refine walkR_call rfl rfl (by rfl) (fun K hK => ?_)
  go_simp
  refine (aboth_ok b (key ks 0) _ HLB2.out (HK.out.key16 0 (by omega))).mono ?_
  rintro e w5 ⟨rfl, hbel⟩
  have HS := Lib.hid (HS.out.drew.later hbel)
  have HK := Lib.hid (HK.out.drew.later hbel)
  go_simp
  refine hK _ _ hbel ?_
  clear hK K hbel hc0 hc1 hsl hr0 hd1
  refine walkR_call rfl rfl (by rfl) (fun K hK => ?_)
  go_simp
  have hcut := HK.out.rows.cut (cap := cap) (by rw [HK.out.len]; exact hnc) 1 (n - 2)
  refine (rounds_ok q p (both b (key ks 0)) (cutAddrN (some ⟨kb, koff, none⟩) cap 1 16) (n - 1 - 1) (cap - 1) ((ks.drop 1).take (n - 2)) _ HK.out.tab (both_length _ _) (by rw [List.length_take, List.length_drop, HK.out.len]; omega) (by omega) ⟨hcut.each, hcut.lies⟩).mono ?_
  clear hcut
  have hrl := rounds_length ((ks.drop 1).take (n - 2)) (both b (key ks 0)) (both_length _ _)
  have HRL := Lib.hid (show ((rounds (both b (key ks 0)) ((ks.drop 1).take (n - 2))).map B).length = 16 by rw [List.length_map]; exact hrl)
  rintro e w6 ⟨rfl, hbel⟩
  generalize rounds (both b (key ks 0)) ((ks.drop 1).take (n - 2)) = x at *
  have HS := Lib.hid (HS.out.later hbel)
  have HK := Lib.hid (HK.out.later hbel)
  go_simp
  refine hK _ _ hbel ?_
  clear hK K hbel
  refine walkR_free rfl rfl (by rfl) (fun K hK => ?_)
  refine (HS.out.get 1 rfl).opstore rfl rfl rfl Tryz.row16 HLB.out HRL.out (oneCell_B _) (fun w7 hb7 ho7 => hK _ _ ?_)
  clear hK K
  have HK := Lib.hid (HK.out.only ho7 (by omega) (by omega) (by omega) (by omega))
  have HS := Lib.hid (HS.out.change 1 hb7 ho7 (by omega) (by simp; omega))
  clear hb7 ho7
  go_simp
  refine walkR_nil ?_
  have hc0 := fun (x : After w7.drew) => (HK.out.drew.later x.later).blk.cell 0 _ rfl
  have hc1 := fun (x : After w7.drew) => (HK.out.drew.later x.later).blk.cell 1 _ rfl
  go_wp2_with fail
  refine wp_region_R [0, 1, 2, 3, 4, 5, 6, 7, 8, 9, 10, 11, 12, 13] (by kernel_rfl) (by kernel_rfl) ?_
  rintro w8 rfl
  (refine walkR_one rfl rfl (fun K hK => ?_); go_big_quiet_step (fail); refine wpQuiet_nil (hK _ ?_); clear hK K); (refine walkR_one rfl rfl (fun K hK => ?_); go_big_quiet_step (fail); refine wpQuiet_nil (hK _ ?_); clear hK K); (refine walkR_one rfl rfl (fun K hK => ?_); go_big_quiet_step (fail); refine wpQuiet_nil (hK _ ?_); clear hK K); (refine walkR_one rfl rfl (fun K hK => ?_); go_big_quiet_step (fail); refine wpQuiet_nil (hK _ ?_); clear hK K)
  refine walkR_load (HS.out.drew.get 1 rfl).range (HS.out.drew.get 1 rfl).lt Tryz.row16 HRL.out rfl rfl rfl rfl (fun K hK => ?_)
  go_simp; refine hK _ ?_; clear hK K
  (refine walkR_one rfl rfl (fun K hK => ?_); go_big_quiet_step (fail); refine wpQuiet_nil (hK _ ?_); clear hK K); (refine walkR_one rfl rfl (fun K hK => ?_); go_big_quiet_step (fail); refine wpQuiet_nil (hK _ ?_); clear hK K); (refine walkR_one rfl rfl (fun K hK => ?_); go_big_quiet_step (fail); refine wpQuiet_nil (hK _ ?_); clear hK K); (refine walkR_one rfl rfl (fun K hK => ?_); go_big_quiet_step (fail); refine wpQuiet_nil (hK _ ?_); clear hK K); (refine walkR_one rfl rfl (fun K hK => ?_); go_big_quiet_step (fail); refine wpQuiet_nil (hK _ ?_); clear hK K); (refine walkR_one rfl rfl (fun K hK => ?_); go_big_quiet_step (fail); refine wpQuiet_nil (hK _ ?_); clear hK K)
  refine walkR_load (HK.out.drew.range (n - 1) (by omega)).1 (HK.out.drew.range (n - 1) (by omega)).2 Tryz.row16 (by rw [List.length_map]; exact HK.out.key16 (n - 1) (by omega)) rfl rfl rfl rfl (fun K hK => ?_)
  go_simp; refine hK _ ?_; clear hK K
  refine walkR_call rfl rfl (by rfl) (fun K hK => ?_)
  go_simp
  refine (last_ok q p x (key ks (n - 1)) _ HK.out.tab.drew hrl (HK.out.key16 (n - 1) (by omega))).mono ?_
  rintro e w9 ⟨rfl, hbel⟩
  rw [← HE.out]
  have HS := Lib.hid (HS.out.drew.later hbel)
  go_simp
  refine hK _ _ hbel ?_
  clear hK K hbel hc0 hc1
  refine walkR_free rfl rfl (by rfl) (fun K hK => ?_)
  refine (HS.out.get 0 rfl).opstore rfl rfl rfl Tryz.row16 (by rw [List.length_map]; exact zeros_length 16) (by rw [List.length_map]; exact enc_length _ _) (oneCell_B _) (fun w10 hb10 ho10 => hK _ _ ?_)
  clear hK K
  have hbel10 := below_only HS.out.bel ho10 (by omega)
  go_simp
  refine walkR_nil ?_
  go_wp2
  refine hb10.result rfl rfl rfl Tryz.row16 (by rw [List.length_map]; exact enc_length _ _) ⟨rfl, ?_⟩
  rw [HBB.out]
  exact hbel10

theorem dec_ok (kp q p : Nat) (ks : List (List UInt8)) (kb koff n cap : Nat) (b : List UInt8) (w : World) (hk : AKey w kp q p ks kb koff n cap) (hb : b.length = 16) :
    Calls Tryz.prog 294 #[.pointer (some ⟨kp, 0, none⟩), .agg (b.map B).toArray] w fun e w' => e = .returned (.agg ((dec ks b).map B).toArray) ∧ Below w.heap.size w w' := by
  have HLB := Lib.hid (show (b.map B).length = 16 by rw [List.length_map]; exact hb)
  have HLB2 := Lib.hid hb
  have HS := Lib.hid (St.start w)
  have hkl := hk.blk.lt
  have hkq := hk.tab.tab.lt
  have hkp := hk.tab.boxes.lt
  have hkk := (hk.range 0 (by have := hk.two; omega)).2
  have hn2 := hk.two
  have hnc := hk.capLe
  have hmo := hk.most
  have HK := Lib.hid hk
  have HE := Lib.hid (show dec ks b = both (decGo ks (n - 1) (unlast b (key ks (n - 1)))) (key ks 0) by rw [← hk.len]; rfl)
  clear hb hk
  go_enter Tryz.func294, Tryz.ntmps294
  go_wp2_with (refine wpList_box 88 _ (b.map B) _ rfl rfl rfl rfl ?_)
  intro w1 hb hbel; have HS := Lib.hid (HS.out.push hb hbel); have HK := Lib.hid (HK.out.later hbel); have hlt1 := hb.lt; clear hb hbel
  go_wp2_with (refine wpList_var 88 ((zeros 16).map B) _ rfl rfl Tryz.zero16 rfl ?_)
  intro w2 hb hbel; have HS := Lib.hid (HS.out.push hb hbel); have HK := Lib.hid (HK.out.later hbel); have hlt2 := hb.lt; clear hb hbel
  generalize hbb : w.heap.size = bb at *
  generalize w1.heap.size = br at *
  have HBB := Lib.hid hbb
  clear hbb
  have hc0 := fun (x : After w2.drew) => (HK.out.drew.later x.later).blk.cell 0 _ rfl
  have hc1 := fun (x : After w2.drew) => (HK.out.drew.later x.later).blk.cell 1 _ rfl
  have hd1 := HK.out.blk.cell 1 _ rfl
  have hnn : (n : Int) - 1 = ((n - 1 : Nat) : Int) := by omega
  go_wp2_with fail
  refine wp_region_R [0, 1, 2, 3, 4, 5, 6, 7, 8, 9, 10, 11, 12, 13] (by kernel_rfl) (by kernel_rfl) ?_
  rintro w4 rfl
  (refine walkR_one rfl rfl (fun K hK => ?_); go_big_quiet_step (fail); refine wpQuiet_nil (hK _ ?_); clear hK K); (refine walkR_one rfl rfl (fun K hK => ?_); go_big_quiet_step (fail); refine wpQuiet_nil (hK _ ?_); clear hK K); (refine walkR_one rfl rfl (fun K hK => ?_); go_big_quiet_step (fail); refine wpQuiet_nil (hK _ ?_); clear hK K); (refine walkR_one rfl rfl (fun K hK => ?_); go_big_quiet_step (fail); refine wpQuiet_nil (hK _ ?_); clear hK K)
  refine walkR_load (HS.out.drew.get 1 rfl).range (HS.out.drew.get 1 rfl).lt Tryz.row16 HLB.out rfl rfl rfl rfl (fun K hK => ?_)
  go_simp; refine hK _ ?_; clear hK K
  (refine walkR_one rfl rfl (fun K hK => ?_); go_big_quiet_step (fail); refine wpQuiet_nil (hK _ ?_); clear hK K); (refine walkR_one rfl rfl (fun K hK => ?_); go_big_quiet_step (fail); refine wpQuiet_nil (hK _ ?_); clear hK K); (refine walkR_one rfl rfl (fun K hK => ?_); go_big_quiet_step (fail); refine wpQuiet_nil (hK _ ?_); clear hK K); (refine walkR_one rfl rfl (fun K hK => ?_); go_big_quiet_step (fail); refine wpQuiet_nil (hK _ ?_); clear hK K); (refine walkR_one rfl rfl (fun K hK => ?_); go_big_quiet_step (fail); refine wpQuiet_nil (hK _ ?_); clear hK K); (refine walkR_one rfl rfl (fun K hK => ?_); go_big_quiet_step (fail); refine wpQuiet_nil (hK _ ?_); clear hK K)
  refine walkR_load (HK.out.drew.range (n - 1) (by omega)).1 (HK.out.drew.range (n - 1) (by omega)).2 Tryz.row16 (by rw [List.length_map]; exact HK.out.key16 (n - 1) (by omega)) rfl rfl rfl rfl (fun K hK => ?_)
  go_simp; refine hK _ ?_; clear hK K
  refine walkR_call rfl rfl (by rfl) (fun K hK => ?_)
  go_simp
  refine (unlast_ok q p b (key ks (n - 1)) _ HK.out.tab.drew HLB2.out (HK.out.key16 (n - 1) (by omega))).mono ?_
  rintro e w9 ⟨rfl, hbel⟩
  have HS := Lib.hid (HS.out.drew.later hbel)
  have HK := Lib.hid (HK.out.drew.later hbel)
  go_simp
  refine hK _ _ hbel ?_
  clear hK K hbel hc0 hc1 hd1
  refine walkR_free rfl rfl (by rfl) (fun K hK => ?_)
  refine (HS.out.get 1 rfl).opstore rfl rfl rfl Tryz.row16 HLB.out (by rw [List.length_map]; exact unlast_length _ _) (oneCell_B _) (fun w7 hb7 ho7 => hK _ _ ?_)
  clear hK K
  have HK := Lib.hid (HK.out.only ho7 (by omega) (by omega) (by omega) (by omega))
  have HS := Lib.hid (HS.out.change 1 hb7 ho7 (by omega) (by simp; omega))
  clear hb7 ho7
  go_simp
  refine walkR_nil ?_
  go_wp2_with fail
  go_loopw [5] (fun c wr => ∃ (i : Nat) (x : List UInt8), 1 ≤ i ∧ i ≤ n - 1 ∧ c = .int .i64 i ∧ x.length = 16 ∧ decGo ks i x = decGo ks (n - 1) (unlast b (key ks (n - 1))) ∧ AKey wr kp q p ks kb koff n cap ∧ St w bb wr [(br, (zeros 16).map B, 88), (bb, x.map B, 88)]) (fun c _ => (intOf c).toNat)
  case atStart => exact ⟨n - 1, unlast b (key ks (n - 1)), by omega, by omega, by rw [← hnn], unlast_length _ _, rfl, HK.out, HS.out⟩
  case round =>
    clear HS HK
    obtain ⟨i, x, hi1, hi2, rfl, hx, he, hk, hs⟩ := hrel
    have HX := Lib.hid hx
    have HXL := Lib.hid (show (x.map B).length = 16 by rw [List.length_map]; exact hx)
    have HD := Lib.hid he
    have HK := Lib.hid hk
    have HS := Lib.hid hs
    clear hx he hk hs
    by_cases hlt : 1 < i
    · have hm : (i : Int) - 1 = ((i - 1 : Nat) : Int) := by omega
      have HD := Lib.hid ((decGo_step ks i x hlt).symm.trans HD.out)
      have hc0 := fun (x : After wr.drew) => (HK.out.drew.later x.later).blk.cell 0 _ rfl
      have hc1 := fun (x : After wr.drew) => (HK.out.drew.later x.later).blk.cell 1 _ rfl
      go_wp2_with fail
      refine wp_region_R [0, 1, 2, 3, 4, 5, 6, 7, 8, 9, 10, 11, 12, 13] (by kernel_rfl) (by kernel_rfl) ?_
      rintro w4 rfl
      (refine walkR_one rfl rfl (fun K hK => ?_); go_big_quiet_step (fail); refine wpQuiet_nil (hK _ ?_); clear hK K); (refine walkR_one rfl rfl (fun K hK => ?_); go_big_quiet_step (fail); refine wpQuiet_nil (hK _ ?_); clear hK K); (refine walkR_one rfl rfl (fun K hK => ?_); go_big_quiet_step (fail); refine wpQuiet_nil (hK _ ?_); clear hK K); (refine walkR_one rfl rfl (fun K hK => ?_); go_big_quiet_step (fail); refine wpQuiet_nil (hK _ ?_); clear hK K)
      refine walkR_load (HS.out.drew.get 1 rfl).range (HS.out.drew.get 1 rfl).lt Tryz.row16 HXL.out rfl rfl rfl rfl (fun K hK => ?_)
      go_simp; refine hK _ ?_; clear hK K
      (refine walkR_one rfl rfl (fun K hK => ?_); go_big_quiet_step (fail); refine wpQuiet_nil (hK _ ?_); clear hK K); (refine walkR_one rfl rfl (fun K hK => ?_); go_big_quiet_step (fail); refine wpQuiet_nil (hK _ ?_); clear hK K); (refine walkR_one rfl rfl (fun K hK => ?_); go_big_quiet_step (fail); refine wpQuiet_nil (hK _ ?_); clear hK K); (refine walkR_one rfl rfl (fun K hK => ?_); go_big_quiet_step (fail); refine wpQuiet_nil (hK _ ?_); clear hK K); (refine walkR_one rfl rfl (fun K hK => ?_); go_big_quiet_step (fail); refine wpQuiet_nil (hK _ ?_); clear hK K); (refine walkR_one rfl rfl (fun K hK => ?_); go_big_quiet_step (fail); refine wpQuiet_nil (hK _ ?_); clear hK K)
      refine walkR_load (HK.out.drew.range (i - 1) (by omega)).1 (HK.out.drew.range (i - 1) (by omega)).2 Tryz.row16 (by rw [List.length_map]; exact HK.out.key16 (i - 1) (by omega)) rfl rfl rfl rfl (fun K hK => ?_)
      go_simp; refine hK _ ?_; clear hK K
      refine walkR_call rfl rfl (by rfl) (fun K hK => ?_)
      go_simp
      refine (unround_ok q p x (key ks (i - 1)) _ HK.out.tab.drew HX.out (HK.out.key16 (i - 1) (by omega))).mono ?_
      rintro e w9 ⟨rfl, hbel⟩
      have HS := Lib.hid (HS.out.drew.later hbel)
      have HK := Lib.hid (HK.out.drew.later hbel)
      go_simp
      refine hK _ _ hbel ?_
      clear hK K hbel hc0 hc1
      refine walkR_free rfl rfl (by rfl) (fun K hK => ?_)
      refine (HS.out.get 1 rfl).opstore rfl rfl rfl Tryz.row16 HXL.out (by rw [List.length_map]; exact unround_length _ _) (oneCell_B _) (fun w7 hb7 ho7 => hK _ _ ?_)
      clear hK K
      have HK := Lib.hid (HK.out.only ho7 (by omega) (by omega) (by omega) (by omega))
      have HS := Lib.hid (HS.out.change 1 hb7 ho7 (by omega) (by simp; omega))
      clear hb7 ho7
      go_simp
      refine walkR_nil ?_
      go_wp2
      go_roundw
      case rel => exact ⟨i - 1, _, by omega, by omega, rfl, unround_length _ _, HD.out, HK.out, HS.out⟩
      case measure => simp [intOf]; omega
    · obtain rfl : i = 1 := by omega
      have HE := Lib.hid (show dec ks b = both x (key ks 0) by rw [HE.out, ← HD.out]; rfl)
      have hc1 := fun (x : After wr.drew) => (HK.out.drew.later x.later).blk.cell 1 _ rfl
      go_wp2_with fail
      refine wp_region_R [0, 1, 2, 3, 4, 5, 6, 7, 8] (by kernel_rfl) (by kernel_rfl) ?_
      rintro w4 rfl
      refine walkR_load (HS.out.drew.get 1 rfl).range (HS.out.drew.get 1 rfl).lt Tryz.row16 HXL.out rfl rfl rfl rfl (fun K hK => ?_)
      go_simp; refine hK _ ?_; clear hK K
      (refine walkR_one rfl rfl (fun K hK => ?_); go_big_quiet_step (fail); refine wpQuiet_nil (hK _ ?_); clear hK K); (refine walkR_one rfl rfl (fun K hK => ?_); go_big_quiet_step (fail); refine wpQuiet_nil (hK _ ?_); clear hK K); (refine walkR_one rfl rfl (fun K hK => ?_); go_big_quiet_step (fail); refine wpQuiet_nil (hK _ ?_); clear hK K); (refine walkR_one rfl rfl (fun K hK => ?_); go_big_quiet_step (fail); refine wpQuiet_nil (hK _ ?_); clear hK K); (refine walkR_one rfl rfl (fun K hK => ?_); go_big_quiet_step (fail); refine wpQuiet_nil (hK _ ?_); clear hK K)
      have hr0 := (HK.out.drew.range 0 (by omega)).1
      rw [Nat.zero_mul, Nat.add_zero] at hr0
      refine walkR_load hr0 (HK.out.drew.range 0 (by omega)).2 Tryz.row16 (by rw [List.length_map]; exact HK.out.key16 0 (by omega)) rfl rfl rfl rfl (fun K hK => ?_)
      go_simp; refine hK _ ?_; clear hK K
      refine walkR_call rfl rfl (by rfl) (fun K hK => ?_)
      go_simp
      refine (aboth_ok x (key ks 0) _ HX.out (HK.out.key16 0 (by omega))).mono ?_
      rintro e w9 ⟨rfl, hbel⟩
      rw [← HE.out]
      have HS := Lib.hid (HS.out.drew.later hbel)
      go_simp
      refine hK _ _ hbel ?_
      clear hK K hbel hc1 hr0
      refine walkR_free rfl rfl (by rfl) (fun K hK => ?_)
      refine (HS.out.get 0 rfl).opstore rfl rfl rfl Tryz.row16 (by rw [List.length_map]; exact zeros_length 16) (by rw [List.length_map]; exact dec_length _ _) (oneCell_B _) (fun w10 hb10 ho10 => hK _ _ ?_)
      clear hK K
      have hbel10 := below_only HS.out.bel ho10 (by omega)
      go_simp
      refine walkR_nil ?_
      go_wp2
      refine hb10.result rfl rfl rfl Tryz.row16 (by rw [List.length_map]; exact dec_length _ _) ⟨rfl, ?_⟩
      rw [HBB.out]
      exact hbel10

end Go.Proofs.YtnkaodjfjllkfaaGreatDoor
/-
  append of any slice (empty or not) onto a row that the call owns: the new value owns both. No program.
-/
namespace Go.Mem
open Go.RowKit

section
variable {P : Program} {w : World}

theorem run_append_empty (base : Nat) (t ty e : TypeId) (i : TypeInfo) (size : Nat) (ht : P.underlying t = some (.slice e)) (hi : P.info? e = some i)
    (v : Value) (n : Nat) (xs : List Value) (hown : w.ownsRow base e size v n xs) (ao : Option Addr) (c : Nat) :
    (Builtin.append_ #[t, t] ty #[v, .slice ao 0 c]).run P w = .ok v w := by
  rcases hown.2 with ⟨rfl, rfl⟩ | ⟨g, cap, cur, rfl, _, _, hnc, _⟩
  · cases ao <;> simp [Builtin.append_, run_underlying ht, sizeOf, typeInfo, hi, Builtin.lenOf, Builtin.firstCells, loadCells, loadCellsFrom]
  · cases ao <;> simp [Builtin.append_, run_underlying ht, sizeOf, typeInfo, hi, Builtin.lenOf, Builtin.firstCells, hnc, storeCells, loadCells, loadCellsFrom]

theorem run_append_any (t ty : TypeId) (base : Nat) (e : TypeId) (i : TypeInfo) (z : Value) (bytes : Nat) (ht : P.underlying t = some (.slice e)) (hi : P.info? e = some i) (hz : i.zero = some z)
    (hsize : i.size = 1) (hby : i.bytes = bytes) (hzs : z.cells.size = 1)
    (v : Value) (n : Nat) (xs : List Value) (hown : w.ownsRow base e 1 v n xs)
    (ao : Option Addr) (m c : Nat) (news : List Value) (hl : news.length = m) (hlies : Lies w ao news) (h1 : ∀ u ∈ news, u.oneCell' = true)
    (h63 : n + m ≤ maxLen) (hbytes : (n + m) * bytes ≤ 140737488355328) (hbase : base ≤ w.heap.size) :
    ∃ v' w', (Builtin.append_ #[t, t] ty #[v, .slice ao m c]).run P w = .ok v' w' ∧ w'.ownsRow base e 1 v' (n + m) (xs ++ news) ∧ w.grownBy w' v.ownBlock := by
  by_cases hm : m = 0
  · subst hm
    obtain rfl : news = [] := List.eq_nil_of_length_eq_zero hl
    exact ⟨v, w, run_append_empty base t ty e i 1 ht hi v n xs hown ao c, by simpa using hown, World.grownBy.refl _ _⟩
  · have hne : news ≠ [] := by rintro rfl; simp at hl; omega
    obtain ⟨b, off, rfl, _, hc⟩ := hlies.at hne
    obtain ⟨g, cap, w', hr, ho, hg, _, _⟩ := run_append_lies w t ty base e i z 1 bytes ht hi hz hsize hby hzs (by decide) v n xs hown ⟨b, off, none⟩ m c news (by omega) hlies.news h1 (by omega) h63 hbytes hbase _ rfl
    exact ⟨_, w', hr, ho, hg⟩

theorem wp_append_any {o : Oper} {a : Act} {K : Act → World → Prop} {Q : Exit → Act → World → Prop} (s x : Operand) (t : TypeId)
    (ho : o.op = .call { callee := .builtin .append, args := #[s, x], argTypes := #[t, t] })
    (base : Nat) (e : TypeId) (i : TypeInfo) (z : Value) (bytes : Nat) (ht : P.underlying t = some (.slice e)) (hi : P.info? e = some i) (hz : i.zero = some z)
    (hsize : i.size = 1) (hby : i.bytes = bytes) (hzs : z.cells.size = 1)
    (v : Value) (n : Nat) (xs : List Value) (hs : a.eval s = v) (hown : w.ownsRow base e 1 v n xs)
    (ao : Option Addr) (m c : Nat) (news : List Value) (hx : a.eval x = .slice ao m c) (hl : news.length = m) (hlies : Lies w ao news) (h1 : ∀ u ∈ news, u.oneCell' = true)
    (h63 : n + m ≤ maxLen) (hbytes : (n + m) * bytes ≤ 140737488355328) (hbase : base ≤ w.heap.size)
    (h : ∀ v' w', w'.ownsRow base e 1 v' (n + m) (xs ++ news) → w.grownBy w' v.ownBlock → K (a.put o.dst v') w') : o.wp P a w K Q := by
  obtain ⟨v', w', hrun, h2, h3⟩ := run_append_any (P := P) t o.type base e i z bytes ht hi hz hsize hby hzs v n xs hown ao m c news hl hlies h1 h63 hbytes hbase
  unfold Oper.wp
  simp [execOp, ho, resolve, invoke, builtin, hs, hx, hrun, Result.andThen]
  exact h _ _ h2 h3

theorem wpList_append_any {ops : Array Oper} {rest : List Oper} {o : Oper} {a : Act} {Q : Exit → Act → World → Prop} (hgd : o.guard = none) (s x : Operand) (t : TypeId)
    (ho : o.op = .call { callee := .builtin .append, args := #[s, x], argTypes := #[t, t] })
    (base : Nat) (e : TypeId) (i : TypeInfo) (z : Value) (bytes : Nat) (ht : P.underlying t = some (.slice e)) (hi : P.info? e = some i) (hz : i.zero = some z)
    (hsize : i.size = 1) (hby : i.bytes = bytes) (hzs : z.cells.size = 1)
    (v : Value) (n : Nat) (xs : List Value) (hs : a.eval s = v) (hown : w.ownsRow base e 1 v n xs)
    (ao : Option Addr) (m c : Nat) (news : List Value) (hx : a.eval x = .slice ao m c) (hl : news.length = m) (hlies : Lies w ao news) (h1 : ∀ u ∈ news, u.oneCell' = true)
    (h63 : n + m ≤ maxLen) (hbytes : (n + m) * bytes ≤ 140737488355328) (hbase : base ≤ w.heap.size)
    (h : ∀ v' w', w'.ownsRow base e 1 v' (n + m) (xs ++ news) → w.grownBy w' v.ownBlock → wpList P ops Q rest (a.put o.dst v') w') : wpList P ops Q (o :: rest) a w :=
  wpList_plain hgd fun _ hK => wp_append_any s x t ho base e i z bytes ht hi hz hsize hby hzs v n xs hs hown ao m c news hx hl hlies h1 h63 hbytes hbase fun v' w' h2 h3 => hK _ _ (h v' w' h2 h3)

theorem below_append {B : Nat} {a w' : World} {base : Nat} {e : TypeId} {size : Nat} {v : Value} {n : Nat} {xs : List Value} (h : Below B a w) (hown : w.ownsRow base e size v n xs) (hg : w.grownBy w' v.ownBlock) (hb : B ≤ base) (hB : B ≤ w.heap.size) : Below B a w' :=
  h.grown hg hB (fun k hk => Nat.le_trans hb (hown.lt k hk).1)

theorem own_below {w w' : World} {base : Nat} {e : TypeId} {size : Nat} {v : Value} {n : Nat} {xs : List Value} (h : w.ownsRow base e size v n xs) (hb : Below w.heap.size w w') : w'.ownsRow base e size v n xs := by
  refine ⟨h.1, h.2.imp id ?_⟩
  rintro ⟨g, cap, cur, hv, hg, hh, rest⟩
  exact ⟨g, cap, cur, hv, hg, by rw [hb.block g (Array.getElem?_eq_some_iff.1 hh).1]; exact hh, rest⟩

theorem nil_owns (w : World) (base : Nat) (e : TypeId) (size : Nat) : w.ownsRow base e size (.slice none 0 0) 0 [] := ⟨by simp, .inl ⟨rfl, rfl⟩⟩

theorem B_one (xs : List UInt8) : ∀ u ∈ xs.map B, u.oneCell' = true := by
  intro u hu
  simp only [List.mem_map] at hu
  obtain ⟨x, _, rfl⟩ := hu
  rfl
end
end Go.Mem
/-
  A slice literal whose elements are arrays by value. No program.
-/
namespace Go.Cells
set_option linter.unusedVariables false
open Go.RowKit Go.Mem Go.Ops

theorem fold_set : ∀ (cs : List Value) (k off : Nat) (A : List Value), off + k + cs.length ≤ A.length →
    (cs.zipIdx k).foldl (fun (acc : Array Value) (p : Value × Nat) => acc.setIfInBounds (off + p.2) p.1) A.toArray = (A.take (off + k) ++ cs ++ A.drop (off + k + cs.length)).toArray
  | [], k, off, A, _ => by simp
  | c :: r, k, off, A, h => by
    rw [List.length_cons] at h
    rw [List.zipIdx_cons, List.foldl_cons]
    simp only [List.setIfInBounds_toArray]
    rw [fold_set r (k + 1) off (A.set (off + k) c) (by rw [List.length_set]; omega)]
    congr 1
    rw [List.drop_set_of_lt (by omega), List.length_cons, show off + (k + 1) + r.length = off + k + (r.length + 1) by omega]
    congr 1
    rw [show off + (k + 1) = (off + k) + 1 by omega, List.take_add_one, List.take_set_of_le (by omega)]
    simp [show off + k < A.length by omega]

theorem fill_rows (n : Nat) : ∀ (vs : List (List Value)) (k : Nat) (A : List Value), (∀ v ∈ vs, v.length = n) → (k + vs.length) * n ≤ A.length →
    Instr.fill (fun i => some (i * n, n)) A.toArray ((vs.zipIdx k).map fun p => (p.2, Value.agg p.1.toArray)) = some (A.take (k * n) ++ vs.flatten ++ A.drop ((k + vs.length) * n)).toArray
  | [], k, A, _, _ => by simp [Instr.fill]
  | v :: r, k, A, hv, h => by
    have hn := hv v (by simp)
    have hle : k * n + n ≤ A.length := by
      have : (k + (v :: r).length) * n = k * n + n + r.length * n := by rw [List.length_cons, Nat.add_mul, Nat.add_mul, Nat.one_mul]; omega
      omega
    rw [List.zipIdx_cons, List.map_cons]
    unfold Instr.fill
    have e : (Value.agg v.toArray).cells = v.toArray := rfl
    simp only [e, List.size_toArray, hn]
    rw [if_neg (by simp; omega)]
    have hf := fold_set v 0 (k * n) A (by omega)
    simp only [Nat.add_zero] at hf
    have hz : v.toArray.zipIdx.foldl (fun (cs : Array Value) (p : Value × Nat) => cs.setIfInBounds (k * n + p.2) p.1) A.toArray = (A.take (k * n) ++ v ++ A.drop (k * n + v.length)).toArray := by
      rw [← hf]
      simp
    rw [hz, fill_rows n r (k + 1) _ (fun u hu => hv u (List.mem_cons_of_mem _ hu)) (by
      rw [List.length_append, List.length_append, List.length_take, List.length_drop, hn, Nat.min_eq_left (by omega)]
      have : (k + (v :: r).length) * n = (k + 1 + r.length) * n := by rw [List.length_cons]; congr 1; omega
      omega)]
    congr 2
    have h1 : (k + 1) * n = k * n + n := by rw [Nat.add_mul, Nat.one_mul]
    have h2 : (k + (v :: r).length) * n = k * n + n + r.length * n := by rw [List.length_cons, Nat.add_mul, Nat.add_mul, Nat.one_mul]; omega
    have h3 : (k + 1 + r.length) * n = k * n + n + r.length * n := by rw [Nat.add_mul, h1]
    have hl : (A.take (k * n) ++ v).length = k * n + n := by rw [List.length_append, List.length_take, hn, Nat.min_eq_left (by omega)]
    rw [h1, h2, h3, List.take_append, List.drop_append, hl, List.take_of_length_le (by omega), Nat.sub_self, List.take_zero, List.append_nil, List.drop_eq_nil_of_le (by omega), List.nil_append, List.drop_drop, hn, List.flatten_cons]
    simp only [List.append_assoc]
    congr 3
    congr 1
    omega

theorem run_buildRows {P : Program} (w : World) (t e : TypeId) (n m : Nat) (z : Value) (vs : List (List Value)) (parts : Array (Nat × Value)) (ht : P.underlying t = some (.slice e)) (hs : (P.info? e).map (fun i => (i.zero, i.size)) = some (some z, n)) (hz : z.cells.size = n)
    (hn : 0 < n) (hm : vs.length = m) (hm0 : 0 < m) (hb : m * n ≤ 16777216) (hv : ∀ v ∈ vs, v.length = n) (hp : parts = ((vs.zipIdx 0).map fun p => (p.2, Value.agg p.1.toArray)).toArray) :
    (Instr.buildSlice t m parts).run P w = .ok (.slice (some ⟨w.heap.size, 0, none⟩) m m) (w.alloc (.cells vs.flatten.toArray e)) := by
  cases hq : P.info? e with
  | none => rw [hq] at hs; cases hs
  | some x =>
    rw [hq] at hs
    simp only [Option.map_some, Option.some.injEq, Prod.mk.injEq] at hs
    obtain ⟨h1, h2⟩ := hs
    have h0 : m * n ≠ 0 := Nat.mul_ne_zero (by omega) (by omega)
    have hf := fill_rows n vs 0 ((List.range (m * n)).map (z.cells[· % z.cells.size]!)) hv (by simp [hm])
    have hA : ((Array.range (m * n)).map (z.cells[· % z.cells.size]!)) = ((List.range (m * n)).map (z.cells[· % z.cells.size]!)).toArray := by
      rw [← List.toArray_range, List.map_toArray]
    have hlen : ((List.range (m * n)).map (z.cells[· % z.cells.size]!)).length = m * n := by simp
    rw [Nat.zero_mul, List.take_zero, List.nil_append, Nat.zero_add, hm, List.drop_eq_nil_of_le (by omega), List.append_nil] at hf
    subst hp
    simp [Instr.buildSlice, run_underlying ht, sizeOf, typeInfo, hq, h2, h0, show ¬ (16777216 < m * n) by omega, zeroValue, h1, newRow]
    rw [hA, hf]
    rfl

/-- At a plain region's operation. -/
theorem wpList_rows {P : Program} {w : World} {ops : Array Oper} {rest : List Oper} {o : Oper} {a : Act} {Q : Exit → Act → World → Prop} (t e : TypeId) (n m : Nat) (z : Value) (vs : List (List Value)) {parts : Array (Nat × Operand)}
    (hgd : o.guard = none) (ho : o.op = .buildSlice t m parts) (hp' : (parts.toList.map fun p => (p.1, a.eval p.2)) = (vs.zipIdx 0).map fun p => (p.2, Value.agg p.1.toArray)) (ht : P.underlying t = some (.slice e)) (hs : (P.info? e).map (fun i => (i.zero, i.size)) = some (some z, n)) (hz : z.cells.size = n)
    (hn : 0 < n) (hm : vs.length = m) (hm0 : 0 < m) (hb : m * n ≤ 16777216) (hv : ∀ v ∈ vs, v.length = n)
    (k : ∀ w', Blk w' w.heap.size vs.flatten e → Below w.heap.size w w' → wpList P ops Q rest (a.put o.dst (.slice (some ⟨w.heap.size, 0, none⟩) m m)) w') : wpList P ops Q (o :: rest) a w := by
  refine wpList_plain hgd fun K hK => ?_
  have hp : (parts.map fun (i, x) => (i, a.eval x)) = ((vs.zipIdx 0).map fun p => (p.2, Value.agg p.1.toArray)).toArray := by
    apply Array.toList_inj.1
    rw [Array.toList_map]
    exact hp'
  have hk := k _ (Blk.new w vs.flatten e) (later_alloc w _)
  have hrun := run_buildRows (P := P) w t e n m z vs _ ht hs hz hn hm hm0 hb hv hp
  unfold Oper.wp execOp
  simp only [ho, Sem.run_bind, hrun, Result.andThen_ok, Sem.run_pure]
  exact hK _ _ hk

theorem oprows {P : Program} {w : World} {o : Oper} {a : Act} {K : Act → World → Prop} {Q : Exit → Act → World → Prop} (t e : TypeId) (n m : Nat) (z : Value) (vs : List (List Value)) {parts : Array (Nat × Operand)}
    (ho : o.op = .buildSlice t m parts) (hp' : (parts.toList.map fun p => (p.1, a.eval p.2)) = (vs.zipIdx 0).map fun p => (p.2, Value.agg p.1.toArray)) (ht : P.underlying t = some (.slice e)) (hs : (P.info? e).map (fun i => (i.zero, i.size)) = some (some z, n)) (hz : z.cells.size = n)
    (hn : 0 < n) (hm : vs.length = m) (hm0 : 0 < m) (hb : m * n ≤ 16777216) (hv : ∀ v ∈ vs, v.length = n)
    (k : ∀ w', Blk w' w.heap.size vs.flatten e → Below w.heap.size w w' → K (a.put o.dst (.slice (some ⟨w.heap.size, 0, none⟩) m m)) w') : o.wp P a w K Q := by
  have hp : (parts.map fun (i, x) => (i, a.eval x)) = ((vs.zipIdx 0).map fun p => (p.2, Value.agg p.1.toArray)).toArray := by
    apply Array.toList_inj.1
    rw [Array.toList_map]
    exact hp'
  have hk := k _ (Blk.new w vs.flatten e) (later_alloc w _)
  have hrun := run_buildRows (P := P) w t e n m z vs _ ht hs hz hn hm hm0 hb hv hp
  unfold Oper.wp execOp
  simp only [ho, Sem.run_bind, hrun, Result.andThen_ok, Sem.run_pure]
  exact hk

end Go.Cells
/-
  A region that draws its order, walked ONCE, with changes to memory that the region made itself: what only computes or reads is taken early, if it yields the same in every world that stands in the relation R to this one; all else comes up alone and keeps R, but for the operations of a list, which come up behind all that is taken early ahead of them. No program.
-/
namespace Go
open Go.RowKit

section
variable {P : Program} {ops : Array Oper} {Q : Exit → Act → World → Prop} {md : Region.Mode} {R : World → World → Prop} {brk : List Nat}

/-- Whatever order is picked; behind each operation the blocks below B are as they were. -/
def wpAnyK (R : World → World → Prop) (brk : List Nat) (P : Program) (md : Region.Mode) (ops : Array Oper) (Q : Exit → Act → World → Prop) : Nat → Array Bool → Act → World → Prop
  | 0, listed, a, w => Region.ready md ops listed = [] ∧ Q .normal a w
  | fuel + 1, listed, a, w =>
    (Region.ready md ops listed = [] → Q .normal a w) ∧
    ∀ i ∈ Region.ready md ops listed, wpOp P ops Q i (fun a' w' => (brk.contains i = false → R w w') ∧ wpAnyK R brk P md ops Q fuel (listed.setIfInBounds i true) a' w') a w

theorem wpAny_of_K : ∀ (fuel : Nat) (listed : Array Bool) (a : Act) (w : World), wpAnyK R brk P md ops Q fuel listed a w → wpAny P md ops Q fuel listed a w
  | 0, _, _, _, h => h
  | fuel + 1, _, _, _, h => ⟨h.1, fun i hi => wpOp_mono (fun a' w' h' => wpAny_of_K fuel _ a' w' h'.2) (h.2 i hi)⟩

theorem YieldsIf.laterK {o : Oper} {v : Value} {a : Act} {w w' : World} (ht : ∀ a b c, R a b → R b c → R a c) (h : YieldsIf P ops (R w) o v a) (hw : R w w') : YieldsIf P ops (R w') o v a :=
  h.imp (fun ⟨h1, h2⟩ => ⟨h1, fun x hx => h2 x (ht _ _ _ hw hx)⟩) id

theorem wpAnyK_first (hrf : ∀ a, R a a) (ht : ∀ a b c, R a b → R b c → R a c) {i : Nat} {oi : Oper} {v : Value} (hi : ops[i]? = some oi) (hsel : ∀ (j : Nat) (o : Oper) cs b, ops[j]? = some o → o.op ≠ .select cs b)
    (hQ : ∀ c a w, Q (.panic c) (a.put oi.dst v) w → Q (.panic c) a w) (D : Nat → Bool) (hDi : D i = false)
    (hD : ∀ d, D d = true → ∃ od, ops[d]? = some od ∧ ∃ e ∈ od.after, Region.binds md e = true ∧ (e.on = i ∨ D e.on = true)) :
    ∀ (fuel : Nat) (listed : Array Bool) (a : Act) (w : World),
      (∀ d, D d = true → listed.getD d true = false) →
      (∀ j oj, ops[j]? = some oj → j ≠ i → listed.getD j true = false → D j = false → oi.apart ops oj = true ∧ brk.contains j = false) →
      i ∈ Region.ready md ops listed → YieldsIf P ops (R w) oi v a →
      wpAnyK R brk P md ops Q fuel (listed.setIfInBounds i true) (a.put oi.dst v) w → wpAnyK R brk P md ops Q (fuel + 1) listed a w := by
  intro fuel
  induction fuel with
  | zero =>
    intro listed a w _ _ hr hy H
    refine ⟨fun h => (by rw [h] at hr; cases hr), fun j hj => ?_⟩
    by_cases hji : j = i
    · subst hji; exact hy.wpOp hi (hrf w) ⟨fun _ => hrf w, H⟩
    · have := ready_mono hj hji
      rw [H.1] at this
      cases this
  | succ fuel ih =>
    intro listed a w hun hfree hr hy H
    refine ⟨fun h => (by rw [h] at hr; cases hr), fun j hj => ?_⟩
    by_cases hji : j = i
    · subst hji; exact hy.wpOp hi (hrf w) ⟨fun _ => hrf w, H⟩
    · have h1 := H.2 j (ready_mono hj hji)
      obtain ⟨hjun, oj, hoj, hall⟩ := mem_ready.1 hj
      have hget : ∀ k, listed.getD k true = false → (listed[k]?).getD true = false := fun k hk => by
        rcases Nat.lt_or_ge k listed.size with h' | h'
        · simpa [Array.getD, h'] using hk
        · simp [Array.getD, Nat.not_lt.2 h'] at hk
      have hDj : D j = false := by
        cases hdj : D j with
        | false => rfl
        | true =>
          obtain ⟨od, hod, e, he, hb, hon⟩ := hD j hdj
          rw [hoj] at hod
          cases hod
          have h1 := hall e he hb
          have h0 : listed.getD e.on true = false := by
            rcases hon with h | h
            · rw [h]; exact (mem_ready.1 hr).1
            · exact hun _ h
          rcases Nat.lt_or_ge e.on listed.size with h' | h'
          · simp [h'] at h0 h1; rw [h0] at h1; cases h1
          · simp [Array.getElem?_eq_none h'] at h1
      have hfj := hfree j oj hoj hji hjun hDj
      have h2 := wpOp_putIf hoj hfj.1 (fun cs b => hsel i oi cs b hi) (fun cs b => hsel j oj cs b hoj) hQ hy h1
      have hun' : ∀ d, D d = true → (listed.setIfInBounds j true).getD d true = false := fun d hd => by
        have hne : j ≠ d := by rintro rfl; rw [hDj] at hd; cases hd
        rw [getD_set_ne true hne]
        exact hun d hd
      have hfree' : ∀ k ok, ops[k]? = some ok → k ≠ i → (listed.setIfInBounds j true).getD k true = false →
          D k = false → oi.apart ops ok = true ∧ brk.contains k = false := fun k ok hk hki hun hno => by
        refine hfree k ok hk hki ?_ hno
        by_cases hjk : j = k
        · subst hjk; exact hjun
        · rw [getD_set_ne true hjk] at hun; exact hun
      refine wpOp_mono (fun a' w' h3 => ⟨h3.2.1, ih (listed.setIfInBounds j true) a' w' hun' hfree' (ready_mono hr (Ne.symm hji)) (YieldsIf.laterK ht h3.1 (h3.2.1 hfj.2)) ?_⟩) h2
      rw [Array.setIfInBounds_comm _ _ hji]
      exact h3.2.2

/-- The test on what stands behind number i. -/
def Region.heldK (brk : List Nat) (md : Region.Mode) (ops : Array Oper) (listed : Array Bool) (i : Nat) (oi : Oper) (D : List Nat) : Bool :=
  !D.contains i &&
  D.all (fun d => !(listed.getD d true) && match ops[d]? with
    | some od => od.after.any (fun e => Region.binds md e && (e.on == i || D.contains e.on))
    | none => false) &&
  (List.range ops.size).all fun j => j == i || listed.getD j true || D.contains j || match ops[j]? with
    | some oj => oi.apart ops oj && !brk.contains j
    | none => true

/-- Number i may be taken first. -/
def Region.freeK (brk : List Nat) (md : Region.Mode) (ops : Array Oper) (listed : Array Bool) (i : Nat) : Bool :=
  match ops[i]? with
  | none => false
  | some oi => Region.heldK brk md ops listed i oi (Region.behindR md ops listed i)

theorem Region.freeK_spec {i : Nat} {oi : Oper} {listed : Array Bool} (hi : ops[i]? = some oi) (h : Region.freeK brk md ops listed i = true) :
    ∃ D : Nat → Bool, D i = false ∧ (∀ d, D d = true → ∃ od, ops[d]? = some od ∧ ∃ e ∈ od.after, Region.binds md e = true ∧ (e.on = i ∨ D e.on = true)) ∧
      (∀ d, D d = true → listed.getD d true = false) ∧
      (∀ j oj, ops[j]? = some oj → j ≠ i → listed.getD j true = false → D j = false → oi.apart ops oj = true ∧ brk.contains j = false) := by
  unfold Region.freeK at h
  simp only [hi] at h
  generalize Region.behindR md ops listed i = L at h
  unfold Region.heldK at h
  rw [Bool.and_eq_true, Bool.and_eq_true] at h
  obtain ⟨⟨h1, h2⟩, h3⟩ := h
  rw [List.all_eq_true] at h2 h3
  refine ⟨fun d => L.contains d, by simpa using h1, fun d hd => ?_, fun d hd => ?_, fun j oj hj hne hun hnd => ?_⟩
  · have := h2 d (by simpa using hd)
    rw [Bool.and_eq_true] at this
    cases hod : ops[d]? with
    | none => simp [hod] at this
    | some od =>
      have h4 := this.2
      simp only [hod] at h4
      obtain ⟨e, he, hb⟩ := Array.any_eq_true'.1 h4
      rw [Bool.and_eq_true, Bool.or_eq_true] at hb
      exact ⟨od, rfl, e, he, hb.1, hb.2.imp (fun h => by simpa using h) id⟩
  · have := h2 d (by simpa using hd)
    rw [Bool.and_eq_true] at this
    simpa using this.1
  · have hlt : j < ops.size := (Array.getElem?_eq_some_iff.1 hj).1
    have := h3 j (List.mem_range.2 hlt)
    have e1 : (j == i) = false := by simpa using hne
    simp only at hnd
    rw [e1, hun, hnd, Bool.false_or, Bool.false_or, Bool.false_or] at this
    simp only [hj, Bool.and_eq_true, Bool.not_eq_true'] at this
    exact this

/-- The order fits: what is taken early may be taken first, all else comes up alone; at the end all have come up. -/
def Region.checkK (brk : List Nat) (md : Region.Mode) (ops : Array Oper) : List (Nat × Bool) → Array Bool → Bool
  | [], listed => Region.ready md ops listed == []
  | (i, q) :: r, listed =>
    (match ops[i]? with
     | none => false
     | some _ => if q then (Region.ready md ops listed).contains i && Region.freeK brk md ops listed i else Region.ready md ops listed == [i]) &&
    Region.checkK brk md ops r (listed.setIfInBounds i true)

/-- THE WALK, in the order that is given. -/
def walkK (R : World → World → Prop) (brk : List Nat) (P : Program) (ops : Array Oper) (Q : Exit → Act → World → Prop) : List (Nat × Bool) → Act → World → Prop
  | [], a, w => Q .normal a w
  | (i, q) :: r, a, w =>
    match ops[i]? with
    | none => False
    | some o =>
      if Region.wanted o (yielded ops a.tmps) = true then
        (if q then ∃ v, (∀ w', R w w' → (execOp a.eval o).run P w' = .ok (.value v) w') ∧ walkK R brk P ops Q r (a.put o.dst v) w
         else o.wp P a w (fun a' w' => (brk.contains i = false → R w w') ∧ walkK R brk P ops Q r a' w') Q)
      else walkK R brk P ops Q r (a.put o.dst undef) w

theorem wpAnyK_of_walk (hrf : ∀ a, R a a) (ht : ∀ a b c, R a b → R b c → R a c) (hs : Region.noSelect ops = true) (hQ : ∀ c a w, ¬ Q (.panic c) a w) : ∀ (order : List (Nat × Bool)) (listed : Array Bool) (a : Act) (w : World),
    Region.checkK brk md ops order listed = true → walkK R brk P ops Q order a w → wpAnyK R brk P md ops Q order.length listed a w
  | [], listed, a, w, hB, h => by
    simp only [Region.checkK, beq_iff_eq] at hB
    exact ⟨hB, h⟩
  | (i, q) :: r, listed, a, w, hB, h => by
    simp only [Region.checkK, Bool.and_eq_true] at hB
    obtain ⟨hB1, hB2⟩ := hB
    cases ho : ops[i]? with
    | none => simp [ho] at hB1
    | some o =>
      simp only [ho] at hB1
      simp only [walkK, ho] at h
      cases q with
      | true =>
        simp only [if_true, Bool.and_eq_true] at hB1 h
        by_cases hw : Region.wanted o (yielded ops a.tmps) = true
        · rw [if_pos hw] at h
          obtain ⟨v, hv, hr⟩ := h
          obtain ⟨D, hDi, hD, hDu, hDf⟩ := Region.freeK_spec ho hB1.2
          exact wpAnyK_first hrf ht ho (Region.noSelect_spec hs) (fun c a w hq => absurd hq (hQ _ _ _)) D hDi hD r.length listed a w hDu hDf (by simpa using hB1.1) (.inl ⟨hw, hv⟩)
            (wpAnyK_of_walk hrf ht hs hQ r _ _ _ hB2 hr)
        · rw [if_neg hw] at h
          obtain ⟨D, hDi, hD, hDu, hDf⟩ := Region.freeK_spec ho hB1.2
          exact wpAnyK_first hrf ht ho (Region.noSelect_spec hs) (fun c a w hq => absurd hq (hQ _ _ _)) D hDi hD r.length listed a w hDu hDf (by simpa using hB1.1) (.inr ⟨by simpa using hw, rfl⟩)
            (wpAnyK_of_walk hrf ht hs hQ r _ _ _ hB2 h)
      | false =>
        simp only [Bool.false_eq_true, if_false, beq_iff_eq] at hB1 h
        refine ⟨fun h0 => (by rw [hB1] at h0; cases h0), fun j hj => ?_⟩
        rw [hB1] at hj
        obtain rfl : j = i := by simpa using hj
        unfold wpOp
        simp only [ho]
        by_cases hw : Region.wanted o (yielded ops a.tmps) = true
        · rw [if_pos hw] at h ⊢
          refine .inl (Oper.wp_mono ?_ h)
          intro a' w' h'
          refine ⟨h'.1, wpAnyK_of_walk hrf ht hs hQ r _ _ _ hB2 h'.2⟩
        · rw [if_neg hw] at h ⊢
          exact ⟨fun _ => hrf w, wpAnyK_of_walk hrf ht hs hQ r _ _ _ hB2 h⟩

/-- THE LAW. -/
theorem wp_region_K {id : Nat} {l : List Oper} {a : Act} {w : World} (R : World → World → Prop) (brk : List Nat) (order : List (Nat × Bool)) (hrf : ∀ a, R a a) (ht : ∀ a b c, R a b → R b c → R a c) (hm : P.follows .mixedOrders = true)
    (hB : (Region.noSelect l.toArray && (order.length == l.length) && Region.checkK brk .any l.toArray order (Array.replicate l.length false)) = true)
    (h : ∀ w', w' = w.drew → walkK R brk P l.toArray (NoPanic Q) order a w') : (Code.region id l.toArray true).wp P Q a w := by
  simp only [Bool.and_eq_true, beq_iff_eq] at hB
  obtain ⟨⟨hs, hl⟩, hB⟩ := hB
  refine wp_region_noPanic (wp_region_any hm (wpAny_of_K (R := R) (brk := brk) _ _ _ _ ?_))
  have := wpAnyK_of_walk (R := R) (brk := brk) (P := P) (Q := NoPanic Q) hrf ht hs (fun c a w hq => hq) order _ a w.drew hB (h _ rfl)
  rw [hl] at this
  exact this

/-! The moves of the walk. -/
theorem walkK_nil {a : Act} {w : World} (h : Q .normal a w) : walkK R brk P ops (NoPanic Q) [] a w := h

theorem walkK_no {i : Nat} {q : Bool} {r : List (Nat × Bool)} {o : Oper} {a : Act} {w : World} (ho : ops[i]? = some o) (hw : Region.wanted o (yielded ops a.tmps) = false)
    (h : ∀ K : Act → Prop, (∀ a', walkK R brk P ops Q r a' w → K a') → K (a.put o.dst undef)) : walkK R brk P ops Q ((i, q) :: r) a w := by
  simp only [walkK, ho, hw, Bool.false_eq_true, if_false]
  exact h _ fun _ h => h

theorem walkK_free {i : Nat} {r : List (Nat × Bool)} {o : Oper} {a : Act} {w : World} (ho : ops[i]? = some o) (hw : Region.wanted o (yielded ops a.tmps) = true)
    (h : ∀ K : Act → World → Prop, (∀ a' w', (brk.contains i = false → R w w') → walkK R brk P ops Q r a' w' → K a' w') → o.wp P a w K Q) : walkK R brk P ops Q ((i, false) :: r) a w := by
  simp only [walkK, ho, hw, if_true, Bool.false_eq_true, if_false]
  exact h _ fun _ _ h1 h2 => ⟨h1, h2⟩

/-- The worlds that stand in the relation. -/
structure AfterK (R : World → World → Prop) (w : World) where
  val : World
  rel : R w val
instance (B : Nat) (w : World) : Nonempty (AfterK (Below B) w) := ⟨⟨w, Below.refl _ w⟩⟩
abbrev AftersK (R : World → World → Prop) (w : World) : World → Prop := fun w' => ∃ x : AfterK R w, w' = x.val

/-- One operation, taken early. -/
theorem walkK_one {i : Nat} {r : List (Nat × Bool)} {o : Oper} {tl : List Oper} {a : Act} {w : World} (hd : ops.toList.drop i = o :: tl) (hk : o.kindR = 0)
    (hh : ∀ K : Act → Prop, (∀ a', walkK R brk P ops Q r a' w → K a') → wpQuiet P ops (AftersK R w) K [o] a) : walkK R brk P ops Q ((i, true) :: r) a w := by
  have h := hh (fun a' => walkK R brk P ops Q r a' w) (fun _ h => h)
  have ho : ops[i]? = some o := by
    have := congrArg (·[0]?) hd
    simpa using this
  simp only [wpQuiet] at h
  simp only [walkK, ho, if_true]
  by_cases hw : Region.wanted o (yielded ops a.tmps) = true
  · rw [if_pos hw] at h ⊢
    obtain ⟨v, hv, hn⟩ := h
    exact ⟨v, fun w' hw' => run_of_quietAt hk (hv w' ⟨⟨w', hw'⟩, rfl⟩), hn⟩
  · rw [if_neg hw] at h ⊢
    exact h

/-- One operation that computes or reads, where it comes up alone. -/
theorem walkK_alone (hrf : ∀ a, R a a) {i : Nat} {r : List (Nat × Bool)} {o : Oper} {tl : List Oper} {a : Act} {w : World} (hd : ops.toList.drop i = o :: tl) (hk : o.kindR = 0)
    (hh : ∀ K : Act → Prop, (∀ a', walkK R brk P ops Q r a' w → K a') → wpQuiet P ops (Afters w) K [o] a) : walkK R brk P ops Q ((i, false) :: r) a w := by
  have h := hh (fun a' => walkK R brk P ops Q r a' w) (fun _ h => h)
  have ho : ops[i]? = some o := by
    have := congrArg (·[0]?) hd
    simpa using this
  simp only [wpQuiet] at h
  simp only [walkK, ho, Bool.false_eq_true, if_false]
  by_cases hw : Region.wanted o (yielded ops a.tmps) = true
  · rw [if_pos hw] at h ⊢
    obtain ⟨v, hv, hn⟩ := h
    unfold Oper.wp
    rw [run_of_quietAt hk (hv w ⟨⟨w, Later.refl w⟩, rfl⟩), Oper.upon_value]
    exact ⟨fun _ => hrf w, hn⟩
  · rw [if_neg hw] at h ⊢
    exact h

end
end Go
