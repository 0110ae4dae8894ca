/-
  Texts of this claim, one behind the other.
-/
import Derived.Test.YtjaioajjfiaheaaGreatDoorR1
import Derived.Test.YtjaioajjfiaheaaGreatDoorR26
import Derived.Lib.Hide
set_option linter.unusedVariables false
set_option linter.unusedSimpArgs false
set_option maxHeartbeats 16000000
set_option maxRecDepth 100000
namespace Go.Proofs.YtjaioajjfiaheaaGreatDoor
open Go.RowKit Go.Mem Go.Ops Go.Cells Go.Oct Go.Gf Go.Trn Go.Aes Go.Ring Go.Ezk Go.Ezh Go.Ezt Go.Ezc Go.Aez Go.Blake Go.CutP Go.Fl Go.Adi Go.Hct Go.Wid
attribute [local irreducible] zE zN zO zM yu
theorem zqp (alg:Int) (a1:Option Addr) (n1 c1:Nat) (b1:List UInt8) (a2:Option Addr) (n2 c2:Nat) (b2:List UInt8) (t:Int) (a4:Option Addr) (N c4:Nat) (ss:List Str) (a5:Option Addr) (n5 c5:Nat) (b5:List UInt8) (w:World)
  (hb1:b1.length=n1) (hc1:n1≤c1) (hl1:zr w a1 (b1.map B)) (hb2:b2.length=n2) (hc2:n2≤c2) (hl2:zr w a2 (b2.map B)) (hN:ss.length=N) (hNm:N≤maxLen) (hs:xY w a4 ss) (hb5:b5.length=n5) (hc5:n5≤c5) (hm5:c5≤maxLen) (hl5:zr w a5 (b5.map B)) (hg:Globals w) (hbg:qD w) :
  Calls Tryz.prog 3 #[.agg (znt alg a1 n1 c1 a2 n2 c2 t a4 N c4 a5 n5 c5).toArray] w fun e w'=>e=.returned (.bool true)∧Below w.heap.size w w':=by
 have HS:=znq (St.start w)
 have HNN:=znq hN
 have HSS:=znq hs
 have HSL:=znq hs.lies
 have HNM:=znq hNm
 clear hN hs hNm
 by_cases hr:zn0 alg n1 n2 N n5 ss=true
 rotate_left
 ·have HR:=znq (show zn0 alg n1 n2 N n5 ss=false∧True from ⟨by simpa using hr,trivial⟩)
  clear hr
  go_enter Tryz.func3,Tryz.ntmps3
  go_wp2_with (refine zh 25 _ (znt alg a1 n1 c1 a2 n2 c2 t a4 N c4 a5 n5 c5) _ rfl rfl rfl rfl ?_)
  intro w1 hb hbel;have HS:=znq (HS.znr.push hb hbel);clear hb hbel
  go_wp2_with (refine (HS.znr.get 0 rfl).wload rfl rfl rfl yb rfl ?_)
  refine (znu alg a1 n1 c1 a2 n2 c2 t a4 N c4 a5 n5 c5 ss _ HNN.znr HNM.znr (HSL.znr.below HS.znr.bel)).mono ?_
  rintro e w2 ⟨rfl,hbel⟩
  rw [HR.znr.1]
  have HS:=znq (HS.znr.later hbel)
  clear hbel
  go_wp2
  go_ret
  exact ⟨rfl,HS.znr.bel⟩
 have HR:=znq (show zn0 alg n1 n2 N n5 ss=true∧True from ⟨hr,trivial⟩)
 obtain ⟨_,hn1,hw,hn2,hn6,hn5⟩:=of_decide_eq_true hr
 clear hr
 by_cases ht:0≤t∧t≤16
 rotate_left
 ·have HT:=znq (show decide (0≤t∧t≤16)=false∧True from ⟨decide_eq_false ht,trivial⟩)
  clear ht hw
  go_enter Tryz.func3,Tryz.ntmps3
  go_wp2_with (refine zh 25 _ (znt alg a1 n1 c1 a2 n2 c2 t a4 N c4 a5 n5 c5) _ rfl rfl rfl rfl ?_)
  intro w1 hb hbel;have HS:=znq (HS.znr.push hb hbel);clear hb hbel
  go_wp2_with (refine (HS.znr.get 0 rfl).wload rfl rfl rfl yb rfl ?_)
  refine (znu alg a1 n1 c1 a2 n2 c2 t a4 N c4 a5 n5 c5 ss _ HNN.znr HNM.znr (HSL.znr.below HS.znr.bel)).mono ?_
  rintro e w2 ⟨rfl,hbel⟩
  rw [HR.znr.1]
  have HS:=znq (HS.znr.later hbel)
  clear hbel
  have hx3:=(HS.znr.get 0 rfl).cell 3 _ rfl
  go_wp2_with fail
  refine (znx t _).mono ?_
  rintro e w3 ⟨rfl,rfl⟩
  rw [HT.znr.1]
  go_wp2
  go_ret
  exact ⟨rfl,HS.znr.bel⟩
 have HT:=znq (show decide (0≤t∧t≤16)=true∧True from ⟨decide_eq_true ht,trivial⟩)
 obtain ⟨tn,rfl⟩:∃ tn:Nat,t=(tn:Int):=⟨t.toNat,by omega⟩
 have htn:tn≤16:=by omega
 clear ht
 by_cases ha:alg=3∨16≤n5+tn
 rotate_left
 ·have d1:(alg != 3)=true:=by simp;omega
  have d2:decide ((n5:Int)+(tn:Int) < 16)=true:=by simp;omega
  clear ha hw
  go_enter Tryz.func3,Tryz.ntmps3
  go_wp2_with (refine zh 25 _ (znt alg a1 n1 c1 a2 n2 c2 tn a4 N c4 a5 n5 c5) _ rfl rfl rfl rfl ?_)
  intro w1 hb hbel;have HS:=znq (HS.znr.push hb hbel);clear hb hbel
  go_wp2_with (refine (HS.znr.get 0 rfl).wload rfl rfl rfl yb rfl ?_)
  refine (znu alg a1 n1 c1 a2 n2 c2 tn a4 N c4 a5 n5 c5 ss _ HNN.znr HNM.znr (HSL.znr.below HS.znr.bel)).mono ?_
  rintro e w2 ⟨rfl,hbel⟩
  rw [HR.znr.1]
  have HS:=znq (HS.znr.later hbel)
  clear hbel
  have hx0:=(HS.znr.get 0 rfl).cell 0 _ rfl
  have hx3:=(HS.znr.get 0 rfl).cell 3 _ rfl
  have hx5:=(HS.znr.get 0 rfl).cell 5 _ rfl
  go_wp2_with fail
  refine (znx tn _).mono ?_
  rintro e w3 ⟨rfl,rfl⟩
  rw [HT.znr.1]
  go_wp2
  go_ret
  exact ⟨rfl,HS.znr.bel⟩
 obtain ⟨k,hk⟩:∃ k,k=jy alg b1:=⟨_,rfl⟩
 have HK:=znq (show jy alg b1=k∧k.Fit∧k.room tn n5 from ⟨hk.symm,by rw [hk];exact we _ _,by
  have hal:=zdt (alg:=alg) (key:=b1) (by rw [hb1];exact hw)
  have hle:=jz (alg:=alg) (key:=b1) (by rw [hb1];exact hw)
  rw [← hk] at hal hle
  rcases ha with h | h
  ·exact .inl (by omega)
  ·refine .inr ?_
   rw [hle]
   unfold wg
   split <;> omega⟩)
 obtain ⟨s,hs⟩:∃ s,s=zn1 k tn b2 (rowOf ss) b5:=⟨_,rfl⟩
 have HY:=znq (show zn1 k tn b2 (rowOf ss) b5=s∧s.length=n5+tn∧zoa k tn b2 (rowOf ss) s=some b5 from ⟨hs.symm,by rw [hs,zob _ _ _ (by rw [hb5];exact HK.znr.2.2),hb5],by rw [hs];exact zol HK.znr.2.1 _ _ _ (by rw [hb5];exact HK.znr.2.2)⟩)
 have HW:=znq hw
 have HB1:=znq hb1
 have HL1:=znq hl1
 have HB2:=znq hb2
 have HL2:=znq hl2
 have HB5:=znq hb5
 have HL5:=znq hl5
 have HG:=znq hg
 have HBG:=znq hbg
 by_cases h3:alg=3
 all_goals first | (have d1:(alg != 3)=false:=(by rw [h3];rfl)) | (have d1:(alg != 3)=true:=(by simp;omega);have d2:decide ((n5:Int)+(tn:Int) < 16)=false:=(by simp;omega))
 all_goals clear hw hb1 hl1 hb2 hl2 hb5 hl5 hg hbg hk hs ha h3
 all_goals (
  go_enter Tryz.func3,Tryz.ntmps3
  go_wp2_with (refine zh 25 _ (znt alg a1 n1 c1 a2 n2 c2 tn a4 N c4 a5 n5 c5) _ rfl rfl rfl rfl ?_)
  intro w1 hb hbel;have HS:=znq (HS.znr.push hb hbel);clear hb hbel
  go_wp2_with (refine (HS.znr.get 0 rfl).wload rfl rfl rfl yb rfl ?_)
  refine (znu alg a1 n1 c1 a2 n2 c2 tn a4 N c4 a5 n5 c5 ss _ HNN.znr HNM.znr (HSL.znr.below HS.znr.bel)).mono ?_
  rintro e w2 ⟨rfl,hbel⟩
  rw [HR.znr.1]
  have HS:=znq (HS.znr.later hbel)
  clear hbel
  have hx0:=(HS.znr.get 0 rfl).cell 0 _ rfl
  have hx3:=(HS.znr.get 0 rfl).cell 3 _ rfl
  have hx5:=(HS.znr.get 0 rfl).cell 5 _ rfl
  go_wp2_with fail
  refine (znx tn _).mono ?_
  rintro e w3 ⟨rfl,rfl⟩
  rw [HT.znr.1]
  go_wp2_with (refine (HS.znr.get 0 rfl).wload rfl rfl rfl yb rfl ?_)
  refine (zn4 alg a1 n1 c1 b1 a2 n2 c2 tn a4 N c4 a5 n5 c5 _ HB1.znr HW.znr hc1 (HL1.znr.below HS.znr.bel) (HG.znr.below HS.znr.bel) (HBG.znr.below HS.znr.bel)).mono ?_
  rintro e w3 ⟨cp,rfl,hst,hbel⟩
  rw [HK.znr.1] at hst
  have HS:=znq (HS.znr.later hbel)
  have HC:=znq (zpy (c4:=c4) HR.znr.1 htn hst.self HB2.znr hc2 (HL2.znr.below HS.znr.bel) HNN.znr (HSS.znr.below HS.znr.bel))
  clear hst hbel hx0 hx3 hx5
  have hx5:=(HS.znr.get 0 rfl).cell 5 _ rfl
  go_wp2_with (refine (HS.znr.get 0 rfl).wload rfl rfl rfl yb rfl ?_)
  refine (zoe alg a1 n1 c1 a5 n5 c5 a5 n5 c5 b5 _ HC.znr HB5.znr (by omega) hc5 (HL5.znr.below HS.znr.bel) HK.znr.2.2).mono ?_
  rintro e w4 ⟨v4,rfl,hown,hbel⟩
  rw [HY.znr.1] at hown
  obtain ⟨ao4,cp4,rfl,hc4',_,hl4⟩:=zw hown
  have HL4:=znq hl4
  have HC:=znq (HC.znr.later hbel)
  have HS:=znq (HS.znr.later hbel)
  clear hown hl4 hbel hx5
  go_wp2_with (refine (HS.znr.get 0 rfl).wload rfl rfl rfl yb rfl ?_)
  refine (zon alg a1 n1 c1 a5 n5 c5 ao4 (n5+tn) cp4 s _ HC.znr HY.znr.2.1 (by omega) hc4' HL4.znr).mono ?_
  rintro e w5 ⟨ho,hbel⟩
  rw [HY.znr.2.2] at ho
  obtain ⟨ao5,rfl,hl5,_⟩:=ho
  have HS:=znq (HS.znr.later hbel)
  have HL5':=znq hl5
  rw [HB5.znr]
  clear hl5 hbel HC
  have hx3:=(HS.znr.get 0 rfl).cell 3 _ rfl
  have hx5:=(HS.znr.get 0 rfl).cell 5 _ rfl
  have F1:=yL w5 ao5 n5 n5 b5 HB5.znr HL5'.znr
  have F2:=yL w5 a5 n5 c5 b5 HB5.znr (HL5.znr.below HS.znr.bel)
  generalize str b5=s1 at *
  go_wp2_with fail
  refine (zn3 _ (HG.znr.below HS.znr.bel) (HBG.znr.below HS.znr.bel)).mono ?_
  rintro e w9 ⟨rfl,hbel⟩
  have HS:=znq (HS.znr.later hbel)
  clear hbel F1 F2 hx3 hx5
  go_wp2
  go_ret
  exact ⟨rfl,HS.znr.bel⟩)
end Go.Proofs.YtjaioajjfiaheaaGreatDoor
