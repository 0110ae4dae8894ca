/-
  Texts of this claim, one behind the other.
-/
import Derived.Test.YtjaioajjfiaheaaGreatDoorR1
import Derived.Test.YtjaioajjfiaheaaGreatDoorR31
import Derived.Lib.Hide
set_option linter.unusedVariables false
set_option linter.unusedSimpArgs false
set_option maxHeartbeats 16000000
set_option maxRecDepth 100000
namespace Go.Proofs.YtjaioajjfiaheaaGreatDoor
open Go.RowKit Go.Mem Go.Ops Go.Cells Go.Oct Go.Gf Go.Trn Go.Aes Go.Ring Go.Ezk Go.Ezh Go.Ezt Go.Ezc Go.Aez Go.Blake Go.CutP Go.Fl Go.Adi Go.Hct Go.Wid
attribute [local irreducible] zE zN zO zM yu
theorem zec (alg:Int) (a1:Option Addr) (n1 c1:Nat) (b1:List UInt8) (a2:Option Addr) (n2 c2:Nat) (b2:List UInt8) (t:Int) (a4:Option Addr) (N c4:Nat) (ss:List Str) (a5:Option Addr) (n5 c5:Nat) (b5:List UInt8) (w:World)
  (hb1:b1.length=n1) (hc1:n1≤c1) (hl1:zr w a1 (b1.map B)) (hb2:b2.length=n2) (hc2:n2≤c2) (hl2:zr w a2 (b2.map B)) (hN:ss.length=N) (hNm:N≤maxLen) (hs:xY w a4 ss) (hb5:b5.length=n5) (hc5:n5≤c5) (hm5:c5≤maxLen) (hl5:zr w a5 (b5.map B)) (hg:Globals w) (hbg:qD w) :
  Calls Tryz.prog 6 #[.agg (znt alg a1 n1 c1 a2 n2 c2 t a4 N c4 a5 n5 c5).toArray] w fun e w'=>e=.returned (.bool true)∧Below w.heap.size w w':=by
 have HS:=znq (St.start w)
 have HNN:=znq hN
 have HSS:=znq hs
 have HSL:=znq hs.lies
 have HNM:=znq hNm
 clear hN hs hNm
 by_cases hr:zn0 alg n1 n2 N n5 ss=true
 rotate_left
 ·have HR:=znq (show zn0 alg n1 n2 N n5 ss=false∧True from ⟨by simpa using hr,trivial⟩)
  clear hr
  go_enter Tryz.func6,Tryz.ntmps6
  go_wp2_with (refine zh 25 _ (znt alg a1 n1 c1 a2 n2 c2 t a4 N c4 a5 n5 c5) _ rfl rfl rfl rfl ?_)
  intro w1 hb hbel;have HS:=znq (HS.znr.push hb hbel);clear hb hbel
  go_wp2_with (refine (HS.znr.get 0 rfl).wload rfl rfl rfl yb rfl ?_)
  refine (znu alg a1 n1 c1 a2 n2 c2 t a4 N c4 a5 n5 c5 ss _ HNN.znr HNM.znr (HSL.znr.below HS.znr.bel)).mono ?_
  rintro e w2 ⟨rfl,hbel⟩
  rw [HR.znr.1]
  have HS:=znq (HS.znr.later hbel)
  clear hbel
  go_wp2
  go_ret
  exact ⟨rfl,HS.znr.bel⟩
 have HR:=znq (show zn0 alg n1 n2 N n5 ss=true∧True from ⟨hr,trivial⟩)
 obtain ⟨_,hn1,hw,hn2,hn6,hn5⟩:=of_decide_eq_true hr
 clear hr
 have HW:=znq hw
 have HB1:=znq hb1
 have HL1:=znq hl1
 have HB2:=znq hb2
 have HL2:=znq hl2
 have HB5:=znq hb5
 have HL5:=znq hl5
 have HG:=znq hg
 have HBG:=znq hbg
 obtain ⟨k,hk⟩:∃ k,k=jy alg b1:=⟨_,rfl⟩
 have HK:=znq (show jy alg b1=k∧k.Fit from ⟨hk.symm,by rw [hk];exact we _ _⟩)
 clear hw hb1 hl1 hb2 hl2 hb5 hl5 hg hbg hk
 by_cases ht:0≤t∧t≤16
 rotate_left
 ·have HT:=znq (show decide (0≤t∧t≤16)=false∧True from ⟨decide_eq_false ht,trivial⟩)
  have HRV:=znq (show zot t=4∧True from ⟨by unfold zot;rw [if_neg ht],trivial⟩)
  clear ht
  go_enter Tryz.func6,Tryz.ntmps6
  go_wp2_with (refine zh 25 _ (znt alg a1 n1 c1 a2 n2 c2 t a4 N c4 a5 n5 c5) _ rfl rfl rfl rfl ?_)
  intro w1 hb hbel;have HS:=znq (HS.znr.push hb hbel);clear hb hbel
  go_wp2_with (refine (HS.znr.get 0 rfl).wload rfl rfl rfl yb rfl ?_)
  refine (znu alg a1 n1 c1 a2 n2 c2 t a4 N c4 a5 n5 c5 ss _ HNN.znr HNM.znr (HSL.znr.below HS.znr.bel)).mono ?_
  rintro e w2 ⟨rfl,hbel⟩
  rw [HR.znr.1]
  have HS:=znq (HS.znr.later hbel)
  clear hbel
  go_wp2_with (refine (HS.znr.get 0 rfl).wload rfl rfl rfl yb rfl ?_)
  refine (zn4 alg a1 n1 c1 b1 a2 n2 c2 t a4 N c4 a5 n5 c5 _ HB1.znr HW.znr hc1 (HL1.znr.below HS.znr.bel) (HG.znr.below HS.znr.bel) (HBG.znr.below HS.znr.bel)).mono ?_
  rintro e w3 ⟨cp,rfl,hst,hbel⟩
  rw [HK.znr.1] at hst
  have HS:=znq (HS.znr.later hbel)
  have HST:=znq hst
  clear hst hbel
  have hx5:=(HS.znr.get 0 rfl).cell 5 _ rfl
  go_wp2_with (refine (HS.znr.get 0 rfl).wload rfl rfl rfl yb rfl ?_)
  refine (xU alg a1 n1 c1 a2 n2 c2 t a4 N c4 a5 n5 c5 cp _ _ HRV.znr.1).mono ?_
  rintro e w4 ⟨rfl,hbel⟩
  have HS:=znq (HS.znr.later hbel)
  clear hbel hx5
  have hx3:=(HS.znr.get 0 rfl).cell 3 _ rfl
  go_wp2_with fail
  refine (znx t _).mono ?_
  rintro e w5 ⟨rfl,rfl⟩
  rw [HT.znr.1]
  clear hx3
  go_wp2_with fail
  refine (zn3 _ (HG.znr.below HS.znr.bel) (HBG.znr.below HS.znr.bel)).mono ?_
  rintro e w9 ⟨rfl,hbel⟩
  have HS:=znq (HS.znr.later hbel)
  clear hbel
  go_wp2
  go_ret
  exact ⟨rfl,HS.znr.bel⟩
 obtain ⟨tn,rfl⟩:∃ tn:Nat,t=(tn:Int):=⟨t.toNat,by omega⟩
 have htn:tn≤16:=by omega
 clear ht
 cases ho:zoa k tn b2 (rowOf ss) b5 with
 | none =>
  have HO:=znq (show zoa k tn b2 (rowOf ss) b5=none∧True from ⟨ho,trivial⟩)
  clear ho
  go_enter Tryz.func6,Tryz.ntmps6
  go_wp2_with (refine zh 25 _ (znt alg a1 n1 c1 a2 n2 c2 tn a4 N c4 a5 n5 c5) _ rfl rfl rfl rfl ?_)
  intro w1 hb hbel;have HS:=znq (HS.znr.push hb hbel);clear hb hbel
  go_wp2_with (refine (HS.znr.get 0 rfl).wload rfl rfl rfl yb rfl ?_)
  refine (znu alg a1 n1 c1 a2 n2 c2 tn a4 N c4 a5 n5 c5 ss _ HNN.znr HNM.znr (HSL.znr.below HS.znr.bel)).mono ?_
  rintro e w2 ⟨rfl,hbel⟩
  rw [HR.znr.1]
  have HS:=znq (HS.znr.later hbel)
  clear hbel
  go_wp2_with (refine (HS.znr.get 0 rfl).wload rfl rfl rfl yb rfl ?_)
  refine (zn4 alg a1 n1 c1 b1 a2 n2 c2 tn a4 N c4 a5 n5 c5 _ HB1.znr HW.znr hc1 (HL1.znr.below HS.znr.bel) (HG.znr.below HS.znr.bel) (HBG.znr.below HS.znr.bel)).mono ?_
  rintro e w3 ⟨cp,rfl,hst,hbel⟩
  rw [HK.znr.1] at hst
  have HS:=znq (HS.znr.later hbel)
  have HST:=znq hst
  clear hst hbel
  have hx5:=(HS.znr.get 0 rfl).cell 5 _ rfl
  go_wp2_with (refine (HS.znr.get 0 rfl).wload rfl rfl rfl yb rfl ?_)
  have HC:=znq (zpy (c4:=c4) HR.znr.1 htn HST.znr.self HB2.znr hc2 (HL2.znr.below HS.znr.bel) HNN.znr (HSS.znr.below HS.znr.bel))
  refine (zon alg a1 n1 c1 a5 n5 c5 a5 n5 c5 b5 _ HC.znr HB5.znr (by omega) hc5 (HL5.znr.below HS.znr.bel)).mono ?_
  rintro e w4 ⟨ho,hbel⟩
  rw [HO.znr.1] at ho
  obtain rfl:e=.returned (.tuple #[.slice none 0 0,.int .i64 9]):=ho
  have HS:=znq (HS.znr.later hbel)
  clear hbel hx5 HC
  have hx3:=(HS.znr.get 0 rfl).cell 3 _ rfl
  go_wp2_with fail
  refine (zn3 _ (HG.znr.below HS.znr.bel) (HBG.znr.below HS.znr.bel)).mono ?_
  rintro e w9 ⟨rfl,hbel⟩
  have HS:=znq (HS.znr.later hbel)
  clear hbel
  go_wp2
  go_ret
  exact ⟨rfl,HS.znr.bel⟩
 | some m =>
  have HO:=znq (show zoa k tn b2 (rowOf ss) b5=some m∧zn1 k tn b2 (rowOf ss) m=b5∧m.length+tn=n5∧k.room tn m.length from ⟨ho,(xc HK.znr.2 ho).1,by rw [(xc HK.znr.2 ho).2.1];exact HB5.znr,(xc HK.znr.2 ho).2.2⟩)
  clear ho
  obtain ⟨mn,hmn⟩:∃ mn,mn=m.length:=⟨_,rfl⟩
  have HMN:=znq (show m.length=mn from hmn.symm)
  have hsum:mn+tn=n5:=by rw [hmn];exact HO.znr.2.2.1
  clear hmn
  go_enter Tryz.func6,Tryz.ntmps6
  go_wp2_with (refine zh 25 _ (znt alg a1 n1 c1 a2 n2 c2 tn a4 N c4 a5 n5 c5) _ rfl rfl rfl rfl ?_)
  intro w1 hb hbel;have HS:=znq (HS.znr.push hb hbel);clear hb hbel
  go_wp2_with (refine (HS.znr.get 0 rfl).wload rfl rfl rfl yb rfl ?_)
  refine (znu alg a1 n1 c1 a2 n2 c2 tn a4 N c4 a5 n5 c5 ss _ HNN.znr HNM.znr (HSL.znr.below HS.znr.bel)).mono ?_
  rintro e w2 ⟨rfl,hbel⟩
  rw [HR.znr.1]
  have HS:=znq (HS.znr.later hbel)
  clear hbel
  go_wp2_with (refine (HS.znr.get 0 rfl).wload rfl rfl rfl yb rfl ?_)
  refine (zn4 alg a1 n1 c1 b1 a2 n2 c2 tn a4 N c4 a5 n5 c5 _ HB1.znr HW.znr hc1 (HL1.znr.below HS.znr.bel) (HG.znr.below HS.znr.bel) (HBG.znr.below HS.znr.bel)).mono ?_
  rintro e w3 ⟨cp,rfl,hst,hbel⟩
  rw [HK.znr.1] at hst
  have HS:=znq (HS.znr.later hbel)
  have HST:=znq hst
  clear hst hbel
  have hx5:=(HS.znr.get 0 rfl).cell 5 _ rfl
  go_wp2_with (refine (HS.znr.get 0 rfl).wload rfl rfl rfl yb rfl ?_)
  have HC:=znq (zpy (c4:=c4) HR.znr.1 htn HST.znr.self HB2.znr hc2 (HL2.znr.below HS.znr.bel) HNN.znr (HSS.znr.below HS.znr.bel))
  refine (zon alg a1 n1 c1 a5 n5 c5 a5 n5 c5 b5 _ HC.znr HB5.znr (by omega) hc5 (HL5.znr.below HS.znr.bel)).mono ?_
  rintro e w4 ⟨ho,hbel⟩
  rw [HO.znr.1] at ho
  obtain ⟨ao4,rfl,hl4,_⟩:=ho
  rw [HMN.znr]
  have HL4:=znq hl4
  have HC:=znq (HC.znr.later hbel)
  have HS:=znq (HS.znr.later hbel)
  clear hbel hx5 hl4
  go_wp2_with (refine (HS.znr.get 0 rfl).wload rfl rfl rfl yb rfl ?_)
  refine (zoe alg a1 n1 c1 a5 n5 c5 ao4 mn mn m _ HC.znr HMN.znr (by omega) (Nat.le_refl _) HL4.znr (by rw [← HMN.znr];exact HO.znr.2.2.2)).mono ?_
  rintro e w5 ⟨v5,rfl,hown,hbel⟩
  rw [HO.znr.2.1] at hown
  obtain ⟨ao5,cp5,rfl,hc5',_,hl5'⟩:=zw hown
  have HL5':=znq hl5'
  have HS:=znq (HS.znr.later hbel)
  clear hown hl5' hbel HC
  have d9:(mn:Int)+(tn:Int)=(n5:Int):=by omega
  have hx3:=(HS.znr.get 0 rfl).cell 3 _ rfl
  have hx5:=(HS.znr.get 0 rfl).cell 5 _ rfl
  have F1:=yL w5 ao5 n5 cp5 b5 HB5.znr HL5'.znr
  have F2:=yL w5 a5 n5 c5 b5 HB5.znr (HL5.znr.below HS.znr.bel)
  generalize str b5=s1 at *
  go_wp2_with fail
  refine (zn3 _ (HG.znr.below HS.znr.bel) (HBG.znr.below HS.znr.bel)).mono ?_
  rintro e w9 ⟨rfl,hbel⟩
  have HS:=znq (HS.znr.later hbel)
  clear hbel
  go_wp2
  go_ret
  exact ⟨rfl,HS.znr.bel⟩
end Go.Proofs.YtjaioajjfiaheaaGreatDoor
