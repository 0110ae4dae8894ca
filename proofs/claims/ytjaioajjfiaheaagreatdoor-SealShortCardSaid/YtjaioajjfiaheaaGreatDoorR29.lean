/-
  Texts of this claim, one behind the other.
-/
import Derived.Test.YtjaioajjfiaheaaGreatDoorR1
import Derived.Test.YtjaioajjfiaheaaGreatDoorR26
import Derived.Lib.Hide
set_option linter.unusedVariables false
set_option linter.unusedSimpArgs false
set_option maxHeartbeats 16000000
set_option maxRecDepth 100000
namespace Go.Proofs.YtjaioajjfiaheaaGreatDoor
open Go.RowKit Go.Mem Go.Ops Go.Cells Go.Oct Go.Gf Go.Trn Go.Aes Go.Ring Go.Ezk Go.Ezh Go.Ezt Go.Ezc Go.Aez Go.Blake Go.CutP Go.Fl Go.Adi Go.Hct Go.Wid
attribute [local irreducible] zE zN zO zM yu
theorem zqn (alg:Int) (a1:Option Addr) (n1 c1:Nat) (b1:List UInt8) (a2:Option Addr) (n2 c2:Nat) (b2:List UInt8) (t:Int) (a4:Option Addr) (N c4:Nat) (ss:List Str) (a5:Option Addr) (n5 c5:Nat) (b5:List UInt8) (w:World)
  (hb1:b1.length=n1) (hc1:n1≤c1) (hl1:zr w a1 (b1.map B)) (hb2:b2.length=n2) (hc2:n2≤c2) (hl2:zr w a2 (b2.map B)) (hN:ss.length=N) (hNm:N≤maxLen) (hs:xY w a4 ss) (hb5:b5.length=n5) (hc5:n5≤c5) (hm5:c5≤maxLen) (hl5:zr w a5 (b5.map B)) (hg:Globals w) (hbg:qD w) :
  Calls Tryz.prog 4 #[.agg (znt alg a1 n1 c1 a2 n2 c2 t a4 N c4 a5 n5 c5).toArray] w fun e w'=>e=.returned (.bool true)∧Below w.heap.size w w':=by
 have HS:=znq (St.start w)
 have HNN:=znq hN
 have HSS:=znq hs
 have HSL:=znq hs.lies
 have HNM:=znq hNm
 clear hN hs hNm
 by_cases hr:zn0 alg n1 n2 N n5 ss=true
 rotate_left
 ·have HR:=znq (show zn0 alg n1 n2 N n5 ss=false∧True from ⟨by simpa using hr,trivial⟩)
  clear hr
  go_enter Tryz.func4,Tryz.ntmps4
  go_wp2_with (refine zh 25 _ (znt alg a1 n1 c1 a2 n2 c2 t a4 N c4 a5 n5 c5) _ rfl rfl rfl rfl ?_)
  intro w1 hb hbel;have HS:=znq (HS.znr.push hb hbel);clear hb hbel
  go_wp2_with (refine (HS.znr.get 0 rfl).wload rfl rfl rfl yb rfl ?_)
  refine (znu alg a1 n1 c1 a2 n2 c2 t a4 N c4 a5 n5 c5 ss _ HNN.znr HNM.znr (HSL.znr.below HS.znr.bel)).mono ?_
  rintro e w2 ⟨rfl,hbel⟩
  rw [HR.znr.1]
  have HS:=znq (HS.znr.later hbel)
  clear hbel
  go_wp2
  go_ret
  exact ⟨rfl,HS.znr.bel⟩
 have HR:=znq (show zn0 alg n1 n2 N n5 ss=true∧True from ⟨hr,trivial⟩)
 obtain ⟨_,hn1,hw,hn2,hn6,hn5⟩:=of_decide_eq_true hr
 clear hr
 by_cases ht:0≤t∧t≤16
 rotate_left
 ·have HT:=znq (show decide (0≤t∧t≤16)=false∧True from ⟨decide_eq_false ht,trivial⟩)
  clear ht hw
  go_enter Tryz.func4,Tryz.ntmps4
  go_wp2_with (refine zh 25 _ (znt alg a1 n1 c1 a2 n2 c2 t a4 N c4 a5 n5 c5) _ rfl rfl rfl rfl ?_)
  intro w1 hb hbel;have HS:=znq (HS.znr.push hb hbel);clear hb hbel
  go_wp2_with (refine (HS.znr.get 0 rfl).wload rfl rfl rfl yb rfl ?_)
  refine (znu alg a1 n1 c1 a2 n2 c2 t a4 N c4 a5 n5 c5 ss _ HNN.znr HNM.znr (HSL.znr.below HS.znr.bel)).mono ?_
  rintro e w2 ⟨rfl,hbel⟩
  rw [HR.znr.1]
  have HS:=znq (HS.znr.later hbel)
  clear hbel
  have hx3:=(HS.znr.get 0 rfl).cell 3 _ rfl
  go_wp2_with fail
  refine (znx t _).mono ?_
  rintro e w3 ⟨rfl,rfl⟩
  rw [HT.znr.1]
  go_wp2
  go_ret
  exact ⟨rfl,HS.znr.bel⟩
 have HT:=znq (show decide (0≤t∧t≤16)=true∧True from ⟨decide_eq_true ht,trivial⟩)
 obtain ⟨tn,rfl⟩:∃ tn:Nat,t=(tn:Int):=⟨t.toNat,by omega⟩
 have htn:tn≤16:=by omega
 clear ht
 obtain ⟨k,hk⟩:∃ k,k=jy alg b1:=⟨_,rfl⟩
 have HK:=znq (show jy alg b1=k∧(k.alg:Int)=alg∧k.least=wg alg from ⟨hk.symm,by rw [hk];exact zdt (by rw [hb1];exact hw),by rw [hk];exact jz (by rw [hb1];exact hw)⟩)
 have HW:=znq hw
 have HB1:=znq hb1
 have HL1:=znq hl1
 have HB2:=znq hb2
 have HL2:=znq hl2
 have HB5:=znq hb5
 have HL5:=znq hl5
 have HG:=znq hg
 have HBG:=znq hbg
 by_cases h3:alg=3
 ·have d1:(alg != 3)=false:=by simp;omega
  have HRM:=znq (show k.room tn n5 from .inl (by have:=HK.znr.2.1;omega))
  clear hw hb1 hl1 hb2 hl2 hb5 hl5 hg hbg hk h3
  go_enter Tryz.func4,Tryz.ntmps4
  go_wp2_with (refine zh 25 _ (znt alg a1 n1 c1 a2 n2 c2 tn a4 N c4 a5 n5 c5) _ rfl rfl rfl rfl ?_)
  intro w1 hb hbel;have HS:=znq (HS.znr.push hb hbel);clear hb hbel
  go_wp2_with (refine (HS.znr.get 0 rfl).wload rfl rfl rfl yb rfl ?_)
  refine (znu alg a1 n1 c1 a2 n2 c2 tn a4 N c4 a5 n5 c5 ss _ HNN.znr HNM.znr (HSL.znr.below HS.znr.bel)).mono ?_
  rintro e w2 ⟨rfl,hbel⟩
  rw [HR.znr.1]
  have HS:=znq (HS.znr.later hbel)
  clear hbel
  have hx3:=(HS.znr.get 0 rfl).cell 3 _ rfl
  go_wp2_with fail
  refine (znx tn _).mono ?_
  rintro e w3 ⟨rfl,rfl⟩
  rw [HT.znr.1]
  go_wp2_with (refine (HS.znr.get 0 rfl).wload rfl rfl rfl yb rfl ?_)
  refine (zn4 alg a1 n1 c1 b1 a2 n2 c2 tn a4 N c4 a5 n5 c5 _ HB1.znr HW.znr hc1 (HL1.znr.below HS.znr.bel) (HG.znr.below HS.znr.bel) (HBG.znr.below HS.znr.bel)).mono ?_
  rintro e w3 ⟨cp,rfl,hst,hbel⟩
  rw [HK.znr.1] at hst
  have HS:=znq (HS.znr.later hbel)
  have HC:=znq (zpy (c4:=c4) HR.znr.1 htn hst.self HB2.znr hc2 (HL2.znr.below HS.znr.bel) HNN.znr (HSS.znr.below HS.znr.bel))
  clear hst hbel hx3
  have hx5:=(HS.znr.get 0 rfl).cell 5 _ rfl
  go_wp2_with (refine (HS.znr.get 0 rfl).wload rfl rfl rfl yb rfl ?_)
  refine (zoe alg a1 n1 c1 a5 n5 c5 a5 n5 c5 b5 _ HC.znr HB5.znr (by omega) hc5 (HL5.znr.below HS.znr.bel) HRM.znr).mono ?_
  rintro e w4 ⟨v4,rfl,hown,hbel⟩
  obtain ⟨ao4,cp4,rfl,_,_,_⟩:=zw hown
  clear hown
  have HS:=znq (HS.znr.later hbel)
  clear hbel hx5 HC
  have hx0:=fun (x:zG w4.drew)=>((HS.znr.get 0 rfl).drew.below x.later (HS.znr.get 0 rfl).drew.lt).cell 0 _ rfl
  have hx3:=fun (x:zG w4.drew)=>((HS.znr.get 0 rfl).drew.below x.later (HS.znr.get 0 rfl).drew.lt).cell 3 _ rfl
  have hx5:=fun (x:zG w4.drew)=>((HS.znr.get 0 rfl).drew.below x.later (HS.znr.get 0 rfl).drew.lt).cell 5 _ rfl
  go_wp2_with fail
  refine zn [0,1,2,3,4,5,6,7,8,9,10,11,12,13,14] (by kernel_rfl) (by kernel_rfl) ?_
  rintro w5 rfl
  have HS:=znq HS.znr.drew
  refine mqW ?_
  refine zo ?_
  clear hx0 hx3 hx5
  have hx3:=(HS.znr.get 0 rfl).cell 3 _ rfl
  have hx5:=(HS.znr.get 0 rfl).cell 5 _ rfl
  go_wp2_with fail
  refine (zn3 _ (HG.znr.below HS.znr.bel) (HBG.znr.below HS.znr.bel)).mono ?_
  rintro e w9 ⟨rfl,hbel⟩
  have HS:=znq (HS.znr.later hbel)
  clear hbel hx3 hx5
  go_wp2
  go_ret
  exact ⟨rfl,HS.znr.bel⟩
 have d1:(alg != 3)=true:=by simp;omega
 have HLA:=znq (show wg alg=16∧True from ⟨by unfold wg;rw [if_neg h3],trivial⟩)
 by_cases hs16:16≤n5+tn
 ·have d2:decide ((n5:Int)+(tn:Int) < 16)=false:=by simp;omega
  have HRM:=znq (show k.room tn n5 from .inr (by rw [HK.znr.2.2,HLA.znr.1];exact hs16))
  clear hw hb1 hl1 hb2 hl2 hb5 hl5 hg hbg hk h3 hs16
  go_enter Tryz.func4,Tryz.ntmps4
  go_wp2_with (refine zh 25 _ (znt alg a1 n1 c1 a2 n2 c2 tn a4 N c4 a5 n5 c5) _ rfl rfl rfl rfl ?_)
  intro w1 hb hbel;have HS:=znq (HS.znr.push hb hbel);clear hb hbel
  go_wp2_with (refine (HS.znr.get 0 rfl).wload rfl rfl rfl yb rfl ?_)
  refine (znu alg a1 n1 c1 a2 n2 c2 tn a4 N c4 a5 n5 c5 ss _ HNN.znr HNM.znr (HSL.znr.below HS.znr.bel)).mono ?_
  rintro e w2 ⟨rfl,hbel⟩
  rw [HR.znr.1]
  have HS:=znq (HS.znr.later hbel)
  clear hbel
  have hx3:=(HS.znr.get 0 rfl).cell 3 _ rfl
  go_wp2_with fail
  refine (znx tn _).mono ?_
  rintro e w3 ⟨rfl,rfl⟩
  rw [HT.znr.1]
  go_wp2_with (refine (HS.znr.get 0 rfl).wload rfl rfl rfl yb rfl ?_)
  refine (zn4 alg a1 n1 c1 b1 a2 n2 c2 tn a4 N c4 a5 n5 c5 _ HB1.znr HW.znr hc1 (HL1.znr.below HS.znr.bel) (HG.znr.below HS.znr.bel) (HBG.znr.below HS.znr.bel)).mono ?_
  rintro e w3 ⟨cp,rfl,hst,hbel⟩
  rw [HK.znr.1] at hst
  have HS:=znq (HS.znr.later hbel)
  have HC:=znq (zpy (c4:=c4) HR.znr.1 htn hst.self HB2.znr hc2 (HL2.znr.below HS.znr.bel) HNN.znr (HSS.znr.below HS.znr.bel))
  clear hst hbel hx3
  have hx5:=(HS.znr.get 0 rfl).cell 5 _ rfl
  go_wp2_with (refine (HS.znr.get 0 rfl).wload rfl rfl rfl yb rfl ?_)
  refine (zoe alg a1 n1 c1 a5 n5 c5 a5 n5 c5 b5 _ HC.znr HB5.znr (by omega) hc5 (HL5.znr.below HS.znr.bel) HRM.znr).mono ?_
  rintro e w4 ⟨v4,rfl,hown,hbel⟩
  obtain ⟨ao4,cp4,rfl,_,_,_⟩:=zw hown
  clear hown
  have HS:=znq (HS.znr.later hbel)
  clear hbel hx5 HC
  have hx0:=fun (x:zG w4.drew)=>((HS.znr.get 0 rfl).drew.below x.later (HS.znr.get 0 rfl).drew.lt).cell 0 _ rfl
  have hx3:=fun (x:zG w4.drew)=>((HS.znr.get 0 rfl).drew.below x.later (HS.znr.get 0 rfl).drew.lt).cell 3 _ rfl
  have hx5:=fun (x:zG w4.drew)=>((HS.znr.get 0 rfl).drew.below x.later (HS.znr.get 0 rfl).drew.lt).cell 5 _ rfl
  go_wp2_with fail
  refine zn [0,1,2,3,4,5,6,7,8,9,10,11,12,13,14] (by kernel_rfl) (by kernel_rfl) ?_
  rintro w5 rfl
  have HS:=znq HS.znr.drew
  refine mqW ?_
  refine zi rfl rfl (by rfl) (fun K hK=>?_)
  go_simp
  refine (J4 alg _).mono ?_
  rintro e w5 ⟨rfl,rfl⟩
  rw [HLA.znr.1]
  go_simp
  refine hK _ _ (zW.refl _) ?_
  clear hK K
  refine mqW ?_
  refine zo ?_
  clear hx0 hx3 hx5
  have hx3:=(HS.znr.get 0 rfl).cell 3 _ rfl
  have hx5:=(HS.znr.get 0 rfl).cell 5 _ rfl
  go_wp2_with fail
  refine (zn3 _ (HG.znr.below HS.znr.bel) (HBG.znr.below HS.znr.bel)).mono ?_
  rintro e w9 ⟨rfl,hbel⟩
  have HS:=znq (HS.znr.later hbel)
  clear hbel hx3 hx5
  go_wp2
  go_ret
  exact ⟨rfl,HS.znr.bel⟩
 ·have d2:decide ((n5:Int)+(tn:Int) < 16)=true:=by simp;omega
  have HRM:=znq (show k.alg≠3∧n5+tn < k.least from ⟨by have:=HK.znr.2.1;omega,by rw [HK.znr.2.2,HLA.znr.1];omega⟩)
  clear hw hb1 hl1 hb2 hl2 hb5 hl5 hg hbg hk h3 hs16
  go_enter Tryz.func4,Tryz.ntmps4
  go_wp2_with (refine zh 25 _ (znt alg a1 n1 c1 a2 n2 c2 tn a4 N c4 a5 n5 c5) _ rfl rfl rfl rfl ?_)
  intro w1 hb hbel;have HS:=znq (HS.znr.push hb hbel);clear hb hbel
  go_wp2_with (refine (HS.znr.get 0 rfl).wload rfl rfl rfl yb rfl ?_)
  refine (znu alg a1 n1 c1 a2 n2 c2 tn a4 N c4 a5 n5 c5 ss _ HNN.znr HNM.znr (HSL.znr.below HS.znr.bel)).mono ?_
  rintro e w2 ⟨rfl,hbel⟩
  rw [HR.znr.1]
  have HS:=znq (HS.znr.later hbel)
  clear hbel
  have hx3:=(HS.znr.get 0 rfl).cell 3 _ rfl
  go_wp2_with fail
  refine (znx tn _).mono ?_
  rintro e w3 ⟨rfl,rfl⟩
  rw [HT.znr.1]
  go_wp2_with (refine (HS.znr.get 0 rfl).wload rfl rfl rfl yb rfl ?_)
  refine (zn4 alg a1 n1 c1 b1 a2 n2 c2 tn a4 N c4 a5 n5 c5 _ HB1.znr HW.znr hc1 (HL1.znr.below HS.znr.bel) (HG.znr.below HS.znr.bel) (HBG.znr.below HS.znr.bel)).mono ?_
  rintro e w3 ⟨cp,rfl,hst,hbel⟩
  rw [HK.znr.1] at hst
  have HS:=znq (HS.znr.later hbel)
  have HC:=znq (zpy (c4:=c4) HR.znr.1 htn hst.self HB2.znr hc2 (HL2.znr.below HS.znr.bel) HNN.znr (HSS.znr.below HS.znr.bel))
  clear hst hbel hx3
  have hx5:=(HS.znr.get 0 rfl).cell 5 _ rfl
  go_wp2_with (refine (HS.znr.get 0 rfl).wload rfl rfl rfl yb rfl ?_)
  refine (zo7 alg a1 n1 c1 a5 n5 c5 a5 n5 c5 b5 _ HC.znr HRM.znr.1 HB5.znr (by omega) hc5 (HL5.znr.below HS.znr.bel) HRM.znr.2).mono ?_
  rintro e w4 ⟨rfl,hbel⟩
  have HS:=znq (HS.znr.later hbel)
  clear hbel hx5 HC
  have hx0:=fun (x:zG w4.drew)=>((HS.znr.get 0 rfl).drew.below x.later (HS.znr.get 0 rfl).drew.lt).cell 0 _ rfl
  have hx3:=fun (x:zG w4.drew)=>((HS.znr.get 0 rfl).drew.below x.later (HS.znr.get 0 rfl).drew.lt).cell 3 _ rfl
  have hx5:=fun (x:zG w4.drew)=>((HS.znr.get 0 rfl).drew.below x.later (HS.znr.get 0 rfl).drew.lt).cell 5 _ rfl
  go_wp2_with fail
  refine zn [0,1,2,3,4,5,6,7,8,9,10,11,12,13,14] (by kernel_rfl) (by kernel_rfl) ?_
  rintro w5 rfl
  have HS:=znq HS.znr.drew
  refine mqW ?_
  refine zi rfl rfl (by rfl) (fun K hK=>?_)
  go_simp
  refine (J4 alg _).mono ?_
  rintro e w5 ⟨rfl,rfl⟩
  rw [HLA.znr.1]
  go_simp
  refine hK _ _ (zW.refl _) ?_
  clear hK K
  refine mqW ?_
  refine zo ?_
  clear hx0 hx3 hx5
  have hx3:=(HS.znr.get 0 rfl).cell 3 _ rfl
  have hx5:=(HS.znr.get 0 rfl).cell 5 _ rfl
  go_wp2_with fail
  refine (zn3 _ (HG.znr.below HS.znr.bel) (HBG.znr.below HS.znr.bel)).mono ?_
  rintro e w9 ⟨rfl,hbel⟩
  have HS:=znq (HS.znr.later hbel)
  clear hbel hx3 hx5
  go_wp2
  go_ret
  exact ⟨rfl,HS.znr.bel⟩
end Go.Proofs.YtjaioajjfiaheaaGreatDoor
