/-
  Texts of this claim, one behind the other.
-/
import Derived.Test.YtbpghohkhngdfaaGreatDoorQ1
import Derived.Test.YtbpghohkhngdfaaGreatDoorQ24
import Derived.Test.YtbpghohkhngdfaaGreatDoorQ18
import Derived.Test.YtbpghohkhngdfaaGreatDoorQ4
import Derived.Test.YtbpghohkhngdfaaGreatDoorQ8
import Derived.Test.YtbpghohkhngdfaaGreatDoorTie
import Derived.ProofKit
import Derived.LaidMore
import Derived.OpenShut
import Derived.Stop.Joined
import Derived.Lib.Hide
set_option linter.unusedVariables false
set_option linter.unusedSimpArgs false
set_option maxHeartbeats 16000000
set_option maxRecDepth 100000
namespace Go.Proofs.YtbpghohkhngdfaaGreatDoor
open Go.RowKit Go.Mem Go.Ops Go.Cells Go.Oct Go.Trn Go.Aes Go.Hct Go.Ezt Go.Ezh Go.Fl
attribute [local irreducible] zE zN zO zM yu
theorem zgj (F xb cp:Nat) (k:ka) (f:List UInt8→List UInt8) (ao:Option Addr) (tn tc:Nat) (t:List UInt8) (bo:Option Addr) (n cb:Nat) (m:List UInt8) (w:World) (hk:Z5 w cp k)
  (hcf:∀ args w,(callFunc F args).run Tryz.prog w=.ok (.enter F args) w) (hf:∀ w' b,Below w.heap.size w w'→b.length=16→Calls Tryz.prog F #[.agg (b.map B).toArray,.pointer (some ⟨xb,0,none⟩)] w' fun e w''=>e=.returned (.agg ((f b).map B).toArray)∧Below w'.heap.size w' w'') (hfl:∀ b,(f b).length=16)
  (ht:t.length=tn) (ht1:tn≤10000) (htc:tn≤tc) (hlt:zr w ao (t.map B)) (hn:m.length=n) (h1:16≤n) (h31:n≤20000) (hcb:n≤cb) (hl:zr w bo (m.map B)) :
  Calls Tryz.prog 320 #[.pointer (some ⟨cp,0,none⟩),.slice ao tn tc,.slice bo n cb,.func (.func F) #[] #[.pointer (some ⟨xb,0,none⟩)]] w fun e w'=>∃ v,e=.returned (.tuple #[v,.int .i64 0])∧w'.ownsRow w.heap.size 5 1 v n ((doesH k t m (f (Zc k t m))).map B)∧Below w.heap.size w w':=by
 obtain ⟨kp,q,p,kb,koff,kn,kcap,hx⟩:=hk.ex
 have HX:=znq hx
 have HH16:=znq (show k.h.length=16∧k.l.length=16 from ⟨hk.h16,hk.l16⟩)
 have HHV:=znq (show (k.h.map B).length=16 by rw [List.length_map];exact hk.h16)
 have HLV:=znq (show (k.l.map B).length=16 by rw [List.length_map];exact hk.l16)
 have HF:=znq hf
 have HCF:=znq hcf
 have HT:=znq ht
 have HLT:=znq hlt
 have HN:=znq hn
 have HL:=znq hl
 obtain ⟨a,ha⟩:∃ a,a=n - 16:=⟨_,rfl⟩
 have ea:(n:Int) - 16=(a:Int):=by omega
 have hcvt:floatOfInt .f64 (a:Int)=fl a:=rfl
 have hd16:decide ((n:Int) < 16)=false:=by simp;omega
 have han:a≤20000:=by omega
 have HAN:=znq (show a+16=n from by omega)
 obtain ⟨lf,hlf⟩:∃ x,x=m.take 16:=⟨_,rfl⟩
 obtain ⟨bk,hbk⟩:∃ x,x=m.drop 16:=⟨_,rfl⟩
 have HLF:=znq (show lf.length=16∧True from ⟨by rw [hlf,List.length_take];omega,trivial⟩)
 have HBK:=znq (show bk.length=a∧True from ⟨by rw [hbk,List.length_drop,hn];omega,trivial⟩)
 have HC1:=znq (show wC 0 4625196817309499392 n=some (0,16) from by have:=jR 0 16 n (by omega) (by omega);rw [Qc,zk8] at this;exact this)
 have HC2:=znq (show wC 4625196817309499392 (fl a) n=some (16,a) from by have:=jR 16 a n (by omega) (by omega);rw [zk8] at this;exact this)
 have HTD:=znq (show (m.drop 0).take 16=lf∧(m.drop 16).take a=bk from ⟨hlf.symm,by rw [hbk,List.take_of_length_le (by rw [List.length_drop,hn];omega)]⟩)
 obtain ⟨lb,hlb⟩:∃ x,x=block lf:=⟨_,rfl⟩
 have HLB:=znq (show block lf=lb∧lb.length=16 from ⟨hlb.symm,by rw [hlb];exact zA _⟩)
 obtain ⟨hv,hhv⟩:∃ x,x=Go.Hct.hashV k.h t bk:=⟨_,rfl⟩
 have HHA:=znq (show Go.Hct.hashV k.h t bk=hv∧hv.length=16 from ⟨hhv.symm,by rw [hhv];exact Go.Hct.hashV_length _ _ _⟩)
 obtain ⟨one,hone⟩:∃ x,x=plusB [lb,hv]:=⟨_,rfl⟩
 have HONE:=znq (show plusB [lb,hv]=one∧one.length=16 from ⟨hone.symm,by rw [hone];exact Go.Hct.plusB_length _ _⟩)
 have HONV:=znq (show (one.map B).length=16 by rw [List.length_map];exact HONE.znr.2)
 obtain ⟨two,htwo⟩:∃ x,x=f one:=⟨_,rfl⟩
 have HTWO:=znq (show f one=two∧two.length=16 from ⟨htwo.symm,by rw [htwo];exact hfl _⟩)
 have HTWV:=znq (show (two.map B).length=16 by rw [List.length_map];exact HTWO.znr.2)
 obtain ⟨mid,hmid⟩:∃ x,x=plusB [one,two,k.l]:=⟨_,rfl⟩
 have HMID:=znq (show plusB [one,two,k.l]=mid∧mid.length=16 from ⟨hmid.symm,by rw [hmid];exact zB _ _⟩)
 obtain ⟨bk2,hbk2⟩:∃ x,x=xS k.ks mid bk:=⟨_,rfl⟩
 have HBK2:=znq (show xS k.ks mid bk=bk2∧bk2.length=a from ⟨hbk2.symm,by rw [hbk2,jH];exact HBK.znr.1⟩)
 obtain ⟨hv2,hhv2⟩:∃ x,x=Go.Hct.hashV k.h t bk2:=⟨_,rfl⟩
 have HHA2:=znq (show Go.Hct.hashV k.h t bk2=hv2∧hv2.length=16 from ⟨hhv2.symm,by rw [hhv2];exact Go.Hct.hashV_length _ _ _⟩)
 obtain ⟨fs,hfs⟩:∃ x,x=plusB [two,hv2]:=⟨_,rfl⟩
 have HFS:=znq (show plusB [two,hv2]=fs∧fs.length=16 from ⟨hfs.symm,by rw [hfs];exact Go.Hct.plusB_length _ _⟩)
 have HFV:=znq (show (fs.map B).length=16 by rw [List.length_map];exact HFS.znr.2)
 have HRES:=znq (show doesH k t m (f (Zc k t m))=fs++bk2∧True from ⟨by
  have e:Zc k t m=one:=by unfold Zc;rw [← hlf,← hbk,← hlb,← hhv,← hone]
  rw [e,← htwo]
  unfold doesH
  rw [e,← hmid,← hbk,← hbk2,← hhv2,← hfs],trivial⟩)
 rw [HRES.znr.1]
 have HS:=znq (St.start w)
 clear hk hx hcf hf ht hlt hn hl ha hlf hbk hlb hhv hone htwo hmid hbk2 hhv2 hfs HRES
 go_enter Tryz.func320,Tryz.ntmps320
 generalize hbb:w.heap.size=bb at *
 have HBB:=znq hbb
 have HBW:=znq (show ∀ wz L,St w bb wz L→Below w.heap.size w wz from fun wz L h=>by rw [hbb];exact h.bel)
 clear hbb
 go_wp2_with fail
 refine (zb9 bo n cb m 0 4625196817309499392 0 16 _ HN.znr hcb (by omega) (HL.znr.below (HBW.znr _ _ HS.znr)) HC1.znr).mono ?_
 rintro e w1 ⟨v1,rfl,hown,hbel⟩
 rw [HTD.znr.1] at hown
 have HO1:=znq hown
 obtain ⟨a1,c1,rfl,hc1,_,_⟩:=zw hown
 have HS:=znq (HS.znr.later hbel)
 have hz1:=HS.znr.size
 clear hown hbel
 go_wp2_with fail
 refine (zb9 bo n cb m 4625196817309499392 (fl a) 16 a _ HN.znr hcb (by omega) (HL.znr.below (HBW.znr _ _ HS.znr)) HC2.znr).mono ?_
 rintro e w2 ⟨v2,rfl,hown,hbel⟩
 rw [HTD.znr.2] at hown
 have HO1:=znq (zm HO1.znr hbel)
 have HO2:=znq (yi hown hz1)
 obtain ⟨a2,c2,rfl,hc2,_,_⟩:=zw hown
 have HS:=znq (HS.znr.later hbel)
 clear hown hbel hcvt ea
 have hz2:=HS.znr.size
 go_wp2_with fail
 refine yn [0,2,3,4,5,6,7] [1,8,9,10] [12] [zH.var 11 14 52 ((zf 16).map B)] (by kernel_rfl) (by kernel_rfl) ?_
 rintro w3 rfl
 have HS:=znq HS.znr.drew
 have HO1:=znq (zm HO1.znr (Below.refl _ _).drew)
 have HO2:=znq (zm HO2.znr (Below.refl _ _).drew)
 have HX3:=znq (HX.znr.later (HBW.znr _ _ HS.znr))
 refine mq0 ?_
 refine zL (Blk.rangeIn HX3.znr.blk 1 16 _ (hcV_h HH16.znr.1)) HX3.znr.blk.lt zc HHV.znr rfl rfl rfl (fun K hK=>?_)
 go_simp;refine hK _ ?_;clear hK K
 refine mq0 ?_
 refine yK ⟨?_,?_,Nat.le_refl _⟩
 ·intro f hf
  simp only [List.mem_singleton] at hf
  subst hf
  exact y6 _ _ _ _ _ _ rfl rfl rfl rfl (by simp) zj rfl
 refine zC rfl rfl (fun uz wa hla K hK=>?_)
 go_simp
 have HO1:=znq (zm HO1.znr hla)
 have HO2:=znq (zm HO2.znr hla)
 have HS:=znq (HS.znr.later hla)
 refine (yQ a1 16 c1 lf _ HLF.znr.1 (zr.of_own HO1.znr)).mono ?_
 rintro e w4 ⟨rfl,hbel⟩
 rw [HLB.znr.1]
 have HO2:=znq (zm HO2.znr hbel)
 have HS:=znq (HS.znr.later hbel)
 clear HO1
 go_simp
 refine hK _ _ hbel ?_
 clear hK K hbel hla
 refine zC rfl rfl (fun uz wa hla K hK=>?_)
 go_simp
 have HO2:=znq (zm HO2.znr hla)
 have HS:=znq (HS.znr.later hla)
 refine (zdq k.h ao tn tc t a2 a c2 bk _ HH16.znr.1 HT.znr htc (by omega) (HLT.znr.below (HBW.znr _ _ HS.znr)) HBK.znr.1 hc2 (by omega) (zr.of_own HO2.znr)).mono ?_
 rintro e w5 ⟨rfl,hbel⟩
 rw [HHA.znr.1]
 have HO2:=znq (zm HO2.znr hbel)
 have HS:=znq (HS.znr.later hbel)
 go_simp
 refine hK _ _ hbel ?_
 clear hK K hbel hla
 refine zC rfl rfl (fun uz wa6 hla K hK=>?_)
 refine y8 49 52 16 2 _ [lb.map B,hv.map B] rfl rfl Tryz.underlying49 zF rfl (by omega) rfl (by omega) (by omega) (by simp [HLB.znr.2,HHA.znr.2]) ?_
 intro w6 hb hbel
 have HO2:=znq (zm HO2.znr (hla.trans hbel))
 have HS:=znq (HS.znr.later (hla.trans hbel))
 refine hK _ _ hbel ?_
 have HR:=znq (show yB 16 w6 (some ⟨wa6.heap.size,0,none⟩) [lb,hv] from ⟨by simp [HLB.znr.2,HHA.znr.2],by have:=hb.lies;simpa using this⟩)
 clear hK K hbel hla hb
 go_simp
 refine zC rfl rfl (fun uz wa7 hla K hK=>?_)
 go_simp
 refine (QZ (some ⟨wa6.heap.size,0,none⟩) 2 2 [lb,hv] _ rfl (by omega) (HR.znr.below hla)).mono ?_
 rintro e w7 ⟨rfl,hbel⟩
 have HO2:=znq (zm HO2.znr (hla.trans hbel))
 have HS:=znq (HS.znr.later (hla.trans hbel))
 rw [HONE.znr.1]
 go_simp
 refine hK _ _ hbel ?_
 clear hK K hbel hla HR
 refine yZ (fun b1 wb8 hlb hbx8 hbn=>?_)
 go_simp
 have HO2:=znq (zm HO2.znr hlb)
 have HS:=znq ((HS.znr.later hlb).add (show Blk wb8 b1 ((zf 16).map B) 52 from hbn))
 clear hlb hbn
 have h1b:bb≤b1:=by omega
 refine zp rfl rfl (by rfl) (fun K hK=>?_)
 refine (HS.znr.get 0 rfl).opstore rfl rfl rfl zc (by simp [zd]) HONV.znr (zg _) (fun w8 hb ho=>hK _ _ ?_)
 clear hK K
 have HO2:=znq (zu HO2.znr (HS.znr.get 0 rfl) (by decide) ho)
 have HS:=znq (show St w bb w8 [(b1,one.map B,52)] from HS.znr.change 0 hb ho h1b (by simp))
 clear hb ho
 go_simp
 refine zo ?_
 have hb1:=HS.znr.ne _ (List.mem_of_getElem? (i:=0) rfl)
 go_wp2_with (refine (HS.znr.get 0 rfl).wload rfl rfl rfl zc HONV.znr ?_)
 rw [HCF.znr]
 simp only [Oper.upon_enter]
 refine (HF.znr _ one HS.znr.bel HONE.znr.2).mono ?_
 rintro e w9 ⟨rfl,hbel⟩
 rw [HTWO.znr.1]
 have HO2:=znq (zm HO2.znr hbel)
 have HS:=znq (HS.znr.later hbel)
 have hb1':=HS.znr.ne _ (List.mem_of_getElem? (i:=0) rfl)
 clear hbel
 go_wp2_with (refine ze 52 ((zf 16).map B) _ rfl rfl zj rfl ?_)
 intro w10 hb hbel
 have HO2:=znq (zm HO2.znr hbel)
 have HS:=znq (HS.znr.push hb hbel)
 clear hb hbel
 generalize hb9:w9.heap.size=b2 at *
 clear hb9
 go_wp2_with (refine (HS.znr.get 0 rfl).wstore rfl rfl rfl (cs:=two.map B) rfl zc (by simp [zd]) HTWV.znr (zg _) ?_)
 intro w11 hb ho
 have HO2:=znq (zu HO2.znr (HS.znr.get 0 rfl) (by decide) ho)
 have HS:=znq (show St w bb w11 [(b2,two.map B,52),(b1,one.map B,52)] from HS.znr.change 0 hb ho (by omega) (by simp;omega))
 clear hb ho
 have HX3:=znq (HX.znr.later (HBW.znr _ _ HS.znr))
 have hc0:=fun (x:zG w11.drew)=>((HX.znr.later (HBW.znr _ _ (HS.znr.drew.later x.later))).blk).cell 0 _ rfl
 go_wp2_with fail
 refine zn [0,1,2,3,4,5,6,7,8,9,12,10,11,13,14,15,16,17] (by kernel_rfl) (by kernel_rfl) ?_
 rintro w12 rfl
 refine mqR ?_
 clear hc0
 have HO2:=znq (zm HO2.znr (Below.refl _ _).drew)
 have HS:=znq HS.znr.drew
 have HX3:=znq (HX.znr.later (HBW.znr _ _ HS.znr))
 refine zt (HS.znr.get 1 rfl).range (HS.znr.get 1 rfl).lt zc HONV.znr rfl rfl rfl rfl (fun K hK=>?_)
 go_simp;refine hK _ ?_;clear hK K
 refine zt (HS.znr.get 0 rfl).range (HS.znr.get 0 rfl).lt zc HTWV.znr rfl rfl rfl rfl (fun K hK=>?_)
 go_simp;refine hK _ ?_;clear hK K
 refine mqR ?_
 refine zt (Blk.rangeIn HX3.znr.blk 17 16 _ (hcV_l HH16.znr.1 HH16.znr.2)) HX3.znr.blk.lt zc HLV.znr rfl rfl rfl rfl (fun K hK=>?_)
 go_simp;refine hK _ ?_;clear hK K
 refine mqR ?_
 refine zi rfl rfl (by rfl) (fun K hK=>?_)
 refine y8 49 52 16 3 _ [one.map B,two.map B,k.l.map B] rfl rfl Tryz.underlying49 zF rfl (by omega) rfl (by omega) (by omega) (by simp [HONE.znr.2,HTWO.znr.2,HH16.znr.2]) ?_
 intro w13 hb hbel
 have HO2:=znq (zm HO2.znr hbel)
 have HS:=znq (HS.znr.later hbel)
 have HR:=znq (show yB 16 w13 (some ⟨w11.drew.heap.size,0,none⟩) [one,two,k.l] from ⟨by simp [HONE.znr.2,HTWO.znr.2,HH16.znr.2],by have:=hb.lies;simpa using this⟩)
 refine hK _ _ hbel ?_
 clear hK K hbel hb
 go_simp
 refine zi rfl rfl (by rfl) (fun K hK=>?_)
 go_simp
 refine (QZ (some ⟨w11.drew.heap.size,0,none⟩) 3 3 [one,two,k.l] _ rfl (by omega) HR.znr).mono ?_
 rintro e w14 ⟨rfl,hbel⟩
 have HO2:=znq (zm HO2.znr hbel)
 have HS:=znq (HS.znr.later hbel)
 rw [HMID.znr.1]
 go_simp
 refine hK _ _ hbel ?_
 clear hK K hbel HR
 refine zi rfl rfl (by rfl) (fun K hK=>?_)
 go_simp
 refine (zic kp q p k.ks kb koff kn kcap mid a2 a c2 bk _ (HX.znr.later (HBW.znr _ _ HS.znr)).key HMID.znr.2 HBK.znr.1 hc2 (by omega) (zr.of_own HO2.znr)).mono ?_
 rintro e w15 ⟨v15,rfl,hown,hbel⟩
 rw [HBK2.znr.1] at hown
 have hz14:=HS.znr.size
 have HO2:=znq (yi hown hz14)
 obtain ⟨a3,c3,rfl,hc3,_,_⟩:=zw hown
 have HS:=znq (HS.znr.later hbel)
 go_simp
 refine hK _ _ hbel ?_
 clear hK K hbel hown hz14
 refine mqR ?_
 refine zo ?_
 have hz15:=HS.znr.size
 have HNE:=znq HS.znr.ne
 have HX3:=znq (HX.znr.later (HBW.znr _ _ HS.znr))
 go_wp2_with fail
 refine yn [0,1,2,3,4,5,6] [7,8,9] [11] [zH.var 10 16 52 ((zf 16).map B)] (by kernel_rfl) (by kernel_rfl) ?_
 rintro w16 rfl
 have HS:=znq HS.znr.drew
 have HO2:=znq (zm HO2.znr (Below.refl _ _).drew)
 have HX3:=znq (HX.znr.later (HBW.znr _ _ HS.znr))
 refine mq0 ?_
 refine zL (HS.znr.get 0 rfl).range (HS.znr.get 0 rfl).lt zc HTWV.znr rfl rfl rfl (fun K hK=>?_)
 go_simp;refine hK _ ?_;clear hK K
 refine mq0 ?_
 refine zL (Blk.rangeIn HX3.znr.blk 1 16 _ (hcV_h HH16.znr.1)) HX3.znr.blk.lt zc HHV.znr rfl rfl rfl (fun K hK=>?_)
 go_simp;refine hK _ ?_;clear hK K
 refine mq0 ?_
 refine yK ⟨?_,?_,Nat.le_refl _⟩
 ·intro f hf
  simp only [List.mem_singleton] at hf
  subst hf
  exact y6 _ _ _ _ _ _ rfl rfl rfl rfl (by simp) zj rfl
 refine zC rfl rfl (fun uz wa hla K hK=>?_)
 go_simp
 have HO2:=znq (zm HO2.znr hla)
 have HS:=znq (HS.znr.later hla)
 refine (zdq k.h ao tn tc t a3 a c3 bk2 _ HH16.znr.1 HT.znr htc (by omega) (HLT.znr.below (HBW.znr _ _ HS.znr)) HBK2.znr.2 hc3 (by omega) (zr.of_own HO2.znr)).mono ?_
 rintro e w17 ⟨rfl,hbel⟩
 rw [HHA2.znr.1]
 have HO2:=znq (zm HO2.znr hbel)
 have HS:=znq (HS.znr.later hbel)
 go_simp
 refine hK _ _ hbel ?_
 clear hK K hbel hla
 refine zC rfl rfl (fun uz wa6 hla K hK=>?_)
 refine y8 49 52 16 2 _ [two.map B,hv2.map B] rfl rfl Tryz.underlying49 zF rfl (by omega) rfl (by omega) (by omega) (by simp [HTWO.znr.2,HHA2.znr.2]) ?_
 intro w18 hb hbel
 have HO2:=znq (zm HO2.znr (hla.trans hbel))
 have HS:=znq (HS.znr.later (hla.trans hbel))
 refine hK _ _ hbel ?_
 have HR:=znq (show yB 16 w18 (some ⟨wa6.heap.size,0,none⟩) [two,hv2] from ⟨by simp [HTWO.znr.2,HHA2.znr.2],by have:=hb.lies;simpa using this⟩)
 clear hK K hbel hla hb
 go_simp
 refine zC rfl rfl (fun uz wa7 hla K hK=>?_)
 go_simp
 refine (QZ (some ⟨wa6.heap.size,0,none⟩) 2 2 [two,hv2] _ rfl (by omega) (HR.znr.below hla)).mono ?_
 rintro e w19 ⟨rfl,hbel⟩
 have HO2:=znq (zm HO2.znr (hla.trans hbel))
 have HS:=znq (HS.znr.later (hla.trans hbel))
 rw [HFS.znr.1]
 go_simp
 refine hK _ _ hbel ?_
 clear hK K hbel hla HR
 refine yZ (fun b3 wb8 hlb hbx9 hbn=>?_)
 go_simp
 have HO2:=znq (zm HO2.znr hlb)
 have HS:=znq ((HS.znr.later hlb).add (show Blk wb8 b3 ((zf 16).map B) 52 from hbn))
 clear hlb hbn
 refine zp rfl rfl (by rfl) (fun K hK=>?_)
 refine (HS.znr.get 0 rfl).opstore rfl rfl rfl zc (by simp [zd]) HFV.znr (zg _) (fun w20 hb ho=>hK _ _ ?_)
 clear hK K
 have HO2:=znq (zu HO2.znr (HS.znr.get 0 rfl) (by decide) ho)
 have HS:=znq (show St w bb w20 [(b3,fs.map B,52),(b2,two.map B,52),(b1,one.map B,52)] from HS.znr.change 0 hb ho (by omega) (fun e he=>by have:=HNE.znr e he;omega))
 clear hb ho HNE
 go_simp
 refine zo ?_
 have HL2:=znq (zr.of_own HO2.znr)
 have HSS:=znq (show xY (w20.alloc (.cells #[.slice (some ⟨b3,0,none⟩) 16 16,.slice a3 a c3] 22)) (some ⟨w20.heap.size,0,none⟩) [⟨some ⟨b3,0,none⟩,16,fs⟩,⟨a3,c3,bk2⟩] from by
  refine ⟨?_,?_⟩
  ·have:=(Blk.new w20 [.slice (some ⟨b3,0,none⟩) 16 16,.slice a3 a c3] 22).lies
   simpa [Str.val,HFS.znr.2,HBK2.znr.2] using this
  ·intro s hs
   simp at hs
   rcases hs with rfl | rfl
   ·exact ⟨by rw [HFS.znr.2];exact Nat.le_refl _,(HS.znr.get 0 rfl).lies.below (zD _ _)⟩
   ·exact ⟨by rw [HBK2.znr.2];exact hc3,HL2.znr.below (zD _ _)⟩)
 have hz20:=HS.znr.size
 have HS:=znq (HS.znr.later (zD w20 (.cells #[.slice (some ⟨b3,0,none⟩) 16 16,.slice a3 a c3] 22)))
 have HCA:=znq (show q4 [⟨some ⟨b3,0,none⟩,16,fs⟩,⟨a3,c3,bk2⟩]=fs++bk2∧(fs++bk2).length=n from ⟨by simp [q4],by rw [List.length_append,HFS.znr.2,HBK2.znr.2];have:=HAN.znr;omega⟩)
 go_wp2_with fail
 have hz21:=HS.znr.size
 generalize hw21:w20.alloc (.cells #[.slice (some ⟨b3,0,none⟩) 16 16,.slice a3 a c3] 22)=w21 at *
 clear hw21
 refine (YU (some ⟨w20.heap.size,0,none⟩) 2 2 [⟨some ⟨b3,0,none⟩,16,fs⟩,⟨a3,c3,bk2⟩] _ rfl (by omega) HSS.znr (by rw [HCA.znr.1,HCA.znr.2];omega)).mono ?_
 rintro e w22 ⟨v22,rfl,hown,hbel⟩
 rw [HCA.znr.1,HCA.znr.2] at hown
 have HOWN:=znq (yi hown hz21)
 have HS:=znq (HS.znr.later hbel)
 clear hown hbel
 go_wp2
 go_ret2
 exact ⟨_,rfl,HOWN.znr,HS.znr.bel⟩
end Go.Proofs.YtbpghohkhngdfaaGreatDoor
namespace Go
theorem WH {P:Program} {f:FuncId} {fn:Func} (hf:P.funcs[f]? = some fn) (hname:(fn.name=="runtime.NumGoroutine")=false) (hb:fn.body.isSome=true) (args:Array Value) (w:World) :
  (callFunc f args).run P w=.ok (.enter f args) w:=by
 have h1:¬ fn.name="runtime.NumGoroutine":=by simpa using hname
 obtain ⟨c,hc⟩:=Option.isSome_iff_exists.1 hb
 simp [callFunc,hf,h1,hc]
end Go
namespace Go.Proofs.YtbpghohkhngdfaaGreatDoor
open Go.RowKit Go.Mem Go.Ops Go.Cells Go.Oct Go.Trn Go.Aes Go.Hct Go.Ezt Go.Ezh Go.Fl
attribute [local irreducible] zE zN zO zM yu
theorem VT (args:Array Value) (w:World):(callFunc 322 args).run Tryz.prog w=.ok (.enter 322 args) w:=WH Tryz.func322 (by kernel_rfl) (by kernel_rfl) args w
theorem VU (args:Array Value) (w:World):(callFunc 321 args).run Tryz.prog w=.ok (.enter 321 args) w:=WH Tryz.func321 (by kernel_rfl) (by kernel_rfl) args w
theorem zli (cp:Nat) (k:ka) (ao:Option Addr) (tn tc:Nat) (t:List UInt8) (bo:Option Addr) (n cb:Nat) (m:List UInt8) (w:World) (hk:Z5 w cp k) (ht:t.length=tn) (ht1:tn≤10000) (htc:tn≤tc) (hlt:zr w ao (t.map B))
  (hn:m.length=n) (h1:16≤n) (h31:n≤20000) (hcb:n≤cb) (hl:zr w bo (m.map B)) :
  Calls Tryz.prog 318 #[.pointer (some ⟨cp,0,none⟩),.slice ao tn tc,.slice bo n cb] w fun e w'=>∃ v,e=.returned (.tuple #[v,.int .i64 0])∧w'.ownsRow w.heap.size 5 1 v n ((zam k t m).map B)∧Below w.heap.size w w':=by
 have HK:=znq hk
 have HT:=znq ht
 have HLT:=znq hlt
 have HN:=znq hn
 have HL:=znq hl
 obtain ⟨r,hr⟩:∃ x,x=zam k t m:=⟨_,rfl⟩
 have HR:=znq (show doesH k t m (enc k.ks (Zc k t m))=r∧True from ⟨by rw [hr];rfl,trivial⟩)
 rw [← hr]
 have HS:=znq (St.start w)
 clear hk ht hlt hn hl hr
 go_enter Tryz.func318,Tryz.ntmps318
 go_wp2_with (refine zh 109 _ [.pointer (some ⟨cp,0,none⟩)] _ rfl rfl rfl rfl ?_)
 intro w1 hb hbel
 have HS:=znq (HS.znr.push hb hbel)
 have hlt1:=hb.lt
 clear hb hbel
 generalize hbb:w.heap.size=bb at *
 have HBB:=znq hbb
 have HBW:=znq (show ∀ wz L,St w bb wz L→Below w.heap.size w wz from fun wz L h=>by rw [hbb];exact h.bel)
 clear hbb
 have hc:=(HS.znr.get 0 rfl).cell 0 _ rfl
 go_wp2_with fail
 have HK1:=znq (HK.znr.later (HBW.znr _ _ HS.znr))
 obtain ⟨kp,q,p,kb,koff,kn,kcap,hx⟩:=HK1.znr.ex
 have HX:=znq hx
 clear hx
 refine (zgj 322 bb cp k (enc k.ks) ao tn tc t bo n cb m _ HK1.znr VT
  (fun w' b hb' hb16=>zk6 bb cp kp q p kb koff kn kcap k b w' ((hb'.cell (p:=⟨bb,0,none⟩) hlt1).trans hc) (HX.znr.later hb') hb16) (fun b=>xJ _ _) HT.znr ht1 htc (HLT.znr.below (HBW.znr _ _ HS.znr)) HN.znr h1 h31 hcb (HL.znr.below (HBW.znr _ _ HS.znr))).mono ?_
 rintro e w2 ⟨v2,rfl,hown,hbel⟩
 rw [HR.znr.1] at hown
 have HO:=znq (yi hown HS.znr.size)
 have HS:=znq (HS.znr.later hbel)
 clear hown hbel hc
 go_wp2
 go_ret2
 exact ⟨_,rfl,by rw [HBB.znr];exact HO.znr,by rw [HBB.znr];exact HS.znr.bel⟩
theorem zlj (cp:Nat) (k:ka) (ao:Option Addr) (tn tc:Nat) (t:List UInt8) (bo:Option Addr) (n cb:Nat) (m:List UInt8) (w:World) (hk:Z5 w cp k) (ht:t.length=tn) (ht1:tn≤10000) (htc:tn≤tc) (hlt:zr w ao (t.map B))
  (hn:m.length=n) (h1:16≤n) (h31:n≤20000) (hcb:n≤cb) (hl:zr w bo (m.map B)) :
  Calls Tryz.prog 317 #[.pointer (some ⟨cp,0,none⟩),.slice ao tn tc,.slice bo n cb] w fun e w'=>∃ v,e=.returned (.tuple #[v,.int .i64 0])∧w'.ownsRow w.heap.size 5 1 v n ((zan k t m).map B)∧Below w.heap.size w w':=by
 have HK:=znq hk
 have HT:=znq ht
 have HLT:=znq hlt
 have HN:=znq hn
 have HL:=znq hl
 obtain ⟨r,hr⟩:∃ x,x=zan k t m:=⟨_,rfl⟩
 have HR:=znq (show doesH k t m (dec k.ks (Zc k t m))=r∧True from ⟨by rw [hr];rfl,trivial⟩)
 rw [← hr]
 have HS:=znq (St.start w)
 clear hk ht hlt hn hl hr
 go_enter Tryz.func317,Tryz.ntmps317
 go_wp2_with (refine zh 109 _ [.pointer (some ⟨cp,0,none⟩)] _ rfl rfl rfl rfl ?_)
 intro w1 hb hbel
 have HS:=znq (HS.znr.push hb hbel)
 have hlt1:=hb.lt
 clear hb hbel
 generalize hbb:w.heap.size=bb at *
 have HBB:=znq hbb
 have HBW:=znq (show ∀ wz L,St w bb wz L→Below w.heap.size w wz from fun wz L h=>by rw [hbb];exact h.bel)
 clear hbb
 have hc:=(HS.znr.get 0 rfl).cell 0 _ rfl
 go_wp2_with fail
 have HK1:=znq (HK.znr.later (HBW.znr _ _ HS.znr))
 obtain ⟨kp,q,p,kb,koff,kn,kcap,hx⟩:=HK1.znr.ex
 have HX:=znq hx
 clear hx
 refine (zgj 321 bb cp k (dec k.ks) ao tn tc t bo n cb m _ HK1.znr VU
  (fun w' b hb' hb16=>zk7 bb cp kp q p kb koff kn kcap k b w' ((hb'.cell (p:=⟨bb,0,none⟩) hlt1).trans hc) (HX.znr.later hb') hb16) (fun b=>kG _ _) HT.znr ht1 htc (HLT.znr.below (HBW.znr _ _ HS.znr)) HN.znr h1 h31 hcb (HL.znr.below (HBW.znr _ _ HS.znr))).mono ?_
 rintro e w2 ⟨v2,rfl,hown,hbel⟩
 rw [HR.znr.1] at hown
 have HO:=znq (yi hown HS.znr.size)
 have HS:=znq (HS.znr.later hbel)
 clear hown hbel hc
 go_wp2
 go_ret2
 exact ⟨_,rfl,by rw [HBB.znr];exact HO.znr,by rw [HBB.znr];exact HS.znr.bel⟩
end Go.Proofs.YtbpghohkhngdfaaGreatDoor
namespace Go.Wid
theorem Q1 (alg:Int) {n:Nat} (h:wrongG alg n=0):(alg=1∧n=32)∨(alg=2∧(n=16∨n=24∨n=32))∨(alg=3∧0 < n∧n≤128):=by
 unfold wrongG at h
 by_cases h1:alg=1
 ·rw [if_pos h1] at h
  by_cases h2:n=32
  ·exact .inl ⟨h1,h2⟩
  ·rw [if_neg h2] at h;omega
 ·rw [if_neg h1] at h
  by_cases h2:alg=2
  ·rw [if_pos h2] at h
   by_cases h3:n=16∨n=24∨n=32
   ·exact .inr (.inl ⟨h2,h3⟩)
   ·rw [if_neg h3] at h;omega
  ·rw [if_neg h2] at h
   by_cases h3:alg=3
   ·rw [if_pos h3] at h
    by_cases h4:0 < n∧n≤128
    ·exact .inr (.inr ⟨h3,h4⟩)
    ·rw [if_neg h4] at h;omega
   ·rw [if_neg h3] at h;omega
theorem zii (alg:Int) {n:Nat} (h:wrongG alg n≠0):(alg=1∧n≠32∧wrongG alg n=2)∨(alg=2∧(n≠32∧n≠16∧n≠24)∧wrongG alg n=2)∨(alg=3∧(n=0∨128 < n)∧wrongG alg n=2)∨((alg≠1∧alg≠2∧alg≠3)∧wrongG alg n=8):=by
 unfold wrongG at h ⊢
 by_cases h1:alg=1
 ·rw [if_pos h1] at h ⊢
  by_cases h2:n=32
  ·rw [if_pos h2] at h;exact absurd rfl h
  ·rw [if_neg h2];exact .inl ⟨h1,h2,rfl⟩
 ·rw [if_neg h1] at h ⊢
  by_cases h2:alg=2
  ·rw [if_pos h2] at h ⊢
   by_cases h3:n=16∨n=24∨n=32
   ·rw [if_pos h3] at h;exact absurd rfl h
   ·rw [if_neg h3];exact .inr (.inl ⟨h2,by omega,rfl⟩)
  ·rw [if_neg h2] at h ⊢
   by_cases h3:alg=3
   ·rw [if_pos h3] at h ⊢
    by_cases h4:0 < n∧n≤128
    ·rw [if_pos h4] at h;exact absurd rfl h
    ·rw [if_neg h4];exact .inr (.inr (.inl ⟨h3,by omega,rfl⟩))
   ·rw [if_neg h3];exact .inr (.inr (.inr ⟨⟨h1,h2,h3⟩,rfl⟩))
theorem zdt {alg:Int} {key:List UInt8} (h:wrongG alg key.length=0):((jy alg key).alg:Int)=alg:=by
 rcases Q1 alg h with ⟨rfl,_⟩ | ⟨rfl,_⟩ | ⟨rfl,_⟩ <;> rfl
end Go.Wid
namespace Go.Proofs.YtbpghohkhngdfaaGreatDoor
open Go.RowKit Go.Mem Go.Ops Go.Cells Go.Oct Go.Gf Go.Trn Go.Aes Go.Ring Go.Ezk Go.Ezh Go.Ezt Go.Ezc Go.Aez Go.Blake Go.CutP Go.Fl Go.Adi Go.Hct Go.Wid
attribute [local irreducible] zE zN zO zM yu
theorem Qy:Tryz.prog.concrete 106=true:=by kernel_rfl
theorem Qz:Tryz.prog.concrete 109=true:=by kernel_rfl
def Vn (w:World) (own:Value):ku→Prop
 | .adi k=>∃ b,own=.iface 106 (.pointer (some ⟨b,0,none⟩))∧Vm w b k
 | .hct k=>∃ b,own=.iface 109 (.pointer (some ⟨b,0,none⟩))∧Z5 w b k
 | .aez k=>∃ kp q p,own=.iface 87 (.agg #[.pointer (some ⟨kp,0,none⟩)])∧xH w kp q p k
theorem Vn.later {w w':World} {own:Value} {k:ku} (h:Vn w own k) (hb:Below w.heap.size w w'):Vn w' own k:=by
 cases k with
 | adi k=>obtain ⟨b,h1,h2⟩:=h;exact ⟨b,h1,h2.later hb⟩
 | hct k=>obtain ⟨b,h1,h2⟩:=h;exact ⟨b,h1,h2.later hb⟩
 | aez k=>obtain ⟨kp,q,p,h1,h2⟩:=h;exact ⟨kp,q,p,h1,h2.later hb⟩
theorem Vn.face {w:World} {own:Value} {k:ku} (h:Vn w own k):∃ T x,own=.iface T x:=by
 cases k with
 | adi k=>obtain ⟨b,h1,h2⟩:=h;exact ⟨_,_,h1⟩
 | hct k=>obtain ⟨b,h1,h2⟩:=h;exact ⟨_,_,h1⟩
 | aez k=>obtain ⟨kp,q,p,h1,h2⟩:=h;exact ⟨_,_,h1⟩
def qu (w:World) (cp:Nat) (k:ku):Prop:=∃ v,Vn w v k∧Blk w cp [.int .i64 (k.alg:Int),v] 79
theorem qu.later {w w':World} {cp:Nat} {k:ku} (h:qu w cp k) (hb:Below w.heap.size w w'):qu w' cp k:=by
 obtain ⟨v,h1,h2⟩:=h
 exact ⟨v,h1.later hb,h2.below hb h2.lt⟩
theorem zij (q:Nat) (ao:Option Addr) (n cap:Nat) (w:World) (h:n≠32) :
  Calls Tryz.prog 70 #[.pointer (some ⟨q,0,none⟩),.slice ao n cap] w fun e w'=>e=.returned (.tuple #[.pointer none,.int .i64 2])∧w=w':=by
 have d1:((n:Int) != 32)=true:=by simp;omega
 go_enter Tryz.func70,Tryz.ntmps70
 go_wp2
 go_ret2
 exact ⟨rfl,rfl⟩
theorem zdu (alg:Int) (q p:Nat) (ao:Option Addr) (n cap:Nat) (b:List UInt8) (w:World) (hb:b.length=n) (hw:wrongG alg n=0) (hc:n≤cap) (hl:zr w ao (b.map B)) (ht:Tab w q p) (hg:qD w) :
  Calls Tryz.prog 41 #[.pointer (some ⟨q,0,none⟩),.int .i64 alg,.slice ao n cap] w fun e w'=>∃ v,e=.returned (.tuple #[v,.int .i64 0])∧Std w.heap.size [q,p] w' (fun w''=>Vn w'' v (jy alg b))∧Below w.heap.size w w':=by
 rcases Q1 alg hw with ⟨rfl,rfl⟩ | ⟨rfl,h2⟩ | ⟨rfl,h3,h4⟩
 ·have H:=znq (zlb q p ao cap b w hb hc hl ht)
  have hmk:=fun (x:Value) (w:World)=>run_makeInterface (P:=Tryz.prog) (w:=w) 106 x Qy
  clear hb hw hl ht hg
  go_enter Tryz.func41,Tryz.ntmps41
  go_wp2_with fail
  refine H.out.mono ?_
  rintro e w1 ⟨cp,rfl,hup,hbel⟩
  have HU:=znq hup
  have HB:=znq hbel
  clear hup hbel
  go_wp2
  go_ret2
  exact ⟨_,rfl,HU.znr.imp (fun _ h=>⟨_,rfl,h⟩),HB.znr⟩
 ·have H:Calls Tryz.prog 71 #[.pointer (some ⟨q,0,none⟩),.slice ao n cap] w fun e w'=>∃ cp,e=.returned (.tuple #[.pointer (some ⟨cp,0,none⟩),.int .i64 0])∧Std w.heap.size [q,p] w' (fun w''=>Z5 w'' cp (J0 (b.length / 4) (b.length==32) b))∧Below w.heap.size w w':=by
   rcases h2 with rfl | rfl | rfl
   ·rw [hb];exact zle q p ao cap b w ht hb hl
   ·rw [hb];exact zld q p ao cap b w ht hb hl
   ·rw [hb];exact zlc q p ao cap b w ht hb hl
  have H:=znq H
  have hmk:=fun (x:Value) (w:World)=>run_makeInterface (P:=Tryz.prog) (w:=w) 109 x Qz
  clear hb hw hl ht hg h2
  go_enter Tryz.func41,Tryz.ntmps41
  go_wp2_with fail
  refine H.out.mono ?_
  rintro e w1 ⟨cp,rfl,hup,hbel⟩
  have HU:=znq hup
  have HB:=znq hbel
  clear hup hbel
  go_wp2
  go_ret2
  exact ⟨_,rfl,HU.znr.imp (fun _ h=>⟨_,rfl,h⟩),HB.znr⟩
 ·refine (JI q p ao n cap b w hb h3 h4 hc hl ht hg).mono ?_
  rintro e w1 ⟨kp,rfl,hk,hle,hbel⟩
  exact ⟨_,rfl,fun S w'' hS hu=>⟨kp,q,p,rfl,⟨⟨hk.tab.boxes.up hu (hS _ (.inr (by simp))),hk.tab.tab.up hu (hS _ (.inr (by simp)))⟩,hk.fit,hk.blk.up hu (hS _ (.inl hle))⟩⟩,hbel⟩
theorem zgk (alg:Int) (q p:Nat) (ao:Option Addr) (n cap:Nat) (b:List UInt8) (w:World) (hb:b.length=n) (hw:wrongG alg n=0) (hc:n≤cap) (hl:zr w ao (b.map B)) (ht:Tab w q p) (hg:qD w) :
  Calls Tryz.prog 16 #[.pointer (some ⟨q,0,none⟩),.int .i64 alg,.slice ao n cap] w fun e w'=>∃ cp,e=.returned (.tuple #[.pointer (some ⟨cp,0,none⟩),.int .i64 0])∧Std w.heap.size [q,p] w' (fun w''=>qu w'' cp (jy alg b))∧Below w.heap.size w w':=by
 have H:=znq (zdu alg q p ao n cap b w hb hw hc hl ht hg)
 have HA:=znq (zdt (alg:=alg) (key:=b) (by rw [hb];exact hw))
 clear hb hw hl ht hg
 obtain ⟨k,hkk⟩:∃ k,k=jy alg b:=⟨_,rfl⟩
 rw [← hkk] at H HA ⊢
 clear hkk
 go_enter Tryz.func16,Tryz.ntmps16
 go_wp2_with fail
 refine H.out.mono ?_
 rintro e w1 ⟨v,rfl,hup,hbel⟩
 obtain ⟨T,x,rfl⟩:=hup.self.face
 have HU:=znq hup
 have HB:=znq hbel
 have HZ1:=znq hbel.size
 clear hup hbel
 go_wp2_with (refine zh 79 _ [.int .i64 alg,.iface T x] _ rfl rfl rfl rfl ?_)
 intro w2 hb2 hbel2
 have HB:=znq (HB.znr.trans (hbel2.mono HB.znr.size))
 have HU:=znq (show Std w.heap.size [q,p] w2 (fun w''=>qu w'' w1.heap.size k) from fun S w'' hS hu=>⟨_,HU.znr.later hbel2 S w'' hS hu,by rw [HA.znr];exact hb2.up hu (hS _ (.inl HZ1.znr))⟩)
 clear hb2 hbel2
 go_wp2
 go_ret2
 exact ⟨_,rfl,HU.znr,HB.znr⟩
theorem za3 (alg:Int) (q:Nat) (ao:Option Addr) (n cap:Nat) (w:World) (hw:wrongG alg n≠0) :
  Calls Tryz.prog 41 #[.pointer (some ⟨q,0,none⟩),.int .i64 alg,.slice ao n cap] w fun e w'=>∃ v,e=.returned (.tuple #[v,.int .i64 (wrongG alg n)])∧w=w':=by
 rcases zii alg hw with ⟨rfl,h,e⟩ | ⟨rfl,h,e⟩ | ⟨rfl,h,e⟩ | ⟨h,e⟩
 ·rw [e]
  have H:=znq (zij q ao n cap w h)
  have hmk:=fun (x:Value) (w:World)=>run_makeInterface (P:=Tryz.prog) (w:=w) 106 x Qy
  clear hw h e
  go_enter Tryz.func41,Tryz.ntmps41
  go_wp2_with fail
  refine H.out.mono ?_
  rintro e w1 ⟨rfl,rfl⟩
  go_wp2
  go_ret2
  exact ⟨_,rfl,rfl⟩
 ·rw [e]
  have H:=znq (zih q ao n cap w h)
  have hmk:=fun (x:Value) (w:World)=>run_makeInterface (P:=Tryz.prog) (w:=w) 109 x Qz
  clear hw h e
  go_enter Tryz.func41,Tryz.ntmps41
  go_wp2_with fail
  refine H.out.mono ?_
  rintro e w1 ⟨rfl,rfl⟩
  go_wp2
  go_ret2
  exact ⟨_,rfl,rfl⟩
 ·rw [e]
  exact (zch q ao n cap w h).mono (fun e w' h=>⟨_,h⟩)
 ·rw [e]
  exact (Ku q alg ao n cap w h.1 h.2.1 h.2.2).mono (fun e w' h=>⟨_,h⟩)
theorem zlk (alg:Int) (q:Nat) (ao:Option Addr) (n cap:Nat) (w:World) (hw:wrongG alg n≠0) :
  Calls Tryz.prog 16 #[.pointer (some ⟨q,0,none⟩),.int .i64 alg,.slice ao n cap] w fun e w'=>e=.returned (.tuple #[.pointer none,.int .i64 (wrongG alg n)])∧w=w':=by
 have H:=znq (za3 alg q ao n cap w hw)
 have d1:(((wrongG alg n:Nat):Int) != 0)=true:=by simp;omega
 clear hw
 generalize wrongG alg n=e0 at *
 go_enter Tryz.func16,Tryz.ntmps16
 go_wp2_with fail
 refine H.out.mono ?_
 rintro e w1 ⟨v,rfl,rfl⟩
 go_wp2
 go_ret2
 exact ⟨rfl,rfl⟩
theorem zdv (alg:Int) (ao:Option Addr) (n cap:Nat) (w:World) :
  Calls Tryz.prog 16 #[.pointer none,.int .i64 alg,.slice ao n cap] w fun e w'=>e=.returned (.tuple #[.pointer none,.int .i64 1])∧w=w':=by
 go_enter Tryz.func16,Tryz.ntmps16
 go_wp2
 go_ret2
 exact ⟨rfl,rfl⟩
theorem znd (cp:Nat) (k:ku) (w:World) (hc:qu w cp k):Calls Tryz.prog 19 #[.pointer (some ⟨cp,0,none⟩)] w fun e w'=>e=.returned (.int .i64 (k.alg:Int))∧w=w':=by
 obtain ⟨v,h1,h2⟩:=hc
 have hc0:=h2.cell 0 _ rfl
 clear h1 h2
 generalize k.alg=a at *
 go_enter Tryz.func19,Tryz.ntmps19
 go_wp2
 go_ret
 exact ⟨rfl,rfl⟩
theorem vH (cp:Nat) (k:ku) (w:World) (hc:qu w cp k):Calls Tryz.prog 20 #[.pointer (some ⟨cp,0,none⟩)] w fun e w'=>e=.returned (.int .i64 (k.least:Int))∧w=w':=by
 obtain ⟨v,h1,h2⟩:=hc
 have hc0:=h2.cell 0 _ rfl
 clear h1 h2
 cases k with
 | adi k =>
  have hc0:w.cell? ⟨cp,0,none⟩=some (.int .i64 1):=hc0
  go_enter Tryz.func20,Tryz.ntmps20
  go_wp2
  go_ret
  exact ⟨rfl,rfl⟩
 | hct k =>
  have hc0:w.cell? ⟨cp,0,none⟩=some (.int .i64 2):=hc0
  go_enter Tryz.func20,Tryz.ntmps20
  go_wp2
  go_ret
  exact ⟨rfl,rfl⟩
 | aez k =>
  have hc0:w.cell? ⟨cp,0,none⟩=some (.int .i64 3):=hc0
  go_enter Tryz.func20,Tryz.ntmps20
  go_wp2
  go_ret
  exact ⟨rfl,rfl⟩
theorem Q2 (cp:Nat) (k:ku) (t:Value) (bo:Option Addr) (n cb:Nat) (back:Bool) (w:World) (hc:qu w cp k) (hn:n < k.least) :
  Calls Tryz.prog 51 #[.pointer (some ⟨cp,0,none⟩),t,.slice bo n cb,.bool back] w fun e w'=>e=.returned (.tuple #[.slice none 0 0,.int .i64 7])∧w=w':=by
 have HC:=znq (vH cp k w hc)
 have d1:decide (n < k.least)=true:=decide_eq_true hn
 clear hc
 generalize k.least=l at *
 go_enter Tryz.func51,Tryz.ntmps51
 go_wp2_with fail
 refine HC.znr.mono ?_
 rintro e w1 ⟨rfl,rfl⟩
 go_wp2
 go_ret2
 exact ⟨rfl,rfl⟩
theorem Vo (t:Value) (m:Value) (back:Bool) (w:World) :
  Calls Tryz.prog 51 #[.pointer none,t,m,.bool back] w fun e w'=>e=.returned (.tuple #[.slice none 0 0,.int .i64 2])∧w=w':=by
 go_enter Tryz.func51,Tryz.ntmps51
 go_wp2
 go_ret2
 exact ⟨rfl,rfl⟩
theorem VV (cp:Nat) (k:ku) (ao:Option Addr) (tn tc:Nat) (t:List UInt8) (bo:Option Addr) (n cb:Nat) (m:List UInt8) (w:World) (hk:qu w cp k) (ht:t.length=tn) (ht1:tn≤10000) (htc:tn≤tc) (hlt:zr w ao (t.map B))
  (hn:m.length=n) (h1:k.least≤n) (h31:n≤20000) (hcb:n≤cb) (hl:zr w bo (m.map B)) :
  Calls Tryz.prog 51 #[.pointer (some ⟨cp,0,none⟩),.slice ao tn tc,.slice bo n cb,.bool false] w fun e w'=>∃ v,e=.returned (.tuple #[v,.int .i64 0])∧w'.ownsRow w.heap.size 5 1 v n ((xM k t m false).map B)∧Below w.heap.size w w':=by
 have HL:=znq (vH cp k w hk)
 have d1:decide ((n:Int) < (k.least:Int))=false:=by simp;omega
 obtain ⟨v,hv,hblk⟩:=hk
 have hc1:=hblk.cell 1 _ rfl
 cases k with
 | adi k =>
  obtain ⟨b,rfl,hv⟩:=hv
  have H:=znq (zlg b k ao tn tc t bo n cb m w hv ht ht1 htc hlt hn h1 h31 hcb hl)
  have d1:decide ((n:Int) < 16)=false:=d1
  have HL:Hid (Calls Tryz.prog 20 #[.pointer (some ⟨cp,0,none⟩)] w fun e w'=>e=.returned (.int .i64 16)∧w=w'):=HL
  have HR:=znq (show xM (.adi k) t m false=XK k t m∧True from ⟨rfl,trivial⟩)
  rw [HR.znr.1]
  clear hv hblk ht hlt hn h1 hl HR
  go_enter Tryz.func51,Tryz.ntmps51
  go_wp2_with fail
  refine HL.znr.mono ?_
  rintro e w1 ⟨rfl,rfl⟩
  go_wp2_with fail
  refine H.out.mono ?_
  rintro e w3 ⟨v3,rfl,hown,hbel⟩
  have HO:=znq hown
  have HB:=znq hbel
  clear hown hbel
  go_wp2
  go_ret2
  exact ⟨_,rfl,HO.znr,HB.znr⟩
 | hct k =>
  obtain ⟨b,rfl,hv⟩:=hv
  have H:=znq (zli b k ao tn tc t bo n cb m w hv ht ht1 htc hlt hn h1 h31 hcb hl)
  have d1:decide ((n:Int) < 16)=false:=d1
  have HL:Hid (Calls Tryz.prog 20 #[.pointer (some ⟨cp,0,none⟩)] w fun e w'=>e=.returned (.int .i64 16)∧w=w'):=HL
  have HR:=znq (show xM (.hct k) t m false=zam k t m∧True from ⟨rfl,trivial⟩)
  rw [HR.znr.1]
  clear hv hblk ht hlt hn h1 hl HR
  go_enter Tryz.func51,Tryz.ntmps51
  go_wp2_with fail
  refine HL.znr.mono ?_
  rintro e w1 ⟨rfl,rfl⟩
  go_wp2_with fail
  refine H.out.mono ?_
  rintro e w3 ⟨v3,rfl,hown,hbel⟩
  have HO:=znq hown
  have HB:=znq hbel
  clear hown hbel
  go_wp2
  go_ret2
  exact ⟨_,rfl,HO.znr,HB.znr⟩
 | aez k =>
  obtain ⟨kp,q,p,rfl,hv⟩:=hv
  have H:=znq (zc2 kp q p k ao tn tc t bo n cb m w hv ht ht1 htc hlt hn h1 h31 hcb hl)
  have d1:decide ((n:Int) < 1)=false:=d1
  have HL:Hid (Calls Tryz.prog 20 #[.pointer (some ⟨cp,0,none⟩)] w fun e w'=>e=.returned (.int .i64 1)∧w=w'):=HL
  have HR:=znq (show xM (.aez k) t m false=rowA k [t] m false∧True from ⟨rfl,trivial⟩)
  rw [HR.znr.1]
  clear hv hblk ht hlt hn h1 hl HR
  go_enter Tryz.func51,Tryz.ntmps51
  go_wp2_with fail
  refine HL.znr.mono ?_
  rintro e w1 ⟨rfl,rfl⟩
  go_wp2_with fail
  refine H.out.mono ?_
  rintro e w3 ⟨v3,rfl,hown,hbel⟩
  have HO:=znq hown
  have HB:=znq hbel
  clear hown hbel
  go_wp2
  go_ret2
  exact ⟨_,rfl,HO.znr,HB.znr⟩
theorem za4 (cp:Nat) (k:ku) (ao:Option Addr) (tn tc:Nat) (t:List UInt8) (bo:Option Addr) (n cb:Nat) (m:List UInt8) (w:World) (hk:qu w cp k) (ht:t.length=tn) (ht1:tn≤10000) (htc:tn≤tc) (hlt:zr w ao (t.map B))
  (hn:m.length=n) (h1:k.least≤n) (h31:n≤20000) (hcb:n≤cb) (hl:zr w bo (m.map B)) :
  Calls Tryz.prog 51 #[.pointer (some ⟨cp,0,none⟩),.slice ao tn tc,.slice bo n cb,.bool true] w fun e w'=>∃ v,e=.returned (.tuple #[v,.int .i64 0])∧w'.ownsRow w.heap.size 5 1 v n ((xM k t m true).map B)∧Below w.heap.size w w':=by
 have HL:=znq (vH cp k w hk)
 have d1:decide ((n:Int) < (k.least:Int))=false:=by simp;omega
 obtain ⟨v,hv,hblk⟩:=hk
 have hc1:=hblk.cell 1 _ rfl
 cases k with
 | adi k =>
  obtain ⟨b,rfl,hv⟩:=hv
  have H:=znq (zlh b k ao tn tc t bo n cb m w hv ht ht1 htc hlt hn h1 h31 hcb hl)
  have d1:decide ((n:Int) < 16)=false:=d1
  have HL:Hid (Calls Tryz.prog 20 #[.pointer (some ⟨cp,0,none⟩)] w fun e w'=>e=.returned (.int .i64 16)∧w=w'):=HL
  have HR:=znq (show xM (.adi k) t m true=XL k t m∧True from ⟨rfl,trivial⟩)
  rw [HR.znr.1]
  clear hv hblk ht hlt hn h1 hl HR
  go_enter Tryz.func51,Tryz.ntmps51
  go_wp2_with fail
  refine HL.znr.mono ?_
  rintro e w1 ⟨rfl,rfl⟩
  go_wp2_with fail
  refine H.out.mono ?_
  rintro e w3 ⟨v3,rfl,hown,hbel⟩
  have HO:=znq hown
  have HB:=znq hbel
  clear hown hbel
  go_wp2
  go_ret2
  exact ⟨_,rfl,HO.znr,HB.znr⟩
 | hct k =>
  obtain ⟨b,rfl,hv⟩:=hv
  have H:=znq (zlj b k ao tn tc t bo n cb m w hv ht ht1 htc hlt hn h1 h31 hcb hl)
  have d1:decide ((n:Int) < 16)=false:=d1
  have HL:Hid (Calls Tryz.prog 20 #[.pointer (some ⟨cp,0,none⟩)] w fun e w'=>e=.returned (.int .i64 16)∧w=w'):=HL
  have HR:=znq (show xM (.hct k) t m true=zan k t m∧True from ⟨rfl,trivial⟩)
  rw [HR.znr.1]
  clear hv hblk ht hlt hn h1 hl HR
  go_enter Tryz.func51,Tryz.ntmps51
  go_wp2_with fail
  refine HL.znr.mono ?_
  rintro e w1 ⟨rfl,rfl⟩
  go_wp2_with fail
  refine H.out.mono ?_
  rintro e w3 ⟨v3,rfl,hown,hbel⟩
  have HO:=znq hown
  have HB:=znq hbel
  clear hown hbel
  go_wp2
  go_ret2
  exact ⟨_,rfl,HO.znr,HB.znr⟩
 | aez k =>
  obtain ⟨kp,q,p,rfl,hv⟩:=hv
  have H:=znq (zc3 kp q p k ao tn tc t bo n cb m w hv ht ht1 htc hlt hn h1 h31 hcb hl)
  have d1:decide ((n:Int) < 1)=false:=d1
  have HL:Hid (Calls Tryz.prog 20 #[.pointer (some ⟨cp,0,none⟩)] w fun e w'=>e=.returned (.int .i64 1)∧w=w'):=HL
  have HR:=znq (show xM (.aez k) t m true=rowA k [t] m true∧True from ⟨rfl,trivial⟩)
  rw [HR.znr.1]
  clear hv hblk ht hlt hn h1 hl HR
  go_enter Tryz.func51,Tryz.ntmps51
  go_wp2_with fail
  refine HL.znr.mono ?_
  rintro e w1 ⟨rfl,rfl⟩
  go_wp2_with fail
  refine H.out.mono ?_
  rintro e w3 ⟨v3,rfl,hown,hbel⟩
  have HO:=znq hown
  have HB:=znq hbel
  clear hown hbel
  go_wp2
  go_ret2
  exact ⟨_,rfl,HO.znr,HB.znr⟩
theorem XP (cp:Nat) (k:ku) (ao:Option Addr) (tn tc:Nat) (t:List UInt8) (bo:Option Addr) (n cb:Nat) (m:List UInt8) (back:Bool) (w:World) (hk:qu w cp k) (ht:t.length=tn) (ht1:tn≤10000) (htc:tn≤tc) (hlt:zr w ao (t.map B))
  (hn:m.length=n) (h1:k.least≤n) (h31:n≤20000) (hcb:n≤cb) (hl:zr w bo (m.map B)) :
  Calls Tryz.prog 51 #[.pointer (some ⟨cp,0,none⟩),.slice ao tn tc,.slice bo n cb,.bool back] w fun e w'=>∃ v,e=.returned (.tuple #[v,.int .i64 0])∧w'.ownsRow w.heap.size 5 1 v n ((xM k t m back).map B)∧Below w.heap.size w w':=by
 cases back with
 | false=>exact VV cp k ao tn tc t bo n cb m w hk ht ht1 htc hlt hn h1 h31 hcb hl
 | true=>exact za4 cp k ao tn tc t bo n cb m w hk ht ht1 htc hlt hn h1 h31 hcb hl
theorem zne (cp:Nat) (k:ku) (ao:Option Addr) (tn tc:Nat) (t:List UInt8) (bo:Option Addr) (n cb:Nat) (m:List UInt8) (w:World) (hk:qu w cp k) (ht:t.length=tn) (ht1:tn≤10000) (htc:tn≤tc) (hlt:zr w ao (t.map B))
  (hn:m.length=n) (h1:k.least≤n) (h31:n≤20000) (hcb:n≤cb) (hl:zr w bo (m.map B)) :
  Calls Tryz.prog 46 #[.pointer (some ⟨cp,0,none⟩),.slice ao tn tc,.slice bo n cb] w fun e w'=>∃ v,e=.returned (.tuple #[v,.int .i64 0])∧w'.ownsRow w.heap.size 5 1 v n ((xM k t m false).map B)∧Below w.heap.size w w':=by
 have HC:=znq (XP cp k ao tn tc t bo n cb m false w hk ht ht1 htc hlt hn h1 h31 hcb hl)
 clear hk ht hlt hn hl h1
 go_enter Tryz.func46,Tryz.ntmps46
 go_wp2_with fail
 refine HC.znr.mono ?_
 rintro e w3 ⟨v3,rfl,hown,hbel⟩
 have HO:=znq hown
 have HB:=znq hbel
 clear hown hbel
 go_wp2
 go_ret2
 exact ⟨_,rfl,HO.znr,HB.znr⟩
theorem zfk (cp:Nat) (k:ku) (ao:Option Addr) (tn tc:Nat) (bo:Option Addr) (n cb:Nat) (w:World) (hc:qu w cp k) (hn:n < k.least) :
  Calls Tryz.prog 46 #[.pointer (some ⟨cp,0,none⟩),.slice ao tn tc,.slice bo n cb] w fun e w'=>e=.returned (.tuple #[.slice none 0 0,.int .i64 7])∧w=w':=by
 have HC:=znq (Q2 cp k (.slice ao tn tc) bo n cb false w hc hn)
 clear hc hn
 go_enter Tryz.func46,Tryz.ntmps46
 go_wp2_with fail
 refine HC.znr.mono ?_
 rintro e w3 ⟨rfl,rfl⟩
 go_wp2
 go_ret2
 exact ⟨rfl,rfl⟩
theorem zik (ao:Option Addr) (tn tc:Nat) (bo:Option Addr) (n cb:Nat) (w:World) :
  Calls Tryz.prog 46 #[.pointer none,.slice ao tn tc,.slice bo n cb] w fun e w'=>e=.returned (.tuple #[.slice none 0 0,.int .i64 2])∧w=w':=by
 have HC:=znq (Vo (.slice ao tn tc) (.slice bo n cb) false w)
 go_enter Tryz.func46,Tryz.ntmps46
 go_wp2_with fail
 refine HC.znr.mono ?_
 rintro e w3 ⟨rfl,rfl⟩
 go_wp2
 go_ret2
 exact ⟨rfl,rfl⟩
theorem znf (cp:Nat) (k:ku) (ao:Option Addr) (tn tc:Nat) (t:List UInt8) (bo:Option Addr) (n cb:Nat) (m:List UInt8) (w:World) (hk:qu w cp k) (ht:t.length=tn) (ht1:tn≤10000) (htc:tn≤tc) (hlt:zr w ao (t.map B))
  (hn:m.length=n) (h1:k.least≤n) (h31:n≤20000) (hcb:n≤cb) (hl:zr w bo (m.map B)) :
  Calls Tryz.prog 47 #[.pointer (some ⟨cp,0,none⟩),.slice ao tn tc,.slice bo n cb] w fun e w'=>∃ v,e=.returned (.tuple #[v,.int .i64 0])∧w'.ownsRow w.heap.size 5 1 v n ((xM k t m true).map B)∧Below w.heap.size w w':=by
 have HC:=znq (XP cp k ao tn tc t bo n cb m true w hk ht ht1 htc hlt hn h1 h31 hcb hl)
 clear hk ht hlt hn hl h1
 go_enter Tryz.func47,Tryz.ntmps47
 go_wp2_with fail
 refine HC.znr.mono ?_
 rintro e w3 ⟨v3,rfl,hown,hbel⟩
 have HO:=znq hown
 have HB:=znq hbel
 clear hown hbel
 go_wp2
 go_ret2
 exact ⟨_,rfl,HO.znr,HB.znr⟩
theorem zfl (cp:Nat) (k:ku) (ao:Option Addr) (tn tc:Nat) (bo:Option Addr) (n cb:Nat) (w:World) (hc:qu w cp k) (hn:n < k.least) :
  Calls Tryz.prog 47 #[.pointer (some ⟨cp,0,none⟩),.slice ao tn tc,.slice bo n cb] w fun e w'=>e=.returned (.tuple #[.slice none 0 0,.int .i64 7])∧w=w':=by
 have HC:=znq (Q2 cp k (.slice ao tn tc) bo n cb true w hc hn)
 clear hc hn
 go_enter Tryz.func47,Tryz.ntmps47
 go_wp2_with fail
 refine HC.znr.mono ?_
 rintro e w3 ⟨rfl,rfl⟩
 go_wp2
 go_ret2
 exact ⟨rfl,rfl⟩
theorem zil (ao:Option Addr) (tn tc:Nat) (bo:Option Addr) (n cb:Nat) (w:World) :
  Calls Tryz.prog 47 #[.pointer none,.slice ao tn tc,.slice bo n cb] w fun e w'=>e=.returned (.tuple #[.slice none 0 0,.int .i64 2])∧w=w':=by
 have HC:=znq (Vo (.slice ao tn tc) (.slice bo n cb) true w)
 go_enter Tryz.func47,Tryz.ntmps47
 go_wp2_with fail
 refine HC.znr.mono ?_
 rintro e w3 ⟨rfl,rfl⟩
 go_wp2
 go_ret2
 exact ⟨rfl,rfl⟩
end Go.Proofs.YtbpghohkhngdfaaGreatDoor
namespace Go.Proofs.YtbpghohkhngdfaaGreatDoor
open Go.RowKit Go.Mem Go.Ops Go.Cells Go.Oct Go.Gf Go.Trn Go.Aes Go.Ring Go.Ezk Go.Ezh Go.Ezt Go.Ezc Go.Aez Go.Blake Go.CutP Go.Fl Go.Wid
attribute [local irreducible] zE zN zO zM yu
end Go.Proofs.YtbpghohkhngdfaaGreatDoor
namespace Go.Proofs.YtbpghohkhngdfaaGreatDoor
open Go.RowKit Go.Mem Go.Ops Go.Cells Go.Oct Go.Gf Go.Trn Go.Aes Go.Ring Go.Ezk Go.Ezh Go.Ezt Go.Ezc Go.Aez Go.Blake Go.CutP Go.Fl Go.Adi Go.Hct Go.Wid
attribute [local irreducible] zE zN zO zM yu
theorem zdw (w:World) (hg:Globals w):Calls Tryz.prog 17 #[] w fun e w'=>∃ q p,e=.returned (.pointer (some ⟨q,0,none⟩))∧Tab w' q p∧(w.heap.size≤q∧w.heap.size≤p)∧Below w.heap.size w w':=by
 have HG:=znq hg
 clear hg
 go_enter Tryz.func17,Tryz.ntmps17
 go_wp2_with fail
 refine (zfs _).mono ?_
 rintro e w1 ⟨p,rfl,hp,hb,hbel⟩
 have HB:=znq hb
 have HL:=znq hbel
 have HP:=znq hp
 clear hb hbel hp
 go_wp2_with fail
 refine (zjd p boxes _ kX HB.znr (HG.znr.below HL.znr)).mono ?_
 rintro e w2 ⟨q,rfl,hq,hb2,hbel2⟩
 have HT:=znq (show Tab w2 q p from ⟨HB.znr.below hbel2 HB.znr.lt,hb2⟩)
 have HQ:=znq (Nat.le_trans HL.znr.size hq)
 have HL:=znq (HL.znr.trans (hbel2.mono HL.znr.size))
 clear hbel2 hb2 hq
 go_wp2
 go_ret
 exact ⟨_,_,rfl,HT.znr,⟨HQ.znr,HP.znr⟩,HL.znr⟩
theorem xU (alg:Int) (a1:Option Addr) (n1 c1:Nat) (b1:List UInt8) (a2:Option Addr) (n2 c2:Nat) (a3:Option Addr) (n3 c3:Nat) (back:Bool) (w:World) (hb:b1.length=n1) (hw:wrongG alg n1=0) (hc:n1≤c1) (hl:zr w a1 (b1.map B)) (hg:Globals w) (hbg:qD w) :
  Calls Tryz.prog 27 #[.agg (yf alg a1 n1 c1 a2 n2 c2 a3 n3 c3 back).toArray] w fun e w'=>∃ cp,e=.returned (.tuple #[.pointer (some ⟨cp,0,none⟩),.bool true])∧Std w.heap.size [] w' (fun w''=>qu w'' cp (jy alg b1))∧Below w.heap.size w w':=by
 have HN:=znq hb
 have HW:=znq hw
 have HL:=znq hl
 have HG:=znq hg
 have HBG:=znq hbg
 have HS:=znq (St.start w)
 clear hb hw hl hg hbg
 go_enter Tryz.func27,Tryz.ntmps27
 go_wp2_with (refine zh 24 _ (yf alg a1 n1 c1 a2 n2 c2 a3 n3 c3 back) _ rfl rfl rfl rfl ?_)
 intro w1 hb hbel;have HS:=znq (HS.znr.push hb hbel);clear hb hbel
 have hc0:=fun (x:zG w1.drew)=>((HS.znr.get 0 rfl).drew.below x.later (HS.znr.get 0 rfl).drew.lt).cell 0 _ rfl
 have hc1:=fun (x:zG w1.drew)=>((HS.znr.get 0 rfl).drew.below x.later (HS.znr.get 0 rfl).drew.lt).cell 1 _ rfl
 go_wp2_with fail
 refine zn [1,2,3,4,0,5,6,7,8,9,10] (by kernel_rfl) (by kernel_rfl) ?_
 rintro w2 rfl
 refine mqR ?_
 clear hc0 hc1
 have HS:=znq HS.znr.drew
 refine zi rfl rfl (by rfl) (fun K hK=>?_)
 go_simp
 have hz2:=HS.znr.size
 refine (zdw _ (HG.znr.below HS.znr.bel)).mono ?_
 rintro e w2 ⟨q,p,rfl,ht,hqp,hbel⟩
 have HT:=znq ht
 have HQP:=znq (show w.heap.size≤q∧w.heap.size≤p from ⟨Nat.le_trans hz2 hqp.1,Nat.le_trans hz2 hqp.2⟩)
 clear hqp hz2
 have HS:=znq (HS.znr.later hbel)
 go_simp
 refine hK _ _ hbel ?_
 clear hK K hbel ht
 refine zi rfl rfl (by rfl) (fun K hK=>?_)
 go_simp
 refine (zgk alg q p a1 n1 c1 b1 _ HN.znr HW.znr hc (HL.znr.below HS.znr.bel) HT.znr (HBG.znr.below HS.znr.bel)).mono ?_
 rintro e w3 ⟨cp,rfl,hup,hbel⟩
 have HU:=znq hup
 have HZ2:=znq HS.znr.size
 have HS:=znq (HS.znr.later hbel)
 go_simp
 refine hK _ _ hbel ?_
 clear hK K hbel hup
 refine mqR ?_
 refine zo ?_
 go_wp2
 go_ret2
 exact ⟨cp,rfl,HU.znr.mono HZ2.znr (by simp;exact HQP.znr),HS.znr.bel⟩
theorem q8 (alg:Int) (a1:Option Addr) (n1 c1:Nat) (ao:Option Addr) (tn tc:Nat) (a3:Option Addr) (n3 c3:Nat) (bk:Bool) (cp:Nat) (k:ku) (t:List UInt8) (bo:Option Addr) (n cb:Nat) (m:List UInt8) (back:Bool) (w:World) (hk:qu w cp k) (ht:t.length=tn) (ht1:tn≤10000) (htc:tn≤tc) (hlt:zr w ao (t.map B))
  (hn:m.length=n) (h1:k.least≤n) (h31:n≤20000) (hcb:n≤cb) (hl:zr w bo (m.map B)) :
  Calls Tryz.prog 23 #[.agg (yf alg a1 n1 c1 ao tn tc a3 n3 c3 bk).toArray,.pointer (some ⟨cp,0,none⟩),.slice bo n cb,.bool back] w fun e w'=>∃ v,e=.returned (.tuple #[v,.int .i64 0])∧w'.ownsRow w.heap.size 5 1 v n ((xM k t m back).map B)∧Below w.heap.size w w':=by
 have HK:=znq hk
 have HT:=znq ht
 have HLT:=znq hlt
 have HN:=znq hn
 have HL:=znq hl
 have H1:=znq h1
 clear hk ht hlt hn hl h1
 cases back
 ·go_enter Tryz.func23,Tryz.ntmps23
  go_wp2_with (refine zh 24 _ (yf alg a1 n1 c1 ao tn tc a3 n3 c3 bk) _ rfl rfl rfl rfl ?_)
  intro w1 hb hbel
  have hc2:=hb.cell 2 _ rfl
  have HB:=znq hbel
  clear hb hbel
  go_wp2_with fail
  refine (zne cp k ao tn tc t bo n cb m _ (HK.znr.later HB.znr) HT.znr ht1 htc (HLT.znr.below HB.znr) HN.znr H1.znr h31 hcb (HL.znr.below HB.znr)).mono ?_
  rintro e w3 ⟨v3,rfl,hown,hbel⟩
  have HO:=znq (yi hown HB.znr.size)
  have HB:=znq (HB.znr.trans (hbel.mono HB.znr.size))
  clear hown hbel hc2
  go_wp2
  go_ret2
  exact ⟨_,rfl,HO.znr,HB.znr⟩
 ·go_enter Tryz.func23,Tryz.ntmps23
  go_wp2_with (refine zh 24 _ (yf alg a1 n1 c1 ao tn tc a3 n3 c3 bk) _ rfl rfl rfl rfl ?_)
  intro w1 hb hbel
  have hc2:=hb.cell 2 _ rfl
  have HB:=znq hbel
  clear hb hbel
  go_wp2_with fail
  refine (znf cp k ao tn tc t bo n cb m _ (HK.znr.later HB.znr) HT.znr ht1 htc (HLT.znr.below HB.znr) HN.znr H1.znr h31 hcb (HL.znr.below HB.znr)).mono ?_
  rintro e w3 ⟨v3,rfl,hown,hbel⟩
  have HO:=znq (yi hown HB.znr.size)
  have HB:=znq (HB.znr.trans (hbel.mono HB.znr.size))
  clear hown hbel hc2
  go_wp2
  go_ret2
  exact ⟨_,rfl,HO.znr,HB.znr⟩
theorem QA (alg:Int) (a1:Option Addr) (n1 c1:Nat) (ao:Option Addr) (tn tc:Nat) (a3:Option Addr) (n3 c3:Nat) (bk:Bool) (cp:Nat) (k:ku) (bo:Option Addr) (n cb:Nat) (back:Bool) (w:World) (hk:qu w cp k) (hn:n < k.least) :
  Calls Tryz.prog 23 #[.agg (yf alg a1 n1 c1 ao tn tc a3 n3 c3 bk).toArray,.pointer (some ⟨cp,0,none⟩),.slice bo n cb,.bool back] w fun e w'=>e=.returned (.tuple #[.slice none 0 0,.int .i64 7])∧Below w.heap.size w w':=by
 have HK:=znq hk
 have HN:=znq hn
 clear hk hn
 cases back
 ·go_enter Tryz.func23,Tryz.ntmps23
  go_wp2_with (refine zh 24 _ (yf alg a1 n1 c1 ao tn tc a3 n3 c3 bk) _ rfl rfl rfl rfl ?_)
  intro w1 hb hbel
  have hc2:=hb.cell 2 _ rfl
  have HB:=znq hbel
  clear hb hbel
  go_wp2_with fail
  refine (zfk cp k ao tn tc bo n cb _ (HK.znr.later HB.znr) HN.znr).mono ?_
  rintro e w3 ⟨rfl,rfl⟩
  go_wp2
  go_ret2
  exact ⟨rfl,HB.znr⟩
 ·go_enter Tryz.func23,Tryz.ntmps23
  go_wp2_with (refine zh 24 _ (yf alg a1 n1 c1 ao tn tc a3 n3 c3 bk) _ rfl rfl rfl rfl ?_)
  intro w1 hb hbel
  have hc2:=hb.cell 2 _ rfl
  have HB:=znq hbel
  clear hb hbel
  go_wp2_with fail
  refine (zfl cp k ao tn tc bo n cb _ (HK.znr.later HB.znr) HN.znr).mono ?_
  rintro e w3 ⟨rfl,rfl⟩
  go_wp2
  go_ret2
  exact ⟨rfl,HB.znr⟩
theorem back_law21 (alg:Int) (a1:Option Addr) (n1 c1:Nat) (b1:List UInt8) (a2:Option Addr) (n2 c2:Nat) (b2:List UInt8) (a3:Option Addr) (n3 c3:Nat) (b3:List UInt8) (back:Bool) (w:World)
  (hb1:b1.length=n1) (hc1:n1≤c1) (hl1:zr w a1 (b1.map B)) (hb2:b2.length=n2) (hc2:n2≤c2) (hl2:zr w a2 (b2.map B)) (hb3:b3.length=n3) (hc3:n3≤c3) (hl3:zr w a3 (b3.map B)) (hg:Globals w) (hbg:qD w) :
  Calls Tryz.prog 6 #[.agg (yf alg a1 n1 c1 a2 n2 c2 a3 n3 c3 back).toArray] w fun e w'=>e=.returned (.bool true)∧Below w.heap.size w w':=by
 have HS:=znq (St.start w)
 by_cases hm:Y2 alg n1 n2 n3=true
 ·have hmm:=of_decide_eq_true hm
  obtain ⟨⟨hs1,hs2,hs3⟩,hw,hle⟩:=hmm
  have HM:=znq (show Y2 alg n1 n2 n3=true∧True from ⟨hm,trivial⟩)
  obtain ⟨k,hk⟩:∃ k,k=jy alg b1:=⟨_,rfl⟩
  have HK:=znq (show jy alg b1=k∧k.Fit∧k.least≤n3 from ⟨hk.symm,by rw [hk];exact we _ _,by rw [hk,jz (by rw [hb1];exact hw)];exact hle⟩)
  have HW:=znq hw
  have HB1:=znq hb1
  have HL1:=znq hl1
  have HB2:=znq hb2
  have HL2:=znq hl2
  have HB3:=znq hb3
  have HL3:=znq hl3
  have HG:=znq hg
  have HBG:=znq hbg
  obtain ⟨y,hy⟩:∃ y,y=xM k b2 b3 back:=⟨_,rfl⟩
  have HY:=znq (show xM k b2 b3 back=y∧y.length=n3∧xM k b2 y (!back)=b3 from ⟨hy.symm,by rw [hy,q7 _ _ (by rw [hb3];exact HK.znr.2.2)];exact hb3,by rw [hy];exact XM HK.znr.2.1 _ _ (by rw [hb3];exact HK.znr.2.2)⟩)
  clear hm hw hb1 hl1 hb2 hl2 hb3 hl3 hg hbg hk hy hle
  go_enter Tryz.func6,Tryz.ntmps6
  go_wp2_with (refine zh 24 _ (yf alg a1 n1 c1 a2 n2 c2 a3 n3 c3 back) _ rfl rfl rfl rfl ?_)
  intro w1 hb hbel;have HS:=znq (HS.znr.push hb hbel);clear hb hbel
  go_wp2_with (refine (HS.znr.get 0 rfl).wload rfl rfl rfl zx rfl ?_)
  refine (wh alg a1 n1 c1 a2 n2 c2 a3 n3 c3 back _).mono ?_
  rintro e w2 ⟨rfl,hbel⟩
  rw [HM.znr.1]
  have HS:=znq (HS.znr.later hbel)
  clear hbel
  go_wp2_with (refine (HS.znr.get 0 rfl).wload rfl rfl rfl zx rfl ?_)
  refine (xU alg a1 n1 c1 b1 a2 n2 c2 a3 n3 c3 back _ HB1.znr HW.znr hc1 (HL1.znr.below HS.znr.bel) (HG.znr.below HS.znr.bel) (HBG.znr.below HS.znr.bel)).mono ?_
  rintro e w3 ⟨cp,rfl,hst,hbel⟩
  have hci:qu _ _ _:=hst.self
  clear hst
  rw [HK.znr.1] at hci
  have HC:=znq hci
  have HS:=znq (HS.znr.later hbel)
  clear hci hbel
  have hx3:=(HS.znr.get 0 rfl).cell 3 _ rfl
  have hx4:=(HS.znr.get 0 rfl).cell 4 _ rfl
  go_wp2_with (refine (HS.znr.get 0 rfl).wload rfl rfl rfl zx rfl ?_)
  refine (q8 alg a1 n1 c1 a2 n2 c2 a3 n3 c3 back cp k b2 a3 n3 c3 b3 back _ HC.znr HB2.znr (by omega) hc2 (HL2.znr.below HS.znr.bel) HB3.znr HK.znr.2.2 (by omega) hc3 (HL3.znr.below HS.znr.bel)).mono ?_
  rintro e w4 ⟨v4,rfl,hown,hbel⟩
  rw [HY.znr.1] at hown
  obtain ⟨a4,c4,rfl,hc4,_,hl4⟩:=zw hown
  have HL4:=znq hl4
  have HC:=znq (HC.znr.later hbel)
  have HS:=znq (HS.znr.later hbel)
  clear hown hl4 hbel hx3 hx4
  have hx4:=(HS.znr.get 0 rfl).cell 4 _ rfl
  go_wp2_with (refine (HS.znr.get 0 rfl).wload rfl rfl rfl zx rfl ?_)
  refine (q8 alg a1 n1 c1 a2 n2 c2 a3 n3 c3 back cp k b2 a4 n3 c4 y (!back) _ HC.znr HB2.znr (by omega) hc2 (HL2.znr.below HS.znr.bel) HY.znr.2.1 HK.znr.2.2 (by omega) hc4 HL4.znr).mono ?_
  rintro e w5 ⟨v5,rfl,hown,hbel⟩
  rw [HY.znr.2.2] at hown
  obtain ⟨a5,c5,rfl,hc5,_,hl5⟩:=zw hown
  have HL5:=znq hl5
  have HS:=znq (HS.znr.later hbel)
  clear hown hl5 hbel hx4
  have hx3:=(HS.znr.get 0 rfl).cell 3 _ rfl
  have F1:=yL w5 a5 n3 c5 b3 HB3.znr HL5.znr
  have F2:=yL w5 a3 n3 c3 b3 HB3.znr (HL3.znr.below HS.znr.bel)
  generalize str b3=s1 at *
  go_wp2_with fail
  refine (qc _ (HG.znr.below HS.znr.bel) (HBG.znr.below HS.znr.bel)).mono ?_
  rintro e w9 ⟨rfl,hbel⟩
  have HS:=znq (HS.znr.later hbel)
  clear hbel F1 F2 hx3
  go_wp2
  go_ret
  exact ⟨rfl,HS.znr.bel⟩
 ·have HM:=znq (show Y2 alg n1 n2 n3=false∧True from ⟨by simpa using hm,trivial⟩)
  clear hm
  go_enter Tryz.func6,Tryz.ntmps6
  go_wp2_with (refine zh 24 _ (yf alg a1 n1 c1 a2 n2 c2 a3 n3 c3 back) _ rfl rfl rfl rfl ?_)
  intro w1 hb hbel;have HS:=znq (HS.znr.push hb hbel);clear hb hbel
  go_wp2_with (refine (HS.znr.get 0 rfl).wload rfl rfl rfl zx rfl ?_)
  refine (wh alg a1 n1 c1 a2 n2 c2 a3 n3 c3 back _).mono ?_
  rintro e w2 ⟨rfl,hbel⟩
  rw [HM.znr.1]
  have HS:=znq (HS.znr.later hbel)
  clear hbel
  go_wp2
  go_ret
  exact ⟨rfl,HS.znr.bel⟩
end Go.Proofs.YtbpghohkhngdfaaGreatDoor
namespace Go.Proofs.YtbpghohkhngdfaaGreatDoor
open Go.RowKit Go.Mem Go.Ops Go.Cells Go.Trn Go.Blake Go.ChangeShapes Go.WideShapes
def laid4:List (String×DataW Unit):=[("wringer/blake.first",Rows.laid_wringer_blake_first),("wringer/blake.rows",Rows.laid_wringer_blake_rows),("wringer/turn.mixes",Rows.laid_wringer_turn_mixes),("wringer/turn.unmixes",Rows.laid_wringer_turn_unmixes)]
theorem gMixes:Tryz.prog.globalNamed "wringer/turn.mixes"=some 0:=by kernel_rfl
theorem zll:Tryz.prog.globalNamed "wringer/turn.unmixes"=some 1:=by kernel_rfl
theorem gFirst:Tryz.prog.globalNamed "wringer/blake.first"=some 2:=by kernel_rfl
theorem gRows:Tryz.prog.globalNamed "wringer/blake.rows"=some 3:=by kernel_rfl
theorem tMixes:(Tryz.prog.globals[0]?).map (·.type)=some 120:=by kernel_rfl
theorem zlm:(Tryz.prog.globals[1]?).map (·.type)=some 120:=by kernel_rfl
theorem tFirst:(Tryz.prog.globals[2]?).map (·.type)=some 207:=by kernel_rfl
theorem tRows:(Tryz.prog.globals[3]?).map (·.type)=some 317:=by kernel_rfl
section
variable {H:Type} {enc:TypeId×Value→H} {P:Program} {w:World} {base:Nat} {spare:Nat→Bool} {held:Bool}
theorem vD {t e:TypeId} {fuel n:Nat} {k:IntKind} {cs:List Value} {l:List Int} {p:List MemPlace}
  (ht:P.underlying t=some (.array n e)) (he:P.underlying e=some (.int k)) (hce:P.cellsOf e=1) (hct:P.cellsOf t=n)
  (h:DataW.trod enc P w base spare held fuel t cs=some (.agg (l.map fun i=>.lit (.int k i)),p)):cs=l.map (.int k ·):=by
 obtain ⟨xs,m,_,hx,hlen,hn,hel⟩:=DataW.trod_array ht h
 rw [hct] at hlen
 simp only [Prod.mk.injEq,DataW.agg.injEq] at hx
 have hll:l.length=n:=by have:=congrArg List.length hx.1;simpa [hn] using this
 apply List.ext_getElem?
 intro i
 by_cases hi:i < n
 ·have h1:=hel i hi
  have hxi:∃ x,xs[i]? = some x:=⟨xs[i]'(by omega),by simp⟩
  obtain ⟨x,hxi⟩:=hxi
  rw [hxi,hce,Nat.mul_one] at h1
  obtain ⟨n0,e0,r0,_⟩:=DataW.trod_int he h1
  have h2:=congrArg (fun (q:List (DataW H))=>q[i]?) hx.1
  simp only [List.getElem?_map,hxi,Option.map_some,r0] at h2
  have hc:cs[i]? = some (.int k n0):=by
   have:=congrArg (fun q:List Value=>q[0]?) e0
   simpa [List.getElem?_take,List.getElem?_drop] using this
  rw [hc,List.getElem?_map]
  cases hli:l[i]? with
  | none=>rw [hli] at h2;simp at h2
  | some y=>rw [hli] at h2;simp at h2;simp [h2]
 ·rw [List.getElem?_eq_none (by omega),List.getElem?_eq_none (by simp;omega)]
theorem pieces {n:Nat} {g:List Int→List Value}:∀ (ll:List (List Int)) (cs:List Value),cs.length=ll.length*n→(∀ i l,ll[i]? = some l→(cs.drop (i*n)).take n=g l)→cs=(ll.map g).flatten
 | [],cs,h,_=>by
  have:cs=[]:=List.eq_nil_of_length_eq_zero (by simpa using h)
  simp [this]
 | l::ll,cs,h,hg=>by
  have h0:=hg 0 l rfl
  simp only [Nat.zero_mul,List.drop_zero] at h0
  have hr:=pieces (n:=n) ll (cs.drop n) (by rw [List.length_drop,h,List.length_cons,Nat.add_mul];omega) (fun i l' hl=>by
   have:=hg (i+1) l' (by simpa using hl)
   rw [List.drop_drop]
   rw [Nat.add_mul,Nat.one_mul,Nat.add_comm] at this
   exact this)
  rw [List.map_cons,List.flatten_cons,← hr,← h0,List.take_append_drop]
theorem za5 {t t1 e:TypeId} {fuel m n:Nat} {k:IntKind} {cs:List Value} {ll:List (List Int)} {p:List MemPlace}
  (ht:P.underlying t=some (.array m t1)) (ht1:P.underlying t1=some (.array n e)) (he:P.underlying e=some (.int k)) (hce:P.cellsOf e=1) (hct1:P.cellsOf t1=n) (hct:P.cellsOf t=m*n)
  (h:DataW.trod enc P w base spare held fuel t cs=some (.agg (ll.map fun l=>.agg (l.map fun i=>.lit (.int k i))),p)):cs=(ll.map fun l=>l.map (.int k ·)).flatten:=by
 obtain ⟨xs,f,_,hx,hlen,hn,hel⟩:=DataW.trod_array ht h
 rw [hct] at hlen
 simp only [Prod.mk.injEq,DataW.agg.injEq] at hx
 have hll:ll.length=m:=by have:=congrArg List.length hx.1;simpa [hn] using this
 refine pieces (n:=n) ll cs (by rw [hlen,hll]) fun i l hl=>?_
 have hi:i < m:=by rw [← hll];exact (List.getElem?_eq_some_iff.1 hl).1
 have h1:=hel i hi
 obtain ⟨x,hxi⟩:∃ x,xs[i]? = some x:=⟨xs[i]'(by omega),by simp⟩
 rw [hxi,hct1] at h1
 have h2:=congrArg (fun (q:List (DataW H))=>q[i]?) hx.1
 simp only [List.getElem?_map,hxi,Option.map_some,hl] at h2
 obtain ⟨x1,x2⟩:=x
 simp only [Option.some.injEq] at h2
 subst h2
 exact vD ht1 he hce hct1 h1
end
theorem ZX {P:Program} {w:World} {n:String} {g:Nat} {cs:Array Value} {vs:List Value} (hg:P.globalNamed n=some g) (hv:w.var? P n=some cs) (hcs:cs.toList=vs)
  (hz:∃ c t,w.heap[g]? = some (.cells c t (0,0))):Blk w g vs (tyAt w g):=by
 obtain ⟨c,t,hb⟩:=hz
 have h1:cs=c:=by
  simp only [World.var?,hg,Option.bind_some,hb] at hv
  exact (Option.some.inj hv).symm
 subst h1
 unfold Blk tyAt
 rw [hb,← hcs]
theorem zix {W:World} (h:laidMetH Tryz.prog laid4 W):Globals W∧qD W:=by
 rw [MakeChecks.laidMetH_plain _ _ _ (by kernel_rfl)] at h
 obtain ⟨ps,⟨g0,t0,cs0,f0,p0,q0,hg0,ht0,hv0,hd0,⟨g1,t1,cs1,f1,p1,q1,hg1,ht1,hv1,hd1,⟨g2,t2,cs2,f2,p2,q2,hg2,ht2,hv2,hd2,⟨g3,t3,cs3,f3,p3,q3,hg3,ht3,hv3,hd3,_,e3⟩,e2⟩,e1⟩,e0⟩,_,hz⟩:=h
 obtain rfl:=Option.some.inj (gFirst.symm.trans hg0)
 obtain rfl:=Option.some.inj (gRows.symm.trans hg1)
 obtain rfl:=Option.some.inj (gMixes.symm.trans hg2)
 obtain rfl:=Option.some.inj (zll.symm.trans hg3)
 obtain rfl:=Option.some.inj (tFirst.symm.trans ht0)
 obtain rfl:=Option.some.inj (tRows.symm.trans ht1)
 obtain rfl:=Option.some.inj (tMixes.symm.trans ht2)
 obtain rfl:=Option.some.inj (zlm.symm.trans ht3)
 have c0:cs0.toList=wN.map L:=(vD (n:=8) (e:=147) (k:=.u64) (l:=wN.map fun x=>(x.toNat:Int)) (by kernel_rfl) (by kernel_rfl) (by kernel_rfl) (by kernel_rfl) hd0).trans (by kernel_rfl)
 have c1:cs1.toList=zbu.map B:=(za5 (m:=10) (n:=16) (t1:=52) (e:=5) (k:=.u8) (ll:=(List.range 10).map fun i=>((zbu.drop (16*i)).take 16).map fun x=>(x.toNat:Int)) (by kernel_rfl) (by kernel_rfl) (by kernel_rfl) (by kernel_rfl) (by kernel_rfl) (by kernel_rfl) hd1).trans (by kernel_rfl)
 have c2:cs2.toList=_:=vD (n:=4) (k:=.u8) (l:=[2,3,1,1]) Tryz.underlying120 Tryz.underlying5 (by kernel_rfl) (by kernel_rfl) hd2
 have c3:cs3.toList=_:=vD (n:=4) (k:=.u8) (l:=[14,11,13,9]) Tryz.underlying120 Tryz.underlying5 (by kernel_rfl) (by kernel_rfl) hd3
 have s0:cs0.size=8:=by rw [← Array.length_toList,c0];rfl
 have s1:cs1.size=160:=by rw [← Array.length_toList,c1];rfl
 have s2:cs2.size=4:=by rw [← Array.length_toList,c2];rfl
 have s3:cs3.size=4:=by rw [← Array.length_toList,c3];rfl
 refine ⟨⟨ZX hg2 hv2 c2 (hz 0 0 ?_).1,ZX hg3 hv3 c3 (hz 1 0 ?_).1⟩,⟨ZX hg0 hv0 c0 (hz 2 0 ?_).1,ZX hg1 hv1 c1 (hz 3 0 ?_).1⟩⟩
 ·rw [e0,e1,e2,s2]
  exact List.mem_append_right _ (List.mem_append_right _ (List.mem_append_left _ (List.mem_append_left _ (MemPlace.mem_row.2 ⟨0,by omega,rfl⟩))))
 ·rw [e0,e1,e2,e3,s3]
  exact List.mem_append_right _ (List.mem_append_right _ (List.mem_append_right _ (List.mem_append_left _ (List.mem_append_left _ (MemPlace.mem_row.2 ⟨0,by omega,rfl⟩)))))
 ·rw [e0,s0]
  exact List.mem_append_left _ (List.mem_append_left _ (MemPlace.mem_row.2 ⟨0,by omega,rfl⟩))
 ·rw [e0,e1,s1]
  exact List.mem_append_right _ (List.mem_append_left _ (List.mem_append_left _ (MemPlace.mem_row.2 ⟨0,by omega,rfl⟩)))
theorem door_met (os:Os) (args:Array Value):laidMetH Tryz.prog laid4 ((World.doorLaid Tryz.prog 39 os).forCall (fun _ _=>0) ⟨#[],args,[]⟩).memory :=
 laidMetH_of_parts3 (fuel:=8) (laidMet_of_run' 8 (by kernel_rfl) (by kernel_rfl)) (by kernel_rfl) (by kernel_rfl)
end Go.Proofs.YtbpghohkhngdfaaGreatDoor
