/-
  Texts of this claim, one behind the other.
-/
import Derived.Test.YtjaioajjfiaheaaGreatDoorV1
import Derived.Test.YtjaioajjfiaheaaGreatDoorV23
import Derived.Test.YtjaioajjfiaheaaGreatDoorV17
import Derived.Lib.Hide
set_option linter.unusedVariables false
set_option linter.unusedSimpArgs false
set_option maxHeartbeats 16000000
set_option maxRecDepth 100000
open List renaming append_assoc→QA,getElem?_append_left→bO,getElem?_append_right→bM,getElem?_drop→dJ,getElem?_take→fK,length_append→q8,length_drop→XQ,length_map→yf,length_take→Ku,mem_of_getElem?→xU,mem_singleton→df
open Nat renaming add_mul→uZ,le_refl→xc,le_trans→uj,lt_of_lt_of_le→bI,mul_le_mul_right→uP,one_mul→dO
namespace Go.Proofs.YtjaioajjfiaheaaGreatDoor
open RowKit Mem Ops Cells Oct Trn Aes Hct Ezt Ezh Fl
attribute [local irreducible] zE zN zO zM yu
theorem zgj (F xb cp:Nat) (k:ziq) (f:List UInt8→List UInt8) (ao:Option Addr) (tn tc:Nat) (t:List UInt8) (bo:Option Addr) (n cb:Nat) (m:List UInt8) (w:World) (hk:Z5 w cp k)
  (hcf:∀ args w,(callFunc F args).run Tryz.prog w=.ok (.enter F args) w) (hf:∀ w' b,Below w.heap.size w w'→b.length=16→Calls Tryz.prog F #[.agg (b.map B).toArray,.pointer (some ⟨xb,0,none⟩)] w' fun e w''=>e=.returned (.agg ((f b).map B).toArray)∧Below w'.heap.size w' w'') (hfl:∀ b,(f b).length=16)
  (ht:t.length=tn) (ht1:tn≤10000) (htc:tn≤tc) (hlt:zr w ao (t.map B)) (hn:m.length=n) (h1:16≤n) (h31:n≤20000) (hcb:n≤cb) (hl:zr w bo (m.map B)) :
  Calls Tryz.prog 245 #[.pointer (some ⟨cp,0,none⟩),.slice ao tn tc,.slice bo n cb,.func (.func F) #[] #[.pointer (some ⟨xb,0,none⟩)]] w fun e w'=>∃ v,e=.returned (.tuple #[v,.int .i64 0])∧w'.ownsRow w.heap.size 5 1 v n ((rz k t m (f (Zc k t m))).map B)∧Below w.heap.size w w':=by
 obtain ⟨kp,q,p,kb,nI,kn,pK,hx⟩:=hk.ex
 have HX:=znq hx
 have zdD:=znq (show k.h.length=16∧k.l.length=16 from ⟨hk.h16,hk.l16⟩)
 have HHV:=znq (show (k.h.map B).length=16 by rw [yf];exact hk.h16)
 have HLV:=znq (show (k.l.map B).length=16 by rw [yf];exact hk.l16)
 have HF:=znq hf
 have HCF:=znq hcf
 have HT:=znq ht
 have HLT:=znq hlt
 have HN:=znq hn
 have HL:=znq hl
 obtain ⟨a,ha⟩:∃ a,a=n - 16:=⟨_,rfl⟩
 have ea:(n:Int) - 16=(a:Int):=by omega
 have zlD:floatOfInt .f64 (a:Int)=fl a:=rfl
 have zgY:decide ((n:Int) < 16)=false:=by simp;omega
 have han:a≤20000:=by omega
 have HAN:=znq (show a+16=n from by omega)
 obtain ⟨lf,hlf⟩:∃ x,x=m.take 16:=⟨_,rfl⟩
 obtain ⟨bk,hbk⟩:∃ x,x=m.drop 16:=⟨_,rfl⟩
 have HLF:=znq (show lf.length=16∧True from ⟨by rw [hlf,Ku];omega,trivial⟩)
 have HBK:=znq (show bk.length=a∧True from ⟨by rw [hbk,XQ,hn];omega,trivial⟩)
 have HC1:=znq (show wC 0 4625196817309499392 n=some (0,16) from by have:=jR 0 16 n (by omega) (by omega);rw [Qc,zk8] at this;exact this)
 have HC2:=znq (show wC 4625196817309499392 (fl a) n=some (16,a) from by have:=jR 16 a n (by omega) (by omega);rw [zk8] at this;exact this)
 have HTD:=znq (show (m.drop 0).take 16=lf∧(m.drop 16).take a=bk from ⟨hlf.symm,by rw [hbk,List.take_of_length_le (by rw [XQ,hn];omega)]⟩)
 obtain ⟨lb,hlb⟩:∃ x,x=block lf:=⟨_,rfl⟩
 have HLB:=znq (show block lf=lb∧lb.length=16 from ⟨hlb.symm,by rw [hlb];exact zA _⟩)
 obtain ⟨hv,hhv⟩:∃ x,x=Go.Hct.nN k.h t bk:=⟨_,rfl⟩
 have HHA:=znq (show Go.Hct.nN k.h t bk=hv∧hv.length=16 from ⟨hhv.symm,by rw [hhv];exact Go.Hct.nK _ _ _⟩)
 obtain ⟨one,hone⟩:∃ x,x=plusB [lb,hv]:=⟨_,rfl⟩
 have zbM:=znq (show plusB [lb,hv]=one∧one.length=16 from ⟨hone.symm,by rw [hone];exact Go.Hct.mO _ _⟩)
 have zlJ:=znq (show (one.map B).length=16 by rw [yf];exact zbM.znr.2)
 obtain ⟨two,ziY⟩:∃ x,x=f one:=⟨_,rfl⟩
 have zeW:=znq (show f one=two∧two.length=16 from ⟨ziY.symm,by rw [ziY];exact hfl _⟩)
 have zlK:=znq (show (two.map B).length=16 by rw [yf];exact zeW.znr.2)
 obtain ⟨mid,hmid⟩:∃ x,x=plusB [one,two,k.l]:=⟨_,rfl⟩
 have zeV:=znq (show plusB [one,two,k.l]=mid∧mid.length=16 from ⟨hmid.symm,by rw [hmid];exact zB _ _⟩)
 obtain ⟨bk2,hbk2⟩:∃ x,x=xS k.ks mid bk:=⟨_,rfl⟩
 have zaO:=znq (show xS k.ks mid bk=bk2∧bk2.length=a from ⟨hbk2.symm,by rw [hbk2,jH];exact HBK.znr.1⟩)
 obtain ⟨hv2,ziZ⟩:∃ x,x=Go.Hct.nN k.h t bk2:=⟨_,rfl⟩
 have zlL:=znq (show Go.Hct.nN k.h t bk2=hv2∧hv2.length=16 from ⟨ziZ.symm,by rw [ziZ];exact Go.Hct.nK _ _ _⟩)
 obtain ⟨fs,hfs⟩:∃ x,x=plusB [two,hv2]:=⟨_,rfl⟩
 have HFS:=znq (show plusB [two,hv2]=fs∧fs.length=16 from ⟨hfs.symm,by rw [hfs];exact Go.Hct.mO _ _⟩)
 have HFV:=znq (show (fs.map B).length=16 by rw [yf];exact HFS.znr.2)
 have tL:=znq (show rz k t m (f (Zc k t m))=fs++bk2∧True from ⟨by
  have e:Zc k t m=one:=by unfold Zc;rw [← hlf,← hbk,← hlb,← hhv,← hone]
  rw [e,← ziY]
  unfold rz
  rw [e,← hmid,← hbk,← hbk2,← ziZ,← hfs],trivial⟩)
 rw [tL.znr.1]
 have HS:=znq (St.start w)
 clear hk hx hcf hf ht hlt hn hl ha hlf hbk hlb hhv hone ziY hmid hbk2 ziZ hfs tL
 go_enter Tryz.func245,Tryz.ntmps245
 generalize hbb:w.heap.size=bb at *
 have HBB:=znq hbb
 have HBW:=znq (show ∀ wz L,St w bb wz L→Below w.heap.size w wz from fun wz L h=>by rw [hbb];exact h.bel)
 clear hbb
 go_wp2_with fail
 refine (zb9 bo n cb m 0 4625196817309499392 0 16 _ HN.znr hcb (by omega) (HL.znr.below (HBW.znr _ _ HS.znr)) HC1.znr).mono ?_
 rintro e w1 ⟨v1,rfl,hown,hbel⟩
 rw [HTD.znr.1] at hown
 have HO1:=znq hown
 obtain ⟨a1,c1,rfl,hc1,_,_⟩:=zw hown
 have HS:=znq (HS.znr.later hbel)
 have hz1:=HS.znr.size
 clear hown hbel
 go_wp2_with fail
 refine (zb9 bo n cb m 4625196817309499392 (fl a) 16 a _ HN.znr hcb (by omega) (HL.znr.below (HBW.znr _ _ HS.znr)) HC2.znr).mono ?_
 rintro e w2 ⟨v2,rfl,hown,hbel⟩
 rw [HTD.znr.2] at hown
 have HO1:=znq (zm HO1.znr hbel)
 have HO2:=znq (yi hown hz1)
 obtain ⟨a2,c2,rfl,hc2,_,_⟩:=zw hown
 have HS:=znq (HS.znr.later hbel)
 clear hown hbel zlD ea
 have hz2:=HS.znr.size
 go_wp2_with fail
 refine yn [0,2,3,4,5,6,7] [1,8,9,10] [12] [zH.var 11 14 117 ((zf 16).map B)] (by kernel_rfl) (by kernel_rfl) ?_
 rintro w3 rfl
 have HS:=znq HS.znr.drew
 have HO1:=znq (zm HO1.znr (Below.refl _ _).drew)
 have HO2:=znq (zm HO2.znr (Below.refl _ _).drew)
 have HX3:=znq (HX.znr.later (HBW.znr _ _ HS.znr))
 refine mq0 ?_
 refine zL (Blk.nA HX3.znr.blk 1 16 _ (zhC zdD.znr.1)) HX3.znr.blk.lt zc HHV.znr rfl rfl rfl (fun K hK=>?_)
 go_simp;refine hK _ ?_;clear hK K
 refine mq0 ?_
 refine yK ⟨?_,?_,xc _⟩
 ·intro f hf
  simp only [df] at hf
  subst hf
  exact zhq _ _ _ _ _ _ rfl rfl rfl rfl (by simp) zj rfl
 refine zC rfl rfl (fun uz wa hla K hK=>?_)
 go_simp
 have HO1:=znq (zm HO1.znr hla)
 have HO2:=znq (zm HO2.znr hla)
 have HS:=znq (HS.znr.later hla)
 refine (yQ a1 16 c1 lf _ HLF.znr.1 (zr.nQ HO1.znr)).mono ?_
 rintro e w4 ⟨rfl,hbel⟩
 rw [HLB.znr.1]
 have HO2:=znq (zm HO2.znr hbel)
 have HS:=znq (HS.znr.later hbel)
 clear HO1
 go_simp
 refine hK _ _ hbel ?_
 clear hK K hbel hla
 refine zC rfl rfl (fun uz wa hla K hK=>?_)
 go_simp
 have HO2:=znq (zm HO2.znr hla)
 have HS:=znq (HS.znr.later hla)
 refine (zdq k.h ao tn tc t a2 a c2 bk _ zdD.znr.1 HT.znr htc (by omega) (HLT.znr.below (HBW.znr _ _ HS.znr)) HBK.znr.1 hc2 (by omega) (zr.nQ HO2.znr)).mono ?_
 rintro e w5 ⟨rfl,hbel⟩
 rw [HHA.znr.1]
 have HO2:=znq (zm HO2.znr hbel)
 have HS:=znq (HS.znr.later hbel)
 go_simp
 refine hK _ _ hbel ?_
 clear hK K hbel hla
 refine zC rfl rfl (fun uz wa6 hla K hK=>?_)
 refine y8 171 117 16 2 _ [lb.map B,hv.map B] rfl rfl Tryz.underlying171 zF rfl (by omega) rfl (by omega) (by omega) (by simp [HLB.znr.2,HHA.znr.2]) ?_
 intro w6 hb hbel
 have HO2:=znq (zm HO2.znr (hla.trans hbel))
 have HS:=znq (HS.znr.later (hla.trans hbel))
 refine hK _ _ hbel ?_
 have HR:=znq (show yB 16 w6 (some ⟨wa6.heap.size,0,none⟩) [lb,hv] from ⟨by simp [HLB.znr.2,HHA.znr.2],by have:=hb.lies;simpa using this⟩)
 clear hK K hbel hla hb
 go_simp
 refine zC rfl rfl (fun uz wa7 hla K hK=>?_)
 go_simp
 refine (QZ (some ⟨wa6.heap.size,0,none⟩) 2 2 [lb,hv] _ rfl (by omega) (HR.znr.below hla)).mono ?_
 rintro e w7 ⟨rfl,hbel⟩
 have HO2:=znq (zm HO2.znr (hla.trans hbel))
 have HS:=znq (HS.znr.later (hla.trans hbel))
 rw [zbM.znr.1]
 go_simp
 refine hK _ _ hbel ?_
 clear hK K hbel hla HR
 refine yZ (fun b1 wb8 hlb hbx8 hbn=>?_)
 go_simp
 have HO2:=znq (zm HO2.znr hlb)
 have HS:=znq ((HS.znr.later hlb).add (show Blk wb8 b1 ((zf 16).map B) 117 from hbn))
 clear hlb hbn
 have h1b:bb≤b1:=by omega
 refine zp rfl rfl (by rfl) (fun K hK=>?_)
 refine (HS.znr.get 0 rfl).mZ rfl rfl rfl zc (by simp [zd]) zlJ.znr (zg _) (fun w8 hb ho=>hK _ _ ?_)
 clear hK K
 have HO2:=znq (zu HO2.znr (HS.znr.get 0 rfl) (by decide) ho)
 have HS:=znq (show St w bb w8 [(b1,one.map B,117)] from HS.znr.change 0 hb ho h1b (by simp))
 clear hb ho
 go_simp
 refine zo ?_
 have hb1:=HS.znr.ne _ (xU (i:=0) rfl)
 go_wp2_with (refine (HS.znr.get 0 rfl).mP rfl rfl rfl zc zlJ.znr ?_)
 rw [HCF.znr]
 simp only [Oper.upon_enter]
 refine (HF.znr _ one HS.znr.bel zbM.znr.2).mono ?_
 rintro e w9 ⟨rfl,hbel⟩
 rw [zeW.znr.1]
 have HO2:=znq (zm HO2.znr hbel)
 have HS:=znq (HS.znr.later hbel)
 have hb1':=HS.znr.ne _ (xU (i:=0) rfl)
 clear hbel
 go_wp2_with (refine ze 117 ((zf 16).map B) _ rfl rfl zj rfl ?_)
 intro w10 hb hbel
 have HO2:=znq (zm HO2.znr hbel)
 have HS:=znq (HS.znr.push hb hbel)
 clear hb hbel
 generalize hb9:w9.heap.size=b2 at *
 clear hb9
 go_wp2_with (refine (HS.znr.get 0 rfl).mM rfl rfl rfl (cs:=two.map B) rfl zc (by simp [zd]) zlK.znr (zg _) ?_)
 intro w11 hb ho
 have HO2:=znq (zu HO2.znr (HS.znr.get 0 rfl) (by decide) ho)
 have HS:=znq (show St w bb w11 [(b2,two.map B,117),(b1,one.map B,117)] from HS.znr.change 0 hb ho (by omega) (by simp;omega))
 clear hb ho
 have HX3:=znq (HX.znr.later (HBW.znr _ _ HS.znr))
 have hc0:=fun (x:zG w11.drew)=>((HX.znr.later (HBW.znr _ _ (HS.znr.drew.later x.later))).blk).cell 0 _ rfl
 go_wp2_with fail
 refine zn [0,1,2,3,4,5,6,7,8,9,12,10,11,13,14,15,16,17] (by kernel_rfl) (by kernel_rfl) ?_
 rintro w12 rfl
 refine mqR ?_
 clear hc0
 have HO2:=znq (zm HO2.znr (Below.refl _ _).drew)
 have HS:=znq HS.znr.drew
 have HX3:=znq (HX.znr.later (HBW.znr _ _ HS.znr))
 refine zt (HS.znr.get 1 rfl).range (HS.znr.get 1 rfl).lt zc zlJ.znr rfl rfl rfl rfl (fun K hK=>?_)
 go_simp;refine hK _ ?_;clear hK K
 refine zt (HS.znr.get 0 rfl).range (HS.znr.get 0 rfl).lt zc zlK.znr rfl rfl rfl rfl (fun K hK=>?_)
 go_simp;refine hK _ ?_;clear hK K
 refine mqR ?_
 refine zt (Blk.nA HX3.znr.blk 17 16 _ (zlC zdD.znr.1 zdD.znr.2)) HX3.znr.blk.lt zc HLV.znr rfl rfl rfl rfl (fun K hK=>?_)
 go_simp;refine hK _ ?_;clear hK K
 refine mqR ?_
 refine zi rfl rfl (by rfl) (fun K hK=>?_)
 refine y8 171 117 16 3 _ [one.map B,two.map B,k.l.map B] rfl rfl Tryz.underlying171 zF rfl (by omega) rfl (by omega) (by omega) (by simp [zbM.znr.2,zeW.znr.2,zdD.znr.2]) ?_
 intro w13 hb hbel
 have HO2:=znq (zm HO2.znr hbel)
 have HS:=znq (HS.znr.later hbel)
 have HR:=znq (show yB 16 w13 (some ⟨w11.drew.heap.size,0,none⟩) [one,two,k.l] from ⟨by simp [zbM.znr.2,zeW.znr.2,zdD.znr.2],by have:=hb.lies;simpa using this⟩)
 refine hK _ _ hbel ?_
 clear hK K hbel hb
 go_simp
 refine zi rfl rfl (by rfl) (fun K hK=>?_)
 go_simp
 refine (QZ (some ⟨w11.drew.heap.size,0,none⟩) 3 3 [one,two,k.l] _ rfl (by omega) HR.znr).mono ?_
 rintro e w14 ⟨rfl,hbel⟩
 have HO2:=znq (zm HO2.znr hbel)
 have HS:=znq (HS.znr.later hbel)
 rw [zeV.znr.1]
 go_simp
 refine hK _ _ hbel ?_
 clear hK K hbel HR
 refine zi rfl rfl (by rfl) (fun K hK=>?_)
 go_simp
 refine (zic kp q p k.ks kb nI kn pK mid a2 a c2 bk _ (HX.znr.later (HBW.znr _ _ HS.znr)).key zeV.znr.2 HBK.znr.1 hc2 (by omega) (zr.nQ HO2.znr)).mono ?_
 rintro e w15 ⟨v15,rfl,hown,hbel⟩
 rw [zaO.znr.1] at hown
 have hz14:=HS.znr.size
 have HO2:=znq (yi hown hz14)
 obtain ⟨a3,c3,rfl,hc3,_,_⟩:=zw hown
 have HS:=znq (HS.znr.later hbel)
 go_simp
 refine hK _ _ hbel ?_
 clear hK K hbel hown hz14
 refine mqR ?_
 refine zo ?_
 have hz15:=HS.znr.size
 have HNE:=znq HS.znr.ne
 have HX3:=znq (HX.znr.later (HBW.znr _ _ HS.znr))
 go_wp2_with fail
 refine yn [0,1,2,3,4,5,6] [7,8,9] [11] [zH.var 10 16 117 ((zf 16).map B)] (by kernel_rfl) (by kernel_rfl) ?_
 rintro w16 rfl
 have HS:=znq HS.znr.drew
 have HO2:=znq (zm HO2.znr (Below.refl _ _).drew)
 have HX3:=znq (HX.znr.later (HBW.znr _ _ HS.znr))
 refine mq0 ?_
 refine zL (HS.znr.get 0 rfl).range (HS.znr.get 0 rfl).lt zc zlK.znr rfl rfl rfl (fun K hK=>?_)
 go_simp;refine hK _ ?_;clear hK K
 refine mq0 ?_
 refine zL (Blk.nA HX3.znr.blk 1 16 _ (zhC zdD.znr.1)) HX3.znr.blk.lt zc HHV.znr rfl rfl rfl (fun K hK=>?_)
 go_simp;refine hK _ ?_;clear hK K
 refine mq0 ?_
 refine yK ⟨?_,?_,xc _⟩
 ·intro f hf
  simp only [df] at hf
  subst hf
  exact zhq _ _ _ _ _ _ rfl rfl rfl rfl (by simp) zj rfl
 refine zC rfl rfl (fun uz wa hla K hK=>?_)
 go_simp
 have HO2:=znq (zm HO2.znr hla)
 have HS:=znq (HS.znr.later hla)
 refine (zdq k.h ao tn tc t a3 a c3 bk2 _ zdD.znr.1 HT.znr htc (by omega) (HLT.znr.below (HBW.znr _ _ HS.znr)) zaO.znr.2 hc3 (by omega) (zr.nQ HO2.znr)).mono ?_
 rintro e w17 ⟨rfl,hbel⟩
 rw [zlL.znr.1]
 have HO2:=znq (zm HO2.znr hbel)
 have HS:=znq (HS.znr.later hbel)
 go_simp
 refine hK _ _ hbel ?_
 clear hK K hbel hla
 refine zC rfl rfl (fun uz wa6 hla K hK=>?_)
 refine y8 171 117 16 2 _ [two.map B,hv2.map B] rfl rfl Tryz.underlying171 zF rfl (by omega) rfl (by omega) (by omega) (by simp [zeW.znr.2,zlL.znr.2]) ?_
 intro w18 hb hbel
 have HO2:=znq (zm HO2.znr (hla.trans hbel))
 have HS:=znq (HS.znr.later (hla.trans hbel))
 refine hK _ _ hbel ?_
 have HR:=znq (show yB 16 w18 (some ⟨wa6.heap.size,0,none⟩) [two,hv2] from ⟨by simp [zeW.znr.2,zlL.znr.2],by have:=hb.lies;simpa using this⟩)
 clear hK K hbel hla hb
 go_simp
 refine zC rfl rfl (fun uz wa7 hla K hK=>?_)
 go_simp
 refine (QZ (some ⟨wa6.heap.size,0,none⟩) 2 2 [two,hv2] _ rfl (by omega) (HR.znr.below hla)).mono ?_
 rintro e w19 ⟨rfl,hbel⟩
 have HO2:=znq (zm HO2.znr (hla.trans hbel))
 have HS:=znq (HS.znr.later (hla.trans hbel))
 rw [HFS.znr.1]
 go_simp
 refine hK _ _ hbel ?_
 clear hK K hbel hla HR
 refine yZ (fun b3 wb8 hlb hbx9 hbn=>?_)
 go_simp
 have HO2:=znq (zm HO2.znr hlb)
 have HS:=znq ((HS.znr.later hlb).add (show Blk wb8 b3 ((zf 16).map B) 117 from hbn))
 clear hlb hbn
 refine zp rfl rfl (by rfl) (fun K hK=>?_)
 refine (HS.znr.get 0 rfl).mZ rfl rfl rfl zc (by simp [zd]) HFV.znr (zg _) (fun w20 hb ho=>hK _ _ ?_)
 clear hK K
 have HO2:=znq (zu HO2.znr (HS.znr.get 0 rfl) (by decide) ho)
 have HS:=znq (show St w bb w20 [(b3,fs.map B,117),(b2,two.map B,117),(b1,one.map B,117)] from HS.znr.change 0 hb ho (by omega) (fun e he=>by have:=HNE.znr e he;omega))
 clear hb ho HNE
 go_simp
 refine zo ?_
 have HL2:=znq (zr.nQ HO2.znr)
 have HSS:=znq (show xY (w20.alloc (.cells #[.slice (some ⟨b3,0,none⟩) 16 16,.slice a3 a c3] 22)) (some ⟨w20.heap.size,0,none⟩) [⟨some ⟨b3,0,none⟩,16,fs⟩,⟨a3,c3,bk2⟩] from by
  refine ⟨?_,?_⟩
  ·have:=(Blk.new w20 [.slice (some ⟨b3,0,none⟩) 16 16,.slice a3 a c3] 22).lies
   simpa [Str.val,HFS.znr.2,zaO.znr.2] using this
  ·intro s hs
   simp at hs
   rcases hs with rfl | rfl
   ·exact ⟨by rw [HFS.znr.2];exact xc _,(HS.znr.get 0 rfl).lies.below (zD _ _)⟩
   ·exact ⟨by rw [zaO.znr.2];exact hc3,HL2.znr.below (zD _ _)⟩)
 have hz20:=HS.znr.size
 have HS:=znq (HS.znr.later (zD w20 (.cells #[.slice (some ⟨b3,0,none⟩) 16 16,.slice a3 a c3] 22)))
 have HCA:=znq (show zin [⟨some ⟨b3,0,none⟩,16,fs⟩,⟨a3,c3,bk2⟩]=fs++bk2∧(fs++bk2).length=n from ⟨by simp [zin],by rw [q8,HFS.znr.2,zaO.znr.2];have:=HAN.znr;omega⟩)
 go_wp2_with fail
 have hz21:=HS.znr.size
 generalize hw21:w20.alloc (.cells #[.slice (some ⟨b3,0,none⟩) 16 16,.slice a3 a c3] 22)=w21 at *
 clear hw21
 refine (YU (some ⟨w20.heap.size,0,none⟩) 2 2 [⟨some ⟨b3,0,none⟩,16,fs⟩,⟨a3,c3,bk2⟩] _ rfl (by omega) HSS.znr (by rw [HCA.znr.1,HCA.znr.2];omega)).mono ?_
 rintro e w22 ⟨v22,rfl,hown,hbel⟩
 rw [HCA.znr.1,HCA.znr.2] at hown
 have HOWN:=znq (yi hown hz21)
 have HS:=znq (HS.znr.later hbel)
 clear hown hbel
 go_wp2
 go_ret2
 exact ⟨_,rfl,HOWN.znr,HS.znr.bel⟩
end Go.Proofs.YtjaioajjfiaheaaGreatDoor
namespace Go
theorem WH {P:Program} {f:FuncId} {fn:Func} (hf:P.funcs[f]? = some fn) (hname:(fn.name=="runtime.NumGoroutine")=false) (hb:fn.body.isSome=true) (args:Array Value) (w:World) :
  (callFunc f args).run P w=.ok (.enter f args) w:=by
 have h1:¬ fn.name="runtime.NumGoroutine":=by simpa using hname
 obtain ⟨c,hc⟩:=Option.isSome_iff_exists.1 hb
 simp [callFunc,hf,h1,hc]
end Go
namespace Go.Proofs.YtjaioajjfiaheaaGreatDoor
open RowKit Mem Ops Cells Oct Trn Aes Hct Ezt Ezh Fl
attribute [local irreducible] zE zN zO zM yu
theorem VT (args:Array Value) (w:World):(callFunc 247 args).run Tryz.prog w=.ok (.enter 247 args) w:=WH Tryz.func247 (by kernel_rfl) (by kernel_rfl) args w
theorem VU (args:Array Value) (w:World):(callFunc 246 args).run Tryz.prog w=.ok (.enter 246 args) w:=WH Tryz.func246 (by kernel_rfl) (by kernel_rfl) args w
theorem zli (cp:Nat) (k:ziq) (ao:Option Addr) (tn tc:Nat) (t:List UInt8) (bo:Option Addr) (n cb:Nat) (m:List UInt8) (w:World) (hk:Z5 w cp k) (ht:t.length=tn) (ht1:tn≤10000) (htc:tn≤tc) (hlt:zr w ao (t.map B))
  (hn:m.length=n) (h1:16≤n) (h31:n≤20000) (hcb:n≤cb) (hl:zr w bo (m.map B)) :
  Calls Tryz.prog 243 #[.pointer (some ⟨cp,0,none⟩),.slice ao tn tc,.slice bo n cb] w fun e w'=>∃ v,e=.returned (.tuple #[v,.int .i64 0])∧w'.ownsRow w.heap.size 5 1 v n ((zam k t m).map B)∧Below w.heap.size w w':=by
 have HK:=znq hk
 have HT:=znq ht
 have HLT:=znq hlt
 have HN:=znq hn
 have HL:=znq hl
 obtain ⟨r,hr⟩:∃ x,x=zam k t m:=⟨_,rfl⟩
 have HR:=znq (show rz k t m (enc k.ks (Zc k t m))=r∧True from ⟨by rw [hr];rfl,trivial⟩)
 rw [← hr]
 have HS:=znq (St.start w)
 clear hk ht hlt hn hl hr
 go_enter Tryz.func243,Tryz.ntmps243
 go_wp2_with (refine zh 144 _ [.pointer (some ⟨cp,0,none⟩)] _ rfl rfl rfl rfl ?_)
 intro w1 hb hbel
 have HS:=znq (HS.znr.push hb hbel)
 have hlt1:=hb.lt
 clear hb hbel
 generalize hbb:w.heap.size=bb at *
 have HBB:=znq hbb
 have HBW:=znq (show ∀ wz L,St w bb wz L→Below w.heap.size w wz from fun wz L h=>by rw [hbb];exact h.bel)
 clear hbb
 have hc:=(HS.znr.get 0 rfl).cell 0 _ rfl
 go_wp2_with fail
 have HK1:=znq (HK.znr.later (HBW.znr _ _ HS.znr))
 obtain ⟨kp,q,p,kb,nI,kn,pK,hx⟩:=HK1.znr.ex
 have HX:=znq hx
 clear hx
 refine (zgj 247 bb cp k (enc k.ks) ao tn tc t bo n cb m _ HK1.znr VT
  (fun w' b hb' zaT=>zk6 bb cp kp q p kb nI kn pK k b w' ((hb'.cell (p:=⟨bb,0,none⟩) hlt1).trans hc) (HX.znr.later hb') zaT) (fun b=>xJ _ _) HT.znr ht1 htc (HLT.znr.below (HBW.znr _ _ HS.znr)) HN.znr h1 h31 hcb (HL.znr.below (HBW.znr _ _ HS.znr))).mono ?_
 rintro e w2 ⟨v2,rfl,hown,hbel⟩
 rw [HR.znr.1] at hown
 have HO:=znq (yi hown HS.znr.size)
 have HS:=znq (HS.znr.later hbel)
 clear hown hbel hc
 go_wp2
 go_ret2
 exact ⟨_,rfl,by rw [HBB.znr];exact HO.znr,by rw [HBB.znr];exact HS.znr.bel⟩
theorem zlj (cp:Nat) (k:ziq) (ao:Option Addr) (tn tc:Nat) (t:List UInt8) (bo:Option Addr) (n cb:Nat) (m:List UInt8) (w:World) (hk:Z5 w cp k) (ht:t.length=tn) (ht1:tn≤10000) (htc:tn≤tc) (hlt:zr w ao (t.map B))
  (hn:m.length=n) (h1:16≤n) (h31:n≤20000) (hcb:n≤cb) (hl:zr w bo (m.map B)) :
  Calls Tryz.prog 242 #[.pointer (some ⟨cp,0,none⟩),.slice ao tn tc,.slice bo n cb] w fun e w'=>∃ v,e=.returned (.tuple #[v,.int .i64 0])∧w'.ownsRow w.heap.size 5 1 v n ((zan k t m).map B)∧Below w.heap.size w w':=by
 have HK:=znq hk
 have HT:=znq ht
 have HLT:=znq hlt
 have HN:=znq hn
 have HL:=znq hl
 obtain ⟨r,hr⟩:∃ x,x=zan k t m:=⟨_,rfl⟩
 have HR:=znq (show rz k t m (dec k.ks (Zc k t m))=r∧True from ⟨by rw [hr];rfl,trivial⟩)
 rw [← hr]
 have HS:=znq (St.start w)
 clear hk ht hlt hn hl hr
 go_enter Tryz.func242,Tryz.ntmps242
 go_wp2_with (refine zh 144 _ [.pointer (some ⟨cp,0,none⟩)] _ rfl rfl rfl rfl ?_)
 intro w1 hb hbel
 have HS:=znq (HS.znr.push hb hbel)
 have hlt1:=hb.lt
 clear hb hbel
 generalize hbb:w.heap.size=bb at *
 have HBB:=znq hbb
 have HBW:=znq (show ∀ wz L,St w bb wz L→Below w.heap.size w wz from fun wz L h=>by rw [hbb];exact h.bel)
 clear hbb
 have hc:=(HS.znr.get 0 rfl).cell 0 _ rfl
 go_wp2_with fail
 have HK1:=znq (HK.znr.later (HBW.znr _ _ HS.znr))
 obtain ⟨kp,q,p,kb,nI,kn,pK,hx⟩:=HK1.znr.ex
 have HX:=znq hx
 clear hx
 refine (zgj 246 bb cp k (dec k.ks) ao tn tc t bo n cb m _ HK1.znr VU
  (fun w' b hb' zaT=>zk7 bb cp kp q p kb nI kn pK k b w' ((hb'.cell (p:=⟨bb,0,none⟩) hlt1).trans hc) (HX.znr.later hb') zaT) (fun b=>kG _ _) HT.znr ht1 htc (HLT.znr.below (HBW.znr _ _ HS.znr)) HN.znr h1 h31 hcb (HL.znr.below (HBW.znr _ _ HS.znr))).mono ?_
 rintro e w2 ⟨v2,rfl,hown,hbel⟩
 rw [HR.znr.1] at hown
 have HO:=znq (yi hown HS.znr.size)
 have HS:=znq (HS.znr.later hbel)
 clear hown hbel hc
 go_wp2
 go_ret2
 exact ⟨_,rfl,by rw [HBB.znr];exact HO.znr,by rw [HBB.znr];exact HS.znr.bel⟩
end Go.Proofs.YtjaioajjfiaheaaGreatDoor
namespace Go.Wid
theorem Q1 (alg:Int) {n:Nat} (h:ni alg n=0):(alg=1∧n=32)∨(alg=2∧(n=16∨n=24∨n=32))∨(alg=3∧0 < n∧n≤128):=by
 unfold ni at h
 by_cases h1:alg=1
 ·rw [if_pos h1] at h
  by_cases h2:n=32
  ·exact .inl ⟨h1,h2⟩
  ·rw [if_neg h2] at h;omega
 ·rw [if_neg h1] at h
  by_cases h2:alg=2
  ·rw [if_pos h2] at h
   by_cases h3:n=16∨n=24∨n=32
   ·exact .inr (.inl ⟨h2,h3⟩)
   ·rw [if_neg h3] at h;omega
  ·rw [if_neg h2] at h
   by_cases h3:alg=3
   ·rw [if_pos h3] at h
    by_cases h4:0 < n∧n≤128
    ·exact .inr (.inr ⟨h3,h4⟩)
    ·rw [if_neg h4] at h;omega
   ·rw [if_neg h3] at h;omega
theorem zti (alg:Int) {n:Nat} (h:ni alg n≠0):(alg=1∧n≠32∧ni alg n=2)∨(alg=2∧(n≠32∧n≠16∧n≠24)∧ni alg n=2)∨(alg=3∧(n=0∨128 < n)∧ni alg n=2)∨((alg≠1∧alg≠2∧alg≠3)∧ni alg n=8):=by
 unfold ni at h ⊢
 by_cases h1:alg=1
 ·rw [if_pos h1] at h ⊢
  by_cases h2:n=32
  ·rw [if_pos h2] at h;exact absurd rfl h
  ·rw [if_neg h2];exact .inl ⟨h1,h2,rfl⟩
 ·rw [if_neg h1] at h ⊢
  by_cases h2:alg=2
  ·rw [if_pos h2] at h ⊢
   by_cases h3:n=16∨n=24∨n=32
   ·rw [if_pos h3] at h;exact absurd rfl h
   ·rw [if_neg h3];exact .inr (.inl ⟨h2,by omega,rfl⟩)
  ·rw [if_neg h2] at h ⊢
   by_cases h3:alg=3
   ·rw [if_pos h3] at h ⊢
    by_cases h4:0 < n∧n≤128
    ·rw [if_pos h4] at h;exact absurd rfl h
    ·rw [if_neg h4];exact .inr (.inr (.inl ⟨h3,by omega,rfl⟩))
   ·rw [if_neg h3];exact .inr (.inr (.inr ⟨⟨h1,h2,h3⟩,rfl⟩))
theorem zdt {alg:Int} {key:List UInt8} (h:ni alg key.length=0):((jy alg key).alg:Int)=alg:=by
 rcases Q1 alg h with ⟨rfl,_⟩ | ⟨rfl,_⟩ | ⟨rfl,_⟩ <;> rfl
end Go.Wid
namespace Go.Proofs.YtjaioajjfiaheaaGreatDoor
open RowKit Mem Ops Cells Oct Gf Trn Aes Ring Ezk Ezh Ezt Ezc Aez Blake ru Fl Adi Hct Wid
attribute [local irreducible] zE zN zO zM yu
theorem Qy:Tryz.prog.concrete 141=true:=by kernel_rfl
theorem Qz:Tryz.prog.concrete 144=true:=by kernel_rfl
def Vn (w:World) (own:Value):ku→Prop
 | .adi k=>∃ b,own=.iface 141 (.pointer (some ⟨b,0,none⟩))∧Vm w b k
 | .hct k=>∃ b,own=.iface 144 (.pointer (some ⟨b,0,none⟩))∧Z5 w b k
 | .aez k=>∃ kp q p,own=.iface 93 (.agg #[.pointer (some ⟨kp,0,none⟩)])∧xH w kp q p k
theorem Vn.later {w w':World} {own:Value} {k:ku} (h:Vn w own k) (hb:Below w.heap.size w w'):Vn w' own k:=by
 cases k with
 | adi k=>obtain ⟨b,h1,h2⟩:=h;exact ⟨b,h1,h2.later hb⟩
 | hct k=>obtain ⟨b,h1,h2⟩:=h;exact ⟨b,h1,h2.later hb⟩
 | aez k=>obtain ⟨kp,q,p,h1,h2⟩:=h;exact ⟨kp,q,p,h1,h2.later hb⟩
theorem Vn.face {w:World} {own:Value} {k:ku} (h:Vn w own k):∃ T x,own=.iface T x:=by
 cases k with
 | adi k=>obtain ⟨b,h1,h2⟩:=h;exact ⟨_,_,h1⟩
 | hct k=>obtain ⟨b,h1,h2⟩:=h;exact ⟨_,_,h1⟩
 | aez k=>obtain ⟨kp,q,p,h1,h2⟩:=h;exact ⟨_,_,h1⟩
def qu (w:World) (cp:Nat) (k:ku):Prop:=∃ v,Vn w v k∧Blk w cp [.int .i64 (k.alg:Int),v] 113
theorem qu.later {w w':World} {cp:Nat} {k:ku} (h:qu w cp k) (hb:Below w.heap.size w w'):qu w' cp k:=by
 obtain ⟨v,h1,h2⟩:=h
 exact ⟨v,h1.later hb,h2.below hb h2.lt⟩
theorem ztj (q:Nat) (ao:Option Addr) (n cap:Nat) (w:World) (h:n≠32) :
  Calls Tryz.prog 93 #[.pointer (some ⟨q,0,none⟩),.slice ao n cap] w fun e w'=>e=.returned (.tuple #[.pointer none,.int .i64 2])∧w=w':=by
 have d1:((n:Int) != 32)=true:=by simp;omega
 go_enter Tryz.func93,Tryz.ntmps93
 go_wp2
 go_ret2
 exact ⟨rfl,rfl⟩
theorem zdu (alg:Int) (q p:Nat) (ao:Option Addr) (n cap:Nat) (b:List UInt8) (w:World) (hb:b.length=n) (hw:ni alg n=0) (hc:n≤cap) (hl:zr w ao (b.map B)) (ht:Tab w q p) (hg:qD w) :
  Calls Tryz.prog 70 #[.pointer (some ⟨q,0,none⟩),.int .i64 alg,.slice ao n cap] w fun e w'=>∃ v,e=.returned (.tuple #[v,.int .i64 0])∧Std w.heap.size [q,p] w' (fun w''=>Vn w'' v (jy alg b))∧Below w.heap.size w w':=by
 rcases Q1 alg hw with ⟨rfl,rfl⟩ | ⟨rfl,h2⟩ | ⟨rfl,h3,h4⟩
 ·have H:=znq (zlb q p ao cap b w hb hc hl ht)
  have hmk:=fun (x:Value) (w:World)=>run_makeInterface (P:=Tryz.prog) (w:=w) 141 x Qy
  clear hb hw hl ht hg
  go_enter Tryz.func70,Tryz.ntmps70
  go_wp2_with fail
  refine H.out.mono ?_
  rintro e w1 ⟨cp,rfl,hup,hbel⟩
  have HU:=znq hup
  have HB:=znq hbel
  clear hup hbel
  go_wp2
  go_ret2
  exact ⟨_,rfl,HU.znr.imp (fun _ h=>⟨_,rfl,h⟩),HB.znr⟩
 ·have H:Calls Tryz.prog 94 #[.pointer (some ⟨q,0,none⟩),.slice ao n cap] w fun e w'=>∃ cp,e=.returned (.tuple #[.pointer (some ⟨cp,0,none⟩),.int .i64 0])∧Std w.heap.size [q,p] w' (fun w''=>Z5 w'' cp (J0 (b.length / 4) (b.length==32) b))∧Below w.heap.size w w':=by
   rcases h2 with rfl | rfl | rfl
   ·rw [hb];exact zle q p ao cap b w ht hb hl
   ·rw [hb];exact zld q p ao cap b w ht hb hl
   ·rw [hb];exact zlc q p ao cap b w ht hb hl
  have H:=znq H
  have hmk:=fun (x:Value) (w:World)=>run_makeInterface (P:=Tryz.prog) (w:=w) 144 x Qz
  clear hb hw hl ht hg h2
  go_enter Tryz.func70,Tryz.ntmps70
  go_wp2_with fail
  refine H.out.mono ?_
  rintro e w1 ⟨cp,rfl,hup,hbel⟩
  have HU:=znq hup
  have HB:=znq hbel
  clear hup hbel
  go_wp2
  go_ret2
  exact ⟨_,rfl,HU.znr.imp (fun _ h=>⟨_,rfl,h⟩),HB.znr⟩
 ·refine (JI q p ao n cap b w hb h3 h4 hc hl ht hg).mono ?_
  rintro e w1 ⟨kp,rfl,hk,hle,hbel⟩
  exact ⟨_,rfl,fun S w'' hS hu=>⟨kp,q,p,rfl,⟨⟨hk.tab.boxes.up hu (hS _ (.inr (by simp))),hk.tab.tab.up hu (hS _ (.inr (by simp)))⟩,hk.fit,hk.blk.up hu (hS _ (.inl hle))⟩⟩,hbel⟩
theorem zgk (alg:Int) (q p:Nat) (ao:Option Addr) (n cap:Nat) (b:List UInt8) (w:World) (hb:b.length=n) (hw:ni alg n=0) (hc:n≤cap) (hl:zr w ao (b.map B)) (ht:Tab w q p) (hg:qD w) :
  Calls Tryz.prog 38 #[.pointer (some ⟨q,0,none⟩),.int .i64 alg,.slice ao n cap] w fun e w'=>∃ cp,e=.returned (.tuple #[.pointer (some ⟨cp,0,none⟩),.int .i64 0])∧Std w.heap.size [q,p] w' (fun w''=>qu w'' cp (jy alg b))∧Below w.heap.size w w':=by
 have H:=znq (zdu alg q p ao n cap b w hb hw hc hl ht hg)
 have HA:=znq (zdt (alg:=alg) (key:=b) (by rw [hb];exact hw))
 clear hb hw hl ht hg
 obtain ⟨k,hkk⟩:∃ k,k=jy alg b:=⟨_,rfl⟩
 rw [← hkk] at H HA ⊢
 clear hkk
 go_enter Tryz.func38,Tryz.ntmps38
 go_wp2_with fail
 refine H.out.mono ?_
 rintro e w1 ⟨v,rfl,hup,hbel⟩
 obtain ⟨T,x,rfl⟩:=hup.self.face
 have HU:=znq hup
 have HB:=znq hbel
 have HZ1:=znq hbel.size
 clear hup hbel
 go_wp2_with (refine zh 113 _ [.int .i64 alg,.iface T x] _ rfl rfl rfl rfl ?_)
 intro w2 hb2 mV
 have HB:=znq (HB.znr.trans (mV.mono HB.znr.size))
 have HU:=znq (show Std w.heap.size [q,p] w2 (fun w''=>qu w'' w1.heap.size k) from fun S w'' hS hu=>⟨_,HU.znr.later mV S w'' hS hu,by rw [HA.znr];exact hb2.up hu (hS _ (.inl HZ1.znr))⟩)
 clear hb2 mV
 go_wp2
 go_ret2
 exact ⟨_,rfl,HU.znr,HB.znr⟩
theorem zsj (alg:Int) (q:Nat) (ao:Option Addr) (n cap:Nat) (w:World) (hw:ni alg n≠0) :
  Calls Tryz.prog 70 #[.pointer (some ⟨q,0,none⟩),.int .i64 alg,.slice ao n cap] w fun e w'=>∃ v,e=.returned (.tuple #[v,.int .i64 (ni alg n)])∧w=w':=by
 rcases zti alg hw with ⟨rfl,h,e⟩ | ⟨rfl,h,e⟩ | ⟨rfl,h,e⟩ | ⟨h,e⟩
 ·rw [e]
  have H:=znq (ztj q ao n cap w h)
  have hmk:=fun (x:Value) (w:World)=>run_makeInterface (P:=Tryz.prog) (w:=w) 141 x Qy
  clear hw h e
  go_enter Tryz.func70,Tryz.ntmps70
  go_wp2_with fail
  refine H.out.mono ?_
  rintro e w1 ⟨rfl,rfl⟩
  go_wp2
  go_ret2
  exact ⟨_,rfl,rfl⟩
 ·rw [e]
  have H:=znq (zth q ao n cap w h)
  have hmk:=fun (x:Value) (w:World)=>run_makeInterface (P:=Tryz.prog) (w:=w) 144 x Qz
  clear hw h e
  go_enter Tryz.func70,Tryz.ntmps70
  go_wp2_with fail
  refine H.out.mono ?_
  rintro e w1 ⟨rfl,rfl⟩
  go_wp2
  go_ret2
  exact ⟨_,rfl,rfl⟩
 ·rw [e]
  exact (zsu q ao n cap w h).mono (fun e w' h=>⟨_,h⟩)
 ·rw [e]
  exact (zsv q alg ao n cap w h.1 h.2.1 h.2.2).mono (fun e w' h=>⟨_,h⟩)
theorem ztu (alg:Int) (q:Nat) (ao:Option Addr) (n cap:Nat) (w:World) (hw:ni alg n≠0) :
  Calls Tryz.prog 38 #[.pointer (some ⟨q,0,none⟩),.int .i64 alg,.slice ao n cap] w fun e w'=>e=.returned (.tuple #[.pointer none,.int .i64 (ni alg n)])∧w=w':=by
 have H:=znq (zsj alg q ao n cap w hw)
 have d1:(((ni alg n:Nat):Int) != 0)=true:=by simp;omega
 clear hw
 generalize ni alg n=e0 at *
 go_enter Tryz.func38,Tryz.ntmps38
 go_wp2_with fail
 refine H.out.mono ?_
 rintro e w1 ⟨v,rfl,rfl⟩
 go_wp2
 go_ret2
 exact ⟨rfl,rfl⟩
theorem vH (cp:Nat) (k:ku) (w:World) (hc:qu w cp k):Calls Tryz.prog 90 #[.pointer (some ⟨cp,0,none⟩)] w fun e w'=>e=.returned (.int .i64 (k.least:Int))∧w=w':=by
 obtain ⟨v,h1,h2⟩:=hc
 have hc0:=h2.cell 0 _ rfl
 clear h1 h2
 cases k with
 | adi k =>
  have hc0:w.cell? ⟨cp,0,none⟩=some (.int .i64 1):=hc0
  go_enter Tryz.func90,Tryz.ntmps90
  go_wp2
  go_ret
  exact ⟨rfl,rfl⟩
 | hct k =>
  have hc0:w.cell? ⟨cp,0,none⟩=some (.int .i64 2):=hc0
  go_enter Tryz.func90,Tryz.ntmps90
  go_wp2
  go_ret
  exact ⟨rfl,rfl⟩
 | aez k =>
  have hc0:w.cell? ⟨cp,0,none⟩=some (.int .i64 3):=hc0
  go_enter Tryz.func90,Tryz.ntmps90
  go_wp2
  go_ret
  exact ⟨rfl,rfl⟩
theorem VV (cp:Nat) (k:ku) (ao:Option Addr) (tn tc:Nat) (t:List UInt8) (bo:Option Addr) (n cb:Nat) (m:List UInt8) (w:World) (hk:qu w cp k) (ht:t.length=tn) (ht1:tn≤10000) (htc:tn≤tc) (hlt:zr w ao (t.map B))
  (hn:m.length=n) (h1:k.least≤n) (h31:n≤20000) (hcb:n≤cb) (hl:zr w bo (m.map B)) :
  Calls Tryz.prog 63 #[.pointer (some ⟨cp,0,none⟩),.slice ao tn tc,.slice bo n cb,.bool false] w fun e w'=>∃ v,e=.returned (.tuple #[v,.int .i64 0])∧w'.ownsRow w.heap.size 5 1 v n ((xM k t m false).map B)∧Below w.heap.size w w':=by
 have HL:=znq (vH cp k w hk)
 have d1:decide ((n:Int) < (k.least:Int))=false:=by simp;omega
 obtain ⟨v,hv,hblk⟩:=hk
 have hc1:=hblk.cell 1 _ rfl
 cases k with
 | adi k =>
  obtain ⟨b,rfl,hv⟩:=hv
  have H:=znq (zlg b k ao tn tc t bo n cb m w hv ht ht1 htc hlt hn h1 h31 hcb hl)
  have d1:decide ((n:Int) < 16)=false:=d1
  have HL:Hid (Calls Tryz.prog 90 #[.pointer (some ⟨cp,0,none⟩)] w fun e w'=>e=.returned (.int .i64 16)∧w=w'):=HL
  have HR:=znq (show xM (.adi k) t m false=XK k t m∧True from ⟨rfl,trivial⟩)
  rw [HR.znr.1]
  clear hv hblk ht hlt hn h1 hl HR
  go_enter Tryz.func63,Tryz.ntmps63
  go_wp2_with fail
  refine HL.znr.mono ?_
  rintro e w1 ⟨rfl,rfl⟩
  go_wp2_with fail
  refine H.out.mono ?_
  rintro e w3 ⟨v3,rfl,hown,hbel⟩
  have HO:=znq hown
  have HB:=znq hbel
  clear hown hbel
  go_wp2
  go_ret2
  exact ⟨_,rfl,HO.znr,HB.znr⟩
 | hct k =>
  obtain ⟨b,rfl,hv⟩:=hv
  have H:=znq (zli b k ao tn tc t bo n cb m w hv ht ht1 htc hlt hn h1 h31 hcb hl)
  have d1:decide ((n:Int) < 16)=false:=d1
  have HL:Hid (Calls Tryz.prog 90 #[.pointer (some ⟨cp,0,none⟩)] w fun e w'=>e=.returned (.int .i64 16)∧w=w'):=HL
  have HR:=znq (show xM (.hct k) t m false=zam k t m∧True from ⟨rfl,trivial⟩)
  rw [HR.znr.1]
  clear hv hblk ht hlt hn h1 hl HR
  go_enter Tryz.func63,Tryz.ntmps63
  go_wp2_with fail
  refine HL.znr.mono ?_
  rintro e w1 ⟨rfl,rfl⟩
  go_wp2_with fail
  refine H.out.mono ?_
  rintro e w3 ⟨v3,rfl,hown,hbel⟩
  have HO:=znq hown
  have HB:=znq hbel
  clear hown hbel
  go_wp2
  go_ret2
  exact ⟨_,rfl,HO.znr,HB.znr⟩
 | aez k =>
  obtain ⟨kp,q,p,rfl,hv⟩:=hv
  have H:=znq (zc2 kp q p k ao tn tc t bo n cb m w hv ht ht1 htc hlt hn h1 h31 hcb hl)
  have d1:decide ((n:Int) < 1)=false:=d1
  have HL:Hid (Calls Tryz.prog 90 #[.pointer (some ⟨cp,0,none⟩)] w fun e w'=>e=.returned (.int .i64 1)∧w=w'):=HL
  have HR:=znq (show xM (.aez k) t m false=tK k [t] m false∧True from ⟨rfl,trivial⟩)
  rw [HR.znr.1]
  clear hv hblk ht hlt hn h1 hl HR
  go_enter Tryz.func63,Tryz.ntmps63
  go_wp2_with fail
  refine HL.znr.mono ?_
  rintro e w1 ⟨rfl,rfl⟩
  go_wp2_with fail
  refine H.out.mono ?_
  rintro e w3 ⟨v3,rfl,hown,hbel⟩
  have HO:=znq hown
  have HB:=znq hbel
  clear hown hbel
  go_wp2
  go_ret2
  exact ⟨_,rfl,HO.znr,HB.znr⟩
theorem za4 (cp:Nat) (k:ku) (ao:Option Addr) (tn tc:Nat) (t:List UInt8) (bo:Option Addr) (n cb:Nat) (m:List UInt8) (w:World) (hk:qu w cp k) (ht:t.length=tn) (ht1:tn≤10000) (htc:tn≤tc) (hlt:zr w ao (t.map B))
  (hn:m.length=n) (h1:k.least≤n) (h31:n≤20000) (hcb:n≤cb) (hl:zr w bo (m.map B)) :
  Calls Tryz.prog 63 #[.pointer (some ⟨cp,0,none⟩),.slice ao tn tc,.slice bo n cb,.bool true] w fun e w'=>∃ v,e=.returned (.tuple #[v,.int .i64 0])∧w'.ownsRow w.heap.size 5 1 v n ((xM k t m true).map B)∧Below w.heap.size w w':=by
 have HL:=znq (vH cp k w hk)
 have d1:decide ((n:Int) < (k.least:Int))=false:=by simp;omega
 obtain ⟨v,hv,hblk⟩:=hk
 have hc1:=hblk.cell 1 _ rfl
 cases k with
 | adi k =>
  obtain ⟨b,rfl,hv⟩:=hv
  have H:=znq (zlh b k ao tn tc t bo n cb m w hv ht ht1 htc hlt hn h1 h31 hcb hl)
  have d1:decide ((n:Int) < 16)=false:=d1
  have HL:Hid (Calls Tryz.prog 90 #[.pointer (some ⟨cp,0,none⟩)] w fun e w'=>e=.returned (.int .i64 16)∧w=w'):=HL
  have HR:=znq (show xM (.adi k) t m true=XL k t m∧True from ⟨rfl,trivial⟩)
  rw [HR.znr.1]
  clear hv hblk ht hlt hn h1 hl HR
  go_enter Tryz.func63,Tryz.ntmps63
  go_wp2_with fail
  refine HL.znr.mono ?_
  rintro e w1 ⟨rfl,rfl⟩
  go_wp2_with fail
  refine H.out.mono ?_
  rintro e w3 ⟨v3,rfl,hown,hbel⟩
  have HO:=znq hown
  have HB:=znq hbel
  clear hown hbel
  go_wp2
  go_ret2
  exact ⟨_,rfl,HO.znr,HB.znr⟩
 | hct k =>
  obtain ⟨b,rfl,hv⟩:=hv
  have H:=znq (zlj b k ao tn tc t bo n cb m w hv ht ht1 htc hlt hn h1 h31 hcb hl)
  have d1:decide ((n:Int) < 16)=false:=d1
  have HL:Hid (Calls Tryz.prog 90 #[.pointer (some ⟨cp,0,none⟩)] w fun e w'=>e=.returned (.int .i64 16)∧w=w'):=HL
  have HR:=znq (show xM (.hct k) t m true=zan k t m∧True from ⟨rfl,trivial⟩)
  rw [HR.znr.1]
  clear hv hblk ht hlt hn h1 hl HR
  go_enter Tryz.func63,Tryz.ntmps63
  go_wp2_with fail
  refine HL.znr.mono ?_
  rintro e w1 ⟨rfl,rfl⟩
  go_wp2_with fail
  refine H.out.mono ?_
  rintro e w3 ⟨v3,rfl,hown,hbel⟩
  have HO:=znq hown
  have HB:=znq hbel
  clear hown hbel
  go_wp2
  go_ret2
  exact ⟨_,rfl,HO.znr,HB.znr⟩
 | aez k =>
  obtain ⟨kp,q,p,rfl,hv⟩:=hv
  have H:=znq (zc3 kp q p k ao tn tc t bo n cb m w hv ht ht1 htc hlt hn h1 h31 hcb hl)
  have d1:decide ((n:Int) < 1)=false:=d1
  have HL:Hid (Calls Tryz.prog 90 #[.pointer (some ⟨cp,0,none⟩)] w fun e w'=>e=.returned (.int .i64 1)∧w=w'):=HL
  have HR:=znq (show xM (.aez k) t m true=tK k [t] m true∧True from ⟨rfl,trivial⟩)
  rw [HR.znr.1]
  clear hv hblk ht hlt hn h1 hl HR
  go_enter Tryz.func63,Tryz.ntmps63
  go_wp2_with fail
  refine HL.znr.mono ?_
  rintro e w1 ⟨rfl,rfl⟩
  go_wp2_with fail
  refine H.out.mono ?_
  rintro e w3 ⟨v3,rfl,hown,hbel⟩
  have HO:=znq hown
  have HB:=znq hbel
  clear hown hbel
  go_wp2
  go_ret2
  exact ⟨_,rfl,HO.znr,HB.znr⟩
theorem XP (cp:Nat) (k:ku) (ao:Option Addr) (tn tc:Nat) (t:List UInt8) (bo:Option Addr) (n cb:Nat) (m:List UInt8) (back:Bool) (w:World) (hk:qu w cp k) (ht:t.length=tn) (ht1:tn≤10000) (htc:tn≤tc) (hlt:zr w ao (t.map B))
  (hn:m.length=n) (h1:k.least≤n) (h31:n≤20000) (hcb:n≤cb) (hl:zr w bo (m.map B)) :
  Calls Tryz.prog 63 #[.pointer (some ⟨cp,0,none⟩),.slice ao tn tc,.slice bo n cb,.bool back] w fun e w'=>∃ v,e=.returned (.tuple #[v,.int .i64 0])∧w'.ownsRow w.heap.size 5 1 v n ((xM k t m back).map B)∧Below w.heap.size w w':=by
 cases back with
 | false=>exact VV cp k ao tn tc t bo n cb m w hk ht ht1 htc hlt hn h1 h31 hcb hl
 | true=>exact za4 cp k ao tn tc t bo n cb m w hk ht ht1 htc hlt hn h1 h31 hcb hl
theorem zne (cp:Nat) (k:ku) (ao:Option Addr) (tn tc:Nat) (t:List UInt8) (bo:Option Addr) (n cb:Nat) (m:List UInt8) (w:World) (hk:qu w cp k) (ht:t.length=tn) (ht1:tn≤10000) (htc:tn≤tc) (hlt:zr w ao (t.map B))
  (hn:m.length=n) (h1:k.least≤n) (h31:n≤20000) (hcb:n≤cb) (hl:zr w bo (m.map B)) :
  Calls Tryz.prog 74 #[.pointer (some ⟨cp,0,none⟩),.slice ao tn tc,.slice bo n cb] w fun e w'=>∃ v,e=.returned (.tuple #[v,.int .i64 0])∧w'.ownsRow w.heap.size 5 1 v n ((xM k t m false).map B)∧Below w.heap.size w w':=by
 have HC:=znq (XP cp k ao tn tc t bo n cb m false w hk ht ht1 htc hlt hn h1 h31 hcb hl)
 clear hk ht hlt hn hl h1
 go_enter Tryz.func74,Tryz.ntmps74
 go_wp2_with fail
 refine HC.znr.mono ?_
 rintro e w3 ⟨v3,rfl,hown,hbel⟩
 have HO:=znq hown
 have HB:=znq hbel
 clear hown hbel
 go_wp2
 go_ret2
 exact ⟨_,rfl,HO.znr,HB.znr⟩
theorem znf (cp:Nat) (k:ku) (ao:Option Addr) (tn tc:Nat) (t:List UInt8) (bo:Option Addr) (n cb:Nat) (m:List UInt8) (w:World) (hk:qu w cp k) (ht:t.length=tn) (ht1:tn≤10000) (htc:tn≤tc) (hlt:zr w ao (t.map B))
  (hn:m.length=n) (h1:k.least≤n) (h31:n≤20000) (hcb:n≤cb) (hl:zr w bo (m.map B)) :
  Calls Tryz.prog 26 #[.pointer (some ⟨cp,0,none⟩),.slice ao tn tc,.slice bo n cb] w fun e w'=>∃ v,e=.returned (.tuple #[v,.int .i64 0])∧w'.ownsRow w.heap.size 5 1 v n ((xM k t m true).map B)∧Below w.heap.size w w':=by
 have HC:=znq (XP cp k ao tn tc t bo n cb m true w hk ht ht1 htc hlt hn h1 h31 hcb hl)
 clear hk ht hlt hn hl h1
 go_enter Tryz.func26,Tryz.ntmps26
 go_wp2_with fail
 refine HC.znr.mono ?_
 rintro e w3 ⟨v3,rfl,hown,hbel⟩
 have HO:=znq hown
 have HB:=znq hbel
 clear hown hbel
 go_wp2
 go_ret2
 exact ⟨_,rfl,HO.znr,HB.znr⟩
end Go.Proofs.YtjaioajjfiaheaaGreatDoor
namespace Go.Proofs.YtjaioajjfiaheaaGreatDoor
open RowKit Mem Ops Cells Oct Gf Trn Aes Ring Ezk Ezh Ezt Ezc Aez Blake ru Fl Wid
attribute [local irreducible] zE zN zO zM yu
end Go.Proofs.YtjaioajjfiaheaaGreatDoor
namespace Go.Proofs.YtjaioajjfiaheaaGreatDoor
open RowKit Mem Ops Cells Oct Gf Trn Aes Ring Ezk Ezh Ezt Ezc Aez Blake ru Fl Adi Hct Wid
attribute [local irreducible] zE zN zO zM yu
end Go.Proofs.YtjaioajjfiaheaaGreatDoor
namespace Go.Cells
open RowKit Mem
end Go.Cells
namespace Go.Proofs.YtjaioajjfiaheaaGreatDoor
open RowKit Mem Ops Cells Oct Gf Trn Aes Ring Ezk Ezh Ezt Ezc Aez Blake ru Fl Adi Hct Wid
attribute [local irreducible] zE zN zO zM yu
theorem ztk (cp:Nat) (k:ku) (ao:Option Addr) (tn tc:Nat) (t:List UInt8) (g off n cb:Nat) (cur:List Value) (m:List UInt8) (back:Bool) (w:World) (hk:qu w cp k) (ht:t.length=tn) (ht1:tn≤10000) (htc:tn≤tc) (hlt:zr w ao (t.map B))
  (hn:m.length=n) (h1:k.least≤n) (h31:n≤20000) (hcb:n≤cb) (hb:Blk w g cur 5) (hcur:(cur.drop off).take n=m.map B) (hcl:off+n≤cur.length) :
  Calls Tryz.prog 92 #[.pointer (some ⟨cp,0,none⟩),.slice ao tn tc,.slice (some ⟨g,off,none⟩) n cb,.bool back] w fun e w'=>e=.returned (.int .i64 0)∧Blk w' g (splice cur off ((xM k t m back).map B)) 5∧zI g w w':=by
 have HL:zr w (some ⟨g,off,none⟩) (m.map B):=by
  have h:=(hb.lies.drop off).take n
  rw [hcur] at h
  simpa [add_eq] using h
 have HT:=znq (XP cp k ao tn tc t (some ⟨g,off,none⟩) n cb m back w hk ht ht1 htc hlt hn h1 h31 hcb HL)
 have HB:=znq hb
 have HGL:=znq hb.lt
 have HCL:=znq hcl
 have HO:=znq (zI.refl g w)
 obtain ⟨y,hy⟩:∃ y,y=xM k t m back:=⟨_,rfl⟩
 have HY:=znq (show xM k t m back=y∧y.length=n from ⟨hy.symm,by rw [hy,q7 _ _ (by rw [hn];exact h1)];exact hn⟩)
 rw [← hy]
 rw [← hy] at HT
 clear hk ht hlt hn h1 HL hb hcur hy hcl
 go_enter Tryz.func92,Tryz.ntmps92
 go_wp2_with fail
 refine HT.znr.mono ?_
 rintro e w1 ⟨v1,rfl,hown,hbel⟩
 obtain ⟨a1,c1,rfl,hc1,_,hl1⟩:=zw hown
 have HL1:=znq hl1
 have HB:=znq (HB.znr.below hbel HGL.znr)
 have HO:=znq (HO.znr.trans (zI.of_below hbel))
 clear hown hl1 hbel
 go_wp2_with (refine HB.znr.za6 off (y.map B) rfl rfl rfl rfl Tryz.underlying22 zl (fun _=>rfl) HL1.znr (by rw [yf,HY.znr.2];exact (Nat.min_self n).symm) (by rw [yf,HY.znr.2];have:=HCL.znr;omega) (zg _) ?_)
 intro w2 hb ho
 have HB:=znq hb
 have HO:=znq (HO.znr.trans (zI.nH ho))
 clear hb ho
 go_wp2
 go_ret
 exact ⟨rfl,HB.znr,HO.znr⟩
end Go.Proofs.YtjaioajjfiaheaaGreatDoor
namespace Go.Vol
open Ops Oct Aes Adi Wid
def zgn (n:Nat):List UInt8:=z7 (UInt64.ofNat n,0)
theorem zq2 (n:Nat):(zgn n).length=16:=by unfold zgn z7;rw [q8,zK,zK]
def zih (size:Nat) (st:List UInt8) (n:Nat):List UInt8:=(st.drop (n*size)).take size
def zrc (st:List UInt8) (a:Nat) (b:List UInt8):List UInt8:=st.take a++b++st.drop (a+b.length)
theorem zqz {st:List UInt8} {a:Nat} {b:List UInt8} (h:a+b.length≤st.length):(zrc st a b).length=st.length:=by
 unfold zrc
 simp only [q8,Ku,XQ]
 omega
theorem zt4 {st:List UInt8} {a:Nat} {b:List UInt8} (h:a+b.length≤st.length) (i:Nat):(zrc st a b)[i]? = if a≤i∧i < a+b.length then b[i - a]? else st[i]?:=by
 unfold zrc
 have e:(List.take a st).length=a:=by rw [Ku];omega
 by_cases h1:i < a
 ·rw [if_neg (by omega),QA,bO (by omega),fK,if_pos h1]
 ·by_cases h2:i < a+b.length
  ·rw [if_pos (by omega),QA,bM (by omega),bO (by omega),e]
  ·rw [if_neg (by omega),bM (by rw [q8];omega),dJ,q8,e]
   congr 1
   omega
theorem zsk (size:Nat) (st:List UInt8) (n j:Nat):(zih size st n)[j]? = if j < size then st[n*size+j]? else none:=by
 unfold zih
 rw [fK,dJ]
theorem fits {size mK n:Nat} (h:n < mK):n*size+size≤size*mK:=by
 have:=uP size (show n+1≤mK from h)
 rw [uZ,dO] at this
 rw [Nat.mul_comm size]
 exact this
theorem apart {size m n:Nat} (h:m < n):m*size+size≤n*size:=by
 have:=uP size (show m+1≤n from h)
 rw [uZ,dO] at this
 exact this
theorem zii {size mK n:Nat} {st:List UInt8} (hl:st.length=size*mK) (h:n < mK):(zih size st n).length=size:=by
 have:=fits (size:=size) h
 unfold zih
 rw [Ku,XQ]
 omega
theorem zsl {size mK n m:Nat} {st b:List UInt8} (hl:st.length=size*mK) (hb:b.length=size) (hn:n < mK):zih size (zrc st (n*size) b) m=if m=n then b else zih size st m:=by
 have hf:=fits (size:=size) hn
 apply List.ext_getElem?
 intro j
 rw [zsk]
 by_cases hj:j < size
 ·rw [if_pos hj,zt4 (by omega)]
  by_cases e:m=n
  ·subst e
   rw [if_pos (by omega),if_pos rfl]
   congr 1
   omega
  ·rw [if_neg e,zsk,if_pos hj,if_neg]
   rcases Nat.lt_or_gt_of_ne e with h | h
   ·have:=apart (size:=size) h;omega
   ·have:=apart (size:=size) h;omega
 ·rw [if_neg hj]
  by_cases e:m=n
  ·subst e
   rw [if_pos rfl,List.getElem?_eq_none (by omega)]
  ·rw [if_neg e,zsk,if_neg hj]
def zil (size:Nat) (k:ku) (st:List UInt8) (n:Nat) (back:Bool):List UInt8:=zrc st (n*size) (xM k (zgn n) (zih size st n) back)
theorem zqu {size mK n:Nat} {k:ku} {st:List UInt8} {back:Bool} (hl:st.length=size*mK) (hk:k.least≤size) (hn:n < mK):(zil size k st n back).length=st.length:=by
 have hs:=zii hl hn
 refine zqz ?_
 rw [q7 _ _ (by rw [hs];exact hk),hs,hl]
 exact fits hn
theorem zrd {size mK n m:Nat} {k:ku} {st:List UInt8} {back:Bool} (hl:st.length=size*mK) (hk:k.least≤size) (hn:n < mK):zih size (zil size k st n back) m=if m=n then xM k (zgn n) (zih size st n) back else zih size st m:=by
 have hs:=zii hl hn
 exact zsl hl (by rw [q7 _ _ (by rw [hs];exact hk),hs]) hn
structure Vol where
 alg:Int
 size:Nat
 mK:Nat
 now:ku
 next:Option ku
 moved:Nat
 store:List UInt8
 reads:Nat
 writes:Nat
structure zq3 (size:Nat) (k:ku):Prop where
 fit:k.Fit
 least:k.least≤size
structure Vol.pg (v:Vol):Prop where
 size:16≤v.size∧v.size≤4096
 mK:1≤v.mK∧v.mK≤256
 len:v.store.length=v.size*v.mK
 now:zq3 v.size v.now
 next:∀ k,v.next=some k→zq3 v.size k∧v.moved < v.mK
theorem least_le (k:ku):k.least≤16:=by cases k <;> simp [ku.least]
def Vol.nk (v:Vol) (n:Nat):ku:=match v.next with
 | some k=>if n < v.moved then k else v.now
 | none=>v.now
theorem Vol.pg.nk {v:Vol} (h:v.pg) (n:Nat):zq3 v.size (v.nk n):=by
 unfold Vol.nk
 split
 ·next k hk =>
  split
  ·exact (h.next k hk).1
  ·exact h.now
 ·exact h.now
def Vol.sec (v:Vol) (n:Nat):List UInt8:=xM (v.nk n) (zgn n) (zih v.size v.store n) true
theorem Vol.pg.nV {v:Vol} (h:v.pg) {n:Nat} (hn:n < v.mK):(v.sec n).length=v.size:=by
 have hs:=zii h.len hn
 unfold Vol.sec
 rw [q7 _ _ (by rw [hs];exact (h.nk n).least),hs]
def zri (size:Nat) (k:ku) (st:List UInt8):Nat→List UInt8
 | 0=>st
 | n+1=>zil size k (zri size k st n) n false
theorem zqv {size mK:Nat} {k:ku} {st:List UInt8} (hl:st.length=size*mK) (hk:k.least≤size):∀ n,n≤mK→(zri size k st n).length=st.length
 | 0,_=>rfl
 | n+1,h=>by
  have ih:=zqv hl hk n (by omega)
  show (zil _ _ _ _ _).length=_
  rw [zqu (by rw [ih];exact hl) hk (by omega),ih]
theorem zro {size mK m:Nat} {k:ku} {st:List UInt8} (hl:st.length=size*mK) (hk:k.least≤size):∀ n,n≤mK→zih size (zri size k st n) m=if m < n then xM k (zgn m) (zih size st m) false else zih size st m
 | 0,_=>by simp [zri]
 | n+1,h=>by
  have ih:=zro (m:=m) hl hk n (by omega)
  have ihn:=zro (m:=n) hl hk n (by omega)
  show zih size (zil _ _ _ _ _) m=_
  rw [zrd (by rw [zqv hl hk n (by omega)];exact hl) hk (by omega)]
  by_cases e:m=n
  ·subst e
   rw [if_pos rfl,if_pos (by omega),ihn,if_neg (by omega)]
  ·rw [if_neg e,ih]
   by_cases h2:m < n
   ·rw [if_pos h2,if_pos (by omega)]
   ·rw [if_neg h2,if_neg (by omega)]
def zim (alg:Int) (size mK:Nat) (key:List UInt8):Vol:=⟨alg,size,mK,jy alg key,none,0,zri size (jy alg key) (zf (size*mK)) mK,0,0⟩
theorem zs6 {size mK n:Nat} (hn:n < mK):zih size (zf (size*mK)) n=zf size:=by
 have:=fits (size:=size) hn
 unfold zih zf
 rw [List.drop_replicate,List.take_replicate]
 congr 1
 omega
theorem znp (alg:Int) (key:List UInt8) {size:Nat} (h:16≤size):zq3 size (jy alg key):=⟨we _ _,uj (least_le _) h⟩
theorem zlp {alg:Int} {size mK:Nat} {key:List UInt8} (h1:16≤size∧size≤4096) (h2:1≤mK∧mK≤256):(zim alg size mK key).pg :=
 ⟨h1,h2,by show (zri _ _ _ _).length=_;rw [zqv (zd _) (znp alg key h1.1).least _ (xc _),zd];rfl,znp alg key h1.1,fun k h=>by cases h⟩
theorem zq0 {alg:Int} {size mK n:Nat} {key:List UInt8} (h1:16≤size) (hn:n < mK):(zim alg size mK key).sec n=zf size:=by
 show xM (jy alg key) (zgn n) (zih size (zri _ _ _ _) n) true=_
 rw [zro (zd _) (znp alg key h1).least _ (xc _),if_pos hn,zs6 hn]
 exact XM (znp alg key h1).fit _ (m:=zf size) false (by rw [zd];exact (znp alg key h1).least)
def Vol.put (v:Vol) (n:Nat) (b:List UInt8):Vol:={ v with store:=zil v.size (v.nk n) (zrc v.store (n*v.size) b) n false,writes:=v.writes+1 }
theorem Vol.pg.put {v:Vol} (h:v.pg) {n:Nat} {b:List UInt8} (hn:n < v.mK) (hb:b.length=v.size):(v.put n b).pg:=by
 have hp:(zrc v.store (n*v.size) b).length=v.store.length:=zqz (by rw [hb,h.len];exact fits hn)
 exact ⟨h.size,h.mK,by show (zil _ _ _ _ _).length=_;rw [zqu (by rw [hp];exact h.len) (h.nk n).least hn,hp];exact h.len,h.now,h.next⟩
theorem zt5 {v:Vol} (h:v.pg) {n m:Nat} {b:List UInt8} (hn:n < v.mK) (hb:b.length=v.size):zih v.size (v.put n b).store m=if m=n then xM (v.nk n) (zgn n) b false else zih v.size v.store m:=by
 have hp:(zrc v.store (n*v.size) b).length=v.store.length:=zqz (by rw [hb,h.len];exact fits hn)
 show zih v.size (zil _ _ _ _ _) m=_
 rw [zrd (by rw [hp];exact h.len) (h.nk n).least hn,zsl h.len hb hn,if_pos rfl,zsl h.len hb hn]
 split
 ·rfl
 ·rfl
theorem zte {v:Vol} (h:v.pg) {n m:Nat} {b:List UInt8} (hn:n < v.mK) (hb:b.length=v.size):(v.put n b).sec m=if m=n then b else v.sec m:=by
 show xM (v.nk m) (zgn m) (zih v.size (v.put n b).store m) true=_
 rw [zt5 h hn hb]
 by_cases e:m=n
 ·subst e
  rw [if_pos rfl,if_pos rfl]
  exact XM (h.nk m).fit _ (m:=b) false (by rw [hb];exact (h.nk m).least)
 ·rw [if_neg e,if_neg e];rfl
def Vol.step (v:Vol) (k:ku):Vol :=
 let st:=zil v.size k (zil v.size v.now v.store v.moved true) v.moved false
 if v.moved+1=v.mK then { v with now:=k,next:=none,moved:=v.moved+1,store:=st } else { v with next:=some k,moved:=v.moved+1,store:=st }
theorem zry {v:Vol} (h:v.pg) {k:ku} (hk:v.next=some k):(zil v.size v.now v.store v.moved true).length=v.size*v.mK∧(zil v.size k (zil v.size v.now v.store v.moved true) v.moved false).length=v.size*v.mK:=by
 have hm:=(h.next k hk).2
 have h1:=zqu (back:=true) h.len h.now.least hm
 rw [h.len] at h1
 exact ⟨h1,by rw [zqu h1 (h.next k hk).1.least hm,h1]⟩
theorem Vol.pg.step {v:Vol} (h:v.pg) {k:ku} (hk:v.next=some k):(v.step k).pg:=by
 have hm:=(h.next k hk).2
 have hl:=zry h hk
 unfold Vol.step
 split
 ·exact ⟨h.size,h.mK,hl.2,(h.next k hk).1,fun k' h'=>by cases h'⟩
 ·next e=>exact ⟨h.size,h.mK,hl.2,h.now,fun k' h'=>by cases h';exact ⟨(h.next k hk).1,by show v.moved+1 < v.mK;omega⟩⟩
theorem ztv {v:Vol} (h:v.pg) {k:ku} (hk:v.next=some k) (m:Nat):zih v.size (v.step k).store m=if m=v.moved then xM k (zgn m) (v.sec m) false else zih v.size v.store m:=by
 have hm:=(h.next k hk).2
 have e:(v.step k).store=zil v.size k (zil v.size v.now v.store v.moved true) v.moved false:=by unfold Vol.step;split <;> rfl
 rw [e,zrd (zry h hk).1 (h.next k hk).1.least hm,zrd h.len h.now.least hm,zrd h.len h.now.least hm]
 by_cases e:m=v.moved
 ·rw [if_pos e,if_pos rfl,if_pos e,e]
  unfold Vol.sec Vol.nk
  rw [hk]
  simp
 ·rw [if_neg e,if_neg e,if_neg e]
theorem zq5 (v:Vol) (k:ku):(v.step k).size=v.size∧(v.step k).mK=v.mK∧(v.step k).alg=v.alg∧(v.step k).reads=v.reads∧(v.step k).writes=v.writes:=by unfold Vol.step;split <;> exact ⟨rfl,rfl,rfl,rfl,rfl⟩
theorem zrj {v:Vol} (h:v.pg) {k:ku} (hk:v.next=some k) {m:Nat} (hms:m < v.mK):(v.step k).sec m=v.sec m:=by
 have hm:=(h.next k hk).2
 have hr:=ztv h hk m
 have hs:=h.nV hms
 have hc:(v.step k).nk m=if m < v.moved+1 then k else v.now:=by
  unfold Vol.step
  split
  ·next e=>show k=_;rw [if_pos (by omega)]
  ·show (if m < v.moved+1 then k else v.now)=_;rfl
 show xM ((v.step k).nk m) (zgn m) (zih (v.step k).size (v.step k).store m) true=_
 rw [(zq5 v k).1,hr,hc]
 by_cases e:m=v.moved
 ·rw [if_pos e,if_pos (by omega)]
  exact XM (h.next k hk).1.fit _ (m:=v.sec m) false (by rw [hs];exact (h.next k hk).1.least)
 ·rw [if_neg e]
  unfold Vol.sec Vol.nk
  rw [hk]
  by_cases h2:m < v.moved
  ·rw [if_pos (by omega)];simp [h2]
  ·rw [if_neg (by omega)];simp [h2]
end Go.Vol
namespace Go.Proofs.YtjaioajjfiaheaaGreatDoor
open RowKit Mem Ops Cells Oct Trn Aes Ring Ezk Blake Adi Hct Wid Vol
def zsm (F:List Nat):Nat→Prop:=fun i=>i∉F
def zij (F:List Nat) (w:World) (X:World→Prop):Prop:=∀ w',Up (zsm F) w w'→X w'
theorem zij.self {F:List Nat} {w:World} {X:World→Prop} (h:zij F w X):X w:=h w (Up.refl _ w)
theorem zij.at {F:List Nat} {w w':World} {X:World→Prop} (h:zij F w X) (hu:Up (zsm F) w w'):zij F w' X:=fun w'' hv=>h w'' (hu.trans hv)
theorem zij.below {F:List Nat} {w w':World} {X:World→Prop} (h:zij F w X) (hb:Below w.heap.size w w'):zij F w' X:=h.at (Up.of_below hb)
theorem zs7 {F F':List Nat} {w w' w'':World} (hb:Below w.heap.size w w') (hF:∀ i∈F',i∈F∨w.heap.size≤i) (hu:Up (zsm F') w' w''):Up (zsm F) w w'' :=
 ⟨uj hb.size hu.size,fun i hi hl=>(hu.block i (fun h=>(hF i h).elim hi (fun h2=>absurd hl (Nat.not_lt.2 h2))) (bI hl hb.size)).trans (hb.block i hl)⟩
theorem zij.wider {F F':List Nat} {w w':World} {X:World→Prop} (h:zij F w X) (hb:Below w.heap.size w w') (hF:∀ i∈F',i∈F∨w.heap.size≤i):zij F' w' X:=fun w'' hu=>h w'' (zs7 hb hF hu)
theorem zij.zaZ {base:Nat} {L F:List Nat} {w w2:World} {X:World→Prop} (h:Std base L w X) (hb:Below w.heap.size w w2) (hF:∀ i∈F,w.heap.size≤i∨i < base∧i∉L):zij F w2 X :=
 fun w' hu=>h (fun i=>i < w.heap.size→zsm F i) w' (fun i hi hl hf=>by
  rcases hF i hf with h1 | ⟨h1,h2⟩
  ·omega
  ·rcases hi with hi | hi
   ·omega
   ·exact h2 hi) ⟨uj hb.size hu.size,fun k hk hl=>(hu.block k (hk hl) (bI hl hb.size)).trans (hb.block k hl)⟩
def zgl (q:Nat) (v:Vol) (np:Nat) (xp:Value) (sp:Nat) (load:Value):List Value :=
 [.pointer (some ⟨q,0,none⟩),.int .i64 v.alg,.int .i64 v.size,.int .i64 v.mK,.pointer (some ⟨np,0,none⟩),xp,.int .i64 v.moved,.slice (some ⟨sp,0,none⟩) (v.size*v.mK) (v.size*v.mK),load]
def zsn (F:List Nat) (w:World) (xp:Value):Option ku→Prop
 | none=>xp=.pointer none
 | some k=>∃ x,xp=.pointer (some ⟨x,0,none⟩)∧zij F w (fun w'=>qu w' x k)
theorem zsn.imp {F F':List Nat} {w w':World} {xp:Value} {o:Option ku} (h:zsn F w xp o) (hk:∀ X,zij F w X→zij F' w' X):zsn F' w' xp o:=by
 cases o with
 | none=>exact h
 | some k=>obtain ⟨x,hx,hk'⟩:=h;exact ⟨x,hx,hk _ hk'⟩
structure y4 (ty:TypeId) (F:List Nat) (w:World) (q vp sp:Nat) (v:Vol) (load:Value) (np:Nat) (xp:Value):Prop where
 pq:v.pg
 ne:vp≠sp
 inF:vp∈F∧sp∈F
 cells:Blk w vp (zgl q v np xp sp load) ty
 store:Blk w sp (v.store.map B) 5
 now:zij F w (fun w'=>qu w' np v.now)
 next:zsn F w xp v.next
theorem y4.below {ty:TypeId} {F:List Nat} {w w':World} {q vp sp:Nat} {v:Vol} {load:Value} {np:Nat} {xp:Value} (h:y4 ty F w q vp sp v load np xp) (hb:Below w.heap.size w w'):y4 ty F w' q vp sp v load np xp :=
 ⟨h.pq,h.ne,h.inF,h.cells.below hb h.cells.lt,h.store.below hb h.store.lt,h.now.below hb,h.next.imp fun _ k=>k.below hb⟩
theorem y4.wider {ty:TypeId} {F F':List Nat} {w w':World} {q vp sp:Nat} {v:Vol} {load:Value} {np:Nat} {xp:Value} (h:y4 ty F w q vp sp v load np xp) (hb:Below w.heap.size w w') (hF:∀ i∈F',i∈F∨w.heap.size≤i) (hin:vp∈F'∧sp∈F'):y4 ty F' w' q vp sp v load np xp :=
 ⟨h.pq,h.ne,hin,h.cells.below hb h.cells.lt,h.store.below hb h.store.lt,h.now.wider hb hF,h.next.imp fun _ k=>k.wider hb hF⟩
theorem y4.free {ty:TypeId} {F:List Nat} {w w':World} {q vp sp b:Nat} {v:Vol} {load:Value} {np:Nat} {xp:Value} (h:y4 ty F w q vp sp v load np xp) (ho:zI b w w') (hb:b∈F) (h1:vp≠b) (h2:sp≠b):y4 ty F w' q vp sp v load np xp :=
 have hu:Up (zsm F) w w':=Up.zaY ho (fun e=>e hb)
 ⟨h.pq,h.ne,h.inF,h.cells.pR ho h1,h.store.pR ho h2,h.now.at hu,h.next.imp fun _ k=>k.at hu⟩
theorem y4.nk {ty:TypeId} {F:List Nat} {w:World} {q vp sp:Nat} {v:Vol} {load:Value} {np:Nat} {xp:Value} (h:y4 ty F w q vp sp v load np xp) (n:Nat) :
  (v.nk n=v.now∧(v.next=none∨v.moved≤n))∨(∃ k,v.next=some k∧n < v.moved∧v.nk n=k):=by
 unfold Vol.nk
 cases hx:v.next with
 | none=>exact .inl ⟨rfl,.inl rfl⟩
 | some k =>
  by_cases hn:n < v.moved
  ·exact .inr ⟨k,rfl,hn,by simp [hn]⟩
  ·exact .inl ⟨by simp [hn],.inr (by omega)⟩
end Go.Proofs.YtjaioajjfiaheaaGreatDoor
