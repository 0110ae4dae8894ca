/-
  Texts of this claim, one behind the other.
-/
import Derived.Test.YtamdifhibogdiaaGreatDoorX1
import Derived.Test.YtamdifhibogdiaaGreatDoorX23
import Derived.Test.YtamdifhibogdiaaGreatDoorX21
import Derived.Lib.Hide
set_option linter.unusedVariables false
set_option linter.unusedSimpArgs false
set_option maxHeartbeats 16000000
set_option maxRecDepth 100000
open List renaming getElem?_append_right→bM,length_drop→XQ,length_map→yf,length_take→Ku,mem_of_getElem?→xU,mem_singleton→df
open Nat renaming le_refl→xc
namespace Go.Proofs.YtamdifhibogdiaaGreatDoor
open RowKit Mem Ops Cells Oct Gf Trn Aes Blake pI Adi Cha Fl Ezh
attribute [local irreducible] zE zN zO zM yJ
structure ACx (w:World) (cp kp q p kb nI n pK hb:Nat) (k:kV):Prop where
 blk:Blk w cp (acV k.key [.pointer (some ⟨kp,0,none⟩),.pointer (some ⟨hb,0,none⟩)]) 259
 key:qV w kp q p k.ks kb nI n pK
 hash:Y3 w hb k.kt k.km k.ws
theorem ACx.later {w w':World} {cp kp q p kb nI n pK hb:Nat} {k:kV} (h:ACx w cp kp q p kb nI n pK hb k) (hl:Below w.heap.size w w'):ACx w' cp kp q p kb nI n pK hb k:=⟨h.blk.below hl h.blk.lt,h.key.later hl,h.hash.below hl⟩
theorem zlf {key:List UInt8} (h:key.length=32) (a b:Value):(acV key [a,b])[32]? = some a:=by
 unfold acV
 rw [bM (by simp [h])]
 simp [h]
theorem za2 {key:List UInt8} (h:key.length=32) (a b:Value):(acV key [a,b])[33]? = some b:=by
 unfold acV
 rw [bM (by simp [h])]
 simp [h]
theorem zlg (cp:Nat) (k:kV) (ao:Option Addr) (tn tc:Nat) (t:List UInt8) (bo:Option Addr) (n cb:Nat) (m:List UInt8) (w:World) (hk:Vm w cp k) (ht:t.length=tn) (ht1:tn≤10000) (htc:tn≤tc) (hlt:zr w ao (t.map B))
  (hn:m.length=n) (h1:16≤n) (h31:n≤20000) (hcb:n≤cb) (hl:zr w bo (m.map B)) :
  Calls Tryz.prog 297 #[.pointer (some ⟨cp,0,none⟩),.slice ao tn tc,.slice bo n cb] w fun e w'=>∃ v,e=.returned (.tuple #[v,.int .i64 0])∧w'.ownsRow w.heap.size 5 1 v n ((XK k t m).map B)∧Below w.heap.size w w':=by
 obtain ⟨kp,q,p,kb,nI,kn,pK,hb,e1,e2,e3⟩:=hk.ex
 have HX:=znq (show ACx w cp kp q p kb nI kn pK hb k from ⟨e1,e2,e3⟩)
 have zcV:=znq hk.zeB
 have HT:=znq ht
 have HLT:=znq hlt
 have HN:=znq hn
 have HL:=znq hl
 obtain ⟨a,ha⟩:∃ a,a=n - 16:=⟨_,rfl⟩
 obtain ⟨bulk,tF⟩:∃ x,x=m.take a:=⟨_,rfl⟩
 obtain ⟨rt,hrt⟩:∃ x,x=xo (m.drop a):=⟨_,rfl⟩
 have HBL:=znq (show bulk.length=a from by rw [tF,Ku,hn];omega)
 obtain ⟨sm,hsm⟩:∃ x,x=nY (vY k.kt t a) (vZ k.km k.ws bulk):=⟨_,rfl⟩
 have HSM:=znq (show nY (vY k.kt t a) (vZ k.km k.ws bulk)=sm∧True from ⟨hsm.symm,trivial⟩)
 obtain ⟨pl,hpl⟩:∃ x,x=nY rt sm:=⟨_,rfl⟩
 have HPL:=znq (show nY rt sm=pl∧True from ⟨hpl.symm,trivial⟩)
 obtain ⟨mid,hmid⟩:∃ x,x=xo (enc k.ks (z7 pl)):=⟨_,rfl⟩
 have zeV:=znq (show xo (enc k.ks (z7 pl))=mid∧True from ⟨hmid.symm,trivial⟩)
 obtain ⟨bk2,hbk2⟩:∃ x,x=jT k.key (z7 mid++[1]++zf 7) 12 bulk:=⟨_,rfl⟩
 have zaO:=znq (show jT k.key (z7 mid++[1]++zf 7) 12 bulk=bk2∧bk2.length=a from ⟨hbk2.symm,by rw [hbk2,vy];exact HBL.znr⟩)
 obtain ⟨sm2,zeC⟩:∃ x,x=nY (vY k.kt t a) (vZ k.km k.ws bk2):=⟨_,rfl⟩
 have zlF:=znq (show nY (vY k.kt t a) (vZ k.km k.ws bk2)=sm2∧True from ⟨zeC.symm,trivial⟩)
 obtain ⟨rt2,zeD⟩:∃ x,x=qp mid sm2:=⟨_,rfl⟩
 have zlG:=znq (show qp mid sm2=rt2∧True from ⟨zeD.symm,trivial⟩)
 have tL:=znq (show XK k t m=bk2++z7 rt2∧(xo (m.drop (n - 16))=rt∧m.take (n - 16)=bulk) from ⟨by
  unfold XK jF jj Xe
  rw [hn,← ha,← tF,← hrt,HBL.znr,← hsm,← hpl,← hmid,← hbk2,zaO.znr.2,← zeC,← zeD],by rw [← ha];exact ⟨hrt.symm,tF.symm⟩⟩)
 have han:a+16=n:=by omega
 have HAA:=znq (show n - 16=a∧True from ⟨ha.symm,trivial⟩)
 have HS:=znq (St.start w)
 rw [tL.znr.1]
 clear hk e1 e2 e3 ht hlt hn hl ha tF hrt hsm hpl hmid hbk2 zeC zeD
 go_enter Tryz.func297,Tryz.ntmps297
 generalize hbb:w.heap.size=bb at *
 have HBB:=znq hbb
 clear hbb
 go_wp2_with fail
 refine (Vj cp bo n cb _ h1).mono ?_
 rintro e w1 ⟨rfl,rfl⟩
 go_wp2_with fail
 refine (Vk bo n cb m _ HN.znr hcb h1 (by omega) HL.znr).mono ?_
 rintro e w2 ⟨v2,rfl,hown,hbel⟩
 rw [tL.znr.2.1]
 rw [tL.znr.2.2,HAA.znr.1] at hown
 obtain ⟨a2,c2,rfl,zlH,_,_⟩:=zw hown
 have HO2:=znq hown
 have HS:=znq (HS.znr.later hbel)
 have hz2:=HS.znr.size
 have HBW:=znq (show ∀ wz L,St w bb wz L→Below w.heap.size w wz from fun wz L h=>by rw [HBB.znr];exact h.bel)
 clear hown hbel
 go_wp2_with (refine ze 62 [L 0,L 0] _ rfl rfl zT rfl ?_)
 intro w3 hb' hbel
 have HO2:=znq (zm HO2.znr hbel)
 have HS:=znq (HS.znr.push hb' hbel)
 clear hb' hbel
 generalize hb2:w2.heap.size=b2 at *
 clear hb2
 go_wp2_with (refine (HS.znr.get 0 rfl).mM rfl rfl rfl (cs:=zQ rt) rfl zq rfl rfl (zX _) ?_)
 intro w4 hb' ho
 have HO2:=znq (zu HO2.znr (HS.znr.get 0 rfl) (by decide) ho)
 have HS:=znq (show St w bb w4 [(b2,zQ rt,62)] from HS.znr.change 0 hb' ho hz2 (by simp))
 clear hb' ho
 have hx32:=fun (x:zG w4.drew)=>((HX.znr.later (HBW.znr _ _ (HS.znr.drew.later x.later))).blk).cell 32 _ (zlf zcV.znr _ _)
 have zeE:=fun (x:zG w4.drew)=>((HX.znr.later (HBW.znr _ _ (HS.znr.drew.later x.later))).blk).cell 33 _ (za2 zcV.znr _ _)
 have hb2':b2 < w4.heap.size:=HS.znr.ne _ (xU (i:=0) rfl)
 go_wp2_with fail
 refine yn [0,1,2,3,4,5,6,7,8,9,10,11] [12,13,14] [16] [zH.var 15 11 62 [L 0,L 0]] (by kernel_rfl) (by kernel_rfl) ?_
 rintro w5 rfl
 refine mq0 ?_
 refine zL (HS.znr.get 0 rfl).range (HS.znr.get 0 rfl).lt zq rfl rfl rfl rfl (fun K hK=>?_)
 go_simp;refine hK _ ?_;clear hK K
 refine mq0 ?_
 clear hx32 zeE
 have HO2:=znq (zm HO2.znr (Below.refl _ _).drew)
 have HS:=znq HS.znr.drew
 refine yK ⟨?_,?_,xc _⟩
 ·intro f hf
  simp only [df] at hf
  subst hf
  exact zhq _ _ _ _ _ _ rfl rfl rfl rfl (by simp) zT rfl
 refine zC rfl rfl (fun uz wa hla K hK=>?_)
 go_simp
 have HO2:=znq (zm HO2.znr hla)
 have HS:=znq (HS.znr.later hla)
 refine (KR hb k.kt k.km k.ws ao tn tc t a2 a c2 bulk _ (HX.znr.later (HBW.znr _ _ HS.znr)).hash HT.znr htc (by omega) (HLT.znr.below (HBW.znr _ _ HS.znr)) HBL.znr (by omega) (zr.nQ HO2.znr)).mono ?_
 rintro e w6 ⟨rfl,hbel⟩
 rw [HSM.znr.1]
 have HO2:=znq (zm HO2.znr hbel)
 have HS:=znq (HS.znr.later hbel)
 go_simp
 refine hK _ _ hbel ?_
 clear hK K hbel hla
 refine zC rfl rfl (fun uz wa hla K hK=>?_)
 go_simp
 have HO2:=znq (zm HO2.znr hla)
 have HS:=znq (HS.znr.later hla)
 refine (J6 rt sm _).mono ?_
 rintro e w7 ⟨rfl,hbel⟩
 rw [HPL.znr.1]
 have HO2:=znq (zm HO2.znr hbel)
 have HS:=znq (HS.znr.later hbel)
 go_simp
 refine hK _ _ hbel ?_
 clear hK K hbel hla
 refine zC rfl rfl (fun uz wa hla K hK=>?_)
 go_simp
 have HO2:=znq (zm HO2.znr hla)
 have HS:=znq (HS.znr.later hla)
 refine (zif kp q p k.ks kb nI kn pK pl _ (HX.znr.later (HBW.znr _ _ HS.znr)).key).mono ?_
 rintro e w8 ⟨rfl,hbel⟩
 rw [zeV.znr.1]
 have HO2:=znq (zm HO2.znr hbel)
 have HS:=znq (HS.znr.later hbel)
 go_simp
 refine hK _ _ hbel ?_
 clear hK K hbel hla
 refine yZ (fun b5 wb hlb hb5 hbn=>?_)
 go_simp
 have HO2:=znq (zm HO2.znr hlb)
 have HS:=znq ((HS.znr.later hlb).add (show Blk wb b5 [L 0,L 0] 62 from hbn))
 clear hlb hbn
 generalize w4.heap.size=b4 at *
 have zlI:bb≤b5:=by omega
 refine zp rfl rfl (by rfl) (fun K hK=>?_)
 refine (HS.znr.get 0 rfl).mZ rfl rfl rfl zq rfl rfl (zX _) (fun w9 hb' ho=>hK _ _ ?_)
 clear hK K
 have HO2:=znq (zu HO2.znr (HS.znr.get 0 rfl) (by decide) ho)
 have HS:=znq (show St w bb w9 [(b5,zQ mid,62),(b2,zQ rt,62)] from HS.znr.change 0 hb' ho zlI (by simp;omega))
 clear hb' ho
 go_simp
 refine zo ?_
 go_wp2_with (refine (HS.znr.get 0 rfl).mP rfl rfl rfl zq rfl ?_)
 refine (KC cp k.key _ mid a2 a c2 bulk _ (HX.znr.later (HBW.znr _ _ HS.znr)).blk zcV.znr HBL.znr zlH (by omega) (zr.nQ HO2.znr)).mono ?_
 rintro e w10 ⟨v10,rfl,hown,hbel⟩
 rw [zaO.znr.1] at hown
 obtain ⟨a10,c10,rfl,zeF,_,zhF⟩:=zw hown
 have tH:=znq zhF
 have HS:=znq (HS.znr.later hbel)
 clear hown zhF hbel HO2
 have zeE:=fun (x:zG w10.drew)=>((HX.znr.later (HBW.znr _ _ (HS.znr.drew.later x.later))).blk).cell 33 _ (za2 zcV.znr _ _)
 go_wp2_with fail
 refine zn [0,1,2,3,4,5,6,7,8,9,10,11,12] (by kernel_rfl) (by kernel_rfl) ?_
 rintro w11 rfl
 have HS:=znq HS.znr.drew
 have tH:=znq (tH.znr.below (Below.refl _ _).drew)
 refine mqR ?_
 refine zt (HS.znr.get 0 rfl).range (HS.znr.get 0 rfl).lt zq rfl rfl rfl rfl rfl (fun K hK=>?_)
 go_simp;refine hK _ ?_;clear hK K
 refine mqR ?_
 clear zeE
 refine zi rfl rfl (by rfl) (fun K hK=>?_)
 go_simp
 refine (KR hb k.kt k.km k.ws ao tn tc t a10 a c10 bk2 _ (HX.znr.later (HBW.znr _ _ HS.znr)).hash HT.znr htc (by omega) (HLT.znr.below (HBW.znr _ _ HS.znr)) zaO.znr.2 (by omega) tH.znr).mono ?_
 rintro e w12 ⟨rfl,hbel⟩
 rw [zlF.znr.1]
 have tH:=znq (tH.znr.below hbel)
 have HS:=znq (HS.znr.later hbel)
 go_simp
 refine hK _ _ hbel ?_
 clear hK K hbel
 refine zi rfl rfl (by rfl) (fun K hK=>?_)
 go_simp
 refine (WB mid sm2 _).mono ?_
 rintro e w13 ⟨rfl,hbel⟩
 rw [zlG.znr.1]
 have tH:=znq (tH.znr.below hbel)
 have HS:=znq (HS.znr.later hbel)
 go_simp
 refine hK _ _ hbel ?_
 clear hK K hbel
 refine zi rfl rfl (by rfl) (fun K hK=>?_)
 go_simp
 refine (KB a10 a c10 bk2 rt2 _ zaO.znr.2 zeF (by omega) tH.znr).mono ?_
 rintro e w14 ⟨v14,rfl,hown,hbel⟩
 rw [han] at hown
 have HO:=znq (yi hown HS.znr.size)
 have HS:=znq (HS.znr.later hbel)
 go_simp
 refine hK _ _ hbel ?_
 clear hK K hbel hown
 refine mqR ?_
 refine zo ?_
 go_wp2
 go_ret2
 exact ⟨_,rfl,HO.znr,HS.znr.bel⟩
theorem zlh (cp:Nat) (k:kV) (ao:Option Addr) (tn tc:Nat) (t:List UInt8) (bo:Option Addr) (n cb:Nat) (m:List UInt8) (w:World) (hk:Vm w cp k) (ht:t.length=tn) (ht1:tn≤10000) (htc:tn≤tc) (hlt:zr w ao (t.map B))
  (hn:m.length=n) (h1:16≤n) (h31:n≤20000) (hcb:n≤cb) (hl:zr w bo (m.map B)) :
  Calls Tryz.prog 296 #[.pointer (some ⟨cp,0,none⟩),.slice ao tn tc,.slice bo n cb] w fun e w'=>∃ v,e=.returned (.tuple #[v,.int .i64 0])∧w'.ownsRow w.heap.size 5 1 v n ((XL k t m).map B)∧Below w.heap.size w w':=by
 obtain ⟨kp,q,p,kb,nI,kn,pK,hb,e1,e2,e3⟩:=hk.ex
 have HX:=znq (show ACx w cp kp q p kb nI kn pK hb k from ⟨e1,e2,e3⟩)
 have zcV:=znq hk.zeB
 have HT:=znq ht
 have HLT:=znq hlt
 have HN:=znq hn
 have HL:=znq hl
 obtain ⟨a,ha⟩:∃ a,a=n - 16:=⟨_,rfl⟩
 obtain ⟨bulk,tF⟩:∃ x,x=m.take a:=⟨_,rfl⟩
 obtain ⟨rt,hrt⟩:∃ x,x=xo (m.drop a):=⟨_,rfl⟩
 have HBL:=znq (show bulk.length=a from by rw [tF,Ku,hn];omega)
 obtain ⟨sm,hsm⟩:∃ x,x=nY (vY k.kt t a) (vZ k.km k.ws bulk):=⟨_,rfl⟩
 have HSM:=znq (show nY (vY k.kt t a) (vZ k.km k.ws bulk)=sm∧True from ⟨hsm.symm,trivial⟩)
 obtain ⟨pl,hpl⟩:∃ x,x=nY rt sm:=⟨_,rfl⟩
 have HPL:=znq (show nY rt sm=pl∧True from ⟨hpl.symm,trivial⟩)
 obtain ⟨bk2,hbk2⟩:∃ x,x=jT k.key (z7 pl++[1]++zf 7) 12 bulk:=⟨_,rfl⟩
 have zaO:=znq (show jT k.key (z7 pl++[1]++zf 7) 12 bulk=bk2∧bk2.length=a from ⟨hbk2.symm,by rw [hbk2,vy];exact HBL.znr⟩)
 obtain ⟨sm2,zeC⟩:∃ x,x=nY (vY k.kt t a) (vZ k.km k.ws bk2):=⟨_,rfl⟩
 have zlF:=znq (show nY (vY k.kt t a) (vZ k.km k.ws bk2)=sm2∧True from ⟨zeC.symm,trivial⟩)
 obtain ⟨mid,hmid⟩:∃ x,x=xo (dec k.ks (z7 pl)):=⟨_,rfl⟩
 have zeV:=znq (show xo (dec k.ks (z7 pl))=mid∧True from ⟨hmid.symm,trivial⟩)
 obtain ⟨rt2,zeD⟩:∃ x,x=qp mid sm2:=⟨_,rfl⟩
 have zlG:=znq (show qp mid sm2=rt2∧True from ⟨zeD.symm,trivial⟩)
 have tL:=znq (show XL k t m=bk2++z7 rt2∧(xo (m.drop (n - 16))=rt∧m.take (n - 16)=bulk) from ⟨by
  unfold XL jG jj Xe
  rw [hn,← ha,← tF,← hrt,HBL.znr,← hsm,← hpl,← hbk2,zaO.znr.2,← zeC,← hmid,← zeD],by rw [← ha];exact ⟨hrt.symm,tF.symm⟩⟩)
 have han:a+16=n:=by omega
 have HAA:=znq (show n - 16=a∧True from ⟨ha.symm,trivial⟩)
 have HS:=znq (St.start w)
 rw [tL.znr.1]
 clear hk e1 e2 e3 ht hlt hn hl ha tF hrt hsm hpl hmid hbk2 zeC zeD
 go_enter Tryz.func296,Tryz.ntmps296
 generalize hbb:w.heap.size=bb at *
 have HBB:=znq hbb
 clear hbb
 go_wp2_with fail
 refine (Vj cp bo n cb _ h1).mono ?_
 rintro e w1 ⟨rfl,rfl⟩
 go_wp2_with fail
 refine (Vk bo n cb m _ HN.znr hcb h1 (by omega) HL.znr).mono ?_
 rintro e w2 ⟨v2,rfl,hown,hbel⟩
 rw [tL.znr.2.1]
 rw [tL.znr.2.2,HAA.znr.1] at hown
 obtain ⟨a2,c2,rfl,zlH,_,_⟩:=zw hown
 have HO2:=znq hown
 have HS:=znq (HS.znr.later hbel)
 have hz2:=HS.znr.size
 have HBW:=znq (show ∀ wz L,St w bb wz L→Below w.heap.size w wz from fun wz L h=>by rw [HBB.znr];exact h.bel)
 clear hown hbel
 go_wp2_with (refine ze 62 [L 0,L 0] _ rfl rfl zT rfl ?_)
 intro w3 hb' hbel
 have HO2:=znq (zm HO2.znr hbel)
 have HS:=znq (HS.znr.push hb' hbel)
 clear hb' hbel
 generalize hb2:w2.heap.size=b2 at *
 clear hb2
 go_wp2_with (refine (HS.znr.get 0 rfl).mM rfl rfl rfl (cs:=zQ rt) rfl zq rfl rfl (zX _) ?_)
 intro w4 hb' ho
 have HO2:=znq (zu HO2.znr (HS.znr.get 0 rfl) (by decide) ho)
 have HS:=znq (show St w bb w4 [(b2,zQ rt,62)] from HS.znr.change 0 hb' ho hz2 (by simp))
 clear hb' ho
 have zeE:=fun (x:zG w4.drew)=>((HX.znr.later (HBW.znr _ _ (HS.znr.drew.later x.later))).blk).cell 33 _ (za2 zcV.znr _ _)
 have hb2':b2 < w4.heap.size:=HS.znr.ne _ (xU (i:=0) rfl)
 go_wp2_with fail
 refine yn [0,1,2,3,4,5,6] [7,8] [10] [zH.var 9 11 62 [L 0,L 0]] (by kernel_rfl) (by kernel_rfl) ?_
 rintro w5 rfl
 refine zL (HS.znr.get 0 rfl).range (HS.znr.get 0 rfl).lt zq rfl rfl rfl rfl (fun K hK=>?_)
 go_simp;refine hK _ ?_;clear hK K
 refine mq0 ?_
 clear zeE
 have HO2:=znq (zm HO2.znr (Below.refl _ _).drew)
 have HS:=znq HS.znr.drew
 refine yK ⟨?_,?_,xc _⟩
 ·intro f hf
  simp only [df] at hf
  subst hf
  exact zhq _ _ _ _ _ _ rfl rfl rfl rfl (by simp) zT rfl
 refine zC rfl rfl (fun uz wa hla K hK=>?_)
 go_simp
 have HO2:=znq (zm HO2.znr hla)
 have HS:=znq (HS.znr.later hla)
 refine (KR hb k.kt k.km k.ws ao tn tc t a2 a c2 bulk _ (HX.znr.later (HBW.znr _ _ HS.znr)).hash HT.znr htc (by omega) (HLT.znr.below (HBW.znr _ _ HS.znr)) HBL.znr (by omega) (zr.nQ HO2.znr)).mono ?_
 rintro e w6 ⟨rfl,hbel⟩
 rw [HSM.znr.1]
 have HO2:=znq (zm HO2.znr hbel)
 have HS:=znq (HS.znr.later hbel)
 go_simp
 refine hK _ _ hbel ?_
 clear hK K hbel hla
 refine zC rfl rfl (fun uz wa hla K hK=>?_)
 go_simp
 have HO2:=znq (zm HO2.znr hla)
 have HS:=znq (HS.znr.later hla)
 refine (J6 rt sm _).mono ?_
 rintro e w7 ⟨rfl,hbel⟩
 rw [HPL.znr.1]
 have HO2:=znq (zm HO2.znr hbel)
 have HS:=znq (HS.znr.later hbel)
 go_simp
 refine hK _ _ hbel ?_
 clear hK K hbel hla
 refine yZ (fun b5 wb hlb hb5 hbn=>?_)
 go_simp
 have HO2:=znq (zm HO2.znr hlb)
 have HS:=znq ((HS.znr.later hlb).add (show Blk wb b5 [L 0,L 0] 62 from hbn))
 clear hlb hbn
 generalize w4.heap.size=b4 at *
 have zlI:bb≤b5:=by omega
 refine zp rfl rfl (by rfl) (fun K hK=>?_)
 refine (HS.znr.get 0 rfl).mZ rfl rfl rfl zq rfl rfl (zX _) (fun w9 hb' ho=>hK _ _ ?_)
 clear hK K
 have HO2:=znq (zu HO2.znr (HS.znr.get 0 rfl) (by decide) ho)
 have HS:=znq (show St w bb w9 [(b5,zQ pl,62),(b2,zQ rt,62)] from HS.znr.change 0 hb' ho zlI (by simp;omega))
 clear hb' ho
 go_simp
 refine zo ?_
 go_wp2_with (refine (HS.znr.get 0 rfl).mP rfl rfl rfl zq rfl ?_)
 refine (KC cp k.key _ pl a2 a c2 bulk _ (HX.znr.later (HBW.znr _ _ HS.znr)).blk zcV.znr HBL.znr zlH (by omega) (zr.nQ HO2.znr)).mono ?_
 rintro e w10 ⟨v10,rfl,hown,hbel⟩
 rw [zaO.znr.1] at hown
 obtain ⟨a10,c10,rfl,zeF,_,zhF⟩:=zw hown
 have tH:=znq zhF
 have HS:=znq (HS.znr.later hbel)
 clear hown zhF hbel HO2
 have hx32:=fun (x:zG w10.drew)=>((HX.znr.later (HBW.znr _ _ (HS.znr.drew.later x.later))).blk).cell 32 _ (zlf zcV.znr _ _)
 have zeE:=fun (x:zG w10.drew)=>((HX.znr.later (HBW.znr _ _ (HS.znr.drew.later x.later))).blk).cell 33 _ (za2 zcV.znr _ _)
 go_wp2_with fail
 refine zn [0,1,2,3,4,5,6,8,9,10,11,12,13,7,14,15,16,17,18] (by kernel_rfl) (by kernel_rfl) ?_
 rintro w11 rfl
 have HS:=znq HS.znr.drew
 have tH:=znq (tH.znr.below (Below.refl _ _).drew)
 refine mqR ?_
 refine zt (HS.znr.get 0 rfl).range (HS.znr.get 0 rfl).lt zq rfl rfl rfl rfl rfl (fun K hK=>?_)
 go_simp;refine hK _ ?_;clear hK K
 refine mqR ?_
 clear hx32 zeE
 refine zi rfl rfl (by rfl) (fun K hK=>?_)
 go_simp
 refine (zig kp q p k.ks kb nI kn pK pl _ (HX.znr.later (HBW.znr _ _ HS.znr)).key).mono ?_
 rintro e w8 ⟨rfl,hbel⟩
 rw [zeV.znr.1]
 have tH:=znq (tH.znr.below hbel)
 have HS:=znq (HS.znr.later hbel)
 go_simp
 refine hK _ _ hbel ?_
 clear hK K hbel
 refine zi rfl rfl (by rfl) (fun K hK=>?_)
 go_simp
 refine (KR hb k.kt k.km k.ws ao tn tc t a10 a c10 bk2 _ (HX.znr.later (HBW.znr _ _ HS.znr)).hash HT.znr htc (by omega) (HLT.znr.below (HBW.znr _ _ HS.znr)) zaO.znr.2 (by omega) tH.znr).mono ?_
 rintro e w12 ⟨rfl,hbel⟩
 rw [zlF.znr.1]
 have tH:=znq (tH.znr.below hbel)
 have HS:=znq (HS.znr.later hbel)
 go_simp
 refine hK _ _ hbel ?_
 clear hK K hbel
 refine zi rfl rfl (by rfl) (fun K hK=>?_)
 go_simp
 refine (WB mid sm2 _).mono ?_
 rintro e w13 ⟨rfl,hbel⟩
 rw [zlG.znr.1]
 have tH:=znq (tH.znr.below hbel)
 have HS:=znq (HS.znr.later hbel)
 go_simp
 refine hK _ _ hbel ?_
 clear hK K hbel
 refine zi rfl rfl (by rfl) (fun K hK=>?_)
 go_simp
 refine (KB a10 a c10 bk2 rt2 _ zaO.znr.2 zeF (by omega) tH.znr).mono ?_
 rintro e w14 ⟨v14,rfl,hown,hbel⟩
 rw [han] at hown
 have HO:=znq (yi hown HS.znr.size)
 have HS:=znq (HS.znr.later hbel)
 go_simp
 refine hK _ _ hbel ?_
 clear hK K hbel hown
 refine mqR ?_
 refine zo ?_
 go_wp2
 go_ret2
 exact ⟨_,rfl,HO.znr,HS.znr.bel⟩
end Go.Proofs.YtamdifhibogdiaaGreatDoor
namespace Go.Proofs.YtamdifhibogdiaaGreatDoor
open RowKit Mem Ops Cells Oct Trn Aes Hct Ezt Ezh Fl
attribute [local irreducible] zE zN zO zM yu
theorem zgj (F xb cp:Nat) (k:ziq) (f:List UInt8→List UInt8) (ao:Option Addr) (tn tc:Nat) (t:List UInt8) (bo:Option Addr) (n cb:Nat) (m:List UInt8) (w:World) (hk:Z5 w cp k)
  (hcf:∀ args w,(callFunc F args).run Tryz.prog w=.ok (.enter F args) w) (hf:∀ w' b,Below w.heap.size w w'→b.length=16→Calls Tryz.prog F #[.agg (b.map B).toArray,.pointer (some ⟨xb,0,none⟩)] w' fun e w''=>e=.returned (.agg ((f b).map B).toArray)∧Below w'.heap.size w' w'') (hfl:∀ b,(f b).length=16)
  (ht:t.length=tn) (ht1:tn≤10000) (htc:tn≤tc) (hlt:zr w ao (t.map B)) (hn:m.length=n) (h1:16≤n) (h31:n≤20000) (hcb:n≤cb) (hl:zr w bo (m.map B)) :
  Calls Tryz.prog 335 #[.pointer (some ⟨cp,0,none⟩),.slice ao tn tc,.slice bo n cb,.func (.func F) #[] #[.pointer (some ⟨xb,0,none⟩)]] w fun e w'=>∃ v,e=.returned (.tuple #[v,.int .i64 0])∧w'.ownsRow w.heap.size 5 1 v n ((zoj k t m (f (Zc k t m))).map B)∧Below w.heap.size w w':=by
 obtain ⟨kp,q,p,kb,nI,kn,pK,hx⟩:=hk.ex
 have HX:=znq hx
 have zdD:=znq (show k.h.length=16∧k.l.length=16 from ⟨hk.h16,hk.l16⟩)
 have HHV:=znq (show (k.h.map B).length=16 by rw [yf];exact hk.h16)
 have HLV:=znq (show (k.l.map B).length=16 by rw [yf];exact hk.l16)
 have HF:=znq hf
 have HCF:=znq hcf
 have HT:=znq ht
 have HLT:=znq hlt
 have HN:=znq hn
 have HL:=znq hl
 obtain ⟨a,ha⟩:∃ a,a=n - 16:=⟨_,rfl⟩
 have ea:(n:Int) - 16=(a:Int):=by omega
 have zlD:floatOfInt .f64 (a:Int)=fl a:=rfl
 have zgY:decide ((n:Int) < 16)=false:=by simp;omega
 have han:a≤20000:=by omega
 have HAN:=znq (show a+16=n from by omega)
 obtain ⟨lf,hlf⟩:∃ x,x=m.take 16:=⟨_,rfl⟩
 obtain ⟨bk,hbk⟩:∃ x,x=m.drop 16:=⟨_,rfl⟩
 have HLF:=znq (show lf.length=16∧True from ⟨by rw [hlf,Ku];omega,trivial⟩)
 have HBK:=znq (show bk.length=a∧True from ⟨by rw [hbk,XQ,hn];omega,trivial⟩)
 have HC1:=znq (show wC 0 4625196817309499392 n=some (0,16) from by have:=jR 0 16 n (by omega) (by omega);rw [Qc,zk8] at this;exact this)
 have HC2:=znq (show wC 4625196817309499392 (fl a) n=some (16,a) from by have:=jR 16 a n (by omega) (by omega);rw [zk8] at this;exact this)
 have HTD:=znq (show (m.drop 0).take 16=lf∧(m.drop 16).take a=bk from ⟨hlf.symm,by rw [hbk,List.take_of_length_le (by rw [XQ,hn];omega)]⟩)
 obtain ⟨lb,hlb⟩:∃ x,x=block lf:=⟨_,rfl⟩
 have HLB:=znq (show block lf=lb∧lb.length=16 from ⟨hlb.symm,by rw [hlb];exact zA _⟩)
 obtain ⟨hv,hhv⟩:∃ x,x=Go.Hct.nN k.h t bk:=⟨_,rfl⟩
 have HHA:=znq (show Go.Hct.nN k.h t bk=hv∧hv.length=16 from ⟨hhv.symm,by rw [hhv];exact Go.Hct.nK _ _ _⟩)
 obtain ⟨one,hone⟩:∃ x,x=plusB [lb,hv]:=⟨_,rfl⟩
 have zbM:=znq (show plusB [lb,hv]=one∧one.length=16 from ⟨hone.symm,by rw [hone];exact Go.Hct.mO _ _⟩)
 have zlJ:=znq (show (one.map B).length=16 by rw [yf];exact zbM.znr.2)
 obtain ⟨two,ziY⟩:∃ x,x=f one:=⟨_,rfl⟩
 have zeW:=znq (show f one=two∧two.length=16 from ⟨ziY.symm,by rw [ziY];exact hfl _⟩)
 have zlK:=znq (show (two.map B).length=16 by rw [yf];exact zeW.znr.2)
 obtain ⟨mid,hmid⟩:∃ x,x=plusB [one,two,k.l]:=⟨_,rfl⟩
 have zeV:=znq (show plusB [one,two,k.l]=mid∧mid.length=16 from ⟨hmid.symm,by rw [hmid];exact zB _ _⟩)
 obtain ⟨bk2,hbk2⟩:∃ x,x=xS k.ks mid bk:=⟨_,rfl⟩
 have zaO:=znq (show xS k.ks mid bk=bk2∧bk2.length=a from ⟨hbk2.symm,by rw [hbk2,jH];exact HBK.znr.1⟩)
 obtain ⟨hv2,ziZ⟩:∃ x,x=Go.Hct.nN k.h t bk2:=⟨_,rfl⟩
 have zlL:=znq (show Go.Hct.nN k.h t bk2=hv2∧hv2.length=16 from ⟨ziZ.symm,by rw [ziZ];exact Go.Hct.nK _ _ _⟩)
 obtain ⟨fs,hfs⟩:∃ x,x=plusB [two,hv2]:=⟨_,rfl⟩
 have HFS:=znq (show plusB [two,hv2]=fs∧fs.length=16 from ⟨hfs.symm,by rw [hfs];exact Go.Hct.mO _ _⟩)
 have HFV:=znq (show (fs.map B).length=16 by rw [yf];exact HFS.znr.2)
 have tL:=znq (show zoj k t m (f (Zc k t m))=fs++bk2∧True from ⟨by
  have e:Zc k t m=one:=by unfold Zc;rw [← hlf,← hbk,← hlb,← hhv,← hone]
  rw [e,← ziY]
  unfold zoj
  rw [e,← hmid,← hbk,← hbk2,← ziZ,← hfs],trivial⟩)
 rw [tL.znr.1]
 have HS:=znq (St.start w)
 clear hk hx hcf hf ht hlt hn hl ha hlf hbk hlb hhv hone ziY hmid hbk2 ziZ hfs tL
 go_enter Tryz.func335,Tryz.ntmps335
 generalize hbb:w.heap.size=bb at *
 have HBB:=znq hbb
 have HBW:=znq (show ∀ wz L,St w bb wz L→Below w.heap.size w wz from fun wz L h=>by rw [hbb];exact h.bel)
 clear hbb
 go_wp2_with fail
 refine (zb9 bo n cb m 0 4625196817309499392 0 16 _ HN.znr hcb (by omega) (HL.znr.below (HBW.znr _ _ HS.znr)) HC1.znr).mono ?_
 rintro e w1 ⟨v1,rfl,hown,hbel⟩
 rw [HTD.znr.1] at hown
 have HO1:=znq hown
 obtain ⟨a1,c1,rfl,hc1,_,_⟩:=zw hown
 have HS:=znq (HS.znr.later hbel)
 have hz1:=HS.znr.size
 clear hown hbel
 go_wp2_with fail
 refine (zb9 bo n cb m 4625196817309499392 (fl a) 16 a _ HN.znr hcb (by omega) (HL.znr.below (HBW.znr _ _ HS.znr)) HC2.znr).mono ?_
 rintro e w2 ⟨v2,rfl,hown,hbel⟩
 rw [HTD.znr.2] at hown
 have HO1:=znq (zm HO1.znr hbel)
 have HO2:=znq (yi hown hz1)
 obtain ⟨a2,c2,rfl,hc2,_,_⟩:=zw hown
 have HS:=znq (HS.znr.later hbel)
 clear hown hbel zlD ea
 have hz2:=HS.znr.size
 go_wp2_with fail
 refine yn [0,2,3,4,5,6,7] [1,8,9,10] [12] [zH.var 11 14 59 ((zf 16).map B)] (by kernel_rfl) (by kernel_rfl) ?_
 rintro w3 rfl
 have HS:=znq HS.znr.drew
 have HO1:=znq (zm HO1.znr (Below.refl _ _).drew)
 have HO2:=znq (zm HO2.znr (Below.refl _ _).drew)
 have HX3:=znq (HX.znr.later (HBW.znr _ _ HS.znr))
 refine mq0 ?_
 refine zL (Blk.nA HX3.znr.blk 1 16 _ (zhC zdD.znr.1)) HX3.znr.blk.lt zc HHV.znr rfl rfl rfl (fun K hK=>?_)
 go_simp;refine hK _ ?_;clear hK K
 refine mq0 ?_
 refine yK ⟨?_,?_,xc _⟩
 ·intro f hf
  simp only [df] at hf
  subst hf
  exact zhq _ _ _ _ _ _ rfl rfl rfl rfl (by simp) zj rfl
 refine zC rfl rfl (fun uz wa hla K hK=>?_)
 go_simp
 have HO1:=znq (zm HO1.znr hla)
 have HO2:=znq (zm HO2.znr hla)
 have HS:=znq (HS.znr.later hla)
 refine (yQ a1 16 c1 lf _ HLF.znr.1 (zr.nQ HO1.znr)).mono ?_
 rintro e w4 ⟨rfl,hbel⟩
 rw [HLB.znr.1]
 have HO2:=znq (zm HO2.znr hbel)
 have HS:=znq (HS.znr.later hbel)
 clear HO1
 go_simp
 refine hK _ _ hbel ?_
 clear hK K hbel hla
 refine zC rfl rfl (fun uz wa hla K hK=>?_)
 go_simp
 have HO2:=znq (zm HO2.znr hla)
 have HS:=znq (HS.znr.later hla)
 refine (zdq k.h ao tn tc t a2 a c2 bk _ zdD.znr.1 HT.znr htc (by omega) (HLT.znr.below (HBW.znr _ _ HS.znr)) HBK.znr.1 hc2 (by omega) (zr.nQ HO2.znr)).mono ?_
 rintro e w5 ⟨rfl,hbel⟩
 rw [HHA.znr.1]
 have HO2:=znq (zm HO2.znr hbel)
 have HS:=znq (HS.znr.later hbel)
 go_simp
 refine hK _ _ hbel ?_
 clear hK K hbel hla
 refine zC rfl rfl (fun uz wa6 hla K hK=>?_)
 refine y8 299 59 16 2 _ [lb.map B,hv.map B] rfl rfl Tryz.underlying299 zF rfl (by omega) rfl (by omega) (by omega) (by simp [HLB.znr.2,HHA.znr.2]) ?_
 intro w6 hb hbel
 have HO2:=znq (zm HO2.znr (hla.trans hbel))
 have HS:=znq (HS.znr.later (hla.trans hbel))
 refine hK _ _ hbel ?_
 have HR:=znq (show yB 16 w6 (some ⟨wa6.heap.size,0,none⟩) [lb,hv] from ⟨by simp [HLB.znr.2,HHA.znr.2],by have:=hb.lies;simpa using this⟩)
 clear hK K hbel hla hb
 go_simp
 refine zC rfl rfl (fun uz wa7 hla K hK=>?_)
 go_simp
 refine (QZ (some ⟨wa6.heap.size,0,none⟩) 2 2 [lb,hv] _ rfl (by omega) (HR.znr.below hla)).mono ?_
 rintro e w7 ⟨rfl,hbel⟩
 have HO2:=znq (zm HO2.znr (hla.trans hbel))
 have HS:=znq (HS.znr.later (hla.trans hbel))
 rw [zbM.znr.1]
 go_simp
 refine hK _ _ hbel ?_
 clear hK K hbel hla HR
 refine yZ (fun b1 wb8 hlb hbx8 hbn=>?_)
 go_simp
 have HO2:=znq (zm HO2.znr hlb)
 have HS:=znq ((HS.znr.later hlb).add (show Blk wb8 b1 ((zf 16).map B) 59 from hbn))
 clear hlb hbn
 have h1b:bb≤b1:=by omega
 refine zp rfl rfl (by rfl) (fun K hK=>?_)
 refine (HS.znr.get 0 rfl).mZ rfl rfl rfl zc (by simp [zd]) zlJ.znr (zg _) (fun w8 hb ho=>hK _ _ ?_)
 clear hK K
 have HO2:=znq (zu HO2.znr (HS.znr.get 0 rfl) (by decide) ho)
 have HS:=znq (show St w bb w8 [(b1,one.map B,59)] from HS.znr.change 0 hb ho h1b (by simp))
 clear hb ho
 go_simp
 refine zo ?_
 have hb1:=HS.znr.ne _ (xU (i:=0) rfl)
 go_wp2_with (refine (HS.znr.get 0 rfl).mP rfl rfl rfl zc zlJ.znr ?_)
 rw [HCF.znr]
 simp only [Oper.upon_enter]
 refine (HF.znr _ one HS.znr.bel zbM.znr.2).mono ?_
 rintro e w9 ⟨rfl,hbel⟩
 rw [zeW.znr.1]
 have HO2:=znq (zm HO2.znr hbel)
 have HS:=znq (HS.znr.later hbel)
 have hb1':=HS.znr.ne _ (xU (i:=0) rfl)
 clear hbel
 go_wp2_with (refine ze 59 ((zf 16).map B) _ rfl rfl zj rfl ?_)
 intro w10 hb hbel
 have HO2:=znq (zm HO2.znr hbel)
 have HS:=znq (HS.znr.push hb hbel)
 clear hb hbel
 generalize hb9:w9.heap.size=b2 at *
 clear hb9
 go_wp2_with (refine (HS.znr.get 0 rfl).mM rfl rfl rfl (cs:=two.map B) rfl zc (by simp [zd]) zlK.znr (zg _) ?_)
 intro w11 hb ho
 have HO2:=znq (zu HO2.znr (HS.znr.get 0 rfl) (by decide) ho)
 have HS:=znq (show St w bb w11 [(b2,two.map B,59),(b1,one.map B,59)] from HS.znr.change 0 hb ho (by omega) (by simp;omega))
 clear hb ho
 have HX3:=znq (HX.znr.later (HBW.znr _ _ HS.znr))
 have hc0:=fun (x:zG w11.drew)=>((HX.znr.later (HBW.znr _ _ (HS.znr.drew.later x.later))).blk).cell 0 _ rfl
 go_wp2_with fail
 refine zn [0,1,2,3,4,5,6,7,8,9,12,10,11,13,14,15,16,17] (by kernel_rfl) (by kernel_rfl) ?_
 rintro w12 rfl
 refine mqR ?_
 clear hc0
 have HO2:=znq (zm HO2.znr (Below.refl _ _).drew)
 have HS:=znq HS.znr.drew
 have HX3:=znq (HX.znr.later (HBW.znr _ _ HS.znr))
 refine zt (HS.znr.get 1 rfl).range (HS.znr.get 1 rfl).lt zc zlJ.znr rfl rfl rfl rfl (fun K hK=>?_)
 go_simp;refine hK _ ?_;clear hK K
 refine zt (HS.znr.get 0 rfl).range (HS.znr.get 0 rfl).lt zc zlK.znr rfl rfl rfl rfl (fun K hK=>?_)
 go_simp;refine hK _ ?_;clear hK K
 refine mqR ?_
 refine zt (Blk.nA HX3.znr.blk 17 16 _ (zlC zdD.znr.1 zdD.znr.2)) HX3.znr.blk.lt zc HLV.znr rfl rfl rfl rfl (fun K hK=>?_)
 go_simp;refine hK _ ?_;clear hK K
 refine mqR ?_
 refine zi rfl rfl (by rfl) (fun K hK=>?_)
 refine y8 299 59 16 3 _ [one.map B,two.map B,k.l.map B] rfl rfl Tryz.underlying299 zF rfl (by omega) rfl (by omega) (by omega) (by simp [zbM.znr.2,zeW.znr.2,zdD.znr.2]) ?_
 intro w13 hb hbel
 have HO2:=znq (zm HO2.znr hbel)
 have HS:=znq (HS.znr.later hbel)
 have HR:=znq (show yB 16 w13 (some ⟨w11.drew.heap.size,0,none⟩) [one,two,k.l] from ⟨by simp [zbM.znr.2,zeW.znr.2,zdD.znr.2],by have:=hb.lies;simpa using this⟩)
 refine hK _ _ hbel ?_
 clear hK K hbel hb
 go_simp
 refine zi rfl rfl (by rfl) (fun K hK=>?_)
 go_simp
 refine (QZ (some ⟨w11.drew.heap.size,0,none⟩) 3 3 [one,two,k.l] _ rfl (by omega) HR.znr).mono ?_
 rintro e w14 ⟨rfl,hbel⟩
 have HO2:=znq (zm HO2.znr hbel)
 have HS:=znq (HS.znr.later hbel)
 rw [zeV.znr.1]
 go_simp
 refine hK _ _ hbel ?_
 clear hK K hbel HR
 refine zi rfl rfl (by rfl) (fun K hK=>?_)
 go_simp
 refine (zic kp q p k.ks kb nI kn pK mid a2 a c2 bk _ (HX.znr.later (HBW.znr _ _ HS.znr)).key zeV.znr.2 HBK.znr.1 hc2 (by omega) (zr.nQ HO2.znr)).mono ?_
 rintro e w15 ⟨v15,rfl,hown,hbel⟩
 rw [zaO.znr.1] at hown
 have Kq:=HS.znr.size
 have HO2:=znq (yi hown Kq)
 obtain ⟨a3,c3,rfl,hc3,_,_⟩:=zw hown
 have HS:=znq (HS.znr.later hbel)
 go_simp
 refine hK _ _ hbel ?_
 clear hK K hbel hown Kq
 refine mqR ?_
 refine zo ?_
 have hz15:=HS.znr.size
 have HNE:=znq HS.znr.ne
 have HX3:=znq (HX.znr.later (HBW.znr _ _ HS.znr))
 go_wp2_with fail
 refine yn [0,1,2,3,4,5,6] [7,8,9] [11] [zH.var 10 16 59 ((zf 16).map B)] (by kernel_rfl) (by kernel_rfl) ?_
 rintro w16 rfl
 have HS:=znq HS.znr.drew
 have HO2:=znq (zm HO2.znr (Below.refl _ _).drew)
 have HX3:=znq (HX.znr.later (HBW.znr _ _ HS.znr))
 refine mq0 ?_
 refine zL (HS.znr.get 0 rfl).range (HS.znr.get 0 rfl).lt zc zlK.znr rfl rfl rfl (fun K hK=>?_)
 go_simp;refine hK _ ?_;clear hK K
 refine mq0 ?_
 refine zL (Blk.nA HX3.znr.blk 1 16 _ (zhC zdD.znr.1)) HX3.znr.blk.lt zc HHV.znr rfl rfl rfl (fun K hK=>?_)
 go_simp;refine hK _ ?_;clear hK K
 refine mq0 ?_
 refine yK ⟨?_,?_,xc _⟩
 ·intro f hf
  simp only [df] at hf
  subst hf
  exact zhq _ _ _ _ _ _ rfl rfl rfl rfl (by simp) zj rfl
 refine zC rfl rfl (fun uz wa hla K hK=>?_)
 go_simp
 have HO2:=znq (zm HO2.znr hla)
 have HS:=znq (HS.znr.later hla)
 refine (zdq k.h ao tn tc t a3 a c3 bk2 _ zdD.znr.1 HT.znr htc (by omega) (HLT.znr.below (HBW.znr _ _ HS.znr)) zaO.znr.2 hc3 (by omega) (zr.nQ HO2.znr)).mono ?_
 rintro e w17 ⟨rfl,hbel⟩
 rw [zlL.znr.1]
 have HO2:=znq (zm HO2.znr hbel)
 have HS:=znq (HS.znr.later hbel)
 go_simp
 refine hK _ _ hbel ?_
 clear hK K hbel hla
 refine zC rfl rfl (fun uz wa6 hla K hK=>?_)
 refine y8 299 59 16 2 _ [two.map B,hv2.map B] rfl rfl Tryz.underlying299 zF rfl (by omega) rfl (by omega) (by omega) (by simp [zeW.znr.2,zlL.znr.2]) ?_
 intro w18 hb hbel
 have HO2:=znq (zm HO2.znr (hla.trans hbel))
 have HS:=znq (HS.znr.later (hla.trans hbel))
 refine hK _ _ hbel ?_
 have HR:=znq (show yB 16 w18 (some ⟨wa6.heap.size,0,none⟩) [two,hv2] from ⟨by simp [zeW.znr.2,zlL.znr.2],by have:=hb.lies;simpa using this⟩)
 clear hK K hbel hla hb
 go_simp
 refine zC rfl rfl (fun uz wa7 hla K hK=>?_)
 go_simp
 refine (QZ (some ⟨wa6.heap.size,0,none⟩) 2 2 [two,hv2] _ rfl (by omega) (HR.znr.below hla)).mono ?_
 rintro e w19 ⟨rfl,hbel⟩
 have HO2:=znq (zm HO2.znr (hla.trans hbel))
 have HS:=znq (HS.znr.later (hla.trans hbel))
 rw [HFS.znr.1]
 go_simp
 refine hK _ _ hbel ?_
 clear hK K hbel hla HR
 refine yZ (fun b3 wb8 hlb hbx9 hbn=>?_)
 go_simp
 have HO2:=znq (zm HO2.znr hlb)
 have HS:=znq ((HS.znr.later hlb).add (show Blk wb8 b3 ((zf 16).map B) 59 from hbn))
 clear hlb hbn
 refine zp rfl rfl (by rfl) (fun K hK=>?_)
 refine (HS.znr.get 0 rfl).mZ rfl rfl rfl zc (by simp [zd]) HFV.znr (zg _) (fun w20 hb ho=>hK _ _ ?_)
 clear hK K
 have HO2:=znq (zu HO2.znr (HS.znr.get 0 rfl) (by decide) ho)
 have HS:=znq (show St w bb w20 [(b3,fs.map B,59),(b2,two.map B,59),(b1,one.map B,59)] from HS.znr.change 0 hb ho (by omega) (fun e he=>by have:=HNE.znr e he;omega))
 clear hb ho HNE
 go_simp
 refine zo ?_
 have HL2:=znq (zr.nQ HO2.znr)
 have HSS:=znq (show xY (w20.alloc (.cells #[.slice (some ⟨b3,0,none⟩) 16 16,.slice a3 a c3] 22)) (some ⟨w20.heap.size,0,none⟩) [⟨some ⟨b3,0,none⟩,16,fs⟩,⟨a3,c3,bk2⟩] from by
  refine ⟨?_,?_⟩
  ·have:=(Blk.new w20 [.slice (some ⟨b3,0,none⟩) 16 16,.slice a3 a c3] 22).lies
   simpa [Str.val,HFS.znr.2,zaO.znr.2] using this
  ·intro s hs
   simp at hs
   rcases hs with rfl | rfl
   ·exact ⟨by rw [HFS.znr.2];exact xc _,(HS.znr.get 0 rfl).lies.below (zD _ _)⟩
   ·exact ⟨by rw [zaO.znr.2];exact hc3,HL2.znr.below (zD _ _)⟩)
 have hz20:=HS.znr.size
 have HS:=znq (HS.znr.later (zD w20 (.cells #[.slice (some ⟨b3,0,none⟩) 16 16,.slice a3 a c3] 22)))
 have HCA:=znq (show zin [⟨some ⟨b3,0,none⟩,16,fs⟩,⟨a3,c3,bk2⟩]=fs++bk2∧(fs++bk2).length=n from ⟨by simp [zin],by rw [List.length_append,HFS.znr.2,zaO.znr.2];have:=HAN.znr;omega⟩)
 go_wp2_with fail
 have JQ:=HS.znr.size
 generalize hw21:w20.alloc (.cells #[.slice (some ⟨b3,0,none⟩) 16 16,.slice a3 a c3] 22)=w21 at *
 clear hw21
 refine (YU (some ⟨w20.heap.size,0,none⟩) 2 2 [⟨some ⟨b3,0,none⟩,16,fs⟩,⟨a3,c3,bk2⟩] _ rfl (by omega) HSS.znr (by rw [HCA.znr.1,HCA.znr.2];omega)).mono ?_
 rintro e w22 ⟨v22,rfl,hown,hbel⟩
 rw [HCA.znr.1,HCA.znr.2] at hown
 have HOWN:=znq (yi hown JQ)
 have HS:=znq (HS.znr.later hbel)
 clear hown hbel
 go_wp2
 go_ret2
 exact ⟨_,rfl,HOWN.znr,HS.znr.bel⟩
end Go.Proofs.YtamdifhibogdiaaGreatDoor
namespace Go
theorem WH {P:Program} {f:FuncId} {fn:Func} (hf:P.funcs[f]? = some fn) (hname:(fn.name=="runtime.NumGoroutine")=false) (hb:fn.body.isSome=true) (args:Array Value) (w:World) :
  (callFunc f args).run P w=.ok (.enter f args) w:=by
 have h1:¬ fn.name="runtime.NumGoroutine":=by simpa using hname
 obtain ⟨c,hc⟩:=Option.isSome_iff_exists.1 hb
 simp [callFunc,hf,h1,hc]
end Go
namespace Go.Proofs.YtamdifhibogdiaaGreatDoor
open RowKit Mem Ops Cells Oct Trn Aes Hct Ezt Ezh Fl
attribute [local irreducible] zE zN zO zM yu
theorem VT (args:Array Value) (w:World):(callFunc 337 args).run Tryz.prog w=.ok (.enter 337 args) w:=WH Tryz.func337 (by kernel_rfl) (by kernel_rfl) args w
theorem VU (args:Array Value) (w:World):(callFunc 336 args).run Tryz.prog w=.ok (.enter 336 args) w:=WH Tryz.func336 (by kernel_rfl) (by kernel_rfl) args w
theorem zli (cp:Nat) (k:ziq) (ao:Option Addr) (tn tc:Nat) (t:List UInt8) (bo:Option Addr) (n cb:Nat) (m:List UInt8) (w:World) (hk:Z5 w cp k) (ht:t.length=tn) (ht1:tn≤10000) (htc:tn≤tc) (hlt:zr w ao (t.map B))
  (hn:m.length=n) (h1:16≤n) (h31:n≤20000) (hcb:n≤cb) (hl:zr w bo (m.map B)) :
  Calls Tryz.prog 333 #[.pointer (some ⟨cp,0,none⟩),.slice ao tn tc,.slice bo n cb] w fun e w'=>∃ v,e=.returned (.tuple #[v,.int .i64 0])∧w'.ownsRow w.heap.size 5 1 v n ((Qk k t m).map B)∧Below w.heap.size w w':=by
 have HK:=znq hk
 have HT:=znq ht
 have HLT:=znq hlt
 have HN:=znq hn
 have HL:=znq hl
 obtain ⟨r,hr⟩:∃ x,x=Qk k t m:=⟨_,rfl⟩
 have HR:=znq (show zoj k t m (enc k.ks (Zc k t m))=r∧True from ⟨by rw [hr];rfl,trivial⟩)
 rw [← hr]
 have HS:=znq (St.start w)
 clear hk ht hlt hn hl hr
 go_enter Tryz.func333,Tryz.ntmps333
 go_wp2_with (refine zh 220 _ [.pointer (some ⟨cp,0,none⟩)] _ rfl rfl rfl rfl ?_)
 intro w1 hb hbel
 have HS:=znq (HS.znr.push hb hbel)
 have hlt1:=hb.lt
 clear hb hbel
 generalize hbb:w.heap.size=bb at *
 have HBB:=znq hbb
 have HBW:=znq (show ∀ wz L,St w bb wz L→Below w.heap.size w wz from fun wz L h=>by rw [hbb];exact h.bel)
 clear hbb
 have hc:=(HS.znr.get 0 rfl).cell 0 _ rfl
 go_wp2_with fail
 have HK1:=znq (HK.znr.later (HBW.znr _ _ HS.znr))
 obtain ⟨kp,q,p,kb,nI,kn,pK,hx⟩:=HK1.znr.ex
 have HX:=znq hx
 clear hx
 refine (zgj 337 bb cp k (enc k.ks) ao tn tc t bo n cb m _ HK1.znr VT
  (fun w' b hb' zaT=>zk6 bb cp kp q p kb nI kn pK k b w' ((hb'.cell (p:=⟨bb,0,none⟩) hlt1).trans hc) (HX.znr.later hb') zaT) (fun b=>xJ _ _) HT.znr ht1 htc (HLT.znr.below (HBW.znr _ _ HS.znr)) HN.znr h1 h31 hcb (HL.znr.below (HBW.znr _ _ HS.znr))).mono ?_
 rintro e w2 ⟨v2,rfl,hown,hbel⟩
 rw [HR.znr.1] at hown
 have HO:=znq (yi hown HS.znr.size)
 have HS:=znq (HS.znr.later hbel)
 clear hown hbel hc
 go_wp2
 go_ret2
 exact ⟨_,rfl,by rw [HBB.znr];exact HO.znr,by rw [HBB.znr];exact HS.znr.bel⟩
theorem zlj (cp:Nat) (k:ziq) (ao:Option Addr) (tn tc:Nat) (t:List UInt8) (bo:Option Addr) (n cb:Nat) (m:List UInt8) (w:World) (hk:Z5 w cp k) (ht:t.length=tn) (ht1:tn≤10000) (htc:tn≤tc) (hlt:zr w ao (t.map B))
  (hn:m.length=n) (h1:16≤n) (h31:n≤20000) (hcb:n≤cb) (hl:zr w bo (m.map B)) :
  Calls Tryz.prog 332 #[.pointer (some ⟨cp,0,none⟩),.slice ao tn tc,.slice bo n cb] w fun e w'=>∃ v,e=.returned (.tuple #[v,.int .i64 0])∧w'.ownsRow w.heap.size 5 1 v n ((Ql k t m).map B)∧Below w.heap.size w w':=by
 have HK:=znq hk
 have HT:=znq ht
 have HLT:=znq hlt
 have HN:=znq hn
 have HL:=znq hl
 obtain ⟨r,hr⟩:∃ x,x=Ql k t m:=⟨_,rfl⟩
 have HR:=znq (show zoj k t m (dec k.ks (Zc k t m))=r∧True from ⟨by rw [hr];rfl,trivial⟩)
 rw [← hr]
 have HS:=znq (St.start w)
 clear hk ht hlt hn hl hr
 go_enter Tryz.func332,Tryz.ntmps332
 go_wp2_with (refine zh 220 _ [.pointer (some ⟨cp,0,none⟩)] _ rfl rfl rfl rfl ?_)
 intro w1 hb hbel
 have HS:=znq (HS.znr.push hb hbel)
 have hlt1:=hb.lt
 clear hb hbel
 generalize hbb:w.heap.size=bb at *
 have HBB:=znq hbb
 have HBW:=znq (show ∀ wz L,St w bb wz L→Below w.heap.size w wz from fun wz L h=>by rw [hbb];exact h.bel)
 clear hbb
 have hc:=(HS.znr.get 0 rfl).cell 0 _ rfl
 go_wp2_with fail
 have HK1:=znq (HK.znr.later (HBW.znr _ _ HS.znr))
 obtain ⟨kp,q,p,kb,nI,kn,pK,hx⟩:=HK1.znr.ex
 have HX:=znq hx
 clear hx
 refine (zgj 336 bb cp k (dec k.ks) ao tn tc t bo n cb m _ HK1.znr VU
  (fun w' b hb' zaT=>zk7 bb cp kp q p kb nI kn pK k b w' ((hb'.cell (p:=⟨bb,0,none⟩) hlt1).trans hc) (HX.znr.later hb') zaT) (fun b=>kG _ _) HT.znr ht1 htc (HLT.znr.below (HBW.znr _ _ HS.znr)) HN.znr h1 h31 hcb (HL.znr.below (HBW.znr _ _ HS.znr))).mono ?_
 rintro e w2 ⟨v2,rfl,hown,hbel⟩
 rw [HR.znr.1] at hown
 have HO:=znq (yi hown HS.znr.size)
 have HS:=znq (HS.znr.later hbel)
 clear hown hbel hc
 go_wp2
 go_ret2
 exact ⟨_,rfl,by rw [HBB.znr];exact HO.znr,by rw [HBB.znr];exact HS.znr.bel⟩
end Go.Proofs.YtamdifhibogdiaaGreatDoor
namespace Go.Wid
theorem Q1 (alg:Int) {n:Nat} (h:ko alg n=0):(alg=1∧n=32)∨(alg=2∧(n=16∨n=24∨n=32))∨(alg=3∧0 < n∧n≤128):=by
 unfold ko at h
 by_cases h1:alg=1
 ·rw [if_pos h1] at h
  by_cases h2:n=32
  ·exact .inl ⟨h1,h2⟩
  ·rw [if_neg h2] at h;omega
 ·rw [if_neg h1] at h
  by_cases h2:alg=2
  ·rw [if_pos h2] at h
   by_cases h3:n=16∨n=24∨n=32
   ·exact .inr (.inl ⟨h2,h3⟩)
   ·rw [if_neg h3] at h;omega
  ·rw [if_neg h2] at h
   by_cases h3:alg=3
   ·rw [if_pos h3] at h
    by_cases h4:0 < n∧n≤128
    ·exact .inr (.inr ⟨h3,h4⟩)
    ·rw [if_neg h4] at h;omega
   ·rw [if_neg h3] at h;omega
theorem zdt {alg:Int} {key:List UInt8} (h:ko alg key.length=0):((jy alg key).alg:Int)=alg:=by
 rcases Q1 alg h with ⟨rfl,_⟩ | ⟨rfl,_⟩ | ⟨rfl,_⟩ <;> rfl
end Go.Wid
namespace Go.Proofs.YtamdifhibogdiaaGreatDoor
open RowKit Mem Ops Cells Oct Gf Trn Aes Ring Ezk Ezh Ezt Ezc Aez Blake ru Fl Adi Hct Wid
attribute [local irreducible] zE zN zO zM yu
theorem Qy:Tryz.prog.concrete 217=true:=by kernel_rfl
theorem Qz:Tryz.prog.concrete 220=true:=by kernel_rfl
def Vn (w:World) (own:Value):ku→Prop
 | .adi k=>∃ b,own=.iface 217 (.pointer (some ⟨b,0,none⟩))∧Vm w b k
 | .hct k=>∃ b,own=.iface 220 (.pointer (some ⟨b,0,none⟩))∧Z5 w b k
 | .aez k=>∃ kp q p,own=.iface 227 (.agg #[.pointer (some ⟨kp,0,none⟩)])∧xH w kp q p k
theorem Vn.later {w w':World} {own:Value} {k:ku} (h:Vn w own k) (hb:Below w.heap.size w w'):Vn w' own k:=by
 cases k with
 | adi k=>obtain ⟨b,h1,h2⟩:=h;exact ⟨b,h1,h2.later hb⟩
 | hct k=>obtain ⟨b,h1,h2⟩:=h;exact ⟨b,h1,h2.later hb⟩
 | aez k=>obtain ⟨kp,q,p,h1,h2⟩:=h;exact ⟨kp,q,p,h1,h2.later hb⟩
theorem Vn.face {w:World} {own:Value} {k:ku} (h:Vn w own k):∃ T x,own=.iface T x:=by
 cases k with
 | adi k=>obtain ⟨b,h1,h2⟩:=h;exact ⟨_,_,h1⟩
 | hct k=>obtain ⟨b,h1,h2⟩:=h;exact ⟨_,_,h1⟩
 | aez k=>obtain ⟨kp,q,p,h1,h2⟩:=h;exact ⟨_,_,h1⟩
def qu (w:World) (cp:Nat) (k:ku):Prop:=∃ v,Vn w v k∧Blk w cp [.int .i64 (k.alg:Int),v] 172
theorem qu.later {w w':World} {cp:Nat} {k:ku} (h:qu w cp k) (hb:Below w.heap.size w w'):qu w' cp k:=by
 obtain ⟨v,h1,h2⟩:=h
 exact ⟨v,h1.later hb,h2.below hb h2.lt⟩
theorem zdu (alg:Int) (q p:Nat) (ao:Option Addr) (n cap:Nat) (b:List UInt8) (w:World) (hb:b.length=n) (hw:ko alg n=0) (hc:n≤cap) (hl:zr w ao (b.map B)) (ht:Tab w q p) (hg:qD w) :
  Calls Tryz.prog 95 #[.pointer (some ⟨q,0,none⟩),.int .i64 alg,.slice ao n cap] w fun e w'=>∃ v,e=.returned (.tuple #[v,.int .i64 0])∧Std w.heap.size [q,p] w' (fun w''=>Vn w'' v (jy alg b))∧Below w.heap.size w w':=by
 rcases Q1 alg hw with ⟨rfl,rfl⟩ | ⟨rfl,h2⟩ | ⟨rfl,h3,h4⟩
 ·have H:=znq (zlb q p ao cap b w hb hc hl ht)
  have hmk:=fun (x:Value) (w:World)=>run_makeInterface (P:=Tryz.prog) (w:=w) 217 x Qy
  clear hb hw hl ht hg
  go_enter Tryz.func95,Tryz.ntmps95
  go_wp2_with fail
  refine H.out.mono ?_
  rintro e w1 ⟨cp,rfl,hup,hbel⟩
  have HU:=znq hup
  have HB:=znq hbel
  clear hup hbel
  go_wp2
  go_ret2
  exact ⟨_,rfl,HU.znr.imp (fun _ h=>⟨_,rfl,h⟩),HB.znr⟩
 ·have H:Calls Tryz.prog 133 #[.pointer (some ⟨q,0,none⟩),.slice ao n cap] w fun e w'=>∃ cp,e=.returned (.tuple #[.pointer (some ⟨cp,0,none⟩),.int .i64 0])∧Std w.heap.size [q,p] w' (fun w''=>Z5 w'' cp (J0 (b.length / 4) (b.length==32) b))∧Below w.heap.size w w':=by
   rcases h2 with rfl | rfl | rfl
   ·rw [hb];exact zle q p ao cap b w ht hb hl
   ·rw [hb];exact zld q p ao cap b w ht hb hl
   ·rw [hb];exact zlc q p ao cap b w ht hb hl
  have H:=znq H
  have hmk:=fun (x:Value) (w:World)=>run_makeInterface (P:=Tryz.prog) (w:=w) 220 x Qz
  clear hb hw hl ht hg h2
  go_enter Tryz.func95,Tryz.ntmps95
  go_wp2_with fail
  refine H.out.mono ?_
  rintro e w1 ⟨cp,rfl,hup,hbel⟩
  have HU:=znq hup
  have HB:=znq hbel
  clear hup hbel
  go_wp2
  go_ret2
  exact ⟨_,rfl,HU.znr.imp (fun _ h=>⟨_,rfl,h⟩),HB.znr⟩
 ·refine (JI q p ao n cap b w hb h3 h4 hc hl ht hg).mono ?_
  rintro e w1 ⟨kp,rfl,hk,hle,hbel⟩
  exact ⟨_,rfl,fun S w'' hS hu=>⟨kp,q,p,rfl,⟨⟨hk.tab.boxes.up hu (hS _ (.inr (by simp))),hk.tab.tab.up hu (hS _ (.inr (by simp)))⟩,hk.fit,hk.blk.up hu (hS _ (.inl hle))⟩⟩,hbel⟩
theorem zgk (alg:Int) (q p:Nat) (ao:Option Addr) (n cap:Nat) (b:List UInt8) (w:World) (hb:b.length=n) (hw:ko alg n=0) (hc:n≤cap) (hl:zr w ao (b.map B)) (ht:Tab w q p) (hg:qD w) :
  Calls Tryz.prog 54 #[.pointer (some ⟨q,0,none⟩),.int .i64 alg,.slice ao n cap] w fun e w'=>∃ cp,e=.returned (.tuple #[.pointer (some ⟨cp,0,none⟩),.int .i64 0])∧Std w.heap.size [q,p] w' (fun w''=>qu w'' cp (jy alg b))∧Below w.heap.size w w':=by
 have H:=znq (zdu alg q p ao n cap b w hb hw hc hl ht hg)
 have HA:=znq (zdt (alg:=alg) (key:=b) (by rw [hb];exact hw))
 clear hb hw hl ht hg
 obtain ⟨k,hkk⟩:∃ k,k=jy alg b:=⟨_,rfl⟩
 rw [← hkk] at H HA ⊢
 clear hkk
 go_enter Tryz.func54,Tryz.ntmps54
 go_wp2_with fail
 refine H.out.mono ?_
 rintro e w1 ⟨v,rfl,hup,hbel⟩
 obtain ⟨T,x,rfl⟩:=hup.self.face
 have HU:=znq hup
 have HB:=znq hbel
 have HZ1:=znq hbel.size
 clear hup hbel
 go_wp2_with (refine zh 172 _ [.int .i64 alg,.iface T x] _ rfl rfl rfl rfl ?_)
 intro w2 hb2 mV
 have HB:=znq (HB.znr.trans (mV.mono HB.znr.size))
 have HU:=znq (show Std w.heap.size [q,p] w2 (fun w''=>qu w'' w1.heap.size k) from fun S w'' hS hu=>⟨_,HU.znr.later mV S w'' hS hu,by rw [HA.znr];exact hb2.up hu (hS _ (.inl HZ1.znr))⟩)
 clear hb2 mV
 go_wp2
 go_ret2
 exact ⟨_,rfl,HU.znr,HB.znr⟩
theorem vH (cp:Nat) (k:ku) (w:World) (hc:qu w cp k):Calls Tryz.prog 102 #[.pointer (some ⟨cp,0,none⟩)] w fun e w'=>e=.returned (.int .i64 (k.least:Int))∧w=w':=by
 obtain ⟨v,h1,h2⟩:=hc
 have hc0:=h2.cell 0 _ rfl
 clear h1 h2
 cases k with
 | adi k =>
  have hc0:w.cell? ⟨cp,0,none⟩=some (.int .i64 1):=hc0
  go_enter Tryz.func102,Tryz.ntmps102
  go_wp2
  go_ret
  exact ⟨rfl,rfl⟩
 | hct k =>
  have hc0:w.cell? ⟨cp,0,none⟩=some (.int .i64 2):=hc0
  go_enter Tryz.func102,Tryz.ntmps102
  go_wp2
  go_ret
  exact ⟨rfl,rfl⟩
 | aez k =>
  have hc0:w.cell? ⟨cp,0,none⟩=some (.int .i64 3):=hc0
  go_enter Tryz.func102,Tryz.ntmps102
  go_wp2
  go_ret
  exact ⟨rfl,rfl⟩
theorem VV (cp:Nat) (k:ku) (ao:Option Addr) (tn tc:Nat) (t:List UInt8) (bo:Option Addr) (n cb:Nat) (m:List UInt8) (w:World) (hk:qu w cp k) (ht:t.length=tn) (ht1:tn≤10000) (htc:tn≤tc) (hlt:zr w ao (t.map B))
  (hn:m.length=n) (h1:k.least≤n) (h31:n≤20000) (hcb:n≤cb) (hl:zr w bo (m.map B)) :
  Calls Tryz.prog 67 #[.pointer (some ⟨cp,0,none⟩),.slice ao tn tc,.slice bo n cb,.bool false] w fun e w'=>∃ v,e=.returned (.tuple #[v,.int .i64 0])∧w'.ownsRow w.heap.size 5 1 v n ((xM k t m false).map B)∧Below w.heap.size w w':=by
 have HL:=znq (vH cp k w hk)
 have d1:decide ((n:Int) < (k.least:Int))=false:=by simp;omega
 obtain ⟨v,hv,hblk⟩:=hk
 have hc1:=hblk.cell 1 _ rfl
 cases k with
 | adi k =>
  obtain ⟨b,rfl,hv⟩:=hv
  have H:=znq (zlg b k ao tn tc t bo n cb m w hv ht ht1 htc hlt hn h1 h31 hcb hl)
  have d1:decide ((n:Int) < 16)=false:=d1
  have HL:Hid (Calls Tryz.prog 102 #[.pointer (some ⟨cp,0,none⟩)] w fun e w'=>e=.returned (.int .i64 16)∧w=w'):=HL
  have HR:=znq (show xM (.adi k) t m false=XK k t m∧True from ⟨rfl,trivial⟩)
  rw [HR.znr.1]
  clear hv hblk ht hlt hn h1 hl HR
  go_enter Tryz.func67,Tryz.ntmps67
  go_wp2_with fail
  refine HL.znr.mono ?_
  rintro e w1 ⟨rfl,rfl⟩
  go_wp2_with fail
  refine H.out.mono ?_
  rintro e w3 ⟨v3,rfl,hown,hbel⟩
  have HO:=znq hown
  have HB:=znq hbel
  clear hown hbel
  go_wp2
  go_ret2
  exact ⟨_,rfl,HO.znr,HB.znr⟩
 | hct k =>
  obtain ⟨b,rfl,hv⟩:=hv
  have H:=znq (zli b k ao tn tc t bo n cb m w hv ht ht1 htc hlt hn h1 h31 hcb hl)
  have d1:decide ((n:Int) < 16)=false:=d1
  have HL:Hid (Calls Tryz.prog 102 #[.pointer (some ⟨cp,0,none⟩)] w fun e w'=>e=.returned (.int .i64 16)∧w=w'):=HL
  have HR:=znq (show xM (.hct k) t m false=Qk k t m∧True from ⟨rfl,trivial⟩)
  rw [HR.znr.1]
  clear hv hblk ht hlt hn h1 hl HR
  go_enter Tryz.func67,Tryz.ntmps67
  go_wp2_with fail
  refine HL.znr.mono ?_
  rintro e w1 ⟨rfl,rfl⟩
  go_wp2_with fail
  refine H.out.mono ?_
  rintro e w3 ⟨v3,rfl,hown,hbel⟩
  have HO:=znq hown
  have HB:=znq hbel
  clear hown hbel
  go_wp2
  go_ret2
  exact ⟨_,rfl,HO.znr,HB.znr⟩
 | aez k =>
  obtain ⟨kp,q,p,rfl,hv⟩:=hv
  have H:=znq (zc2 kp q p k ao tn tc t bo n cb m w hv ht ht1 htc hlt hn h1 h31 hcb hl)
  have d1:decide ((n:Int) < 1)=false:=d1
  have HL:Hid (Calls Tryz.prog 102 #[.pointer (some ⟨cp,0,none⟩)] w fun e w'=>e=.returned (.int .i64 1)∧w=w'):=HL
  have HR:=znq (show xM (.aez k) t m false=tK k [t] m false∧True from ⟨rfl,trivial⟩)
  rw [HR.znr.1]
  clear hv hblk ht hlt hn h1 hl HR
  go_enter Tryz.func67,Tryz.ntmps67
  go_wp2_with fail
  refine HL.znr.mono ?_
  rintro e w1 ⟨rfl,rfl⟩
  go_wp2_with fail
  refine H.out.mono ?_
  rintro e w3 ⟨v3,rfl,hown,hbel⟩
  have HO:=znq hown
  have HB:=znq hbel
  clear hown hbel
  go_wp2
  go_ret2
  exact ⟨_,rfl,HO.znr,HB.znr⟩
theorem za4 (cp:Nat) (k:ku) (ao:Option Addr) (tn tc:Nat) (t:List UInt8) (bo:Option Addr) (n cb:Nat) (m:List UInt8) (w:World) (hk:qu w cp k) (ht:t.length=tn) (ht1:tn≤10000) (htc:tn≤tc) (hlt:zr w ao (t.map B))
  (hn:m.length=n) (h1:k.least≤n) (h31:n≤20000) (hcb:n≤cb) (hl:zr w bo (m.map B)) :
  Calls Tryz.prog 67 #[.pointer (some ⟨cp,0,none⟩),.slice ao tn tc,.slice bo n cb,.bool true] w fun e w'=>∃ v,e=.returned (.tuple #[v,.int .i64 0])∧w'.ownsRow w.heap.size 5 1 v n ((xM k t m true).map B)∧Below w.heap.size w w':=by
 have HL:=znq (vH cp k w hk)
 have d1:decide ((n:Int) < (k.least:Int))=false:=by simp;omega
 obtain ⟨v,hv,hblk⟩:=hk
 have hc1:=hblk.cell 1 _ rfl
 cases k with
 | adi k =>
  obtain ⟨b,rfl,hv⟩:=hv
  have H:=znq (zlh b k ao tn tc t bo n cb m w hv ht ht1 htc hlt hn h1 h31 hcb hl)
  have d1:decide ((n:Int) < 16)=false:=d1
  have HL:Hid (Calls Tryz.prog 102 #[.pointer (some ⟨cp,0,none⟩)] w fun e w'=>e=.returned (.int .i64 16)∧w=w'):=HL
  have HR:=znq (show xM (.adi k) t m true=XL k t m∧True from ⟨rfl,trivial⟩)
  rw [HR.znr.1]
  clear hv hblk ht hlt hn h1 hl HR
  go_enter Tryz.func67,Tryz.ntmps67
  go_wp2_with fail
  refine HL.znr.mono ?_
  rintro e w1 ⟨rfl,rfl⟩
  go_wp2_with fail
  refine H.out.mono ?_
  rintro e w3 ⟨v3,rfl,hown,hbel⟩
  have HO:=znq hown
  have HB:=znq hbel
  clear hown hbel
  go_wp2
  go_ret2
  exact ⟨_,rfl,HO.znr,HB.znr⟩
 | hct k =>
  obtain ⟨b,rfl,hv⟩:=hv
  have H:=znq (zlj b k ao tn tc t bo n cb m w hv ht ht1 htc hlt hn h1 h31 hcb hl)
  have d1:decide ((n:Int) < 16)=false:=d1
  have HL:Hid (Calls Tryz.prog 102 #[.pointer (some ⟨cp,0,none⟩)] w fun e w'=>e=.returned (.int .i64 16)∧w=w'):=HL
  have HR:=znq (show xM (.hct k) t m true=Ql k t m∧True from ⟨rfl,trivial⟩)
  rw [HR.znr.1]
  clear hv hblk ht hlt hn h1 hl HR
  go_enter Tryz.func67,Tryz.ntmps67
  go_wp2_with fail
  refine HL.znr.mono ?_
  rintro e w1 ⟨rfl,rfl⟩
  go_wp2_with fail
  refine H.out.mono ?_
  rintro e w3 ⟨v3,rfl,hown,hbel⟩
  have HO:=znq hown
  have HB:=znq hbel
  clear hown hbel
  go_wp2
  go_ret2
  exact ⟨_,rfl,HO.znr,HB.znr⟩
 | aez k =>
  obtain ⟨kp,q,p,rfl,hv⟩:=hv
  have H:=znq (zc3 kp q p k ao tn tc t bo n cb m w hv ht ht1 htc hlt hn h1 h31 hcb hl)
  have d1:decide ((n:Int) < 1)=false:=d1
  have HL:Hid (Calls Tryz.prog 102 #[.pointer (some ⟨cp,0,none⟩)] w fun e w'=>e=.returned (.int .i64 1)∧w=w'):=HL
  have HR:=znq (show xM (.aez k) t m true=tK k [t] m true∧True from ⟨rfl,trivial⟩)
  rw [HR.znr.1]
  clear hv hblk ht hlt hn h1 hl HR
  go_enter Tryz.func67,Tryz.ntmps67
  go_wp2_with fail
  refine HL.znr.mono ?_
  rintro e w1 ⟨rfl,rfl⟩
  go_wp2_with fail
  refine H.out.mono ?_
  rintro e w3 ⟨v3,rfl,hown,hbel⟩
  have HO:=znq hown
  have HB:=znq hbel
  clear hown hbel
  go_wp2
  go_ret2
  exact ⟨_,rfl,HO.znr,HB.znr⟩
theorem XP (cp:Nat) (k:ku) (ao:Option Addr) (tn tc:Nat) (t:List UInt8) (bo:Option Addr) (n cb:Nat) (m:List UInt8) (back:Bool) (w:World) (hk:qu w cp k) (ht:t.length=tn) (ht1:tn≤10000) (htc:tn≤tc) (hlt:zr w ao (t.map B))
  (hn:m.length=n) (h1:k.least≤n) (h31:n≤20000) (hcb:n≤cb) (hl:zr w bo (m.map B)) :
  Calls Tryz.prog 67 #[.pointer (some ⟨cp,0,none⟩),.slice ao tn tc,.slice bo n cb,.bool back] w fun e w'=>∃ v,e=.returned (.tuple #[v,.int .i64 0])∧w'.ownsRow w.heap.size 5 1 v n ((xM k t m back).map B)∧Below w.heap.size w w':=by
 cases back with
 | false=>exact VV cp k ao tn tc t bo n cb m w hk ht ht1 htc hlt hn h1 h31 hcb hl
 | true=>exact za4 cp k ao tn tc t bo n cb m w hk ht ht1 htc hlt hn h1 h31 hcb hl
end Go.Proofs.YtamdifhibogdiaaGreatDoor
namespace Go.Proofs.YtamdifhibogdiaaGreatDoor
open RowKit Mem Ops Cells Oct Gf Trn Aes Ring Ezk Ezh Ezt Ezc Aez Blake ru Fl Wid
attribute [local irreducible] zE zN zO zM yu
end Go.Proofs.YtamdifhibogdiaaGreatDoor
namespace Go.Proofs.YtamdifhibogdiaaGreatDoor
open RowKit Mem Ops Cells Oct Gf Trn Aes Ring Ezk Ezh Ezt Ezc Aez Blake ru Fl Adi Hct Wid
attribute [local irreducible] zE zN zO zM yu
end Go.Proofs.YtamdifhibogdiaaGreatDoor
namespace Go.Cells
open RowKit Mem
end Go.Cells
namespace Go.Proofs.YtamdifhibogdiaaGreatDoor
open RowKit Mem Ops Cells Oct Gf Trn Aes Ring Ezk Ezh Ezt Ezc Aez Blake ru Fl Adi Hct Wid
attribute [local irreducible] zE zN zO zM yu
theorem ztk (cp:Nat) (k:ku) (ao:Option Addr) (tn tc:Nat) (t:List UInt8) (g off n cb:Nat) (cur:List Value) (m:List UInt8) (back:Bool) (w:World) (hk:qu w cp k) (ht:t.length=tn) (ht1:tn≤10000) (htc:tn≤tc) (hlt:zr w ao (t.map B))
  (hn:m.length=n) (h1:k.least≤n) (h31:n≤20000) (hcb:n≤cb) (hb:Blk w g cur 5) (hcur:(cur.drop off).take n=m.map B) (hcl:off+n≤cur.length) :
  Calls Tryz.prog 99 #[.pointer (some ⟨cp,0,none⟩),.slice ao tn tc,.slice (some ⟨g,off,none⟩) n cb,.bool back] w fun e w'=>e=.returned (.int .i64 0)∧Blk w' g (splice cur off ((xM k t m back).map B)) 5∧zI g w w':=by
 have HL:zr w (some ⟨g,off,none⟩) (m.map B):=by
  have h:=(hb.lies.drop off).take n
  rw [hcur] at h
  simpa [add_eq] using h
 have HT:=znq (XP cp k ao tn tc t (some ⟨g,off,none⟩) n cb m back w hk ht ht1 htc hlt hn h1 h31 hcb HL)
 have HB:=znq hb
 have HGL:=znq hb.lt
 have HCL:=znq hcl
 have HO:=znq (zI.refl g w)
 obtain ⟨y,hy⟩:∃ y,y=xM k t m back:=⟨_,rfl⟩
 have HY:=znq (show xM k t m back=y∧y.length=n from ⟨hy.symm,by rw [hy,q7 _ _ (by rw [hn];exact h1)];exact hn⟩)
 rw [← hy]
 rw [← hy] at HT
 clear hk ht hlt hn h1 HL hb hcur hy hcl
 go_enter Tryz.func99,Tryz.ntmps99
 go_wp2_with fail
 refine HT.znr.mono ?_
 rintro e w1 ⟨v1,rfl,hown,hbel⟩
 obtain ⟨a1,c1,rfl,hc1,_,hl1⟩:=zw hown
 have HL1:=znq hl1
 have HB:=znq (HB.znr.below hbel HGL.znr)
 have HO:=znq (HO.znr.trans (zI.of_below hbel))
 clear hown hl1 hbel
 go_wp2_with (refine HB.znr.za6 off (y.map B) rfl rfl rfl rfl Tryz.underlying22 zl (fun _=>rfl) HL1.znr (by rw [yf,HY.znr.2];exact (Nat.min_self n).symm) (by rw [yf,HY.znr.2];have:=HCL.znr;omega) (zg _) ?_)
 intro w2 hb ho
 have HB:=znq hb
 have HO:=znq (HO.znr.trans (zI.nH ho))
 clear hb ho
 go_wp2
 go_ret
 exact ⟨rfl,HB.znr,HO.znr⟩
end Go.Proofs.YtamdifhibogdiaaGreatDoor
